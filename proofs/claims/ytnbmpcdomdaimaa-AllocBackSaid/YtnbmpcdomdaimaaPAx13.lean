/- What the functions answer, as plain Lean functions, and the walks through them: no condition. Printed by wip/tools/given.py. -/
import Derived.Test.YtnbmpcdomdaimaaPAx0
import Derived.Test.YtnbmpcdomdaimaaPAx3
import Derived.Test.YtnbmpcdomdaimaaPAx6
import Derived.Test.YtnbmpcdomdaimaaPAx9
import Derived.Test.YtnbmpcdomdaimaaSho
namespace Go.Proofs.YtnbmpcdomdaimaaQ.PA
open Go.RowKit Go.Proofs.YtnbmpcdomdaimaaW.PrintWords Go.Proofs.YtnbmpcdomdaimaaW.PrintLast Go.Proofs.YtnbmpcdomdaimaaW.PrintMore
attribute [local go_sem] max2_int min2_int max_two min_two max_three min_three max_four min_four   -- for this text's walks alone
set_option linter.unusedVariables false
set_option linter.unusedSimpArgs false

/-! ### bazaarlaw05_AllocBack: function 10 -/
def bazaarlaw05_AllocBack.j0 : Nat → List (S44) → ByteArray → Bool → Int → Bool → Option (Bool)
  | 0, _, _, _, _, _ => none
  | k + 1, x1, x2, x7, x9, x62 => if x62 = true then (some false) else ((alloc_Parse.f k x2).bind fun bt343 => ((alloc_Chunk.f k bt343.1 bt343.2.1).bind fun bt348 => (if x7 = true then (if ((x9 == 0) == (decide ((x1.length : Int) ≤ 19))) = true then (if bt343.2.2 = 0 then (if bt348.2 = 0 then (some (bt348.1.toList == x2.toList)) else (some false)) else (some true)) else (some false)) else (some false))))
def bazaarlaw05_AllocBack.f (k : Nat) (a0 : Int) (l1 : List (S44)) (a2 : ByteArray) : Option (Bool) := (bazaarlaw05_shown.f).bind fun t330 => (if 0 ≤ (mn (l1.length : Int) 30) then (if (mn (l1.length : Int) 30) ≤ (l1.length : Int) then ((some (l1.take ((mn (l1.length : Int) 30) : Int).toNat : List (S44))).bind fun y331 => (if 0 ≤ (mn (a2.size : Int) 300) then (if (mn (a2.size : Int) 300) ≤ (a2.size : Int) then ((alloc_Chunk.f k a0 y331).bind fun bt335 => ((alloc_Parse.f k bt335.1).bind fun bt337 => (if bt335.2 = 0 then (if bt337.2.2 = 0 then (if bt337.1 = a0 then ((bazaarref05_Same.f k y331 bt337.2.1).bind fun t342 => (if t342 = true then (bazaarlaw05_AllocBack.j0 k y331 (a2.extract 0 ((mn (a2.size : Int) 300) : Int).toNat) t330 bt335.2 (decide ((bt335.1.size : Int) > 237))) else (bazaarlaw05_AllocBack.j0 k y331 (a2.extract 0 ((mn (a2.size : Int) 300) : Int).toNat) t330 bt335.2 true))) else (bazaarlaw05_AllocBack.j0 k y331 (a2.extract 0 ((mn (a2.size : Int) 300) : Int).toNat) t330 bt335.2 true)) else (bazaarlaw05_AllocBack.j0 k y331 (a2.extract 0 ((mn (a2.size : Int) 300) : Int).toNat) t330 bt335.2 true)) else (bazaarlaw05_AllocBack.j0 k y331 (a2.extract 0 ((mn (a2.size : Int) 300) : Int).toNat) t330 bt335.2 false)))) else (none)) else (none))) else (none)) else (none))
theorem bazaarlaw05_AllocBack.mono_l : ∀ k, (∀ y0 y1 y2 y3 y4, LeO (bazaarlaw05_AllocBack.j0 k y0 y1 y2 y3 y4) (bazaarlaw05_AllocBack.j0 (k + 1) y0 y1 y2 y3 y4))
  | 0 => fun _ _ _ _ _ r h => by simp [bazaarlaw05_AllocBack.j0] at h
  | k + 1 => by
    have ih0 := bazaarlaw05_AllocBack.mono_l k
    · intro y0 y1 y2 y3 y4
      unfold bazaarlaw05_AllocBack.j0
      repeat' first
      | (with_reducible exact ih0 _ _ _ _ _)
      | (with_reducible exact alloc_Chunk.mono _ _ _)
      | (with_reducible exact alloc_Parse.mono _ _)
      | (with_reducible exact bazaarref05_Same.mono _ _ _)
      | (with_reducible exact LeO.refl _)
      | (with_reducible exact LeO.none _)
      | (with_reducible refine LeO.ite ?_ ?_)
      | (with_reducible refine LeO.bind ?_ (fun _ => ?_))
      | exact ih0 _ _ _ _ _
      | exact alloc_Chunk.mono _ _ _
      | exact alloc_Parse.mono _ _
      | exact bazaarref05_Same.mono _ _ _
      | exact LeO.none _
      | refine LeO.ite ?_ ?_
      | refine LeO.bind ?_ (fun _ => ?_)
theorem bazaarlaw05_AllocBack.mono : ∀ a0 a1 a2 k, LeO (bazaarlaw05_AllocBack.f k a0 a1 a2) (bazaarlaw05_AllocBack.f (k + 1) a0 a1 a2) := by
  intro a0 a1 a2 k
  have ih0 := bazaarlaw05_AllocBack.mono_l k
  unfold bazaarlaw05_AllocBack.f
  repeat' first
      | (with_reducible exact ih0 _ _ _ _ _)
      | (with_reducible exact alloc_Chunk.mono _ _ _)
      | (with_reducible exact alloc_Parse.mono _ _)
      | (with_reducible exact bazaarref05_Same.mono _ _ _)
      | (with_reducible exact LeO.refl _)
      | (with_reducible exact LeO.none _)
      | (with_reducible refine LeO.ite ?_ ?_)
      | (with_reducible refine LeO.bind ?_ (fun _ => ?_))
      | exact ih0 _ _ _ _ _
      | exact alloc_Chunk.mono _ _ _
      | exact alloc_Parse.mono _ _
      | exact bazaarref05_Same.mono _ _ _
      | exact LeO.none _
      | refine LeO.ite ?_ ?_
      | refine LeO.bind ?_ (fun _ => ?_)
set_option maxHeartbeats 8000000 in
set_option maxRecDepth 100000 in
theorem bazaarlaw05_AllocBack.calls (k : Nat) (a0 : Int) (A1 : Option Addr) (c1 : Nat) (l1 : List (S44)) (a2 : ByteArray) (r : Bool) (w : World) (hr1 : Kd.C k44 w A1 l1.length l1) (hc1 : l1.length ≤ c1) (h : bazaarlaw05_AllocBack.f k a0 l1 a2 = some r) :
    Calls Try.prog 10 #[.int .u32 a0, .slice A1 l1.length c1, .string a2] w fun e w' => e = .returned (.bool r) ∧ Below w.heap.size w w' := by
  have HR1 := Aside0.mk hr1
  have HC1 := Aside0.mk hc1
  clear hr1 hc1
  have HB := Aside0.mk (Below.refl w.heap.size w)
  have H : ((bazaarlaw05_shown.f).bind fun t330 => (if 0 ≤ (mn (l1.length : Int) 30) then (if (mn (l1.length : Int) 30) ≤ (l1.length : Int) then ((some (l1.take ((mn (l1.length : Int) 30) : Int).toNat : List (S44))).bind fun y331 => (if 0 ≤ (mn (a2.size : Int) 300) then (if (mn (a2.size : Int) 300) ≤ (a2.size : Int) then ((alloc_Chunk.f k a0 y331).bind fun bt335 => ((alloc_Parse.f k bt335.1).bind fun bt337 => (if bt335.2 = 0 then (if bt337.2.2 = 0 then (if bt337.1 = a0 then ((bazaarref05_Same.f k y331 bt337.2.1).bind fun t342 => (if t342 = true then (bazaarlaw05_AllocBack.j0 k y331 (a2.extract 0 ((mn (a2.size : Int) 300) : Int).toNat) t330 bt335.2 (decide ((bt335.1.size : Int) > 237))) else (bazaarlaw05_AllocBack.j0 k y331 (a2.extract 0 ((mn (a2.size : Int) 300) : Int).toNat) t330 bt335.2 true))) else (bazaarlaw05_AllocBack.j0 k y331 (a2.extract 0 ((mn (a2.size : Int) 300) : Int).toNat) t330 bt335.2 true)) else (bazaarlaw05_AllocBack.j0 k y331 (a2.extract 0 ((mn (a2.size : Int) 300) : Int).toNat) t330 bt335.2 true)) else (bazaarlaw05_AllocBack.j0 k y331 (a2.extract 0 ((mn (a2.size : Int) 300) : Int).toNat) t330 bt335.2 false)))) else (none)) else (none))) else (none)) else (none))) = some r := h
  clear h
  replace H := Option.bind_eq_some_iff.mp H
  obtain ⟨t330, A40, H⟩ := H
  replace H : (if 0 ≤ (mn (l1.length : Int) 30) then (if (mn (l1.length : Int) 30) ≤ (l1.length : Int) then ((some (l1.take ((mn (l1.length : Int) 30) : Int).toNat : List (S44))).bind fun y331 => (if 0 ≤ (mn (a2.size : Int) 300) then (if (mn (a2.size : Int) 300) ≤ (a2.size : Int) then ((alloc_Chunk.f k a0 y331).bind fun bt335 => ((alloc_Parse.f k bt335.1).bind fun bt337 => (if bt335.2 = 0 then (if bt337.2.2 = 0 then (if bt337.1 = a0 then ((bazaarref05_Same.f k y331 bt337.2.1).bind fun t342 => (if t342 = true then (bazaarlaw05_AllocBack.j0 k y331 (a2.extract 0 ((mn (a2.size : Int) 300) : Int).toNat) t330 bt335.2 (decide ((bt335.1.size : Int) > 237))) else (bazaarlaw05_AllocBack.j0 k y331 (a2.extract 0 ((mn (a2.size : Int) 300) : Int).toNat) t330 bt335.2 true))) else (bazaarlaw05_AllocBack.j0 k y331 (a2.extract 0 ((mn (a2.size : Int) 300) : Int).toNat) t330 bt335.2 true)) else (bazaarlaw05_AllocBack.j0 k y331 (a2.extract 0 ((mn (a2.size : Int) 300) : Int).toNat) t330 bt335.2 true)) else (bazaarlaw05_AllocBack.j0 k y331 (a2.extract 0 ((mn (a2.size : Int) 300) : Int).toNat) t330 bt335.2 false)))) else (none)) else (none))) else (none)) else (none)) = some r := H
  have A4 := Aside0.mk A40
  clear A40
  obtain ⟨ji5, hji5⟩ : ∃ j_ : Int, (mn (l1.length : Int) 30) = j_ := ⟨_, rfl⟩
  replace H : (if 0 ≤ (ji5) then (if (ji5) ≤ (l1.length : Int) then ((some (l1.take ((ji5) : Int).toNat : List (S44))).bind fun y331 => (if 0 ≤ (mn (a2.size : Int) 300) then (if (mn (a2.size : Int) 300) ≤ (a2.size : Int) then ((alloc_Chunk.f k a0 y331).bind fun bt335 => ((alloc_Parse.f k bt335.1).bind fun bt337 => (if bt335.2 = 0 then (if bt337.2.2 = 0 then (if bt337.1 = a0 then ((bazaarref05_Same.f k y331 bt337.2.1).bind fun t342 => (if t342 = true then (bazaarlaw05_AllocBack.j0 k y331 (a2.extract 0 ((mn (a2.size : Int) 300) : Int).toNat) t330 bt335.2 (decide ((bt335.1.size : Int) > 237))) else (bazaarlaw05_AllocBack.j0 k y331 (a2.extract 0 ((mn (a2.size : Int) 300) : Int).toNat) t330 bt335.2 true))) else (bazaarlaw05_AllocBack.j0 k y331 (a2.extract 0 ((mn (a2.size : Int) 300) : Int).toNat) t330 bt335.2 true)) else (bazaarlaw05_AllocBack.j0 k y331 (a2.extract 0 ((mn (a2.size : Int) 300) : Int).toNat) t330 bt335.2 true)) else (bazaarlaw05_AllocBack.j0 k y331 (a2.extract 0 ((mn (a2.size : Int) 300) : Int).toNat) t330 bt335.2 false)))) else (none)) else (none))) else (none)) else (none)) = some r := by first | (rw [hji5] at H; exact H) | (simp only [hji5] at H ⊢; exact H)
  (try rw [hji5] at A4)
  (try (have hji5h : ji5 ≤ 30 := by (rw [← hji5]; unfold mn; (repeat' split) <;> omega)))
  (try (have hji5g : ji5 ≤ 64 := by omega))
  (try (have hji5l : 0 ≤ ji5 := by (rw [← hji5]; unfold mn; (repeat' split) <;> omega)))
  (try (have hji5m : 0 ≤ ji5 := by omega))
  have hji5_ : (if 30 < (l1.length : Int) then 30 else (l1.length : Int)) = ji5 := hji5
  by_cases c6 : 0 ≤ (ji5)
  · rw [if_pos c6] at H
    have c6b0 := eq_true c6
    have c6b1 : decide (0 ≤ (ji5)) = true := decide_eq_true c6
    clear c6
    by_cases c7 : (ji5) ≤ (l1.length : Int)
    · rw [if_pos c7] at H
      have c7b0 := eq_true c7
      have c7b1 : decide ((ji5) ≤ (l1.length : Int)) = true := decide_eq_true c7
      clear c7
      obtain ⟨y331, hy331⟩ : ∃ y_ : List (S44), y_ = (l1.take ((ji5) : Int).toNat) := ⟨_, rfl⟩
      replace H : (if 0 ≤ (mn (a2.size : Int) 300) then (if (mn (a2.size : Int) 300) ≤ (a2.size : Int) then ((alloc_Chunk.f k a0 y331).bind fun bt335 => ((alloc_Parse.f k bt335.1).bind fun bt337 => (if bt335.2 = 0 then (if bt337.2.2 = 0 then (if bt337.1 = a0 then ((bazaarref05_Same.f k y331 bt337.2.1).bind fun t342 => (if t342 = true then (bazaarlaw05_AllocBack.j0 k y331 (a2.extract 0 ((mn (a2.size : Int) 300) : Int).toNat) t330 bt335.2 (decide ((bt335.1.size : Int) > 237))) else (bazaarlaw05_AllocBack.j0 k y331 (a2.extract 0 ((mn (a2.size : Int) 300) : Int).toNat) t330 bt335.2 true))) else (bazaarlaw05_AllocBack.j0 k y331 (a2.extract 0 ((mn (a2.size : Int) 300) : Int).toNat) t330 bt335.2 true)) else (bazaarlaw05_AllocBack.j0 k y331 (a2.extract 0 ((mn (a2.size : Int) 300) : Int).toNat) t330 bt335.2 true)) else (bazaarlaw05_AllocBack.j0 k y331 (a2.extract 0 ((mn (a2.size : Int) 300) : Int).toNat) t330 bt335.2 false)))) else (none)) else (none)) = some r := by first | (rw [hy331]; with_reducible exact H) | (have H2_ := (Option.bind_some _ _).symm.trans H; rw [hy331]; with_reducible exact H2_) | (have H2_ := (Option.bind_some _ _).symm.trans H; with_reducible exact H2_) | with_reducible exact H | (rw [hy331]; exact H) | exact H
      have Ny331 := Aside0.mk hy331
      clear hy331
      obtain ⟨ji8, hji8⟩ : ∃ j_ : Int, (mn (a2.size : Int) 300) = j_ := ⟨_, rfl⟩
      replace H : (if 0 ≤ (ji8) then (if (ji8) ≤ (a2.size : Int) then ((alloc_Chunk.f k a0 y331).bind fun bt335 => ((alloc_Parse.f k bt335.1).bind fun bt337 => (if bt335.2 = 0 then (if bt337.2.2 = 0 then (if bt337.1 = a0 then ((bazaarref05_Same.f k y331 bt337.2.1).bind fun t342 => (if t342 = true then (bazaarlaw05_AllocBack.j0 k y331 (a2.extract 0 ((ji8) : Int).toNat) t330 bt335.2 (decide ((bt335.1.size : Int) > 237))) else (bazaarlaw05_AllocBack.j0 k y331 (a2.extract 0 ((ji8) : Int).toNat) t330 bt335.2 true))) else (bazaarlaw05_AllocBack.j0 k y331 (a2.extract 0 ((ji8) : Int).toNat) t330 bt335.2 true)) else (bazaarlaw05_AllocBack.j0 k y331 (a2.extract 0 ((ji8) : Int).toNat) t330 bt335.2 true)) else (bazaarlaw05_AllocBack.j0 k y331 (a2.extract 0 ((ji8) : Int).toNat) t330 bt335.2 false)))) else (none)) else (none)) = some r := by first | (rw [hji8] at H; exact H) | (simp only [hji8] at H ⊢; exact H)
      (try rw [hji8] at A4)
      (try (have hji8h : ji8 ≤ 300 := by (rw [← hji8]; unfold mn; (repeat' split) <;> omega)))
      (try (have hji8g : ji8 ≤ 64 := by omega))
      (try (have hji8l : 0 ≤ ji8 := by (rw [← hji8]; unfold mn; (repeat' split) <;> omega)))
      (try (have hji8m : 0 ≤ ji8 := by omega))
      have hji8_ : (if 300 < (a2.size : Int) then 300 else (a2.size : Int)) = ji8 := hji8
      by_cases c9 : 0 ≤ (ji8)
      · rw [if_pos c9] at H
        have c9b0 := eq_true c9
        have c9b1 : decide (0 ≤ (ji8)) = true := decide_eq_true c9
        clear c9
        by_cases c10 : (ji8) ≤ (a2.size : Int)
        · rw [if_pos c10] at H
          have c10b0 := eq_true c10
          have c10b1 : decide ((ji8) ≤ (a2.size : Int)) = true := decide_eq_true c10
          clear c10
          replace H := Option.bind_eq_some_iff.mp H
          obtain ⟨⟨t335, t336⟩, A110, H⟩ := H
          replace H : ((alloc_Parse.f k t335).bind fun bt337 => (if t336 = 0 then (if bt337.2.2 = 0 then (if bt337.1 = a0 then ((bazaarref05_Same.f k y331 bt337.2.1).bind fun t342 => (if t342 = true then (bazaarlaw05_AllocBack.j0 k y331 (a2.extract 0 ((ji8) : Int).toNat) t330 t336 (decide ((t335.size : Int) > 237))) else (bazaarlaw05_AllocBack.j0 k y331 (a2.extract 0 ((ji8) : Int).toNat) t330 t336 true))) else (bazaarlaw05_AllocBack.j0 k y331 (a2.extract 0 ((ji8) : Int).toNat) t330 t336 true)) else (bazaarlaw05_AllocBack.j0 k y331 (a2.extract 0 ((ji8) : Int).toNat) t330 t336 true)) else (bazaarlaw05_AllocBack.j0 k y331 (a2.extract 0 ((ji8) : Int).toNat) t330 t336 false))) = some r := H
          have A11 := Aside0.mk A110
          clear A110
          replace H := Option.bind_eq_some_iff.mp H
          obtain ⟨⟨t337, t338, t339⟩, A120, H⟩ := H
          replace H : (if t336 = 0 then (if t339 = 0 then (if t337 = a0 then ((bazaarref05_Same.f k y331 t338).bind fun t342 => (if t342 = true then (bazaarlaw05_AllocBack.j0 k y331 (a2.extract 0 ((ji8) : Int).toNat) t330 t336 (decide ((t335.size : Int) > 237))) else (bazaarlaw05_AllocBack.j0 k y331 (a2.extract 0 ((ji8) : Int).toNat) t330 t336 true))) else (bazaarlaw05_AllocBack.j0 k y331 (a2.extract 0 ((ji8) : Int).toNat) t330 t336 true)) else (bazaarlaw05_AllocBack.j0 k y331 (a2.extract 0 ((ji8) : Int).toNat) t330 t336 true)) else (bazaarlaw05_AllocBack.j0 k y331 (a2.extract 0 ((ji8) : Int).toNat) t330 t336 false)) = some r := H
          have A12 := Aside0.mk A120
          clear A120
          have HC13 := Aside0.mk H
          clear H
          go_enter Try.func10, Try.ntmps10
          go_upto_region 6 with (first | ((with_reducible refine gate_callee (f := 11) rfl ?_); refine goesL_ (some 18) rfl rfl Try.func11 (by kernel_rfl) rfl #[] rfl (by (try simp only [List.map_toArray, List.map_cons, List.map_nil]); first | done | rfl | (simp only [List.length_drop, List.length_take]; rfl)) ?_; (with_reducible refine (bazaarlaw05_shown.calls  t330 _ A4.out).mono ?_); rintro e w14 ⟨rfl, hb⟩; refine ⟨_, rfl, ?_⟩; have n0_ := Aside0.mk (below_step (by repeat (first | (with_reducible first | exact HB.out | apply below_alloc | apply pw_below_drewN | apply below_drew1) | exact HB.out)) hb); clear HB; have HB := n0_; clear n0_; (try clear hb); (try clear hb2); (try clear hk); (try clear hi); have q15 : ((ji5) : Int) ≤ ((l1.length : Int) : Int) := of_decide_eq_true (by first | (with_reducible assumption) | assumption); obtain ⟨i015, hi015, _, hsz15, _⟩ := info_parts info44; have hroom15 : l1.length ≤ c1 := HC1.out; have hC15 : Kd.C k44 _ A1 l1.length l1 := HR1.out; have hcut15 := cut_to (P := Try.prog) 23 44 .i64 Try.underlying23 hi015 A1 l1.length c1 (ji5) (of_decide_eq_true (by first | (with_reducible assumption) | assumption)) q15 hroom15; have hr15 := Kd.C_take (m := ((ji5) : Int).toNat) hC15 (by omega); have hy15 : y331.length = ((ji5) : Int).toNat := (by rw [Ny331.out, List.length_take]; omega); rw [← Ny331.out] at hr15; rw [← hy15] at hcut15; have HR334 := Aside0.mk hr15; have HC334 := Aside0.mk (show y331.length ≤ c1 from by omega); clear hr15 hC15 hroom15 hi015 hsz15; have KY15 := Aside0.mk hy15; clear hy15; replace q15 := eq_true q15) | ((with_reducible refine gate_callee (f := 21) rfl ?_); refine goesL_ (some 32) rfl rfl Try.func21 (by kernel_rfl) rfl #[.int .u32 a0, .slice A1 y331.length c1] rfl (by (try simp only [List.map_toArray, List.map_cons, List.map_nil]); first | done | rfl | (simp only [List.length_drop, List.length_take]; rfl)) ?_; (with_reducible refine (alloc_Chunk.calls k a0 _ _ y331 t335 t336 _ ?side1 ?side2 A11.out).mono ?_); (case side1 => repeat (first | exact (Kd.C_below HR334.out HB.out) | (with_reducible refine Kd.C_alloc ?_ _) | (with_reducible refine Kd.C_drewN ?_ _) | (with_reducible refine Kd.C_drew ?_))); (case side2 => exact HC334.out); rintro e w16 ⟨rfl, hb⟩; refine ⟨_, rfl, ?_⟩; have n0_ := Aside0.mk (below_step (by repeat (first | (with_reducible first | exact HB.out | apply below_alloc | apply pw_below_drewN | apply below_drew1) | exact HB.out)) hb); clear HB; have HB := n0_; clear n0_; (try clear hb); (try clear hb2); (try clear hk); (try clear hi)) | ((with_reducible refine gate_callee (f := 23) rfl ?_); refine goesL_ (some 37) rfl rfl Try.func23 (by kernel_rfl) rfl #[.string t335] rfl (by (try simp only [List.map_toArray, List.map_cons, List.map_nil]); first | done | rfl | (simp only [List.length_drop, List.length_take]; rfl)) ?_; (with_reducible refine (alloc_Parse.calls k t335 t337 t338 t339 _ A12.out).mono ?_); rintro e w17 ⟨v340, rfl, ho0, hb⟩; refine ⟨_, rfl, ?_⟩; have n0_ := Aside0.mk (Kd.R_lower ho0 (below_size (by repeat (first | (with_reducible first | exact HB.out | apply below_alloc | apply pw_below_drewN | apply below_drew1) | exact HB.out)))); have n1_ := Aside0.mk (below_step (by repeat (first | (with_reducible first | exact HB.out | apply below_alloc | apply pw_below_drewN | apply below_drew1) | exact HB.out)) hb); clear HB; have HO341 := n0_; have HB := n1_; clear n0_ n1_; (try clear hb); (try clear hb2); (try clear hk); (try clear hi); (try clear ho0)))
          (try simp only [Act.put, List.setIfInBounds_toArray, List.set_cons_zero, List.set_cons_succ])
          go_cut [62] (fun v62 wc => ∃ (kq : Nat) (x62_12 : Bool), v62 = .bool x62_12 ∧ Aside0 (bazaarlaw05_AllocBack.j0 kq y331 (a2.extract 0 ((ji8) : Int).toNat) t330 t336 x62_12 = some r) ∧ Aside0 (kq ≤ k) ∧ Aside0 (Below w.heap.size w wc))
          case first =>
            have H := HC13.out
            clear HC13
            by_cases c18 : t336 = 0
            · rw [if_pos c18] at H
              have c18b0 : (t336 == 0) = true := beq_iff_eq.mpr c18
              have c18b1 : (t336 != 0) = false := bne_eq_false_iff_eq.mpr c18
              clear c18
              (first | rw [c18b0] | (simp only [i64_w, i32_w]; rw [c18b0]) | skip)
              by_cases c19 : t339 = 0
              · rw [if_pos c19] at H
                have c19b0 : (t339 == 0) = true := beq_iff_eq.mpr c19
                have c19b1 : (t339 != 0) = false := bne_eq_false_iff_eq.mpr c19
                clear c19
                by_cases c20 : t337 = a0
                · rw [if_pos c20] at H
                  have c20b0 : (t337 == a0) = true := beq_iff_eq.mpr c20
                  have c20b1 : (t337 != a0) = false := bne_eq_false_iff_eq.mpr c20
                  clear c20
                  replace H := Option.bind_eq_some_iff.mp H
                  obtain ⟨t342, A210, H⟩ := H
                  replace H : (if t342 = true then (bazaarlaw05_AllocBack.j0 k y331 (a2.extract 0 ((ji8) : Int).toNat) t330 t336 (decide ((t335.size : Int) > 237))) else (bazaarlaw05_AllocBack.j0 k y331 (a2.extract 0 ((ji8) : Int).toNat) t330 t336 true)) = some r := H
                  have A21 := Aside0.mk A210
                  clear A210
                  by_cases c22 : t342 = true
                  · subst c22
                    have H1 : (bazaarlaw05_AllocBack.j0 k y331 (a2.extract 0 ((ji8) : Int).toNat) t330 t336 (decide ((t335.size : Int) > 237))) = some r := by rw [if_pos rfl] at H; exact H
                    clear H
                    have H := H1
                    clear H1
                    have H' := Aside0.mk H
                    clear H
                    obtain ⟨Ao23, co23, eo23⟩ := Kd.R_slice HO341.out
                    subst eo23
                    go_wp2_with (first | (go_at_call 20; (with_reducible refine (bazaarref05_Same.calls k _ _ y331 _ _ t338 true _ ?side1 ?side2 ?side3 ?side4 A21.out).mono ?_); (case side1 => repeat (first | exact (Kd.C_below HR334.out HB.out) | (with_reducible refine Kd.C_alloc ?_ _) | (with_reducible refine Kd.C_drewN ?_ _) | (with_reducible refine Kd.C_drew ?_))); (case side2 => exact HC334.out); (case side3 => repeat (first | exact (Kd.R_reads' HO341.out).2.2 | (with_reducible refine Kd.C_alloc ?_ _) | (with_reducible refine Kd.C_drewN ?_ _) | (with_reducible refine Kd.C_drew ?_))); (case side4 => exact (Kd.R_reads' HO341.out).2.1); rintro e w' ⟨rfl, ⟨nd, rfl⟩⟩))
                    go_meet
                    case rel => exact ⟨_, (decide ((t335.size : Int) > 237)), (by first | rfl | (simp; done) | (simp [*]; done)), H', ⟨by first | omega | exact Nat.le_refl _⟩, ⟨by repeat (first | (with_reducible first | exact HB.out | apply below_alloc | apply pw_below_drewN | apply below_drew1) | exact HB.out)⟩⟩
                  · replace c22 := Bool.eq_false_iff.mpr c22
                    subst c22
                    have H1 : (bazaarlaw05_AllocBack.j0 k y331 (a2.extract 0 ((ji8) : Int).toNat) t330 t336 true) = some r := by rw [if_neg (show ¬ (false = true) by decide)] at H; exact H
                    clear H
                    have H := H1
                    clear H1
                    have H' := Aside0.mk H
                    clear H
                    obtain ⟨Ao24, co24, eo24⟩ := Kd.R_slice HO341.out
                    subst eo24
                    go_wp2_with (first | (go_at_call 20; (with_reducible refine (bazaarref05_Same.calls k _ _ y331 _ _ t338 false _ ?side1 ?side2 ?side3 ?side4 A21.out).mono ?_); (case side1 => repeat (first | exact (Kd.C_below HR334.out HB.out) | (with_reducible refine Kd.C_alloc ?_ _) | (with_reducible refine Kd.C_drewN ?_ _) | (with_reducible refine Kd.C_drew ?_))); (case side2 => exact HC334.out); (case side3 => repeat (first | exact (Kd.R_reads' HO341.out).2.2 | (with_reducible refine Kd.C_alloc ?_ _) | (with_reducible refine Kd.C_drewN ?_ _) | (with_reducible refine Kd.C_drew ?_))); (case side4 => exact (Kd.R_reads' HO341.out).2.1); rintro e w' ⟨rfl, ⟨nd, rfl⟩⟩))
                    go_meet
                    case rel => exact ⟨_, (true), (by first | rfl | (simp; done) | (simp [*]; done)), H', ⟨by first | omega | exact Nat.le_refl _⟩, ⟨by repeat (first | (with_reducible first | exact HB.out | apply below_alloc | apply pw_below_drewN | apply below_drew1) | exact HB.out)⟩⟩
                · rw [if_neg c20] at H
                  have c20b0 : (t337 == a0) = false := beq_eq_false_iff_ne.mpr c20
                  have c20b1 : (t337 != a0) = true := bne_iff_ne.mpr c20
                  have H' := Aside0.mk H
                  clear H
                  go_wp2
                  go_meet
                  case rel => exact ⟨_, (true), (by first | rfl | (simp; done) | (simp [*]; done)), H', ⟨by first | omega | exact Nat.le_refl _⟩, ⟨by repeat (first | (with_reducible first | exact HB.out | apply below_alloc | apply pw_below_drewN | apply below_drew1) | exact HB.out)⟩⟩
              · rw [if_neg c19] at H
                have c19b0 : (t339 == 0) = false := beq_eq_false_iff_ne.mpr c19
                have c19b1 : (t339 != 0) = true := bne_iff_ne.mpr c19
                have H' := Aside0.mk H
                clear H
                go_wp2
                go_meet
                case rel => exact ⟨_, (true), (by first | rfl | (simp; done) | (simp [*]; done)), H', ⟨by first | omega | exact Nat.le_refl _⟩, ⟨by repeat (first | (with_reducible first | exact HB.out | apply below_alloc | apply pw_below_drewN | apply below_drew1) | exact HB.out)⟩⟩
            · rw [if_neg c18] at H
              have c18b0 : (t336 == 0) = false := beq_eq_false_iff_ne.mpr c18
              have c18b1 : (t336 != 0) = true := bne_iff_ne.mpr c18
              (first | rw [c18b0] | (simp only [i64_w, i32_w]; rw [c18b0]) | skip)
              have H' := Aside0.mk H
              clear H
              go_wp2
              go_meet
              case rel => exact ⟨_, (false), (by first | rfl | (simp; done) | (simp [*]; done)), H', ⟨by first | omega | exact Nat.le_refl _⟩, ⟨by repeat (first | (with_reducible first | exact HB.out | apply below_alloc | apply pw_below_drewN | apply below_drew1) | exact HB.out)⟩⟩
          case rest =>
            clear HC13
            try clear c1
            try clear q1
            try clear c2
            try clear p2
            try clear c6
            try clear c6b0
            try clear c6b1
            try clear c7
            try clear c7b0
            try clear c7b1
            try clear c9
            try clear c9b0
            try clear c9b1
            try clear c10
            try clear c10b0
            try clear c10b1
            try clear c11
            try clear q15
            try clear c18
            try clear c18b0
            try clear c18b1
            try clear c19
            try clear c19b0
            try clear c19b1
            try clear c20
            try clear c20b0
            try clear c20b1
            try clear c21
            try clear c22
            try clear c23
            try clear q15
            obtain ⟨kq, x62_12, rfl, HA, HJ12, HB⟩ := hcut
            cases kq with
            | zero => exact absurd HA.out (by simp [bazaarlaw05_AllocBack.j0])
            | succ kj12 =>
              have H := HA.out
              clear HA
              simp only [bazaarlaw05_AllocBack.j0] at H
              by_cases c25 : x62_12 = true
              · subst c25
                have H1 : (some false) = some r := by rw [if_pos rfl] at H; exact H
                clear H
                have H := H1
                clear H1
                obtain rfl := Option.some.inj H
                go_wp2
                go_ret
                exact ⟨by first | rfl | (simp [errW_none, errW_some] <;> rfl) | (simp only [← hji5, ← hji8]; first | rfl | (simp [errW_none, errW_some] <;> rfl)) | (simp [*, errW_none, errW_some] <;> rfl), by repeat (first | (with_reducible first | exact HB.out | apply below_alloc | apply pw_below_drewN | apply below_drew1) | exact HB.out)⟩
              · replace c25 := Bool.eq_false_iff.mpr c25
                subst c25
                have H1 : ((alloc_Parse.f kj12 (a2.extract 0 ((ji8) : Int).toNat)).bind fun bt343 => ((alloc_Chunk.f kj12 bt343.1 bt343.2.1).bind fun bt348 => (if t330 = true then (if ((t336 == 0) == (decide ((y331.length : Int) ≤ 19))) = true then (if bt343.2.2 = 0 then (if bt348.2 = 0 then (some (bt348.1.toList == (a2.extract 0 ((ji8) : Int).toNat).toList)) else (some false)) else (some true)) else (some false)) else (some false)))) = some r := by rw [if_neg (show ¬ (false = true) by decide)] at H; exact H
                clear H
                have H := H1
                clear H1
                replace H := Option.bind_eq_some_iff.mp H
                obtain ⟨⟨t343, t344, t345⟩, A260, H⟩ := H
                replace H : ((alloc_Chunk.f kj12 t343 t344).bind fun bt348 => (if t330 = true then (if ((t336 == 0) == (decide ((y331.length : Int) ≤ 19))) = true then (if t345 = 0 then (if bt348.2 = 0 then (some (bt348.1.toList == (a2.extract 0 ((ji8) : Int).toNat).toList)) else (some false)) else (some true)) else (some false)) else (some false))) = some r := H
                have A26 := Aside0.mk A260
                clear A260
                replace H := Option.bind_eq_some_iff.mp H
                obtain ⟨⟨t348, t349⟩, A270, H⟩ := H
                replace H : (if t330 = true then (if ((t336 == 0) == (decide ((y331.length : Int) ≤ 19))) = true then (if t345 = 0 then (if t349 = 0 then (some (t348.toList == (a2.extract 0 ((ji8) : Int).toNat).toList)) else (some false)) else (some true)) else (some false)) else (some false)) = some r := H
                have A27 := Aside0.mk A270
                clear A270
                by_cases c28 : t330 = true
                · subst c28
                  have H1 : (if ((t336 == 0) == (decide ((y331.length : Int) ≤ 19))) = true then (if t345 = 0 then (if t349 = 0 then (some (t348.toList == (a2.extract 0 ((ji8) : Int).toNat).toList)) else (some false)) else (some true)) else (some false)) = some r := by rw [if_pos rfl] at H; exact H
                  clear H
                  have H := H1
                  clear H1
                  by_cases c29 : ((t336 == 0) == (decide ((y331.length : Int) ≤ 19))) = true
                  · rw [if_pos c29] at H
                    have c29b0 : ((t336 == 0) == (decide ((y331.length : Int) ≤ 19))) = true := c29
                    (try (have c29b1 : decide ((t336 == 0) = (decide ((y331.length : Int) ≤ 19))) = true := by simpa using c29))
                    (try (have c29b2 : ((t336 == 0) == (decide ((y331.length : Int) ≤ 19))) = true := by simpa using c29))
                    clear c29
                    by_cases c30 : t345 = 0
                    · rw [if_pos c30] at H
                      have c30b0 : (t345 == 0) = true := beq_iff_eq.mpr c30
                      have c30b1 : (t345 != 0) = false := bne_eq_false_iff_eq.mpr c30
                      clear c30
                      by_cases c31 : t349 = 0
                      · rw [if_pos c31] at H
                        have c31b0 : (t349 == 0) = true := beq_iff_eq.mpr c31
                        have c31b1 : (t349 != 0) = false := bne_eq_false_iff_eq.mpr c31
                        clear c31
                        obtain rfl := Option.some.inj H
                        go_wp2_with (first | ((with_reducible refine gate_callee (f := 23) rfl ?_); refine goesL_ (some 65) rfl rfl Try.func23 (by kernel_rfl) rfl #[.string (a2.extract 0 ((ji8) : Int).toNat)] rfl (by (try simp only [List.map_toArray, List.map_cons, List.map_nil]); first | done | (simp only [hji8]; rfl) | rfl | (simp only [List.length_drop, List.length_take]; rfl)) ?_; (with_reducible refine (alloc_Parse.calls kj12 (a2.extract 0 ((ji8) : Int).toNat) t343 t344 t345 _ A26.out).mono ?_); rintro e w32 ⟨v346, rfl, ho0, hb⟩; refine ⟨_, rfl, ?_⟩; have n0_ := Aside0.mk (Kd.R_lower ho0 (below_size (by repeat (first | (with_reducible first | exact HB.out | apply below_alloc | apply pw_below_drewN | apply below_drew1) | exact HB.out)))); have n1_ := Aside0.mk (below_step (by repeat (first | (with_reducible first | exact HB.out | apply below_alloc | apply pw_below_drewN | apply below_drew1) | exact HB.out)) hb); clear HB; have HO347 := n0_; have HB := n1_; clear n0_ n1_; (try clear hb); (try clear hb2); (try clear hk); (try clear hi); (try clear ho0); obtain ⟨Ao33, co33, eo33⟩ := Kd.R_slice HO347.out; subst eo33) | ((with_reducible refine gate_callee (f := 21) rfl ?_); refine goesL_ (some 72) rfl rfl Try.func21 (by kernel_rfl) rfl #[.int .u32 t343, .slice Ao33 t344.length co33] rfl (by (try simp only [List.map_toArray, List.map_cons, List.map_nil]); first | done | rfl | (simp only [List.length_drop, List.length_take]; rfl)) ?_; (with_reducible refine (alloc_Chunk.calls kj12 t343 _ _ t344 t348 t349 _ ?side1 ?side2 A27.out).mono ?_); (case side1 => repeat (first | exact (Kd.R_reads' HO347.out).2.2 | (with_reducible refine Kd.C_alloc ?_ _) | (with_reducible refine Kd.C_drewN ?_ _) | (with_reducible refine Kd.C_drew ?_))); (case side2 => exact (Kd.R_reads' HO347.out).2.1); rintro e w34 ⟨rfl, hb⟩; refine ⟨_, rfl, ?_⟩; have n0_ := Aside0.mk (Kd.R_below (by (with_reducible repeat (first | apply Kd.R_alloc | apply Kd.R_drewN | apply Kd.R_drew)); exact HO347.out) hb); have n1_ := Aside0.mk (below_step (by repeat (first | (with_reducible first | exact HB.out | apply below_alloc | apply pw_below_drewN | apply below_drew1) | exact HB.out)) hb); clear HO347; clear HB; have HO347 := n0_; have HB := n1_; clear n0_ n1_; (try clear hb); (try clear hb2); (try clear hk); (try clear hi)))
                        go_ret
                        exact ⟨by first | rfl | (simp [errW_none, errW_some] <;> rfl) | (simp only [← hji5, ← hji8]; first | rfl | (simp [errW_none, errW_some] <;> rfl)) | (simp [*, errW_none, errW_some] <;> rfl), by repeat (first | (with_reducible first | exact HB.out | apply below_alloc | apply pw_below_drewN | apply below_drew1) | exact HB.out)⟩
                      · rw [if_neg c31] at H
                        have c31b0 : (t349 == 0) = false := beq_eq_false_iff_ne.mpr c31
                        have c31b1 : (t349 != 0) = true := bne_iff_ne.mpr c31
                        obtain rfl := Option.some.inj H
                        go_wp2_with (first | ((with_reducible refine gate_callee (f := 23) rfl ?_); refine goesL_ (some 65) rfl rfl Try.func23 (by kernel_rfl) rfl #[.string (a2.extract 0 ((ji8) : Int).toNat)] rfl (by (try simp only [List.map_toArray, List.map_cons, List.map_nil]); first | done | (simp only [hji8]; rfl) | rfl | (simp only [List.length_drop, List.length_take]; rfl)) ?_; (with_reducible refine (alloc_Parse.calls kj12 (a2.extract 0 ((ji8) : Int).toNat) t343 t344 t345 _ A26.out).mono ?_); rintro e w35 ⟨v346, rfl, ho0, hb⟩; refine ⟨_, rfl, ?_⟩; have n0_ := Aside0.mk (Kd.R_lower ho0 (below_size (by repeat (first | (with_reducible first | exact HB.out | apply below_alloc | apply pw_below_drewN | apply below_drew1) | exact HB.out)))); have n1_ := Aside0.mk (below_step (by repeat (first | (with_reducible first | exact HB.out | apply below_alloc | apply pw_below_drewN | apply below_drew1) | exact HB.out)) hb); clear HB; have HO347 := n0_; have HB := n1_; clear n0_ n1_; (try clear hb); (try clear hb2); (try clear hk); (try clear hi); (try clear ho0); obtain ⟨Ao36, co36, eo36⟩ := Kd.R_slice HO347.out; subst eo36) | ((with_reducible refine gate_callee (f := 21) rfl ?_); refine goesL_ (some 72) rfl rfl Try.func21 (by kernel_rfl) rfl #[.int .u32 t343, .slice Ao36 t344.length co36] rfl (by (try simp only [List.map_toArray, List.map_cons, List.map_nil]); first | done | rfl | (simp only [List.length_drop, List.length_take]; rfl)) ?_; (with_reducible refine (alloc_Chunk.calls kj12 t343 _ _ t344 t348 t349 _ ?side1 ?side2 A27.out).mono ?_); (case side1 => repeat (first | exact (Kd.R_reads' HO347.out).2.2 | (with_reducible refine Kd.C_alloc ?_ _) | (with_reducible refine Kd.C_drewN ?_ _) | (with_reducible refine Kd.C_drew ?_))); (case side2 => exact (Kd.R_reads' HO347.out).2.1); rintro e w37 ⟨rfl, hb⟩; refine ⟨_, rfl, ?_⟩; have n0_ := Aside0.mk (Kd.R_below (by (with_reducible repeat (first | apply Kd.R_alloc | apply Kd.R_drewN | apply Kd.R_drew)); exact HO347.out) hb); have n1_ := Aside0.mk (below_step (by repeat (first | (with_reducible first | exact HB.out | apply below_alloc | apply pw_below_drewN | apply below_drew1) | exact HB.out)) hb); clear HO347; clear HB; have HO347 := n0_; have HB := n1_; clear n0_ n1_; (try clear hb); (try clear hb2); (try clear hk); (try clear hi)))
                        go_ret
                        exact ⟨by first | rfl | (simp [errW_none, errW_some] <;> rfl) | (simp only [← hji5, ← hji8]; first | rfl | (simp [errW_none, errW_some] <;> rfl)) | (simp [*, errW_none, errW_some] <;> rfl), by repeat (first | (with_reducible first | exact HB.out | apply below_alloc | apply pw_below_drewN | apply below_drew1) | exact HB.out)⟩
                    · rw [if_neg c30] at H
                      have c30b0 : (t345 == 0) = false := beq_eq_false_iff_ne.mpr c30
                      have c30b1 : (t345 != 0) = true := bne_iff_ne.mpr c30
                      obtain rfl := Option.some.inj H
                      go_wp2_with (first | ((with_reducible refine gate_callee (f := 23) rfl ?_); refine goesL_ (some 65) rfl rfl Try.func23 (by kernel_rfl) rfl #[.string (a2.extract 0 ((ji8) : Int).toNat)] rfl (by (try simp only [List.map_toArray, List.map_cons, List.map_nil]); first | done | (simp only [hji8]; rfl) | rfl | (simp only [List.length_drop, List.length_take]; rfl)) ?_; (with_reducible refine (alloc_Parse.calls kj12 (a2.extract 0 ((ji8) : Int).toNat) t343 t344 t345 _ A26.out).mono ?_); rintro e w38 ⟨v346, rfl, ho0, hb⟩; refine ⟨_, rfl, ?_⟩; have n0_ := Aside0.mk (Kd.R_lower ho0 (below_size (by repeat (first | (with_reducible first | exact HB.out | apply below_alloc | apply pw_below_drewN | apply below_drew1) | exact HB.out)))); have n1_ := Aside0.mk (below_step (by repeat (first | (with_reducible first | exact HB.out | apply below_alloc | apply pw_below_drewN | apply below_drew1) | exact HB.out)) hb); clear HB; have HO347 := n0_; have HB := n1_; clear n0_ n1_; (try clear hb); (try clear hb2); (try clear hk); (try clear hi); (try clear ho0); obtain ⟨Ao39, co39, eo39⟩ := Kd.R_slice HO347.out; subst eo39) | ((with_reducible refine gate_callee (f := 21) rfl ?_); refine goesL_ (some 72) rfl rfl Try.func21 (by kernel_rfl) rfl #[.int .u32 t343, .slice Ao39 t344.length co39] rfl (by (try simp only [List.map_toArray, List.map_cons, List.map_nil]); first | done | rfl | (simp only [List.length_drop, List.length_take]; rfl)) ?_; (with_reducible refine (alloc_Chunk.calls kj12 t343 _ _ t344 t348 t349 _ ?side1 ?side2 A27.out).mono ?_); (case side1 => repeat (first | exact (Kd.R_reads' HO347.out).2.2 | (with_reducible refine Kd.C_alloc ?_ _) | (with_reducible refine Kd.C_drewN ?_ _) | (with_reducible refine Kd.C_drew ?_))); (case side2 => exact (Kd.R_reads' HO347.out).2.1); rintro e w40 ⟨rfl, hb⟩; refine ⟨_, rfl, ?_⟩; have n0_ := Aside0.mk (Kd.R_below (by (with_reducible repeat (first | apply Kd.R_alloc | apply Kd.R_drewN | apply Kd.R_drew)); exact HO347.out) hb); have n1_ := Aside0.mk (below_step (by repeat (first | (with_reducible first | exact HB.out | apply below_alloc | apply pw_below_drewN | apply below_drew1) | exact HB.out)) hb); clear HO347; clear HB; have HO347 := n0_; have HB := n1_; clear n0_ n1_; (try clear hb); (try clear hb2); (try clear hk); (try clear hi)))
                      go_ret
                      exact ⟨by first | rfl | (simp [errW_none, errW_some] <;> rfl) | (simp only [← hji5, ← hji8]; first | rfl | (simp [errW_none, errW_some] <;> rfl)) | (simp [*, errW_none, errW_some] <;> rfl), by repeat (first | (with_reducible first | exact HB.out | apply below_alloc | apply pw_below_drewN | apply below_drew1) | exact HB.out)⟩
                  · rw [if_neg c29] at H
                    have c29b0 : ((t336 == 0) == (decide ((y331.length : Int) ≤ 19))) = false := by simpa using c29
                    (try (have c29b1 : decide ((t336 == 0) = (decide ((y331.length : Int) ≤ 19))) = false := by simpa using c29))
                    (try (have c29b2 : ((t336 == 0) == (decide ((y331.length : Int) ≤ 19))) = false := by simpa using c29))
                    (try (have c29b3 : ¬ ((t336 == 0) = (decide ((y331.length : Int) ≤ 19))) := by simpa using c29))
                    clear c29
                    obtain rfl := Option.some.inj H
                    go_wp2_with (first | ((with_reducible refine gate_callee (f := 23) rfl ?_); refine goesL_ (some 65) rfl rfl Try.func23 (by kernel_rfl) rfl #[.string (a2.extract 0 ((ji8) : Int).toNat)] rfl (by (try simp only [List.map_toArray, List.map_cons, List.map_nil]); first | done | (simp only [hji8]; rfl) | rfl | (simp only [List.length_drop, List.length_take]; rfl)) ?_; (with_reducible refine (alloc_Parse.calls kj12 (a2.extract 0 ((ji8) : Int).toNat) t343 t344 t345 _ A26.out).mono ?_); rintro e w41 ⟨v346, rfl, ho0, hb⟩; refine ⟨_, rfl, ?_⟩; have n0_ := Aside0.mk (Kd.R_lower ho0 (below_size (by repeat (first | (with_reducible first | exact HB.out | apply below_alloc | apply pw_below_drewN | apply below_drew1) | exact HB.out)))); have n1_ := Aside0.mk (below_step (by repeat (first | (with_reducible first | exact HB.out | apply below_alloc | apply pw_below_drewN | apply below_drew1) | exact HB.out)) hb); clear HB; have HO347 := n0_; have HB := n1_; clear n0_ n1_; (try clear hb); (try clear hb2); (try clear hk); (try clear hi); (try clear ho0); obtain ⟨Ao42, co42, eo42⟩ := Kd.R_slice HO347.out; subst eo42) | ((with_reducible refine gate_callee (f := 21) rfl ?_); refine goesL_ (some 72) rfl rfl Try.func21 (by kernel_rfl) rfl #[.int .u32 t343, .slice Ao42 t344.length co42] rfl (by (try simp only [List.map_toArray, List.map_cons, List.map_nil]); first | done | rfl | (simp only [List.length_drop, List.length_take]; rfl)) ?_; (with_reducible refine (alloc_Chunk.calls kj12 t343 _ _ t344 t348 t349 _ ?side1 ?side2 A27.out).mono ?_); (case side1 => repeat (first | exact (Kd.R_reads' HO347.out).2.2 | (with_reducible refine Kd.C_alloc ?_ _) | (with_reducible refine Kd.C_drewN ?_ _) | (with_reducible refine Kd.C_drew ?_))); (case side2 => exact (Kd.R_reads' HO347.out).2.1); rintro e w43 ⟨rfl, hb⟩; refine ⟨_, rfl, ?_⟩; have n0_ := Aside0.mk (Kd.R_below (by (with_reducible repeat (first | apply Kd.R_alloc | apply Kd.R_drewN | apply Kd.R_drew)); exact HO347.out) hb); have n1_ := Aside0.mk (below_step (by repeat (first | (with_reducible first | exact HB.out | apply below_alloc | apply pw_below_drewN | apply below_drew1) | exact HB.out)) hb); clear HO347; clear HB; have HO347 := n0_; have HB := n1_; clear n0_ n1_; (try clear hb); (try clear hb2); (try clear hk); (try clear hi)))
                    go_ret
                    exact ⟨by first | rfl | (simp [errW_none, errW_some] <;> rfl) | (simp only [← hji5, ← hji8]; first | rfl | (simp [errW_none, errW_some] <;> rfl)) | (simp [*, errW_none, errW_some] <;> rfl), by repeat (first | (with_reducible first | exact HB.out | apply below_alloc | apply pw_below_drewN | apply below_drew1) | exact HB.out)⟩
                · replace c28 := Bool.eq_false_iff.mpr c28
                  subst c28
                  have H1 : (some false) = some r := by rw [if_neg (show ¬ (false = true) by decide)] at H; exact H
                  clear H
                  have H := H1
                  clear H1
                  obtain rfl := Option.some.inj H
                  go_wp2_with (first | ((with_reducible refine gate_callee (f := 23) rfl ?_); refine goesL_ (some 65) rfl rfl Try.func23 (by kernel_rfl) rfl #[.string (a2.extract 0 ((ji8) : Int).toNat)] rfl (by (try simp only [List.map_toArray, List.map_cons, List.map_nil]); first | done | (simp only [hji8]; rfl) | rfl | (simp only [List.length_drop, List.length_take]; rfl)) ?_; (with_reducible refine (alloc_Parse.calls kj12 (a2.extract 0 ((ji8) : Int).toNat) t343 t344 t345 _ A26.out).mono ?_); rintro e w44 ⟨v346, rfl, ho0, hb⟩; refine ⟨_, rfl, ?_⟩; have n0_ := Aside0.mk (Kd.R_lower ho0 (below_size (by repeat (first | (with_reducible first | exact HB.out | apply below_alloc | apply pw_below_drewN | apply below_drew1) | exact HB.out)))); have n1_ := Aside0.mk (below_step (by repeat (first | (with_reducible first | exact HB.out | apply below_alloc | apply pw_below_drewN | apply below_drew1) | exact HB.out)) hb); clear HB; have HO347 := n0_; have HB := n1_; clear n0_ n1_; (try clear hb); (try clear hb2); (try clear hk); (try clear hi); (try clear ho0); obtain ⟨Ao45, co45, eo45⟩ := Kd.R_slice HO347.out; subst eo45) | ((with_reducible refine gate_callee (f := 21) rfl ?_); refine goesL_ (some 72) rfl rfl Try.func21 (by kernel_rfl) rfl #[.int .u32 t343, .slice Ao45 t344.length co45] rfl (by (try simp only [List.map_toArray, List.map_cons, List.map_nil]); first | done | rfl | (simp only [List.length_drop, List.length_take]; rfl)) ?_; (with_reducible refine (alloc_Chunk.calls kj12 t343 _ _ t344 t348 t349 _ ?side1 ?side2 A27.out).mono ?_); (case side1 => repeat (first | exact (Kd.R_reads' HO347.out).2.2 | (with_reducible refine Kd.C_alloc ?_ _) | (with_reducible refine Kd.C_drewN ?_ _) | (with_reducible refine Kd.C_drew ?_))); (case side2 => exact (Kd.R_reads' HO347.out).2.1); rintro e w46 ⟨rfl, hb⟩; refine ⟨_, rfl, ?_⟩; have n0_ := Aside0.mk (Kd.R_below (by (with_reducible repeat (first | apply Kd.R_alloc | apply Kd.R_drewN | apply Kd.R_drew)); exact HO347.out) hb); have n1_ := Aside0.mk (below_step (by repeat (first | (with_reducible first | exact HB.out | apply below_alloc | apply pw_below_drewN | apply below_drew1) | exact HB.out)) hb); clear HO347; clear HB; have HO347 := n0_; have HB := n1_; clear n0_ n1_; (try clear hb); (try clear hb2); (try clear hk); (try clear hi)))
                  go_ret
                  exact ⟨by first | rfl | (simp [errW_none, errW_some] <;> rfl) | (simp only [← hji5, ← hji8]; first | rfl | (simp [errW_none, errW_some] <;> rfl)) | (simp [*, errW_none, errW_some] <;> rfl), by repeat (first | (with_reducible first | exact HB.out | apply below_alloc | apply pw_below_drewN | apply below_drew1) | exact HB.out)⟩
        · rw [if_neg c10] at H
          exact absurd H (by simp)
      · rw [if_neg c9] at H
        exact absurd H (by simp)
    · rw [if_neg c7] at H
      exact absurd H (by simp)
  · rw [if_neg c6] at H
    exact absurd H (by simp)

end Go.Proofs.YtnbmpcdomdaimaaQ.PA
