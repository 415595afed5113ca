/- The walk of AllocTakes: where the program's answers are the document's, it answers true. -/
import Derived.Test.YtnbmpcdomdaimaaPAx3
import Derived.Test.YtnbmpcdomdaimaaSho
import Derived.Deep.RegionHeld3
namespace Go.Proofs.YtnbmpcdomdaimaaQ.PA
open Go.RowKit Go.Proofs.YtnbmpcdomdaimaaW.PrintWords Go.Proofs.YtnbmpcdomdaimaaW.PrintLast Go.Proofs.YtnbmpcdomdaimaaW.PrintMore
open Go.Proofs.Ytnbmpcdomdaimaa (cells3 keep_a keep_b far_set)
set_option linter.unusedVariables false
set_option linter.unusedSimpArgs false

/-- A variable in memory that holds an alloc. -/
structure Var (W : World) (b : Nat) (x0 x1 : Int) (A : Option Addr) (l : List S44) (c : Nat) : Prop where
  blk : W.heap[b]? = some (.cells #[.int .u32 x0, .int .u32 x1, .slice A l.length c] 25 (0, 0))
  row : Kd.C k44 W A l.length l
  cap : l.length ≤ c
section
variable {W W' : World} {b : Nat} {x0 x1 : Int} {A : Option Addr} {l : List S44} {c : Nat}
theorem Var.below (h : Var W b x0 x1 A l c) (hb : Below W.heap.size W W') : Var W' b x0 x1 A l c := ⟨keep_b h.blk hb, Kd.C_below h.row hb, h.cap⟩
theorem Var.cells (h : Var W b x0 x1 A l c) : W.cell? ⟨b, 0, none⟩ = some (.int .u32 x0) ∧ W.cell? ⟨b, 1, none⟩ = some (.int .u32 x1) ∧ W.cell? ⟨b, 2, none⟩ = some (.slice A l.length c) := cells3 h.blk
theorem Var.new (hr : Kd.C k44 W A l.length l) (hc : l.length ≤ c) : Var (W.alloc (.cells #[.int .u32 x0, .int .u32 x1, .slice A l.length c] 25)) W.heap.size x0 x1 A l c :=
  ⟨heap_alloc_new W _, Kd.C_below hr ((Below.refl _ W).alloc (Nat.le_refl _) _), hc⟩
theorem Var.lt (h : Var W b x0 x1 A l c) : b < W.heap.size := (Array.getElem?_eq_some_iff.1 h.blk).1
end

/-- What a call answers: a row of its own, as it is read. -/
theorem own_reads {W w : World} {v : Value} {l : List S44} (h : Kd.R k44 44 W w.heap.size (fun _ => True) v l) : ∃ A c, v = .slice A l.length c ∧ l.length ≤ c ∧ Kd.C k44 W A l.length l ∧ ∀ W' : World, (∀ k, w.heap.size ≤ k → W'.heap[k]? = W.heap[k]?) → Kd.C k44 W' A l.length l := by
  obtain ⟨A, c, rfl, hc, hC⟩ := Kd.R_reads h
  refine ⟨A, c, rfl, hc, hC, fun W' hb => ?_⟩
  have h2 := Kd.R_move (w1 := W') (Kd.R_bound h) (fun k hk => hb k hk.2.1)
  obtain ⟨A', c', e, _, hC'⟩ := Kd.R_reads h2
  injection e with e
  rw [e]
  exact hC'

set_option maxHeartbeats 2000000 in
set_option maxRecDepth 100000 in
theorem takes_any (k a0 : Nat) (a1 : Int) (A : Option Addr) (c : Nat) (L0 L : List S44) (o p t : Int) (R : Bool) (x0 : Int) (r1 r2 : Int) (r3 : List S44) (r4 r5 q1 q2 : Int) (q3 : List S44) (q4 : Int) (w : World) (hr : Kd.C k44 w A L0.length L0) (hc : L0.length ≤ c)
    (hx0 : (a0 : Int) = x0) (hcut : bazaarlaw05_cut.f x0 a1 L0 = some (x0, a1, L)) (hR : alloc_Right.f x0 a1 L = some R) (hR' : bazaarref05_Right.f k x0 a1 L = some R)
    (hT : alloc_Take.f x0 a1 L o = some (r1, r2, r3, r4, r5)) (hT' : bazaarref05_Take.f k x0 a1 L o = some (r1, r2, r3, r4, r5)) (hG : alloc_Give.f x0 a1 L p t = some (q1, q2, q3, q4)) (hG' : bazaarref05_Give.f k x0 a1 L p t = some (q1, q2, q3, q4))
    (hs1 : bazaarlaw05_same.f k r1 r2 r3 r1 r2 r3 = some true) (hs2 : bazaarlaw05_same.f k q1 q2 q3 q1 q2 q3 = some true) :
    Calls Try.prog 3 #[.agg #[.int .u32 x0, .int .u32 a1, .slice A L0.length c], .int .u64 o, .int .u32 p, .int .u64 t] w fun e w' => e = .returned (.bool true) ∧ Below w.heap.size w w' := by
  clear hx0
  have HA := Lib.hid (And.intro hcut (And.intro hR (And.intro hR' (And.intro hT (And.intro hT' (And.intro hG (And.intro hG' (And.intro hs1 hs2))))))))
  clear hcut hR hR' hT hT' hG hG' hs1 hs2
  have V0 : Var (w.alloc (.cells #[.int .u32 x0, .int .u32 a1, .slice A L0.length c] 25)) w.heap.size x0 a1 A L0 c := Var.new hr hc
  have HV0 := Lib.hid V0
  clear V0 hr hc
  go_enter Try.func3, Try.ntmps3
  go_wp2_with fail
  refine (bazaarlaw05_shown.calls true _ rfl).mono ?_
  rintro e W1 ⟨rfl, hb⟩
  have HV1 := Lib.hid (HV0.out.below hb)
  have HB1 := Lib.hid (((Below.refl _ w).alloc (Nat.le_refl _) _).trans (hb.mono (by simp)))
  clear hb HV0
  obtain ⟨c0, c1, c2⟩ := HV1.out.cells
  go_wp2_with fail
  refine (bazaarlaw05_cut.calls x0 a1 A c L0 _ _ _ _ HV1.out.row HV1.out.cap HA.out.1).mono ?_
  rintro e W2 ⟨v2, rfl, hR2, hb⟩
  obtain ⟨A2, n2, rfl, hn2, hC2, hC2'⟩ := own_reads hR2
  have hlt := HV1.out.lt
  have hblk : (((W2.setCell ⟨w.heap.size, 0, none⟩ (.int .u32 x0)).setCell ⟨w.heap.size, 1, none⟩ (.int .u32 a1)).setCell ⟨w.heap.size, 2, none⟩ (.slice A2 L.length n2)).heap[w.heap.size]? = some (.cells #[.int .u32 x0, .int .u32 a1, .slice A2 L.length n2] 25 (0, 0)) := by
    rw [blk_set (blk_set (blk_set (keep_b HV1.out.blk hb) 0 (.int .u32 x0)) 1 (.int .u32 a1)) 2 (.slice A2 L.length n2)]
    simp
  have hC3 := hC2' (((W2.setCell ⟨w.heap.size, 0, none⟩ (.int .u32 x0)).setCell ⟨w.heap.size, 1, none⟩ (.int .u32 a1)).setCell ⟨w.heap.size, 2, none⟩ (.slice A2 L.length n2)) (fun k hk => by
    rw [Below.heap_setCell _ _ _ _ (by simp; omega), Below.heap_setCell _ _ _ _ (by simp; omega), Below.heap_setCell _ _ _ _ (by simp; omega)])
  have HB2 := HB1.out.trans (hb.mono HB1.out.size)
  have hb3 : Below w.heap.size w (((W2.setCell ⟨w.heap.size, 0, none⟩ (.int .u32 x0)).setCell ⟨w.heap.size, 1, none⟩ (.int .u32 a1)).setCell ⟨w.heap.size, 2, none⟩ (.slice A2 L.length n2)) :=
    ((HB2.setCell (p := ⟨w.heap.size, 0, none⟩) (Nat.le_refl _) _).setCell (p := ⟨w.heap.size, 1, none⟩) (Nat.le_refl _) _).setCell (p := ⟨w.heap.size, 2, none⟩) (Nat.le_refl _) _
  have blk2 := keep_b HV1.out.blk hb
  obtain ⟨e0, e1, e2⟩ := cells3 blk2
  have f0 : ∀ i, W2.frozen? ⟨w.heap.size, i, none⟩ = false := blk_frozen blk2
  have H3 := Lib.hid (And.intro (Var.mk hblk hC3 hn2) hb3)
  clear hblk hC3 hb3 hn2 hC2 hC2' hR2 hb HB2 blk2 c0 c1 c2 hlt
  go_wp2_with fail
  obtain ⟨W3, hW3⟩ : ∃ W3, ((W2.setCell ⟨w.heap.size, 0, none⟩ (.int .u32 x0)).setCell ⟨w.heap.size, 1, none⟩ (.int .u32 a1)).setCell ⟨w.heap.size, 2, none⟩ (.slice A2 L.length n2) = W3 := ⟨_, rfl⟩
  rw [hW3] at H3 ⊢
  clear hW3 e0 e1 e2 f0
  have HV3 := Lib.hid H3.out.1
  have HB3 := Lib.hid H3.out.2
  clear H3 HV1 HB1
  refine (alloc_Take.calls x0 a1 A2 n2 L o _ _ _ _ _ _ HV3.out.row HV3.out.cap HA.out.2.2.2.1).mono ?_
  rintro e W4 ⟨v4, rfl, hR4, hb⟩
  obtain ⟨A4, n4, rfl, hn4, hC4, _⟩ := own_reads hR4
  have HV4 := Lib.hid (HV3.out.below (hb.trans ((Below.refl _ W4).alloc hb.size (.cells #[.int .u32 r1, .int .u32 r2, .slice A4 r3.length n4] 25))))
  have HX4 := Lib.hid (Var.new (x0 := r1) (x1 := r2) hC4 hn4)
  have HB4 := Lib.hid (HB3.out.trans ((hb.trans ((Below.refl _ W4).alloc hb.size (.cells #[.int .u32 r1, .int .u32 r2, .slice A4 r3.length n4] 25))).mono HB3.out.size))
  clear hb hR4 hC4 hn4 HV3 HB3
  obtain ⟨c0, c1, c2⟩ := HV4.out.cells
  go_wp2_with fail
  obtain ⟨b10, hb10⟩ : ∃ b10, W4.heap.size = b10 := ⟨_, rfl⟩
  obtain ⟨W5, hW5⟩ : ∃ W5, W4.alloc (.cells #[.int .u32 r1, .int .u32 r2, .slice A4 r3.length n4] 25) = W5 := ⟨_, rfl⟩
  rw [hW5] at HV4 HX4 HB4 ⊢
  rw [hb10] at HX4 ⊢
  clear hW5 hb10 c0 c1 c2
  refine (bazaarref05_Take.calls k x0 a1 A2 n2 L o _ _ _ _ _ _ HV4.out.row HV4.out.cap HA.out.2.2.2.2.1).mono ?_
  rintro e W6 ⟨v6, rfl, hR6, hb⟩
  obtain ⟨A6, n6, rfl, hn6, hC6, _⟩ := own_reads hR6
  have hb' := hb.trans ((Below.refl _ W6).alloc hb.size (.cells #[.int .u32 r1, .int .u32 r2, .slice A6 r3.length n6] 25))
  have HV6 := Lib.hid (HV4.out.below hb')
  have HX6 := Lib.hid (HX4.out.below hb')
  have HY6 := Lib.hid (Var.new (x0 := r1) (x1 := r2) hC6 hn6)
  have HB6 := Lib.hid (HB4.out.trans (hb'.mono HB4.out.size))
  clear hb hb' hR6 hC6 hn6 HV4 HX4 HB4
  obtain ⟨c0, c1, c2⟩ := HV6.out.cells
  go_wp2_with fail
  obtain ⟨b13, hb13⟩ : ∃ b13, W6.heap.size = b13 := ⟨_, rfl⟩
  obtain ⟨W7, hW7⟩ : ∃ W7, W6.alloc (.cells #[.int .u32 r1, .int .u32 r2, .slice A6 r3.length n6] 25) = W7 := ⟨_, rfl⟩
  rw [hW7] at HV6 HX6 HY6 HB6 ⊢
  rw [hb13] at HY6 ⊢
  clear hW7 hb13 c0 c1 c2
  refine (alloc_Give.calls x0 a1 A2 n2 L p t _ _ _ _ _ HV6.out.row HV6.out.cap HA.out.2.2.2.2.2.1).mono ?_
  rintro e W8 ⟨v8, rfl, hR8, hb⟩
  obtain ⟨A8, n8, rfl, hn8, hC8, _⟩ := own_reads hR8
  have hb' := hb.trans ((Below.refl _ W8).alloc hb.size (.cells #[.int .u32 q1, .int .u32 q2, .slice A8 q3.length n8] 25))
  have HV8 := Lib.hid (HV6.out.below hb')
  have HX8 := Lib.hid (HX6.out.below hb')
  have HY8 := Lib.hid (HY6.out.below hb')
  have HZ8 := Lib.hid (Var.new (x0 := q1) (x1 := q2) hC8 hn8)
  have HB8 := Lib.hid (HB6.out.trans (hb'.mono HB6.out.size))
  clear hb hb' hR8 hC8 hn8 HV6 HX6 HB6 HY6
  obtain ⟨c0, c1, c2⟩ := HV8.out.cells
  go_wp2_with fail
  obtain ⟨b16, hb16⟩ : ∃ b16, W8.heap.size = b16 := ⟨_, rfl⟩
  obtain ⟨W9, hW9⟩ : ∃ W9, W8.alloc (.cells #[.int .u32 q1, .int .u32 q2, .slice A8 q3.length n8] 25) = W9 := ⟨_, rfl⟩
  rw [hW9] at HV8 HX8 HY8 HZ8 HB8 ⊢
  rw [hb16] at HZ8 ⊢
  clear hW9 hb16 c0 c1 c2
  refine (bazaarref05_Give.calls k x0 a1 A2 n2 L p t _ _ _ _ _ HV8.out.row HV8.out.cap HA.out.2.2.2.2.2.2.1).mono ?_
  rintro e W10 ⟨v10, rfl, hR10, hb⟩
  obtain ⟨A10, n10, rfl, hn10, hC10, _⟩ := own_reads hR10
  have hb' := hb.trans ((Below.refl _ W10).alloc hb.size (.cells #[.int .u32 q1, .int .u32 q2, .slice A10 q3.length n10] 25))
  have HV10 := Lib.hid (HV8.out.below hb')
  have HX10 := Lib.hid (HX8.out.below hb')
  have HY10 := Lib.hid (HY8.out.below hb')
  have HZ10 := Lib.hid (HZ8.out.below hb')
  have HQ10 := Lib.hid (Var.new (x0 := q1) (x1 := q2) hC10 hn10)
  have HB10 := Lib.hid (HB8.out.trans (hb'.mono HB8.out.size))
  clear hb hb' hR10 hC10 hn10 HV8 HX8 HB8 HY8 HZ8
  go_wp2_with fail
  obtain ⟨b18, hb18⟩ : ∃ b18, W10.heap.size = b18 := ⟨_, rfl⟩
  obtain ⟨W11, hW11⟩ : ∃ W11, W10.alloc (.cells #[.int .u32 q1, .int .u32 q2, .slice A10 q3.length n10] 25) = W11 := ⟨_, rfl⟩
  rw [hW11] at HV10 HX10 HY10 HZ10 HQ10 HB10 ⊢
  rw [hb18] at HQ10 ⊢
  clear hW11 hb18
  have HB : Hid (Below W11.heap.size W11 W11.drew) := Lib.hid (Below.drew (Below.refl _ _))
  go_region_held3 (fun W => (W.cell? ⟨w.heap.size, 0, none⟩ = some (.int .u32 x0) ∧ W.cell? ⟨w.heap.size, 1, none⟩ = some (.int .u32 a1) ∧ W.cell? ⟨w.heap.size, 2, none⟩ = some (.slice A2 L.length n2)) ∧ (W.cell? ⟨b10, 0, none⟩ = some (.int .u32 r1) ∧ W.cell? ⟨b10, 1, none⟩ = some (.int .u32 r2) ∧ W.cell? ⟨b10, 2, none⟩ = some (.slice A4 r3.length n4)) ∧ (W.cell? ⟨b13, 0, none⟩ = some (.int .u32 r1) ∧ W.cell? ⟨b13, 1, none⟩ = some (.int .u32 r2) ∧ W.cell? ⟨b13, 2, none⟩ = some (.slice A6 r3.length n6)) ∧ (W.cell? ⟨b16, 0, none⟩ = some (.int .u32 q1) ∧ W.cell? ⟨b16, 1, none⟩ = some (.int .u32 q2) ∧ W.cell? ⟨b16, 2, none⟩ = some (.slice A8 q3.length n8)) ∧ (W.cell? ⟨b18, 0, none⟩ = some (.int .u32 q1) ∧ W.cell? ⟨b18, 1, none⟩ = some (.int .u32 q2) ∧ W.cell? ⟨b18, 2, none⟩ = some (.slice A10 q3.length n10)))
    (exact ⟨(HV10.out.below HB.out).cells, (HX10.out.below HB.out).cells, (HY10.out.below HB.out).cells, (HZ10.out.below HB.out).cells, (HQ10.out.below HB.out).cells⟩)
    (first
      | (go_at_call 17; with_reducible refine (alloc_Right.calls x0 a1 A2 n2 L R _ (HV10.out.below HB.out).row HV10.out.cap HA.out.2.1).mono ?_; rintro e w' ⟨rfl, hb⟩; have HB' := Lib.hid (HB.out.trans (hb.mono HB.out.size)); clear HB hb; have HB := HB'; clear HB')
      | (go_at_call 18; with_reducible refine (bazaarref05_Right.calls k x0 a1 A2 n2 L R _ (HV10.out.below HB.out).row HV10.out.cap HA.out.2.2.1).mono ?_; rintro e w' ⟨rfl, hb⟩; have HB' := Lib.hid (HB.out.trans (hb.mono HB.out.size)); clear HB hb; have HB := HB'; clear HB')
      | (go_at_call 19; with_reducible refine (bazaarlaw05_same.calls k r1 r2 A4 n4 r3 r1 r2 A6 n6 r3 true _ (HX10.out.below HB.out).row HX10.out.cap (HY10.out.below HB.out).row HY10.out.cap HA.out.2.2.2.2.2.2.2.1).mono ?_; rintro e w' ⟨rfl, hb⟩; have HB' := Lib.hid (HB.out.trans (hb.mono HB.out.size)); clear HB hb; have HB := HB'; clear HB')
      | (go_at_call 19; with_reducible refine (bazaarlaw05_same.calls k q1 q2 A8 n8 q3 q1 q2 A10 n10 q3 true _ (HZ10.out.below HB.out).row HZ10.out.cap (HQ10.out.below HB.out).row HQ10.out.cap HA.out.2.2.2.2.2.2.2.2).mono ?_; rintro e w' ⟨rfl, hb⟩; have HB' := Lib.hid (HB.out.trans (hb.mono HB.out.size)); clear HB hb; have HB := HB'; clear HB'))
  all_goals (
    go_wp2
    go_ret
    exact ⟨by simp, HB10.out.trans (HB.out.mono HB10.out.size)⟩)
end Go.Proofs.YtnbmpcdomdaimaaQ.PA
