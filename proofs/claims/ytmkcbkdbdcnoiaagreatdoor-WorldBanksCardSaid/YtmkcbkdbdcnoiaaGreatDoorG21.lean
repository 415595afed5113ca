/- Package world: buy. Package world: the deeds. -/
import Derived.Test.YtmkcbkdbdcnoiaaGreatDoorG17
import Derived.Test.YtmkcbkdbdcnoiaaGreatDoorG18
import Derived.Test.YtmkcbkdbdcnoiaaGreatDoorG19
import Derived.Test.YtmkcbkdbdcnoiaaGreatDoorG20
namespace Go.Proofs.YtmkcbkdbdcnoiaaGreatDoor
open Go.RowKit
set_option linter.unusedVariables false
set_option linter.unusedSimpArgs false

theorem DK.new2 {B pl pw : Nat} {L : List (Nat × Obj)} {R : List (Value × List Stk)} {l : List Par} {c : Cmd} {a : Ans} {w V : World} (h : DK B pl pw L R l c a w V) (cs ds : Array Value) (t u : TypeId) (ht : (t == 44) = false) (hu : (u == 44) = false) :
    DK B pl pw ((V.heap.size + 1, .cells ds u (0, 0)) :: (V.heap.size, .cells cs t (0, 0)) :: L) R l c a w ((V.alloc (.cells cs t)).alloc (.cells ds u)) := by
  have := (h.new cs t ht).new ds u hu
  simp only [World.size_alloc] at this
  exact this
theorem sBuy_length (a b : Acc) (l : List Stk) (m : Sl) : (sBuy a b l m).2.2.1.length ≤ l.length + 1 := by
  have h := sCancel_length l m
  unfold sBuy
  split <;> (try split) <;> (try split) <;> simp <;> omega
/-- What buying comes to. -/
def byF (l : List Par) (c : Cmd) : List Par × Int :=
  if (saF l c false).2.2 = 0 then
    if (sBuy (acF l c.a).1 (acF l (saF l c false).1.1).1 (goF l c.a) (saF l c false).1).2.2.2 = 0 then
      (del (sgF (saA (saA l c.a (sBuy (acF l c.a).1 (acF l (saF l c false).1.1).1 (goF l c.a) (saF l c false).1).1) (saF l c false).1.1 (sBuy (acF l c.a).1 (acF l (saF l c false).1.1).1 (goF l c.a) (saF l c false).1).2.1) c.a (sBuy (acF l c.a).1 (acF l (saF l c false).1.1).1 (goF l c.a) (saF l c false).1).2.2.1 (saF l c false).1.2.1) (saF l c false).2.1, 0)
    else (l, (sBuy (acF l c.a).1 (acF l (saF l c false).1.1).1 (goF l c.a) (saF l c false).1).2.2.2)
  else (l, (saF l c false).2.2)

set_option maxHeartbeats 8000000 in
set_option maxRecDepth 100000 in
theorem wbuy_any (B pl pw n : Nat) (l : List Par) (c : Cmd) (a : Ans) (w : World) (hW : Wk B pl pw l c a w) (hO : Ok n l) (hn : n < 99990) (hc : CmdOk c) :
    Calls Tryz.prog 59 #[.pointer (some ⟨pw, 0, none⟩)] w fun e w' => DP B pl pw c ((byF l c).1, a, (byF l c).2) w e w' := by
  obtain ⟨R, hR⟩ : ∃ R, byF l c = R := ⟨_, rfl⟩
  rw [hR]
  unfold byF at hR
  have hI := fun V (h : Wk B pl pw l c a V) => wsale_any B pl pw n l c a false V h hO (by omega) hc
  have hsr := saF_rng l c false
  generalize saF l c false = x at hI hR hsr
  obtain ⟨m, k, xe⟩ := x
  dsimp only at hR hsr
  have hA := fun V (h : Wk B pl pw l c a V) => waccount_any B pl pw n l c a c.a V h hO (by omega) hc.a
  generalize (acF l c.a).2 = ae at hA
  generalize (acF l c.a).1 = z at hA hR
  have hB := fun V (h : Wk B pl pw l c a V) => waccount_any B pl pw n l c a m.1 V h hO (by omega) hsr.1
  generalize (acF l m.1).2 = be at hB
  generalize (acF l m.1).1 = u at hB hR
  have hG := fun V (h : Wk B pl pw l c a V) => wgoods_any B pl pw n l c a c.a V h hO (by omega) hc.a
  have hgl := goF_len l c.a
  generalize goF l c.a = g at hG hgl hR
  have hT := fun V v (h0 : Sees V v g.length 2 (stks g)) (h2 : Glob V) => Go.Proofs.YtmkcbkdbdcnoiaaGreatDoor.buy_any z u g m v V h0 (by omega) h2
  have htl := sBuy_length z u g m
  generalize sBuy z u g m = t at hT htl hR
  obtain ⟨⟨r1, r2⟩, ⟨s1, s2⟩, t, te⟩ := t
  obtain ⟨z1, z2⟩ := z
  obtain ⟨u1, u2⟩ := u
  obtain ⟨m1, m2, m3, m4⟩ := m
  dsimp only at hR hsr htl
  have hZ := fun V (h : Wk B pl pw l c a V) => wsetAccount2 B pl pw n l c a c.a (r1, r2) V h hO (by omega) hc.a
  have hO1 := saA_ok hO c.a (r1, r2)
  generalize saA l c.a (r1, r2) = L0 at hZ hO1 hR
  have hY := fun V (h : Wk B pl pw L0 c a V) => wsetAccount2 B pl pw (n + 1) L0 c a m1 (s1, s2) V h hO1 (by omega) hsr.1
  have hO2 := saA_ok hO1 m1 (s1, s2)
  generalize saA L0 m1 (s1, s2) = L1 at hY hO2 hR
  have hS := fun V v (h : Wk B pl pw L1 c a V) (hv : Sees V v t.length 2 (stks t)) => wsetGoods2 B pl pw (n + 1 + 1) L1 c a c.a m2 t v V h hO2 (by omega) hc.a hsr.2 hv (by omega)
  have hO3 := sgF_ok hO2 c.a t m2
  generalize sgF L1 c.a t m2 = L2 at hS hO3 hR
  have hX := fun V (h : Wk B pl pw L2 c a V) => wdel_call (k := k) h hO3 (by omega)
  generalize del L2 k = L3 at hX hR
  unfold slv sv at hI
  unfold BuPost at hT
  unfold accv at hA hB hT hZ hY
  unfold slv at hT
  unfold sv at hX
  dsimp only at hI hA hB hT hZ hY
  have hm := m_del
  have KI := Lib.hid hI
  have KA := Lib.hid hA
  have KB := Lib.hid hB
  have KG := Lib.hid hG
  have KT := Lib.hid hT
  have KZ := Lib.hid hZ
  have KY := Lib.hid hY
  have KS := Lib.hid hS
  have KX := Lib.hid hX
  have HR := Lib.hid hR
  have HD := Lib.hid (DK.start hW)
  clear hI hA hB hG hT hZ hY hS hX hR hO hO1 hO2 hO3 hW hsr htl hgl
  go_enter Tryz.func59, Tryz.ntmps59
  go_wp2_with fail
  refine (KI.out _ HD.out.wk).mono ?_
  rintro e V1 ⟨rfl, hb⟩
  have HD' := Lib.hid (HD.out.read hb); clear HD hb; have HD := HD'; clear HD'
  obtain ⟨b3, hb3⟩ : ∃ b3, V1.heap.size = b3 := ⟨_, rfl⟩
  obtain ⟨W3, hW3⟩ : ∃ W3, V1.alloc (.cells #[.int .u32 m1, .int .u16 m2, .int .i64 m3, .int .i64 m4] 68) = W3 := ⟨_, rfl⟩
  have HD' : Hid (DK B pl pw [(b3, .cells #[.int .u32 m1, .int .u16 m2, .int .i64 m3, .int .i64 m4] 68 (0, 0))] [] l c a w W3) := Lib.hid (by rw [← hW3, ← hb3]; exact HD.out.new _ 68 rfl)
  clear HD; have HD := HD'; clear HD'
  by_cases hz : xe = 0
  · subst hz
    have hR := HR.out
    rw [if_pos rfl] at hR
    clear HR
    have HR := Lib.hid hR
    clear hR
    have r2 : W3.cell? ⟨pw, 2, none⟩ = some (.int .u32 c.a) := HD.out.cell 2
    go_wp2_with fail
    refine (KA.out _ HD.out.wk).mono ?_
    rintro e V2 ⟨rfl, hb⟩
    have HD' := Lib.hid (HD.out.read hb); clear HD hb; have HD := HD'; clear HD'
    try clear r2 hW3 hb3
    obtain ⟨b6, hb6⟩ : ∃ b6, V2.heap.size = b6 := ⟨_, rfl⟩
    obtain ⟨W6, hW6⟩ : ∃ W6, V2.alloc (.cells #[.int .i64 z1, .int .i64 z2] 55) = W6 := ⟨_, rfl⟩
    have HD' : Hid (DK B pl pw [(b6, .cells #[.int .i64 z1, .int .i64 z2] 55 (0, 0)), (b3, .cells #[.int .u32 m1, .int .u16 m2, .int .i64 m3, .int .i64 m4] 68 (0, 0))] [] l c a w W6) := Lib.hid (by rw [← hW6, ← hb6]; exact HD.out.new _ 55 rfl)
    clear HD; have HD := HD'; clear HD'
    have rb30 : W6.cell? ⟨b3, 0, none⟩ = some (.int .u32 m1) := HD.out.blk (List.Mem.tail _ (List.Mem.head _)) 0
    go_wp2_with fail
    refine (KB.out _ HD.out.wk).mono ?_
    rintro e V3 ⟨rfl, hb⟩
    have HD' := Lib.hid (HD.out.read hb); clear HD hb; have HD := HD'; clear HD'
    try clear rb30 hW6 hb6
    obtain ⟨b8, hb8⟩ : ∃ b8, V3.heap.size = b8 := ⟨_, rfl⟩
    obtain ⟨W7, hW7⟩ : ∃ W7, V3.alloc (.cells #[.int .i64 u1, .int .i64 u2] 55) = W7 := ⟨_, rfl⟩
    have HD' : Hid (DK B pl pw [(b8, .cells #[.int .i64 u1, .int .i64 u2] 55 (0, 0)), (b6, .cells #[.int .i64 z1, .int .i64 z2] 55 (0, 0)), (b3, .cells #[.int .u32 m1, .int .u16 m2, .int .i64 m3, .int .i64 m4] 68 (0, 0))] [] l c a w W7) := Lib.hid (by rw [← hW7, ← hb8]; exact HD.out.new _ 55 rfl)
    clear HD; have HD := HD'; clear HD'
    go_wp2_with fail
    try clear hW7 hb8
    have p2 : W7.cell? ⟨pw, 2, none⟩ = some (.int .u32 c.a) := HD.out.cell 2
    have pb60 : W7.cell? ⟨b6, 0, none⟩ = some (.int .i64 z1) := HD.out.blk (List.Mem.tail _ (List.Mem.head _)) 0
    have pb61 : W7.cell? ⟨b6, 1, none⟩ = some (.int .i64 z2) := HD.out.blk (List.Mem.tail _ (List.Mem.head _)) 1
    have pb80 : W7.cell? ⟨b8, 0, none⟩ = some (.int .i64 u1) := HD.out.blk (List.Mem.head _) 0
    have pb81 : W7.cell? ⟨b8, 1, none⟩ = some (.int .i64 u2) := HD.out.blk (List.Mem.head _) 1
    have pb30 : W7.cell? ⟨b3, 0, none⟩ = some (.int .u32 m1) := HD.out.blk (List.Mem.tail _ (List.Mem.tail _ (List.Mem.head _))) 0
    have pb31 : W7.cell? ⟨b3, 1, none⟩ = some (.int .u16 m2) := HD.out.blk (List.Mem.tail _ (List.Mem.tail _ (List.Mem.head _))) 1
    have pb32 : W7.cell? ⟨b3, 2, none⟩ = some (.int .i64 m3) := HD.out.blk (List.Mem.tail _ (List.Mem.tail _ (List.Mem.head _))) 2
    have pb33 : W7.cell? ⟨b3, 3, none⟩ = some (.int .i64 m4) := HD.out.blk (List.Mem.tail _ (List.Mem.tail _ (List.Mem.head _))) 3
    obtain ⟨b7, hb7⟩ : ∃ b7, W7.heap.size = b7 := ⟨_, rfl⟩
    have HE : Hid (DK B pl pw [(b7, .cells #[.int .i64 0, .int .i64 0] 55 (0, 0)), (b8, .cells #[.int .i64 u1, .int .i64 u2] 55 (0, 0)), (b6, .cells #[.int .i64 z1, .int .i64 z2] 55 (0, 0)), (b3, .cells #[.int .u32 m1, .int .u16 m2, .int .i64 m3, .int .i64 m4] 68 (0, 0))] [] l c a w ((W7.alloc (.cells #[.int .i64 0, .int .i64 0] 55)).drew)) := Lib.hid (by rw [← hb7]; exact (HD.out.new _ 55 rfl).drew)
    have HF : Hid (DK B pl pw [(b7 + 1, .cells #[.int .i64 0, .int .i64 0] 55 (0, 0)), (b7, .cells #[.int .i64 0, .int .i64 0] 55 (0, 0)), (b8, .cells #[.int .i64 u1, .int .i64 u2] 55 (0, 0)), (b6, .cells #[.int .i64 z1, .int .i64 z2] 55 (0, 0)), (b3, .cells #[.int .u32 m1, .int .u16 m2, .int .i64 m3, .int .i64 m4] 68 (0, 0))] [] l c a w (((W7.alloc (.cells #[.int .i64 0, .int .i64 0] 55)).alloc (.cells #[.int .i64 0, .int .i64 0] 55)).drew)) := Lib.hid (by have := ((HD.out.new #[.int .i64 0, .int .i64 0] 55 rfl).new #[.int .i64 0, .int .i64 0] 55 rfl).drew; simp only [World.size_alloc, hb7] at this; exact this)
    have hn0_pw : pw ≠ b7 := Ne.symm (HE.out.non _ (List.Mem.head _)).2.2.1
    have hn1_pw : pw ≠ b7 + 1 := Ne.symm (HF.out.non _ (List.Mem.head _)).2.2.1
    have hn0_b6 : b6 ≠ b7 := (List.pairwise_cons.1 HE.out.far).1 _ (List.Mem.tail _ (List.Mem.head _))
    have hn1_b6 : b6 ≠ b7 + 1 := (List.pairwise_cons.1 HF.out.far).1 _ (List.Mem.tail _ (List.Mem.tail _ (List.Mem.head _)))
    have hn0_b8 : b8 ≠ b7 := (List.pairwise_cons.1 HE.out.far).1 _ (List.Mem.head _)
    have hn1_b8 : b8 ≠ b7 + 1 := (List.pairwise_cons.1 HF.out.far).1 _ (List.Mem.tail _ (List.Mem.head _))
    have hn0_b3 : b3 ≠ b7 := (List.pairwise_cons.1 HE.out.far).1 _ (List.Mem.tail _ (List.Mem.tail _ (List.Mem.head _)))
    have hn1_b3 : b3 ≠ b7 + 1 := (List.pairwise_cons.1 HF.out.far).1 _ (List.Mem.tail _ (List.Mem.tail _ (List.Mem.tail _ (List.Mem.head _))))
    have HD' := Lib.hid (HD.out.drew); clear HD; have HD := HD'; clear HD'
    go_region_held3 (fun W' => W'.cell? ⟨pw, 2, none⟩ = some (.int .u32 c.a) ∧ W'.cell? ⟨b6, 0, none⟩ = some (.int .i64 z1) ∧ W'.cell? ⟨b6, 1, none⟩ = some (.int .i64 z2) ∧ W'.cell? ⟨b8, 0, none⟩ = some (.int .i64 u1) ∧ W'.cell? ⟨b8, 1, none⟩ = some (.int .i64 u2) ∧ W'.cell? ⟨b3, 0, none⟩ = some (.int .u32 m1) ∧ W'.cell? ⟨b3, 1, none⟩ = some (.int .u16 m2) ∧ W'.cell? ⟨b3, 2, none⟩ = some (.int .i64 m3) ∧ W'.cell? ⟨b3, 3, none⟩ = some (.int .i64 m4))
      (refine ⟨?_, ?_, ?_, ?_, ?_, ?_, ?_, ?_, ?_⟩ <;> (repeat (first | with_reducible assumption | with_reducible refine cell_alloc ?_ _ | with_reducible refine cell_drew ?_ | with_reducible refine cell_far ?_ hn0_pw _ | with_reducible refine cell_far ?_ hn0_b6 _ | with_reducible refine cell_far ?_ hn0_b8 _ | with_reducible refine cell_far ?_ hn0_b3 _ | with_reducible refine cell_far ?_ hn1_pw _ | with_reducible refine cell_far ?_ hn1_b6 _ | with_reducible refine cell_far ?_ hn1_b8 _ | with_reducible refine cell_far ?_ hn1_b3 _ | with_reducible refine cell_far ?_ hk0_pw _ | with_reducible refine cell_far ?_ hk0_b6 _ | with_reducible refine cell_far ?_ hk0_b8 _ | with_reducible refine cell_far ?_ hk0_b3 _ | with_reducible refine cell_far ?_ hk1_pw _ | with_reducible refine cell_far ?_ hk1_b6 _ | with_reducible refine cell_far ?_ hk1_b8 _ | with_reducible refine cell_far ?_ hk1_b3 _ | with_reducible refine cell_far ?_ hv_pw _ | with_reducible refine cell_far ?_ hv_b6 _ | with_reducible refine cell_far ?_ hv_b8 _ | with_reducible refine cell_far ?_ hv_b3 _)))
      (first | (go_at_call 108; (with_reducible refine (KG.out _ HD.out.wk).mono ?_); rintro e V4 ⟨v1, rfl, hv, hb⟩; have HD' := Lib.hid (HD.out.row hb hv); clear HD hb hv; have HD := HD'; clear HD'; have q2 : V4.cell? ⟨pw, 2, none⟩ = some (.int .u32 c.a) := HD.out.cell 2; have qb60 : V4.cell? ⟨b6, 0, none⟩ = some (.int .i64 z1) := HD.out.blk (List.Mem.tail _ (List.Mem.head _)) 0; have qb61 : V4.cell? ⟨b6, 1, none⟩ = some (.int .i64 z2) := HD.out.blk (List.Mem.tail _ (List.Mem.head _)) 1; have qb80 : V4.cell? ⟨b8, 0, none⟩ = some (.int .i64 u1) := HD.out.blk (List.Mem.head _) 0; have qb81 : V4.cell? ⟨b8, 1, none⟩ = some (.int .i64 u2) := HD.out.blk (List.Mem.head _) 1; have qb30 : V4.cell? ⟨b3, 0, none⟩ = some (.int .u32 m1) := HD.out.blk (List.Mem.tail _ (List.Mem.tail _ (List.Mem.head _))) 0; have qb31 : V4.cell? ⟨b3, 1, none⟩ = some (.int .u16 m2) := HD.out.blk (List.Mem.tail _ (List.Mem.tail _ (List.Mem.head _))) 1; have qb32 : V4.cell? ⟨b3, 2, none⟩ = some (.int .i64 m3) := HD.out.blk (List.Mem.tail _ (List.Mem.tail _ (List.Mem.head _))) 2; have qb33 : V4.cell? ⟨b3, 3, none⟩ = some (.int .i64 m4) := HD.out.blk (List.Mem.tail _ (List.Mem.tail _ (List.Mem.head _))) 3) | (go_at_call 108; (with_reducible refine (KG.out _ HE.out.wk).mono ?_); rintro e V4 ⟨v1, rfl, hv, hb⟩; have HD' := Lib.hid (HE.out.row hb hv); clear HD HE hb hv; have HD := HD'; clear HD'; have q2 : V4.cell? ⟨pw, 2, none⟩ = some (.int .u32 c.a) := HD.out.cell 2; have qb60 : V4.cell? ⟨b6, 0, none⟩ = some (.int .i64 z1) := HD.out.blk (List.Mem.tail _ (List.Mem.tail _ (List.Mem.head _))) 0; have qb61 : V4.cell? ⟨b6, 1, none⟩ = some (.int .i64 z2) := HD.out.blk (List.Mem.tail _ (List.Mem.tail _ (List.Mem.head _))) 1; have qb80 : V4.cell? ⟨b8, 0, none⟩ = some (.int .i64 u1) := HD.out.blk (List.Mem.tail _ (List.Mem.head _)) 0; have qb81 : V4.cell? ⟨b8, 1, none⟩ = some (.int .i64 u2) := HD.out.blk (List.Mem.tail _ (List.Mem.head _)) 1; have qb30 : V4.cell? ⟨b3, 0, none⟩ = some (.int .u32 m1) := HD.out.blk (List.Mem.tail _ (List.Mem.tail _ (List.Mem.tail _ (List.Mem.head _)))) 0; have qb31 : V4.cell? ⟨b3, 1, none⟩ = some (.int .u16 m2) := HD.out.blk (List.Mem.tail _ (List.Mem.tail _ (List.Mem.tail _ (List.Mem.head _)))) 1; have qb32 : V4.cell? ⟨b3, 2, none⟩ = some (.int .i64 m3) := HD.out.blk (List.Mem.tail _ (List.Mem.tail _ (List.Mem.tail _ (List.Mem.head _)))) 2; have qb33 : V4.cell? ⟨b3, 3, none⟩ = some (.int .i64 m4) := HD.out.blk (List.Mem.tail _ (List.Mem.tail _ (List.Mem.tail _ (List.Mem.head _)))) 3) | (go_at_call 108; (with_reducible refine (KG.out _ HF.out.wk).mono ?_); rintro e V4 ⟨v1, rfl, hv, hb⟩; have HD' := Lib.hid (HF.out.row hb hv); clear HD HF hb hv; have HD := HD'; clear HD'; have q2 : V4.cell? ⟨pw, 2, none⟩ = some (.int .u32 c.a) := HD.out.cell 2; have qb60 : V4.cell? ⟨b6, 0, none⟩ = some (.int .i64 z1) := HD.out.blk (List.Mem.tail _ (List.Mem.tail _ (List.Mem.tail _ (List.Mem.head _)))) 0; have qb61 : V4.cell? ⟨b6, 1, none⟩ = some (.int .i64 z2) := HD.out.blk (List.Mem.tail _ (List.Mem.tail _ (List.Mem.tail _ (List.Mem.head _)))) 1; have qb80 : V4.cell? ⟨b8, 0, none⟩ = some (.int .i64 u1) := HD.out.blk (List.Mem.tail _ (List.Mem.tail _ (List.Mem.head _))) 0; have qb81 : V4.cell? ⟨b8, 1, none⟩ = some (.int .i64 u2) := HD.out.blk (List.Mem.tail _ (List.Mem.tail _ (List.Mem.head _))) 1; have qb30 : V4.cell? ⟨b3, 0, none⟩ = some (.int .u32 m1) := HD.out.blk (List.Mem.tail _ (List.Mem.tail _ (List.Mem.tail _ (List.Mem.tail _ (List.Mem.head _))))) 0; have qb31 : V4.cell? ⟨b3, 1, none⟩ = some (.int .u16 m2) := HD.out.blk (List.Mem.tail _ (List.Mem.tail _ (List.Mem.tail _ (List.Mem.tail _ (List.Mem.head _))))) 1; have qb32 : V4.cell? ⟨b3, 2, none⟩ = some (.int .i64 m3) := HD.out.blk (List.Mem.tail _ (List.Mem.tail _ (List.Mem.tail _ (List.Mem.tail _ (List.Mem.head _))))) 2; have qb33 : V4.cell? ⟨b3, 3, none⟩ = some (.int .i64 m4) := HD.out.blk (List.Mem.tail _ (List.Mem.tail _ (List.Mem.tail _ (List.Mem.tail _ (List.Mem.head _))))) 3) | (go_at_call 124; (with_reducible refine (KT.out _ _ (HD.out.sees (List.Mem.head _)) HD.out.glob).mono ?_); rintro e V5 ⟨v2, rfl, hv, hb⟩; have HD' := Lib.hid (HD.out.row hb hv); clear HD hb hv; have HD := HD'; clear HD'; have q2 : V5.cell? ⟨pw, 2, none⟩ = some (.int .u32 c.a) := HD.out.cell 2; have qb60 : V5.cell? ⟨b6, 0, none⟩ = some (.int .i64 z1) := HD.out.blk (List.Mem.tail _ (List.Mem.head _)) 0; have qb61 : V5.cell? ⟨b6, 1, none⟩ = some (.int .i64 z2) := HD.out.blk (List.Mem.tail _ (List.Mem.head _)) 1; have qb80 : V5.cell? ⟨b8, 0, none⟩ = some (.int .i64 u1) := HD.out.blk (List.Mem.head _) 0; have qb81 : V5.cell? ⟨b8, 1, none⟩ = some (.int .i64 u2) := HD.out.blk (List.Mem.head _) 1; have qb30 : V5.cell? ⟨b3, 0, none⟩ = some (.int .u32 m1) := HD.out.blk (List.Mem.tail _ (List.Mem.tail _ (List.Mem.head _))) 0; have qb31 : V5.cell? ⟨b3, 1, none⟩ = some (.int .u16 m2) := HD.out.blk (List.Mem.tail _ (List.Mem.tail _ (List.Mem.head _))) 1; have qb32 : V5.cell? ⟨b3, 2, none⟩ = some (.int .i64 m3) := HD.out.blk (List.Mem.tail _ (List.Mem.tail _ (List.Mem.head _))) 2; have qb33 : V5.cell? ⟨b3, 3, none⟩ = some (.int .i64 m4) := HD.out.blk (List.Mem.tail _ (List.Mem.tail _ (List.Mem.head _))) 3) | (go_at_call 124; have HG := Lib.hid (HD.out.new #[.int .i64 0, .int .i64 0] 55 rfl); have hk0_pw : pw ≠ V4.heap.size := Ne.symm (HG.out.non _ (List.Mem.head _)).2.2.1; have hk0_b6 : b6 ≠ V4.heap.size := (List.pairwise_cons.1 HG.out.far).1 _ (List.Mem.tail _ (List.Mem.head _)); have hk0_b8 : b8 ≠ V4.heap.size := (List.pairwise_cons.1 HG.out.far).1 _ (List.Mem.head _); have hk0_b3 : b3 ≠ V4.heap.size := (List.pairwise_cons.1 HG.out.far).1 _ (List.Mem.tail _ (List.Mem.tail _ (List.Mem.head _))); (with_reducible refine (KT.out _ _ (HG.out.sees (List.Mem.head _)) HG.out.glob).mono ?_); rintro e V5 ⟨v2, rfl, hv, hb⟩; have HD' := Lib.hid (HG.out.row hb hv); clear HD HG hb hv; have HD := HD'; clear HD'; have q2 : V5.cell? ⟨pw, 2, none⟩ = some (.int .u32 c.a) := HD.out.cell 2; have qb60 : V5.cell? ⟨b6, 0, none⟩ = some (.int .i64 z1) := HD.out.blk (List.Mem.tail _ (List.Mem.tail _ (List.Mem.head _))) 0; have qb61 : V5.cell? ⟨b6, 1, none⟩ = some (.int .i64 z2) := HD.out.blk (List.Mem.tail _ (List.Mem.tail _ (List.Mem.head _))) 1; have qb80 : V5.cell? ⟨b8, 0, none⟩ = some (.int .i64 u1) := HD.out.blk (List.Mem.tail _ (List.Mem.head _)) 0; have qb81 : V5.cell? ⟨b8, 1, none⟩ = some (.int .i64 u2) := HD.out.blk (List.Mem.tail _ (List.Mem.head _)) 1; have qb30 : V5.cell? ⟨b3, 0, none⟩ = some (.int .u32 m1) := HD.out.blk (List.Mem.tail _ (List.Mem.tail _ (List.Mem.tail _ (List.Mem.head _)))) 0; have qb31 : V5.cell? ⟨b3, 1, none⟩ = some (.int .u16 m2) := HD.out.blk (List.Mem.tail _ (List.Mem.tail _ (List.Mem.tail _ (List.Mem.head _)))) 1; have qb32 : V5.cell? ⟨b3, 2, none⟩ = some (.int .i64 m3) := HD.out.blk (List.Mem.tail _ (List.Mem.tail _ (List.Mem.tail _ (List.Mem.head _)))) 2; have qb33 : V5.cell? ⟨b3, 3, none⟩ = some (.int .i64 m4) := HD.out.blk (List.Mem.tail _ (List.Mem.tail _ (List.Mem.tail _ (List.Mem.head _)))) 3; have jx_f0 := HD.out.top0; have jx_f1 := HD.out.top1; have jx_ff := HD.out.topf; have jx_u0 := fun o => (HD.out.alloc o).top0; have jx_u1 := fun o => (HD.out.alloc o).top1; have jx_uf := fun o => (HD.out.alloc o).topf; have ug1 : V5.heap.size ≠ V4.heap.size := Nat.ne_of_gt (HD.out.gt (List.Mem.head _)); have ug2 : V4.heap.size ≠ V5.heap.size := Nat.ne_of_lt (HD.out.gt (List.Mem.head _)); have hv_pw : pw ≠ V5.heap.size := Nat.ne_of_lt HD.out.wk.size.2.2; have hv_b6 : b6 ≠ V5.heap.size := Nat.ne_of_lt (show b6 < V5.heap.size from HD.out.gt (List.Mem.tail _ (List.Mem.tail _ (List.Mem.head _)))); have hv_b8 : b8 ≠ V5.heap.size := Nat.ne_of_lt (show b8 < V5.heap.size from HD.out.gt (List.Mem.tail _ (List.Mem.head _))); have hv_b3 : b3 ≠ V5.heap.size := Nat.ne_of_lt (show b3 < V5.heap.size from HD.out.gt (List.Mem.tail _ (List.Mem.tail _ (List.Mem.tail _ (List.Mem.head _)))))) | (go_at_call 124; have HG := Lib.hid (HD.out.new #[.int .i64 0, .int .i64 0] 55 rfl); have hk0_pw : pw ≠ V4.heap.size := Ne.symm (HG.out.non _ (List.Mem.head _)).2.2.1; have hk0_b6 : b6 ≠ V4.heap.size := (List.pairwise_cons.1 HG.out.far).1 _ (List.Mem.tail _ (List.Mem.head _)); have hk0_b8 : b8 ≠ V4.heap.size := (List.pairwise_cons.1 HG.out.far).1 _ (List.Mem.head _); have hk0_b3 : b3 ≠ V4.heap.size := (List.pairwise_cons.1 HG.out.far).1 _ (List.Mem.tail _ (List.Mem.tail _ (List.Mem.head _))); have HI : Hid (DK B pl pw ((V4.heap.size + 1, .cells #[.int .i64 0, .int .i64 0] 55 (0, 0)) :: [(V4.heap.size, .cells #[.int .i64 0, .int .i64 0] 55 (0, 0)), (b8, .cells #[.int .i64 u1, .int .i64 u2] 55 (0, 0)), (b6, .cells #[.int .i64 z1, .int .i64 z2] 55 (0, 0)), (b3, .cells #[.int .u32 m1, .int .u16 m2, .int .i64 m3, .int .i64 m4] 68 (0, 0))]) [(v1, g)] l c a w ((V4.alloc (.cells #[.int .i64 0, .int .i64 0] 55)).alloc (.cells #[.int .i64 0, .int .i64 0] 55))) := Lib.hid (HD.out.new2 #[.int .i64 0, .int .i64 0] #[.int .i64 0, .int .i64 0] 55 55 rfl rfl); have hk1_pw : pw ≠ V4.heap.size + 1 := Ne.symm (HI.out.non _ (List.Mem.head _)).2.2.1; have hk1_b6 : b6 ≠ V4.heap.size + 1 := (List.pairwise_cons.1 HI.out.far).1 _ (List.Mem.tail _ (List.Mem.tail _ (List.Mem.head _))); have hk1_b8 : b8 ≠ V4.heap.size + 1 := (List.pairwise_cons.1 HI.out.far).1 _ (List.Mem.tail _ (List.Mem.head _)); have hk1_b3 : b3 ≠ V4.heap.size + 1 := (List.pairwise_cons.1 HI.out.far).1 _ (List.Mem.tail _ (List.Mem.tail _ (List.Mem.tail _ (List.Mem.head _)))); (with_reducible refine (KT.out _ _ (HI.out.sees (List.Mem.head _)) HI.out.glob).mono ?_); rintro e V5 ⟨v2, rfl, hv, hb⟩; have HD' := Lib.hid (HI.out.row hb hv); clear HD HG HI hb hv; have HD := HD'; clear HD'; have q2 : V5.cell? ⟨pw, 2, none⟩ = some (.int .u32 c.a) := HD.out.cell 2; have qb60 : V5.cell? ⟨b6, 0, none⟩ = some (.int .i64 z1) := HD.out.blk (List.Mem.tail _ (List.Mem.tail _ (List.Mem.tail _ (List.Mem.head _)))) 0; have qb61 : V5.cell? ⟨b6, 1, none⟩ = some (.int .i64 z2) := HD.out.blk (List.Mem.tail _ (List.Mem.tail _ (List.Mem.tail _ (List.Mem.head _)))) 1; have qb80 : V5.cell? ⟨b8, 0, none⟩ = some (.int .i64 u1) := HD.out.blk (List.Mem.tail _ (List.Mem.tail _ (List.Mem.head _))) 0; have qb81 : V5.cell? ⟨b8, 1, none⟩ = some (.int .i64 u2) := HD.out.blk (List.Mem.tail _ (List.Mem.tail _ (List.Mem.head _))) 1; have qb30 : V5.cell? ⟨b3, 0, none⟩ = some (.int .u32 m1) := HD.out.blk (List.Mem.tail _ (List.Mem.tail _ (List.Mem.tail _ (List.Mem.tail _ (List.Mem.head _))))) 0; have qb31 : V5.cell? ⟨b3, 1, none⟩ = some (.int .u16 m2) := HD.out.blk (List.Mem.tail _ (List.Mem.tail _ (List.Mem.tail _ (List.Mem.tail _ (List.Mem.head _))))) 1; have qb32 : V5.cell? ⟨b3, 2, none⟩ = some (.int .i64 m3) := HD.out.blk (List.Mem.tail _ (List.Mem.tail _ (List.Mem.tail _ (List.Mem.tail _ (List.Mem.head _))))) 2; have qb33 : V5.cell? ⟨b3, 3, none⟩ = some (.int .i64 m4) := HD.out.blk (List.Mem.tail _ (List.Mem.tail _ (List.Mem.tail _ (List.Mem.tail _ (List.Mem.head _))))) 3; have jx_f0 := HD.out.top0; have jx_f1 := HD.out.top1; have jx_ff := HD.out.topf; have jx_g0 := HD.out.tip0; have jx_g1 := HD.out.tip1; have jx_gf := HD.out.tipf; have ug1 : V4.heap.size ≠ V4.heap.size + 1 := (List.pairwise_cons.1 HD.out.far).1 _ (List.Mem.head _); have ug2 : V4.heap.size + 1 ≠ V4.heap.size := Ne.symm ((List.pairwise_cons.1 HD.out.far).1 _ (List.Mem.head _))) | (go_at_call 124; (with_reducible refine (KT.out _ _ (HD.out.sees (List.Mem.head _)) HD.out.glob).mono ?_); rintro e V5 ⟨v2, rfl, hv, hb⟩; have HD' := Lib.hid (HD.out.row hb hv); clear HD hb hv; have HD := HD'; clear HD'; have q2 : V5.cell? ⟨pw, 2, none⟩ = some (.int .u32 c.a) := HD.out.cell 2; have qb60 : V5.cell? ⟨b6, 0, none⟩ = some (.int .i64 z1) := HD.out.blk (List.Mem.tail _ (List.Mem.tail _ (List.Mem.head _))) 0; have qb61 : V5.cell? ⟨b6, 1, none⟩ = some (.int .i64 z2) := HD.out.blk (List.Mem.tail _ (List.Mem.tail _ (List.Mem.head _))) 1; have qb80 : V5.cell? ⟨b8, 0, none⟩ = some (.int .i64 u1) := HD.out.blk (List.Mem.tail _ (List.Mem.head _)) 0; have qb81 : V5.cell? ⟨b8, 1, none⟩ = some (.int .i64 u2) := HD.out.blk (List.Mem.tail _ (List.Mem.head _)) 1; have qb30 : V5.cell? ⟨b3, 0, none⟩ = some (.int .u32 m1) := HD.out.blk (List.Mem.tail _ (List.Mem.tail _ (List.Mem.tail _ (List.Mem.head _)))) 0; have qb31 : V5.cell? ⟨b3, 1, none⟩ = some (.int .u16 m2) := HD.out.blk (List.Mem.tail _ (List.Mem.tail _ (List.Mem.tail _ (List.Mem.head _)))) 1; have qb32 : V5.cell? ⟨b3, 2, none⟩ = some (.int .i64 m3) := HD.out.blk (List.Mem.tail _ (List.Mem.tail _ (List.Mem.tail _ (List.Mem.head _)))) 2; have qb33 : V5.cell? ⟨b3, 3, none⟩ = some (.int .i64 m4) := HD.out.blk (List.Mem.tail _ (List.Mem.tail _ (List.Mem.tail _ (List.Mem.head _)))) 3; have jx_f0 := HD.out.top0; have jx_f1 := HD.out.top1; have jx_ff := HD.out.topf; have jx_u0 := fun o => (HD.out.alloc o).top0; have jx_u1 := fun o => (HD.out.alloc o).top1; have jx_uf := fun o => (HD.out.alloc o).topf; have ug1 : V5.heap.size ≠ b7 := Nat.ne_of_gt (HD.out.gt (List.Mem.head _)); have ug2 : b7 ≠ V5.heap.size := Nat.ne_of_lt (HD.out.gt (List.Mem.head _)); have hv_pw : pw ≠ V5.heap.size := Nat.ne_of_lt HD.out.wk.size.2.2; have hv_b6 : b6 ≠ V5.heap.size := Nat.ne_of_lt (show b6 < V5.heap.size from HD.out.gt (List.Mem.tail _ (List.Mem.tail _ (List.Mem.head _)))); have hv_b8 : b8 ≠ V5.heap.size := Nat.ne_of_lt (show b8 < V5.heap.size from HD.out.gt (List.Mem.tail _ (List.Mem.head _))); have hv_b3 : b3 ≠ V5.heap.size := Nat.ne_of_lt (show b3 < V5.heap.size from HD.out.gt (List.Mem.tail _ (List.Mem.tail _ (List.Mem.tail _ (List.Mem.head _)))))) | (go_at_call 124; have HG := Lib.hid (HD.out.new #[.int .i64 0, .int .i64 0] 55 rfl); have hk0_pw : pw ≠ V4.heap.size := Ne.symm (HG.out.non _ (List.Mem.head _)).2.2.1; have hk0_b6 : b6 ≠ V4.heap.size := (List.pairwise_cons.1 HG.out.far).1 _ (List.Mem.tail _ (List.Mem.tail _ (List.Mem.head _))); have hk0_b8 : b8 ≠ V4.heap.size := (List.pairwise_cons.1 HG.out.far).1 _ (List.Mem.tail _ (List.Mem.head _)); have hk0_b3 : b3 ≠ V4.heap.size := (List.pairwise_cons.1 HG.out.far).1 _ (List.Mem.tail _ (List.Mem.tail _ (List.Mem.tail _ (List.Mem.head _)))); (with_reducible refine (KT.out _ _ (HG.out.sees (List.Mem.head _)) HG.out.glob).mono ?_); rintro e V5 ⟨v2, rfl, hv, hb⟩; have HD' := Lib.hid (HG.out.row hb hv); clear HD HG hb hv; have HD := HD'; clear HD'; have q2 : V5.cell? ⟨pw, 2, none⟩ = some (.int .u32 c.a) := HD.out.cell 2; have qb60 : V5.cell? ⟨b6, 0, none⟩ = some (.int .i64 z1) := HD.out.blk (List.Mem.tail _ (List.Mem.tail _ (List.Mem.tail _ (List.Mem.head _)))) 0; have qb61 : V5.cell? ⟨b6, 1, none⟩ = some (.int .i64 z2) := HD.out.blk (List.Mem.tail _ (List.Mem.tail _ (List.Mem.tail _ (List.Mem.head _)))) 1; have qb80 : V5.cell? ⟨b8, 0, none⟩ = some (.int .i64 u1) := HD.out.blk (List.Mem.tail _ (List.Mem.tail _ (List.Mem.head _))) 0; have qb81 : V5.cell? ⟨b8, 1, none⟩ = some (.int .i64 u2) := HD.out.blk (List.Mem.tail _ (List.Mem.tail _ (List.Mem.head _))) 1; have qb30 : V5.cell? ⟨b3, 0, none⟩ = some (.int .u32 m1) := HD.out.blk (List.Mem.tail _ (List.Mem.tail _ (List.Mem.tail _ (List.Mem.tail _ (List.Mem.head _))))) 0; have qb31 : V5.cell? ⟨b3, 1, none⟩ = some (.int .u16 m2) := HD.out.blk (List.Mem.tail _ (List.Mem.tail _ (List.Mem.tail _ (List.Mem.tail _ (List.Mem.head _))))) 1; have qb32 : V5.cell? ⟨b3, 2, none⟩ = some (.int .i64 m3) := HD.out.blk (List.Mem.tail _ (List.Mem.tail _ (List.Mem.tail _ (List.Mem.tail _ (List.Mem.head _))))) 2; have qb33 : V5.cell? ⟨b3, 3, none⟩ = some (.int .i64 m4) := HD.out.blk (List.Mem.tail _ (List.Mem.tail _ (List.Mem.tail _ (List.Mem.tail _ (List.Mem.head _))))) 3; have jx_f0 := HD.out.top0; have jx_f1 := HD.out.top1; have jx_ff := HD.out.topf; have jx_g0 := HD.out.tip0; have jx_g1 := HD.out.tip1; have jx_gf := HD.out.tipf; have ug1 : b7 ≠ V4.heap.size := (List.pairwise_cons.1 HD.out.far).1 _ (List.Mem.head _); have ug2 : V4.heap.size ≠ b7 := Ne.symm ((List.pairwise_cons.1 HD.out.far).1 _ (List.Mem.head _))) | (go_at_call 124; (with_reducible refine (KT.out _ _ (HD.out.sees (List.Mem.head _)) HD.out.glob).mono ?_); rintro e V5 ⟨v2, rfl, hv, hb⟩; have HD' := Lib.hid (HD.out.row hb hv); clear HD hb hv; have HD := HD'; clear HD'; have q2 : V5.cell? ⟨pw, 2, none⟩ = some (.int .u32 c.a) := HD.out.cell 2; have qb60 : V5.cell? ⟨b6, 0, none⟩ = some (.int .i64 z1) := HD.out.blk (List.Mem.tail _ (List.Mem.tail _ (List.Mem.tail _ (List.Mem.head _)))) 0; have qb61 : V5.cell? ⟨b6, 1, none⟩ = some (.int .i64 z2) := HD.out.blk (List.Mem.tail _ (List.Mem.tail _ (List.Mem.tail _ (List.Mem.head _)))) 1; have qb80 : V5.cell? ⟨b8, 0, none⟩ = some (.int .i64 u1) := HD.out.blk (List.Mem.tail _ (List.Mem.tail _ (List.Mem.head _))) 0; have qb81 : V5.cell? ⟨b8, 1, none⟩ = some (.int .i64 u2) := HD.out.blk (List.Mem.tail _ (List.Mem.tail _ (List.Mem.head _))) 1; have qb30 : V5.cell? ⟨b3, 0, none⟩ = some (.int .u32 m1) := HD.out.blk (List.Mem.tail _ (List.Mem.tail _ (List.Mem.tail _ (List.Mem.tail _ (List.Mem.head _))))) 0; have qb31 : V5.cell? ⟨b3, 1, none⟩ = some (.int .u16 m2) := HD.out.blk (List.Mem.tail _ (List.Mem.tail _ (List.Mem.tail _ (List.Mem.tail _ (List.Mem.head _))))) 1; have qb32 : V5.cell? ⟨b3, 2, none⟩ = some (.int .i64 m3) := HD.out.blk (List.Mem.tail _ (List.Mem.tail _ (List.Mem.tail _ (List.Mem.tail _ (List.Mem.head _))))) 2; have qb33 : V5.cell? ⟨b3, 3, none⟩ = some (.int .i64 m4) := HD.out.blk (List.Mem.tail _ (List.Mem.tail _ (List.Mem.tail _ (List.Mem.tail _ (List.Mem.head _))))) 3; have jx_f0 := HD.out.top0; have jx_f1 := HD.out.top1; have jx_ff := HD.out.topf; have jx_g0 := HD.out.tip0; have jx_g1 := HD.out.tip1; have jx_gf := HD.out.tipf; have ug1 : b7 ≠ b7 + 1 := (List.pairwise_cons.1 HD.out.far).1 _ (List.Mem.head _); have ug2 : b7 + 1 ≠ b7 := Ne.symm ((List.pairwise_cons.1 HD.out.far).1 _ (List.Mem.head _))))
    all_goals (first
      | (obtain ⟨bp, hbp⟩ : ∃ bp, V5.heap.size = bp := ⟨_, rfl⟩; obtain ⟨bq, hbq⟩ : ∃ bq, V5.heap.size + 1 = bq := ⟨_, rfl⟩; obtain ⟨W8, hW8⟩ : ∃ W8, ((V5).alloc (.cells #[.int .i64 r1, .int .i64 r2] 55)).alloc (.cells #[.int .i64 s1, .int .i64 s2] 55) = W8 := ⟨_, rfl⟩; have HD' : Hid (DK B pl pw [(bp, .cells #[.int .i64 r1, .int .i64 r2] 55 (0, 0)), (bq, .cells #[.int .i64 s1, .int .i64 s2] 55 (0, 0)), (b8, .cells #[.int .i64 u1, .int .i64 u2] 55 (0, 0)), (b6, .cells #[.int .i64 z1, .int .i64 z2] 55 (0, 0)), (b3, .cells #[.int .u32 m1, .int .u16 m2, .int .i64 m3, .int .i64 m4] 68 (0, 0))] [(v2, t), (v1, g)] l c a w W8) := Lib.hid (by rw [← hW8, ← hbp, ← hbq]; exact (by have := (HD.out.new #[.int .i64 r1, .int .i64 r2] 55 rfl).new #[.int .i64 s1, .int .i64 s2] 55 rfl; simp only [World.size_alloc] at this; exact this.swap)); rw [hW8, hbq, hbp])
      | (obtain ⟨bp, hbp⟩ : ∃ bp, V5.heap.size + 1 = bp := ⟨_, rfl⟩; obtain ⟨bq, hbq⟩ : ∃ bq, V5.heap.size = bq := ⟨_, rfl⟩; obtain ⟨W8, hW8⟩ : ∃ W8, ((V5).alloc (.cells #[.int .i64 s1, .int .i64 s2] 55)).alloc (.cells #[.int .i64 r1, .int .i64 r2] 55) = W8 := ⟨_, rfl⟩; have HD' : Hid (DK B pl pw [(bp, .cells #[.int .i64 r1, .int .i64 r2] 55 (0, 0)), (bq, .cells #[.int .i64 s1, .int .i64 s2] 55 (0, 0)), (b8, .cells #[.int .i64 u1, .int .i64 u2] 55 (0, 0)), (b6, .cells #[.int .i64 z1, .int .i64 z2] 55 (0, 0)), (b3, .cells #[.int .u32 m1, .int .u16 m2, .int .i64 m3, .int .i64 m4] 68 (0, 0))] [(v2, t), (v1, g)] l c a w W8) := Lib.hid (by rw [← hW8, ← hbp, ← hbq]; exact (by have := (HD.out.new #[.int .i64 s1, .int .i64 s2] 55 rfl).new #[.int .i64 r1, .int .i64 r2] 55 rfl; simp only [World.size_alloc] at this; exact this)); rw [hW8, hbp, hbq])
      | (obtain ⟨bp, hbp⟩ : ∃ bp, V4.heap.size = bp := ⟨_, rfl⟩; obtain ⟨bq, hbq⟩ : ∃ bq, V5.heap.size = bq := ⟨_, rfl⟩; obtain ⟨W8, hW8⟩ : ∃ W8, (((((V5).alloc (.cells #[.int .i64 0, .int .i64 0] 55)).setCell ⟨V4.heap.size, 0, none⟩ (.int .i64 r1)).setCell ⟨V4.heap.size, 1, none⟩ (.int .i64 r2)).setCell ⟨V5.heap.size, 0, none⟩ (.int .i64 s1)).setCell ⟨V5.heap.size, 1, none⟩ (.int .i64 s2) = W8 := ⟨_, rfl⟩; have HD' : Hid (DK B pl pw [(bp, .cells #[.int .i64 r1, .int .i64 r2] 55 (0, 0)), (bq, .cells #[.int .i64 s1, .int .i64 s2] 55 (0, 0)), (b8, .cells #[.int .i64 u1, .int .i64 u2] 55 (0, 0)), (b6, .cells #[.int .i64 z1, .int .i64 z2] 55 (0, 0)), (b3, .cells #[.int .u32 m1, .int .u16 m2, .int .i64 m3, .int .i64 m4] 68 (0, 0))] [(v2, t), (v1, g)] l c a w W8) := Lib.hid (by rw [← hW8, ← hbp, ← hbq]; exact (((((HD.out.new #[.int .i64 0, .int .i64 0] 55 rfl).swap.turn2 (by decide) _ _).swap).turn2 (by decide) _ _).swap)); rw [hW8, hbp, hbq])
      | (obtain ⟨bp, hbp⟩ : ∃ bp, V5.heap.size = bp := ⟨_, rfl⟩; obtain ⟨bq, hbq⟩ : ∃ bq, V4.heap.size = bq := ⟨_, rfl⟩; obtain ⟨W8, hW8⟩ : ∃ W8, (((V5).alloc (.cells #[.int .i64 r1, .int .i64 r2] 55)).setCell ⟨V4.heap.size, 0, none⟩ (.int .i64 s1)).setCell ⟨V4.heap.size, 1, none⟩ (.int .i64 s2) = W8 := ⟨_, rfl⟩; have HD' : Hid (DK B pl pw [(bp, .cells #[.int .i64 r1, .int .i64 r2] 55 (0, 0)), (bq, .cells #[.int .i64 s1, .int .i64 s2] 55 (0, 0)), (b8, .cells #[.int .i64 u1, .int .i64 u2] 55 (0, 0)), (b6, .cells #[.int .i64 z1, .int .i64 z2] 55 (0, 0)), (b3, .cells #[.int .u32 m1, .int .u16 m2, .int .i64 m3, .int .i64 m4] 68 (0, 0))] [(v2, t), (v1, g)] l c a w W8) := Lib.hid (by rw [← hW8, ← hbp, ← hbq]; exact (((HD.out.new #[.int .i64 r1, .int .i64 r2] 55 rfl).swap.turn2 (by decide) _ _).swap)); rw [hW8, hbp, hbq])
      | (obtain ⟨bp, hbp⟩ : ∃ bp, V4.heap.size = bp := ⟨_, rfl⟩; obtain ⟨bq, hbq⟩ : ∃ bq, V4.heap.size + 1 = bq := ⟨_, rfl⟩; obtain ⟨W8, hW8⟩ : ∃ W8, ((((V5).setCell ⟨V4.heap.size, 0, none⟩ (.int .i64 r1)).setCell ⟨V4.heap.size, 1, none⟩ (.int .i64 r2)).setCell ⟨V4.heap.size + 1, 0, none⟩ (.int .i64 s1)).setCell ⟨V4.heap.size + 1, 1, none⟩ (.int .i64 s2) = W8 := ⟨_, rfl⟩; have HD' : Hid (DK B pl pw [(bp, .cells #[.int .i64 r1, .int .i64 r2] 55 (0, 0)), (bq, .cells #[.int .i64 s1, .int .i64 s2] 55 (0, 0)), (b8, .cells #[.int .i64 u1, .int .i64 u2] 55 (0, 0)), (b6, .cells #[.int .i64 z1, .int .i64 z2] 55 (0, 0)), (b3, .cells #[.int .u32 m1, .int .u16 m2, .int .i64 m3, .int .i64 m4] 68 (0, 0))] [(v2, t), (v1, g)] l c a w W8) := Lib.hid (by rw [← hW8, ← hbp, ← hbq]; exact ((((HD.out.swap.turn2 (by decide) _ _).swap).turn2 (by decide) _ _).swap)); rw [hW8, hbq, hbp])
      | (obtain ⟨bp, hbp⟩ : ∃ bp, V4.heap.size + 1 = bp := ⟨_, rfl⟩; obtain ⟨bq, hbq⟩ : ∃ bq, V4.heap.size = bq := ⟨_, rfl⟩; obtain ⟨W8, hW8⟩ : ∃ W8, ((((V5).setCell ⟨V4.heap.size + 1, 0, none⟩ (.int .i64 r1)).setCell ⟨V4.heap.size + 1, 1, none⟩ (.int .i64 r2)).setCell ⟨V4.heap.size, 0, none⟩ (.int .i64 s1)).setCell ⟨V4.heap.size, 1, none⟩ (.int .i64 s2) = W8 := ⟨_, rfl⟩; have HD' : Hid (DK B pl pw [(bp, .cells #[.int .i64 r1, .int .i64 r2] 55 (0, 0)), (bq, .cells #[.int .i64 s1, .int .i64 s2] 55 (0, 0)), (b8, .cells #[.int .i64 u1, .int .i64 u2] 55 (0, 0)), (b6, .cells #[.int .i64 z1, .int .i64 z2] 55 (0, 0)), (b3, .cells #[.int .u32 m1, .int .u16 m2, .int .i64 m3, .int .i64 m4] 68 (0, 0))] [(v2, t), (v1, g)] l c a w W8) := Lib.hid (by rw [← hW8, ← hbp, ← hbq]; exact ((((HD.out.turn2 (by decide) _ _).swap).turn2 (by decide) _ _).swap)); rw [hW8, hbp, hbq])
      | (obtain ⟨bp, hbp⟩ : ∃ bp, b7 = bp := ⟨_, rfl⟩; obtain ⟨bq, hbq⟩ : ∃ bq, V5.heap.size = bq := ⟨_, rfl⟩; obtain ⟨W8, hW8⟩ : ∃ W8, (((((V5).alloc (.cells #[.int .i64 0, .int .i64 0] 55)).setCell ⟨b7, 0, none⟩ (.int .i64 r1)).setCell ⟨b7, 1, none⟩ (.int .i64 r2)).setCell ⟨V5.heap.size, 0, none⟩ (.int .i64 s1)).setCell ⟨V5.heap.size, 1, none⟩ (.int .i64 s2) = W8 := ⟨_, rfl⟩; have HD' : Hid (DK B pl pw [(bp, .cells #[.int .i64 r1, .int .i64 r2] 55 (0, 0)), (bq, .cells #[.int .i64 s1, .int .i64 s2] 55 (0, 0)), (b8, .cells #[.int .i64 u1, .int .i64 u2] 55 (0, 0)), (b6, .cells #[.int .i64 z1, .int .i64 z2] 55 (0, 0)), (b3, .cells #[.int .u32 m1, .int .u16 m2, .int .i64 m3, .int .i64 m4] 68 (0, 0))] [(v2, t), (v1, g)] l c a w W8) := Lib.hid (by rw [← hW8, ← hbp, ← hbq]; exact (((((HD.out.new #[.int .i64 0, .int .i64 0] 55 rfl).swap.turn2 (by decide) _ _).swap).turn2 (by decide) _ _).swap)); rw [hW8, hbp, hbq])
      | (obtain ⟨bp, hbp⟩ : ∃ bp, V5.heap.size = bp := ⟨_, rfl⟩; obtain ⟨bq, hbq⟩ : ∃ bq, b7 = bq := ⟨_, rfl⟩; obtain ⟨W8, hW8⟩ : ∃ W8, (((V5).alloc (.cells #[.int .i64 r1, .int .i64 r2] 55)).setCell ⟨b7, 0, none⟩ (.int .i64 s1)).setCell ⟨b7, 1, none⟩ (.int .i64 s2) = W8 := ⟨_, rfl⟩; have HD' : Hid (DK B pl pw [(bp, .cells #[.int .i64 r1, .int .i64 r2] 55 (0, 0)), (bq, .cells #[.int .i64 s1, .int .i64 s2] 55 (0, 0)), (b8, .cells #[.int .i64 u1, .int .i64 u2] 55 (0, 0)), (b6, .cells #[.int .i64 z1, .int .i64 z2] 55 (0, 0)), (b3, .cells #[.int .u32 m1, .int .u16 m2, .int .i64 m3, .int .i64 m4] 68 (0, 0))] [(v2, t), (v1, g)] l c a w W8) := Lib.hid (by rw [← hW8, ← hbp, ← hbq]; exact (((HD.out.new #[.int .i64 r1, .int .i64 r2] 55 rfl).swap.turn2 (by decide) _ _).swap)); rw [hW8, hbp, hbq])
      | (obtain ⟨bp, hbp⟩ : ∃ bp, b7 = bp := ⟨_, rfl⟩; obtain ⟨bq, hbq⟩ : ∃ bq, V4.heap.size = bq := ⟨_, rfl⟩; obtain ⟨W8, hW8⟩ : ∃ W8, ((((V5).setCell ⟨b7, 0, none⟩ (.int .i64 r1)).setCell ⟨b7, 1, none⟩ (.int .i64 r2)).setCell ⟨V4.heap.size, 0, none⟩ (.int .i64 s1)).setCell ⟨V4.heap.size, 1, none⟩ (.int .i64 s2) = W8 := ⟨_, rfl⟩; have HD' : Hid (DK B pl pw [(bp, .cells #[.int .i64 r1, .int .i64 r2] 55 (0, 0)), (bq, .cells #[.int .i64 s1, .int .i64 s2] 55 (0, 0)), (b8, .cells #[.int .i64 u1, .int .i64 u2] 55 (0, 0)), (b6, .cells #[.int .i64 z1, .int .i64 z2] 55 (0, 0)), (b3, .cells #[.int .u32 m1, .int .u16 m2, .int .i64 m3, .int .i64 m4] 68 (0, 0))] [(v2, t), (v1, g)] l c a w W8) := Lib.hid (by rw [← hW8, ← hbp, ← hbq]; exact ((((HD.out.swap.turn2 (by decide) _ _).swap).turn2 (by decide) _ _).swap)); rw [hW8, hbp, hbq])
      | (obtain ⟨bp, hbp⟩ : ∃ bp, V4.heap.size = bp := ⟨_, rfl⟩; obtain ⟨bq, hbq⟩ : ∃ bq, b7 = bq := ⟨_, rfl⟩; obtain ⟨W8, hW8⟩ : ∃ W8, ((((V5).setCell ⟨V4.heap.size, 0, none⟩ (.int .i64 r1)).setCell ⟨V4.heap.size, 1, none⟩ (.int .i64 r2)).setCell ⟨b7, 0, none⟩ (.int .i64 s1)).setCell ⟨b7, 1, none⟩ (.int .i64 s2) = W8 := ⟨_, rfl⟩; have HD' : Hid (DK B pl pw [(bp, .cells #[.int .i64 r1, .int .i64 r2] 55 (0, 0)), (bq, .cells #[.int .i64 s1, .int .i64 s2] 55 (0, 0)), (b8, .cells #[.int .i64 u1, .int .i64 u2] 55 (0, 0)), (b6, .cells #[.int .i64 z1, .int .i64 z2] 55 (0, 0)), (b3, .cells #[.int .u32 m1, .int .u16 m2, .int .i64 m3, .int .i64 m4] 68 (0, 0))] [(v2, t), (v1, g)] l c a w W8) := Lib.hid (by rw [← hW8, ← hbp, ← hbq]; exact ((((HD.out.turn2 (by decide) _ _).swap).turn2 (by decide) _ _).swap)); rw [hW8, hbp, hbq])
      | (obtain ⟨bp, hbp⟩ : ∃ bp, b7 = bp := ⟨_, rfl⟩; obtain ⟨bq, hbq⟩ : ∃ bq, b7 + 1 = bq := ⟨_, rfl⟩; obtain ⟨W8, hW8⟩ : ∃ W8, ((((V5).setCell ⟨b7, 0, none⟩ (.int .i64 r1)).setCell ⟨b7, 1, none⟩ (.int .i64 r2)).setCell ⟨b7 + 1, 0, none⟩ (.int .i64 s1)).setCell ⟨b7 + 1, 1, none⟩ (.int .i64 s2) = W8 := ⟨_, rfl⟩; have HD' : Hid (DK B pl pw [(bp, .cells #[.int .i64 r1, .int .i64 r2] 55 (0, 0)), (bq, .cells #[.int .i64 s1, .int .i64 s2] 55 (0, 0)), (b8, .cells #[.int .i64 u1, .int .i64 u2] 55 (0, 0)), (b6, .cells #[.int .i64 z1, .int .i64 z2] 55 (0, 0)), (b3, .cells #[.int .u32 m1, .int .u16 m2, .int .i64 m3, .int .i64 m4] 68 (0, 0))] [(v2, t), (v1, g)] l c a w W8) := Lib.hid (by rw [← hW8, ← hbp, ← hbq]; exact ((((HD.out.swap.turn2 (by decide) _ _).swap).turn2 (by decide) _ _).swap)); rw [hW8, hbq, hbp])
      | (obtain ⟨bp, hbp⟩ : ∃ bp, b7 + 1 = bp := ⟨_, rfl⟩; obtain ⟨bq, hbq⟩ : ∃ bq, b7 = bq := ⟨_, rfl⟩; obtain ⟨W8, hW8⟩ : ∃ W8, ((((V5).setCell ⟨b7 + 1, 0, none⟩ (.int .i64 r1)).setCell ⟨b7 + 1, 1, none⟩ (.int .i64 r2)).setCell ⟨b7, 0, none⟩ (.int .i64 s1)).setCell ⟨b7, 1, none⟩ (.int .i64 s2) = W8 := ⟨_, rfl⟩; have HD' : Hid (DK B pl pw [(bp, .cells #[.int .i64 r1, .int .i64 r2] 55 (0, 0)), (bq, .cells #[.int .i64 s1, .int .i64 s2] 55 (0, 0)), (b8, .cells #[.int .i64 u1, .int .i64 u2] 55 (0, 0)), (b6, .cells #[.int .i64 z1, .int .i64 z2] 55 (0, 0)), (b3, .cells #[.int .u32 m1, .int .u16 m2, .int .i64 m3, .int .i64 m4] 68 (0, 0))] [(v2, t), (v1, g)] l c a w W8) := Lib.hid (by rw [← hW8, ← hbp, ← hbq]; exact ((((HD.out.turn2 (by decide) _ _).swap).turn2 (by decide) _ _).swap)); rw [hW8, hbp, hbq]))
    all_goals
      clear HD; have HD := HD'; clear HD'
      try clear HE
      try clear HF
      try clear jx_f0 jx_f1 jx_ff
      try clear jx_g0 jx_g1 jx_gf
      try clear jx_u0 jx_u1 jx_uf
      try clear ug1 ug2
      clear hW8 hbp hbq
      try clear hn0_pw hn0_b6 hn0_b8 hn0_b3
      try clear hn1_pw hn1_b6 hn1_b8 hn1_b3
      try clear hk0_pw hk0_b6 hk0_b8 hk0_b3
      try clear hk1_pw hk1_b6 hk1_b8 hk1_b3
      try clear hv_pw hv_b6 hv_b8 hv_b3
      try clear p2 pb60 pb61 pb80 pb81 pb30 pb31 pb32 pb33
      try clear q2 qb60 qb61 qb80 qb81 qb30 qb31 qb32 qb33
      try clear hb7
      try clear hHeld
      by_cases hz : te = 0
      · subst hz
        have hR := HR.out
        rw [if_pos rfl] at hR
        clear HR
        have HR := Lib.hid hR
        clear hR
        go_wp2_with fail
        have p2 : W8.cell? ⟨pw, 2, none⟩ = some (.int .u32 c.a) := HD.out.cell 2
        have pbp0 : W8.cell? ⟨bp, 0, none⟩ = some (.int .i64 r1) := HD.out.blk (List.Mem.head _) 0
        have pbp1 : W8.cell? ⟨bp, 1, none⟩ = some (.int .i64 r2) := HD.out.blk (List.Mem.head _) 1
        have HD' := Lib.hid (HD.out.drew); clear HD; have HD := HD'; clear HD'
        go_region_held3 (fun W' => W'.cell? ⟨pw, 2, none⟩ = some (.int .u32 c.a) ∧ W'.cell? ⟨bp, 0, none⟩ = some (.int .i64 r1) ∧ W'.cell? ⟨bp, 1, none⟩ = some (.int .i64 r2))
          (first | with_reducible exact ⟨q2, qbp0, qbp1⟩ | with_reducible exact ⟨p2, pbp0, pbp1⟩ | with_reducible exact ⟨cell_drew p2, cell_drew pbp0, cell_drew pbp1⟩)
          (first | (go_at_call 97; (with_reducible refine (KZ.out _ HD.out.wk).mono ?_); rintro e V6 ⟨rfl, hb⟩; have HD' := Lib.hid (HD.out.write hb); clear HD hb; have HD := HD'; clear HD'; have q2 : V6.cell? ⟨pw, 2, none⟩ = some (.int .u32 c.a) := HD.out.cell 2; have qbp0 : V6.cell? ⟨bp, 0, none⟩ = some (.int .i64 r1) := HD.out.blk (List.Mem.head _) 0; have qbp1 : V6.cell? ⟨bp, 1, none⟩ = some (.int .i64 r2) := HD.out.blk (List.Mem.head _) 1))
        try clear p2 pbp0 pbp1
        try clear q2 qbp0 qbp1
        have rb30 : V6.cell? ⟨b3, 0, none⟩ = some (.int .u32 m1) := HD.out.blk (List.Mem.tail _ (List.Mem.tail _ (List.Mem.tail _ (List.Mem.tail _ (List.Mem.head _))))) 0
        have rbq0 : V6.cell? ⟨bq, 0, none⟩ = some (.int .i64 s1) := HD.out.blk (List.Mem.tail _ (List.Mem.head _)) 0
        have rbq1 : V6.cell? ⟨bq, 1, none⟩ = some (.int .i64 s2) := HD.out.blk (List.Mem.tail _ (List.Mem.head _)) 1
        go_wp2_with fail
        refine (KY.out _ HD.out.wk).mono ?_
        rintro e V7 ⟨rfl, hb⟩
        have HD' := Lib.hid (HD.out.write hb); clear HD hb; have HD := HD'; clear HD'
        try clear rb30 rbq0 rbq1
        go_wp2_with fail
        have p2 : V7.cell? ⟨pw, 2, none⟩ = some (.int .u32 c.a) := HD.out.cell 2
        have pb31 : V7.cell? ⟨b3, 1, none⟩ = some (.int .u16 m2) := HD.out.blk (List.Mem.tail _ (List.Mem.tail _ (List.Mem.tail _ (List.Mem.tail _ (List.Mem.head _))))) 1
        have HD' := Lib.hid (HD.out.drew); clear HD; have HD := HD'; clear HD'
        go_region_held3 (fun W' => W'.cell? ⟨pw, 2, none⟩ = some (.int .u32 c.a) ∧ W'.cell? ⟨b3, 1, none⟩ = some (.int .u16 m2))
          (first | with_reducible exact ⟨q2, qb31⟩ | with_reducible exact ⟨p2, pb31⟩ | with_reducible exact ⟨cell_drew p2, cell_drew pb31⟩)
          (first | (go_at_call 109; (with_reducible refine (KS.out _ _ HD.out.wk (HD.out.sees (List.Mem.head _))).mono ?_); rintro e V8 ⟨rfl, hb⟩; have HD' := Lib.hid (HD.out.write hb); clear HD hb; have HD := HD'; clear HD'; have q2 : V8.cell? ⟨pw, 2, none⟩ = some (.int .u32 c.a) := HD.out.cell 2; have qb31 : V8.cell? ⟨b3, 1, none⟩ = some (.int .u16 m2) := HD.out.blk (List.Mem.tail _ (List.Mem.tail _ (List.Mem.tail _ (List.Mem.tail _ (List.Mem.head _))))) 1))
        try clear p2 pb31
        try clear q2 qb31
        have p0 : V8.cell? ⟨pw, 0, none⟩ = some (.iface 45 (.pointer (some ⟨pl, 0, none⟩))) := HD.out.cell 0
        go_wp2_with fail
        refine (KX.out _ HD.out.wk).mono ?_
        rintro e V9 ⟨rfl, hb⟩
        have HD' := Lib.hid (HD.out.write hb); clear HD hb; have HD := HD'; clear HD'
        go_wp2
        go_ret
        have hE := HR.out
        subst hE
        exact HD.out.ds.nil
      · have hz' : (te == 0) = false := by simpa using hz
        have hz2 : (te != 0) = true := by simpa using hz
        have hR := HR.out
        rw [if_neg hz] at hR
        clear HR
        have HR := Lib.hid hR
        clear hR
        have HO := Lib.hid (wof_new te W8)
        go_wp2_with fail
        refine HO.out.mono ?_
        rintro e V9 ⟨v9, rfl, hv9, hb9⟩
        have HV := Lib.hid (HD.out.ds.done hb9 hv9)
        clear hv9 hb9
        go_wp2
        go_ret
        have hE := HR.out
        subst hE
        exact HV.out
  · have hz' : (xe == 0) = false := by simpa using hz
    have hz2 : (xe != 0) = true := by simpa using hz
    have hR := HR.out
    rw [if_neg hz] at hR
    clear HR
    have HR := Lib.hid hR
    clear hR
    have HO := Lib.hid (wof_new xe W3)
    go_wp2_with fail
    refine HO.out.mono ?_
    rintro e V9 ⟨v9, rfl, hv9, hb9⟩
    have HV := Lib.hid (HD.out.ds.done hb9 hv9)
    clear hv9 hb9
    go_wp2
    go_ret
    have hE := HR.out
    subst hE
    exact HV.out
end Go.Proofs.YtmkcbkdbdcnoiaaGreatDoor
namespace Go.Proofs.YtmkcbkdbdcnoiaaGreatDoor
open Go.RowKit
set_option linter.unusedVariables false
set_option linter.unusedSimpArgs false

/-- What the deed of a number comes to. -/
def deedF (l : List Par) (c : Cmd) (a : Ans) : Nat → List Par × Ans × Int
  | 0 => ((opF l c).1, a, (opF l c).2)
  | 1 => ((miF l c).1, a, (miF l c).2)
  | 2 => ((buF l c).1, a, (buF l c).2)
  | 3 => ((maF l c).1, a, (maF l c).2)
  | 4 => ((brF l c).1, a, (brF l c).2)
  | 5 => ((pyF l c).1, a, (pyF l c).2)
  | 6 => ((chF (doesF depositsF) l c).1, a, (chF (doesF depositsF) l c).2)
  | 7 => ((chF (doesF withdrawsF) l c).1, a, (chF (doesF withdrawsF) l c).2)
  | 8 => ((giF l c).1, a, (giF l c).2)
  | 9 => seF l c a
  | 10 => ((clF l c).1, a, (clF l c).2)
  | 11 => ((baF l c).1, a, (baF l c).2)
  | 12 => liF l c a
  | 13 => ((byF l c).1, a, (byF l c).2)
  | 14 => ((caF l c).1, a, (caF l c).2)
  | 15 => (l, (a.1, (acF l c.a).1.1, (acF l c.a).1.2), 0)
  | 16 => (l, (a.1, gCount (goF l c.a) c.item, a.2.2), 0)
  | 17 => (l, tmF (unF l 3 c.a) a, 0)
  | _ => (l, (toF l c a).1, (toF l c a).2)
theorem deed_any (i : Nat) (hi : i < 19) (B pl pw n : Nat) (l : List Par) (c : Cmd) (a : Ans) (w : World) (hW : Wk B pl pw l c a w) (hO : Ok n l) (hn : n < 99990) (hc : CmdOk c) :
    Calls Tryz.prog (46 + i) #[.pointer (some ⟨pw, 0, none⟩)] w fun e w' => DP B pl pw c (deedF l c a i) w e w' := by
  have h : i = 0 ∨ i = 1 ∨ i = 2 ∨ i = 3 ∨ i = 4 ∨ i = 5 ∨ i = 6 ∨ i = 7 ∨ i = 8 ∨ i = 9 ∨ i = 10 ∨ i = 11 ∨ i = 12 ∨ i = 13 ∨ i = 14 ∨ i = 15 ∨ i = 16 ∨ i = 17 ∨ i = 18 := by omega
  rcases h with rfl | rfl | rfl | rfl | rfl | rfl | rfl | rfl | rfl | rfl | rfl | rfl | rfl | rfl | rfl | rfl | rfl | rfl | rfl
  · exact wopen_any B pl pw n l c a w hW hO (by omega) hc
  · exact wmint_any B pl pw n l c a w hW hO (by omega) hc
  · exact wburn_any B pl pw n l c a w hW hO (by omega) hc
  · exact wmakes_any B pl pw n l c a w hW hO (by omega) hc
  · exact wbreaks_any B pl pw n l c a w hW hO (by omega) hc
  · exact wpay_any B pl pw n l c a w hW hO (by omega) hc
  · exact wdeposit_any B pl pw n l c a w hW hO (by omega) hc
  · exact wwithdraw_any B pl pw n l c a w hW hO (by omega) hc
  · exact wgive_any B pl pw n l c a w hW hO (by omega) hc
  · exact wsend_any B pl pw n l c a w hW hO (by omega) hc
  · exact wclaim_any B pl pw n l c a w hW hO (by omega) hc
  · exact wback_any B pl pw n l c a w hW hO (by omega) hc
  · exact wlists_any B pl pw n l c a w hW hO (by omega) hc
  · exact wbuy_any B pl pw n l c a w hW hO (by omega) hc
  · exact wcancel_any B pl pw n l c a w hW hO (by omega) hc
  · exact wtellAccount_any B pl pw n l c a w hW hO (by omega) hc
  · exact wtellCount_any B pl pw n l c a w hW hO (by omega) hc
  · exact wtellMails_any B pl pw n l c a w hW hO (by omega) hc
  · exact wtellTotal_any B pl pw n l c a w hW hO (by omega) hc
theorem opF_ok {n : Nat} {l : List Par} {c : Cmd} (hO : Ok n l) : Ok (n + 4) (opF l c).1 := by
  unfold opF
  split
  · exact hO.mono (by omega)
  · split
    · exact hO.mono (by omega)
    · exact (saA_ok hO c.a (0, 0)).mono (by omega)
theorem miF_ok {n : Nat} {l : List Par} {c : Cmd} (hO : Ok n l) : Ok (n + 4) (miF l c).1 := by
  unfold miF
  split
  · split
    · exact (snK_ok (saA_ok hO _ _) _ _ _ _ _).mono (by omega)
    · exact hO.mono (by omega)
  · exact hO.mono (by omega)
theorem buF_ok {n : Nat} {l : List Par} {c : Cmd} (hO : Ok n l) : Ok (n + 4) (buF l c).1 := by
  unfold buF
  split
  · exact (snK_ok (chF_ok _ hO) _ _ _ _ _).mono (by omega)
  · exact (chF_ok _ hO).mono (by omega)
theorem maF_ok {n : Nat} {l : List Par} {c : Cmd} (hO : Ok n l) : Ok (n + 4) (maF l c).1 := by
  unfold maF
  split
  · exact hO.mono (by omega)
  · split
    · split
      · exact (snK_ok (sgF_ok hO _ _ _) _ _ _ _ _).mono (by omega)
      · exact hO.mono (by omega)
    · exact hO.mono (by omega)
theorem brF_ok {n : Nat} {l : List Par} {c : Cmd} (hO : Ok n l) : Ok (n + 4) (brF l c).1 := by
  unfold brF
  split
  · exact (snK_ok (sgF_ok hO _ _ _) _ _ _ _ _).mono (by omega)
  · exact hO.mono (by omega)
theorem pyF_ok {n : Nat} {l : List Par} {c : Cmd} (hO : Ok n l) : Ok (n + 4) (pyF l c).1 := by
  unfold pyF
  split
  · split
    · exact (saA_ok (saA_ok hO _ _) _ _).mono (by omega)
    · exact hO.mono (by omega)
  · exact hO.mono (by omega)
theorem giF_ok {n : Nat} {l : List Par} {c : Cmd} (hO : Ok n l) : Ok (n + 4) (giF l c).1 := by
  unfold giF
  split
  · split
    · exact (sgF_ok (sgF_ok hO _ _ _) _ _ _).mono (by omega)
    · exact hO.mono (by omega)
  · exact hO.mono (by omega)
theorem seF_ok {n : Nat} {l : List Par} {c : Cmd} {a : Ans} (hO : Ok n l) : Ok (n + 4) (seF l c a).1 := by
  unfold seF
  split
  · split
    · split
      · exact ((snK_ok (sgF_ok (saA_ok hO _ _) _ _ _) _ _ _ _ _).put (kKey_len _ _ _ _) (Nat.le_trans (mlBytes_len _) (by omega))).mono (by omega)
      · exact hO.mono (by omega)
    · exact hO.mono (by omega)
  · exact hO.mono (by omega)
theorem clF_ok {n : Nat} {l : List Par} {c : Cmd} (hO : Ok n l) : Ok (n + 4) (clF l c).1 := by
  unfold clF
  split
  · split
    · split
      · exact ((sgF_ok (saA_ok hO _ _) _ _ _).del).mono (by omega)
      · exact ((saA_ok hO _ _).del).mono (by omega)
    · exact hO.mono (by omega)
  · exact hO.mono (by omega)
theorem baF_ok {n : Nat} {l : List Par} {c : Cmd} (hO : Ok n l) : Ok (n + 4) (baF l c).1 := by
  unfold baF
  split
  · exact (hO.del.put (kKey_len _ _ _ _) (Nat.le_trans (mlBytes_len _) (by omega))).mono (by omega)
  · exact hO.mono (by omega)
theorem liF_ok {n : Nat} {l : List Par} {c : Cmd} {a : Ans} (hO : Ok n l) : Ok (n + 4) (liF l c a).1 := by
  unfold liF
  split
  · split
    · exact ((snK_ok (sgF_ok hO _ _ _) _ _ _ _ _).put (kKey_len _ _ _ _) (Nat.le_trans (slBytes_len _) (by omega))).mono (by omega)
    · exact hO.mono (by omega)
  · exact hO.mono (by omega)
theorem byF_ok {n : Nat} {l : List Par} {c : Cmd} (hO : Ok n l) : Ok (n + 4) (byF l c).1 := by
  unfold byF
  split
  · split
    · exact ((sgF_ok (saA_ok (saA_ok hO _ _) _ _) _ _ _).del).mono (by omega)
    · exact hO.mono (by omega)
  · exact hO.mono (by omega)
theorem caF_ok {n : Nat} {l : List Par} {c : Cmd} (hO : Ok n l) : Ok (n + 4) (caF l c).1 := by
  unfold caF
  split
  · split
    · exact ((sgF_ok hO _ _ _).del).mono (by omega)
    · exact hO.mono (by omega)
  · exact hO.mono (by omega)
theorem deedF_ok {n : Nat} {l : List Par} {c : Cmd} {a : Ans} (hO : Ok n l) (i : Nat) : Ok (n + 4) (deedF l c a i).1 := by
  unfold deedF
  split
  · exact opF_ok hO
  · exact miF_ok hO
  · exact buF_ok hO
  · exact maF_ok hO
  · exact brF_ok hO
  · exact pyF_ok hO
  · exact (chF_ok _ hO).mono (by omega)
  · exact (chF_ok _ hO).mono (by omega)
  · exact giF_ok hO
  · exact seF_ok hO
  · exact clF_ok hO
  · exact baF_ok hO
  · exact liF_ok hO
  · exact byF_ok hO
  · exact caF_ok hO
  all_goals exact hO.mono (by omega)
end Go.Proofs.YtmkcbkdbdcnoiaaGreatDoor
