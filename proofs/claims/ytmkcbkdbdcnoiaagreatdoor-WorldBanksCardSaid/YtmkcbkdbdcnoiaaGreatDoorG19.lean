/- Package world: claim. Package world: lists. -/
import Derived.Test.YtmkcbkdbdcnoiaaGreatDoorG18
namespace Go.Proofs.YtmkcbkdbdcnoiaaGreatDoor
open Go.RowKit
set_option linter.unusedVariables false
set_option linter.unusedSimpArgs false

theorem mClaim_length (a : Acc) (l : List Stk) (m : Ml) : (mClaim a l m).2.1.length ≤ l.length + 1 := by
  have h := gGive_length l (m.2.2.1, m.2.2.2)
  unfold mClaim mDone
  split <;> (try split) <;> (try split) <;> (try split) <;> (try split) <;> simp <;> omega
theorem mSend_length (a : Acc) (l : List Stk) (m : Ml) : (mSend a l m).2.1.length ≤ l.length + 1 := by
  have h := gTake_length l (m.2.2.1, m.2.2.2)
  unfold mSend mDone
  split <;> (try split) <;> (try split) <;> (try split) <;> (try split) <;> simp <;> omega
/-- What claiming comes to. -/
def clF (l : List Par) (c : Cmd) : List Par × Int :=
  if (poF l c).2.2 = 0 then
    if (mClaim (acF l c.a).1 (goF l c.a) (poF l c).1).2.2 = 0 then
      (if 0 < (poF l c).1.2.2.2 then (del (sgF (saA l c.a (mClaim (acF l c.a).1 (goF l c.a) (poF l c).1).1) c.a (mClaim (acF l c.a).1 (goF l c.a) (poF l c).1).2.1 (poF l c).1.2.2.1) (poF l c).2.1, 0)
      else (del (saA l c.a (mClaim (acF l c.a).1 (goF l c.a) (poF l c).1).1) (poF l c).2.1, 0))
    else (l, (mClaim (acF l c.a).1 (goF l c.a) (poF l c).1).2.2)
  else (l, (poF l c).2.2)

set_option maxHeartbeats 4000000 in
set_option maxRecDepth 100000 in
theorem wclaim_any (B pl pw n : Nat) (l : List Par) (c : Cmd) (a : Ans) (w : World) (hW : Wk B pl pw l c a w) (hO : Ok n l) (hn : n < 99999) (hc : CmdOk c) :
    Calls Tryz.prog 56 #[.pointer (some ⟨pw, 0, none⟩)] w fun e w' => DP B pl pw c ((clF l c).1, a, (clF l c).2) w e w' := by
  obtain ⟨R, hR⟩ : ∃ R, clF l c = R := ⟨_, rfl⟩
  rw [hR]
  unfold clF at hR
  have hP := fun V (h : Wk B pl pw l c a V) => wpost_any B pl pw n l c a V h hO (by omega) hc
  have hsr := poF_rng l c
  generalize poF l c = m at hP hR hsr
  obtain ⟨⟨m1, m2, m3, m4⟩, k, xe⟩ := m
  dsimp only at hR hsr
  have hA := fun V (h : Wk B pl pw l c a V) => waccount_any B pl pw n l c a c.a V h hO (by omega) hc.a
  generalize (acF l c.a).2 = ae at hA
  generalize (acF l c.a).1 = x at hA hR
  have hG := fun V (h : Wk B pl pw l c a V) => wgoods_any B pl pw n l c a c.a V h hO (by omega) hc.a
  have hgl := goF_len l c.a
  generalize goF l c.a = g at hG hgl hR
  have hT := fun V v (h0 : Sees V v g.length 2 (stks g)) (h2 : Glob V) => mailClaim_any x g (m1, m2, m3, m4) v V h0 (by omega) h2
  have htl := mClaim_length x g (m1, m2, m3, m4)
  generalize mClaim x g (m1, m2, m3, m4) = t at hT htl hR
  obtain ⟨⟨r1, r2⟩, t, te⟩ := t
  obtain ⟨x1, x2⟩ := x
  dsimp only at hR htl
  have hS := fun V (h : Wk B pl pw l c a V) => wsetAccount2 B pl pw n l c a c.a (r1, r2) V h hO (by omega) hc.a
  have hO2 := saA_ok hO c.a (r1, r2)
  generalize saA l c.a (r1, r2) = L1 at hS hO2 hR
  have hU := fun V v (h : Wk B pl pw L1 c a V) (hv : Sees V v t.length 2 (stks t)) => wsetGoods2 B pl pw (n + 1) L1 c a c.a m3 t v V h hO2 (by omega) hc.a hsr.2 hv (by omega)
  have hO3 := sgF_ok hO2 c.a t m3
  generalize sgF L1 c.a t m3 = L2 at hU hO3 hR
  have hX := fun V (h : Wk B pl pw L2 c a V) => wdel_call (k := k) h hO3 (by omega)
  have hX1 := fun V (h : Wk B pl pw L1 c a V) => wdel_call (k := k) h hO2 (by omega)
  generalize del L2 k = L3 at hX hR
  generalize del L1 k = L4 at hX1 hR
  unfold mlv sv at hP
  unfold MdPost at hT
  unfold accv at hA hT hS
  unfold mlv at hT
  unfold sv at hX hX1
  dsimp only at hT hA hP hS
  have hm := m_del
  have KP := Lib.hid hP
  have KA := Lib.hid hA
  have KG := Lib.hid hG
  have KT := Lib.hid hT
  have KS := Lib.hid hS
  have KU := Lib.hid hU
  have KX := Lib.hid hX
  have KY := Lib.hid hX1
  have HR := Lib.hid hR
  have HD := Lib.hid (DK.start hW)
  clear hP hA hG hT hS hU hX hX1 hR hO hO2 hO3 hW htl hgl hsr
  go_enter Tryz.func56, Tryz.ntmps56
  go_wp2_with fail
  refine (KP.out _ HD.out.wk).mono ?_
  rintro e V1 ⟨rfl, hb⟩
  have HD' := Lib.hid (HD.out.read hb); clear HD hb; have HD := HD'; clear HD'
  obtain ⟨b3, hb3⟩ : ∃ b3, V1.heap.size = b3 := ⟨_, rfl⟩
  obtain ⟨W3, hW3⟩ : ∃ W3, V1.alloc (.cells #[.int .u32 m1, .int .i64 m2, .int .u16 m3, .int .i64 m4] 64) = W3 := ⟨_, rfl⟩
  have HD' : Hid (DK B pl pw [(b3, .cells #[.int .u32 m1, .int .i64 m2, .int .u16 m3, .int .i64 m4] 64 (0, 0))] [] l c a w W3) := Lib.hid (by rw [← hW3, ← hb3]; exact HD.out.new _ 64 rfl)
  clear HD; have HD := HD'; clear HD'
  by_cases hz : xe = 0
  · subst hz
    have hR := HR.out
    rw [if_pos rfl] at hR
    clear HR
    have HR := Lib.hid hR
    clear hR
    have r2 : W3.cell? ⟨pw, 2, none⟩ = some (.int .u32 c.a) := HD.out.cell 2
    go_wp2_with fail
    refine (KA.out _ HD.out.wk).mono ?_
    rintro e V2 ⟨rfl, hb⟩
    have HD' := Lib.hid (HD.out.read hb); clear HD hb; have HD := HD'; clear HD'
    try clear r2 hW3 hb3
    obtain ⟨b6, hb6⟩ : ∃ b6, V2.heap.size = b6 := ⟨_, rfl⟩
    obtain ⟨W6, hW6⟩ : ∃ W6, V2.alloc (.cells #[.int .i64 x1, .int .i64 x2] 55) = W6 := ⟨_, rfl⟩
    have HD' : Hid (DK B pl pw [(b6, .cells #[.int .i64 x1, .int .i64 x2] 55 (0, 0)), (b3, .cells #[.int .u32 m1, .int .i64 m2, .int .u16 m3, .int .i64 m4] 64 (0, 0))] [] l c a w W6) := Lib.hid (by rw [← hW6, ← hb6]; exact HD.out.new _ 55 rfl)
    clear HD; have HD := HD'; clear HD'
    go_wp2_with fail
    try clear hW6 hb6
    have p2 : W6.cell? ⟨pw, 2, none⟩ = some (.int .u32 c.a) := HD.out.cell 2
    have pb60 : W6.cell? ⟨b6, 0, none⟩ = some (.int .i64 x1) := HD.out.blk (List.Mem.head _) 0
    have pb61 : W6.cell? ⟨b6, 1, none⟩ = some (.int .i64 x2) := HD.out.blk (List.Mem.head _) 1
    have pb30 : W6.cell? ⟨b3, 0, none⟩ = some (.int .u32 m1) := HD.out.blk (List.Mem.tail _ (List.Mem.head _)) 0
    have pb31 : W6.cell? ⟨b3, 1, none⟩ = some (.int .i64 m2) := HD.out.blk (List.Mem.tail _ (List.Mem.head _)) 1
    have pb32 : W6.cell? ⟨b3, 2, none⟩ = some (.int .u16 m3) := HD.out.blk (List.Mem.tail _ (List.Mem.head _)) 2
    have pb33 : W6.cell? ⟨b3, 3, none⟩ = some (.int .i64 m4) := HD.out.blk (List.Mem.tail _ (List.Mem.head _)) 3
    obtain ⟨b7, hb7⟩ : ∃ b7, W6.heap.size = b7 := ⟨_, rfl⟩
    have HE : Hid (DK B pl pw [(b7, .cells #[.int .i64 0, .int .i64 0] 55 (0, 0)), (b6, .cells #[.int .i64 x1, .int .i64 x2] 55 (0, 0)), (b3, .cells #[.int .u32 m1, .int .i64 m2, .int .u16 m3, .int .i64 m4] 64 (0, 0))] [] l c a w ((W6.alloc (.cells #[.int .i64 0, .int .i64 0] 55)).drew)) := Lib.hid (by rw [← hb7]; exact (HD.out.new _ 55 rfl).drew)
    have hn_pw : pw ≠ b7 := Ne.symm (HE.out.non _ (List.Mem.head _)).2.2.1
    have hn_b6 : b6 ≠ b7 := (show b6 ≠ b7 from (List.pairwise_cons.1 HE.out.far).1 _ (List.Mem.head _))
    have hn_b3 : b3 ≠ b7 := (show b3 ≠ b7 from (List.pairwise_cons.1 HE.out.far).1 _ (List.Mem.tail _ (List.Mem.head _)))
    have HD' := Lib.hid (HD.out.drew); clear HD; have HD := HD'; clear HD'
    go_region_held3 (fun W' => W'.cell? ⟨pw, 2, none⟩ = some (.int .u32 c.a) ∧ W'.cell? ⟨b6, 0, none⟩ = some (.int .i64 x1) ∧ W'.cell? ⟨b6, 1, none⟩ = some (.int .i64 x2) ∧ W'.cell? ⟨b3, 0, none⟩ = some (.int .u32 m1) ∧ W'.cell? ⟨b3, 1, none⟩ = some (.int .i64 m2) ∧ W'.cell? ⟨b3, 2, none⟩ = some (.int .u16 m3) ∧ W'.cell? ⟨b3, 3, none⟩ = some (.int .i64 m4))
      (first | with_reducible exact ⟨q2, qb60, qb61, qb30, qb31, qb32, qb33⟩ | with_reducible exact ⟨cell_alloc q2 _, cell_alloc qb60 _, cell_alloc qb61 _, cell_alloc qb30 _, cell_alloc qb31 _, cell_alloc qb32 _, cell_alloc qb33 _⟩ | with_reducible exact ⟨cell_drew (cell_alloc q2 _), cell_drew (cell_alloc qb60 _), cell_drew (cell_alloc qb61 _), cell_drew (cell_alloc qb30 _), cell_drew (cell_alloc qb31 _), cell_drew (cell_alloc qb32 _), cell_drew (cell_alloc qb33 _)⟩ | with_reducible exact ⟨(cell_far (cell_far q2 hn_pw _) hn_pw _), (cell_far (cell_far qb60 hn_b6 _) hn_b6 _), (cell_far (cell_far qb61 hn_b6 _) hn_b6 _), (cell_far (cell_far qb30 hn_b3 _) hn_b3 _), (cell_far (cell_far qb31 hn_b3 _) hn_b3 _), (cell_far (cell_far qb32 hn_b3 _) hn_b3 _), (cell_far (cell_far qb33 hn_b3 _) hn_b3 _)⟩ | with_reducible exact ⟨(cell_far (cell_far q2 hm_pw _) hm_pw _), (cell_far (cell_far qb60 hm_b6 _) hm_b6 _), (cell_far (cell_far qb61 hm_b6 _) hm_b6 _), (cell_far (cell_far qb30 hm_b3 _) hm_b3 _), (cell_far (cell_far qb31 hm_b3 _) hm_b3 _), (cell_far (cell_far qb32 hm_b3 _) hm_b3 _), (cell_far (cell_far qb33 hm_b3 _) hm_b3 _)⟩ | with_reducible exact ⟨p2, pb60, pb61, pb30, pb31, pb32, pb33⟩ | with_reducible exact ⟨cell_drew p2, cell_drew pb60, cell_drew pb61, cell_drew pb30, cell_drew pb31, cell_drew pb32, cell_drew pb33⟩ | with_reducible exact ⟨cell_alloc p2 _, cell_alloc pb60 _, cell_alloc pb61 _, cell_alloc pb30 _, cell_alloc pb31 _, cell_alloc pb32 _, cell_alloc pb33 _⟩ | with_reducible exact ⟨cell_drew (cell_alloc p2 _), cell_drew (cell_alloc pb60 _), cell_drew (cell_alloc pb61 _), cell_drew (cell_alloc pb30 _), cell_drew (cell_alloc pb31 _), cell_drew (cell_alloc pb32 _), cell_drew (cell_alloc pb33 _)⟩)
      (first | (go_at_call 108; (with_reducible refine (KG.out _ HD.out.wk).mono ?_); rintro e V3 ⟨v1, rfl, hv, hb⟩; have HD' := Lib.hid (HD.out.row hb hv); clear HD hb hv; have HD := HD'; clear HD'; have q2 : V3.cell? ⟨pw, 2, none⟩ = some (.int .u32 c.a) := HD.out.cell 2; have qb60 : V3.cell? ⟨b6, 0, none⟩ = some (.int .i64 x1) := HD.out.blk (List.Mem.head _) 0; have qb61 : V3.cell? ⟨b6, 1, none⟩ = some (.int .i64 x2) := HD.out.blk (List.Mem.head _) 1; have qb30 : V3.cell? ⟨b3, 0, none⟩ = some (.int .u32 m1) := HD.out.blk (List.Mem.tail _ (List.Mem.head _)) 0; have qb31 : V3.cell? ⟨b3, 1, none⟩ = some (.int .i64 m2) := HD.out.blk (List.Mem.tail _ (List.Mem.head _)) 1; have qb32 : V3.cell? ⟨b3, 2, none⟩ = some (.int .u16 m3) := HD.out.blk (List.Mem.tail _ (List.Mem.head _)) 2; have qb33 : V3.cell? ⟨b3, 3, none⟩ = some (.int .i64 m4) := HD.out.blk (List.Mem.tail _ (List.Mem.head _)) 3) | (go_at_call 108; (with_reducible refine (KG.out _ HE.out.wk).mono ?_); rintro e V3 ⟨v1, rfl, hv, hb⟩; have HD' := Lib.hid (HE.out.row hb hv); clear HD HE hb hv; have HD := HD'; clear HD'; have q2 : V3.cell? ⟨pw, 2, none⟩ = some (.int .u32 c.a) := HD.out.cell 2; have qb60 : V3.cell? ⟨b6, 0, none⟩ = some (.int .i64 x1) := HD.out.blk (List.Mem.tail _ (List.Mem.head _)) 0; have qb61 : V3.cell? ⟨b6, 1, none⟩ = some (.int .i64 x2) := HD.out.blk (List.Mem.tail _ (List.Mem.head _)) 1; have qb30 : V3.cell? ⟨b3, 0, none⟩ = some (.int .u32 m1) := HD.out.blk (List.Mem.tail _ (List.Mem.tail _ (List.Mem.head _))) 0; have qb31 : V3.cell? ⟨b3, 1, none⟩ = some (.int .i64 m2) := HD.out.blk (List.Mem.tail _ (List.Mem.tail _ (List.Mem.head _))) 1; have qb32 : V3.cell? ⟨b3, 2, none⟩ = some (.int .u16 m3) := HD.out.blk (List.Mem.tail _ (List.Mem.tail _ (List.Mem.head _))) 2; have qb33 : V3.cell? ⟨b3, 3, none⟩ = some (.int .i64 m4) := HD.out.blk (List.Mem.tail _ (List.Mem.tail _ (List.Mem.head _))) 3; have s0 := HD.out.top0; have s1 := HD.out.top1; have sf := HD.out.topf) | (go_at_call 120; (with_reducible refine (KT.out _ _ (HD.out.sees (List.Mem.head _)) HD.out.glob).mono ?_); rintro e V4 ⟨v2, rfl, hv, hb⟩; have HD' := Lib.hid (HD.out.row hb hv); clear HD hb hv; have HD := HD'; clear HD'; have q2 : V4.cell? ⟨pw, 2, none⟩ = some (.int .u32 c.a) := HD.out.cell 2; have qb60 : V4.cell? ⟨b6, 0, none⟩ = some (.int .i64 x1) := HD.out.blk (List.Mem.tail _ (List.Mem.head _)) 0; have qb61 : V4.cell? ⟨b6, 1, none⟩ = some (.int .i64 x2) := HD.out.blk (List.Mem.tail _ (List.Mem.head _)) 1; have qb30 : V4.cell? ⟨b3, 0, none⟩ = some (.int .u32 m1) := HD.out.blk (List.Mem.tail _ (List.Mem.tail _ (List.Mem.head _))) 0; have qb31 : V4.cell? ⟨b3, 1, none⟩ = some (.int .i64 m2) := HD.out.blk (List.Mem.tail _ (List.Mem.tail _ (List.Mem.head _))) 1; have qb32 : V4.cell? ⟨b3, 2, none⟩ = some (.int .u16 m3) := HD.out.blk (List.Mem.tail _ (List.Mem.tail _ (List.Mem.head _))) 2; have qb33 : V4.cell? ⟨b3, 3, none⟩ = some (.int .i64 m4) := HD.out.blk (List.Mem.tail _ (List.Mem.tail _ (List.Mem.head _))) 3; have s0 := HD.out.top0; have s1 := HD.out.top1; have sf := HD.out.topf) | (go_at_call 120; have HF := Lib.hid (HD.out.new #[.int .i64 0, .int .i64 0] 55 rfl); have hm_pw : pw ≠ V3.heap.size := Nat.ne_of_lt HD.out.wk.size.2.2; have hm_b6 : b6 ≠ V3.heap.size := Nat.ne_of_lt (show b6 < V3.heap.size from HD.out.gt (List.Mem.head _)); have hm_b3 : b3 ≠ V3.heap.size := Nat.ne_of_lt (show b3 < V3.heap.size from HD.out.gt (List.Mem.tail _ (List.Mem.head _))); (with_reducible refine (KT.out _ _ (HF.out.sees (List.Mem.head _)) HF.out.glob).mono ?_); rintro e V4 ⟨v2, rfl, hv, hb⟩; have HD' := Lib.hid (HF.out.row hb hv); clear HD HF hb hv; have HD := HD'; clear HD'; have q2 : V4.cell? ⟨pw, 2, none⟩ = some (.int .u32 c.a) := HD.out.cell 2; have qb60 : V4.cell? ⟨b6, 0, none⟩ = some (.int .i64 x1) := HD.out.blk (List.Mem.tail _ (List.Mem.head _)) 0; have qb61 : V4.cell? ⟨b6, 1, none⟩ = some (.int .i64 x2) := HD.out.blk (List.Mem.tail _ (List.Mem.head _)) 1; have qb30 : V4.cell? ⟨b3, 0, none⟩ = some (.int .u32 m1) := HD.out.blk (List.Mem.tail _ (List.Mem.tail _ (List.Mem.head _))) 0; have qb31 : V4.cell? ⟨b3, 1, none⟩ = some (.int .i64 m2) := HD.out.blk (List.Mem.tail _ (List.Mem.tail _ (List.Mem.head _))) 1; have qb32 : V4.cell? ⟨b3, 2, none⟩ = some (.int .u16 m3) := HD.out.blk (List.Mem.tail _ (List.Mem.tail _ (List.Mem.head _))) 2; have qb33 : V4.cell? ⟨b3, 3, none⟩ = some (.int .i64 m4) := HD.out.blk (List.Mem.tail _ (List.Mem.tail _ (List.Mem.head _))) 3; have s0 := HD.out.top0; have s1 := HD.out.top1; have sf := HD.out.topf) | (go_at_call 120; (with_reducible refine (KT.out _ _ (HD.out.sees (List.Mem.head _)) HD.out.glob).mono ?_); rintro e V4 ⟨v2, rfl, hv, hb⟩; have HD' := Lib.hid (HD.out.row hb hv); clear HD hb hv; have HD := HD'; clear HD'; have q2 : V4.cell? ⟨pw, 2, none⟩ = some (.int .u32 c.a) := HD.out.cell 2; have qb60 : V4.cell? ⟨b6, 0, none⟩ = some (.int .i64 x1) := HD.out.blk (List.Mem.head _) 0; have qb61 : V4.cell? ⟨b6, 1, none⟩ = some (.int .i64 x2) := HD.out.blk (List.Mem.head _) 1; have qb30 : V4.cell? ⟨b3, 0, none⟩ = some (.int .u32 m1) := HD.out.blk (List.Mem.tail _ (List.Mem.head _)) 0; have qb31 : V4.cell? ⟨b3, 1, none⟩ = some (.int .i64 m2) := HD.out.blk (List.Mem.tail _ (List.Mem.head _)) 1; have qb32 : V4.cell? ⟨b3, 2, none⟩ = some (.int .u16 m3) := HD.out.blk (List.Mem.tail _ (List.Mem.head _)) 2; have qb33 : V4.cell? ⟨b3, 3, none⟩ = some (.int .i64 m4) := HD.out.blk (List.Mem.tail _ (List.Mem.head _)) 3))
    all_goals (first
      | (obtain ⟨bq, hbq⟩ : ∃ bq, V4.heap.size = bq := ⟨_, rfl⟩; obtain ⟨W5, hW5⟩ : ∃ W5, V4.alloc (.cells #[.int .i64 r1, .int .i64 r2] 55) = W5 := ⟨_, rfl⟩; have HD' : Hid (DK B pl pw [(bq, .cells #[.int .i64 r1, .int .i64 r2] 55 (0, 0)), (b6, .cells #[.int .i64 x1, .int .i64 x2] 55 (0, 0)), (b3, .cells #[.int .u32 m1, .int .i64 m2, .int .u16 m3, .int .i64 m4] 64 (0, 0))] [(v2, t), (v1, g)] l c a w W5) := Lib.hid (by rw [← hW5, ← hbq]; exact HD.out.new _ 55 rfl); rw [hW5, hbq])
      | (obtain ⟨bq, hbq⟩ : ∃ bq, b7 = bq := ⟨_, rfl⟩; obtain ⟨W5, hW5⟩ : ∃ W5, ((V4.setCell ⟨b7, 0, none⟩ (.int .i64 r1)).setCell ⟨b7, 1, none⟩ (.int .i64 r2)) = W5 := ⟨_, rfl⟩; have HD' : Hid (DK B pl pw [(bq, .cells #[.int .i64 r1, .int .i64 r2] 55 (0, 0)), (b6, .cells #[.int .i64 x1, .int .i64 x2] 55 (0, 0)), (b3, .cells #[.int .u32 m1, .int .i64 m2, .int .u16 m3, .int .i64 m4] 64 (0, 0))] [(v2, t), (v1, g)] l c a w W5) := Lib.hid (by rw [← hW5, ← hbq]; exact HD.out.turn2 (by decide) _ _); rw [hW5, hbq])
      | (obtain ⟨bq, hbq⟩ : ∃ bq, V3.heap.size = bq := ⟨_, rfl⟩; obtain ⟨W5, hW5⟩ : ∃ W5, ((V4.setCell ⟨V3.heap.size, 0, none⟩ (.int .i64 r1)).setCell ⟨V3.heap.size, 1, none⟩ (.int .i64 r2)) = W5 := ⟨_, rfl⟩; have HD' : Hid (DK B pl pw [(bq, .cells #[.int .i64 r1, .int .i64 r2] 55 (0, 0)), (b6, .cells #[.int .i64 x1, .int .i64 x2] 55 (0, 0)), (b3, .cells #[.int .u32 m1, .int .i64 m2, .int .u16 m3, .int .i64 m4] 64 (0, 0))] [(v2, t), (v1, g)] l c a w W5) := Lib.hid (by rw [← hW5, ← hbq]; exact HD.out.turn2 (by decide) _ _); rw [hW5, hbq]))
    all_goals
      clear HD; have HD := HD'; clear HD'
      try clear HE
      try clear sf
      try clear s0 s1
      clear hW5 hbq
      try clear p2 pb60 pb61 pb30 pb31 pb32 pb33
      try clear q2 qb60 qb61 qb30 qb31 qb32 qb33
      try clear hn_pw hn_b6 hn_b3
      try clear hm_pw hm_b6 hm_b3
      try clear hb7
      by_cases hz : te = 0
      · subst hz
        have hR := HR.out
        rw [if_pos rfl] at hR
        clear HR
        have HR := Lib.hid hR
        clear hR
        go_wp2_with fail
        have p2 : W5.cell? ⟨pw, 2, none⟩ = some (.int .u32 c.a) := HD.out.cell 2
        have pbq0 : W5.cell? ⟨bq, 0, none⟩ = some (.int .i64 r1) := HD.out.blk (List.Mem.head _) 0
        have pbq1 : W5.cell? ⟨bq, 1, none⟩ = some (.int .i64 r2) := HD.out.blk (List.Mem.head _) 1
        have HD' := Lib.hid (HD.out.drew); clear HD; have HD := HD'; clear HD'
        go_region_held3 (fun W' => W'.cell? ⟨pw, 2, none⟩ = some (.int .u32 c.a) ∧ W'.cell? ⟨bq, 0, none⟩ = some (.int .i64 r1) ∧ W'.cell? ⟨bq, 1, none⟩ = some (.int .i64 r2))
          (first | with_reducible exact ⟨q2, qbq0, qbq1⟩ | with_reducible exact ⟨p2, pbq0, pbq1⟩ | with_reducible exact ⟨cell_drew p2, cell_drew pbq0, cell_drew pbq1⟩)
          (first | (go_at_call 97; (with_reducible refine (KS.out _ HD.out.wk).mono ?_); rintro e V5 ⟨rfl, hb⟩; have HD' := Lib.hid (HD.out.write hb); clear HD hb; have HD := HD'; clear HD'; have q2 : V5.cell? ⟨pw, 2, none⟩ = some (.int .u32 c.a) := HD.out.cell 2; have qbq0 : V5.cell? ⟨bq, 0, none⟩ = some (.int .i64 r1) := HD.out.blk (List.Mem.head _) 0; have qbq1 : V5.cell? ⟨bq, 1, none⟩ = some (.int .i64 r2) := HD.out.blk (List.Mem.head _) 1))
        try clear p2 pbq0 pbq1
        try clear q2 qbq0 qbq1
        have rb33 : V5.cell? ⟨b3, 3, none⟩ = some (.int .i64 m4) := HD.out.blk (List.Mem.tail _ (List.Mem.tail _ (List.Mem.head _))) 3
        have r0 : V5.cell? ⟨pw, 0, none⟩ = some (.iface 45 (.pointer (some ⟨pl, 0, none⟩))) := HD.out.cell 0
        by_cases hm4 : 0 < m4
        · have hd : decide (0 < m4) = true := by simpa using hm4
          have hR := HR.out
          rw [if_pos hm4] at hR
          clear HR
          have HR := Lib.hid hR
          clear hR
          go_wp2_with fail
          have p2 : V5.cell? ⟨pw, 2, none⟩ = some (.int .u32 c.a) := HD.out.cell 2
          have pb32 : V5.cell? ⟨b3, 2, none⟩ = some (.int .u16 m3) := HD.out.blk (List.Mem.tail _ (List.Mem.tail _ (List.Mem.head _))) 2
          have HD' := Lib.hid (HD.out.drew); clear HD; have HD := HD'; clear HD'
          go_region_held3 (fun W' => W'.cell? ⟨pw, 2, none⟩ = some (.int .u32 c.a) ∧ W'.cell? ⟨b3, 2, none⟩ = some (.int .u16 m3))
            (first | with_reducible exact ⟨q2, qb32⟩ | with_reducible exact ⟨p2, pb32⟩ | with_reducible exact ⟨cell_drew p2, cell_drew pb32⟩)
            (first | (go_at_call 109; (with_reducible refine (KU.out _ _ HD.out.wk (HD.out.sees (List.Mem.head _))).mono ?_); rintro e V6 ⟨rfl, hb⟩; have HD' := Lib.hid (HD.out.write hb); clear HD hb; have HD := HD'; clear HD'; have q2 : V6.cell? ⟨pw, 2, none⟩ = some (.int .u32 c.a) := HD.out.cell 2; have qb32 : V6.cell? ⟨b3, 2, none⟩ = some (.int .u16 m3) := HD.out.blk (List.Mem.tail _ (List.Mem.tail _ (List.Mem.head _))) 2))
          try clear p2 pb32
          try clear q2 qb32
          try clear rb33 r0
          have p0 : V6.cell? ⟨pw, 0, none⟩ = some (.iface 45 (.pointer (some ⟨pl, 0, none⟩))) := HD.out.cell 0
          go_wp2_with fail
          refine (KX.out _ HD.out.wk).mono ?_
          rintro e V7 ⟨rfl, hb⟩
          have HD' := Lib.hid (HD.out.write hb); clear HD hb; have HD := HD'; clear HD'
          go_wp2
          go_ret
          have hE := HR.out
          subst hE
          exact HD.out.ds.nil
        · have hd : decide (0 < m4) = false := by simpa using hm4
          have hR := HR.out
          rw [if_neg hm4] at hR
          clear HR
          have HR := Lib.hid hR
          clear hR
          go_wp2_with fail
          refine (KY.out _ HD.out.wk).mono ?_
          rintro e V7 ⟨rfl, hb⟩
          have HD' := Lib.hid (HD.out.write hb); clear HD hb; have HD := HD'; clear HD'
          go_wp2
          go_ret
          have hE := HR.out
          subst hE
          exact HD.out.ds.nil
      · have hz' : (te == 0) = false := by simpa using hz
        have hz2 : (te != 0) = true := by simpa using hz
        have hR := HR.out
        rw [if_neg hz] at hR
        clear HR
        have HR := Lib.hid hR
        clear hR
        have HO := Lib.hid (wof_new te W5)
        go_wp2_with fail
        refine HO.out.mono ?_
        rintro e V9 ⟨v9, rfl, hv9, hb9⟩
        have HV := Lib.hid (HD.out.ds.done hb9 hv9)
        clear hv9 hb9
        go_wp2
        go_ret
        have hE := HR.out
        subst hE
        exact HV.out
  · have hz' : (xe == 0) = false := by simpa using hz
    have hz2 : (xe != 0) = true := by simpa using hz
    have hR := HR.out
    rw [if_neg hz] at hR
    clear HR
    have HR := Lib.hid hR
    clear hR
    have HO := Lib.hid (wof_new xe W3)
    go_wp2_with fail
    refine HO.out.mono ?_
    rintro e V9 ⟨v9, rfl, hv9, hb9⟩
    have HV := Lib.hid (HD.out.ds.done hb9 hv9)
    clear hv9 hb9
    go_wp2
    go_ret
    have hE := HR.out
    subst hE
    exact HV.out
end Go.Proofs.YtmkcbkdbdcnoiaaGreatDoor
namespace Go.Proofs.YtmkcbkdbdcnoiaaGreatDoor
open Go.RowKit
set_option linter.unusedVariables false
set_option linter.unusedSimpArgs false

theorem DS.set {B pl pw : Nat} {l : List Par} {c : Cmd} {a a' : Ans} {w V : World} (h : DS B pl pw l c a w V) (j : Nat) (u : Value) (hu : (wc pl c a).setIfInBounds j u = wc pl c a') : DS B pl pw l c a' w (V.setCell ⟨pw, j, none⟩ u) :=
  ⟨h.wk.set j u hu, h.kp.trans (Kept2.set j u), h.bl.setCell (p := ⟨pw, j, none⟩) h.wk.bw _, h.base⟩
theorem nxF_rng (l : List Par) (k : Int) : 0 ≤ (nxF l k).1 ∧ (nxF l k).1 ≤ 1073741824 := by
  have := numF_ok l (kKey 5 k 0 0).1
  unfold nxF
  split <;> simp <;> omega
/-- What listing comes to. -/
def liF (l : List Par) (c : Cmd) (a : Ans) : List Par × Ans × Int :=
  if (sList (goF l c.a) (c.a, c.item, c.m, c.n)).2 = 0 then
    if (nxF l 2).2 = 0 then
      (put (snF (sgF l c.a (sList (goF l c.a) (c.a, c.item, c.m, c.n)).1 c.item) (kKey 5 2 0 0).1 (nxF l 2).1) (kKey 4 (nxF l 2).1 0 0).1 (slBytes (c.a, c.item, c.m, c.n)).1, (a.1, (nxF l 2).1, a.2.2), 0)
    else (l, a, (nxF l 2).2)
  else (l, a, (sList (goF l c.a) (c.a, c.item, c.m, c.n)).2)

set_option maxHeartbeats 4000000 in
set_option maxRecDepth 100000 in
theorem wlists_any (B pl pw n : Nat) (l : List Par) (c : Cmd) (a : Ans) (w : World) (hW : Wk B pl pw l c a w) (hO : Ok n l) (hn : n < 99990) (hc : CmdOk c) :
    Calls Tryz.prog 58 #[.pointer (some ⟨pw, 0, none⟩)] w fun e w' => DP B pl pw c (liF l c a) w e w' := by
  obtain ⟨R, hR⟩ : ∃ R, liF l c a = R := ⟨_, rfl⟩
  rw [hR]
  unfold liF at hR
  have hG := fun V (h : Wk B pl pw l c a V) => wgoods_any B pl pw n l c a c.a V h hO (by omega) hc.a
  have hgl := goF_len l c.a
  generalize goF l c.a = g at hG hgl hR
  have hT := fun V v (h0 : Sees V v g.length 2 (stks g)) (h2 : Glob V) => shopList_any g (c.a, c.item, c.m, c.n) v V h0 (by omega) h2
  have htl := sList_length g (c.a, c.item, c.m, c.n)
  generalize sList g (c.a, c.item, c.m, c.n) = t at hT htl hR
  obtain ⟨t, te⟩ := t
  dsimp only at hR htl
  have hN := fun V (h : Wk B pl pw l c a V) => wnext_any B pl pw n l c a 2 V h hO (by omega) (by omega)
  have hnr := nxF_rng l 2
  generalize nxF l 2 = x at hN hnr hR
  obtain ⟨x, xe⟩ := x
  dsimp only at hR hnr
  have hS := fun V v (h : Wk B pl pw l c a V) (hv : Sees V v t.length 2 (stks t)) => wsetGoods2 B pl pw n l c a c.a c.item t v V h hO (by omega) hc.a hc.item hv (by omega)
  have hO2 := sgF_ok hO c.a t c.item
  generalize sgF l c.a t c.item = L1 at hS hO2 hR
  have hK := fun V => wkey_any 5 2 0 0 V ⟨by omega, by omega, by omega, by omega, by omega, by omega⟩
  have hkl := kKey_len 5 2 0 0
  generalize (kKey 5 2 0 0).1 = k at hK hkl hR
  have hU := fun V (h : Wk B pl pw L1 c a V) => wsetNumber2 B pl pw (n + 1) L1 c a k x V h hO2 (by omega)
  have hO3 := snF_ok hO2 hkl x
  generalize snF L1 k x = L2 at hU hO3 hR
  have hY := fun V => slBytes_any (c.a, c.item, c.m, c.n) V hc.item.1 hc.item.2
  have hyl := slBytes_len (c.a, c.item, c.m, c.n)
  generalize slBytes (c.a, c.item, c.m, c.n) = y at hY hR hyl
  obtain ⟨y, ye⟩ := y
  dsimp only at hR hyl
  have hK2 := fun V => wkey_any 4 x 0 0 V ⟨hnr.1, by omega, by omega, by omega, by omega, by omega⟩
  generalize (kKey 4 x 0 0).1 = k2 at hK2 hR
  have hP := fun V V' (h : Wk B pl pw L2 c a V) (hb : Below V.heap.size V V') => wput_a (k := k2) (v := y) h hO3 (by omega) hb
  have hQ := fun V V' (h : Wk B pl pw L2 c a V) (hb : Below V.heap.size V V') => wput_d (k := k2) (v := y) h hO3 (by omega) hb
  generalize put L2 k2 y = L3 at hP hQ hR
  have hwx : IntKind.u32.wrap x = x := IntWalk.u32_in _ ⟨hnr.1, by omega⟩
  unfold OwnEPost slv at hT
  unfold slv at hY
  unfold sv at hK hK2 hU
  dsimp only at hT hY hN
  have hm2 := m_put
  have KG := Lib.hid hG
  have KT := Lib.hid hT
  have KN := Lib.hid hN
  have KS := Lib.hid hS
  have KK := Lib.hid hK
  have KU := Lib.hid hU
  have KY := Lib.hid hY
  have KL := Lib.hid hK2
  have KP := Lib.hid hP
  have KQ := Lib.hid hQ
  have HR := Lib.hid hR
  have HD := Lib.hid (DK.start hW)
  clear hG hT hN hS hK hU hY hK2 hP hQ hR hO hO2 hO3 hW htl hgl hyl hnr hkl
  go_enter Tryz.func58, Tryz.ntmps58
  go_wp2_with fail
  have p2 : w.cell? ⟨pw, 2, none⟩ = some (.int .u32 c.a) := HD.out.cell 2
  have p4 : w.cell? ⟨pw, 4, none⟩ = some (.int .u16 c.item) := HD.out.cell 4
  have p5 : w.cell? ⟨pw, 5, none⟩ = some (.int .i64 c.n) := HD.out.cell 5
  have p6 : w.cell? ⟨pw, 6, none⟩ = some (.int .i64 c.m) := HD.out.cell 6
  go_region_held3 (fun W' => W'.cell? ⟨pw, 2, none⟩ = some (.int .u32 c.a) ∧ W'.cell? ⟨pw, 4, none⟩ = some (.int .u16 c.item) ∧ W'.cell? ⟨pw, 5, none⟩ = some (.int .i64 c.n) ∧ W'.cell? ⟨pw, 6, none⟩ = some (.int .i64 c.m))
    (first | with_reducible exact ⟨p2, p4, p5, p6⟩ | with_reducible exact ⟨cell_drew p2, cell_drew p4, cell_drew p5, cell_drew p6⟩ | with_reducible exact ⟨cell_drew (cell_alloc p2 _), cell_drew (cell_alloc p4 _), cell_drew (cell_alloc p5 _), cell_drew (cell_alloc p6 _)⟩)
    (fail)
  obtain ⟨b3, hb3⟩ : ∃ b3, w.heap.size = b3 := ⟨_, rfl⟩
  obtain ⟨W3, hW3⟩ : ∃ W3, (w.alloc (.cells #[.int .u32 c.a, .int .u16 c.item, .int .i64 c.m, .int .i64 c.n] 68)).drew = W3 := ⟨_, rfl⟩
  have HD' : Hid (DK B pl pw [(b3, .cells #[.int .u32 c.a, .int .u16 c.item, .int .i64 c.m, .int .i64 c.n] 68 (0, 0))] [] l c a w W3) := Lib.hid (by rw [← hW3, ← hb3]; exact (HD.out.new _ 68 rfl).drew)
  clear HD; have HD := HD'; clear HD'
  rw [hW3, hb3]
  clear hW3 hb3 p2 p4 p5 p6
  try clear hHeld
  go_wp2_with fail
  have p2 : W3.cell? ⟨pw, 2, none⟩ = some (.int .u32 c.a) := HD.out.cell 2
  have pb30 : W3.cell? ⟨b3, 0, none⟩ = some (.int .u32 c.a) := HD.out.blk (List.Mem.head _) 0
  have pb31 : W3.cell? ⟨b3, 1, none⟩ = some (.int .u16 c.item) := HD.out.blk (List.Mem.head _) 1
  have pb32 : W3.cell? ⟨b3, 2, none⟩ = some (.int .i64 c.m) := HD.out.blk (List.Mem.head _) 2
  have pb33 : W3.cell? ⟨b3, 3, none⟩ = some (.int .i64 c.n) := HD.out.blk (List.Mem.head _) 3
  have HD' := Lib.hid (HD.out.drew); clear HD; have HD := HD'; clear HD'
  go_region_held3 (fun W' => W'.cell? ⟨pw, 2, none⟩ = some (.int .u32 c.a) ∧ W'.cell? ⟨b3, 0, none⟩ = some (.int .u32 c.a) ∧ W'.cell? ⟨b3, 1, none⟩ = some (.int .u16 c.item) ∧ W'.cell? ⟨b3, 2, none⟩ = some (.int .i64 c.m) ∧ W'.cell? ⟨b3, 3, none⟩ = some (.int .i64 c.n))
    (first | with_reducible exact ⟨q2, qb30, qb31, qb32, qb33⟩ | with_reducible exact ⟨p2, pb30, pb31, pb32, pb33⟩ | with_reducible exact ⟨cell_drew p2, cell_drew pb30, cell_drew pb31, cell_drew pb32, cell_drew pb33⟩)
    (first | (go_at_call 108; (with_reducible refine (KG.out _ HD.out.wk).mono ?_); rintro e V2 ⟨v1, rfl, hv, hb⟩; have HD' := Lib.hid (HD.out.row hb hv); clear HD hb hv; have HD := HD'; clear HD'; have q2 : V2.cell? ⟨pw, 2, none⟩ = some (.int .u32 c.a) := HD.out.cell 2; have qb30 : V2.cell? ⟨b3, 0, none⟩ = some (.int .u32 c.a) := HD.out.blk (List.Mem.head _) 0; have qb31 : V2.cell? ⟨b3, 1, none⟩ = some (.int .u16 c.item) := HD.out.blk (List.Mem.head _) 1; have qb32 : V2.cell? ⟨b3, 2, none⟩ = some (.int .i64 c.m) := HD.out.blk (List.Mem.head _) 2; have qb33 : V2.cell? ⟨b3, 3, none⟩ = some (.int .i64 c.n) := HD.out.blk (List.Mem.head _) 3) | (go_at_call 121; (with_reducible refine (KT.out _ _ (HD.out.sees (List.Mem.head _)) HD.out.glob).mono ?_); rintro e V3 ⟨v2, rfl, hv, hb⟩; have HD' := Lib.hid (HD.out.row hb hv); clear HD hb hv; have HD := HD'; clear HD'; have q2 : V3.cell? ⟨pw, 2, none⟩ = some (.int .u32 c.a) := HD.out.cell 2; have qb30 : V3.cell? ⟨b3, 0, none⟩ = some (.int .u32 c.a) := HD.out.blk (List.Mem.head _) 0; have qb31 : V3.cell? ⟨b3, 1, none⟩ = some (.int .u16 c.item) := HD.out.blk (List.Mem.head _) 1; have qb32 : V3.cell? ⟨b3, 2, none⟩ = some (.int .i64 c.m) := HD.out.blk (List.Mem.head _) 2; have qb33 : V3.cell? ⟨b3, 3, none⟩ = some (.int .i64 c.n) := HD.out.blk (List.Mem.head _) 3))
  by_cases hz : te = 0
  · subst hz
    have hR := HR.out
    rw [if_pos rfl] at hR
    clear HR
    have HR := Lib.hid hR
    clear hR
    try clear p2 pb30 pb31 pb32 pb33
    try clear q2 qb30 qb31 qb32 qb33
    go_wp2_with fail
    refine (KN.out _ HD.out.wk).mono ?_
    rintro e V4 ⟨rfl, hb⟩
    have HD' := Lib.hid (HD.out.read hb); clear HD hb; have HD := HD'; clear HD'
    by_cases hz : xe = 0
    · subst hz
      have hR := HR.out
      rw [if_pos rfl] at hR
      clear HR
      have HR := Lib.hid hR
      clear hR
      go_wp2_with fail
      have p2 : V4.cell? ⟨pw, 2, none⟩ = some (.int .u32 c.a) := HD.out.cell 2
      have p4 : V4.cell? ⟨pw, 4, none⟩ = some (.int .u16 c.item) := HD.out.cell 4
      have HD' := Lib.hid (HD.out.drew); clear HD; have HD := HD'; clear HD'
      go_region_held3 (fun W' => W'.cell? ⟨pw, 2, none⟩ = some (.int .u32 c.a) ∧ W'.cell? ⟨pw, 4, none⟩ = some (.int .u16 c.item))
        (first | with_reducible exact ⟨q2, q4⟩ | with_reducible exact ⟨p2, p4⟩ | with_reducible exact ⟨cell_drew p2, cell_drew p4⟩)
        (first | (go_at_call 109; (with_reducible refine (KS.out _ _ HD.out.wk (HD.out.sees (List.Mem.head _))).mono ?_); rintro e V5 ⟨rfl, hb⟩; have HD' := Lib.hid (HD.out.write hb); clear HD hb; have HD := HD'; clear HD'; have q2 : V5.cell? ⟨pw, 2, none⟩ = some (.int .u32 c.a) := HD.out.cell 2; have q4 : V5.cell? ⟨pw, 4, none⟩ = some (.int .u16 c.item) := HD.out.cell 4))
      try clear p2 p4
      try clear q2 q4
      go_wp2_with fail
      refine (KK.out _).mono ?_
      rintro e V6 ⟨rfl, hb⟩
      have HD' := Lib.hid (HD.out.read hb); clear HD hb; have HD := HD'; clear HD'
      go_wp2_with fail
      refine (KU.out _ HD.out.wk).mono ?_
      rintro e V7 ⟨rfl, hb⟩
      have HD' := Lib.hid (HD.out.write hb); clear HD hb; have HD := HD'; clear HD'
      have rb30 : V7.cell? ⟨b3, 0, none⟩ = some (.int .u32 c.a) := HD.out.blk (List.Mem.head _) 0
      have rb31 : V7.cell? ⟨b3, 1, none⟩ = some (.int .u16 c.item) := HD.out.blk (List.Mem.head _) 1
      have rb32 : V7.cell? ⟨b3, 2, none⟩ = some (.int .i64 c.m) := HD.out.blk (List.Mem.head _) 2
      have rb33 : V7.cell? ⟨b3, 3, none⟩ = some (.int .i64 c.n) := HD.out.blk (List.Mem.head _) 3
      go_wp2_with fail
      refine (KY.out _).mono ?_
      rintro e V8 ⟨rfl, hb⟩
      have HD' := Lib.hid (HD.out.read hb); clear HD hb; have HD := HD'; clear HD'
      try clear rb30 rb31 rb32 rb33
      go_wp2_with fail
      have p0 : V8.cell? ⟨pw, 0, none⟩ = some (.iface 45 (.pointer (some ⟨pl, 0, none⟩))) := HD.out.cell 0
      have HD' := Lib.hid (HD.out.drew); clear HD; have HD := HD'; clear HD'
      go_region_held3 (fun W' => W'.cell? ⟨pw, 0, none⟩ = some (.iface 45 (.pointer (some ⟨pl, 0, none⟩))))
        (first | with_reducible exact q0 | with_reducible exact cell_alloc q0 _ | with_reducible exact cell_drew (cell_alloc q0 _) | with_reducible exact p0 | with_reducible exact cell_drew p0)
        (first | (go_at_call 66; (with_reducible refine (KL.out _).mono ?_); rintro e V9 ⟨rfl, hb⟩; have HD' := Lib.hid (HD.out.read hb); clear HD hb; have HD := HD'; clear HD'; have q0 : V9.cell? ⟨pw, 0, none⟩ = some (.iface 45 (.pointer (some ⟨pl, 0, none⟩))) := HD.out.cell 0) | (go_at_call 228; (first | (with_reducible refine (KP.out _ _ HD.out.wk (Below.refl _ _)).mono ?_) | (with_reducible refine (KQ.out _ _ HD.out.wk (Below.refl _ _)).mono ?_)); rintro e V10 ⟨rfl, hb⟩; have HD' := Lib.hid (HD.out.write hb); clear HD hb; have HD := HD'; clear HD'; have q0 : V10.cell? ⟨pw, 0, none⟩ = some (.iface 45 (.pointer (some ⟨pl, 0, none⟩))) := HD.out.cell 0))
      all_goals
        try clear p0
        try clear q0
        have p8 : V10.cell? ⟨pw, 8, none⟩ = some (.int .i64 a.2.1) := HD.out.cell 8
        have pf : ∀ j, V10.frozen? ⟨pw, j, none⟩ = false := blk_frozen HD.out.wk.box
        have HD' := Lib.hid (HD.out.ds.set (a' := (a.1, x, a.2.2)) 8 (.int .i64 x) rfl)
        go_wp2
        go_ret
        have hE := HR.out
        subst hE
        exact HD'.out.nil
    · have hz' : (xe == 0) = false := by simpa using hz
      have hz2 : (xe != 0) = true := by simpa using hz
      have hR := HR.out
      rw [if_neg hz] at hR
      clear HR
      have HR := Lib.hid hR
      clear hR
      have HO := Lib.hid (wof_new xe V4)
      go_wp2_with fail
      refine HO.out.mono ?_
      rintro e V9 ⟨v9, rfl, hv9, hb9⟩
      have HV := Lib.hid (HD.out.ds.done hb9 hv9)
      clear hv9 hb9
      go_wp2
      go_ret
      have hE := HR.out
      subst hE
      exact HV.out
  · have hz' : (te == 0) = false := by simpa using hz
    have hz2 : (te != 0) = true := by simpa using hz
    have hR := HR.out
    rw [if_neg hz] at hR
    clear HR
    have HR := Lib.hid hR
    clear hR
    have HO := Lib.hid (wof_new te V3)
    go_wp2_with fail
    refine HO.out.mono ?_
    rintro e V9 ⟨v9, rfl, hv9, hb9⟩
    have HV := Lib.hid (HD.out.ds.done hb9 hv9)
    clear hv9 hb9
    go_wp2
    go_ret
    have hE := HR.out
    subst hE
    exact HV.out
end Go.Proofs.YtmkcbkdbdcnoiaaGreatDoor
