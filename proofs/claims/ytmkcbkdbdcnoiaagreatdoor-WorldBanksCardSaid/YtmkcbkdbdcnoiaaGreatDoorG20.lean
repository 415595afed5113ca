/- Package world: send. Package world: pay. Package shop: Buy. -/
import Derived.Test.YtmkcbkdbdcnoiaaGreatDoorG11
import Derived.Test.YtmkcbkdbdcnoiaaGreatDoorG17
import Derived.Test.YtmkcbkdbdcnoiaaGreatDoorG19
namespace Go.Proofs.YtmkcbkdbdcnoiaaGreatDoor
open Go.RowKit
set_option linter.unusedVariables false
set_option linter.unusedSimpArgs false

/-- What sending comes to. -/
def seF (l : List Par) (c : Cmd) (a : Ans) : List Par × Ans × Int :=
  if (otF l c true).2 = 0 then
    if (mSend (acF l c.a).1 (goF l c.a) (c.a, c.n, c.item, c.m)).2.2 = 0 then
      if (nxF l 1).2 = 0 then
        (put (snF (sgF (saA l c.a (mSend (acF l c.a).1 (goF l c.a) (c.a, c.n, c.item, c.m)).1) c.a (mSend (acF l c.a).1 (goF l c.a) (c.a, c.n, c.item, c.m)).2.1 c.item) (kKey 5 1 0 0).1 (nxF l 1).1) (kKey 3 c.b 0 (nxF l 1).1).1 (mlBytes (c.a, c.n, c.item, c.m)).1, (a.1, (nxF l 1).1, a.2.2), 0)
      else (l, a, (nxF l 1).2)
    else (l, a, (mSend (acF l c.a).1 (goF l c.a) (c.a, c.n, c.item, c.m)).2.2)
  else (l, a, (otF l c true).2)

set_option maxHeartbeats 4000000 in
set_option maxRecDepth 100000 in
theorem wsend_any (B pl pw n : Nat) (l : List Par) (c : Cmd) (a : Ans) (w : World) (hW : Wk B pl pw l c a w) (hO : Ok n l) (hn : n < 99990) (hc : CmdOk c) :
    Calls Tryz.prog 55 #[.pointer (some ⟨pw, 0, none⟩)] w fun e w' => DP B pl pw c (seF l c a) w e w' := by
  obtain ⟨R, hR⟩ : ∃ R, seF l c a = R := ⟨_, rfl⟩
  rw [hR]
  unfold seF at hR
  have hI := fun V (h : Wk B pl pw l c a V) => wother_any B pl pw n l c a true V h hO (by omega) hc
  generalize otF l c true = u at hI hR
  obtain ⟨⟨u1, u2⟩, ue⟩ := u
  have hA := fun V (h : Wk B pl pw l c a V) => waccount_any B pl pw n l c a c.a V h hO (by omega) hc.a
  generalize (acF l c.a).2 = ae at hA
  generalize (acF l c.a).1 = z at hA hR
  have hG := fun V (h : Wk B pl pw l c a V) => wgoods_any B pl pw n l c a c.a V h hO (by omega) hc.a
  have hgl := goF_len l c.a
  generalize goF l c.a = g at hG hgl hR
  have hT := fun V v (h0 : Sees V v g.length 2 (stks g)) (h2 : Glob V) => mailSend_any z g (c.a, c.n, c.item, c.m) v V h0 (by omega) h2
  have htl := mSend_length z g (c.a, c.n, c.item, c.m)
  generalize mSend z g (c.a, c.n, c.item, c.m) = t at hT htl hR
  obtain ⟨⟨r1, r2⟩, t, te⟩ := t
  obtain ⟨z1, z2⟩ := z
  dsimp only at hR htl
  have hN := fun V (h : Wk B pl pw l c a V) => wnext_any B pl pw n l c a 1 V h hO (by omega) (by omega)
  have hnr := nxF_rng l 1
  generalize nxF l 1 = x at hN hnr hR
  obtain ⟨x, xe⟩ := x
  dsimp only at hR hnr
  have hZ := fun V (h : Wk B pl pw l c a V) => wsetAccount2 B pl pw n l c a c.a (r1, r2) V h hO (by omega) hc.a
  have hO1 := saA_ok hO c.a (r1, r2)
  generalize saA l c.a (r1, r2) = L0 at hZ hO1 hR
  have hS := fun V v (h : Wk B pl pw L0 c a V) (hv : Sees V v t.length 2 (stks t)) => wsetGoods2 B pl pw (n + 1) L0 c a c.a c.item t v V h hO1 (by omega) hc.a hc.item hv (by omega)
  have hO2 := sgF_ok hO1 c.a t c.item
  generalize sgF L0 c.a t c.item = L1 at hS hO2 hR
  have hK := fun V => wkey_any 5 1 0 0 V ⟨by omega, by omega, by omega, by omega, by omega, by omega⟩
  have hkl := kKey_len 5 1 0 0
  generalize (kKey 5 1 0 0).1 = k at hK hkl hR
  have hU := fun V (h : Wk B pl pw L1 c a V) => wsetNumber2 B pl pw (n + 1 + 1) L1 c a k x V h hO2 (by omega)
  have hO3 := snF_ok hO2 hkl x
  generalize snF L1 k x = L2 at hU hO3 hR
  have hY := fun V => mlBytes_any (c.a, c.n, c.item, c.m) V hc.item.1 hc.item.2
  have hyl := mlBytes_len (c.a, c.n, c.item, c.m)
  generalize mlBytes (c.a, c.n, c.item, c.m) = y at hY hR hyl
  obtain ⟨y, ye⟩ := y
  dsimp only at hR hyl
  have hK2 := fun V => wkey_any 3 c.b 0 x V ⟨hc.b.1, hc.b.2, by omega, by omega, hnr.1, by omega⟩
  generalize (kKey 3 c.b 0 x).1 = k2 at hK2 hR
  have hP := fun V V' (h : Wk B pl pw L2 c a V) (hb : Below V.heap.size V V') => wput_a (k := k2) (v := y) h hO3 (by omega) hb
  have hQ := fun V V' (h : Wk B pl pw L2 c a V) (hb : Below V.heap.size V V') => wput_d (k := k2) (v := y) h hO3 (by omega) hb
  generalize put L2 k2 y = L3 at hP hQ hR
  have hwx : IntKind.u32.wrap x = x := IntWalk.u32_in _ ⟨hnr.1, by omega⟩
  unfold MdPost at hT
  unfold accv at hI hA hT hZ
  unfold mlv at hT hY
  unfold sv at hK hK2 hU
  dsimp only at hI hA hT hY hN hZ
  have hm2 := m_put
  have KI := Lib.hid hI
  have KA := Lib.hid hA
  have KG := Lib.hid hG
  have KT := Lib.hid hT
  have KN := Lib.hid hN
  have KZ := Lib.hid hZ
  have KS := Lib.hid hS
  have KK := Lib.hid hK
  have KU := Lib.hid hU
  have KY := Lib.hid hY
  have KL := Lib.hid hK2
  have KP := Lib.hid hP
  have KQ := Lib.hid hQ
  have HR := Lib.hid hR
  have HD := Lib.hid (DK.start hW)
  clear hI hA hG hT hN hZ hS hK hU hY hK2 hP hQ hR hO hO1 hO2 hO3 hW htl hgl hyl hnr hkl
  go_enter Tryz.func55, Tryz.ntmps55
  go_wp2_with fail
  refine (KI.out _ HD.out.wk).mono ?_
  rintro e V1 ⟨rfl, hb⟩
  have HD' := Lib.hid (HD.out.read hb); clear HD hb; have HD := HD'; clear HD'
  obtain ⟨b3, hb3⟩ : ∃ b3, V1.heap.size = b3 := ⟨_, rfl⟩
  obtain ⟨W3, hW3⟩ : ∃ W3, V1.alloc (.cells #[.int .i64 u1, .int .i64 u2] 55) = W3 := ⟨_, rfl⟩
  have HD' : Hid (DK B pl pw [(b3, .cells #[.int .i64 u1, .int .i64 u2] 55 (0, 0))] [] l c a w W3) := Lib.hid (by rw [← hW3, ← hb3]; exact HD.out.new _ 55 rfl)
  clear HD; have HD := HD'; clear HD'
  by_cases hz : ue = 0
  · subst hz
    have hR := HR.out
    rw [if_pos rfl] at hR
    clear HR
    have HR := Lib.hid hR
    clear hR
    have r2 : W3.cell? ⟨pw, 2, none⟩ = some (.int .u32 c.a) := HD.out.cell 2
    go_wp2_with fail
    refine (KA.out _ HD.out.wk).mono ?_
    rintro e V2 ⟨rfl, hb⟩
    have HD' := Lib.hid (HD.out.read hb); clear HD hb; have HD := HD'; clear HD'
    try clear r2 hW3 hb3
    obtain ⟨b5, hb5⟩ : ∃ b5, V2.heap.size = b5 := ⟨_, rfl⟩
    obtain ⟨W5, hW5⟩ : ∃ W5, V2.alloc (.cells #[.int .i64 z1, .int .i64 z2] 55) = W5 := ⟨_, rfl⟩
    have HD' : Hid (DK B pl pw [(b5, .cells #[.int .i64 z1, .int .i64 z2] 55 (0, 0)), (b3, .cells #[.int .i64 u1, .int .i64 u2] 55 (0, 0))] [] l c a w W5) := Lib.hid (by rw [← hW5, ← hb5]; exact HD.out.new _ 55 rfl)
    clear HD; have HD := HD'; clear HD'
    go_wp2_with fail
    try clear hW5 hb5
    have p2 : W5.cell? ⟨pw, 2, none⟩ = some (.int .u32 c.a) := HD.out.cell 2
    have p4 : W5.cell? ⟨pw, 4, none⟩ = some (.int .u16 c.item) := HD.out.cell 4
    have p5 : W5.cell? ⟨pw, 5, none⟩ = some (.int .i64 c.n) := HD.out.cell 5
    have p6 : W5.cell? ⟨pw, 6, none⟩ = some (.int .i64 c.m) := HD.out.cell 6
    go_region_held3 (fun W' => W'.cell? ⟨pw, 2, none⟩ = some (.int .u32 c.a) ∧ W'.cell? ⟨pw, 4, none⟩ = some (.int .u16 c.item) ∧ W'.cell? ⟨pw, 5, none⟩ = some (.int .i64 c.n) ∧ W'.cell? ⟨pw, 6, none⟩ = some (.int .i64 c.m))
      (first | with_reducible exact ⟨p2, p4, p5, p6⟩ | with_reducible exact ⟨cell_drew p2, cell_drew p4, cell_drew p5, cell_drew p6⟩ | with_reducible exact ⟨cell_drew (cell_alloc p2 _), cell_drew (cell_alloc p4 _), cell_drew (cell_alloc p5 _), cell_drew (cell_alloc p6 _)⟩)
      (fail)
    obtain ⟨b7, hb7⟩ : ∃ b7, W5.heap.size = b7 := ⟨_, rfl⟩
    obtain ⟨W7, hW7⟩ : ∃ W7, (W5.alloc (.cells #[.int .u32 c.a, .int .i64 c.n, .int .u16 c.item, .int .i64 c.m] 64)).drew = W7 := ⟨_, rfl⟩
    have HD' : Hid (DK B pl pw [(b7, .cells #[.int .u32 c.a, .int .i64 c.n, .int .u16 c.item, .int .i64 c.m] 64 (0, 0)), (b5, .cells #[.int .i64 z1, .int .i64 z2] 55 (0, 0)), (b3, .cells #[.int .i64 u1, .int .i64 u2] 55 (0, 0))] [] l c a w W7) := Lib.hid (by rw [← hW7, ← hb7]; exact (HD.out.new _ 64 rfl).drew)
    clear HD; have HD := HD'; clear HD'
    rw [hW7, hb7]
    clear hW7 hb7 p2 p4 p5 p6
    try clear hHeld
    go_wp2_with fail
    have p2 : W7.cell? ⟨pw, 2, none⟩ = some (.int .u32 c.a) := HD.out.cell 2
    have pb50 : W7.cell? ⟨b5, 0, none⟩ = some (.int .i64 z1) := HD.out.blk (List.Mem.tail _ (List.Mem.head _)) 0
    have pb51 : W7.cell? ⟨b5, 1, none⟩ = some (.int .i64 z2) := HD.out.blk (List.Mem.tail _ (List.Mem.head _)) 1
    have pb70 : W7.cell? ⟨b7, 0, none⟩ = some (.int .u32 c.a) := HD.out.blk (List.Mem.head _) 0
    have pb71 : W7.cell? ⟨b7, 1, none⟩ = some (.int .i64 c.n) := HD.out.blk (List.Mem.head _) 1
    have pb72 : W7.cell? ⟨b7, 2, none⟩ = some (.int .u16 c.item) := HD.out.blk (List.Mem.head _) 2
    have pb73 : W7.cell? ⟨b7, 3, none⟩ = some (.int .i64 c.m) := HD.out.blk (List.Mem.head _) 3
    obtain ⟨b8, hb8⟩ : ∃ b8, W7.heap.size = b8 := ⟨_, rfl⟩
    have HE : Hid (DK B pl pw [(b8, .cells #[.int .i64 0, .int .i64 0] 55 (0, 0)), (b7, .cells #[.int .u32 c.a, .int .i64 c.n, .int .u16 c.item, .int .i64 c.m] 64 (0, 0)), (b5, .cells #[.int .i64 z1, .int .i64 z2] 55 (0, 0)), (b3, .cells #[.int .i64 u1, .int .i64 u2] 55 (0, 0))] [] l c a w ((W7.alloc (.cells #[.int .i64 0, .int .i64 0] 55)).drew)) := Lib.hid (by rw [← hb8]; exact (HD.out.new _ 55 rfl).drew)
    have hn_pw : pw ≠ b8 := Ne.symm (HE.out.non _ (List.Mem.head _)).2.2.1
    have hn_b5 : b5 ≠ b8 := (show b5 ≠ b8 from (List.pairwise_cons.1 HE.out.far).1 _ (List.Mem.tail _ (List.Mem.head _)))
    have hn_b7 : b7 ≠ b8 := (show b7 ≠ b8 from (List.pairwise_cons.1 HE.out.far).1 _ (List.Mem.head _))
    have HD' := Lib.hid (HD.out.drew); clear HD; have HD := HD'; clear HD'
    go_region_held3 (fun W' => W'.cell? ⟨pw, 2, none⟩ = some (.int .u32 c.a) ∧ W'.cell? ⟨b5, 0, none⟩ = some (.int .i64 z1) ∧ W'.cell? ⟨b5, 1, none⟩ = some (.int .i64 z2) ∧ W'.cell? ⟨b7, 0, none⟩ = some (.int .u32 c.a) ∧ W'.cell? ⟨b7, 1, none⟩ = some (.int .i64 c.n) ∧ W'.cell? ⟨b7, 2, none⟩ = some (.int .u16 c.item) ∧ W'.cell? ⟨b7, 3, none⟩ = some (.int .i64 c.m))
      (first | with_reducible exact ⟨q2, qb50, qb51, qb70, qb71, qb72, qb73⟩ | with_reducible exact ⟨cell_alloc q2 _, cell_alloc qb50 _, cell_alloc qb51 _, cell_alloc qb70 _, cell_alloc qb71 _, cell_alloc qb72 _, cell_alloc qb73 _⟩ | with_reducible exact ⟨cell_drew (cell_alloc q2 _), cell_drew (cell_alloc qb50 _), cell_drew (cell_alloc qb51 _), cell_drew (cell_alloc qb70 _), cell_drew (cell_alloc qb71 _), cell_drew (cell_alloc qb72 _), cell_drew (cell_alloc qb73 _)⟩ | with_reducible exact ⟨(cell_far (cell_far q2 hn_pw _) hn_pw _), (cell_far (cell_far qb50 hn_b5 _) hn_b5 _), (cell_far (cell_far qb51 hn_b5 _) hn_b5 _), (cell_far (cell_far qb70 hn_b7 _) hn_b7 _), (cell_far (cell_far qb71 hn_b7 _) hn_b7 _), (cell_far (cell_far qb72 hn_b7 _) hn_b7 _), (cell_far (cell_far qb73 hn_b7 _) hn_b7 _)⟩ | with_reducible exact ⟨(cell_far (cell_far q2 hm_pw _) hm_pw _), (cell_far (cell_far qb50 hm_b5 _) hm_b5 _), (cell_far (cell_far qb51 hm_b5 _) hm_b5 _), (cell_far (cell_far qb70 hm_b7 _) hm_b7 _), (cell_far (cell_far qb71 hm_b7 _) hm_b7 _), (cell_far (cell_far qb72 hm_b7 _) hm_b7 _), (cell_far (cell_far qb73 hm_b7 _) hm_b7 _)⟩ | with_reducible exact ⟨p2, pb50, pb51, pb70, pb71, pb72, pb73⟩ | with_reducible exact ⟨cell_drew p2, cell_drew pb50, cell_drew pb51, cell_drew pb70, cell_drew pb71, cell_drew pb72, cell_drew pb73⟩ | with_reducible exact ⟨cell_alloc p2 _, cell_alloc pb50 _, cell_alloc pb51 _, cell_alloc pb70 _, cell_alloc pb71 _, cell_alloc pb72 _, cell_alloc pb73 _⟩ | with_reducible exact ⟨cell_drew (cell_alloc p2 _), cell_drew (cell_alloc pb50 _), cell_drew (cell_alloc pb51 _), cell_drew (cell_alloc pb70 _), cell_drew (cell_alloc pb71 _), cell_drew (cell_alloc pb72 _), cell_drew (cell_alloc pb73 _)⟩)
      (first | (go_at_call 108; (with_reducible refine (KG.out _ HD.out.wk).mono ?_); rintro e V3 ⟨v1, rfl, hv, hb⟩; have HD' := Lib.hid (HD.out.row hb hv); clear HD hb hv; have HD := HD'; clear HD'; have q2 : V3.cell? ⟨pw, 2, none⟩ = some (.int .u32 c.a) := HD.out.cell 2; have qb50 : V3.cell? ⟨b5, 0, none⟩ = some (.int .i64 z1) := HD.out.blk (List.Mem.tail _ (List.Mem.head _)) 0; have qb51 : V3.cell? ⟨b5, 1, none⟩ = some (.int .i64 z2) := HD.out.blk (List.Mem.tail _ (List.Mem.head _)) 1; have qb70 : V3.cell? ⟨b7, 0, none⟩ = some (.int .u32 c.a) := HD.out.blk (List.Mem.head _) 0; have qb71 : V3.cell? ⟨b7, 1, none⟩ = some (.int .i64 c.n) := HD.out.blk (List.Mem.head _) 1; have qb72 : V3.cell? ⟨b7, 2, none⟩ = some (.int .u16 c.item) := HD.out.blk (List.Mem.head _) 2; have qb73 : V3.cell? ⟨b7, 3, none⟩ = some (.int .i64 c.m) := HD.out.blk (List.Mem.head _) 3) | (go_at_call 108; (with_reducible refine (KG.out _ HE.out.wk).mono ?_); rintro e V3 ⟨v1, rfl, hv, hb⟩; have HD' := Lib.hid (HE.out.row hb hv); clear HD HE hb hv; have HD := HD'; clear HD'; have q2 : V3.cell? ⟨pw, 2, none⟩ = some (.int .u32 c.a) := HD.out.cell 2; have qb50 : V3.cell? ⟨b5, 0, none⟩ = some (.int .i64 z1) := HD.out.blk (List.Mem.tail _ (List.Mem.tail _ (List.Mem.head _))) 0; have qb51 : V3.cell? ⟨b5, 1, none⟩ = some (.int .i64 z2) := HD.out.blk (List.Mem.tail _ (List.Mem.tail _ (List.Mem.head _))) 1; have qb70 : V3.cell? ⟨b7, 0, none⟩ = some (.int .u32 c.a) := HD.out.blk (List.Mem.tail _ (List.Mem.head _)) 0; have qb71 : V3.cell? ⟨b7, 1, none⟩ = some (.int .i64 c.n) := HD.out.blk (List.Mem.tail _ (List.Mem.head _)) 1; have qb72 : V3.cell? ⟨b7, 2, none⟩ = some (.int .u16 c.item) := HD.out.blk (List.Mem.tail _ (List.Mem.head _)) 2; have qb73 : V3.cell? ⟨b7, 3, none⟩ = some (.int .i64 c.m) := HD.out.blk (List.Mem.tail _ (List.Mem.head _)) 3; have s0 := HD.out.top0; have s1 := HD.out.top1; have sf := HD.out.topf) | (go_at_call 116; (with_reducible refine (KT.out _ _ (HD.out.sees (List.Mem.head _)) HD.out.glob).mono ?_); rintro e V4 ⟨v2, rfl, hv, hb⟩; have HD' := Lib.hid (HD.out.row hb hv); clear HD hb hv; have HD := HD'; clear HD'; have q2 : V4.cell? ⟨pw, 2, none⟩ = some (.int .u32 c.a) := HD.out.cell 2; have qb50 : V4.cell? ⟨b5, 0, none⟩ = some (.int .i64 z1) := HD.out.blk (List.Mem.tail _ (List.Mem.tail _ (List.Mem.head _))) 0; have qb51 : V4.cell? ⟨b5, 1, none⟩ = some (.int .i64 z2) := HD.out.blk (List.Mem.tail _ (List.Mem.tail _ (List.Mem.head _))) 1; have qb70 : V4.cell? ⟨b7, 0, none⟩ = some (.int .u32 c.a) := HD.out.blk (List.Mem.tail _ (List.Mem.head _)) 0; have qb71 : V4.cell? ⟨b7, 1, none⟩ = some (.int .i64 c.n) := HD.out.blk (List.Mem.tail _ (List.Mem.head _)) 1; have qb72 : V4.cell? ⟨b7, 2, none⟩ = some (.int .u16 c.item) := HD.out.blk (List.Mem.tail _ (List.Mem.head _)) 2; have qb73 : V4.cell? ⟨b7, 3, none⟩ = some (.int .i64 c.m) := HD.out.blk (List.Mem.tail _ (List.Mem.head _)) 3; have s0 := HD.out.top0; have s1 := HD.out.top1; have sf := HD.out.topf) | (go_at_call 116; have HF := Lib.hid (HD.out.new #[.int .i64 0, .int .i64 0] 55 rfl); have hm_pw : pw ≠ V3.heap.size := Nat.ne_of_lt HD.out.wk.size.2.2; have hm_b5 : b5 ≠ V3.heap.size := Nat.ne_of_lt (show b5 < V3.heap.size from HD.out.gt (List.Mem.tail _ (List.Mem.head _))); have hm_b7 : b7 ≠ V3.heap.size := Nat.ne_of_lt (show b7 < V3.heap.size from HD.out.gt (List.Mem.head _)); (with_reducible refine (KT.out _ _ (HF.out.sees (List.Mem.head _)) HF.out.glob).mono ?_); rintro e V4 ⟨v2, rfl, hv, hb⟩; have HD' := Lib.hid (HF.out.row hb hv); clear HD HF hb hv; have HD := HD'; clear HD'; have q2 : V4.cell? ⟨pw, 2, none⟩ = some (.int .u32 c.a) := HD.out.cell 2; have qb50 : V4.cell? ⟨b5, 0, none⟩ = some (.int .i64 z1) := HD.out.blk (List.Mem.tail _ (List.Mem.tail _ (List.Mem.head _))) 0; have qb51 : V4.cell? ⟨b5, 1, none⟩ = some (.int .i64 z2) := HD.out.blk (List.Mem.tail _ (List.Mem.tail _ (List.Mem.head _))) 1; have qb70 : V4.cell? ⟨b7, 0, none⟩ = some (.int .u32 c.a) := HD.out.blk (List.Mem.tail _ (List.Mem.head _)) 0; have qb71 : V4.cell? ⟨b7, 1, none⟩ = some (.int .i64 c.n) := HD.out.blk (List.Mem.tail _ (List.Mem.head _)) 1; have qb72 : V4.cell? ⟨b7, 2, none⟩ = some (.int .u16 c.item) := HD.out.blk (List.Mem.tail _ (List.Mem.head _)) 2; have qb73 : V4.cell? ⟨b7, 3, none⟩ = some (.int .i64 c.m) := HD.out.blk (List.Mem.tail _ (List.Mem.head _)) 3; have s0 := HD.out.top0; have s1 := HD.out.top1; have sf := HD.out.topf) | (go_at_call 116; (with_reducible refine (KT.out _ _ (HD.out.sees (List.Mem.head _)) HD.out.glob).mono ?_); rintro e V4 ⟨v2, rfl, hv, hb⟩; have HD' := Lib.hid (HD.out.row hb hv); clear HD hb hv; have HD := HD'; clear HD'; have q2 : V4.cell? ⟨pw, 2, none⟩ = some (.int .u32 c.a) := HD.out.cell 2; have qb50 : V4.cell? ⟨b5, 0, none⟩ = some (.int .i64 z1) := HD.out.blk (List.Mem.tail _ (List.Mem.head _)) 0; have qb51 : V4.cell? ⟨b5, 1, none⟩ = some (.int .i64 z2) := HD.out.blk (List.Mem.tail _ (List.Mem.head _)) 1; have qb70 : V4.cell? ⟨b7, 0, none⟩ = some (.int .u32 c.a) := HD.out.blk (List.Mem.head _) 0; have qb71 : V4.cell? ⟨b7, 1, none⟩ = some (.int .i64 c.n) := HD.out.blk (List.Mem.head _) 1; have qb72 : V4.cell? ⟨b7, 2, none⟩ = some (.int .u16 c.item) := HD.out.blk (List.Mem.head _) 2; have qb73 : V4.cell? ⟨b7, 3, none⟩ = some (.int .i64 c.m) := HD.out.blk (List.Mem.head _) 3))
    all_goals (first
      | (obtain ⟨bq, hbq⟩ : ∃ bq, V4.heap.size = bq := ⟨_, rfl⟩; obtain ⟨W8, hW8⟩ : ∃ W8, V4.alloc (.cells #[.int .i64 r1, .int .i64 r2] 55) = W8 := ⟨_, rfl⟩; have HD' : Hid (DK B pl pw [(bq, .cells #[.int .i64 r1, .int .i64 r2] 55 (0, 0)), (b7, .cells #[.int .u32 c.a, .int .i64 c.n, .int .u16 c.item, .int .i64 c.m] 64 (0, 0)), (b5, .cells #[.int .i64 z1, .int .i64 z2] 55 (0, 0)), (b3, .cells #[.int .i64 u1, .int .i64 u2] 55 (0, 0))] [(v2, t), (v1, g)] l c a w W8) := Lib.hid (by rw [← hW8, ← hbq]; exact HD.out.new _ 55 rfl); rw [hW8, hbq])
      | (obtain ⟨bq, hbq⟩ : ∃ bq, b8 = bq := ⟨_, rfl⟩; obtain ⟨W8, hW8⟩ : ∃ W8, ((V4.setCell ⟨b8, 0, none⟩ (.int .i64 r1)).setCell ⟨b8, 1, none⟩ (.int .i64 r2)) = W8 := ⟨_, rfl⟩; have HD' : Hid (DK B pl pw [(bq, .cells #[.int .i64 r1, .int .i64 r2] 55 (0, 0)), (b7, .cells #[.int .u32 c.a, .int .i64 c.n, .int .u16 c.item, .int .i64 c.m] 64 (0, 0)), (b5, .cells #[.int .i64 z1, .int .i64 z2] 55 (0, 0)), (b3, .cells #[.int .i64 u1, .int .i64 u2] 55 (0, 0))] [(v2, t), (v1, g)] l c a w W8) := Lib.hid (by rw [← hW8, ← hbq]; exact HD.out.turn2 (by decide) _ _); rw [hW8, hbq])
      | (obtain ⟨bq, hbq⟩ : ∃ bq, V3.heap.size = bq := ⟨_, rfl⟩; obtain ⟨W8, hW8⟩ : ∃ W8, ((V4.setCell ⟨V3.heap.size, 0, none⟩ (.int .i64 r1)).setCell ⟨V3.heap.size, 1, none⟩ (.int .i64 r2)) = W8 := ⟨_, rfl⟩; have HD' : Hid (DK B pl pw [(bq, .cells #[.int .i64 r1, .int .i64 r2] 55 (0, 0)), (b7, .cells #[.int .u32 c.a, .int .i64 c.n, .int .u16 c.item, .int .i64 c.m] 64 (0, 0)), (b5, .cells #[.int .i64 z1, .int .i64 z2] 55 (0, 0)), (b3, .cells #[.int .i64 u1, .int .i64 u2] 55 (0, 0))] [(v2, t), (v1, g)] l c a w W8) := Lib.hid (by rw [← hW8, ← hbq]; exact HD.out.turn2 (by decide) _ _); rw [hW8, hbq]))
    all_goals
      clear HD; have HD := HD'; clear HD'
      try clear HE
      try clear sf
      try clear s0 s1
      clear hW8 hbq
      try clear p2 pb50 pb51 pb70 pb71 pb72 pb73
      try clear q2 qb50 qb51 qb70 qb71 qb72 qb73
      try clear hn_pw hn_b5 hn_b7
      try clear hm_pw hm_b5 hm_b7
      try clear hb8
      by_cases hz : te = 0
      · subst hz
        have hR := HR.out
        rw [if_pos rfl] at hR
        clear HR
        have HR := Lib.hid hR
        clear hR
        go_wp2_with fail
        refine (KN.out _ HD.out.wk).mono ?_
        rintro e V5 ⟨rfl, hb⟩
        have HD' := Lib.hid (HD.out.read hb); clear HD hb; have HD := HD'; clear HD'
        by_cases hz : xe = 0
        · subst hz
          have hR := HR.out
          rw [if_pos rfl] at hR
          clear HR
          have HR := Lib.hid hR
          clear hR
          go_wp2_with fail
          have p2 : V5.cell? ⟨pw, 2, none⟩ = some (.int .u32 c.a) := HD.out.cell 2
          have pbq0 : V5.cell? ⟨bq, 0, none⟩ = some (.int .i64 r1) := HD.out.blk (List.Mem.head _) 0
          have pbq1 : V5.cell? ⟨bq, 1, none⟩ = some (.int .i64 r2) := HD.out.blk (List.Mem.head _) 1
          have HD' := Lib.hid (HD.out.drew); clear HD; have HD := HD'; clear HD'
          go_region_held3 (fun W' => W'.cell? ⟨pw, 2, none⟩ = some (.int .u32 c.a) ∧ W'.cell? ⟨bq, 0, none⟩ = some (.int .i64 r1) ∧ W'.cell? ⟨bq, 1, none⟩ = some (.int .i64 r2))
            (first | with_reducible exact ⟨q2, qbq0, qbq1⟩ | with_reducible exact ⟨p2, pbq0, pbq1⟩ | with_reducible exact ⟨cell_drew p2, cell_drew pbq0, cell_drew pbq1⟩)
            (first | (go_at_call 97; (with_reducible refine (KZ.out _ HD.out.wk).mono ?_); rintro e V6 ⟨rfl, hb⟩; have HD' := Lib.hid (HD.out.write hb); clear HD hb; have HD := HD'; clear HD'; have q2 : V6.cell? ⟨pw, 2, none⟩ = some (.int .u32 c.a) := HD.out.cell 2; have qbq0 : V6.cell? ⟨bq, 0, none⟩ = some (.int .i64 r1) := HD.out.blk (List.Mem.head _) 0; have qbq1 : V6.cell? ⟨bq, 1, none⟩ = some (.int .i64 r2) := HD.out.blk (List.Mem.head _) 1))
          try clear p2 pbq0 pbq1
          try clear q2 qbq0 qbq1
          go_wp2_with fail
          have p2 : V6.cell? ⟨pw, 2, none⟩ = some (.int .u32 c.a) := HD.out.cell 2
          have p4 : V6.cell? ⟨pw, 4, none⟩ = some (.int .u16 c.item) := HD.out.cell 4
          have HD' := Lib.hid (HD.out.drew); clear HD; have HD := HD'; clear HD'
          go_region_held3 (fun W' => W'.cell? ⟨pw, 2, none⟩ = some (.int .u32 c.a) ∧ W'.cell? ⟨pw, 4, none⟩ = some (.int .u16 c.item))
            (first | with_reducible exact ⟨q2, q4⟩ | with_reducible exact ⟨p2, p4⟩ | with_reducible exact ⟨cell_drew p2, cell_drew p4⟩)
            (first | (go_at_call 109; (with_reducible refine (KS.out _ _ HD.out.wk (HD.out.sees (List.Mem.head _))).mono ?_); rintro e V7 ⟨rfl, hb⟩; have HD' := Lib.hid (HD.out.write hb); clear HD hb; have HD := HD'; clear HD'; have q2 : V7.cell? ⟨pw, 2, none⟩ = some (.int .u32 c.a) := HD.out.cell 2; have q4 : V7.cell? ⟨pw, 4, none⟩ = some (.int .u16 c.item) := HD.out.cell 4))
          try clear p2 p4
          try clear q2 q4
          go_wp2_with fail
          refine (KK.out _).mono ?_
          rintro e V8 ⟨rfl, hb⟩
          have HD' := Lib.hid (HD.out.read hb); clear HD hb; have HD := HD'; clear HD'
          go_wp2_with fail
          refine (KU.out _ HD.out.wk).mono ?_
          rintro e V9 ⟨rfl, hb⟩
          have HD' := Lib.hid (HD.out.write hb); clear HD hb; have HD := HD'; clear HD'
          have rb70 : V9.cell? ⟨b7, 0, none⟩ = some (.int .u32 c.a) := HD.out.blk (List.Mem.tail _ (List.Mem.head _)) 0
          have rb71 : V9.cell? ⟨b7, 1, none⟩ = some (.int .i64 c.n) := HD.out.blk (List.Mem.tail _ (List.Mem.head _)) 1
          have rb72 : V9.cell? ⟨b7, 2, none⟩ = some (.int .u16 c.item) := HD.out.blk (List.Mem.tail _ (List.Mem.head _)) 2
          have rb73 : V9.cell? ⟨b7, 3, none⟩ = some (.int .i64 c.m) := HD.out.blk (List.Mem.tail _ (List.Mem.head _)) 3
          go_wp2_with fail
          refine (KY.out _).mono ?_
          rintro e V10 ⟨rfl, hb⟩
          have HD' := Lib.hid (HD.out.read hb); clear HD hb; have HD := HD'; clear HD'
          try clear rb70 rb71 rb72 rb73
          go_wp2_with fail
          have p0 : V10.cell? ⟨pw, 0, none⟩ = some (.iface 45 (.pointer (some ⟨pl, 0, none⟩))) := HD.out.cell 0
          have p3 : V10.cell? ⟨pw, 3, none⟩ = some (.int .u32 c.b) := HD.out.cell 3
          have HD' := Lib.hid (HD.out.drew); clear HD; have HD := HD'; clear HD'
          go_region_held3 (fun W' => W'.cell? ⟨pw, 0, none⟩ = some (.iface 45 (.pointer (some ⟨pl, 0, none⟩))) ∧ W'.cell? ⟨pw, 3, none⟩ = some (.int .u32 c.b))
            (first | with_reducible exact ⟨q0, q3⟩ | with_reducible exact ⟨cell_alloc q0 _, cell_alloc q3 _⟩ | with_reducible exact ⟨cell_drew (cell_alloc q0 _), cell_drew (cell_alloc q3 _)⟩ | with_reducible exact ⟨p0, p3⟩ | with_reducible exact ⟨cell_drew p0, cell_drew p3⟩)
            (first | (go_at_call 66; (with_reducible refine (KL.out _).mono ?_); rintro e V11 ⟨rfl, hb⟩; have HD' := Lib.hid (HD.out.read hb); clear HD hb; have HD := HD'; clear HD'; have q0 : V11.cell? ⟨pw, 0, none⟩ = some (.iface 45 (.pointer (some ⟨pl, 0, none⟩))) := HD.out.cell 0; have q3 : V11.cell? ⟨pw, 3, none⟩ = some (.int .u32 c.b) := HD.out.cell 3) | (go_at_call 228; (first | (with_reducible refine (KP.out _ _ HD.out.wk (Below.refl _ _)).mono ?_) | (with_reducible refine (KQ.out _ _ HD.out.wk (Below.refl _ _)).mono ?_)); rintro e V12 ⟨rfl, hb⟩; have HD' := Lib.hid (HD.out.write hb); clear HD hb; have HD := HD'; clear HD'; have q0 : V12.cell? ⟨pw, 0, none⟩ = some (.iface 45 (.pointer (some ⟨pl, 0, none⟩))) := HD.out.cell 0; have q3 : V12.cell? ⟨pw, 3, none⟩ = some (.int .u32 c.b) := HD.out.cell 3))
          all_goals
            try clear p0 p3
            try clear q0 q3
            have p8 : V12.cell? ⟨pw, 8, none⟩ = some (.int .i64 a.2.1) := HD.out.cell 8
            have pf : ∀ j, V12.frozen? ⟨pw, j, none⟩ = false := blk_frozen HD.out.wk.box
            have HD' := Lib.hid (HD.out.ds.set (a' := (a.1, x, a.2.2)) 8 (.int .i64 x) rfl)
            go_wp2
            go_ret
            have hE := HR.out
            subst hE
            exact HD'.out.nil
        · have hz' : (xe == 0) = false := by simpa using hz
          have hz2 : (xe != 0) = true := by simpa using hz
          have hR := HR.out
          rw [if_neg hz] at hR
          clear HR
          have HR := Lib.hid hR
          clear hR
          have HO := Lib.hid (wof_new xe V5)
          go_wp2_with fail
          refine HO.out.mono ?_
          rintro e V9 ⟨v9, rfl, hv9, hb9⟩
          have HV := Lib.hid (HD.out.ds.done hb9 hv9)
          clear hv9 hb9
          go_wp2
          go_ret
          have hE := HR.out
          subst hE
          exact HV.out
      · have hz' : (te == 0) = false := by simpa using hz
        have hz2 : (te != 0) = true := by simpa using hz
        have hR := HR.out
        rw [if_neg hz] at hR
        clear HR
        have HR := Lib.hid hR
        clear hR
        have HO := Lib.hid (wof_new te W8)
        go_wp2_with fail
        refine HO.out.mono ?_
        rintro e V9 ⟨v9, rfl, hv9, hb9⟩
        have HV := Lib.hid (HD.out.ds.done hb9 hv9)
        clear hv9 hb9
        go_wp2
        go_ret
        have hE := HR.out
        subst hE
        exact HV.out
  · have hz' : (ue == 0) = false := by simpa using hz
    have hz2 : (ue != 0) = true := by simpa using hz
    have hR := HR.out
    rw [if_neg hz] at hR
    clear HR
    have HR := Lib.hid hR
    clear hR
    have HO := Lib.hid (wof_new ue W3)
    go_wp2_with fail
    refine HO.out.mono ?_
    rintro e V9 ⟨v9, rfl, hv9, hb9⟩
    have HV := Lib.hid (HD.out.ds.done hb9 hv9)
    clear hv9 hb9
    go_wp2
    go_ret
    have hE := HR.out
    subst hE
    exact HV.out
end Go.Proofs.YtmkcbkdbdcnoiaaGreatDoor
namespace Go.Proofs.YtmkcbkdbdcnoiaaGreatDoor
open Go.RowKit
set_option linter.unusedVariables false
set_option linter.unusedSimpArgs false

/-- What paying comes to. -/
def pyF (l : List Par) (c : Cmd) : List Par × Int :=
  if (otF l c false).2 = 0 then
    if (payF (acF l c.a).1 (otF l c false).1 c.n).2.2 = 0 then
      (saA (saA l c.a (payF (acF l c.a).1 (otF l c false).1 c.n).1) c.b (payF (acF l c.a).1 (otF l c false).1 c.n).2.1, 0)
    else (l, (payF (acF l c.a).1 (otF l c false).1 c.n).2.2)
  else (l, (otF l c false).2)

set_option maxHeartbeats 4000000 in
set_option maxRecDepth 100000 in
theorem wpay_any (B pl pw n : Nat) (l : List Par) (c : Cmd) (a : Ans) (w : World) (hW : Wk B pl pw l c a w) (hO : Ok n l) (hn : n < 99990) (hc : CmdOk c) :
    Calls Tryz.prog 51 #[.pointer (some ⟨pw, 0, none⟩)] w fun e w' => DP B pl pw c ((pyF l c).1, a, (pyF l c).2) w e w' := by
  obtain ⟨R, hR⟩ : ∃ R, pyF l c = R := ⟨_, rfl⟩
  rw [hR]
  unfold pyF at hR
  have hA := fun V (h : Wk B pl pw l c a V) => waccount_any B pl pw n l c a c.a V h hO (by omega) hc.a
  generalize (acF l c.a).2 = ae at hA
  generalize (acF l c.a).1 = z at hA hR
  have hI := fun V (h : Wk B pl pw l c a V) => wother_any B pl pw n l c a false V h hO (by omega) hc
  generalize otF l c false = u at hI hR
  obtain ⟨u, ue⟩ := u
  dsimp only at hR
  have hT := fun V (h2 : Glob V) => pay_any z u c.n V h2
  generalize payF z u c.n = t at hT hR
  obtain ⟨⟨r1, r2⟩, ⟨s1, s2⟩, te⟩ := t
  obtain ⟨z1, z2⟩ := z
  obtain ⟨u1, u2⟩ := u
  dsimp only at hR
  have hZ := fun V (h : Wk B pl pw l c a V) => wsetAccount2 B pl pw n l c a c.a (r1, r2) V h hO (by omega) hc.a
  have hO1 := saA_ok hO c.a (r1, r2)
  generalize saA l c.a (r1, r2) = L0 at hZ hO1 hR
  have hY := fun V (h : Wk B pl pw L0 c a V) => wsetAccount2 B pl pw (n + 1) L0 c a c.b (s1, s2) V h hO1 (by omega) hc.b
  generalize saA L0 c.b (s1, s2) = L1 at hY hR
  unfold accv at hI hA hT hZ hY
  dsimp only at hI hA hT hZ hY
  have KI := Lib.hid hI
  have KA := Lib.hid hA
  have KT := Lib.hid hT
  have KZ := Lib.hid hZ
  have KY := Lib.hid hY
  have HR := Lib.hid hR
  have HD := Lib.hid (DK.start hW)
  clear hI hA hT hZ hY hR hO hO1 hW
  have p2 : w.cell? ⟨pw, 2, none⟩ = some (.int .u32 c.a) := HD.out.cell 2
  go_enter Tryz.func51, Tryz.ntmps51
  go_wp2_with fail
  refine (KA.out _ HD.out.wk).mono ?_
  rintro e V1 ⟨rfl, hb⟩
  have HD' := Lib.hid (HD.out.read hb); clear HD hb; have HD := HD'; clear HD'
  clear p2
  obtain ⟨b3, hb3⟩ : ∃ b3, V1.heap.size = b3 := ⟨_, rfl⟩
  obtain ⟨W3, hW3⟩ : ∃ W3, V1.alloc (.cells #[.int .i64 z1, .int .i64 z2] 55) = W3 := ⟨_, rfl⟩
  have HD' : Hid (DK B pl pw [(b3, .cells #[.int .i64 z1, .int .i64 z2] 55 (0, 0))] [] l c a w W3) := Lib.hid (by rw [← hW3, ← hb3]; exact HD.out.new _ 55 rfl)
  clear HD; have HD := HD'; clear HD'
  go_wp2_with fail
  refine (KI.out _ HD.out.wk).mono ?_
  rintro e V2 ⟨rfl, hb⟩
  have HD' := Lib.hid (HD.out.read hb); clear HD hb; have HD := HD'; clear HD'
  clear hW3 hb3
  obtain ⟨b5, hb5⟩ : ∃ b5, V2.heap.size = b5 := ⟨_, rfl⟩
  obtain ⟨W5, hW5⟩ : ∃ W5, V2.alloc (.cells #[.int .i64 u1, .int .i64 u2] 55) = W5 := ⟨_, rfl⟩
  have HD' : Hid (DK B pl pw [(b5, .cells #[.int .i64 u1, .int .i64 u2] 55 (0, 0)), (b3, .cells #[.int .i64 z1, .int .i64 z2] 55 (0, 0))] [] l c a w W5) := Lib.hid (by rw [← hW5, ← hb5]; exact HD.out.new _ 55 rfl)
  clear HD; have HD := HD'; clear HD'
  by_cases hz : ue = 0
  · subst hz
    have hR := HR.out
    rw [if_pos rfl] at hR
    clear HR
    have HR := Lib.hid hR
    clear hR
    go_wp2_with fail
    try clear hW5 hb5
    have p5 : W5.cell? ⟨pw, 5, none⟩ = some (.int .i64 c.n) := HD.out.cell 5
    have pb30 : W5.cell? ⟨b3, 0, none⟩ = some (.int .i64 z1) := HD.out.blk (List.Mem.tail _ (List.Mem.head _)) 0
    have pb31 : W5.cell? ⟨b3, 1, none⟩ = some (.int .i64 z2) := HD.out.blk (List.Mem.tail _ (List.Mem.head _)) 1
    have pb50 : W5.cell? ⟨b5, 0, none⟩ = some (.int .i64 u1) := HD.out.blk (List.Mem.head _) 0
    have pb51 : W5.cell? ⟨b5, 1, none⟩ = some (.int .i64 u2) := HD.out.blk (List.Mem.head _) 1
    obtain ⟨b7, hb7⟩ : ∃ b7, W5.heap.size = b7 := ⟨_, rfl⟩
    have HE : Hid (DK B pl pw [(b7, .cells #[.int .i64 0, .int .i64 0] 55 (0, 0)), (b5, .cells #[.int .i64 u1, .int .i64 u2] 55 (0, 0)), (b3, .cells #[.int .i64 z1, .int .i64 z2] 55 (0, 0))] [] l c a w ((W5.alloc (.cells #[.int .i64 0, .int .i64 0] 55)).drew)) := Lib.hid (by rw [← hb7]; exact (HD.out.new _ 55 rfl).drew)
    have HF : Hid (DK B pl pw [(b7 + 1, .cells #[.int .i64 0, .int .i64 0] 55 (0, 0)), (b7, .cells #[.int .i64 0, .int .i64 0] 55 (0, 0)), (b5, .cells #[.int .i64 u1, .int .i64 u2] 55 (0, 0)), (b3, .cells #[.int .i64 z1, .int .i64 z2] 55 (0, 0))] [] l c a w (((W5.alloc (.cells #[.int .i64 0, .int .i64 0] 55)).alloc (.cells #[.int .i64 0, .int .i64 0] 55)).drew)) := Lib.hid (by have := ((HD.out.new #[.int .i64 0, .int .i64 0] 55 rfl).new #[.int .i64 0, .int .i64 0] 55 rfl).drew; simp only [World.size_alloc, hb7] at this; exact this)
    have hn0_pw : pw ≠ b7 := Ne.symm (HE.out.non _ (List.Mem.head _)).2.2.1
    have hn1_pw : pw ≠ b7 + 1 := Ne.symm (HF.out.non _ (List.Mem.head _)).2.2.1
    have hn0_b3 : b3 ≠ b7 := (List.pairwise_cons.1 HE.out.far).1 _ (List.Mem.tail _ (List.Mem.head _))
    have hn1_b3 : b3 ≠ b7 + 1 := (List.pairwise_cons.1 HF.out.far).1 _ (List.Mem.tail _ (List.Mem.tail _ (List.Mem.head _)))
    have hn0_b5 : b5 ≠ b7 := (List.pairwise_cons.1 HE.out.far).1 _ (List.Mem.head _)
    have hn1_b5 : b5 ≠ b7 + 1 := (List.pairwise_cons.1 HF.out.far).1 _ (List.Mem.tail _ (List.Mem.head _))
    have HD' := Lib.hid (HD.out.drew); clear HD; have HD := HD'; clear HD'
    go_region_held3 (fun W' => W'.cell? ⟨pw, 5, none⟩ = some (.int .i64 c.n) ∧ W'.cell? ⟨b3, 0, none⟩ = some (.int .i64 z1) ∧ W'.cell? ⟨b3, 1, none⟩ = some (.int .i64 z2) ∧ W'.cell? ⟨b5, 0, none⟩ = some (.int .i64 u1) ∧ W'.cell? ⟨b5, 1, none⟩ = some (.int .i64 u2))
      (refine ⟨?_, ?_, ?_, ?_, ?_⟩ <;> (repeat (first | with_reducible assumption | with_reducible refine cell_alloc ?_ _ | with_reducible refine cell_drew ?_ | with_reducible refine cell_far ?_ hn0_pw _ | with_reducible refine cell_far ?_ hn0_b3 _ | with_reducible refine cell_far ?_ hn0_b5 _ | with_reducible refine cell_far ?_ hn1_pw _ | with_reducible refine cell_far ?_ hn1_b3 _ | with_reducible refine cell_far ?_ hn1_b5 _ | with_reducible refine cell_far ?_ hk0_pw _ | with_reducible refine cell_far ?_ hk0_b3 _ | with_reducible refine cell_far ?_ hk0_b5 _ | with_reducible refine cell_far ?_ hk1_pw _ | with_reducible refine cell_far ?_ hk1_b3 _ | with_reducible refine cell_far ?_ hk1_b5 _ | with_reducible refine cell_far ?_ hv_pw _ | with_reducible refine cell_far ?_ hv_b3 _ | with_reducible refine cell_far ?_ hv_b5 _)))
      (first | (go_at_call 112; (with_reducible refine (KT.out _ HD.out.glob).mono ?_); rintro e V4 ⟨rfl, hb⟩; have HD' := Lib.hid (HD.out.read hb); clear HD hb; have HD := HD'; clear HD'; have q5 : V4.cell? ⟨pw, 5, none⟩ = some (.int .i64 c.n) := HD.out.cell 5; have qb30 : V4.cell? ⟨b3, 0, none⟩ = some (.int .i64 z1) := HD.out.blk (List.Mem.tail _ (List.Mem.head _)) 0; have qb31 : V4.cell? ⟨b3, 1, none⟩ = some (.int .i64 z2) := HD.out.blk (List.Mem.tail _ (List.Mem.head _)) 1; have qb50 : V4.cell? ⟨b5, 0, none⟩ = some (.int .i64 u1) := HD.out.blk (List.Mem.head _) 0; have qb51 : V4.cell? ⟨b5, 1, none⟩ = some (.int .i64 u2) := HD.out.blk (List.Mem.head _) 1) | (go_at_call 112; (with_reducible refine (KT.out _ HE.out.glob).mono ?_); rintro e V4 ⟨rfl, hb⟩; have HD' := Lib.hid (HE.out.read hb); clear HD HE hb; have HD := HD'; clear HD'; have q5 : V4.cell? ⟨pw, 5, none⟩ = some (.int .i64 c.n) := HD.out.cell 5; have qb30 : V4.cell? ⟨b3, 0, none⟩ = some (.int .i64 z1) := HD.out.blk (List.Mem.tail _ (List.Mem.tail _ (List.Mem.head _))) 0; have qb31 : V4.cell? ⟨b3, 1, none⟩ = some (.int .i64 z2) := HD.out.blk (List.Mem.tail _ (List.Mem.tail _ (List.Mem.head _))) 1; have qb50 : V4.cell? ⟨b5, 0, none⟩ = some (.int .i64 u1) := HD.out.blk (List.Mem.tail _ (List.Mem.head _)) 0; have qb51 : V4.cell? ⟨b5, 1, none⟩ = some (.int .i64 u2) := HD.out.blk (List.Mem.tail _ (List.Mem.head _)) 1; have jx_f0 := HD.out.top0; have jx_f1 := HD.out.top1; have jx_ff := HD.out.topf; have jx_u0 := fun o => (HD.out.alloc o).top0; have jx_u1 := fun o => (HD.out.alloc o).top1; have jx_uf := fun o => (HD.out.alloc o).topf; have ug1 : V4.heap.size ≠ b7 := Nat.ne_of_gt (HD.out.gt (List.Mem.head _)); have ug2 : b7 ≠ V4.heap.size := Nat.ne_of_lt (HD.out.gt (List.Mem.head _)); have hv_pw : pw ≠ V4.heap.size := Nat.ne_of_lt HD.out.wk.size.2.2; have hv_b3 : b3 ≠ V4.heap.size := Nat.ne_of_lt (show b3 < V4.heap.size from HD.out.gt (List.Mem.tail _ (List.Mem.tail _ (List.Mem.head _)))); have hv_b5 : b5 ≠ V4.heap.size := Nat.ne_of_lt (show b5 < V4.heap.size from HD.out.gt (List.Mem.tail _ (List.Mem.head _)))) | (go_at_call 112; (with_reducible refine (KT.out _ HF.out.glob).mono ?_); rintro e V4 ⟨rfl, hb⟩; have HD' := Lib.hid (HF.out.read hb); clear HD HF hb; have HD := HD'; clear HD'; have q5 : V4.cell? ⟨pw, 5, none⟩ = some (.int .i64 c.n) := HD.out.cell 5; have qb30 : V4.cell? ⟨b3, 0, none⟩ = some (.int .i64 z1) := HD.out.blk (List.Mem.tail _ (List.Mem.tail _ (List.Mem.tail _ (List.Mem.head _)))) 0; have qb31 : V4.cell? ⟨b3, 1, none⟩ = some (.int .i64 z2) := HD.out.blk (List.Mem.tail _ (List.Mem.tail _ (List.Mem.tail _ (List.Mem.head _)))) 1; have qb50 : V4.cell? ⟨b5, 0, none⟩ = some (.int .i64 u1) := HD.out.blk (List.Mem.tail _ (List.Mem.tail _ (List.Mem.head _))) 0; have qb51 : V4.cell? ⟨b5, 1, none⟩ = some (.int .i64 u2) := HD.out.blk (List.Mem.tail _ (List.Mem.tail _ (List.Mem.head _))) 1; have jx_f0 := HD.out.top0; have jx_f1 := HD.out.top1; have jx_ff := HD.out.topf; have jx_g0 := HD.out.tip0; have jx_g1 := HD.out.tip1; have jx_gf := HD.out.tipf; have ug1 : b7 ≠ b7 + 1 := (List.pairwise_cons.1 HD.out.far).1 _ (List.Mem.head _); have ug2 : b7 + 1 ≠ b7 := Ne.symm ((List.pairwise_cons.1 HD.out.far).1 _ (List.Mem.head _))))
    all_goals (first
      | (obtain ⟨bp, hbp⟩ : ∃ bp, V4.heap.size = bp := ⟨_, rfl⟩; obtain ⟨bq, hbq⟩ : ∃ bq, V4.heap.size + 1 = bq := ⟨_, rfl⟩; obtain ⟨W8, hW8⟩ : ∃ W8, ((V4).alloc (.cells #[.int .i64 r1, .int .i64 r2] 55)).alloc (.cells #[.int .i64 s1, .int .i64 s2] 55) = W8 := ⟨_, rfl⟩; have HD' : Hid (DK B pl pw [(bp, .cells #[.int .i64 r1, .int .i64 r2] 55 (0, 0)), (bq, .cells #[.int .i64 s1, .int .i64 s2] 55 (0, 0)), (b5, .cells #[.int .i64 u1, .int .i64 u2] 55 (0, 0)), (b3, .cells #[.int .i64 z1, .int .i64 z2] 55 (0, 0))] [] l c a w W8) := Lib.hid (by rw [← hW8, ← hbp, ← hbq]; exact (by have := (HD.out.new #[.int .i64 r1, .int .i64 r2] 55 rfl).new #[.int .i64 s1, .int .i64 s2] 55 rfl; simp only [World.size_alloc] at this; exact this.swap)); rw [hW8, hbq, hbp])
      | (obtain ⟨bp, hbp⟩ : ∃ bp, V4.heap.size + 1 = bp := ⟨_, rfl⟩; obtain ⟨bq, hbq⟩ : ∃ bq, V4.heap.size = bq := ⟨_, rfl⟩; obtain ⟨W8, hW8⟩ : ∃ W8, ((V4).alloc (.cells #[.int .i64 s1, .int .i64 s2] 55)).alloc (.cells #[.int .i64 r1, .int .i64 r2] 55) = W8 := ⟨_, rfl⟩; have HD' : Hid (DK B pl pw [(bp, .cells #[.int .i64 r1, .int .i64 r2] 55 (0, 0)), (bq, .cells #[.int .i64 s1, .int .i64 s2] 55 (0, 0)), (b5, .cells #[.int .i64 u1, .int .i64 u2] 55 (0, 0)), (b3, .cells #[.int .i64 z1, .int .i64 z2] 55 (0, 0))] [] l c a w W8) := Lib.hid (by rw [← hW8, ← hbp, ← hbq]; exact (by have := (HD.out.new #[.int .i64 s1, .int .i64 s2] 55 rfl).new #[.int .i64 r1, .int .i64 r2] 55 rfl; simp only [World.size_alloc] at this; exact this)); rw [hW8, hbp, hbq])
      | (obtain ⟨bp, hbp⟩ : ∃ bp, b7 = bp := ⟨_, rfl⟩; obtain ⟨bq, hbq⟩ : ∃ bq, V4.heap.size = bq := ⟨_, rfl⟩; obtain ⟨W8, hW8⟩ : ∃ W8, (((((V4).alloc (.cells #[.int .i64 0, .int .i64 0] 55)).setCell ⟨b7, 0, none⟩ (.int .i64 r1)).setCell ⟨b7, 1, none⟩ (.int .i64 r2)).setCell ⟨V4.heap.size, 0, none⟩ (.int .i64 s1)).setCell ⟨V4.heap.size, 1, none⟩ (.int .i64 s2) = W8 := ⟨_, rfl⟩; have HD' : Hid (DK B pl pw [(bp, .cells #[.int .i64 r1, .int .i64 r2] 55 (0, 0)), (bq, .cells #[.int .i64 s1, .int .i64 s2] 55 (0, 0)), (b5, .cells #[.int .i64 u1, .int .i64 u2] 55 (0, 0)), (b3, .cells #[.int .i64 z1, .int .i64 z2] 55 (0, 0))] [] l c a w W8) := Lib.hid (by rw [← hW8, ← hbp, ← hbq]; exact (((((HD.out.new #[.int .i64 0, .int .i64 0] 55 rfl).swap.turn2 (by decide) _ _).swap).turn2 (by decide) _ _).swap)); rw [hW8, hbp, hbq])
      | (obtain ⟨bp, hbp⟩ : ∃ bp, V4.heap.size = bp := ⟨_, rfl⟩; obtain ⟨bq, hbq⟩ : ∃ bq, b7 = bq := ⟨_, rfl⟩; obtain ⟨W8, hW8⟩ : ∃ W8, (((V4).alloc (.cells #[.int .i64 r1, .int .i64 r2] 55)).setCell ⟨b7, 0, none⟩ (.int .i64 s1)).setCell ⟨b7, 1, none⟩ (.int .i64 s2) = W8 := ⟨_, rfl⟩; have HD' : Hid (DK B pl pw [(bp, .cells #[.int .i64 r1, .int .i64 r2] 55 (0, 0)), (bq, .cells #[.int .i64 s1, .int .i64 s2] 55 (0, 0)), (b5, .cells #[.int .i64 u1, .int .i64 u2] 55 (0, 0)), (b3, .cells #[.int .i64 z1, .int .i64 z2] 55 (0, 0))] [] l c a w W8) := Lib.hid (by rw [← hW8, ← hbp, ← hbq]; exact (((HD.out.new #[.int .i64 r1, .int .i64 r2] 55 rfl).swap.turn2 (by decide) _ _).swap)); rw [hW8, hbp, hbq])
      | (obtain ⟨bp, hbp⟩ : ∃ bp, b7 = bp := ⟨_, rfl⟩; obtain ⟨bq, hbq⟩ : ∃ bq, b7 + 1 = bq := ⟨_, rfl⟩; obtain ⟨W8, hW8⟩ : ∃ W8, ((((V4).setCell ⟨b7, 0, none⟩ (.int .i64 r1)).setCell ⟨b7, 1, none⟩ (.int .i64 r2)).setCell ⟨b7 + 1, 0, none⟩ (.int .i64 s1)).setCell ⟨b7 + 1, 1, none⟩ (.int .i64 s2) = W8 := ⟨_, rfl⟩; have HD' : Hid (DK B pl pw [(bp, .cells #[.int .i64 r1, .int .i64 r2] 55 (0, 0)), (bq, .cells #[.int .i64 s1, .int .i64 s2] 55 (0, 0)), (b5, .cells #[.int .i64 u1, .int .i64 u2] 55 (0, 0)), (b3, .cells #[.int .i64 z1, .int .i64 z2] 55 (0, 0))] [] l c a w W8) := Lib.hid (by rw [← hW8, ← hbp, ← hbq]; exact ((((HD.out.swap.turn2 (by decide) _ _).swap).turn2 (by decide) _ _).swap)); rw [hW8, hbq, hbp])
      | (obtain ⟨bp, hbp⟩ : ∃ bp, b7 + 1 = bp := ⟨_, rfl⟩; obtain ⟨bq, hbq⟩ : ∃ bq, b7 = bq := ⟨_, rfl⟩; obtain ⟨W8, hW8⟩ : ∃ W8, ((((V4).setCell ⟨b7 + 1, 0, none⟩ (.int .i64 r1)).setCell ⟨b7 + 1, 1, none⟩ (.int .i64 r2)).setCell ⟨b7, 0, none⟩ (.int .i64 s1)).setCell ⟨b7, 1, none⟩ (.int .i64 s2) = W8 := ⟨_, rfl⟩; have HD' : Hid (DK B pl pw [(bp, .cells #[.int .i64 r1, .int .i64 r2] 55 (0, 0)), (bq, .cells #[.int .i64 s1, .int .i64 s2] 55 (0, 0)), (b5, .cells #[.int .i64 u1, .int .i64 u2] 55 (0, 0)), (b3, .cells #[.int .i64 z1, .int .i64 z2] 55 (0, 0))] [] l c a w W8) := Lib.hid (by rw [← hW8, ← hbp, ← hbq]; exact ((((HD.out.turn2 (by decide) _ _).swap).turn2 (by decide) _ _).swap)); rw [hW8, hbp, hbq]))
    all_goals
      clear HD; have HD := HD'; clear HD'
      try clear HE
      try clear HF
      try clear jx_f0 jx_f1 jx_ff
      try clear jx_g0 jx_g1 jx_gf
      try clear jx_u0 jx_u1 jx_uf
      try clear ug1 ug2
      clear hW8 hbp hbq
      try clear hn0_pw hn0_b3 hn0_b5
      try clear hn1_pw hn1_b3 hn1_b5
      try clear hk0_pw hk0_b3 hk0_b5
      try clear hk1_pw hk1_b3 hk1_b5
      try clear hv_pw hv_b3 hv_b5
      try clear p5 pb30 pb31 pb50 pb51
      try clear q5 qb30 qb31 qb50 qb51
      try clear hb7
      try clear hHeld
      by_cases hz : te = 0
      · subst hz
        have hR := HR.out
        rw [if_pos rfl] at hR
        clear HR
        have HR := Lib.hid hR
        clear hR
        go_wp2_with fail
        have p2 : W8.cell? ⟨pw, 2, none⟩ = some (.int .u32 c.a) := HD.out.cell 2
        have pbp0 : W8.cell? ⟨bp, 0, none⟩ = some (.int .i64 r1) := HD.out.blk (List.Mem.head _) 0
        have pbp1 : W8.cell? ⟨bp, 1, none⟩ = some (.int .i64 r2) := HD.out.blk (List.Mem.head _) 1
        have HD' := Lib.hid (HD.out.drew); clear HD; have HD := HD'; clear HD'
        go_region_held3 (fun W' => W'.cell? ⟨pw, 2, none⟩ = some (.int .u32 c.a) ∧ W'.cell? ⟨bp, 0, none⟩ = some (.int .i64 r1) ∧ W'.cell? ⟨bp, 1, none⟩ = some (.int .i64 r2))
          (first | with_reducible exact ⟨q2, qbp0, qbp1⟩ | with_reducible exact ⟨p2, pbp0, pbp1⟩ | with_reducible exact ⟨cell_drew p2, cell_drew pbp0, cell_drew pbp1⟩)
          (first | (go_at_call 97; (with_reducible refine (KZ.out _ HD.out.wk).mono ?_); rintro e V6 ⟨rfl, hb⟩; have HD' := Lib.hid (HD.out.write hb); clear HD hb; have HD := HD'; clear HD'; have q2 : V6.cell? ⟨pw, 2, none⟩ = some (.int .u32 c.a) := HD.out.cell 2; have qbp0 : V6.cell? ⟨bp, 0, none⟩ = some (.int .i64 r1) := HD.out.blk (List.Mem.head _) 0; have qbp1 : V6.cell? ⟨bp, 1, none⟩ = some (.int .i64 r2) := HD.out.blk (List.Mem.head _) 1))
        try clear p2 pbp0 pbp1
        try clear q2 qbp0 qbp1
        go_wp2_with fail
        have p3 : V6.cell? ⟨pw, 3, none⟩ = some (.int .u32 c.b) := HD.out.cell 3
        have pbq0 : V6.cell? ⟨bq, 0, none⟩ = some (.int .i64 s1) := HD.out.blk (List.Mem.tail _ (List.Mem.head _)) 0
        have pbq1 : V6.cell? ⟨bq, 1, none⟩ = some (.int .i64 s2) := HD.out.blk (List.Mem.tail _ (List.Mem.head _)) 1
        have HD' := Lib.hid (HD.out.drew); clear HD; have HD := HD'; clear HD'
        go_region_held3 (fun W' => W'.cell? ⟨pw, 3, none⟩ = some (.int .u32 c.b) ∧ W'.cell? ⟨bq, 0, none⟩ = some (.int .i64 s1) ∧ W'.cell? ⟨bq, 1, none⟩ = some (.int .i64 s2))
          (first | with_reducible exact ⟨q3, qbq0, qbq1⟩ | with_reducible exact ⟨p3, pbq0, pbq1⟩ | with_reducible exact ⟨cell_drew p3, cell_drew pbq0, cell_drew pbq1⟩)
          (first | (go_at_call 97; (with_reducible refine (KY.out _ HD.out.wk).mono ?_); rintro e V6 ⟨rfl, hb⟩; have HD' := Lib.hid (HD.out.write hb); clear HD hb; have HD := HD'; clear HD'; have q3 : V6.cell? ⟨pw, 3, none⟩ = some (.int .u32 c.b) := HD.out.cell 3; have qbq0 : V6.cell? ⟨bq, 0, none⟩ = some (.int .i64 s1) := HD.out.blk (List.Mem.tail _ (List.Mem.head _)) 0; have qbq1 : V6.cell? ⟨bq, 1, none⟩ = some (.int .i64 s2) := HD.out.blk (List.Mem.tail _ (List.Mem.head _)) 1))
        try clear p3 pbq0 pbq1
        try clear q3 qbq0 qbq1
        have HO := Lib.hid (wof_new 0 V6)
        go_wp2_with fail
        refine HO.out.mono ?_
        rintro e V9 ⟨v9, rfl, hv9, hb9⟩
        have HV := Lib.hid (HD.out.ds.done hb9 hv9)
        clear hv9 hb9
        go_wp2
        go_ret
        have hE := HR.out
        subst hE
        exact HV.out
      · have hz' : (te == 0) = false := by simpa using hz
        have hz2 : (te != 0) = true := by simpa using hz
        have hR := HR.out
        rw [if_neg hz] at hR
        clear HR
        have HR := Lib.hid hR
        clear hR
        have HO := Lib.hid (wof_new te W8)
        go_wp2_with fail
        refine HO.out.mono ?_
        rintro e V9 ⟨v9, rfl, hv9, hb9⟩
        have HV := Lib.hid (HD.out.ds.done hb9 hv9)
        clear hv9 hb9
        go_wp2
        go_ret
        have hE := HR.out
        subst hE
        exact HV.out
  · have hz' : (ue == 0) = false := by simpa using hz
    have hz2 : (ue != 0) = true := by simpa using hz
    have hR := HR.out
    rw [if_neg hz] at hR
    clear HR
    have HR := Lib.hid hR
    clear hR
    have HO := Lib.hid (wof_new ue W5)
    go_wp2_with fail
    refine HO.out.mono ?_
    rintro e V9 ⟨v9, rfl, hv9, hb9⟩
    have HV := Lib.hid (HD.out.ds.done hb9 hv9)
    clear hv9 hb9
    go_wp2
    go_ret
    have hE := HR.out
    subst hE
    exact HV.out
end Go.Proofs.YtmkcbkdbdcnoiaaGreatDoor
namespace Go.Proofs.YtmkcbkdbdcnoiaaGreatDoor
open Go.RowKit
set_option linter.unusedVariables false
set_option linter.unusedSimpArgs false

/-- What Buy answers. -/
def sBuy (a b : Acc) (l : List Stk) (m : Sl) : Acc × Acc × List Stk × Int :=
  if slRight m = true then
    if (payF a b m.2.2.2).2.2 = 0 then
      if (sCancel l m).2 = 0 then ((payF a b m.2.2.2).1, (payF a b m.2.2.2).2.1, (sCancel l m).1, 0) else ((0, 0), (0, 0), [], (sCancel l m).2)
    else ((0, 0), (0, 0), [], (payF a b m.2.2.2).2.2)
  else ((0, 0), (0, 0), [], 150)
theorem res_cell2_tmp2 {P : Program} {fn : Func} {p1 p2 u x : Tmp} {ty t1 t2 : TypeId} {tmps : Array Value} {w : World} {g1 g2 : Nat} {c1 c2 : Array Value} {f1 f2 : Nat × Nat} {d : TypeDesc} (h : fn.results = #[.cell p1 ty, .cell p2 ty, .tmp u, .tmp x])
    (hp1 : tmps.getD p1 undef = .pointer (some ⟨g1, 0, none⟩)) (hp2 : tmps.getD p2 undef = .pointer (some ⟨g2, 0, none⟩)) (hb1 : w.heap[g1]? = some (.cells c1 t1 f1)) (hb2 : w.heap[g2]? = some (.cells c2 t2 f2)) (hu : P.underlying ty = some d) (hd : d.isRow = true) (hi1 : (P.info? ty).map (·.size) = some c1.size) (hi2 : (P.info? ty).map (·.size) = some c2.size) :
    (results fn tmps).run P w = .ok (.tuple #[.agg c1, .agg c2, tmps.getD u undef, tmps.getD x undef]) w := by
  have hp1' : tmps[p1]?.getD undef = .pointer (some ⟨g1, 0, none⟩) := by simpa using hp1
  have hp2' : tmps[p2]?.getD undef = .pointer (some ⟨g2, 0, none⟩) := by simpa using hp2
  simp only [results, h]
  simp [Sem.run_bind, Result.andThen, hp1', hp2', asAddr, load_blk hb1 hu hd hi1, load_blk hb2 hu hd hi2]
def BuPost (r : Acc × Acc × List Stk × Int) (w : World) (e : Ending) (w' : World) : Prop :=
  ∃ u, e = .returned (.tuple #[accv r.1, accv r.2.1, u, .int .i64 r.2.2.2]) ∧ w'.ownsRow w.heap.size 62 2 u r.2.2.1.length (stks r.2.2.1) ∧ Below w.heap.size w w'

/-- Buy's variables. -/
def BuS (w W : World) (a b : Acc) (m : Sl) (x y : Acc) : Prop := Two W w.heap.size a ∧ Two W (w.heap.size + 1) b ∧ W.heap[w.heap.size + 1 + 1]? = some (.cells (slc m) 68 (0, 0)) ∧ Two W (w.heap.size + 1 + 1 + 1) x ∧ Two W (w.heap.size + 1 + 1 + 1 + 1) y ∧ Below w.heap.size w W
theorem BuS.below {w W W' : World} {a b x y : Acc} {m : Sl} (h : BuS w W a b m x y) (hb : Below W.heap.size W W') : BuS w W' a b m x y :=
  ⟨h.1.below hb, h.2.1.below hb, keep_b h.2.2.1 hb, h.2.2.2.1.below hb, h.2.2.2.2.1.below hb, h.2.2.2.2.2.trans (hb.mono h.2.2.2.2.2.size)⟩
theorem BuS.alloc {w W : World} {a b x y : Acc} {m : Sl} (h : BuS w W a b m x y) (o : Obj) : BuS w (W.alloc o) a b m x y := h.below ((Below.refl _ W).alloc (Nat.le_refl _) _)
theorem BuS.setx {w W : World} {a b x y : Acc} {m : Sl} (h : BuS w W a b m x y) (u v : Int) : BuS w ((W.setCell ⟨w.heap.size + 1 + 1 + 1, 0, none⟩ (.int .i64 u)).setCell ⟨w.heap.size + 1 + 1 + 1, 1, none⟩ (.int .i64 v)) a b m (u, v) y :=
  ⟨(h.1.far (by omega)).far (by omega), (h.2.1.far (by omega)).far (by omega), (by rw [Below.heap_setCell _ _ _ _ (by simp), Below.heap_setCell _ _ _ _ (by simp)]; exact h.2.2.1), two_set h.2.2.2.1 _ _, (h.2.2.2.2.1.far (by omega)).far (by omega), (h.2.2.2.2.2.setCell (p := ⟨w.heap.size + 1 + 1 + 1, 0, none⟩) (by simp; omega) _).setCell (p := ⟨w.heap.size + 1 + 1 + 1, 1, none⟩) (by simp; omega) _⟩
theorem BuS.sety {w W : World} {a b x y : Acc} {m : Sl} (h : BuS w W a b m x y) (u v : Int) : BuS w ((W.setCell ⟨w.heap.size + 1 + 1 + 1 + 1, 0, none⟩ (.int .i64 u)).setCell ⟨w.heap.size + 1 + 1 + 1 + 1, 1, none⟩ (.int .i64 v)) a b m x (u, v) :=
  ⟨(h.1.far (by omega)).far (by omega), (h.2.1.far (by omega)).far (by omega), (by rw [Below.heap_setCell _ _ _ _ (by simp), Below.heap_setCell _ _ _ _ (by simp)]; exact h.2.2.1), (h.2.2.2.1.far (by omega)).far (by omega), two_set h.2.2.2.2.1 _ _, (h.2.2.2.2.2.setCell (p := ⟨w.heap.size + 1 + 1 + 1 + 1, 0, none⟩) (by simp; omega) _).setCell (p := ⟨w.heap.size + 1 + 1 + 1 + 1, 1, none⟩) (by simp; omega) _⟩
theorem BuS.drew {w W : World} {a b x y : Acc} {m : Sl} (h : BuS w W a b m x y) : BuS w W.drew a b m x y := h.below (Below.drew (Below.refl _ W))

set_option maxHeartbeats 2000000 in
set_option maxRecDepth 100000 in
theorem buy_any (a b : Acc) (l : List Stk) (m : Sl) (v : Value) (w : World) (hv : Sees w v l.length 2 (stks l)) (hl : l.length ≤ 1000) (hG : Glob w) :
    Calls Tryz.prog 124 #[accv a, accv b, v, slv m] w fun e w' => BuPost (sBuy a b l m) w e w' := by
  obtain ⟨W, hW⟩ : ∃ W, (((((w.alloc (.cells #[.int .i64 a.1, .int .i64 a.2] 55)).alloc (.cells #[.int .i64 b.1, .int .i64 b.2] 55)).alloc (.cells (slc m) 68)).alloc (.cells #[.int .i64 0, .int .i64 0] 55)).alloc (.cells #[.int .i64 0, .int .i64 0] 55)) = W := ⟨_, rfl⟩
  have hS : BuS w W a b m (0, 0) (0, 0) := by
    rw [← hW]
    refine ⟨?_, ?_, ?_, ?_, ?_, (((((Below.refl _ w).alloc (Nat.le_refl _) _).alloc (by simp) _).alloc (by simp; omega) _).alloc (by simp; omega) _).alloc (by simp; omega) _⟩
    all_goals
      simp only [Two, alloc_at, World.size_alloc]
      repeat (first | rw [if_pos trivial] | rw [if_pos (by omega)] | rw [if_neg (by omega)])
  have hA := slright_any m W
  have hP := fun V h => pay_any a b m.2.2.2 V h
  have hC := fun V h h2 => sdone_107 l m v V h hl h2
  have HG := Lib.hid (And.intro hv hG)
  obtain ⟨base, cap, rfl⟩ := hv.shape
  generalize hL : sBuy a b l m = L
  unfold sBuy at hL
  generalize payF a b m.2.2.2 = P at hL hP
  obtain ⟨⟨p1, p2⟩, ⟨q1, q2⟩, pe⟩ := P
  generalize sCancel l m = C at hL hC
  obtain ⟨cl, ce⟩ := C
  dsimp only at hL hP
  have HS := Lib.hid hS
  have HX := Lib.hid (And.intro hP hC)
  clear hP hC hv hG hS
  obtain ⟨f, i, c, p⟩ := m
  unfold accv slv slc at *
  dsimp only at hL HX hW ⊢
  have c0 : ∀ j, W.cell? ⟨w.heap.size, j, none⟩ = (#[.int .i64 a.1, .int .i64 a.2] : Array Value)[j]? := blk_cell HS.out.1
  have c1 : ∀ j, W.cell? ⟨w.heap.size + 1, j, none⟩ = (#[.int .i64 b.1, .int .i64 b.2] : Array Value)[j]? := blk_cell HS.out.2.1
  have c2 : ∀ j, W.cell? ⟨w.heap.size + 1 + 1, j, none⟩ = (#[.int .u32 f, .int .u16 i, .int .i64 c, .int .i64 p] : Array Value)[j]? := blk_cell HS.out.2.2.1
  rcases hr : slRight (f, i, c, p) with _ | _
  · rw [hr] at hA hL
    simp only [Bool.false_eq_true, if_false] at hL
    subst hL
    have HA := Lib.hid hA
    clear hA
    go_enter Tryz.func124, Tryz.ntmps124
    go_wp2_with fail
    refine HA.out.mono ?_
    rintro e W2 ⟨rfl, hb⟩
    have H2 := Lib.hid (HS.out.below hb)
    clear hb c0 c1 c2 hW
    have x0 : ∀ j, W2.cell? ⟨w.heap.size + 1 + 1 + 1, j, none⟩ = (#[.int .i64 0, .int .i64 0] : Array Value)[j]? := blk_cell H2.out.2.2.2.1
    have y0 : ∀ j, W2.cell? ⟨w.heap.size + 1 + 1 + 1 + 1, j, none⟩ = (#[.int .i64 0, .int .i64 0] : Array Value)[j]? := blk_cell H2.out.2.2.2.2.1
    have c2 : ∀ j, W2.cell? ⟨w.heap.size + 1 + 1, j, none⟩ = (#[.int .u32 f, .int .u16 i, .int .i64 c, .int .i64 p] : Array Value)[j]? := blk_cell H2.out.2.2.1
    have fx := H2.out.2.2.2.1.frozen
    have fy := H2.out.2.2.2.2.1.frozen
    go_wp2
    have HE := (H2.out.setx 0 0).sety 0 0
    refine bodyPost_ret (res_cell2_tmp2 rfl rfl rfl HE.2.2.2.1 HE.2.2.2.2.1 Tryz.underlying55 rfl (by kernel_rfl) (by kernel_rfl)) rfl ⟨_, rfl, own_nil _ _ _, HE.2.2.2.2.2⟩
  · rw [hr] at hA hL
    simp only [if_true] at hL
    have HA := Lib.hid hA
    have HL := Lib.hid hL
    clear hA hL hr
    go_enter Tryz.func124, Tryz.ntmps124
    go_wp2_with fail
    refine HA.out.mono ?_
    rintro e W2 ⟨rfl, hb⟩
    have H2 := Lib.hid (And.intro (HS.out.below hb) (And.intro (HG.out.1.below (HS.out.below hb).2.2.2.2.2) (HG.out.2.below (HS.out.below hb).2.2.2.2.2)))
    clear hb c0 c1 c2 hW
    have c0 : ∀ j, W2.cell? ⟨w.heap.size, j, none⟩ = (#[.int .i64 a.1, .int .i64 a.2] : Array Value)[j]? := blk_cell H2.out.1.1
    have c1 : ∀ j, W2.cell? ⟨w.heap.size + 1, j, none⟩ = (#[.int .i64 b.1, .int .i64 b.2] : Array Value)[j]? := blk_cell H2.out.1.2.1
    have c2 : ∀ j, W2.cell? ⟨w.heap.size + 1 + 1, j, none⟩ = (#[.int .u32 f, .int .u16 i, .int .i64 c, .int .i64 p] : Array Value)[j]? := blk_cell H2.out.1.2.2.1
    go_wp2_with fail
    refine (HX.out.1 W2 H2.out.2.2).mono ?_
    rintro e W3 ⟨rfl, hb⟩
    obtain ⟨W5, hW5⟩ : ∃ W5, (W3.alloc (.cells #[.int .i64 p1, .int .i64 p2] 55)).alloc (.cells #[.int .i64 q1, .int .i64 q2] 55) = W5 := ⟨_, rfl⟩
    obtain ⟨g, hg⟩ : ∃ g, W3.heap.size = g := ⟨_, rfl⟩
    have H5 : Hid (BuS w W5 a b (f, i, c, p) (0, 0) (0, 0) ∧ Two W5 g (p1, p2) ∧ Two W5 (g + 1) (q1, q2) ∧ w.heap.size + 1 + 1 + 1 + 1 < g ∧ Sees W5 (.slice base l.length cap) l.length 2 (stks l) ∧ Glob W5) := Lib.hid (by
      have e1 := H2.out.1.below hb
      have e2 := H2.out.2.1.below hb
      have e3 := H2.out.2.2.below hb
      rw [← hW5, ← hg]; exact ⟨(e1.alloc _).alloc _, keep_a _ (heap_alloc_new W3 _), alloc_new2 W3 _ _, (Array.getElem?_eq_some_iff.1 e1.2.2.2.2.1).1, (e2.alloc _).alloc _, (e3.alloc _).alloc _⟩)
    clear hb c0 c1 c2
    have x0 : ∀ j, W5.cell? ⟨w.heap.size + 1 + 1 + 1, j, none⟩ = (#[.int .i64 0, .int .i64 0] : Array Value)[j]? := blk_cell H5.out.1.2.2.2.1
    have y0 : ∀ j, W5.cell? ⟨w.heap.size + 1 + 1 + 1 + 1, j, none⟩ = (#[.int .i64 0, .int .i64 0] : Array Value)[j]? := blk_cell H5.out.1.2.2.2.2.1
    have c2 : ∀ j, W5.cell? ⟨w.heap.size + 1 + 1, j, none⟩ = (#[.int .u32 f, .int .u16 i, .int .i64 c, .int .i64 p] : Array Value)[j]? := blk_cell H5.out.1.2.2.1
    have fx := H5.out.1.2.2.2.1.frozen
    have fy := H5.out.1.2.2.2.2.1.frozen
    by_cases h0 : pe = 0
    · subst h0
      have hE := HL.out
      rw [if_pos rfl] at hE
      have HE := Lib.hid hE
      clear hE HL
      go_wp2_with fail
      refine (HX.out.2 W5 H5.out.2.2.2.2.1 H5.out.2.2.2.2.2).mono ?_
      rintro e W6 ⟨u, rfl, hu, hb⟩
      have H6 : Hid (BuS w W6 a b (f, i, c, p) (0, 0) (0, 0) ∧ Two W6 g (p1, p2) ∧ Two W6 (g + 1) (q1, q2) ∧ w.heap.size + 1 + 1 + 1 + 1 < g ∧ W6.ownsRow w.heap.size 62 2 u cl.length (stks cl)) := Lib.hid (by
        obtain ⟨e1, e2, e3, e4, e5, e6⟩ := H5.out
        exact ⟨e1.below hb, e2.below hb, e3.below hb, e4, ownsRow_base hu e1.2.2.2.2.2.size⟩)
      clear hb hu x0 y0 fx fy c2 hW5 hg
      have x0 : ∀ j, W6.cell? ⟨w.heap.size + 1 + 1 + 1, j, none⟩ = (#[.int .i64 0, .int .i64 0] : Array Value)[j]? := blk_cell H6.out.1.2.2.2.1
      have y0 : ∀ j, W6.cell? ⟨w.heap.size + 1 + 1 + 1 + 1, j, none⟩ = (#[.int .i64 0, .int .i64 0] : Array Value)[j]? := blk_cell H6.out.1.2.2.2.2.1
      have c2 : ∀ j, W6.cell? ⟨w.heap.size + 1 + 1, j, none⟩ = (#[.int .u32 f, .int .u16 i, .int .i64 c, .int .i64 p] : Array Value)[j]? := blk_cell H6.out.1.2.2.1
      have fx := H6.out.1.2.2.2.1.frozen
      have fy := H6.out.1.2.2.2.2.1.frozen
      have hE := HE.out
      by_cases h1 : ce = 0
      · subst h1
        rw [if_pos rfl] at hE
        subst hE
        obtain ⟨p0, p1'⟩ := H6.out.2.1.cells
        obtain ⟨q0, q1'⟩ := H6.out.2.2.1.cells
        have u1 : g ≠ w.heap.size + 1 + 1 + 1 := by have := H6.out.2.2.2.1; omega
        have u2 : g ≠ w.heap.size + 1 + 1 + 1 + 1 := by have := H6.out.2.2.2.1; omega
        have u3 : g + 1 ≠ w.heap.size + 1 + 1 + 1 := by have := H6.out.2.2.2.1; omega
        have u4 : g + 1 ≠ w.heap.size + 1 + 1 + 1 + 1 := by have := H6.out.2.2.2.1; omega
        go_wp2_with fail
        go_region
        all_goals
          go_wp2
          have hX := (H6.out.1.setx p1 p2)
          have hE := hX.sety q1 q2
          have hO := own_two (own_two H6.out.2.2.2.2 H6.out.1.2.2.2.1 (by decide) (.int .i64 p1) (.int .i64 p2)) hX.2.2.2.2.1 (by decide) (.int .i64 q1) (.int .i64 q2)
          refine bodyPost_ret (res_cell2_tmp2 rfl rfl rfl (blk_drew hE.2.2.2.1) (blk_drew hE.2.2.2.2.1) Tryz.underlying55 rfl (by kernel_rfl) (by kernel_rfl)) rfl ⟨_, rfl, hO, Below.drew hE.2.2.2.2.2⟩
      · have h1' : (ce != 0) = true := by simpa using h1
        rw [if_neg h1] at hE
        subst hE
        go_wp2
        have HE := (H6.out.1.setx 0 0).sety 0 0
        refine bodyPost_ret (res_cell2_tmp2 rfl rfl rfl HE.2.2.2.1 HE.2.2.2.2.1 Tryz.underlying55 rfl (by kernel_rfl) (by kernel_rfl)) rfl ⟨_, rfl, own_nil _ _ _, HE.2.2.2.2.2⟩
    · have h0' : (pe != 0) = true := by simpa using h0
      have hE := HL.out
      rw [if_neg h0] at hE
      subst hE
      go_wp2
      have HE := (H5.out.1.setx 0 0).sety 0 0
      refine bodyPost_ret (res_cell2_tmp2 rfl rfl rfl HE.2.2.2.1 HE.2.2.2.2.1 Tryz.underlying55 rfl (by kernel_rfl) (by kernel_rfl)) rfl ⟨_, rfl, own_nil _ _ _, HE.2.2.2.2.2⟩
end Go.Proofs.YtmkcbkdbdcnoiaaGreatDoor
