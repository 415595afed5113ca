/- Package world: breaks. Package world: makes. Package world: give. Package world: cancel. Package world: sendBack. -/
import Derived.Test.YtmkcbkdbdcnoiaaGreatDoorG17
namespace Go.Proofs.YtmkcbkdbdcnoiaaGreatDoor
open Go.RowKit
set_option linter.unusedVariables false
set_option linter.unusedSimpArgs false

/-- What breaking comes to. -/
def brF (l : List Par) (c : Cmd) : List Par × Int :=
  if (gTake (goF l c.a) (c.item, c.n)).2 = 0 then
    (snF (sgF l c.a (gTake (goF l c.a) (c.item, c.n)).1 c.item) (kKey 6 1 c.item 0).1 (IntKind.i64.wrap (numF (sgF l c.a (gTake (goF l c.a) (c.item, c.n)).1 c.item) (kKey 6 1 c.item 0).1 - c.n)), 0)
  else (l, (gTake (goF l c.a) (c.item, c.n)).2)

set_option maxHeartbeats 4000000 in
set_option maxRecDepth 100000 in
theorem wbreaks_any (B pl pw n : Nat) (l : List Par) (c : Cmd) (a : Ans) (w : World) (hW : Wk B pl pw l c a w) (hO : Ok n l) (hn : n < 99999) (hc : CmdOk c) :
    Calls Tryz.prog 50 #[.pointer (some ⟨pw, 0, none⟩)] w fun e w' => DP B pl pw c ((brF l c).1, a, (brF l c).2) w e w' := by
  obtain ⟨R, hR⟩ : ∃ R, brF l c = R := ⟨_, rfl⟩
  rw [hR]
  unfold brF at hR
  have hG := fun V (h : Wk B pl pw l c a V) => wgoods_any B pl pw n l c a c.a V h hO (by omega) hc.a
  have hgl := goF_len l c.a
  generalize goF l c.a = g at hG hgl hR
  have hT := fun V v (h : Sees V v g.length 2 (stks g)) (h2 : Glob V) => take_any g (c.item, c.n) v V h (by omega) h2
  have htl : (gTake g (c.item, c.n)).1.length ≤ 1000 := by have := gTake_length g (c.item, c.n); omega
  generalize gTake g (c.item, c.n) = t at hT htl hR
  obtain ⟨t, te⟩ := t
  dsimp only at hR htl
  have hS := fun V v (h : Wk B pl pw l c a V) (hv : Sees V v t.length 2 (stks t)) => wsetGoods2 B pl pw n l c a c.a c.item t v V h hO (by omega) hc.a hc.item hv htl
  have hO2 := sgF_ok hO c.a t c.item
  generalize sgF l c.a t c.item = L1 at hS hO2 hR
  have hK := fun V (h : Wk B pl pw L1 c a V) => wthingsKey_any B pl pw L1 c a V h hc.item
  generalize (kKey 6 1 c.item 0).1 = k at hK hR
  have hN := fun V (h : Wk B pl pw L1 c a V) => wnumber_any B pl pw (n + 1) L1 c a k V h hO2 (by omega)
  have hM := fun V (h : Wk B pl pw L1 c a V) x => wsetNumber2 B pl pw (n + 1) L1 c a k x V h hO2 (by omega)
  generalize numF L1 k = y at hN hR
  unfold sv at hK hN hM
  unfold stkv at hT
  dsimp only at hT
  have KG := Lib.hid hG
  have KT := Lib.hid hT
  have KS := Lib.hid hS
  have KK := Lib.hid hK
  have KN := Lib.hid hN
  have KM := Lib.hid hM
  have HR := Lib.hid hR
  have HD := Lib.hid (DK.start hW)
  clear hG hT hS hK hN hM hR hO hO2 hW htl hgl
  go_enter Tryz.func50, Tryz.ntmps50
  go_wp2_with fail
  have p2 : w.cell? ⟨pw, 2, none⟩ = some (.int .u32 c.a) := HD.out.cell 2
  have p4 : w.cell? ⟨pw, 4, none⟩ = some (.int .u16 c.item) := HD.out.cell 4
  have p5 : w.cell? ⟨pw, 5, none⟩ = some (.int .i64 c.n) := HD.out.cell 5
  have HD' := Lib.hid (HD.out.drew); clear HD; have HD := HD'; clear HD'
  go_region_held3 (fun W' => W'.cell? ⟨pw, 2, none⟩ = some (.int .u32 c.a) ∧ W'.cell? ⟨pw, 4, none⟩ = some (.int .u16 c.item) ∧ W'.cell? ⟨pw, 5, none⟩ = some (.int .i64 c.n))
    (first | with_reducible exact ⟨q2, q4, q5⟩ | with_reducible exact ⟨p2, p4, p5⟩ | with_reducible exact ⟨cell_drew p2, cell_drew p4, cell_drew p5⟩)
    (first | (go_at_call 108; (with_reducible refine (KG.out _ HD.out.wk).mono ?_); rintro e V1 ⟨v1, rfl, hv, hb⟩; have HD' := Lib.hid (HD.out.row hb hv); clear HD hb hv; have HD := HD'; clear HD'; have q2 : V1.cell? ⟨pw, 2, none⟩ = some (.int .u32 c.a) := HD.out.cell 2; have q4 : V1.cell? ⟨pw, 4, none⟩ = some (.int .u16 c.item) := HD.out.cell 4; have q5 : V1.cell? ⟨pw, 5, none⟩ = some (.int .i64 c.n) := HD.out.cell 5) | (go_at_call 110; (with_reducible refine (KT.out _ _ (HD.out.sees (List.Mem.head _)) HD.out.glob).mono ?_); rintro e V2 ⟨v2, rfl, hv, hb⟩; have HD' := Lib.hid (HD.out.row hb hv); clear HD hb hv; have HD := HD'; clear HD'; have q2 : V2.cell? ⟨pw, 2, none⟩ = some (.int .u32 c.a) := HD.out.cell 2; have q4 : V2.cell? ⟨pw, 4, none⟩ = some (.int .u16 c.item) := HD.out.cell 4; have q5 : V2.cell? ⟨pw, 5, none⟩ = some (.int .i64 c.n) := HD.out.cell 5))
  by_cases hz : te = 0
  · subst hz
    have hR := HR.out
    rw [if_pos rfl] at hR
    clear HR
    have HR := Lib.hid hR
    clear hR
    try clear p2 p4 p5
    try clear q2 q4 q5
    go_wp2_with fail
    have p2 : V2.cell? ⟨pw, 2, none⟩ = some (.int .u32 c.a) := HD.out.cell 2
    have p4 : V2.cell? ⟨pw, 4, none⟩ = some (.int .u16 c.item) := HD.out.cell 4
    have HD' := Lib.hid (HD.out.drew); clear HD; have HD := HD'; clear HD'
    go_region_held3 (fun W' => W'.cell? ⟨pw, 2, none⟩ = some (.int .u32 c.a) ∧ W'.cell? ⟨pw, 4, none⟩ = some (.int .u16 c.item))
      (first | with_reducible exact ⟨q2, q4⟩ | with_reducible exact ⟨p2, p4⟩ | with_reducible exact ⟨cell_drew p2, cell_drew p4⟩)
      (first | (go_at_call 109; (with_reducible refine (KS.out _ _ HD.out.wk (HD.out.sees (List.Mem.head _))).mono ?_); rintro e V3 ⟨rfl, hb⟩; have HD' := Lib.hid (HD.out.write hb); clear HD hb; have HD := HD'; clear HD'; have q2 : V3.cell? ⟨pw, 2, none⟩ = some (.int .u32 c.a) := HD.out.cell 2; have q4 : V3.cell? ⟨pw, 4, none⟩ = some (.int .u16 c.item) := HD.out.cell 4))
    try clear p2 p4
    try clear q2 q4
    go_wp2_with fail
    have p5 : V3.cell? ⟨pw, 5, none⟩ = some (.int .i64 c.n) := HD.out.cell 5
    have HD' := Lib.hid (HD.out.drew); clear HD; have HD := HD'; clear HD'
    go_region_held3 (fun W' => W'.cell? ⟨pw, 5, none⟩ = some (.int .i64 c.n))
      (first | with_reducible exact q5 | with_reducible exact p5 | with_reducible exact cell_drew p5)
      (first | (go_at_call 106; (with_reducible refine (KK.out _ HD.out.wk).mono ?_); rintro e V4 ⟨rfl, hb⟩; have HD' := Lib.hid (HD.out.read hb); clear HD hb; have HD := HD'; clear HD'; have q5 : V4.cell? ⟨pw, 5, none⟩ = some (.int .i64 c.n) := HD.out.cell 5) | (go_at_call 99; (with_reducible refine (KN.out _ HD.out.wk).mono ?_); rintro e V4 ⟨rfl, hb⟩; have HD' := Lib.hid (HD.out.read hb); clear HD hb; have HD := HD'; clear HD'; have q5 : V4.cell? ⟨pw, 5, none⟩ = some (.int .i64 c.n) := HD.out.cell 5) | (go_at_call 102; (with_reducible refine (KM.out _ HD.out.wk _).mono ?_); rintro e V5 ⟨rfl, hb⟩; have HD' := Lib.hid (HD.out.write hb); clear HD hb; have HD := HD'; clear HD'; have q5 : V5.cell? ⟨pw, 5, none⟩ = some (.int .i64 c.n) := HD.out.cell 5))
    all_goals
      have HO := Lib.hid (wof_new 0 V5)
      go_wp2_with fail
      refine HO.out.mono ?_
      rintro e V9 ⟨v9, rfl, hv9, hb9⟩
      have HV := Lib.hid (HD.out.ds.done hb9 hv9)
      clear hv9 hb9
      go_wp2
      go_ret
      have hE := HR.out
      subst hE
      exact HV.out
  · have hz' : (te == 0) = false := by simpa using hz
    have hz2 : (te != 0) = true := by simpa using hz
    have hR := HR.out
    rw [if_neg hz] at hR
    clear HR
    have HR := Lib.hid hR
    clear hR
    have HO := Lib.hid (wof_new te V2)
    go_wp2_with fail
    refine HO.out.mono ?_
    rintro e V9 ⟨v9, rfl, hv9, hb9⟩
    have HV := Lib.hid (HD.out.ds.done hb9 hv9)
    clear hv9 hb9
    go_wp2
    go_ret
    have hE := HR.out
    subst hE
    exact HV.out
end Go.Proofs.YtmkcbkdbdcnoiaaGreatDoor
namespace Go.Proofs.YtmkcbkdbdcnoiaaGreatDoor
open Go.RowKit
set_option linter.unusedVariables false
set_option linter.unusedSimpArgs false

/-- What making comes to. -/
def maF (l : List Par) (c : Cmd) : List Par × Int :=
  if ((c.n == 0) || !okA c.n) = true then (l, 120) else
  if (addF (numF l (kKey 6 1 c.item 0).1) c.n).2 = 0 then
    if (gGive (goF l c.a) (c.item, c.n)).2 = 0 then
      (snF (sgF l c.a (gGive (goF l c.a) (c.item, c.n)).1 c.item) (kKey 6 1 c.item 0).1 (addF (numF l (kKey 6 1 c.item 0).1) c.n).1, 0)
    else (l, (gGive (goF l c.a) (c.item, c.n)).2)
  else (l, (addF (numF l (kKey 6 1 c.item 0).1) c.n).2)

set_option maxHeartbeats 4000000 in
set_option maxRecDepth 100000 in
theorem wmakes_any (B pl pw n : Nat) (l : List Par) (c : Cmd) (a : Ans) (w : World) (hW : Wk B pl pw l c a w) (hO : Ok n l) (hn : n < 99999) (hc : CmdOk c) :
    Calls Tryz.prog 49 #[.pointer (some ⟨pw, 0, none⟩)] w fun e w' => DP B pl pw c ((maF l c).1, a, (maF l c).2) w e w' := by
  obtain ⟨R, hR⟩ : ∃ R, maF l c = R := ⟨_, rfl⟩
  rw [hR]
  unfold maF at hR
  have hI := fun V => right_any c.n V
  have hG := fun V (h : Wk B pl pw l c a V) => wgoods_any B pl pw n l c a c.a V h hO (by omega) hc.a
  have hgl := goF_len l c.a
  generalize goF l c.a = g at hG hgl hR
  have hT := fun V v (h : Sees V v g.length 2 (stks g)) (h2 : Glob V) => give_any g (c.item, c.n) v V h (by omega) h2
  have htl : (gGive g (c.item, c.n)).1.length ≤ 1000 := by have := gGive_length g (c.item, c.n); omega
  generalize gGive g (c.item, c.n) = t at hT htl hR
  obtain ⟨t, te⟩ := t
  dsimp only at hR htl
  have hS := fun V v (h : Wk B pl pw l c a V) (hv : Sees V v t.length 2 (stks t)) => wsetGoods2 B pl pw n l c a c.a c.item t v V h hO (by omega) hc.a hc.item hv htl
  have hO2 := sgF_ok hO c.a t c.item
  generalize sgF l c.a t c.item = L1 at hS hO2 hR
  have hK := fun V (h : Wk B pl pw l c a V) => wthingsKey_any B pl pw l c a V h hc.item
  have hK2 := fun V (h : Wk B pl pw L1 c a V) => wthingsKey_any B pl pw L1 c a V h hc.item
  generalize (kKey 6 1 c.item 0).1 = k at hK hK2 hR
  have hN := fun V (h : Wk B pl pw l c a V) => wnumber_any B pl pw n l c a k V h hO (by omega)
  generalize numF l k = y at hN hR
  have hP := fun V h => add_any y c.n V h
  generalize addF y c.n = s at hP hR
  obtain ⟨s, se⟩ := s
  dsimp only at hR
  have hM := fun V (h : Wk B pl pw L1 c a V) => wsetNumber2 B pl pw (n + 1) L1 c a k s V h hO2 (by omega)
  generalize snF L1 k s = L2 at hM hR
  unfold sv at hK hK2 hN hM
  unfold stkv at hT
  dsimp only at hT hP
  have KI := Lib.hid hI
  have KG := Lib.hid hG
  have KT := Lib.hid hT
  have KS := Lib.hid hS
  have KK := Lib.hid hK
  have KJ := Lib.hid hK2
  have KN := Lib.hid hN
  have KP := Lib.hid hP
  have KM := Lib.hid hM
  have HD := Lib.hid (DK.start hW)
  clear hI hG hT hS hK hK2 hN hP hM hO hO2 hW htl hgl
  have p5 : w.cell? ⟨pw, 5, none⟩ = some (.int .i64 c.n) := HD.out.cell 5
  rcases h0 : (c.n == 0) with _ | _
  · rcases h1 : okA c.n with _ | _
    · rw [h0, h1] at hR
      simp only [Bool.false_or, Bool.not_false, ↓reduceIte] at hR
      have HR := Lib.hid hR
      clear hR
      go_enter Tryz.func49, Tryz.ntmps49
      go_wp2_with fail
      refine (KI.out _).mono ?_
      rintro e W2 ⟨rfl, hw⟩
      rw [hw, h1]
      clear hw
      have HO := Lib.hid (wof_new 120 w)
      go_wp2_with fail
      refine HO.out.mono ?_
      rintro e V9 ⟨v9, rfl, hv9, hb9⟩
      have HV := Lib.hid (HD.out.ds.done hb9 hv9)
      clear hv9 hb9
      go_wp2
      go_ret
      have hE := HR.out
      subst hE
      exact HV.out
    · rw [h0, h1] at hR
      simp only [Bool.false_or, Bool.not_true, Bool.false_eq_true, ↓reduceIte] at hR
      have HR := Lib.hid hR
      clear hR
      go_enter Tryz.func49, Tryz.ntmps49
      go_wp2_with fail
      refine (KI.out _).mono ?_
      rintro e W2 ⟨rfl, hw⟩
      rw [hw, h1]
      clear hw
      go_wp2_with fail
      have p5 : w.cell? ⟨pw, 5, none⟩ = some (.int .i64 c.n) := HD.out.cell 5
      have HD' := Lib.hid (HD.out.drew); clear HD; have HD := HD'; clear HD'
      go_region_held3 (fun W' => W'.cell? ⟨pw, 5, none⟩ = some (.int .i64 c.n))
        (first | with_reducible exact q5 | with_reducible exact p5 | with_reducible exact cell_drew p5)
        (first | (go_at_call 106; (with_reducible refine (KK.out _ HD.out.wk).mono ?_); rintro e V1 ⟨rfl, hb⟩; have HD' := Lib.hid (HD.out.read hb); clear HD hb; have HD := HD'; clear HD'; have q5 : V1.cell? ⟨pw, 5, none⟩ = some (.int .i64 c.n) := HD.out.cell 5) | (go_at_call 99; (with_reducible refine (KN.out _ HD.out.wk).mono ?_); rintro e V1 ⟨rfl, hb⟩; have HD' := Lib.hid (HD.out.read hb); clear HD hb; have HD := HD'; clear HD'; have q5 : V1.cell? ⟨pw, 5, none⟩ = some (.int .i64 c.n) := HD.out.cell 5) | (go_at_call 98; (with_reducible refine (KP.out _ HD.out.glob).mono ?_); rintro e V1 ⟨rfl, hb⟩; have HD' := Lib.hid (HD.out.read hb); clear HD hb; have HD := HD'; clear HD'; have q5 : V1.cell? ⟨pw, 5, none⟩ = some (.int .i64 c.n) := HD.out.cell 5))
      by_cases hz : se = 0
      · subst hz
        have hR := HR.out
        rw [if_pos rfl] at hR
        clear HR
        have HR := Lib.hid hR
        clear hR
        try clear p5
        try clear q5
        go_wp2_with fail
        have p2 : V1.cell? ⟨pw, 2, none⟩ = some (.int .u32 c.a) := HD.out.cell 2
        have p4 : V1.cell? ⟨pw, 4, none⟩ = some (.int .u16 c.item) := HD.out.cell 4
        have p5 : V1.cell? ⟨pw, 5, none⟩ = some (.int .i64 c.n) := HD.out.cell 5
        have HD' := Lib.hid (HD.out.drew); clear HD; have HD := HD'; clear HD'
        go_region_held3 (fun W' => W'.cell? ⟨pw, 2, none⟩ = some (.int .u32 c.a) ∧ W'.cell? ⟨pw, 4, none⟩ = some (.int .u16 c.item) ∧ W'.cell? ⟨pw, 5, none⟩ = some (.int .i64 c.n))
          (first | with_reducible exact ⟨q2, q4, q5⟩ | with_reducible exact ⟨p2, p4, p5⟩ | with_reducible exact ⟨cell_drew p2, cell_drew p4, cell_drew p5⟩)
          (first | (go_at_call 108; (with_reducible refine (KG.out _ HD.out.wk).mono ?_); rintro e V2 ⟨v1, rfl, hv, hb⟩; have HD' := Lib.hid (HD.out.row hb hv); clear HD hb hv; have HD := HD'; clear HD'; have q2 : V2.cell? ⟨pw, 2, none⟩ = some (.int .u32 c.a) := HD.out.cell 2; have q4 : V2.cell? ⟨pw, 4, none⟩ = some (.int .u16 c.item) := HD.out.cell 4; have q5 : V2.cell? ⟨pw, 5, none⟩ = some (.int .i64 c.n) := HD.out.cell 5) | (go_at_call 107; (with_reducible refine (KT.out _ _ (HD.out.sees (List.Mem.head _)) HD.out.glob).mono ?_); rintro e V3 ⟨v2, rfl, hv, hb⟩; have HD' := Lib.hid (HD.out.row hb hv); clear HD hb hv; have HD := HD'; clear HD'; have q2 : V3.cell? ⟨pw, 2, none⟩ = some (.int .u32 c.a) := HD.out.cell 2; have q4 : V3.cell? ⟨pw, 4, none⟩ = some (.int .u16 c.item) := HD.out.cell 4; have q5 : V3.cell? ⟨pw, 5, none⟩ = some (.int .i64 c.n) := HD.out.cell 5))
        by_cases hz : te = 0
        · subst hz
          have hR := HR.out
          rw [if_pos rfl] at hR
          clear HR
          have HR := Lib.hid hR
          clear hR
          try clear p2 p4 p5
          try clear q2 q4 q5
          go_wp2_with fail
          have p2 : V3.cell? ⟨pw, 2, none⟩ = some (.int .u32 c.a) := HD.out.cell 2
          have p4 : V3.cell? ⟨pw, 4, none⟩ = some (.int .u16 c.item) := HD.out.cell 4
          have HD' := Lib.hid (HD.out.drew); clear HD; have HD := HD'; clear HD'
          go_region_held3 (fun W' => W'.cell? ⟨pw, 2, none⟩ = some (.int .u32 c.a) ∧ W'.cell? ⟨pw, 4, none⟩ = some (.int .u16 c.item))
            (first | with_reducible exact ⟨q2, q4⟩ | with_reducible exact ⟨p2, p4⟩ | with_reducible exact ⟨cell_drew p2, cell_drew p4⟩)
            (first | (go_at_call 109; (with_reducible refine (KS.out _ _ HD.out.wk (HD.out.sees (List.Mem.head _))).mono ?_); rintro e V4 ⟨rfl, hb⟩; have HD' := Lib.hid (HD.out.write hb); clear HD hb; have HD := HD'; clear HD'; have q2 : V4.cell? ⟨pw, 2, none⟩ = some (.int .u32 c.a) := HD.out.cell 2; have q4 : V4.cell? ⟨pw, 4, none⟩ = some (.int .u16 c.item) := HD.out.cell 4))
          try clear p2 p4
          try clear q2 q4
          go_wp2_with fail
          refine (KJ.out _ HD.out.wk).mono ?_
          rintro e V5 ⟨rfl, hb⟩
          have HD' := Lib.hid (HD.out.read hb); clear HD hb; have HD := HD'; clear HD'
          go_wp2_with fail
          refine (KM.out _ HD.out.wk).mono ?_
          rintro e V6 ⟨rfl, hb⟩
          have HD' := Lib.hid (HD.out.write hb); clear HD hb; have HD := HD'; clear HD'
          have HO := Lib.hid (wof_new 0 V6)
          go_wp2_with fail
          refine HO.out.mono ?_
          rintro e V9 ⟨v9, rfl, hv9, hb9⟩
          have HV := Lib.hid (HD.out.ds.done hb9 hv9)
          clear hv9 hb9
          go_wp2
          go_ret
          have hE := HR.out
          subst hE
          exact HV.out
        · have hz' : (te == 0) = false := by simpa using hz
          have hz2 : (te != 0) = true := by simpa using hz
          have hR := HR.out
          rw [if_neg hz] at hR
          clear HR
          have HR := Lib.hid hR
          clear hR
          have HO := Lib.hid (wof_new te V3)
          go_wp2_with fail
          refine HO.out.mono ?_
          rintro e V9 ⟨v9, rfl, hv9, hb9⟩
          have HV := Lib.hid (HD.out.ds.done hb9 hv9)
          clear hv9 hb9
          go_wp2
          go_ret
          have hE := HR.out
          subst hE
          exact HV.out
      · have hz' : (se == 0) = false := by simpa using hz
        have hz2 : (se != 0) = true := by simpa using hz
        have hR := HR.out
        rw [if_neg hz] at hR
        clear HR
        have HR := Lib.hid hR
        clear hR
        have HO := Lib.hid (wof_new se V1)
        go_wp2_with fail
        refine HO.out.mono ?_
        rintro e V9 ⟨v9, rfl, hv9, hb9⟩
        have HV := Lib.hid (HD.out.ds.done hb9 hv9)
        clear hv9 hb9
        go_wp2
        go_ret
        have hE := HR.out
        subst hE
        exact HV.out
  · rw [h0] at hR
    simp only [Bool.true_or, ↓reduceIte] at hR
    have HR := Lib.hid hR
    clear hR
    go_enter Tryz.func49, Tryz.ntmps49
    have HO := Lib.hid (wof_new 120 w)
    go_wp2_with fail
    refine HO.out.mono ?_
    rintro e V9 ⟨v9, rfl, hv9, hb9⟩
    have HV := Lib.hid (HD.out.ds.done hb9 hv9)
    clear hv9 hb9
    go_wp2
    go_ret
    have hE := HR.out
    subst hE
    exact HV.out
end Go.Proofs.YtmkcbkdbdcnoiaaGreatDoor
namespace Go.Proofs.YtmkcbkdbdcnoiaaGreatDoor
open Go.RowKit
set_option linter.unusedVariables false
set_option linter.unusedSimpArgs false

theorem gMove_length (x y : List Stk) (s : Stk) : (gMove x y s).1.length ≤ x.length + 1 ∧ (gMove x y s).2.1.length ≤ y.length + 1 := by
  have h1 := gTake_length x s
  have h2 := gGive_length y s
  unfold gMove
  split <;> (try split) <;> constructor <;> simp <;> omega
/-- What giving comes to. -/
def giF (l : List Par) (c : Cmd) : List Par × Int :=
  if (otF l c false).2 = 0 then
    if (gMove (goF l c.a) (goF l c.b) (c.item, c.n)).2.2 = 0 then
      (sgF (sgF l c.a (gMove (goF l c.a) (goF l c.b) (c.item, c.n)).1 c.item) c.b (gMove (goF l c.a) (goF l c.b) (c.item, c.n)).2.1 c.item, 0)
    else (l, (gMove (goF l c.a) (goF l c.b) (c.item, c.n)).2.2)
  else (l, (otF l c false).2)

set_option maxHeartbeats 4000000 in
set_option maxRecDepth 100000 in
theorem wgive_any (B pl pw n : Nat) (l : List Par) (c : Cmd) (a : Ans) (w : World) (hW : Wk B pl pw l c a w) (hO : Ok n l) (hn : n < 99999) (hc : CmdOk c) :
    Calls Tryz.prog 54 #[.pointer (some ⟨pw, 0, none⟩)] w fun e w' => DP B pl pw c ((giF l c).1, a, (giF l c).2) w e w' := by
  obtain ⟨R, hR⟩ : ∃ R, giF l c = R := ⟨_, rfl⟩
  rw [hR]
  unfold giF at hR
  have hA := fun V (h : Wk B pl pw l c a V) => wother_any B pl pw n l c a false V h hO (by omega) hc
  generalize otF l c false = x at hA hR
  obtain ⟨⟨x1, x2⟩, xe⟩ := x
  have hG := fun V (h : Wk B pl pw l c a V) => wgoods_any B pl pw n l c a c.a V h hO (by omega) hc.a
  have hH := fun V (h : Wk B pl pw l c a V) => wgoods_any B pl pw n l c a c.b V h hO (by omega) hc.b
  have hgl := goF_len l c.a
  have hhl := goF_len l c.b
  generalize goF l c.a = g at hG hgl hR
  generalize goF l c.b = h at hH hhl hR
  have hT := fun V v v2 (h0 : Sees V v g.length 2 (stks g)) (h1 : Sees V v2 h.length 2 (stks h)) (h2 : Glob V) => gmove_any g h (c.item, c.n) v v2 V h0 h1 (by omega) (by omega) h2
  obtain ⟨htl, htm⟩ := gMove_length g h (c.item, c.n)
  generalize gMove g h (c.item, c.n) = t at hT htl htm hR
  obtain ⟨t, u, te⟩ := t
  dsimp only at hR htl htm
  have hS := fun V v (h : Wk B pl pw l c a V) (hv : Sees V v t.length 2 (stks t)) => wsetGoods2 B pl pw n l c a c.a c.item t v V h hO (by omega) hc.a hc.item hv (by omega)
  have hO2 := sgF_ok hO c.a t c.item
  generalize sgF l c.a t c.item = L1 at hS hO2 hR
  have hS2 := fun V v (h : Wk B pl pw L1 c a V) (hv : Sees V v u.length 2 (stks u)) => wsetGoods2 B pl pw (n + 1) L1 c a c.b c.item u v V h hO2 (by omega) hc.b hc.item hv (by omega)
  generalize sgF L1 c.b u c.item = L2 at hS2 hR
  unfold accv at hA
  unfold stkv at hT
  dsimp only at hT hA
  have KA := Lib.hid hA
  have KG := Lib.hid hG
  have KH := Lib.hid hH
  have KT := Lib.hid hT
  have KS := Lib.hid hS
  have KU := Lib.hid hS2
  have HR := Lib.hid hR
  have HD := Lib.hid (DK.start hW)
  clear hA hG hH hT hS hS2 hR hO hO2 hW htl htm hgl hhl
  go_enter Tryz.func54, Tryz.ntmps54
  go_wp2_with fail
  refine (KA.out _ HD.out.wk).mono ?_
  rintro e V1 ⟨rfl, hb⟩
  have HD' := Lib.hid (HD.out.read hb); clear HD hb; have HD := HD'; clear HD'
  obtain ⟨b3, hb3⟩ : ∃ b3, V1.heap.size = b3 := ⟨_, rfl⟩
  obtain ⟨W3, hW3⟩ : ∃ W3, V1.alloc (.cells #[.int .i64 x1, .int .i64 x2] 55) = W3 := ⟨_, rfl⟩
  have HD' : Hid (DK B pl pw [(b3, .cells #[.int .i64 x1, .int .i64 x2] 55 (0, 0))] [] l c a w W3) := Lib.hid (by rw [← hW3, ← hb3]; exact HD.out.new _ 55 rfl)
  clear HD; have HD := HD'; clear HD'
  by_cases hz : xe = 0
  · subst hz
    have hR := HR.out
    rw [if_pos rfl] at hR
    clear HR
    have HR := Lib.hid hR
    clear hR
    go_wp2_with fail
    try clear hW3 hb3
    have p2 : W3.cell? ⟨pw, 2, none⟩ = some (.int .u32 c.a) := HD.out.cell 2
    have p3 : W3.cell? ⟨pw, 3, none⟩ = some (.int .u32 c.b) := HD.out.cell 3
    have p4 : W3.cell? ⟨pw, 4, none⟩ = some (.int .u16 c.item) := HD.out.cell 4
    have p5 : W3.cell? ⟨pw, 5, none⟩ = some (.int .i64 c.n) := HD.out.cell 5
    have HD' := Lib.hid (HD.out.drew); clear HD; have HD := HD'; clear HD'
    go_region_held3 (fun W' => W'.cell? ⟨pw, 2, none⟩ = some (.int .u32 c.a) ∧ W'.cell? ⟨pw, 3, none⟩ = some (.int .u32 c.b) ∧ W'.cell? ⟨pw, 4, none⟩ = some (.int .u16 c.item) ∧ W'.cell? ⟨pw, 5, none⟩ = some (.int .i64 c.n))
      (first | with_reducible exact ⟨q2, q3, q4, q5⟩ | with_reducible exact ⟨p2, p3, p4, p5⟩ | with_reducible exact ⟨cell_drew p2, cell_drew p3, cell_drew p4, cell_drew p5⟩)
      (first | (go_at_call 108; (with_reducible refine (KG.out _ HD.out.wk).mono ?_); rintro e V2 ⟨v1, rfl, hv, hb⟩; have HD' := Lib.hid (HD.out.row hb hv); clear HD hb hv; have HD := HD'; clear HD'; have q2 : V2.cell? ⟨pw, 2, none⟩ = some (.int .u32 c.a) := HD.out.cell 2; have q3 : V2.cell? ⟨pw, 3, none⟩ = some (.int .u32 c.b) := HD.out.cell 3; have q4 : V2.cell? ⟨pw, 4, none⟩ = some (.int .u16 c.item) := HD.out.cell 4; have q5 : V2.cell? ⟨pw, 5, none⟩ = some (.int .i64 c.n) := HD.out.cell 5) | (go_at_call 108; (with_reducible refine (KH.out _ HD.out.wk).mono ?_); rintro e V3 ⟨v2, rfl, hv, hb⟩; have HD' := Lib.hid (HD.out.row hb hv); clear HD hb hv; have HD := HD'; clear HD'; have q2 : V3.cell? ⟨pw, 2, none⟩ = some (.int .u32 c.a) := HD.out.cell 2; have q3 : V3.cell? ⟨pw, 3, none⟩ = some (.int .u32 c.b) := HD.out.cell 3; have q4 : V3.cell? ⟨pw, 4, none⟩ = some (.int .u16 c.item) := HD.out.cell 4; have q5 : V3.cell? ⟨pw, 5, none⟩ = some (.int .i64 c.n) := HD.out.cell 5) | (go_at_call 115; (with_reducible refine (KT.out _ _ _ (HD.out.sees (List.Mem.tail _ (List.Mem.head _))) (HD.out.sees (List.Mem.head _)) HD.out.glob).mono ?_); rintro e V4 ⟨v3, v4, rfl, hv, hv2, hb⟩; have HD' := Lib.hid (HD.out.row2 hb hv hv2); clear HD hb hv hv2; have HD := HD'; clear HD'; have q2 : V4.cell? ⟨pw, 2, none⟩ = some (.int .u32 c.a) := HD.out.cell 2; have q3 : V4.cell? ⟨pw, 3, none⟩ = some (.int .u32 c.b) := HD.out.cell 3; have q4 : V4.cell? ⟨pw, 4, none⟩ = some (.int .u16 c.item) := HD.out.cell 4; have q5 : V4.cell? ⟨pw, 5, none⟩ = some (.int .i64 c.n) := HD.out.cell 5))
    by_cases hz : te = 0
    · subst hz
      have hR := HR.out
      rw [if_pos rfl] at hR
      clear HR
      have HR := Lib.hid hR
      clear hR
      try clear p2 p3 p4 p5
      try clear q2 q3 q4 q5
      go_wp2_with fail
      have p2 : V4.cell? ⟨pw, 2, none⟩ = some (.int .u32 c.a) := HD.out.cell 2
      have p4 : V4.cell? ⟨pw, 4, none⟩ = some (.int .u16 c.item) := HD.out.cell 4
      have HD' := Lib.hid (HD.out.drew); clear HD; have HD := HD'; clear HD'
      go_region_held3 (fun W' => W'.cell? ⟨pw, 2, none⟩ = some (.int .u32 c.a) ∧ W'.cell? ⟨pw, 4, none⟩ = some (.int .u16 c.item))
        (first | with_reducible exact ⟨q2, q4⟩ | with_reducible exact ⟨p2, p4⟩ | with_reducible exact ⟨cell_drew p2, cell_drew p4⟩)
        (first | (go_at_call 109; (with_reducible refine (KS.out _ _ HD.out.wk (HD.out.sees (List.Mem.head _))).mono ?_); rintro e V5 ⟨rfl, hb⟩; have HD' := Lib.hid (HD.out.write hb); clear HD hb; have HD := HD'; clear HD'; have q2 : V5.cell? ⟨pw, 2, none⟩ = some (.int .u32 c.a) := HD.out.cell 2; have q4 : V5.cell? ⟨pw, 4, none⟩ = some (.int .u16 c.item) := HD.out.cell 4))
      try clear p2 p4
      try clear q2 q4
      go_wp2_with fail
      have p3 : V5.cell? ⟨pw, 3, none⟩ = some (.int .u32 c.b) := HD.out.cell 3
      have p4 : V5.cell? ⟨pw, 4, none⟩ = some (.int .u16 c.item) := HD.out.cell 4
      have HD' := Lib.hid (HD.out.drew); clear HD; have HD := HD'; clear HD'
      go_region_held3 (fun W' => W'.cell? ⟨pw, 3, none⟩ = some (.int .u32 c.b) ∧ W'.cell? ⟨pw, 4, none⟩ = some (.int .u16 c.item))
        (first | with_reducible exact ⟨q3, q4⟩ | with_reducible exact ⟨p3, p4⟩ | with_reducible exact ⟨cell_drew p3, cell_drew p4⟩)
        (first | (go_at_call 109; (with_reducible refine (KU.out _ _ HD.out.wk (HD.out.sees (List.Mem.tail _ (List.Mem.head _)))).mono ?_); rintro e V6 ⟨rfl, hb⟩; have HD' := Lib.hid (HD.out.write hb); clear HD hb; have HD := HD'; clear HD'; have q3 : V6.cell? ⟨pw, 3, none⟩ = some (.int .u32 c.b) := HD.out.cell 3; have q4 : V6.cell? ⟨pw, 4, none⟩ = some (.int .u16 c.item) := HD.out.cell 4))
      have HO := Lib.hid (wof_new 0 V6)
      go_wp2_with fail
      refine HO.out.mono ?_
      rintro e V9 ⟨v9, rfl, hv9, hb9⟩
      have HV := Lib.hid (HD.out.ds.done hb9 hv9)
      clear hv9 hb9
      go_wp2
      go_ret
      have hE := HR.out
      subst hE
      exact HV.out
    · have hz' : (te == 0) = false := by simpa using hz
      have hz2 : (te != 0) = true := by simpa using hz
      have hR := HR.out
      rw [if_neg hz] at hR
      clear HR
      have HR := Lib.hid hR
      clear hR
      have HO := Lib.hid (wof_new te V4)
      go_wp2_with fail
      refine HO.out.mono ?_
      rintro e V9 ⟨v9, rfl, hv9, hb9⟩
      have HV := Lib.hid (HD.out.ds.done hb9 hv9)
      clear hv9 hb9
      go_wp2
      go_ret
      have hE := HR.out
      subst hE
      exact HV.out
  · have hz' : (xe == 0) = false := by simpa using hz
    have hz2 : (xe != 0) = true := by simpa using hz
    have hR := HR.out
    rw [if_neg hz] at hR
    clear HR
    have HR := Lib.hid hR
    clear hR
    have HO := Lib.hid (wof_new xe W3)
    go_wp2_with fail
    refine HO.out.mono ?_
    rintro e V9 ⟨v9, rfl, hv9, hb9⟩
    have HV := Lib.hid (HD.out.ds.done hb9 hv9)
    clear hv9 hb9
    go_wp2
    go_ret
    have hE := HR.out
    subst hE
    exact HV.out
end Go.Proofs.YtmkcbkdbdcnoiaaGreatDoor
namespace Go.Proofs.YtmkcbkdbdcnoiaaGreatDoor
open Go.RowKit
set_option linter.unusedVariables false
set_option linter.unusedSimpArgs false

theorem num_lt_of {l : List UInt8} {n k : Nat} (h : l.length ≤ n) (hk : 256 ^ n ≤ k) : num l < k := Nat.lt_of_lt_of_le (num_lt l) (Nat.le_trans (Nat.pow_le_pow_right (by omega) h) hk)
theorem slParse_rng (s : Str) : (0 ≤ (slParse s).1.1 ∧ (slParse s).1.1 < 4294967296) ∧ 0 ≤ (slParse s).1.2.1 ∧ (slParse s).1.2.1 < 65536 := by
  unfold slParse
  split
  · have h1 : fval s (0, 4) < 4294967296 := num_lt_of (n := 4) (by simp; omega) (by decide)
    have h2 : fval s (4, 2) < 65536 := num_lt_of (n := 2) (by simp; omega) (by decide)
    simp only [slOf]
    omega
  · simp
theorem saF_rng (l : List Par) (c : Cmd) (own : Bool) : (0 ≤ (saF l c own).1.1 ∧ (saF l c own).1.1 < 4294967296) ∧ 0 ≤ (saF l c own).1.2.1 ∧ (saF l c own).1.2.1 < 65536 := by
  unfold saF
  split
  · simp
  · exact slParse_rng _
theorem sCancel_length (l : List Stk) (m : Sl) : (sCancel l m).1.length ≤ l.length + 1 := by
  unfold sCancel
  split
  · exact gGive_length _ _
  · simp
theorem sList_length (l : List Stk) (m : Sl) : (sList l m).1.length ≤ l.length + 1 := by
  unfold sList
  split
  · exact gTake_length _ _
  · simp
/-- What canceling comes to. -/
def caF (l : List Par) (c : Cmd) : List Par × Int :=
  if (saF l c true).2.2 = 0 then
    if (sCancel (goF l c.a) (saF l c true).1).2 = 0 then
      (del (sgF l c.a (sCancel (goF l c.a) (saF l c true).1).1 (saF l c true).1.2.1) (saF l c true).2.1, 0)
    else (l, (sCancel (goF l c.a) (saF l c true).1).2)
  else (l, (saF l c true).2.2)

set_option maxHeartbeats 4000000 in
set_option maxRecDepth 100000 in
theorem wcancel_any (B pl pw n : Nat) (l : List Par) (c : Cmd) (a : Ans) (w : World) (hW : Wk B pl pw l c a w) (hO : Ok n l) (hn : n < 99999) (hc : CmdOk c) :
    Calls Tryz.prog 60 #[.pointer (some ⟨pw, 0, none⟩)] w fun e w' => DP B pl pw c ((caF l c).1, a, (caF l c).2) w e w' := by
  obtain ⟨R, hR⟩ : ∃ R, caF l c = R := ⟨_, rfl⟩
  rw [hR]
  unfold caF at hR
  have hA := fun V (h : Wk B pl pw l c a V) => wsale_any B pl pw n l c a true V h hO (by omega) hc
  have hsr := saF_rng l c true
  generalize saF l c true = x at hA hR hsr
  obtain ⟨m, k, xe⟩ := x
  have hG := fun V (h : Wk B pl pw l c a V) => wgoods_any B pl pw n l c a c.a V h hO (by omega) hc.a
  have hgl := goF_len l c.a
  generalize goF l c.a = g at hG hgl hR
  have hT := fun V v (h0 : Sees V v g.length 2 (stks g)) (h2 : Glob V) => shopCancel_any g m v V h0 (by omega) h2
  dsimp only at hR hsr
  have htl := sCancel_length g m
  generalize sCancel g m = t at hT htl hR
  obtain ⟨t, te⟩ := t
  dsimp only at hR htl
  obtain ⟨m1, m2, m3, m4⟩ := m
  dsimp only at hR hsr
  have hS := fun V v (h : Wk B pl pw l c a V) (hv : Sees V v t.length 2 (stks t)) => wsetGoods2 B pl pw n l c a c.a m2 t v V h hO (by omega) hc.a hsr.2 hv (by omega)
  have hO2 := sgF_ok hO c.a t m2
  generalize sgF l c.a t m2 = L1 at hS hO2 hR
  have hX := fun V (h : Wk B pl pw L1 c a V) => wdel_call (k := k) h hO2 (by omega)
  generalize del L1 k = L2 at hX hR
  unfold slv sv at hA
  unfold slv at hT
  unfold sv at hX
  dsimp only at hT hA
  have hm := m_del
  have KA := Lib.hid hA
  have KG := Lib.hid hG
  have KT := Lib.hid hT
  have KS := Lib.hid hS
  have KX := Lib.hid hX
  have HR := Lib.hid hR
  have HD := Lib.hid (DK.start hW)
  clear hA hG hT hS hX hR hO hO2 hW htl hgl hsr
  go_enter Tryz.func60, Tryz.ntmps60
  go_wp2_with fail
  refine (KA.out _ HD.out.wk).mono ?_
  rintro e V1 ⟨rfl, hb⟩
  have HD' := Lib.hid (HD.out.read hb); clear HD hb; have HD := HD'; clear HD'
  obtain ⟨b3, hb3⟩ : ∃ b3, V1.heap.size = b3 := ⟨_, rfl⟩
  obtain ⟨W3, hW3⟩ : ∃ W3, V1.alloc (.cells #[.int .u32 m1, .int .u16 m2, .int .i64 m3, .int .i64 m4] 68) = W3 := ⟨_, rfl⟩
  have HD' : Hid (DK B pl pw [(b3, .cells #[.int .u32 m1, .int .u16 m2, .int .i64 m3, .int .i64 m4] 68 (0, 0))] [] l c a w W3) := Lib.hid (by rw [← hW3, ← hb3]; exact HD.out.new _ 68 rfl)
  clear HD; have HD := HD'; clear HD'
  by_cases hz : xe = 0
  · subst hz
    have hR := HR.out
    rw [if_pos rfl] at hR
    clear HR
    have HR := Lib.hid hR
    clear hR
    go_wp2_with fail
    try clear hW3 hb3
    have p2 : W3.cell? ⟨pw, 2, none⟩ = some (.int .u32 c.a) := HD.out.cell 2
    have pb30 : W3.cell? ⟨b3, 0, none⟩ = some (.int .u32 m1) := HD.out.blk (List.Mem.head _) 0
    have pb31 : W3.cell? ⟨b3, 1, none⟩ = some (.int .u16 m2) := HD.out.blk (List.Mem.head _) 1
    have pb32 : W3.cell? ⟨b3, 2, none⟩ = some (.int .i64 m3) := HD.out.blk (List.Mem.head _) 2
    have pb33 : W3.cell? ⟨b3, 3, none⟩ = some (.int .i64 m4) := HD.out.blk (List.Mem.head _) 3
    have HD' := Lib.hid (HD.out.drew); clear HD; have HD := HD'; clear HD'
    go_region_held3 (fun W' => W'.cell? ⟨pw, 2, none⟩ = some (.int .u32 c.a) ∧ W'.cell? ⟨b3, 0, none⟩ = some (.int .u32 m1) ∧ W'.cell? ⟨b3, 1, none⟩ = some (.int .u16 m2) ∧ W'.cell? ⟨b3, 2, none⟩ = some (.int .i64 m3) ∧ W'.cell? ⟨b3, 3, none⟩ = some (.int .i64 m4))
      (first | with_reducible exact ⟨q2, qb30, qb31, qb32, qb33⟩ | with_reducible exact ⟨p2, pb30, pb31, pb32, pb33⟩ | with_reducible exact ⟨cell_drew p2, cell_drew pb30, cell_drew pb31, cell_drew pb32, cell_drew pb33⟩)
      (first | (go_at_call 108; (with_reducible refine (KG.out _ HD.out.wk).mono ?_); rintro e V2 ⟨v1, rfl, hv, hb⟩; have HD' := Lib.hid (HD.out.row hb hv); clear HD hb hv; have HD := HD'; clear HD'; have q2 : V2.cell? ⟨pw, 2, none⟩ = some (.int .u32 c.a) := HD.out.cell 2; have qb30 : V2.cell? ⟨b3, 0, none⟩ = some (.int .u32 m1) := HD.out.blk (List.Mem.head _) 0; have qb31 : V2.cell? ⟨b3, 1, none⟩ = some (.int .u16 m2) := HD.out.blk (List.Mem.head _) 1; have qb32 : V2.cell? ⟨b3, 2, none⟩ = some (.int .i64 m3) := HD.out.blk (List.Mem.head _) 2; have qb33 : V2.cell? ⟨b3, 3, none⟩ = some (.int .i64 m4) := HD.out.blk (List.Mem.head _) 3) | (go_at_call 125; (with_reducible refine (KT.out _ _ (HD.out.sees (List.Mem.head _)) HD.out.glob).mono ?_); rintro e V3 ⟨v2, rfl, hv, hb⟩; have HD' := Lib.hid (HD.out.row hb hv); clear HD hb hv; have HD := HD'; clear HD'; have q2 : V3.cell? ⟨pw, 2, none⟩ = some (.int .u32 c.a) := HD.out.cell 2; have qb30 : V3.cell? ⟨b3, 0, none⟩ = some (.int .u32 m1) := HD.out.blk (List.Mem.head _) 0; have qb31 : V3.cell? ⟨b3, 1, none⟩ = some (.int .u16 m2) := HD.out.blk (List.Mem.head _) 1; have qb32 : V3.cell? ⟨b3, 2, none⟩ = some (.int .i64 m3) := HD.out.blk (List.Mem.head _) 2; have qb33 : V3.cell? ⟨b3, 3, none⟩ = some (.int .i64 m4) := HD.out.blk (List.Mem.head _) 3))
    by_cases hz : te = 0
    · subst hz
      have hR := HR.out
      rw [if_pos rfl] at hR
      clear HR
      have HR := Lib.hid hR
      clear hR
      try clear p2 pb30 pb31 pb32 pb33
      try clear q2 qb30 qb31 qb32 qb33
      go_wp2_with fail
      have p2 : V3.cell? ⟨pw, 2, none⟩ = some (.int .u32 c.a) := HD.out.cell 2
      have pb31 : V3.cell? ⟨b3, 1, none⟩ = some (.int .u16 m2) := HD.out.blk (List.Mem.head _) 1
      have HD' := Lib.hid (HD.out.drew); clear HD; have HD := HD'; clear HD'
      go_region_held3 (fun W' => W'.cell? ⟨pw, 2, none⟩ = some (.int .u32 c.a) ∧ W'.cell? ⟨b3, 1, none⟩ = some (.int .u16 m2))
        (first | with_reducible exact ⟨q2, qb31⟩ | with_reducible exact ⟨p2, pb31⟩ | with_reducible exact ⟨cell_drew p2, cell_drew pb31⟩)
        (first | (go_at_call 109; (with_reducible refine (KS.out _ _ HD.out.wk (HD.out.sees (List.Mem.head _))).mono ?_); rintro e V4 ⟨rfl, hb⟩; have HD' := Lib.hid (HD.out.write hb); clear HD hb; have HD := HD'; clear HD'; have q2 : V4.cell? ⟨pw, 2, none⟩ = some (.int .u32 c.a) := HD.out.cell 2; have qb31 : V4.cell? ⟨b3, 1, none⟩ = some (.int .u16 m2) := HD.out.blk (List.Mem.head _) 1))
      try clear p2 pb31
      try clear q2 qb31
      have p0 : V4.cell? ⟨pw, 0, none⟩ = some (.iface 45 (.pointer (some ⟨pl, 0, none⟩))) := HD.out.cell 0
      go_wp2_with fail
      refine (KX.out _ HD.out.wk).mono ?_
      rintro e V5 ⟨rfl, hb⟩
      have HD' := Lib.hid (HD.out.write hb); clear HD hb; have HD := HD'; clear HD'
      have HO := Lib.hid (wof_new 0 V5)
      go_wp2_with fail
      refine HO.out.mono ?_
      rintro e V9 ⟨v9, rfl, hv9, hb9⟩
      have HV := Lib.hid (HD.out.ds.done hb9 hv9)
      clear hv9 hb9
      go_wp2
      go_ret
      have hE := HR.out
      subst hE
      exact HV.out
    · have hz' : (te == 0) = false := by simpa using hz
      have hz2 : (te != 0) = true := by simpa using hz
      have hR := HR.out
      rw [if_neg hz] at hR
      clear HR
      have HR := Lib.hid hR
      clear hR
      have HO := Lib.hid (wof_new te V3)
      go_wp2_with fail
      refine HO.out.mono ?_
      rintro e V9 ⟨v9, rfl, hv9, hb9⟩
      have HV := Lib.hid (HD.out.ds.done hb9 hv9)
      clear hv9 hb9
      go_wp2
      go_ret
      have hE := HR.out
      subst hE
      exact HV.out
  · have hz' : (xe == 0) = false := by simpa using hz
    have hz2 : (xe != 0) = true := by simpa using hz
    have hR := HR.out
    rw [if_neg hz] at hR
    clear HR
    have HR := Lib.hid hR
    clear hR
    have HO := Lib.hid (wof_new xe W3)
    go_wp2_with fail
    refine HO.out.mono ?_
    rintro e V9 ⟨v9, rfl, hv9, hb9⟩
    have HV := Lib.hid (HD.out.ds.done hb9 hv9)
    clear hv9 hb9
    go_wp2
    go_ret
    have hE := HR.out
    subst hE
    exact HV.out
end Go.Proofs.YtmkcbkdbdcnoiaaGreatDoor
namespace Go.Proofs.YtmkcbkdbdcnoiaaGreatDoor
open Go.RowKit
set_option linter.unusedVariables false
set_option linter.unusedSimpArgs false

theorem mlParse_rng (s : Str) : (0 ≤ (mlParse s).1.1 ∧ (mlParse s).1.1 < 4294967296) ∧ 0 ≤ (mlParse s).1.2.2.1 ∧ (mlParse s).1.2.2.1 < 65536 := by
  unfold mlParse
  split
  · have h1 : num (s.take 4) < 4294967296 := num_lt_of (n := 4) (by simp; omega) (by decide)
    have h2 : num (((s.drop 4).drop 8).take 2) < 65536 := num_lt_of (n := 2) (by simp; omega) (by decide)
    simp only [mlOf]
    omega
  · simp
theorem poF_rng (l : List Par) (c : Cmd) : (0 ≤ (poF l c).1.1 ∧ (poF l c).1.1 < 4294967296) ∧ 0 ≤ (poF l c).1.2.2.1 ∧ (poF l c).1.2.2.1 < 65536 := by
  unfold poF
  split
  · simp
  · exact mlParse_rng _
theorem mlBytes_len (m : Ml) : (mlBytes m).1.length ≤ 100 := by
  unfold mlBytes
  split
  · simp [fieldBytes, be_length]
  · simp
theorem slBytes_len (m : Sl) : (slBytes m).1.length ≤ 100 := by
  unfold slBytes
  split
  · simp [fieldBytes, be_length]
  · simp
/-- What sending back comes to. -/
def baF (l : List Par) (c : Cmd) : List Par × Int :=
  if (poF l c).2.2 = 0 then
    (put (del l (poF l c).2.1) (kKey 3 (poF l c).1.1 0 c.b).1 (mlBytes (c.a, (poF l c).1.2)).1, 0)
  else (l, (poF l c).2.2)

set_option maxHeartbeats 4000000 in
set_option maxRecDepth 100000 in
theorem wback_any (B pl pw n : Nat) (l : List Par) (c : Cmd) (a : Ans) (w : World) (hW : Wk B pl pw l c a w) (hO : Ok n l) (hn : n < 99999) (hc : CmdOk c) :
    Calls Tryz.prog 57 #[.pointer (some ⟨pw, 0, none⟩)] w fun e w' => DP B pl pw c ((baF l c).1, a, (baF l c).2) w e w' := by
  obtain ⟨R, hR⟩ : ∃ R, baF l c = R := ⟨_, rfl⟩
  rw [hR]
  unfold baF at hR
  have hA := fun V (h : Wk B pl pw l c a V) => wpost_any B pl pw n l c a V h hO (by omega) hc
  have hsr := poF_rng l c
  generalize poF l c = x at hA hR hsr
  obtain ⟨⟨m1, m2, m3, m4⟩, k, xe⟩ := x
  dsimp only at hR hsr
  have hY := fun V => mlBytes_any (c.a, m2, m3, m4) V hsr.2.1 hsr.2.2
  have hyl := mlBytes_len (c.a, m2, m3, m4)
  generalize mlBytes (c.a, m2, m3, m4) = y at hY hR hyl
  obtain ⟨y, ye⟩ := y
  dsimp only at hR hyl
  have hX := fun V (h : Wk B pl pw l c a V) => wdel_call (k := k) h hO (by omega)
  have hO2 : Ok n (del l k) := hO.del
  generalize del l k = L1 at hX hO2 hR
  have hK := fun V => wkey_any 3 m1 0 c.b V ⟨hsr.1.1, hsr.1.2, by omega, by omega, hc.b.1, hc.b.2⟩
  generalize (kKey 3 m1 0 c.b).1 = k2 at hK hR
  have hP := fun V V' (h : Wk B pl pw L1 c a V) (hb : Below V.heap.size V V') => wput_a (k := k2) (v := y) h hO2 (by omega) hb
  have hQ := fun V V' (h : Wk B pl pw L1 c a V) (hb : Below V.heap.size V V') => wput_d (k := k2) (v := y) h hO2 (by omega) hb
  generalize put L1 k2 y = L2 at hP hQ hR
  unfold mlv sv at hA
  unfold mlv at hY
  unfold sv at hX hK
  dsimp only at hA hY
  have hm := m_del
  have hm2 := m_put
  have KA := Lib.hid hA
  have KY := Lib.hid hY
  have KX := Lib.hid hX
  have KK := Lib.hid hK
  have KP := Lib.hid hP
  have KQ := Lib.hid hQ
  have HR := Lib.hid hR
  have HD := Lib.hid (DK.start hW)
  clear hA hY hX hK hP hQ hR hO hO2 hW hsr hyl
  go_enter Tryz.func57, Tryz.ntmps57
  go_wp2_with fail
  refine (KA.out _ HD.out.wk).mono ?_
  rintro e V1 ⟨rfl, hb⟩
  have HD' := Lib.hid (HD.out.read hb); clear HD hb; have HD := HD'; clear HD'
  obtain ⟨b3, hb3⟩ : ∃ b3, V1.heap.size = b3 := ⟨_, rfl⟩
  obtain ⟨W3, hW3⟩ : ∃ W3, V1.alloc (.cells #[.int .u32 m1, .int .i64 m2, .int .u16 m3, .int .i64 m4] 64) = W3 := ⟨_, rfl⟩
  have HD' : Hid (DK B pl pw [(b3, .cells #[.int .u32 m1, .int .i64 m2, .int .u16 m3, .int .i64 m4] 64 (0, 0))] [] l c a w W3) := Lib.hid (by rw [← hW3, ← hb3]; exact HD.out.new _ 64 rfl)
  clear HD; have HD := HD'; clear HD'
  by_cases hz : xe = 0
  · subst hz
    have hR := HR.out
    rw [if_pos rfl] at hR
    clear HR
    have HR := Lib.hid hR
    clear hR
    have p2 : W3.cell? ⟨pw, 2, none⟩ = some (.int .u32 c.a) := HD.out.cell 2
    have pb30 : W3.cell? ⟨b3, 0, none⟩ = some (.int .u32 m1) := HD.out.blk (List.Mem.head _) 0
    have zb3 : ∀ j, W3.frozen? ⟨b3, j, none⟩ = false := HD.out.frz (List.Mem.head _)
    obtain ⟨W4, hW4⟩ : ∃ W4, W3.setCell ⟨b3, 0, none⟩ (.int .u32 c.a) = W4 := ⟨_, rfl⟩
    have HD' : Hid (DK B pl pw [(b3, .cells #[.int .u32 c.a, .int .i64 m2, .int .u16 m3, .int .i64 m4] 64 (0, 0))] [] l c a w W4) := Lib.hid (by rw [← hW4]; exact HD.out.turn40 (by decide) _)
    clear HD; have HD := HD'; clear HD'
    have r0 : W4.cell? ⟨pw, 0, none⟩ = some (.iface 45 (.pointer (some ⟨pl, 0, none⟩))) := HD.out.cell 0
    have rb30 : W4.cell? ⟨b3, 0, none⟩ = some (.int .u32 c.a) := HD.out.blk (List.Mem.head _) 0
    have rb31 : W4.cell? ⟨b3, 1, none⟩ = some (.int .i64 m2) := HD.out.blk (List.Mem.head _) 1
    have rb32 : W4.cell? ⟨b3, 2, none⟩ = some (.int .u16 m3) := HD.out.blk (List.Mem.head _) 2
    have rb33 : W4.cell? ⟨b3, 3, none⟩ = some (.int .i64 m4) := HD.out.blk (List.Mem.head _) 3
    go_wp2_with fail
    refine (KY.out _).mono ?_
    rintro e V2 ⟨rfl, hb⟩
    have HD' := Lib.hid (HD.out.read hb); clear HD hb; have HD := HD'; clear HD'
    try clear r0 rb30 rb31 rb32 rb33
    try clear p2 pb30 zb3 hW4 hW3 hb3
    have p0 : V2.cell? ⟨pw, 0, none⟩ = some (.iface 45 (.pointer (some ⟨pl, 0, none⟩))) := HD.out.cell 0
    go_wp2_with fail
    refine (KX.out _ HD.out.wk).mono ?_
    rintro e V3 ⟨rfl, hb⟩
    have HD' := Lib.hid (HD.out.write hb); clear HD hb; have HD := HD'; clear HD'
    try clear p0
    go_wp2_with fail
    have p0 : V3.cell? ⟨pw, 0, none⟩ = some (.iface 45 (.pointer (some ⟨pl, 0, none⟩))) := HD.out.cell 0
    have p3 : V3.cell? ⟨pw, 3, none⟩ = some (.int .u32 c.b) := HD.out.cell 3
    have HW := HD
    have HD' := Lib.hid (HD.out.drew); clear HD; have HD := HD'; clear HD'
    go_region_held3 (fun W' => W'.cell? ⟨pw, 0, none⟩ = some (.iface 45 (.pointer (some ⟨pl, 0, none⟩))) ∧ W'.cell? ⟨pw, 3, none⟩ = some (.int .u32 c.b))
      (first | with_reducible exact ⟨q0, q3⟩ | with_reducible exact ⟨cell_alloc q0 _, cell_alloc q3 _⟩ | with_reducible exact ⟨cell_drew (cell_alloc q0 _), cell_drew (cell_alloc q3 _)⟩ | with_reducible exact ⟨p0, p3⟩ | with_reducible exact ⟨cell_drew p0, cell_drew p3⟩)
      (first | (go_at_call 66; (with_reducible refine (KK.out _).mono ?_); rintro e V4 ⟨rfl, hb⟩; have HD' := Lib.hid (HD.out.read hb); clear HD hb; have HD := HD'; clear HD'; have q0 : V4.cell? ⟨pw, 0, none⟩ = some (.iface 45 (.pointer (some ⟨pl, 0, none⟩))) := HD.out.cell 0; have q3 : V4.cell? ⟨pw, 3, none⟩ = some (.int .u32 c.b) := HD.out.cell 3) | (go_at_call 228; (first | (with_reducible refine (KP.out _ _ HD.out.wk (Below.refl _ _)).mono ?_) | (with_reducible refine (KQ.out _ _ HD.out.wk (Below.refl _ _)).mono ?_)); rintro e V5 ⟨rfl, hb⟩; have HD' := Lib.hid (HD.out.write hb); clear HD hb; have HD := HD'; clear HD'; have q0 : V5.cell? ⟨pw, 0, none⟩ = some (.iface 45 (.pointer (some ⟨pl, 0, none⟩))) := HD.out.cell 0; have q3 : V5.cell? ⟨pw, 3, none⟩ = some (.int .u32 c.b) := HD.out.cell 3))
    all_goals
      go_wp2
      go_ret
      have hE := HR.out
      subst hE
      exact HD.out.ds.nil
  · have hz' : (xe == 0) = false := by simpa using hz
    have hz2 : (xe != 0) = true := by simpa using hz
    have hR := HR.out
    rw [if_neg hz] at hR
    clear HR
    have HR := Lib.hid hR
    clear hR
    have HO := Lib.hid (wof_new xe W3)
    go_wp2_with fail
    refine HO.out.mono ?_
    rintro e V9 ⟨v9, rfl, hv9, hb9⟩
    have HV := Lib.hid (HD.out.ds.done hb9 hv9)
    clear hv9 hb9
    go_wp2
    go_ret
    have hE := HR.out
    subst hE
    exact HV.out
end Go.Proofs.YtmkcbkdbdcnoiaaGreatDoor
