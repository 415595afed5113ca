/- Package world: sale. Package world: tellAccount. Package world: tellCount. Package world: tellTotal. Package world: tellMails. Package world: burn. Package world: a deed under way. Package world: mint. -/
import Derived.BigQuiet
import Derived.Test.YtmkcbkdbdcnoiaaGreatDoorG16
namespace Go.Proofs.YtmkcbkdbdcnoiaaGreatDoor
open Go.RowKit
set_option linter.unusedVariables false
set_option linter.unusedSimpArgs false

/-- A listing, and its key; whose it must be. -/
def saF (l : List Par) (c : Cmd) (own : Bool) : Sl × Str × Int := match tget l (kKey 4 c.b 0 0).1 with
  | none => ((0, 0, 0, 0), [], 161)
  | some s => ((slParse s).1, (kKey 4 c.b 0 0).1, if ((slParse s).2 == 0) = true then if (((slParse s).1.1 == c.a) != own) = true then 2 else (slParse s).2 else (slParse s).2)

set_option maxHeartbeats 2000000 in
set_option maxRecDepth 100000 in
theorem wsale_any (B pl pw n : Nat) (l : List Par) (c : Cmd) (a : Ans) (own : Bool) (w : World) (hW : Wk B pl pw l c a w) (hO : Ok n l) (hn : n ≤ 100000) (hc : CmdOk c) :
    Calls Tryz.prog 123 #[.pointer (some ⟨pw, 0, none⟩), .bool own] w fun e w' => e = .returned (.tuple #[slv (saF l c own).1, sv (saF l c own).2.1, .int .i64 (saF l c own).2.2]) ∧ Below w.heap.size w w' := by
  obtain ⟨W, hWW⟩ : ∃ W, w.alloc (.cells #[.int .u32 0, .int .u16 0, .int .i64 0, .int .i64 0] 68) = W := ⟨_, rfl⟩
  have HB := Lib.hid (show Hs w [(w.heap.size, .cells #[.int .u32 0, .int .u16 0, .int .i64 0, .int .i64 0] 68 (0, 0))] W from ⟨hWW ▸ (Below.refl _ w).alloc (Nat.le_refl _) _, fun x hx => by simp only [List.mem_cons, List.not_mem_nil, or_false] at hx; subst hx; rw [← hWW]; exact heap_alloc_new w _⟩)
  have hK := fun V => wkey_any 4 c.b 0 0 V ⟨hc.b.1, hc.b.2, by omega, by omega, by omega, by omega⟩
  have hcell : ∀ j, W.cell? ⟨pw, j, none⟩ = (wc pl c a)[j]? := (hW.below HB.out.1).cell
  obtain ⟨F, hF⟩ : ∃ F, saF l c own = F := ⟨_, rfl⟩
  rw [hF]
  unfold saF at hF
  generalize (kKey 4 c.b 0 0).1 = k at hK hF
  have hT := fun V (h : Wk B pl pw l c a V) => wtext_any B pl pw n l c a k V h hO hn
  have hlen := tget_len (k := k) hO
  obtain ⟨⟨f1, f2, f3, f4⟩, fs, fe⟩ := F
  unfold sv at hK hT
  unfold slv sv
  unfold wc at hcell
  dsimp only
  have HK := Lib.hid (And.intro hK (And.intro hT (And.intro hW hF)))
  clear hK hT hW hF hO
  go_enter Tryz.func123, Tryz.ntmps123
  go_wp2_with fail
  refine (HK.out.1 _).mono ?_
  rintro e W2 ⟨rfl, hb⟩
  have H2 := Lib.hid (HB.out.below hb)
  clear hb hcell hWW
  go_wp2_with fail
  refine (HK.out.2.1 W2 (HK.out.2.2.1.below H2.out.1)).mono ?_
  rintro e W3 ⟨rfl, hb⟩
  have H3 := Lib.hid (H2.out.below hb)
  clear hb
  have d1 : ∀ j, W3.cell? ⟨w.heap.size, j, none⟩ = (#[.int .u32 0, .int .u16 0, .int .i64 0, .int .i64 0] : Array Value)[j]? := blk_cell (H3.out.at _ _ (by (first | exact hs_mem0 | exact hs_mem1 | exact hs_mem2 | exact hs_mem3 | exact hs_mem4)))
  have e1 : ∀ j, W3.frozen? ⟨w.heap.size, j, none⟩ = false := blk_frozen (H3.out.at _ _ (by (first | exact hs_mem0 | exact hs_mem1 | exact hs_mem2 | exact hs_mem3 | exact hs_mem4)))
  have hF := HK.out.2.2.2
  rcases ht : tget l k with _ | s
  · rw [ht] at hF
    simp only [Prod.mk.injEq] at hF
    obtain ⟨⟨rfl, rfl, rfl, rfl⟩, rfl, rfl⟩ := hF
    go_wp2
    refine bodyPost_ret (res_cell_tmp2 rfl rfl (four_set (H3.out.at _ _ (by (first | exact hs_mem0 | exact hs_mem1 | exact hs_mem2 | exact hs_mem3 | exact hs_mem4))) _ _ _ _) Tryz.underlying68 rfl (by kernel_rfl)) rfl ⟨rfl, ?_⟩
    exact four_below H3.out.1 (Nat.le_refl _) _ _ _ _
  · rw [ht] at hF hlen
    simp only [Option.getD_some] at hlen
    have hP := slparse_any ⟨s.toArray⟩ W3 (by simp [ByteArray.size]; omega)
    simp only at hP hF
    obtain ⟨P, hPP⟩ : ∃ P, slParse s = P := ⟨_, rfl⟩
    obtain ⟨⟨m1, m2, m3, m4⟩, pe⟩ := P
    rw [hPP] at hP hF
    simp only [Prod.mk.injEq] at hF
    obtain ⟨⟨rfl, rfl, rfl, rfl⟩, rfl, hF⟩ := hF
    unfold slv at hP
    dsimp only at hP
    have HP := Lib.hid hP
    have HF := Lib.hid hF
    clear hP hPP d1 e1 hF
    go_wp2_with fail
    refine HP.out.mono ?_
    rintro e W4 ⟨rfl, hb⟩
    obtain ⟨g, hg⟩ : ∃ g, W4.heap.size = g := ⟨_, rfl⟩
    obtain ⟨W5, hW5⟩ : ∃ W5, W4.alloc (.cells #[.int .u32 m1, .int .u16 m2, .int .i64 m3, .int .i64 m4] 68) = W5 := ⟨_, rfl⟩
    have H4 := Lib.hid (show Hs w [(g, .cells #[.int .u32 m1, .int .u16 m2, .int .i64 m3, .int .i64 m4] 68 (0, 0)), (w.heap.size, .cells #[.int .u32 0, .int .u16 0, .int .i64 0, .int .i64 0] 68 (0, 0))] W5 by
      rw [← hW5, ← hg]
      exact ((H3.out.below hb).alloc _).cons (heap_alloc_new W4 _))
    clear hb
    have hcell : ∀ j, W5.cell? ⟨pw, j, none⟩ = (wc pl c a)[j]? := (HK.out.2.2.1.below H4.out.1).cell
    unfold wc at hcell
    have d1 : ∀ j, W5.cell? ⟨w.heap.size, j, none⟩ = (#[.int .u32 0, .int .u16 0, .int .i64 0, .int .i64 0] : Array Value)[j]? := blk_cell (H4.out.at w.heap.size _ (by (first | exact hs_mem0 | exact hs_mem1 | exact hs_mem2 | exact hs_mem3 | exact hs_mem4)))
    have e1 : ∀ j, W5.frozen? ⟨w.heap.size, j, none⟩ = false := blk_frozen (H4.out.at w.heap.size _ (by (first | exact hs_mem0 | exact hs_mem1 | exact hs_mem2 | exact hs_mem3 | exact hs_mem4)))
    have d2 : ∀ j, W5.cell? ⟨g, j, none⟩ = (#[.int .u32 m1, .int .u16 m2, .int .i64 m3, .int .i64 m4] : Array Value)[j]? := blk_cell (H4.out.at g _ (by (first | exact hs_mem0 | exact hs_mem1 | exact hs_mem2 | exact hs_mem3 | exact hs_mem4)))
    have hF := HF.out
    rcases hy : (pe == 0) with _ | _
    · rw [hy] at hF
      simp only [Bool.false_eq_true, if_false] at hF
      subst hF
      go_wp2_with fail
      go_quiet (fail)
      go_wp2
      refine bodyPost_ret (res_cell_tmp2 rfl rfl (four_set (w := W5.drewN nq) (H4.out.at w.heap.size _ (by (first | exact hs_mem0 | exact hs_mem1 | exact hs_mem2 | exact hs_mem3 | exact hs_mem4))) _ _ _ _) Tryz.underlying68 rfl (by kernel_rfl)) rfl ⟨rfl, ?_⟩
      exact four_below (H4.out.1.trans (below_drewN _ _ |>.mono H4.out.1.size)) (Nat.le_refl _) _ _ _ _
    · rw [hy] at hF
      simp only [if_true] at hF
      rcases hm : (m1 == c.a) with _ | _
      all_goals
        rcases own with _ | _
        all_goals
          rw [hm] at hF
          simp (config := { decide := true }) only [Bool.false_eq_true, if_false, if_true] at hF
          subst hF
          go_wp2_with fail
          go_quiet (fail)
          go_wp2
          refine bodyPost_ret (res_cell_tmp2 rfl rfl (four_set (w := W5.drewN nq) (H4.out.at w.heap.size _ (by (first | exact hs_mem0 | exact hs_mem1 | exact hs_mem2 | exact hs_mem3 | exact hs_mem4))) _ _ _ _) Tryz.underlying68 rfl (by kernel_rfl)) rfl ⟨rfl, ?_⟩
          exact four_below (H4.out.1.trans (below_drewN _ _ |>.mono H4.out.1.size)) (Nat.le_refl _) _ _ _ _
end Go.Proofs.YtmkcbkdbdcnoiaaGreatDoor
namespace Go.Proofs.YtmkcbkdbdcnoiaaGreatDoor
open Go.RowKit
set_option linter.unusedVariables false
set_option linter.unusedSimpArgs false

/-- One cell of the answer is set. -/
theorem Wk.set {B pl pw : Nat} {l : List Par} {c : Cmd} {a a' : Ans} {W : World} (h : Wk B pl pw l c a W) (j : Nat) (u : Value) (hu : (wc pl c a).setIfInBounds j u = wc pl c a') : Wk B pl pw l c a' (W.setCell ⟨pw, j, none⟩ u) := by
  obtain ⟨W0, g1, g2, g3, g4⟩ := h.gl
  obtain ⟨v, e1, e2⟩ := h.lst
  have hB := h.bw
  refine ⟨⟨v, (Below.heap_setCell _ _ _ _ h.ne).trans e1, own_one e2 h.box (by decide) _ _⟩, by rw [← hu]; exact blk_set h.box j u, h.ne, h.bl, h.bw, W0, g1, g2, by simpa [World.setCell] using g3, fun k hk => (Below.heap_setCell _ _ _ _ (by show k ≠ pw; omega)).trans (g4 k hk)⟩
theorem Kept2.set {pl pw : Nat} {W : World} (j : Nat) (u : Value) : Kept2 pl pw W (W.setCell ⟨pw, j, none⟩ u) := by
  have hs : Same (fun k => k ≠ pw) W (W.setCell ⟨pw, j, none⟩ u) := (Same.refl _ W).setCell (fun _ h => h rfl) _
  exact ⟨hs.os, hs.tape, hs.output, hs.size, fun k o h1 _ h2 _ => hs.at_ h1 h2⟩
theorem Kept2.of_below {pl pw : Nat} {A B : World} (h : Below A.heap.size A B) : Kept2 pl pw A B := (Kept.of_below h).two

set_option maxHeartbeats 2000000 in
set_option maxRecDepth 100000 in
theorem wtellAccount_any (B pl pw n : Nat) (l : List Par) (c : Cmd) (a : Ans) (w : World) (hW : Wk B pl pw l c a w) (hO : Ok n l) (hn : n < 100000) (hc : CmdOk c) :
    Calls Tryz.prog 61 #[.pointer (some ⟨pw, 0, none⟩)] w fun e w' => DP B pl pw c (l, (a.1, (acF l c.a).1.1, (acF l c.a).1.2), 0) w e w' := by
  have hA := waccount_any B pl pw n l c a c.a w hW hO (by omega) hc.a
  generalize (acF l c.a).2 = ae at hA
  generalize (acF l c.a).1 = x at hA ⊢
  obtain ⟨x1, x2⟩ := x
  unfold accv at hA
  dsimp only at hA ⊢
  have hcell : ∀ j, w.cell? ⟨pw, j, none⟩ = (wc pl c a)[j]? := hW.cell
  unfold wc at hcell
  have HK := Lib.hid (And.intro hA hW)
  clear hA hW hO
  go_enter Tryz.func61, Tryz.ntmps61
  go_wp2_with fail
  refine HK.out.1.mono ?_
  rintro e W2 ⟨rfl, hb⟩
  obtain ⟨b5, hb5⟩ : ∃ b5, W2.heap.size = b5 := ⟨_, rfl⟩
  obtain ⟨W3, hW3⟩ : ∃ W3, W2.alloc (.cells #[.int .i64 x1, .int .i64 x2] 55) = W3 := ⟨_, rfl⟩
  have H3 : Hid (Below w.heap.size w W3 ∧ Wk B pl pw l c a W3) := Lib.hid (by
    have h : Below w.heap.size w W3 := by rw [← hW3]; exact hb.alloc hb.size _
    exact ⟨h, HK.out.2.below h⟩)
  have d5 : ∀ j, W3.cell? ⟨b5, j, none⟩ = (#[.int .i64 x1, .int .i64 x2] : Array Value)[j]? := by rw [← hW3, ← hb5]; exact blk_cell (heap_alloc_new W2 _)
  have hn1 : b5 ≠ pw := by have := HK.out.2.size.2.2; have := hb.size; omega
  clear hb hcell
  have hcell : ∀ j, W3.cell? ⟨pw, j, none⟩ = (wc pl c a)[j]? := H3.out.2.cell
  unfold wc at hcell
  have fz : ∀ j, W3.frozen? ⟨pw, j, none⟩ = false := blk_frozen H3.out.2.box
  go_wp2_with fail
  go_region
  all_goals
    have h1 := H3.out.2.set (a' := (a.1, x1, a.2.2)) 8 (.int .i64 x1) rfl
    have h2 := h1.set (a' := (a.1, x1, x2)) 9 (.int .i64 x2) rfl
    have hB := HK.out.2.size
    have hbw := HK.out.2.bw
    have hF := Lib.hid (And.intro (h2.below (Below.drew (Below.refl _ _))) (And.intro ((Kept2.of_below (pl := pl) (pw := pw) H3.out.1).trans ((Kept2.set (W := W3) 8 (.int .i64 x1)).trans ((Kept2.set 9 (.int .i64 x2)).trans (Kept2.of_below (Below.drew (Below.refl _ _)))))) (Below.drew (((H3.out.1.mono hB.1).setCell (p := ⟨pw, 8, none⟩) hbw (.int .i64 x1)).setCell (p := ⟨pw, 9, none⟩) hbw (.int .i64 x2)))))
    clear h1 h2
    go_wp2
    go_ret
    exact ⟨_, rfl, .inl ⟨rfl, rfl⟩, hF.out.1, hF.out.2.1, hF.out.2.2⟩
end Go.Proofs.YtmkcbkdbdcnoiaaGreatDoor
namespace Go.Proofs.YtmkcbkdbdcnoiaaGreatDoor
open Go.RowKit
set_option linter.unusedVariables false
set_option linter.unusedSimpArgs false

set_option maxHeartbeats 2000000 in
set_option maxRecDepth 100000 in
theorem wtellCount_any (B pl pw n : Nat) (l : List Par) (c : Cmd) (a : Ans) (w : World) (hW : Wk B pl pw l c a w) (hO : Ok n l) (hn : n < 100000) (hc : CmdOk c) :
    Calls Tryz.prog 62 #[.pointer (some ⟨pw, 0, none⟩)] w fun e w' => DP B pl pw c (l, (a.1, gCount (goF l c.a) c.item, a.2.2), 0) w e w' := by
  have hG := fun V (h : Wk B pl pw l c a V) => wgoods_any B pl pw n l c a c.a V h hO (by omega) hc.a
  have hlen : (goF l c.a).length ≤ 21 := by unfold goF; rw [List.length_take]; omega
  generalize goF l c.a = g at hG hlen ⊢
  have hC := fun V v (h : Sees V v g.length 2 (stks g)) => gcount_any g g.length v c.item V rfl h (by omega)
  generalize gCount g c.item = y at hC ⊢
  have p2 : w.cell? ⟨pw, 2, none⟩ = some (.int .u32 c.a) := hW.cell 2
  have p4 : w.cell? ⟨pw, 4, none⟩ = some (.int .u16 c.item) := hW.cell 4
  have HK := Lib.hid (And.intro hG (And.intro hC (And.intro hW (hW.below (Below.drew (Below.refl _ w))))))
  clear hG hC hW hO
  go_enter Tryz.func62, Tryz.ntmps62
  go_wp2_with fail
  go_region_held3 (fun W' => W'.cell? ⟨pw, 2, none⟩ = some (.int .u32 c.a) ∧ W'.cell? ⟨pw, 4, none⟩ = some (.int .u16 c.item))
    (first | with_reducible exact ⟨u2, u4⟩ | with_reducible exact ⟨cell_drew u2, cell_drew u4⟩ | with_reducible exact ⟨t2, t4⟩ | with_reducible exact ⟨q2, q4⟩ | with_reducible exact ⟨p2, p4⟩ | with_reducible exact ⟨cell_drew p2, cell_drew p4⟩)
    (first | (go_at_call 108; (with_reducible refine (HK.out.1 _ HK.out.2.2.2).mono ?_); rintro e W2 ⟨v, rfl, hv, hb⟩; have hb2 := (Below.drew (Below.refl _ w)).trans hb; have hw2 := HK.out.2.2.1.below hb2; have q2 : W2.cell? ⟨pw, 2, none⟩ = some (.int .u32 c.a) := hw2.cell 2; have q4 : W2.cell? ⟨pw, 4, none⟩ = some (.int .u16 c.item) := hw2.cell 4; have H2 := Lib.hid (And.intro hb2 (And.intro hw2 (Sees.of_own hv))); clear hb hb2 hw2 hv) | (go_at_call 126; (with_reducible refine (HK.out.2.1 _ _ H2.out.2.2).mono ?_); rintro e W3 ⟨rfl, hb⟩; have hw3 := H2.out.2.1.below hb; have t2 : W3.cell? ⟨pw, 2, none⟩ = some (.int .u32 c.a) := hw3.cell 2; have t4 : W3.cell? ⟨pw, 4, none⟩ = some (.int .u16 c.item) := hw3.cell 4; have t8 : W3.cell? ⟨pw, 8, none⟩ = some (.int .i64 a.2.1) := hw3.cell 8; have tf : ∀ j, W3.frozen? ⟨pw, j, none⟩ = false := blk_frozen hw3.box; have hw4 := hw3.set (a' := (a.1, y, a.2.2)) 8 (.int .i64 y) rfl; have u2 : (W3.setCell ⟨pw, 8, none⟩ (.int .i64 y)).cell? ⟨pw, 2, none⟩ = some (.int .u32 c.a) := hw4.cell 2; have u4 : (W3.setCell ⟨pw, 8, none⟩ (.int .i64 y)).cell? ⟨pw, 4, none⟩ = some (.int .u16 c.item) := hw4.cell 4; have H3 := Lib.hid (And.intro (H2.out.1.trans (Below.mono hb H2.out.1.size)) hw4); clear hb hw3 hw4))
  have hB := HK.out.2.2.1.size
  have hbw := HK.out.2.2.1.bw
  have h3 : Below w.heap.size w W3 := H3.out.1
  have hF := Lib.hid (And.intro H3.out.2 (And.intro ((Kept2.of_below (pl := pl) (pw := pw) h3).trans (Kept2.set (W := W3) 8 (.int .i64 y))) ((h3.mono hB.1).setCell (p := ⟨pw, 8, none⟩) hbw (.int .i64 y))))
  clear h3
  go_wp2
  go_ret
  exact ⟨_, rfl, .inl ⟨rfl, rfl⟩, hF.out.1, hF.out.2.1, hF.out.2.2⟩
end Go.Proofs.YtmkcbkdbdcnoiaaGreatDoor
namespace Go.Proofs.YtmkcbkdbdcnoiaaGreatDoor
open Go.RowKit
set_option linter.unusedVariables false
set_option linter.unusedSimpArgs false

/-- What is told of all coins, or things. -/
def toF (l : List Par) (c : Cmd) (a : Ans) : Ans × Int :=
  if (c.a == 1) = true then ((a.1, numF l (kKey 6 1 c.item 0).1, a.2.2), 0) else if (c.a == 0) = true then if (c.item == 0) = true then ((a.1, numF l (kKey 6 0 0 0).1, a.2.2), 0) else (a, 2) else (a, 2)

set_option maxHeartbeats 2000000 in
set_option maxRecDepth 100000 in
theorem wtellTotal_any (B pl pw n : Nat) (l : List Par) (c : Cmd) (a : Ans) (w : World) (hW : Wk B pl pw l c a w) (hO : Ok n l) (hn : n < 100000) (hc : CmdOk c) :
    Calls Tryz.prog 64 #[.pointer (some ⟨pw, 0, none⟩)] w fun e w' => DP B pl pw c (l, (toF l c a).1, (toF l c a).2) w e w' := by
  obtain ⟨R, hR⟩ : ∃ R, toF l c a = R := ⟨_, rfl⟩
  rw [hR]
  unfold toF at hR
  have hT := wthingsKey_any B pl pw l c a w hW hc.item
  have hC := wcoinsKey_any w
  generalize (kKey 6 1 c.item 0).1 = kt at hT hR
  generalize (kKey 6 0 0 0).1 = kc at hC hR
  have hNt := fun V (h : Wk B pl pw l c a V) => wnumber_any B pl pw n l c a kt V h hO (by omega)
  have hNc := fun V (h : Wk B pl pw l c a V) => wnumber_any B pl pw n l c a kc V h hO (by omega)
  generalize numF l kt = yt at hNt hR
  generalize numF l kc = yc at hNc hR
  have hcell : ∀ j, w.cell? ⟨pw, j, none⟩ = (wc pl c a)[j]? := hW.cell
  unfold wc at hcell
  unfold sv at hT hC hNt hNc
  have hO2 := wof_new 2 w
  have HK := Lib.hid (And.intro hT (And.intro hC (And.intro hNt (And.intro hNc (And.intro hW (And.intro hR hO2))))))
  clear hT hC hNt hNc hW hR hO hO2
  have hR := HK.out.2.2.2.2.2.1
  rcases h1 : (c.a == 1) with _ | _
  · rw [h1] at hR
    rcases h2 : (c.a == 0) with _ | _
    · rw [h2] at hR
      simp only [Bool.false_eq_true, if_false, if_true] at hR
      subst hR
      go_enter Tryz.func64, Tryz.ntmps64
      go_wp2_with fail
      refine HK.out.2.2.2.2.2.2.mono ?_
      rintro e W7 ⟨v, rfl, hv, hb⟩
      have HV := Lib.hid (And.intro hv hb)
      clear hv hb hcell
      go_wp2
      go_ret
      exact ⟨_, rfl, HV.out.1, HK.out.2.2.2.2.1.below HV.out.2, Kept2.of_below HV.out.2, HV.out.2.mono HK.out.2.2.2.2.1.size.1⟩
    · rw [h2] at hR
      rcases h3 : (c.item == 0) with _ | _
      · rw [h3] at hR
        simp only [Bool.false_eq_true, if_false, if_true] at hR
        subst hR
        go_enter Tryz.func64, Tryz.ntmps64
        go_wp2_with fail
        refine HK.out.2.2.2.2.2.2.mono ?_
        rintro e W7 ⟨v, rfl, hv, hb⟩
        have HV := Lib.hid (And.intro hv hb)
        clear hv hb hcell
        go_wp2
        go_ret
        exact ⟨_, rfl, HV.out.1, HK.out.2.2.2.2.1.below HV.out.2, Kept2.of_below HV.out.2, HV.out.2.mono HK.out.2.2.2.2.1.size.1⟩
      · rw [h3] at hR
        simp only [Bool.false_eq_true, if_false, if_true] at hR
        subst hR
        go_enter Tryz.func64, Tryz.ntmps64
        go_wp2_with fail
        refine HK.out.2.1.mono ?_
        rintro e W2 ⟨rfl, hb⟩
        have HB := Lib.hid (And.intro hb (HK.out.2.2.2.2.1.below hb))
        clear hb hcell
        go_wp2_with fail
        refine (HK.out.2.2.2.1 W2 HB.out.2).mono ?_
        rintro e W3 ⟨rfl, hb⟩
        have hb3 : Below w.heap.size w W3 := HB.out.1.trans (hb.mono HB.out.1.size)
        have hw3 := HB.out.2.below hb
        have fz : ∀ j, W3.frozen? ⟨pw, j, none⟩ = false := blk_frozen hw3.box
        have c8 : W3.cell? ⟨pw, 8, none⟩ = some (.int .i64 a.2.1) := hw3.cell 8
        have hB := HK.out.2.2.2.2.1.size
        have hbw := HK.out.2.2.2.2.1.bw
        have hF := Lib.hid (And.intro (hw3.set (a' := (a.1, yc, a.2.2)) 8 (.int .i64 yc) rfl) (And.intro ((Kept2.of_below (pl := pl) (pw := pw) hb3).trans (Kept2.set (W := W3) 8 (.int .i64 yc))) ((hb3.mono hB.1).setCell (p := ⟨pw, 8, none⟩) hbw (.int .i64 yc))))
        clear hb hb3 hw3
        go_wp2
        go_ret
        exact ⟨_, rfl, .inl ⟨rfl, rfl⟩, hF.out.1, hF.out.2.1, hF.out.2.2⟩
  · rw [h1] at hR
    simp only [if_true] at hR
    subst hR
    go_enter Tryz.func64, Tryz.ntmps64
    go_wp2_with fail
    refine HK.out.1.mono ?_
    rintro e W2 ⟨rfl, hb⟩
    have HB := Lib.hid (And.intro hb (HK.out.2.2.2.2.1.below hb))
    clear hb hcell
    go_wp2_with fail
    refine (HK.out.2.2.1 W2 HB.out.2).mono ?_
    rintro e W3 ⟨rfl, hb⟩
    have hb3 : Below w.heap.size w W3 := HB.out.1.trans (hb.mono HB.out.1.size)
    have hw3 := HB.out.2.below hb
    have fz : ∀ j, W3.frozen? ⟨pw, j, none⟩ = false := blk_frozen hw3.box
    have c8 : W3.cell? ⟨pw, 8, none⟩ = some (.int .i64 a.2.1) := hw3.cell 8
    have hB := HK.out.2.2.2.2.1.size
    have hbw := HK.out.2.2.2.2.1.bw
    have hF := Lib.hid (And.intro (hw3.set (a' := (a.1, yt, a.2.2)) 8 (.int .i64 yt) rfl) (And.intro ((Kept2.of_below (pl := pl) (pw := pw) hb3).trans (Kept2.set (W := W3) 8 (.int .i64 yt))) ((hb3.mono hB.1).setCell (p := ⟨pw, 8, none⟩) hbw (.int .i64 yt))))
    clear hb hb3 hw3
    go_wp2
    go_ret
    exact ⟨_, rfl, .inl ⟨rfl, rfl⟩, hF.out.1, hF.out.2.1, hF.out.2.2⟩
end Go.Proofs.YtmkcbkdbdcnoiaaGreatDoor
namespace Go.Proofs.YtmkcbkdbdcnoiaaGreatDoor
open Go.RowKit
set_option linter.unusedVariables false
set_option linter.unusedSimpArgs false

/-- What is told of mails. -/
def tmF (M : List Par) (a : Ans) : Ans := match M with
  | [] => a
  | p :: _ => (a.1, if (1000 : Int) < (M.length : Int) then 1000 else (M.length : Int), wrap64 (kParse p.1).1.2.2.2)

set_option maxHeartbeats 2000000 in
set_option maxRecDepth 100000 in
theorem wtellMails_any (B pl pw n : Nat) (l : List Par) (c : Cmd) (a : Ans) (w : World) (hW : Wk B pl pw l c a w) (hO : Ok n l) (hn : n < 100000) (hc : CmdOk c) :
    Calls Tryz.prog 63 #[.pointer (some ⟨pw, 0, none⟩)] w fun e w' => DP B pl pw c (l, tmF (unF l 3 c.a) a, 0) w e w' := by
  have hU := wunder_any B pl pw n l c a 3 c.a w hW hO (by omega) (.inr rfl) hc.a
  have hUO : ∀ p ∈ unF l 3 c.a, p.1.length ≤ 100 ∧ p.2.length ≤ 1000 := fun p hp => hO.small p (mem_betw hp)
  have hUl : (unF l 3 c.a).length ≤ 100000 := Nat.le_trans (betw_length _ _ _) (Nat.le_trans hO.len (by omega))
  generalize unF l 3 c.a = M at hU hUO hUl ⊢
  have hcell : ∀ j, w.cell? ⟨pw, j, none⟩ = (wc pl c a)[j]? := hW.cell
  unfold wc at hcell
  cases M with
  | nil =>
    have HK := Lib.hid (And.intro hU (And.intro hW hUO))
    clear hU hW hO hUO
    unfold tmF
    dsimp only
    go_enter Tryz.func63, Tryz.ntmps63
    go_wp2_with fail
    refine HK.out.1.mono ?_
    rintro e W2 ⟨⟨v, rfl, hv, _⟩, hb⟩
    obtain ⟨base, cap, rfl⟩ := hv.shape
    have H2 := Lib.hid (And.intro hb (And.intro (HK.out.2.1.below hb) hv))
    clear hb hv hcell
    go_wp2
    go_ret
    exact ⟨_, rfl, .inl ⟨rfl, rfl⟩, H2.out.2.1, Kept2.of_below H2.out.1, H2.out.1.mono HK.out.2.1.size.1⟩
  | cons p M =>
    obtain ⟨p1, p2⟩ := p
    have hsm := (hUO (p1, p2) (by simp)).1
    dsimp only at hsm
    have hP := fun V => kparse_any ⟨p1.toArray⟩ V (by simp [ByteArray.size]; omega)
    unfold tmF
    dsimp only
    simp only at hP
    obtain ⟨L, hL⟩ : ∃ L, ((p1, p2) :: M).length = L := ⟨_, rfl⟩
    have hL0 : 0 < L := by rw [← hL]; simp
    rw [hL] at hU hUl ⊢
    generalize kParse p1 = q at hP ⊢
    obtain ⟨⟨qk, qa, qi, qm⟩, qe⟩ := q
    unfold plv at hP
    dsimp only at hP ⊢
    obtain ⟨mn, hmn⟩ : ∃ mn, (if (1000 : Int) < (L : Int) then (1000 : Int) else (L : Int)) = mn := ⟨_, rfl⟩
    rw [hmn]
    have HM := Lib.hid hmn
    clear hmn
    have HK := Lib.hid (And.intro hU (And.intro hW (And.intro hP hL)))
    have hlt : (0 : Int) < (L : Int) := by omega
    clear hU hW hO hUO hP hL
    go_enter Tryz.func63, Tryz.ntmps63
    go_wp2_with fail
    refine HK.out.1.mono ?_
    rintro e W2 ⟨⟨v, rfl, hv, _⟩, hb⟩
    obtain ⟨base, cap, rfl⟩ := hv.shape
    have hv2 := hv
    rw [← HK.out.2.2.2] at hv2
    obtain ⟨ad, cap2, he, h2, h3, h4⟩ := Sees.at2 (f := fun p : Par => .string ⟨p.1.toArray⟩) (g := fun p : Par => .string ⟨p.2.toArray⟩) hv2 0 (by simp)
    simp only [Value.slice.injEq] at he
    obtain ⟨rfl, _, rfl⟩ := he
    have h20 : W2.cell? ad = some (.string ⟨p1.toArray⟩) := by
      have : ad.add (0 * 2) = ad := by unfold Addr.add; simp
      rw [this] at h2; exact h2
    have H2 := Lib.hid (And.intro hb (HK.out.2.1.below hb))
    clear hb hv hcell h2 h3 h4 hv2
    go_wp2_with fail
    refine (HK.out.2.2.1 W2).mono ?_
    rintro e W3 ⟨rfl, hb⟩
    obtain ⟨b6, hb6⟩ : ∃ b6, W3.heap.size = b6 := ⟨_, rfl⟩
    obtain ⟨W4, hW4⟩ : ∃ W4, W3.alloc (.cells #[.int .i64 qk, .int .u32 qa, .int .u16 qi, .int .u32 qm] 51) = W4 := ⟨_, rfl⟩
    have hb4 : Below w.heap.size w W4 := by rw [← hW4]; exact (H2.out.1.trans (hb.mono H2.out.1.size)).alloc (Nat.le_trans H2.out.1.size hb.size) _
    have hw4 := HK.out.2.1.below hb4
    have d6 : ∀ j, W4.cell? ⟨b6, j, none⟩ = (#[.int .i64 qk, .int .u32 qa, .int .u16 qi, .int .u32 qm] : Array Value)[j]? := by rw [← hW4, ← hb6]; exact blk_cell (heap_alloc_new W3 _)
    have hn1 : b6 ≠ pw := by have := HK.out.2.1.size.2.2; have := H2.out.1.size; have := hb.size; omega
    have hcell : ∀ j, W4.cell? ⟨pw, j, none⟩ = (wc pl c a)[j]? := hw4.cell
    unfold wc at hcell
    have fz : ∀ j, W4.frozen? ⟨pw, j, none⟩ = false := blk_frozen hw4.box
    have H4 := Lib.hid (And.intro hb4 hw4)
    clear hb hb4 hw4
    go_wp2_with fail
    go_region
    all_goals
      have hmn := HM.out
      simp only [hmn]
      clear hmn
      have h1 := H4.out.2.set (a' := (a.1, mn, a.2.2)) 8 (.int .i64 mn) rfl
      have h2 := h1.set (a' := (a.1, mn, wrap64 qm)) 9 (.int .i64 (wrap64 qm)) rfl
      have hB := HK.out.2.1.size
      have hbw := HK.out.2.1.bw
      have hF := Lib.hid (And.intro (h2.below (Below.drew (Below.refl _ _))) (And.intro ((Kept2.of_below (pl := pl) (pw := pw) H4.out.1).trans ((Kept2.set (W := W4) 8 (.int .i64 mn)).trans ((Kept2.set 9 (.int .i64 (wrap64 qm))).trans (Kept2.of_below (Below.drew (Below.refl _ _)))))) (Below.drew (((H4.out.1.mono hB.1).setCell (p := ⟨pw, 8, none⟩) hbw (.int .i64 mn)).setCell (p := ⟨pw, 9, none⟩) hbw (.int .i64 (wrap64 qm))))))
      clear h1 h2
      go_wp2
      go_ret
      exact ⟨_, rfl, .inl ⟨rfl, rfl⟩, hF.out.1, hF.out.2.1, hF.out.2.2⟩
end Go.Proofs.YtmkcbkdbdcnoiaaGreatDoor
namespace Go.Proofs.YtmkcbkdbdcnoiaaGreatDoor
open Go.RowKit
set_option linter.unusedVariables false
set_option linter.unusedSimpArgs false

/-- What burning comes to. -/
def buF (l : List Par) (c : Cmd) : List Par × Int :=
  if (chF (doesF spendsF) l c).2 = 0 then (put (chF (doesF spendsF) l c).1 (kKey 6 0 0 0).1 (mBytesF [IntKind.i64.wrap (numF (chF (doesF spendsF) l c).1 (kKey 6 0 0 0).1 - c.n)]).1, 0) else chF (doesF spendsF) l c
theorem kKey_len (k a i m : Int) : (kKey k a i m).1.length ≤ 100 := by
  unfold kKey kForm
  split
  · simp only [List.length_cons, fieldBytes, List.flatMap_cons, List.flatMap_nil, List.length_append, be_length, List.length_nil]
    split <;> (try split) <;> (try split) <;> (try split) <;> (try split) <;> simp
  · simp
theorem mBytes_len (l : List Int) : (mBytesF l).1.length ≤ 8 * l.length := by
  unfold mBytesF
  split
  · rw [mbytes_length]; exact Nat.le_refl _
  · simp
theorem aBytes_len (a : Acc) : (aBytesF a).1.length ≤ 1000 := by
  unfold aBytesF
  split
  · have := mBytes_len [a.1, a.2]; simp at this; omega
  · simp
theorem chF_ok (F : Acc → Int → Acc × Int) {n : Nat} {l : List Par} {c : Cmd} (hO : Ok n l) : Ok (n + 1) (chF F l c).1 := by
  unfold chF
  split
  · exact hO.put (kKey_len _ _ _ _) (aBytes_len _)
  · exact hO.mono (by omega)

set_option maxHeartbeats 2000000 in
set_option maxRecDepth 100000 in
theorem wburn_any (B pl pw n : Nat) (l : List Par) (c : Cmd) (a : Ans) (w : World) (hW : Wk B pl pw l c a w) (hO : Ok n l) (hn : n < 99999) (hc : CmdOk c) :
    Calls Tryz.prog 48 #[.pointer (some ⟨pw, 0, none⟩)] w fun e w' => DP B pl pw c ((buF l c).1, a, (buF l c).2) w e w' := by
  have hH := wchanges_104 B pl pw n l c a w hW hO (by omega) hc
  have hO2 := chF_ok (doesF spendsF) (c := c) hO
  obtain ⟨R, hR⟩ : ∃ R, buF l c = R := ⟨_, rfl⟩
  rw [hR]
  unfold buF at hR
  generalize chF (doesF spendsF) l c = Q at hH hR hO2
  obtain ⟨L, le⟩ := Q
  dsimp only at hH hR hO2
  have hK := fun V => wcoinsKey_any V
  generalize (kKey 6 0 0 0).1 = k at hK hR
  have hN := fun V (h : Wk B pl pw L c a V) => wnumber_any B pl pw (n + 1) L c a k V h hO2 (by omega)
  have hS := fun V (h : Wk B pl pw L c a V) x => wsetNumber_any B pl pw (n + 1) L c a k x V h hO2 (by omega)
  generalize numF L k = y at hN hR
  unfold sv at hK hN hS
  have HK := Lib.hid (And.intro hH (And.intro hK (And.intro hN (And.intro hS (And.intro hW hR)))))
  clear hH hK hN hS hW hR hO
  go_enter Tryz.func48, Tryz.ntmps48
  go_wp2_with fail
  refine HK.out.1.mono ?_
  rintro e W2 ⟨v, rfl, hv, hw, hk, hb⟩
  dsimp only at hv hw hk hb
  have HV := Lib.hid (And.intro hv (And.intro hw (And.intro hk (And.intro hb (hw.below (Below.drew (Below.refl _ W2)))))))
  have hR := HK.out.2.2.2.2.2
  rcases hv with ⟨h0, rfl⟩ | ⟨h0, b, rfl, hbb, hbo⟩
  · subst h0
    rw [if_pos rfl] at hR
    have HR := Lib.hid hR
    have p5 : W2.cell? ⟨pw, 5, none⟩ = some (.int .i64 c.n) := hw.cell 5
    have HC := Lib.hid (Below.drew (Below.refl W2.heap.size W2))
    clear hw hk hb hR
    go_wp2_with fail
    go_region_held3 (fun W' => W'.cell? ⟨pw, 5, none⟩ = some (.int .i64 c.n))
      (first | with_reducible exact q5 | with_reducible exact p5 | with_reducible exact cell_drew p5)
      (first | (go_at_call 100; (with_reducible refine (HK.out.2.1 _).mono ?_); rintro e V ⟨rfl, hb⟩; have HC' := Lib.hid (HC.out.trans (Below.mono hb HC.out.size)); clear HC hb; have HC := HC'; clear HC'; have q5 : V.cell? ⟨pw, 5, none⟩ = some (.int .i64 c.n) := (HV.out.2.1.below HC.out).cell 5) | (go_at_call 99; (with_reducible refine (HK.out.2.2.1 _ (HV.out.2.1.below HC.out)).mono ?_); rintro e V ⟨rfl, hb⟩; have HC' := Lib.hid (HC.out.trans (Below.mono hb HC.out.size)); clear HC hb; have HC := HC'; clear HC'; have q5 : V.cell? ⟨pw, 5, none⟩ = some (.int .i64 c.n) := (HV.out.2.1.below HC.out).cell 5) | (go_at_call 102; (with_reducible refine (HK.out.2.2.2.1 _ (HV.out.2.1.below HC.out) _).mono ?_); rintro e V ⟨rfl, h9⟩; have H9 := Lib.hid h9; have q5 : V.cell? ⟨pw, 5, none⟩ = some (.int .i64 c.n) := h9.1.cell 5; clear h9))
    all_goals
      go_wp2
      go_ret
      have hE := HR.out
      subst hE
      exact ⟨_, rfl, .inl ⟨rfl, rfl⟩, H9.out.1, HV.out.2.2.1.trans ((Kept2.of_below HC.out).trans H9.out.2.1.two), HV.out.2.2.2.1.trans ((HC.out.mono HV.out.2.1.size.1).trans H9.out.2.2)⟩
  · rw [if_neg h0] at hR
    subst hR
    clear hw hk hb hbo
    go_wp2
    go_ret
    exact ⟨_, rfl, HV.out.1, HV.out.2.1, HV.out.2.2.1, HV.out.2.2.2.1⟩
end Go.Proofs.YtmkcbkdbdcnoiaaGreatDoor
namespace Go.Proofs.YtmkcbkdbdcnoiaaGreatDoor
open Go.RowKit
set_option linter.unusedVariables false
set_option linter.unusedSimpArgs false

/-- A deed under way: the list as it stands, what was kept since the call. -/
structure DS (B pl pw : Nat) (l : List Par) (c : Cmd) (a : Ans) (w W : World) : Prop where
  wk : Wk B pl pw l c a W
  kp : Kept2 pl pw w W
  bl : Below B w W
  base : B ≤ w.heap.size
theorem Kept2.refl (pl pw : Nat) (W : World) : Kept2 pl pw W W := (Kept.refl pl W).two
theorem DS.start {B pl pw : Nat} {l : List Par} {c : Cmd} {a : Ans} {w : World} (h : Wk B pl pw l c a w) : DS B pl pw l c a w w := ⟨h, Kept2.refl _ _ _, Below.refl _ _, h.size.1⟩
theorem DS.read {B pl pw : Nat} {l : List Par} {c : Cmd} {a : Ans} {w V V' : World} (h : DS B pl pw l c a w V) (hb : Below V.heap.size V V') : DS B pl pw l c a w V' :=
  ⟨h.wk.below hb, h.kp.trans (Kept2.of_below hb), h.bl.trans (hb.mono h.wk.size.1), h.base⟩
theorem DS.drew {B pl pw : Nat} {l : List Par} {c : Cmd} {a : Ans} {w V : World} (h : DS B pl pw l c a w V) : DS B pl pw l c a w V.drew := h.read (Below.drew (Below.refl _ V))
theorem DS.alloc {B pl pw : Nat} {l : List Par} {c : Cmd} {a : Ans} {w V : World} (h : DS B pl pw l c a w V) (o : Obj) : DS B pl pw l c a w (V.alloc o) := h.read ((Below.refl _ V).alloc (Nat.le_refl _) _)
theorem DS.write {B pl pw : Nat} {l l' : List Par} {c : Cmd} {a : Ans} {w V V' : World} (h : DS B pl pw l c a w V) (hp : WP B pl pw l' c a V V') : DS B pl pw l' c a w V' :=
  ⟨hp.1, h.kp.trans hp.2.1.two, h.bl.trans hp.2.2, h.base⟩
theorem DS.glob {B pl pw : Nat} {l : List Par} {c : Cmd} {a : Ans} {w V : World} (h : DS B pl pw l c a w V) : Glob V := h.wk.glob
theorem DS.cell {B pl pw : Nat} {l : List Par} {c : Cmd} {a : Ans} {w V : World} (h : DS B pl pw l c a w V) (j : Nat) : V.cell? ⟨pw, j, none⟩ = (wc pl c a)[j]? := h.wk.cell j
/-- A deed that is done. -/
theorem DS.done {B pl pw : Nat} {l : List Par} {c : Cmd} {a : Ans} {w V V' : World} {x : Int} {v : Value} (h : DS B pl pw l c a w V) (hb : Below V.heap.size V V') (hr : Ref V.heap.size x v V') : DP B pl pw c (l, a, x) w (.returned v) V' :=
  ⟨v, rfl, hr.mono h.kp.size, (h.read hb).wk, (h.read hb).kp, (h.read hb).bl⟩
theorem DS.nil {B pl pw : Nat} {l : List Par} {c : Cmd} {a : Ans} {w V : World} (h : DS B pl pw l c a w V) : DP B pl pw c (l, a, 0) w (.returned .nilIface) V :=
  ⟨_, rfl, .inl ⟨rfl, rfl⟩, h.wk, h.kp, h.bl⟩
/-- A row of another kind lies as it did. -/
theorem own_kept {W W' : World} {pl B n : Nat} {t : TypeId} {v : Value} {xs : List Value} (h : W.ownsRow B t 2 v n xs) (k : Kept pl W W') (ht : t ≠ 44) (ht2 : t ≠ 48) {v0 : Value} (hp : W.heap[pl]? = some (.cells #[v0] 48 (0, 0))) : W'.ownsRow B t 2 v n xs := by
  refine ⟨h.1, h.2.imp id ?_⟩
  rintro ⟨g, cap, cur, rfl, hb, hh, r⟩
  refine ⟨g, cap, cur, rfl, hb, k.keep g _ hh ?_ (by simpa [is44] using ht), r⟩
  rintro rfl
  rw [hp] at hh
  simp only [Option.some.injEq, Obj.cells.injEq] at hh
  exact ht2 hh.2.1.symm
theorem own_write {W W' : World} {B' B pl pw n : Nat} {l l' : List Par} {c : Cmd} {a : Ans} {v : Value} {xs : List Value} (h : W.ownsRow B' 62 2 v n xs) (hw : Wk B pl pw l c a W) (hp : WP B pl pw l' c a W W') : W'.ownsRow B' 62 2 v n xs := by
  obtain ⟨v0, h0, _⟩ := hw.lst
  exact own_kept h hp.2.1 (by decide) (by decide) h0
theorem own_read {W W' : World} {B n : Nat} {t : TypeId} {v : Value} {xs : List Value} (h : W.ownsRow B t 2 v n xs) (hb : Below W.heap.size W W') : W'.ownsRow B t 2 v n xs := by
  refine ⟨h.1, h.2.imp id ?_⟩
  rintro ⟨g, cap, cur, rfl, hB, hh, r⟩
  exact ⟨g, cap, cur, rfl, hB, keep_b hh hb, r⟩

/-- What setGoods makes of a list. -/
def sgF (l : List Par) (x : Int) (g : List Stk) (it : Int) : List Par := if 0 < gCount g it then put l (kKey 2 x it 0).1 (mBytesF [gCount g it]).1 else del l (kKey 2 x it 0).1
theorem sgF_ok {n : Nat} {l : List Par} (hO : Ok n l) (x : Int) (g : List Stk) (it : Int) : Ok (n + 1) (sgF l x g it) := by
  unfold sgF
  split
  · exact hO.put (kKey_len _ _ _ _) (by have := mBytes_len [gCount g it]; simp at this; omega)
  · exact hO.del.mono (by omega)
theorem goF_len (l : List Par) (x : Int) : (goF l x).length ≤ 21 := by unfold goF; rw [List.length_take]; omega
theorem gTake_length (l : List Stk) (s : Stk) : (gTake l s).1.length ≤ l.length + 1 := by
  unfold gTake
  split <;> (try split) <;> (try exact gWith_length _ _) <;> simp
theorem gGive_length (l : List Stk) (s : Stk) : (gGive l s).1.length ≤ l.length + 1 := by
  unfold gGive
  split <;> (try split) <;> (try split) <;> (try exact gWith_length _ _) <;> simp
/-- What setAccount, setNumber make of a list. -/
def saA (l : List Par) (x : Int) (y : Acc) : List Par := put l (kKey 1 x 0 0).1 (aBytesF y).1
def snF (l : List Par) (k : Str) (x : Int) : List Par := put l k (mBytesF [x]).1
theorem saA_ok {n : Nat} {l : List Par} (hO : Ok n l) (x : Int) (y : Acc) : Ok (n + 1) (saA l x y) := hO.put (kKey_len _ _ _ _) (aBytes_len _)
theorem snF_ok {n : Nat} {l : List Par} (hO : Ok n l) {k : Str} (hk : k.length ≤ 100) (x : Int) : Ok (n + 1) (snF l k x) := hO.put hk (by have := mBytes_len [x]; simp at this; omega)
theorem snK_ok {n : Nat} {l : List Par} (hO : Ok n l) (k a i m x : Int) : Ok (n + 1) (snF l (kKey k a i m).1 x) := snF_ok hO (kKey_len _ _ _ _) x
theorem wsetGoods2 (B pl pw n : Nat) (l : List Par) (c : Cmd) (a : Ans) (x it : Int) (g : List Stk) (v : Value) (w : World) (hW : Wk B pl pw l c a w) (hO : Ok n l) (hn : n < 100000) (hx : 0 ≤ x ∧ x < 4294967296) (hi : 0 ≤ it ∧ it < 65536) (hv : Sees w v g.length 2 (stks g)) (hg : g.length ≤ 1000) :
    Calls Tryz.prog 109 #[.pointer (some ⟨pw, 0, none⟩), .int .u32 x, v, .int .u16 it] w fun e w' => e = .returned (.tuple #[]) ∧ WP B pl pw (sgF l x g it) c a w w' := wsetGoods_any B pl pw n l c a x it g v w hW hO hn hx hi hv hg

/-- A deed under way, with blocks and rows of its own at hand. -/
structure DK (B pl pw : Nat) (L : List (Nat × Obj)) (R : List (Value × List Stk)) (l : List Par) (c : Cmd) (a : Ans) (w W : World) : Prop where
  ds : DS B pl pw l c a w W
  at_ : ∀ x ∈ L, W.heap[x.1]? = some x.2
  non : ∀ x ∈ L, is44 x.2 = false ∧ x.1 ≠ pl ∧ x.1 ≠ pw ∧ w.heap.size ≤ x.1
  far : L.Pairwise fun x y => y.1 ≠ x.1
  own : ∀ x ∈ R, W.ownsRow w.heap.size 62 2 x.1 x.2.length (stks x.2)
section
variable {B pl pw : Nat} {L : List (Nat × Obj)} {R : List (Value × List Stk)} {l l' : List Par} {c : Cmd} {a : Ans} {w V V' : World}
theorem DK.start (h : Wk B pl pw l c a w) : DK B pl pw [] [] l c a w w := ⟨DS.start h, by simp, by simp, .nil, by simp⟩
theorem DK.read (h : DK B pl pw L R l c a w V) (hb : Below V.heap.size V V') : DK B pl pw L R l c a w V' :=
  ⟨h.ds.read hb, fun x hx => keep_b (h.at_ x hx) hb, h.non, h.far, fun x hx => own_read (h.own x hx) hb⟩
theorem DK.drew (h : DK B pl pw L R l c a w V) : DK B pl pw L R l c a w V.drew := h.read (Below.drew (Below.refl _ V))
theorem DK.alloc (h : DK B pl pw L R l c a w V) (o : Obj) : DK B pl pw L R l c a w (V.alloc o) := h.read ((Below.refl _ V).alloc (Nat.le_refl _) _)
theorem DK.write (h : DK B pl pw L R l c a w V) (hp : WP B pl pw l' c a V V') : DK B pl pw L R l' c a w V' :=
  ⟨h.ds.write hp, fun x hx => hp.2.1.keep _ _ (h.at_ x hx) (h.non x hx).2.1 (h.non x hx).1, h.non, h.far, fun x hx => own_write (h.own x hx) h.ds.wk hp⟩
theorem DK.wk (h : DK B pl pw L R l c a w V) : Wk B pl pw l c a V := h.ds.wk
theorem DK.glob (h : DK B pl pw L R l c a w V) : Glob V := h.ds.glob
theorem DK.cell (h : DK B pl pw L R l c a w V) (j : Nat) : V.cell? ⟨pw, j, none⟩ = (wc pl c a)[j]? := h.ds.cell j
/-- A row of its own comes in. -/
theorem DK.row (h : DK B pl pw L R l c a w V) (hb : Below V.heap.size V V') {v : Value} {g : List Stk} (hv : V'.ownsRow V.heap.size 62 2 v g.length (stks g)) : DK B pl pw L ((v, g) :: R) l c a w V' := by
  have h2 := h.read hb
  refine ⟨h2.ds, h2.at_, h2.non, h2.far, fun x hx => ?_⟩
  rcases List.mem_cons.1 hx with rfl | hx
  · exact ownsRow_base hv h.ds.kp.size
  · exact h2.own x hx
theorem DK.row2 (h : DK B pl pw L R l c a w V) (hb : Below V.heap.size V V') {v v2 : Value} {g g2 : List Stk} (hv : V'.ownsRow V.heap.size 62 2 v g.length (stks g)) (hv2 : V'.ownsRow V.heap.size 62 2 v2 g2.length (stks g2)) : DK B pl pw L ((v, g) :: (v2, g2) :: R) l c a w V' := by
  have h2 := h.row hb hv2
  refine ⟨h2.ds, h2.at_, h2.non, h2.far, fun x hx => ?_⟩
  rcases List.mem_cons.1 hx with rfl | hx
  · exact ownsRow_base hv h.ds.kp.size
  · exact h2.own x hx
theorem DK.sees (h : DK B pl pw L R l c a w V) {v : Value} {g : List Stk} (hm : (v, g) ∈ R) : Sees V v g.length 2 (stks g) := Sees.of_own (h.own _ hm)
/-- A block of its own comes in. -/
theorem DK.new (h : DK B pl pw L R l c a w V) (cs : Array Value) (t : TypeId) (ht : (t == 44) = false) : DK B pl pw ((V.heap.size, .cells cs t (0, 0)) :: L) R l c a w (V.alloc (.cells cs t)) := by
  have h2 := h.alloc (.cells cs t)
  have hs := h.ds.wk.size
  refine ⟨h2.ds, fun x hx => ?_, fun x hx => ?_, List.pairwise_cons.2 ⟨fun x hx => Nat.ne_of_lt ?_, h.far⟩, h2.own⟩
  · rcases List.mem_cons.1 hx with rfl | hx
    · exact heap_alloc_new V _
    · exact h2.at_ x hx
  · rcases List.mem_cons.1 hx with rfl | hx
    · exact ⟨ht, Nat.ne_of_gt hs.2.1, Nat.ne_of_gt hs.2.2, h.ds.kp.size⟩
    · exact h.non x hx
  · exact (Array.getElem?_eq_some_iff.1 (h.at_ x hx)).1
theorem DK.blk (h : DK B pl pw L R l c a w V) {b : Nat} {cs : Array Value} {t : TypeId} (hm : (b, Obj.cells cs t (0, 0)) ∈ L) : ∀ j, V.cell? ⟨b, j, none⟩ = cs[j]? := blk_cell (h.at_ _ hm)
theorem DK.frz (h : DK B pl pw L R l c a w V) {b : Nat} {cs : Array Value} {t : TypeId} (hm : (b, Obj.cells cs t (0, 0)) ∈ L) : ∀ j, V.frozen? ⟨b, j, none⟩ = false := blk_frozen (h.at_ _ hm)
/-- A block of its own turns. -/
theorem DK.turn {b : Nat} {cs : Array Value} {t : TypeId} (h : DK B pl pw ((b, .cells cs t (0, 0)) :: L) R l c a w V) (ht2 : t ≠ 62) (j : Nat) (u : Value) : DK B pl pw ((b, .cells (cs.setIfInBounds j u) t (0, 0)) :: L) R l c a w (V.setCell ⟨b, j, none⟩ u) := by
  have h0 := h.at_ _ (.head _)
  obtain ⟨n1, n2, n3, n4⟩ := h.non _ (.head _)
  have hB : B ≤ b := Nat.le_trans h.ds.base n4
  have h1 := blk_set h0 j u
  have hk : ∀ k, k ≠ b → (V.setCell ⟨b, j, none⟩ u).heap[k]? = V.heap[k]? := fun k hk => Below.heap_setCell _ _ _ _ hk
  have hs : V.heap.size ≤ (V.setCell ⟨b, j, none⟩ u).heap.size := by simp [World.setCell]
  refine ⟨⟨h.ds.wk.but h0 n1 hB n2 n3 hs fun k _ hne => hk k hne, ?_, h.ds.bl.setCell (p := ⟨b, j, none⟩) hB _, h.ds.base⟩, ?_, ?_, ?_, fun x hx => own_one (h.own x hx) h0 (Ne.symm ht2) j u⟩
  · refine ⟨h.ds.kp.os, h.ds.kp.tape, h.ds.kp.output, Nat.le_trans h.ds.kp.size hs, fun k o e1 e2 e3 e4 => ?_⟩
    have hlt := (Array.getElem?_eq_some_iff.1 e1).1
    rw [hk k (by omega)]
    exact h.ds.kp.keep k o e1 e2 e3 e4
  · intro x hx
    rcases List.mem_cons.1 hx with rfl | hx
    · exact h1
    · have := (List.pairwise_cons.1 h.far).1 x hx
      rw [hk _ this]
      exact h.at_ x (.tail _ hx)
  · intro x hx
    rcases List.mem_cons.1 hx with rfl | hx
    · exact ⟨n1, n2, n3, n4⟩
    · exact h.non x (.tail _ hx)
  · exact List.pairwise_cons.2 ⟨fun x hx => (List.pairwise_cons.1 h.far).1 x hx, (List.pairwise_cons.1 h.far).2⟩
theorem DK.turn2 {b : Nat} {x y : Value} {t : TypeId} (h : DK B pl pw ((b, .cells #[x, y] t (0, 0)) :: L) R l c a w V) (ht : t ≠ 62) (u v : Value) : DK B pl pw ((b, .cells #[u, v] t (0, 0)) :: L) R l c a w ((V.setCell ⟨b, 0, none⟩ u).setCell ⟨b, 1, none⟩ v) := by
  have := (h.turn ht 0 u).turn ht 1 v
  simpa using this
theorem DK.turn40 {b : Nat} {x y z q : Value} {t : TypeId} (h : DK B pl pw ((b, .cells #[x, y, z, q] t (0, 0)) :: L) R l c a w V) (ht : t ≠ 62) (u : Value) : DK B pl pw ((b, .cells #[u, y, z, q] t (0, 0)) :: L) R l c a w (V.setCell ⟨b, 0, none⟩ u) := by
  have := h.turn ht 0 u
  simpa using this
theorem DK.turn4 {b : Nat} {x y z q : Value} {t : TypeId} (h : DK B pl pw ((b, .cells #[x, y, z, q] t (0, 0)) :: L) R l c a w V) (ht : t ≠ 62) (u1 u2 u3 u4 : Value) : DK B pl pw ((b, .cells #[u1, u2, u3, u4] t (0, 0)) :: L) R l c a w ((((V.setCell ⟨b, 0, none⟩ u1).setCell ⟨b, 1, none⟩ u2).setCell ⟨b, 2, none⟩ u3).setCell ⟨b, 3, none⟩ u4) := by
  have := (((h.turn ht 0 u1).turn ht 1 u2).turn ht 2 u3).turn ht 3 u4
  simpa using this
theorem DK.top0 {b : Nat} {x y : Value} {t : TypeId} (h : DK B pl pw ((b, .cells #[x, y] t (0, 0)) :: L) R l c a w V) : V.cell? ⟨b, 0, none⟩ = some x := h.blk (List.Mem.head _) 0
theorem DK.top1 {b : Nat} {x y : Value} {t : TypeId} (h : DK B pl pw ((b, .cells #[x, y] t (0, 0)) :: L) R l c a w V) : V.cell? ⟨b, 1, none⟩ = some y := h.blk (List.Mem.head _) 1
theorem DK.topf {b : Nat} {x y : Value} {t : TypeId} (h : DK B pl pw ((b, .cells #[x, y] t (0, 0)) :: L) R l c a w V) : ∀ j, V.frozen? ⟨b, j, none⟩ = false := h.frz (List.Mem.head _)
theorem DK.tip0 {b : Nat} {x y : Value} {t : TypeId} {q : Nat × Obj} (h : DK B pl pw (q :: (b, .cells #[x, y] t (0, 0)) :: L) R l c a w V) : V.cell? ⟨b, 0, none⟩ = some x := h.blk (List.Mem.tail _ (List.Mem.head _)) 0
theorem DK.tip1 {b : Nat} {x y : Value} {t : TypeId} {q : Nat × Obj} (h : DK B pl pw (q :: (b, .cells #[x, y] t (0, 0)) :: L) R l c a w V) : V.cell? ⟨b, 1, none⟩ = some y := h.blk (List.Mem.tail _ (List.Mem.head _)) 1
theorem DK.tipf {b : Nat} {x y : Value} {t : TypeId} {q : Nat × Obj} (h : DK B pl pw (q :: (b, .cells #[x, y] t (0, 0)) :: L) R l c a w V) : ∀ j, V.frozen? ⟨b, j, none⟩ = false := h.frz (List.Mem.tail _ (List.Mem.head _))
theorem DK.swap {x y : Nat × Obj} (h : DK B pl pw (x :: y :: L) R l c a w V) : DK B pl pw (y :: x :: L) R l c a w V := by
  obtain ⟨h1, h2⟩ := List.pairwise_cons.1 h.far
  obtain ⟨h3, h4⟩ := List.pairwise_cons.1 h2
  refine ⟨h.ds, fun z hz => h.at_ z ?_, fun z hz => h.non z ?_, List.pairwise_cons.2 ⟨fun z hz => ?_, List.pairwise_cons.2 ⟨fun z hz => h1 z (.tail _ hz), h4⟩⟩, h.own⟩
  · simp only [List.mem_cons] at hz ⊢; rcases hz with h | h | h <;> simp [h]
  · simp only [List.mem_cons] at hz ⊢; rcases hz with h | h | h <;> simp [h]
  · rcases List.mem_cons.1 hz with rfl | hz
    · exact (h1 _ (.head _)).symm
    · exact h3 z hz
theorem DK.gt (h : DK B pl pw L R l c a w V) {x : Nat × Obj} (hx : x ∈ L) : x.1 < V.heap.size := (Array.getElem?_eq_some_iff.1 (h.at_ x hx)).1
end
theorem wsetAccount2 (B pl pw n : Nat) (l : List Par) (c : Cmd) (a : Ans) (x : Int) (y : Acc) (w : World) (hW : Wk B pl pw l c a w) (hO : Ok n l) (hn : n < 100000) (hx : 0 ≤ x ∧ x < 4294967296) :
    Calls Tryz.prog 97 #[.pointer (some ⟨pw, 0, none⟩), .int .u32 x, accv y] w fun e w' => e = .returned (.tuple #[]) ∧ WP B pl pw (saA l x y) c a w w' := wsetAccount_any B pl pw n l c a x y w hW hO hn hx
theorem wsetNumber2 (B pl pw n : Nat) (l : List Par) (c : Cmd) (a : Ans) (k : Str) (x : Int) (w : World) (hW : Wk B pl pw l c a w) (hO : Ok n l) (hn : n < 100000) :
    Calls Tryz.prog 102 #[.pointer (some ⟨pw, 0, none⟩), sv k, .int .i64 x] w fun e w' => e = .returned (.tuple #[]) ∧ WP B pl pw (snF l k x) c a w w' := wsetNumber_any B pl pw n l c a k x w hW hO hn
end Go.Proofs.YtmkcbkdbdcnoiaaGreatDoor
namespace Go.Proofs.YtmkcbkdbdcnoiaaGreatDoor
open Go.RowKit
set_option linter.unusedVariables false
set_option linter.unusedSimpArgs false

/-- What minting comes to. -/
def miF (l : List Par) (c : Cmd) : List Par × Int :=
  if (addF (numF l (kKey 6 0 0 0).1) c.n).2 = 0 then
    if (doesF earnsF (acF l c.a).1 c.n).2 = 0 then (snF (saA l c.a (doesF earnsF (acF l c.a).1 c.n).1) (kKey 6 0 0 0).1 (addF (numF l (kKey 6 0 0 0).1) c.n).1, 0) else (l, (doesF earnsF (acF l c.a).1 c.n).2)
  else (l, (addF (numF l (kKey 6 0 0 0).1) c.n).2)

set_option maxHeartbeats 4000000 in
set_option maxRecDepth 100000 in
theorem wmint_any (B pl pw n : Nat) (l : List Par) (c : Cmd) (a : Ans) (w : World) (hW : Wk B pl pw l c a w) (hO : Ok n l) (hn : n < 99999) (hc : CmdOk c) :
    Calls Tryz.prog 47 #[.pointer (some ⟨pw, 0, none⟩)] w fun e w' => DP B pl pw c ((miF l c).1, a, (miF l c).2) w e w' := by
  obtain ⟨R, hR⟩ : ∃ R, miF l c = R := ⟨_, rfl⟩
  rw [hR]
  unfold miF at hR
  have hA := fun V (h : Wk B pl pw l c a V) => waccount_any B pl pw n l c a c.a V h hO (by omega) hc.a
  generalize (acF l c.a).2 = ae at hA
  generalize (acF l c.a).1 = x at hA hR
  have hK := fun V => wcoinsKey_any V
  generalize (kKey 6 0 0 0).1 = k at hK hR
  have hN := fun V (h : Wk B pl pw l c a V) => wnumber_any B pl pw n l c a k V h hO (by omega)
  generalize numF l k = y at hN hR
  have hP := fun V h => add_any y c.n V h
  generalize addF y c.n = t at hP hR
  obtain ⟨t, te⟩ := t
  have hE := fun V h => earn_any x c.n V h
  generalize doesF earnsF x c.n = r at hE hR
  obtain ⟨⟨r1, r2⟩, re⟩ := r
  obtain ⟨x1, x2⟩ := x
  have hS := fun V (h : Wk B pl pw l c a V) => wsetAccount2 B pl pw n l c a c.a (r1, r2) V h hO (by omega) hc.a
  have hO2 := saA_ok hO c.a (r1, r2)
  dsimp only at hR
  generalize saA l c.a (r1, r2) = L1 at hS hO2 hR
  have hT := fun V (h : Wk B pl pw L1 c a V) => wsetNumber2 B pl pw (n + 1) L1 c a k t V h hO2 (by omega)
  generalize snF L1 k t = L2 at hT hR
  unfold sv at hK hN hT
  unfold accv at hA hE hS
  dsimp only at hA hE hS hP
  have KA := Lib.hid hA
  have KK := Lib.hid hK
  have KN := Lib.hid hN
  have KP := Lib.hid hP
  have KE := Lib.hid hE
  have KS := Lib.hid hS
  have KT := Lib.hid hT
  have HR := Lib.hid hR
  have HD := Lib.hid (DK.start hW)
  clear hA hK hN hP hE hS hT hR hO hO2
  have p2 : w.cell? ⟨pw, 2, none⟩ = some (.int .u32 c.a) := HD.out.cell 2
  clear hW
  go_enter Tryz.func47, Tryz.ntmps47
  go_wp2_with fail
  refine (KA.out _ HD.out.wk).mono ?_
  rintro e V1 ⟨rfl, hb⟩
  have HD' := Lib.hid (HD.out.read hb); clear HD hb; have HD := HD'; clear HD'
  obtain ⟨b3, hb3⟩ : ∃ b3, V1.heap.size = b3 := ⟨_, rfl⟩
  obtain ⟨W3, hW3⟩ : ∃ W3, V1.alloc (.cells #[.int .i64 x1, .int .i64 x2] 55) = W3 := ⟨_, rfl⟩
  have HD' : Hid (DK B pl pw [(b3, .cells #[.int .i64 x1, .int .i64 x2] 55 (0, 0))] [] l c a w W3) := Lib.hid (by rw [← hW3, ← hb3]; exact HD.out.new _ 55 rfl)
  clear HD; have HD := HD'; clear HD'
  have p5 : W3.cell? ⟨pw, 5, none⟩ = some (.int .i64 c.n) := HD.out.cell 5
  go_wp2_with fail
  try clear hW3 hb3
  have p5 : W3.cell? ⟨pw, 5, none⟩ = some (.int .i64 c.n) := HD.out.cell 5
  have HD' := Lib.hid (HD.out.drew); clear HD; have HD := HD'; clear HD'
  go_region_held3 (fun W' => W'.cell? ⟨pw, 5, none⟩ = some (.int .i64 c.n))
    (first | with_reducible exact q5 | with_reducible exact p5 | with_reducible exact cell_drew p5)
    (first | (go_at_call 100; (with_reducible refine (KK.out _).mono ?_); rintro e V2 ⟨rfl, hb⟩; have HD' := Lib.hid (HD.out.read hb); clear HD hb; have HD := HD'; clear HD'; have q5 : V2.cell? ⟨pw, 5, none⟩ = some (.int .i64 c.n) := HD.out.cell 5) | (go_at_call 99; (with_reducible refine (KN.out _ HD.out.wk).mono ?_); rintro e V2 ⟨rfl, hb⟩; have HD' := Lib.hid (HD.out.read hb); clear HD hb; have HD := HD'; clear HD'; have q5 : V2.cell? ⟨pw, 5, none⟩ = some (.int .i64 c.n) := HD.out.cell 5) | (go_at_call 98; (with_reducible refine (KP.out _ HD.out.glob).mono ?_); rintro e V2 ⟨rfl, hb⟩; have HD' := Lib.hid (HD.out.read hb); clear HD hb; have HD := HD'; clear HD'; have q5 : V2.cell? ⟨pw, 5, none⟩ = some (.int .i64 c.n) := HD.out.cell 5))
  by_cases hz : te = 0
  · subst hz
    have hR := HR.out
    rw [if_pos rfl] at hR
    clear HR
    have HR := Lib.hid hR
    clear hR
    clear p5 q5
    go_wp2_with fail
    have p5 : V2.cell? ⟨pw, 5, none⟩ = some (.int .i64 c.n) := HD.out.cell 5
    have pb30 : V2.cell? ⟨b3, 0, none⟩ = some (.int .i64 x1) := HD.out.blk (List.Mem.head _) 0
    have pb31 : V2.cell? ⟨b3, 1, none⟩ = some (.int .i64 x2) := HD.out.blk (List.Mem.head _) 1
    obtain ⟨b7, hb7⟩ : ∃ b7, V2.heap.size = b7 := ⟨_, rfl⟩
    have HE : Hid (DK B pl pw [(b7, .cells #[.int .i64 0, .int .i64 0] 55 (0, 0)), (b3, .cells #[.int .i64 x1, .int .i64 x2] 55 (0, 0))] [] l c a w ((V2.alloc (.cells #[.int .i64 0, .int .i64 0] 55)).drew)) := Lib.hid (by rw [← hb7]; exact (HD.out.new _ 55 rfl).drew)
    have hn_pw : pw ≠ b7 := Ne.symm (HE.out.non _ (List.Mem.head _)).2.2.1
    have hn_b3 : b3 ≠ b7 := (show b3 ≠ b7 from (List.pairwise_cons.1 HE.out.far).1 _ (List.Mem.head _))
    have HD' := Lib.hid (HD.out.drew); clear HD; have HD := HD'; clear HD'
    go_region_held3 (fun W' => W'.cell? ⟨pw, 5, none⟩ = some (.int .i64 c.n) ∧ W'.cell? ⟨b3, 0, none⟩ = some (.int .i64 x1) ∧ W'.cell? ⟨b3, 1, none⟩ = some (.int .i64 x2))
      (first | with_reducible exact ⟨q5, qb30, qb31⟩ | with_reducible exact ⟨cell_alloc q5 _, cell_alloc qb30 _, cell_alloc qb31 _⟩ | with_reducible exact ⟨cell_drew (cell_alloc q5 _), cell_drew (cell_alloc qb30 _), cell_drew (cell_alloc qb31 _)⟩ | with_reducible exact ⟨(cell_far (cell_far q5 hn_pw _) hn_pw _), (cell_far (cell_far qb30 hn_b3 _) hn_b3 _), (cell_far (cell_far qb31 hn_b3 _) hn_b3 _)⟩ | with_reducible exact ⟨(cell_far (cell_far q5 hm_pw _) hm_pw _), (cell_far (cell_far qb30 hm_b3 _) hm_b3 _), (cell_far (cell_far qb31 hm_b3 _) hm_b3 _)⟩ | with_reducible exact ⟨p5, pb30, pb31⟩ | with_reducible exact ⟨cell_drew p5, cell_drew pb30, cell_drew pb31⟩ | with_reducible exact ⟨cell_alloc p5 _, cell_alloc pb30 _, cell_alloc pb31 _⟩ | with_reducible exact ⟨cell_drew (cell_alloc p5 _), cell_drew (cell_alloc pb30 _), cell_drew (cell_alloc pb31 _)⟩)
      (first | (go_at_call 101; (with_reducible refine (KE.out _ HD.out.glob).mono ?_); rintro e V3 ⟨rfl, hb⟩; have HD' := Lib.hid (HD.out.read hb); clear HD hb; have HD := HD'; clear HD'; have q5 : V3.cell? ⟨pw, 5, none⟩ = some (.int .i64 c.n) := HD.out.cell 5; have qb30 : V3.cell? ⟨b3, 0, none⟩ = some (.int .i64 x1) := HD.out.blk (List.Mem.head _) 0; have qb31 : V3.cell? ⟨b3, 1, none⟩ = some (.int .i64 x2) := HD.out.blk (List.Mem.head _) 1) | (go_at_call 101; (with_reducible refine (KE.out _ HE.out.glob).mono ?_); rintro e V3 ⟨rfl, hb⟩; have HD' := Lib.hid (HE.out.read hb); clear HD HE hb; have HD := HD'; clear HD'; have q5 : V3.cell? ⟨pw, 5, none⟩ = some (.int .i64 c.n) := HD.out.cell 5; have qb30 : V3.cell? ⟨b3, 0, none⟩ = some (.int .i64 x1) := HD.out.blk (List.Mem.tail _ (List.Mem.head _)) 0; have qb31 : V3.cell? ⟨b3, 1, none⟩ = some (.int .i64 x2) := HD.out.blk (List.Mem.tail _ (List.Mem.head _)) 1; have s0 := HD.out.top0; have s1 := HD.out.top1; have sf := HD.out.topf))
    all_goals (first
      | (obtain ⟨bq, hbq⟩ : ∃ bq, V3.heap.size = bq := ⟨_, rfl⟩; obtain ⟨W5, hW5⟩ : ∃ W5, V3.alloc (.cells #[.int .i64 r1, .int .i64 r2] 55) = W5 := ⟨_, rfl⟩; have HD' : Hid (DK B pl pw [(bq, .cells #[.int .i64 r1, .int .i64 r2] 55 (0, 0)), (b3, .cells #[.int .i64 x1, .int .i64 x2] 55 (0, 0))] [] l c a w W5) := Lib.hid (by rw [← hW5, ← hbq]; exact HD.out.new _ 55 rfl); rw [hW5, hbq])
      | (obtain ⟨bq, hbq⟩ : ∃ bq, b7 = bq := ⟨_, rfl⟩; obtain ⟨W5, hW5⟩ : ∃ W5, ((V3.setCell ⟨b7, 0, none⟩ (.int .i64 r1)).setCell ⟨b7, 1, none⟩ (.int .i64 r2)) = W5 := ⟨_, rfl⟩; have HD' : Hid (DK B pl pw [(bq, .cells #[.int .i64 r1, .int .i64 r2] 55 (0, 0)), (b3, .cells #[.int .i64 x1, .int .i64 x2] 55 (0, 0))] [] l c a w W5) := Lib.hid (by rw [← hW5, ← hbq]; exact HD.out.turn2 (by decide) _ _); rw [hW5, hbq]))
    all_goals
      clear HD; have HD := HD'; clear HD'
      try clear HE
      try clear sf
      try clear s0 s1
      clear hW5 hbq
      try clear p5 pb30 pb31
      try clear q5 qb30 qb31
      try clear hn_pw hn_b3
      try clear hm_pw hm_b3
      try clear hb7
      by_cases hz : re = 0
      · subst hz
        have hR := HR.out
        rw [if_pos rfl] at hR
        clear HR
        have HR := Lib.hid hR
        clear hR
        go_wp2_with fail
        have p2 : W5.cell? ⟨pw, 2, none⟩ = some (.int .u32 c.a) := HD.out.cell 2
        have pbq0 : W5.cell? ⟨bq, 0, none⟩ = some (.int .i64 r1) := HD.out.blk (List.Mem.head _) 0
        have pbq1 : W5.cell? ⟨bq, 1, none⟩ = some (.int .i64 r2) := HD.out.blk (List.Mem.head _) 1
        have HD' := Lib.hid (HD.out.drew); clear HD; have HD := HD'; clear HD'
        go_region_held3 (fun W' => W'.cell? ⟨pw, 2, none⟩ = some (.int .u32 c.a) ∧ W'.cell? ⟨bq, 0, none⟩ = some (.int .i64 r1) ∧ W'.cell? ⟨bq, 1, none⟩ = some (.int .i64 r2))
          (first | with_reducible exact ⟨q2, qbq0, qbq1⟩ | with_reducible exact ⟨p2, pbq0, pbq1⟩ | with_reducible exact ⟨cell_drew p2, cell_drew pbq0, cell_drew pbq1⟩)
          (first | (go_at_call 97; (with_reducible refine (KS.out _ HD.out.wk).mono ?_); rintro e V4 ⟨rfl, hb⟩; have HD' := Lib.hid (HD.out.write hb); clear HD hb; have HD := HD'; clear HD'; have q2 : V4.cell? ⟨pw, 2, none⟩ = some (.int .u32 c.a) := HD.out.cell 2; have qbq0 : V4.cell? ⟨bq, 0, none⟩ = some (.int .i64 r1) := HD.out.blk (List.Mem.head _) 0; have qbq1 : V4.cell? ⟨bq, 1, none⟩ = some (.int .i64 r2) := HD.out.blk (List.Mem.head _) 1))
        try clear p2 pbq0 pbq1
        try clear q2 qbq0 qbq1
        go_wp2_with fail
        refine (KK.out _).mono ?_
        rintro e V5 ⟨rfl, hb⟩
        have HD' := Lib.hid (HD.out.read hb); clear HD hb; have HD := HD'; clear HD'
        go_wp2_with fail
        refine (KT.out _ HD.out.wk).mono ?_
        rintro e V6 ⟨rfl, hb⟩
        have HD' := Lib.hid (HD.out.write hb); clear HD hb; have HD := HD'; clear HD'
        have HO := Lib.hid (wof_new 0 V6)
        go_wp2_with fail
        refine HO.out.mono ?_
        rintro e V9 ⟨v9, rfl, hv9, hb9⟩
        have HV := Lib.hid (HD.out.ds.done hb9 hv9)
        clear hv9 hb9
        go_wp2
        go_ret
        have hE := HR.out
        subst hE
        exact HV.out
      · have hz' : (re == 0) = false := by simpa using hz
        have hz2 : (re != 0) = true := by simpa using hz
        have hR := HR.out
        rw [if_neg hz] at hR
        clear HR
        have HR := Lib.hid hR
        clear hR
        have HO := Lib.hid (wof_new re W5)
        go_wp2_with fail
        refine HO.out.mono ?_
        rintro e V9 ⟨v9, rfl, hv9, hb9⟩
        have HV := Lib.hid (HD.out.ds.done hb9 hv9)
        clear hv9 hb9
        go_wp2
        go_ret
        have hE := HR.out
        subst hE
        exact HV.out
  · have hz' : (te == 0) = false := by simpa using hz
    have hz2 : (te != 0) = true := by simpa using hz
    have hR := HR.out
    rw [if_neg hz] at hR
    clear HR
    have HR := Lib.hid hR
    clear hR
    have HO := Lib.hid (wof_new te V2)
    go_wp2_with fail
    refine HO.out.mono ?_
    rintro e V9 ⟨v9, rfl, hv9, hb9⟩
    have HV := Lib.hid (HD.out.ds.done hb9 hv9)
    clear hv9 hb9
    go_wp2
    go_ret
    have hE := HR.out
    subst hE
    exact HV.out
end Go.Proofs.YtmkcbkdbdcnoiaaGreatDoor
