/- Package world: changes. Package world: open. Package world: other. Package world: post. -/
import Derived.Deep.RegionHeld3
import Derived.BigQuiet
import Derived.Test.YtmkcbkdbdcnoiaaGreatDoorG15
namespace Go.Proofs.YtmkcbkdbdcnoiaaGreatDoor
open Go.RowKit
set_option linter.unusedVariables false
set_option linter.unusedSimpArgs false

/-- All but the list's and the work's variables, and blocks of pairs, lies as it did. -/
structure Kept2 (pl pw : Nat) (W W' : World) : Prop where
  os : W'.os = W.os
  tape : W'.tape = W.tape
  output : W'.output = W.output
  size : W.heap.size ≤ W'.heap.size
  keep : ∀ k o, W.heap[k]? = some o → k ≠ pl → k ≠ pw → is44 o = false → W'.heap[k]? = some o
theorem Kept.two {pl pw : Nat} {W W' : World} (h : Kept pl W W') : Kept2 pl pw W W' := ⟨h.os, h.tape, h.output, h.size, fun k o h1 h2 _ h3 => h.keep k o h1 h2 h3⟩
theorem Kept2.trans {pl pw : Nat} {A B C : World} (h : Kept2 pl pw A B) (k : Kept2 pl pw B C) : Kept2 pl pw A C :=
  ⟨k.os.trans h.os, k.tape.trans h.tape, k.output.trans h.output, Nat.le_trans h.size k.size, fun j o h1 h2 h2' h3 => k.keep j o (h.keep j o h1 h2 h2' h3) h2 h2' h3⟩
/-- What a deed leaves: a list, an answer, a refusal. -/
def DP (B pl pw : Nat) (c : Cmd) (r : List Par × Ans × Int) (w : World) (en : Ending) (w' : World) : Prop :=
  ∃ v, en = .returned v ∧ Ref w.heap.size r.2.2 v w' ∧ Wk B pl pw r.1 c r.2.1 w' ∧ Kept2 pl pw w w' ∧ Below B w w'
/-- A command's numbers are those of its fields. -/
structure CmdOk (c : Cmd) : Prop where
  a : 0 ≤ c.a ∧ c.a < 4294967296
  b : 0 ≤ c.b ∧ c.b < 4294967296
  item : 0 ≤ c.item ∧ c.item < 65536
theorem hs_cell {w W : World} {L : List (Nat × Obj)} (h : Hs w L W) {b : Nat} {cs : Array Value} {t : TypeId} (hm : (b, Obj.cells cs t (0, 0)) ∈ L) : ∀ j, W.cell? ⟨b, j, none⟩ = cs[j]? := blk_cell (h.at b _ hm)
/-- What an account's change comes to. -/
def chF (F : Acc → Int → Acc × Int) (l : List Par) (c : Cmd) : List Par × Int :=
  if (F (acF l c.a).1 c.n).2 = 0 then (put l (kKey 1 c.a 0 0).1 (aBytesF (F (acF l c.a).1 c.n).1).1, 0) else (l, (F (acF l c.a).1 c.n).2)

set_option maxHeartbeats 2000000 in
set_option maxRecDepth 100000 in
theorem wchanges_104 (B pl pw n : Nat) (l : List Par) (c : Cmd) (a : Ans) (w : World) (hW : Wk B pl pw l c a w) (hO : Ok n l) (hn : n < 100000) (hc : CmdOk c) :
    Calls Tryz.prog 103 #[.pointer (some ⟨pw, 0, none⟩), .func (.func 104) #[] #[]] w fun e w' => DP B pl pw c ((chF (doesF spendsF) l c).1, a, (chF (doesF spendsF) l c).2) w e w' := by
  have hA := waccount_any B pl pw n l c a c.a w hW hO (by omega) hc.a
  obtain ⟨R, hR⟩ : ∃ R, chF (doesF spendsF) l c = R := ⟨_, rfl⟩
  rw [hR]
  unfold chF at hR
  generalize (acF l c.a).2 = ae at hA
  generalize (acF l c.a).1 = x at hA hR
  have hF := fun V h => spend_any x c.n V h
  have hS := fun V (h : Wk B pl pw l c a V) y => wsetAccount_any B pl pw n l c a c.a y V h hO hn hc.a
  generalize doesF spendsF x c.n = F at hF hR
  obtain ⟨y, ye⟩ := F
  have hS := fun V h => hS V h y
  dsimp only at hF hR
  obtain ⟨L, hL⟩ : ∃ L, put l (kKey 1 c.a 0 0).1 (aBytesF y).1 = L := ⟨_, rfl⟩
  rw [hL] at hR
  simp only [hL] at hS
  obtain ⟨x1, x2⟩ := x
  obtain ⟨y1, y2⟩ := y
  have hcell : ∀ j, w.cell? ⟨pw, j, none⟩ = (wc pl c a)[j]? := hW.cell
  unfold wc at hcell
  unfold accv at hA hF hS
  dsimp only at hA hF hS
  have HK := Lib.hid (And.intro hA (And.intro hF (And.intro hS (And.intro hW hR))))
  clear hA hF hS hW hR hO hL
  go_enter Tryz.func103, Tryz.ntmps103
  go_wp2_with fail
  refine HK.out.1.mono ?_
  rintro e W2 ⟨rfl, hb⟩
  obtain ⟨b5, hb5⟩ : ∃ b5, W2.heap.size = b5 := ⟨_, rfl⟩
  obtain ⟨W3, hW3⟩ : ∃ W3, W2.alloc (.cells #[.int .i64 x1, .int .i64 x2] 55) = W3 := ⟨_, rfl⟩
  have H3 : Hid (Below w.heap.size w W3 ∧ W3.heap[b5]? = some (.cells #[.int .i64 x1, .int .i64 x2] 55 (0, 0)) ∧ w.heap.size ≤ b5) := Lib.hid (by
    rw [← hW3, ← hb5]
    exact ⟨hb.alloc hb.size _, heap_alloc_new W2 _, hb.size⟩)
  have hW3' := HK.out.2.2.2.1.below H3.out.1
  have p4 : W3.cell? ⟨pw, 5, none⟩ = some (.int .i64 c.n) := hW3'.cell 5
  have p5 : W3.cell? ⟨b5, 0, none⟩ = some (.int .i64 x1) := blk_cell H3.out.2.1 0
  have p6 : W3.cell? ⟨b5, 1, none⟩ = some (.int .i64 x2) := blk_cell H3.out.2.1 1
  have HW3 := Lib.hid hW3'
  have HWd := Lib.hid (hW3'.below (Below.drew (Below.refl _ W3)))
  obtain ⟨b7, hb7⟩ : ∃ b7, W3.heap.size = b7 := ⟨_, rfl⟩
  have hbe : Below W3.heap.size W3 ((W3.alloc (.cells #[.int .i64 0, .int .i64 0] 55)).drew) := ((Below.refl _ W3).alloc (Nat.le_refl _) _).drew
  have HWe := Lib.hid (And.intro (hW3'.below hbe) (And.intro hbe (show ((W3.alloc (.cells #[.int .i64 0, .int .i64 0] 55)).drew).heap[b7]? = some (.cells #[.int .i64 0, .int .i64 0] 55 (0, 0)) from by rw [← hb7]; exact blk_drew (heap_alloc_new W3 _))))
  have hn1 : pw ≠ b7 := by have := hW3'.size.2.2; omega
  have hn2 : b5 ≠ b7 := by have := (Array.getElem?_eq_some_iff.1 H3.out.2.1).1; omega
  clear hb hcell hW3' hbe
  go_wp2_with fail
  try simp only [hW3]
  clear hW3 hb5
  go_region_held3 (fun W' => W'.cell? ⟨pw, 5, none⟩ = some (.int .i64 c.n) ∧ W'.cell? ⟨b5, 0, none⟩ = some (.int .i64 x1) ∧ W'.cell? ⟨b5, 1, none⟩ = some (.int .i64 x2))
    (first | with_reducible exact ⟨q4, q5, q6⟩ | with_reducible exact ⟨cell_alloc q4 _, cell_alloc q5 _, cell_alloc q6 _⟩ | with_reducible exact ⟨cell_drew (cell_alloc q4 _), cell_drew (cell_alloc q5 _), cell_drew (cell_alloc q6 _)⟩ | with_reducible exact ⟨cell_far (cell_far q4 hn1 _) hn1 _, cell_far (cell_far q5 hn2 _) hn2 _, cell_far (cell_far q6 hn2 _) hn2 _⟩ | with_reducible exact ⟨p4, p5, p6⟩ | with_reducible exact ⟨cell_drew p4, cell_drew p5, cell_drew p6⟩ | with_reducible exact ⟨cell_alloc p4 _, cell_alloc p5 _, cell_alloc p6 _⟩ | with_reducible exact ⟨cell_drew (cell_alloc p4 _), cell_drew (cell_alloc p5 _), cell_drew (cell_alloc p6 _)⟩)
    (first | (go_at_call 104; (with_reducible refine (HK.out.2.1 _ (HWd.out.glob)).mono ?_); rintro e W4 ⟨rfl, hb4⟩; have hb5 := (Below.drew (Below.refl _ W3)).trans hb4; have q4 := cell_keep p4 hb5; have q5 := cell_keep p5 hb5; have q6 := cell_keep p6 hb5; have H4 := Lib.hid hb5; clear hb4 hb5) | (go_at_call 104; (with_reducible refine (HK.out.2.1 _ (HWe.out.1.glob)).mono ?_); rintro e W4 ⟨rfl, hb4⟩; have hb5 := Below.trans HWe.out.2.1 (Below.mono hb4 HWe.out.2.1.size); have q4 := cell_keep p4 hb5; have q5 := cell_keep p5 hb5; have q6 := cell_keep p6 hb5; have z7 := keep_b HWe.out.2.2 hb4; have s0 : W4.cell? ⟨b7, 0, none⟩ = some (.int .i64 0) := blk_cell z7 0; have s1 : W4.cell? ⟨b7, 1, none⟩ = some (.int .i64 0) := blk_cell z7 1; have sf : ∀ j, W4.frozen? ⟨b7, j, none⟩ = false := blk_frozen z7; have H7 := Lib.hid z7; have H4 := Lib.hid hb5; clear hb4 hb5 z7))
  · obtain ⟨bq, hbq⟩ : ∃ bq, W4.heap.size = bq := ⟨_, rfl⟩
    obtain ⟨W5, hW5⟩ : ∃ W5, W4.alloc (.cells #[.int .i64 y1, .int .i64 y2] 55) = W5 := ⟨_, rfl⟩
    have H5 : Hid (Below w.heap.size w W5 ∧ W5.heap[bq]? = some (.cells #[.int .i64 y1, .int .i64 y2] 55 (0, 0)) ∧ Wk B pl pw l c a W5 ∧ Wk B pl pw l c a W5.drew ∧ bq ≠ pl) := Lib.hid (by
      have hb : Below W3.heap.size W3 W5 := by rw [← hW5]; exact (show Below W3.heap.size W3 W4 from H4.out).alloc (show Below W3.heap.size W3 W4 from H4.out).size _
      have hk := HW3.out.below hb
      refine ⟨H3.out.1.trans (hb.mono H3.out.1.size), by rw [← hW5, ← hbq]; exact heap_alloc_new W4 _, hk, hk.below (Below.drew (Below.refl _ W5)), ?_⟩
      have := HW3.out.size.2.1
      have := (show Below W3.heap.size W3 W4 from H4.out).size
      omega)
    rw [hW5, hbq]
    clear hW5 hbq p4 p5 p6 q4 q5 q6
    have r2 : W5.cell? ⟨pw, 2, none⟩ = some (.int .u32 c.a) := H5.out.2.2.1.cell 2
    have r3 : W5.cell? ⟨bq, 0, none⟩ = some (.int .i64 y1) := blk_cell H5.out.2.1 0
    have r4 : W5.cell? ⟨bq, 1, none⟩ = some (.int .i64 y2) := blk_cell H5.out.2.1 1
    have hR := HK.out.2.2.2.2
    by_cases hy : ye = 0
    · subst hy
      rw [if_pos rfl] at hR
      have HR := Lib.hid hR
      clear hR
      go_wp2_with fail
      go_region_held3 (fun W' => W'.cell? ⟨pw, 2, none⟩ = some (.int .u32 c.a) ∧ W'.cell? ⟨bq, 0, none⟩ = some (.int .i64 y1) ∧ W'.cell? ⟨bq, 1, none⟩ = some (.int .i64 y2))
        (first | with_reducible exact ⟨t2, t3, t4⟩ | with_reducible exact ⟨cell_drew t2, cell_drew t3, cell_drew t4⟩ | with_reducible exact ⟨r2, r3, r4⟩ | with_reducible exact ⟨cell_drew r2, cell_drew r3, cell_drew r4⟩)
        ((go_at_call 97; (with_reducible refine (HK.out.2.2.1 _ H5.out.2.2.2.1).mono ?_); rintro e W6 ⟨rfl, h6⟩; have t2 : W6.cell? ⟨pw, 2, none⟩ = some (.int .u32 c.a) := h6.1.cell 2; have z6 := h6.2.1.keep _ _ (blk_drew H5.out.2.1) H5.out.2.2.2.2 rfl; have t3 : W6.cell? ⟨bq, 0, none⟩ = some (.int .i64 y1) := blk_cell z6 0; have t4 : W6.cell? ⟨bq, 1, none⟩ = some (.int .i64 y2) := blk_cell z6 1; have H6 := Lib.hid h6; clear h6 z6))
      have hO := wof_new 0 W6
      have HO := Lib.hid hO
      clear hO r2 r3 r4
      go_wp2_with fail
      refine HO.out.mono ?_
      rintro e W7 ⟨v, rfl, hv, hb⟩
      have hsz : w.heap.size ≤ W6.heap.size := Nat.le_trans H5.out.1.size H6.out.2.1.size
      have HV := Lib.hid (And.intro (hv.mono hsz) hb)
      clear hv hb
      go_wp2
      go_ret
      have hE := HR.out
      subst hE
      have hB := HK.out.2.2.2.1.size.1
      exact ⟨_, rfl, HV.out.1, H6.out.1.below HV.out.2, ((Kept.of_below H5.out.1).trans ((Kept.of_below (Below.drew (Below.refl _ W5))).trans (H6.out.2.1.trans (Kept.of_below HV.out.2)))).two, (H5.out.1.mono hB).trans ((Below.drew (Below.refl B W5)).trans (H6.out.2.2.trans (HV.out.2.mono (by have := H5.out.1.size; omega))))⟩
    · have hy' : (ye == 0) = false := by simpa using hy
      rw [if_neg hy] at hR
      have HR := Lib.hid hR
      have HO := Lib.hid (wof_new ye W5)
      clear hR
      go_wp2_with fail
      refine HO.out.mono ?_
      rintro e W7 ⟨v, rfl, hv, hb⟩
      have HV := Lib.hid (And.intro (hv.mono H5.out.1.size) hb)
      clear hv hb
      go_wp2
      go_ret
      have hE := HR.out
      subst hE
      have hB := HK.out.2.2.2.1.size.1
      exact ⟨_, rfl, HV.out.1, H5.out.2.2.1.below HV.out.2, ((Kept.of_below H5.out.1).trans (Kept.of_below HV.out.2)).two, (H5.out.1.mono hB).trans (HV.out.2.mono (by have := H5.out.1.size; omega))⟩
  · obtain ⟨bq, hbq⟩ : ∃ bq, b7 = bq := ⟨_, rfl⟩
    obtain ⟨W5, hW5⟩ : ∃ W5, (W4.setCell ⟨b7, 0, none⟩ (.int .i64 y1)).setCell ⟨b7, 1, none⟩ (.int .i64 y2) = W5 := ⟨_, rfl⟩
    have H5 : Hid (Below w.heap.size w W5 ∧ W5.heap[bq]? = some (.cells #[.int .i64 y1, .int .i64 y2] 55 (0, 0)) ∧ Wk B pl pw l c a W5 ∧ Wk B pl pw l c a W5.drew ∧ bq ≠ pl) := Lib.hid (by
      have h4 : Below W3.heap.size W3 W4 := H4.out
      have hs3 := HW3.out.size
      have hb : Below W3.heap.size W3 W5 := by rw [← hW5]; exact (h4.setCell (p := ⟨b7, 0, none⟩) (by show W3.heap.size ≤ b7; omega) _).setCell (p := ⟨b7, 1, none⟩) (by show W3.heap.size ≤ b7; omega) _
      have hk := HW3.out.below hb
      refine ⟨H3.out.1.trans (hb.mono H3.out.1.size), by rw [← hW5, ← hbq]; exact two_set H7.out _ _, hk, hk.below (Below.drew (Below.refl _ W5)), ?_⟩
      omega)
    rw [hW5, hbq]
    clear hW5 hbq p4 p5 p6 q4 q5 q6 s0 s1 sf
    have r2 : W5.cell? ⟨pw, 2, none⟩ = some (.int .u32 c.a) := H5.out.2.2.1.cell 2
    have r3 : W5.cell? ⟨bq, 0, none⟩ = some (.int .i64 y1) := blk_cell H5.out.2.1 0
    have r4 : W5.cell? ⟨bq, 1, none⟩ = some (.int .i64 y2) := blk_cell H5.out.2.1 1
    have hR := HK.out.2.2.2.2
    by_cases hy : ye = 0
    · subst hy
      rw [if_pos rfl] at hR
      have HR := Lib.hid hR
      clear hR
      go_wp2_with fail
      go_region_held3 (fun W' => W'.cell? ⟨pw, 2, none⟩ = some (.int .u32 c.a) ∧ W'.cell? ⟨bq, 0, none⟩ = some (.int .i64 y1) ∧ W'.cell? ⟨bq, 1, none⟩ = some (.int .i64 y2))
        (first | with_reducible exact ⟨t2, t3, t4⟩ | with_reducible exact ⟨cell_drew t2, cell_drew t3, cell_drew t4⟩ | with_reducible exact ⟨r2, r3, r4⟩ | with_reducible exact ⟨cell_drew r2, cell_drew r3, cell_drew r4⟩)
        ((go_at_call 97; (with_reducible refine (HK.out.2.2.1 _ H5.out.2.2.2.1).mono ?_); rintro e W6 ⟨rfl, h6⟩; have t2 : W6.cell? ⟨pw, 2, none⟩ = some (.int .u32 c.a) := h6.1.cell 2; have z6 := h6.2.1.keep _ _ (blk_drew H5.out.2.1) H5.out.2.2.2.2 rfl; have t3 : W6.cell? ⟨bq, 0, none⟩ = some (.int .i64 y1) := blk_cell z6 0; have t4 : W6.cell? ⟨bq, 1, none⟩ = some (.int .i64 y2) := blk_cell z6 1; have H6 := Lib.hid h6; clear h6 z6))
      have hO := wof_new 0 W6
      have HO := Lib.hid hO
      clear hO r2 r3 r4
      go_wp2_with fail
      refine HO.out.mono ?_
      rintro e W7 ⟨v, rfl, hv, hb⟩
      have hsz : w.heap.size ≤ W6.heap.size := Nat.le_trans H5.out.1.size H6.out.2.1.size
      have HV := Lib.hid (And.intro (hv.mono hsz) hb)
      clear hv hb
      go_wp2
      go_ret
      have hE := HR.out
      subst hE
      have hB := HK.out.2.2.2.1.size.1
      exact ⟨_, rfl, HV.out.1, H6.out.1.below HV.out.2, ((Kept.of_below H5.out.1).trans ((Kept.of_below (Below.drew (Below.refl _ W5))).trans (H6.out.2.1.trans (Kept.of_below HV.out.2)))).two, (H5.out.1.mono hB).trans ((Below.drew (Below.refl B W5)).trans (H6.out.2.2.trans (HV.out.2.mono (by have := H5.out.1.size; omega))))⟩
    · have hy' : (ye == 0) = false := by simpa using hy
      rw [if_neg hy] at hR
      have HR := Lib.hid hR
      have HO := Lib.hid (wof_new ye W5)
      clear hR
      go_wp2_with fail
      refine HO.out.mono ?_
      rintro e W7 ⟨v, rfl, hv, hb⟩
      have HV := Lib.hid (And.intro (hv.mono H5.out.1.size) hb)
      clear hv hb
      go_wp2
      go_ret
      have hE := HR.out
      subst hE
      have hB := HK.out.2.2.2.1.size.1
      exact ⟨_, rfl, HV.out.1, H5.out.2.2.1.below HV.out.2, ((Kept.of_below H5.out.1).trans (Kept.of_below HV.out.2)).two, (H5.out.1.mono hB).trans (HV.out.2.mono (by have := H5.out.1.size; omega))⟩

set_option maxHeartbeats 2000000 in
set_option maxRecDepth 100000 in
theorem wchanges_113 (B pl pw n : Nat) (l : List Par) (c : Cmd) (a : Ans) (w : World) (hW : Wk B pl pw l c a w) (hO : Ok n l) (hn : n < 100000) (hc : CmdOk c) :
    Calls Tryz.prog 103 #[.pointer (some ⟨pw, 0, none⟩), .func (.func 113) #[] #[]] w fun e w' => DP B pl pw c ((chF (doesF depositsF) l c).1, a, (chF (doesF depositsF) l c).2) w e w' := by
  have hA := waccount_any B pl pw n l c a c.a w hW hO (by omega) hc.a
  obtain ⟨R, hR⟩ : ∃ R, chF (doesF depositsF) l c = R := ⟨_, rfl⟩
  rw [hR]
  unfold chF at hR
  generalize (acF l c.a).2 = ae at hA
  generalize (acF l c.a).1 = x at hA hR
  have hF := fun V h => deposit_any x c.n V h
  have hS := fun V (h : Wk B pl pw l c a V) y => wsetAccount_any B pl pw n l c a c.a y V h hO hn hc.a
  generalize doesF depositsF x c.n = F at hF hR
  obtain ⟨y, ye⟩ := F
  have hS := fun V h => hS V h y
  dsimp only at hF hR
  obtain ⟨L, hL⟩ : ∃ L, put l (kKey 1 c.a 0 0).1 (aBytesF y).1 = L := ⟨_, rfl⟩
  rw [hL] at hR
  simp only [hL] at hS
  obtain ⟨x1, x2⟩ := x
  obtain ⟨y1, y2⟩ := y
  have hcell : ∀ j, w.cell? ⟨pw, j, none⟩ = (wc pl c a)[j]? := hW.cell
  unfold wc at hcell
  unfold accv at hA hF hS
  dsimp only at hA hF hS
  have HK := Lib.hid (And.intro hA (And.intro hF (And.intro hS (And.intro hW hR))))
  clear hA hF hS hW hR hO hL
  go_enter Tryz.func103, Tryz.ntmps103
  go_wp2_with fail
  refine HK.out.1.mono ?_
  rintro e W2 ⟨rfl, hb⟩
  obtain ⟨b5, hb5⟩ : ∃ b5, W2.heap.size = b5 := ⟨_, rfl⟩
  obtain ⟨W3, hW3⟩ : ∃ W3, W2.alloc (.cells #[.int .i64 x1, .int .i64 x2] 55) = W3 := ⟨_, rfl⟩
  have H3 : Hid (Below w.heap.size w W3 ∧ W3.heap[b5]? = some (.cells #[.int .i64 x1, .int .i64 x2] 55 (0, 0)) ∧ w.heap.size ≤ b5) := Lib.hid (by
    rw [← hW3, ← hb5]
    exact ⟨hb.alloc hb.size _, heap_alloc_new W2 _, hb.size⟩)
  have hW3' := HK.out.2.2.2.1.below H3.out.1
  have p4 : W3.cell? ⟨pw, 5, none⟩ = some (.int .i64 c.n) := hW3'.cell 5
  have p5 : W3.cell? ⟨b5, 0, none⟩ = some (.int .i64 x1) := blk_cell H3.out.2.1 0
  have p6 : W3.cell? ⟨b5, 1, none⟩ = some (.int .i64 x2) := blk_cell H3.out.2.1 1
  have HW3 := Lib.hid hW3'
  have HWd := Lib.hid (hW3'.below (Below.drew (Below.refl _ W3)))
  obtain ⟨b7, hb7⟩ : ∃ b7, W3.heap.size = b7 := ⟨_, rfl⟩
  have hbe : Below W3.heap.size W3 ((W3.alloc (.cells #[.int .i64 0, .int .i64 0] 55)).drew) := ((Below.refl _ W3).alloc (Nat.le_refl _) _).drew
  have HWe := Lib.hid (And.intro (hW3'.below hbe) (And.intro hbe (show ((W3.alloc (.cells #[.int .i64 0, .int .i64 0] 55)).drew).heap[b7]? = some (.cells #[.int .i64 0, .int .i64 0] 55 (0, 0)) from by rw [← hb7]; exact blk_drew (heap_alloc_new W3 _))))
  have hn1 : pw ≠ b7 := by have := hW3'.size.2.2; omega
  have hn2 : b5 ≠ b7 := by have := (Array.getElem?_eq_some_iff.1 H3.out.2.1).1; omega
  clear hb hcell hW3' hbe
  go_wp2_with fail
  try simp only [hW3]
  clear hW3 hb5
  go_region_held3 (fun W' => W'.cell? ⟨pw, 5, none⟩ = some (.int .i64 c.n) ∧ W'.cell? ⟨b5, 0, none⟩ = some (.int .i64 x1) ∧ W'.cell? ⟨b5, 1, none⟩ = some (.int .i64 x2))
    (first | with_reducible exact ⟨q4, q5, q6⟩ | with_reducible exact ⟨cell_alloc q4 _, cell_alloc q5 _, cell_alloc q6 _⟩ | with_reducible exact ⟨cell_drew (cell_alloc q4 _), cell_drew (cell_alloc q5 _), cell_drew (cell_alloc q6 _)⟩ | with_reducible exact ⟨cell_far (cell_far q4 hn1 _) hn1 _, cell_far (cell_far q5 hn2 _) hn2 _, cell_far (cell_far q6 hn2 _) hn2 _⟩ | with_reducible exact ⟨p4, p5, p6⟩ | with_reducible exact ⟨cell_drew p4, cell_drew p5, cell_drew p6⟩ | with_reducible exact ⟨cell_alloc p4 _, cell_alloc p5 _, cell_alloc p6 _⟩ | with_reducible exact ⟨cell_drew (cell_alloc p4 _), cell_drew (cell_alloc p5 _), cell_drew (cell_alloc p6 _)⟩)
    (first | (go_at_call 113; (with_reducible refine (HK.out.2.1 _ (HWd.out.glob)).mono ?_); rintro e W4 ⟨rfl, hb4⟩; have hb5 := (Below.drew (Below.refl _ W3)).trans hb4; have q4 := cell_keep p4 hb5; have q5 := cell_keep p5 hb5; have q6 := cell_keep p6 hb5; have H4 := Lib.hid hb5; clear hb4 hb5) | (go_at_call 113; (with_reducible refine (HK.out.2.1 _ (HWe.out.1.glob)).mono ?_); rintro e W4 ⟨rfl, hb4⟩; have hb5 := Below.trans HWe.out.2.1 (Below.mono hb4 HWe.out.2.1.size); have q4 := cell_keep p4 hb5; have q5 := cell_keep p5 hb5; have q6 := cell_keep p6 hb5; have z7 := keep_b HWe.out.2.2 hb4; have s0 : W4.cell? ⟨b7, 0, none⟩ = some (.int .i64 0) := blk_cell z7 0; have s1 : W4.cell? ⟨b7, 1, none⟩ = some (.int .i64 0) := blk_cell z7 1; have sf : ∀ j, W4.frozen? ⟨b7, j, none⟩ = false := blk_frozen z7; have H7 := Lib.hid z7; have H4 := Lib.hid hb5; clear hb4 hb5 z7))
  · obtain ⟨bq, hbq⟩ : ∃ bq, W4.heap.size = bq := ⟨_, rfl⟩
    obtain ⟨W5, hW5⟩ : ∃ W5, W4.alloc (.cells #[.int .i64 y1, .int .i64 y2] 55) = W5 := ⟨_, rfl⟩
    have H5 : Hid (Below w.heap.size w W5 ∧ W5.heap[bq]? = some (.cells #[.int .i64 y1, .int .i64 y2] 55 (0, 0)) ∧ Wk B pl pw l c a W5 ∧ Wk B pl pw l c a W5.drew ∧ bq ≠ pl) := Lib.hid (by
      have hb : Below W3.heap.size W3 W5 := by rw [← hW5]; exact (show Below W3.heap.size W3 W4 from H4.out).alloc (show Below W3.heap.size W3 W4 from H4.out).size _
      have hk := HW3.out.below hb
      refine ⟨H3.out.1.trans (hb.mono H3.out.1.size), by rw [← hW5, ← hbq]; exact heap_alloc_new W4 _, hk, hk.below (Below.drew (Below.refl _ W5)), ?_⟩
      have := HW3.out.size.2.1
      have := (show Below W3.heap.size W3 W4 from H4.out).size
      omega)
    rw [hW5, hbq]
    clear hW5 hbq p4 p5 p6 q4 q5 q6
    have r2 : W5.cell? ⟨pw, 2, none⟩ = some (.int .u32 c.a) := H5.out.2.2.1.cell 2
    have r3 : W5.cell? ⟨bq, 0, none⟩ = some (.int .i64 y1) := blk_cell H5.out.2.1 0
    have r4 : W5.cell? ⟨bq, 1, none⟩ = some (.int .i64 y2) := blk_cell H5.out.2.1 1
    have hR := HK.out.2.2.2.2
    by_cases hy : ye = 0
    · subst hy
      rw [if_pos rfl] at hR
      have HR := Lib.hid hR
      clear hR
      go_wp2_with fail
      go_region_held3 (fun W' => W'.cell? ⟨pw, 2, none⟩ = some (.int .u32 c.a) ∧ W'.cell? ⟨bq, 0, none⟩ = some (.int .i64 y1) ∧ W'.cell? ⟨bq, 1, none⟩ = some (.int .i64 y2))
        (first | with_reducible exact ⟨t2, t3, t4⟩ | with_reducible exact ⟨cell_drew t2, cell_drew t3, cell_drew t4⟩ | with_reducible exact ⟨r2, r3, r4⟩ | with_reducible exact ⟨cell_drew r2, cell_drew r3, cell_drew r4⟩)
        ((go_at_call 97; (with_reducible refine (HK.out.2.2.1 _ H5.out.2.2.2.1).mono ?_); rintro e W6 ⟨rfl, h6⟩; have t2 : W6.cell? ⟨pw, 2, none⟩ = some (.int .u32 c.a) := h6.1.cell 2; have z6 := h6.2.1.keep _ _ (blk_drew H5.out.2.1) H5.out.2.2.2.2 rfl; have t3 : W6.cell? ⟨bq, 0, none⟩ = some (.int .i64 y1) := blk_cell z6 0; have t4 : W6.cell? ⟨bq, 1, none⟩ = some (.int .i64 y2) := blk_cell z6 1; have H6 := Lib.hid h6; clear h6 z6))
      have hO := wof_new 0 W6
      have HO := Lib.hid hO
      clear hO r2 r3 r4
      go_wp2_with fail
      refine HO.out.mono ?_
      rintro e W7 ⟨v, rfl, hv, hb⟩
      have hsz : w.heap.size ≤ W6.heap.size := Nat.le_trans H5.out.1.size H6.out.2.1.size
      have HV := Lib.hid (And.intro (hv.mono hsz) hb)
      clear hv hb
      go_wp2
      go_ret
      have hE := HR.out
      subst hE
      have hB := HK.out.2.2.2.1.size.1
      exact ⟨_, rfl, HV.out.1, H6.out.1.below HV.out.2, ((Kept.of_below H5.out.1).trans ((Kept.of_below (Below.drew (Below.refl _ W5))).trans (H6.out.2.1.trans (Kept.of_below HV.out.2)))).two, (H5.out.1.mono hB).trans ((Below.drew (Below.refl B W5)).trans (H6.out.2.2.trans (HV.out.2.mono (by have := H5.out.1.size; omega))))⟩
    · have hy' : (ye == 0) = false := by simpa using hy
      rw [if_neg hy] at hR
      have HR := Lib.hid hR
      have HO := Lib.hid (wof_new ye W5)
      clear hR
      go_wp2_with fail
      refine HO.out.mono ?_
      rintro e W7 ⟨v, rfl, hv, hb⟩
      have HV := Lib.hid (And.intro (hv.mono H5.out.1.size) hb)
      clear hv hb
      go_wp2
      go_ret
      have hE := HR.out
      subst hE
      have hB := HK.out.2.2.2.1.size.1
      exact ⟨_, rfl, HV.out.1, H5.out.2.2.1.below HV.out.2, ((Kept.of_below H5.out.1).trans (Kept.of_below HV.out.2)).two, (H5.out.1.mono hB).trans (HV.out.2.mono (by have := H5.out.1.size; omega))⟩
  · obtain ⟨bq, hbq⟩ : ∃ bq, b7 = bq := ⟨_, rfl⟩
    obtain ⟨W5, hW5⟩ : ∃ W5, (W4.setCell ⟨b7, 0, none⟩ (.int .i64 y1)).setCell ⟨b7, 1, none⟩ (.int .i64 y2) = W5 := ⟨_, rfl⟩
    have H5 : Hid (Below w.heap.size w W5 ∧ W5.heap[bq]? = some (.cells #[.int .i64 y1, .int .i64 y2] 55 (0, 0)) ∧ Wk B pl pw l c a W5 ∧ Wk B pl pw l c a W5.drew ∧ bq ≠ pl) := Lib.hid (by
      have h4 : Below W3.heap.size W3 W4 := H4.out
      have hs3 := HW3.out.size
      have hb : Below W3.heap.size W3 W5 := by rw [← hW5]; exact (h4.setCell (p := ⟨b7, 0, none⟩) (by show W3.heap.size ≤ b7; omega) _).setCell (p := ⟨b7, 1, none⟩) (by show W3.heap.size ≤ b7; omega) _
      have hk := HW3.out.below hb
      refine ⟨H3.out.1.trans (hb.mono H3.out.1.size), by rw [← hW5, ← hbq]; exact two_set H7.out _ _, hk, hk.below (Below.drew (Below.refl _ W5)), ?_⟩
      omega)
    rw [hW5, hbq]
    clear hW5 hbq p4 p5 p6 q4 q5 q6 s0 s1 sf
    have r2 : W5.cell? ⟨pw, 2, none⟩ = some (.int .u32 c.a) := H5.out.2.2.1.cell 2
    have r3 : W5.cell? ⟨bq, 0, none⟩ = some (.int .i64 y1) := blk_cell H5.out.2.1 0
    have r4 : W5.cell? ⟨bq, 1, none⟩ = some (.int .i64 y2) := blk_cell H5.out.2.1 1
    have hR := HK.out.2.2.2.2
    by_cases hy : ye = 0
    · subst hy
      rw [if_pos rfl] at hR
      have HR := Lib.hid hR
      clear hR
      go_wp2_with fail
      go_region_held3 (fun W' => W'.cell? ⟨pw, 2, none⟩ = some (.int .u32 c.a) ∧ W'.cell? ⟨bq, 0, none⟩ = some (.int .i64 y1) ∧ W'.cell? ⟨bq, 1, none⟩ = some (.int .i64 y2))
        (first | with_reducible exact ⟨t2, t3, t4⟩ | with_reducible exact ⟨cell_drew t2, cell_drew t3, cell_drew t4⟩ | with_reducible exact ⟨r2, r3, r4⟩ | with_reducible exact ⟨cell_drew r2, cell_drew r3, cell_drew r4⟩)
        ((go_at_call 97; (with_reducible refine (HK.out.2.2.1 _ H5.out.2.2.2.1).mono ?_); rintro e W6 ⟨rfl, h6⟩; have t2 : W6.cell? ⟨pw, 2, none⟩ = some (.int .u32 c.a) := h6.1.cell 2; have z6 := h6.2.1.keep _ _ (blk_drew H5.out.2.1) H5.out.2.2.2.2 rfl; have t3 : W6.cell? ⟨bq, 0, none⟩ = some (.int .i64 y1) := blk_cell z6 0; have t4 : W6.cell? ⟨bq, 1, none⟩ = some (.int .i64 y2) := blk_cell z6 1; have H6 := Lib.hid h6; clear h6 z6))
      have hO := wof_new 0 W6
      have HO := Lib.hid hO
      clear hO r2 r3 r4
      go_wp2_with fail
      refine HO.out.mono ?_
      rintro e W7 ⟨v, rfl, hv, hb⟩
      have hsz : w.heap.size ≤ W6.heap.size := Nat.le_trans H5.out.1.size H6.out.2.1.size
      have HV := Lib.hid (And.intro (hv.mono hsz) hb)
      clear hv hb
      go_wp2
      go_ret
      have hE := HR.out
      subst hE
      have hB := HK.out.2.2.2.1.size.1
      exact ⟨_, rfl, HV.out.1, H6.out.1.below HV.out.2, ((Kept.of_below H5.out.1).trans ((Kept.of_below (Below.drew (Below.refl _ W5))).trans (H6.out.2.1.trans (Kept.of_below HV.out.2)))).two, (H5.out.1.mono hB).trans ((Below.drew (Below.refl B W5)).trans (H6.out.2.2.trans (HV.out.2.mono (by have := H5.out.1.size; omega))))⟩
    · have hy' : (ye == 0) = false := by simpa using hy
      rw [if_neg hy] at hR
      have HR := Lib.hid hR
      have HO := Lib.hid (wof_new ye W5)
      clear hR
      go_wp2_with fail
      refine HO.out.mono ?_
      rintro e W7 ⟨v, rfl, hv, hb⟩
      have HV := Lib.hid (And.intro (hv.mono H5.out.1.size) hb)
      clear hv hb
      go_wp2
      go_ret
      have hE := HR.out
      subst hE
      have hB := HK.out.2.2.2.1.size.1
      exact ⟨_, rfl, HV.out.1, H5.out.2.2.1.below HV.out.2, ((Kept.of_below H5.out.1).trans (Kept.of_below HV.out.2)).two, (H5.out.1.mono hB).trans (HV.out.2.mono (by have := H5.out.1.size; omega))⟩

set_option maxHeartbeats 2000000 in
set_option maxRecDepth 100000 in
theorem wchanges_114 (B pl pw n : Nat) (l : List Par) (c : Cmd) (a : Ans) (w : World) (hW : Wk B pl pw l c a w) (hO : Ok n l) (hn : n < 100000) (hc : CmdOk c) :
    Calls Tryz.prog 103 #[.pointer (some ⟨pw, 0, none⟩), .func (.func 114) #[] #[]] w fun e w' => DP B pl pw c ((chF (doesF withdrawsF) l c).1, a, (chF (doesF withdrawsF) l c).2) w e w' := by
  have hA := waccount_any B pl pw n l c a c.a w hW hO (by omega) hc.a
  obtain ⟨R, hR⟩ : ∃ R, chF (doesF withdrawsF) l c = R := ⟨_, rfl⟩
  rw [hR]
  unfold chF at hR
  generalize (acF l c.a).2 = ae at hA
  generalize (acF l c.a).1 = x at hA hR
  have hF := fun V h => withdraw_any x c.n V h
  have hS := fun V (h : Wk B pl pw l c a V) y => wsetAccount_any B pl pw n l c a c.a y V h hO hn hc.a
  generalize doesF withdrawsF x c.n = F at hF hR
  obtain ⟨y, ye⟩ := F
  have hS := fun V h => hS V h y
  dsimp only at hF hR
  obtain ⟨L, hL⟩ : ∃ L, put l (kKey 1 c.a 0 0).1 (aBytesF y).1 = L := ⟨_, rfl⟩
  rw [hL] at hR
  simp only [hL] at hS
  obtain ⟨x1, x2⟩ := x
  obtain ⟨y1, y2⟩ := y
  have hcell : ∀ j, w.cell? ⟨pw, j, none⟩ = (wc pl c a)[j]? := hW.cell
  unfold wc at hcell
  unfold accv at hA hF hS
  dsimp only at hA hF hS
  have HK := Lib.hid (And.intro hA (And.intro hF (And.intro hS (And.intro hW hR))))
  clear hA hF hS hW hR hO hL
  go_enter Tryz.func103, Tryz.ntmps103
  go_wp2_with fail
  refine HK.out.1.mono ?_
  rintro e W2 ⟨rfl, hb⟩
  obtain ⟨b5, hb5⟩ : ∃ b5, W2.heap.size = b5 := ⟨_, rfl⟩
  obtain ⟨W3, hW3⟩ : ∃ W3, W2.alloc (.cells #[.int .i64 x1, .int .i64 x2] 55) = W3 := ⟨_, rfl⟩
  have H3 : Hid (Below w.heap.size w W3 ∧ W3.heap[b5]? = some (.cells #[.int .i64 x1, .int .i64 x2] 55 (0, 0)) ∧ w.heap.size ≤ b5) := Lib.hid (by
    rw [← hW3, ← hb5]
    exact ⟨hb.alloc hb.size _, heap_alloc_new W2 _, hb.size⟩)
  have hW3' := HK.out.2.2.2.1.below H3.out.1
  have p4 : W3.cell? ⟨pw, 5, none⟩ = some (.int .i64 c.n) := hW3'.cell 5
  have p5 : W3.cell? ⟨b5, 0, none⟩ = some (.int .i64 x1) := blk_cell H3.out.2.1 0
  have p6 : W3.cell? ⟨b5, 1, none⟩ = some (.int .i64 x2) := blk_cell H3.out.2.1 1
  have HW3 := Lib.hid hW3'
  have HWd := Lib.hid (hW3'.below (Below.drew (Below.refl _ W3)))
  obtain ⟨b7, hb7⟩ : ∃ b7, W3.heap.size = b7 := ⟨_, rfl⟩
  have hbe : Below W3.heap.size W3 ((W3.alloc (.cells #[.int .i64 0, .int .i64 0] 55)).drew) := ((Below.refl _ W3).alloc (Nat.le_refl _) _).drew
  have HWe := Lib.hid (And.intro (hW3'.below hbe) (And.intro hbe (show ((W3.alloc (.cells #[.int .i64 0, .int .i64 0] 55)).drew).heap[b7]? = some (.cells #[.int .i64 0, .int .i64 0] 55 (0, 0)) from by rw [← hb7]; exact blk_drew (heap_alloc_new W3 _))))
  have hn1 : pw ≠ b7 := by have := hW3'.size.2.2; omega
  have hn2 : b5 ≠ b7 := by have := (Array.getElem?_eq_some_iff.1 H3.out.2.1).1; omega
  clear hb hcell hW3' hbe
  go_wp2_with fail
  try simp only [hW3]
  clear hW3 hb5
  go_region_held3 (fun W' => W'.cell? ⟨pw, 5, none⟩ = some (.int .i64 c.n) ∧ W'.cell? ⟨b5, 0, none⟩ = some (.int .i64 x1) ∧ W'.cell? ⟨b5, 1, none⟩ = some (.int .i64 x2))
    (first | with_reducible exact ⟨q4, q5, q6⟩ | with_reducible exact ⟨cell_alloc q4 _, cell_alloc q5 _, cell_alloc q6 _⟩ | with_reducible exact ⟨cell_drew (cell_alloc q4 _), cell_drew (cell_alloc q5 _), cell_drew (cell_alloc q6 _)⟩ | with_reducible exact ⟨cell_far (cell_far q4 hn1 _) hn1 _, cell_far (cell_far q5 hn2 _) hn2 _, cell_far (cell_far q6 hn2 _) hn2 _⟩ | with_reducible exact ⟨p4, p5, p6⟩ | with_reducible exact ⟨cell_drew p4, cell_drew p5, cell_drew p6⟩ | with_reducible exact ⟨cell_alloc p4 _, cell_alloc p5 _, cell_alloc p6 _⟩ | with_reducible exact ⟨cell_drew (cell_alloc p4 _), cell_drew (cell_alloc p5 _), cell_drew (cell_alloc p6 _)⟩)
    (first | (go_at_call 114; (with_reducible refine (HK.out.2.1 _ (HWd.out.glob)).mono ?_); rintro e W4 ⟨rfl, hb4⟩; have hb5 := (Below.drew (Below.refl _ W3)).trans hb4; have q4 := cell_keep p4 hb5; have q5 := cell_keep p5 hb5; have q6 := cell_keep p6 hb5; have H4 := Lib.hid hb5; clear hb4 hb5) | (go_at_call 114; (with_reducible refine (HK.out.2.1 _ (HWe.out.1.glob)).mono ?_); rintro e W4 ⟨rfl, hb4⟩; have hb5 := Below.trans HWe.out.2.1 (Below.mono hb4 HWe.out.2.1.size); have q4 := cell_keep p4 hb5; have q5 := cell_keep p5 hb5; have q6 := cell_keep p6 hb5; have z7 := keep_b HWe.out.2.2 hb4; have s0 : W4.cell? ⟨b7, 0, none⟩ = some (.int .i64 0) := blk_cell z7 0; have s1 : W4.cell? ⟨b7, 1, none⟩ = some (.int .i64 0) := blk_cell z7 1; have sf : ∀ j, W4.frozen? ⟨b7, j, none⟩ = false := blk_frozen z7; have H7 := Lib.hid z7; have H4 := Lib.hid hb5; clear hb4 hb5 z7))
  · obtain ⟨bq, hbq⟩ : ∃ bq, W4.heap.size = bq := ⟨_, rfl⟩
    obtain ⟨W5, hW5⟩ : ∃ W5, W4.alloc (.cells #[.int .i64 y1, .int .i64 y2] 55) = W5 := ⟨_, rfl⟩
    have H5 : Hid (Below w.heap.size w W5 ∧ W5.heap[bq]? = some (.cells #[.int .i64 y1, .int .i64 y2] 55 (0, 0)) ∧ Wk B pl pw l c a W5 ∧ Wk B pl pw l c a W5.drew ∧ bq ≠ pl) := Lib.hid (by
      have hb : Below W3.heap.size W3 W5 := by rw [← hW5]; exact (show Below W3.heap.size W3 W4 from H4.out).alloc (show Below W3.heap.size W3 W4 from H4.out).size _
      have hk := HW3.out.below hb
      refine ⟨H3.out.1.trans (hb.mono H3.out.1.size), by rw [← hW5, ← hbq]; exact heap_alloc_new W4 _, hk, hk.below (Below.drew (Below.refl _ W5)), ?_⟩
      have := HW3.out.size.2.1
      have := (show Below W3.heap.size W3 W4 from H4.out).size
      omega)
    rw [hW5, hbq]
    clear hW5 hbq p4 p5 p6 q4 q5 q6
    have r2 : W5.cell? ⟨pw, 2, none⟩ = some (.int .u32 c.a) := H5.out.2.2.1.cell 2
    have r3 : W5.cell? ⟨bq, 0, none⟩ = some (.int .i64 y1) := blk_cell H5.out.2.1 0
    have r4 : W5.cell? ⟨bq, 1, none⟩ = some (.int .i64 y2) := blk_cell H5.out.2.1 1
    have hR := HK.out.2.2.2.2
    by_cases hy : ye = 0
    · subst hy
      rw [if_pos rfl] at hR
      have HR := Lib.hid hR
      clear hR
      go_wp2_with fail
      go_region_held3 (fun W' => W'.cell? ⟨pw, 2, none⟩ = some (.int .u32 c.a) ∧ W'.cell? ⟨bq, 0, none⟩ = some (.int .i64 y1) ∧ W'.cell? ⟨bq, 1, none⟩ = some (.int .i64 y2))
        (first | with_reducible exact ⟨t2, t3, t4⟩ | with_reducible exact ⟨cell_drew t2, cell_drew t3, cell_drew t4⟩ | with_reducible exact ⟨r2, r3, r4⟩ | with_reducible exact ⟨cell_drew r2, cell_drew r3, cell_drew r4⟩)
        ((go_at_call 97; (with_reducible refine (HK.out.2.2.1 _ H5.out.2.2.2.1).mono ?_); rintro e W6 ⟨rfl, h6⟩; have t2 : W6.cell? ⟨pw, 2, none⟩ = some (.int .u32 c.a) := h6.1.cell 2; have z6 := h6.2.1.keep _ _ (blk_drew H5.out.2.1) H5.out.2.2.2.2 rfl; have t3 : W6.cell? ⟨bq, 0, none⟩ = some (.int .i64 y1) := blk_cell z6 0; have t4 : W6.cell? ⟨bq, 1, none⟩ = some (.int .i64 y2) := blk_cell z6 1; have H6 := Lib.hid h6; clear h6 z6))
      have hO := wof_new 0 W6
      have HO := Lib.hid hO
      clear hO r2 r3 r4
      go_wp2_with fail
      refine HO.out.mono ?_
      rintro e W7 ⟨v, rfl, hv, hb⟩
      have hsz : w.heap.size ≤ W6.heap.size := Nat.le_trans H5.out.1.size H6.out.2.1.size
      have HV := Lib.hid (And.intro (hv.mono hsz) hb)
      clear hv hb
      go_wp2
      go_ret
      have hE := HR.out
      subst hE
      have hB := HK.out.2.2.2.1.size.1
      exact ⟨_, rfl, HV.out.1, H6.out.1.below HV.out.2, ((Kept.of_below H5.out.1).trans ((Kept.of_below (Below.drew (Below.refl _ W5))).trans (H6.out.2.1.trans (Kept.of_below HV.out.2)))).two, (H5.out.1.mono hB).trans ((Below.drew (Below.refl B W5)).trans (H6.out.2.2.trans (HV.out.2.mono (by have := H5.out.1.size; omega))))⟩
    · have hy' : (ye == 0) = false := by simpa using hy
      rw [if_neg hy] at hR
      have HR := Lib.hid hR
      have HO := Lib.hid (wof_new ye W5)
      clear hR
      go_wp2_with fail
      refine HO.out.mono ?_
      rintro e W7 ⟨v, rfl, hv, hb⟩
      have HV := Lib.hid (And.intro (hv.mono H5.out.1.size) hb)
      clear hv hb
      go_wp2
      go_ret
      have hE := HR.out
      subst hE
      have hB := HK.out.2.2.2.1.size.1
      exact ⟨_, rfl, HV.out.1, H5.out.2.2.1.below HV.out.2, ((Kept.of_below H5.out.1).trans (Kept.of_below HV.out.2)).two, (H5.out.1.mono hB).trans (HV.out.2.mono (by have := H5.out.1.size; omega))⟩
  · obtain ⟨bq, hbq⟩ : ∃ bq, b7 = bq := ⟨_, rfl⟩
    obtain ⟨W5, hW5⟩ : ∃ W5, (W4.setCell ⟨b7, 0, none⟩ (.int .i64 y1)).setCell ⟨b7, 1, none⟩ (.int .i64 y2) = W5 := ⟨_, rfl⟩
    have H5 : Hid (Below w.heap.size w W5 ∧ W5.heap[bq]? = some (.cells #[.int .i64 y1, .int .i64 y2] 55 (0, 0)) ∧ Wk B pl pw l c a W5 ∧ Wk B pl pw l c a W5.drew ∧ bq ≠ pl) := Lib.hid (by
      have h4 : Below W3.heap.size W3 W4 := H4.out
      have hs3 := HW3.out.size
      have hb : Below W3.heap.size W3 W5 := by rw [← hW5]; exact (h4.setCell (p := ⟨b7, 0, none⟩) (by show W3.heap.size ≤ b7; omega) _).setCell (p := ⟨b7, 1, none⟩) (by show W3.heap.size ≤ b7; omega) _
      have hk := HW3.out.below hb
      refine ⟨H3.out.1.trans (hb.mono H3.out.1.size), by rw [← hW5, ← hbq]; exact two_set H7.out _ _, hk, hk.below (Below.drew (Below.refl _ W5)), ?_⟩
      omega)
    rw [hW5, hbq]
    clear hW5 hbq p4 p5 p6 q4 q5 q6 s0 s1 sf
    have r2 : W5.cell? ⟨pw, 2, none⟩ = some (.int .u32 c.a) := H5.out.2.2.1.cell 2
    have r3 : W5.cell? ⟨bq, 0, none⟩ = some (.int .i64 y1) := blk_cell H5.out.2.1 0
    have r4 : W5.cell? ⟨bq, 1, none⟩ = some (.int .i64 y2) := blk_cell H5.out.2.1 1
    have hR := HK.out.2.2.2.2
    by_cases hy : ye = 0
    · subst hy
      rw [if_pos rfl] at hR
      have HR := Lib.hid hR
      clear hR
      go_wp2_with fail
      go_region_held3 (fun W' => W'.cell? ⟨pw, 2, none⟩ = some (.int .u32 c.a) ∧ W'.cell? ⟨bq, 0, none⟩ = some (.int .i64 y1) ∧ W'.cell? ⟨bq, 1, none⟩ = some (.int .i64 y2))
        (first | with_reducible exact ⟨t2, t3, t4⟩ | with_reducible exact ⟨cell_drew t2, cell_drew t3, cell_drew t4⟩ | with_reducible exact ⟨r2, r3, r4⟩ | with_reducible exact ⟨cell_drew r2, cell_drew r3, cell_drew r4⟩)
        ((go_at_call 97; (with_reducible refine (HK.out.2.2.1 _ H5.out.2.2.2.1).mono ?_); rintro e W6 ⟨rfl, h6⟩; have t2 : W6.cell? ⟨pw, 2, none⟩ = some (.int .u32 c.a) := h6.1.cell 2; have z6 := h6.2.1.keep _ _ (blk_drew H5.out.2.1) H5.out.2.2.2.2 rfl; have t3 : W6.cell? ⟨bq, 0, none⟩ = some (.int .i64 y1) := blk_cell z6 0; have t4 : W6.cell? ⟨bq, 1, none⟩ = some (.int .i64 y2) := blk_cell z6 1; have H6 := Lib.hid h6; clear h6 z6))
      have hO := wof_new 0 W6
      have HO := Lib.hid hO
      clear hO r2 r3 r4
      go_wp2_with fail
      refine HO.out.mono ?_
      rintro e W7 ⟨v, rfl, hv, hb⟩
      have hsz : w.heap.size ≤ W6.heap.size := Nat.le_trans H5.out.1.size H6.out.2.1.size
      have HV := Lib.hid (And.intro (hv.mono hsz) hb)
      clear hv hb
      go_wp2
      go_ret
      have hE := HR.out
      subst hE
      have hB := HK.out.2.2.2.1.size.1
      exact ⟨_, rfl, HV.out.1, H6.out.1.below HV.out.2, ((Kept.of_below H5.out.1).trans ((Kept.of_below (Below.drew (Below.refl _ W5))).trans (H6.out.2.1.trans (Kept.of_below HV.out.2)))).two, (H5.out.1.mono hB).trans ((Below.drew (Below.refl B W5)).trans (H6.out.2.2.trans (HV.out.2.mono (by have := H5.out.1.size; omega))))⟩
    · have hy' : (ye == 0) = false := by simpa using hy
      rw [if_neg hy] at hR
      have HR := Lib.hid hR
      have HO := Lib.hid (wof_new ye W5)
      clear hR
      go_wp2_with fail
      refine HO.out.mono ?_
      rintro e W7 ⟨v, rfl, hv, hb⟩
      have HV := Lib.hid (And.intro (hv.mono H5.out.1.size) hb)
      clear hv hb
      go_wp2
      go_ret
      have hE := HR.out
      subst hE
      have hB := HK.out.2.2.2.1.size.1
      exact ⟨_, rfl, HV.out.1, H5.out.2.2.1.below HV.out.2, ((Kept.of_below H5.out.1).trans (Kept.of_below HV.out.2)).two, (H5.out.1.mono hB).trans (HV.out.2.mono (by have := H5.out.1.size; omega))⟩

set_option maxHeartbeats 1000000 in
set_option maxRecDepth 100000 in
theorem wdeposit_any (B pl pw n : Nat) (l : List Par) (c : Cmd) (a : Ans) (w : World) (hW : Wk B pl pw l c a w) (hO : Ok n l) (hn : n < 100000) (hc : CmdOk c) :
    Calls Tryz.prog 52 #[.pointer (some ⟨pw, 0, none⟩)] w fun e w' => DP B pl pw c ((chF (doesF depositsF) l c).1, a, (chF (doesF depositsF) l c).2) w e w' := by
  have h := wchanges_113 B pl pw n l c a w hW hO hn hc
  generalize chF (doesF depositsF) l c = R at h ⊢
  have H := Lib.hid h
  clear h hW hO
  go_enter Tryz.func52, Tryz.ntmps52
  go_wp2_with fail
  refine H.out.mono ?_
  rintro e W2 ⟨v, rfl, h1, h2, h3, h4⟩
  have HH := Lib.hid (And.intro h1 (And.intro h2 (And.intro h3 h4)))
  clear h1 h2 h3 h4
  go_wp2
  go_ret
  exact ⟨_, rfl, HH.out⟩

set_option maxHeartbeats 1000000 in
set_option maxRecDepth 100000 in
theorem wwithdraw_any (B pl pw n : Nat) (l : List Par) (c : Cmd) (a : Ans) (w : World) (hW : Wk B pl pw l c a w) (hO : Ok n l) (hn : n < 100000) (hc : CmdOk c) :
    Calls Tryz.prog 53 #[.pointer (some ⟨pw, 0, none⟩)] w fun e w' => DP B pl pw c ((chF (doesF withdrawsF) l c).1, a, (chF (doesF withdrawsF) l c).2) w e w' := by
  have h := wchanges_114 B pl pw n l c a w hW hO hn hc
  generalize chF (doesF withdrawsF) l c = R at h ⊢
  have H := Lib.hid h
  clear h hW hO
  go_enter Tryz.func53, Tryz.ntmps53
  go_wp2_with fail
  refine H.out.mono ?_
  rintro e W2 ⟨v, rfl, h1, h2, h3, h4⟩
  have HH := Lib.hid (And.intro h1 (And.intro h2 (And.intro h3 h4)))
  clear h1 h2 h3 h4
  go_wp2
  go_ret
  exact ⟨_, rfl, HH.out⟩

end Go.Proofs.YtmkcbkdbdcnoiaaGreatDoor
namespace Go.Proofs.YtmkcbkdbdcnoiaaGreatDoor
open Go.RowKit
set_option linter.unusedVariables false
set_option linter.unusedSimpArgs false

/-- What opening comes to. -/
def opF (l : List Par) (c : Cmd) : List Par × Int :=
  if (kKey 1 c.a 0 0).1 = [] then (l, 100) else if (acF l c.a).2 = 0 then (l, 160) else (put l (kKey 1 c.a 0 0).1 (aBytesF (0, 0)).1, 0)

set_option maxHeartbeats 2000000 in
set_option maxRecDepth 100000 in
theorem wopen_any (B pl pw n : Nat) (l : List Par) (c : Cmd) (a : Ans) (w : World) (hW : Wk B pl pw l c a w) (hO : Ok n l) (hn : n < 100000) (hc : CmdOk c) :
    Calls Tryz.prog 46 #[.pointer (some ⟨pw, 0, none⟩)] w fun e w' => DP B pl pw c ((opF l c).1, a, (opF l c).2) w e w' := by
  obtain ⟨R, hR⟩ : ∃ R, opF l c = R := ⟨_, rfl⟩
  rw [hR]
  unfold opF at hR
  have hK := wkey_any 1 c.a 0 0 w ⟨hc.a.1, hc.a.2, by omega, by omega, by omega, by omega⟩
  have hA := fun V (h : Wk B pl pw l c a V) => waccount_any B pl pw n l c a c.a V h hO (by omega) hc.a
  have hS := fun V (h : Wk B pl pw l c a V) => wsetAccount_any B pl pw n l c a c.a (0, 0) V h hO hn hc.a
  generalize (kKey 1 c.a 0 0).1 = k at hK hR hS
  obtain ⟨L, hL⟩ : ∃ L, put l k (aBytesF (0, 0)).1 = L := ⟨_, rfl⟩
  rw [hL] at hR
  simp only [hL] at hS
  generalize (acF l c.a).2 = ae at hA hR
  generalize (acF l c.a).1 = x at hA
  obtain ⟨x1, x2⟩ := x
  have hcell : ∀ j, w.cell? ⟨pw, j, none⟩ = (wc pl c a)[j]? := hW.cell
  unfold wc at hcell
  unfold sv at hK
  unfold accv at hA hS
  dsimp only at hA hS
  have HK := Lib.hid (And.intro hK (And.intro hA (And.intro hS (And.intro hW hR))))
  clear hK hA hS hW hR hO hL
  by_cases hk : k = []
  · subst hk
    go_enter Tryz.func46, Tryz.ntmps46
    go_wp2_with fail
    refine HK.out.1.mono ?_
    rintro e W2 ⟨rfl, hb⟩
    have HB := Lib.hid hb
    have HO := Lib.hid (wof_new 100 W2)
    clear hb hcell
    go_wp2_with fail
    refine HO.out.mono ?_
    rintro e W7 ⟨v, rfl, hv, hb⟩
    have HV := Lib.hid (And.intro (hv.mono HB.out.size) (HB.out.trans (hb.mono HB.out.size)))
    clear hv hb
    go_wp2
    go_ret
    have hE := HK.out.2.2.2.2
    simp only [if_pos, ↓reduceIte] at hE
    subst hE
    exact ⟨_, rfl, HV.out.1, HK.out.2.2.2.1.below HV.out.2, (Kept.of_below HV.out.2).two, HV.out.2.mono HK.out.2.2.2.1.size.1⟩
  · have hk' := isEmpty_ne hk
    have hE0 := HK.out.2.2.2.2
    rw [if_neg hk] at hE0
    have HE0 := Lib.hid hE0
    clear hE0 hk
    go_enter Tryz.func46, Tryz.ntmps46
    go_wp2_with fail
    refine HK.out.1.mono ?_
    rintro e W2 ⟨rfl, hb⟩
    have HB := Lib.hid (And.intro hb (HK.out.2.2.2.1.below hb))
    clear hb hcell
    have hcell : ∀ j, W2.cell? ⟨pw, j, none⟩ = (wc pl c a)[j]? := HB.out.2.cell
    unfold wc at hcell
    go_wp2_with fail
    refine (HK.out.2.1 W2 HB.out.2).mono ?_
    rintro e W3 ⟨rfl, hb⟩
    obtain ⟨W4, hW4⟩ : ∃ W4, W3.alloc (.cells #[.int .i64 x1, .int .i64 x2] 55) = W4 := ⟨_, rfl⟩
    have hb4 : Below W2.heap.size W2 W4 := by rw [← hW4]; exact hb.alloc hb.size _
    have H4 := Lib.hid (And.intro (HB.out.1.trans (hb4.mono HB.out.1.size)) (HB.out.2.below hb4))
    clear hb hb4 hcell
    by_cases hy : ae = 0
    · subst hy
      have HO := Lib.hid (wof_new 160 W4)
      go_wp2_with fail
      refine HO.out.mono ?_
      rintro e W7 ⟨v, rfl, hv, hb⟩
      have HV := Lib.hid (And.intro (hv.mono H4.out.1.size) (H4.out.1.trans (hb.mono H4.out.1.size)))
      clear hv hb
      go_wp2
      go_ret
      have hE := HE0.out
      simp only [if_pos, ↓reduceIte] at hE
      subst hE
      exact ⟨_, rfl, HV.out.1, HK.out.2.2.2.1.below HV.out.2, (Kept.of_below HV.out.2).two, HV.out.2.mono HK.out.2.2.2.1.size.1⟩
    · have hy' : (ae == 0) = false := by simpa using hy
      have hcell : ∀ j, W4.cell? ⟨pw, j, none⟩ = (wc pl c a)[j]? := H4.out.2.cell
      unfold wc at hcell
      go_wp2_with fail
      refine (HK.out.2.2.1 W4 H4.out.2).mono ?_
      rintro e W5 ⟨rfl, h5⟩
      have H5 := Lib.hid h5
      clear h5 hcell
      go_wp2
      go_ret
      have hE := HE0.out
      rw [if_neg hy] at hE
      subst hE
      exact ⟨_, rfl, .inl ⟨rfl, rfl⟩, H5.out.1, ((Kept.of_below H4.out.1).trans H5.out.2.1).two, (H4.out.1.mono HK.out.2.2.2.1.size.1).trans H5.out.2.2⟩
end Go.Proofs.YtmkcbkdbdcnoiaaGreatDoor
namespace Go.Proofs.YtmkcbkdbdcnoiaaGreatDoor
open Go.RowKit
set_option linter.unusedVariables false
set_option linter.unusedSimpArgs false

/-- The other account. -/
def otF (l : List Par) (c : Cmd) (may : Bool) : Acc × Int :=
  ((acF l c.b).1, if ((acF l c.b).2 == 0) = true then if (c.a == c.b) = true then if may = true then (acF l c.b).2 else 2 else (acF l c.b).2 else (acF l c.b).2)

set_option maxHeartbeats 2000000 in
set_option maxRecDepth 100000 in
theorem wother_any (B pl pw n : Nat) (l : List Par) (c : Cmd) (a : Ans) (may : Bool) (w : World) (hW : Wk B pl pw l c a w) (hO : Ok n l) (hn : n ≤ 100000) (hc : CmdOk c) :
    Calls Tryz.prog 111 #[.pointer (some ⟨pw, 0, none⟩), .bool may] w fun e w' => e = .returned (.tuple #[accv (otF l c may).1, .int .i64 (otF l c may).2]) ∧ Below w.heap.size w w' := by
  obtain ⟨W, hWW⟩ : ∃ W, w.alloc (.cells #[.int .i64 0, .int .i64 0] 55) = W := ⟨_, rfl⟩
  have HB := Lib.hid (show Hs w [(w.heap.size, .cells #[.int .i64 0, .int .i64 0] 55 (0, 0))] W from ⟨hWW ▸ (Below.refl _ w).alloc (Nat.le_refl _) _, fun x hx => by simp only [List.mem_cons, List.not_mem_nil, or_false] at hx; subst hx; rw [← hWW]; exact heap_alloc_new w _⟩)
  have hA := waccount_any B pl pw n l c a c.b W (hW.below HB.out.1) hO hn hc.b
  have hcell : ∀ j, W.cell? ⟨pw, j, none⟩ = (wc pl c a)[j]? := (hW.below HB.out.1).cell
  obtain ⟨F, hF⟩ : ∃ F, otF l c may = F := ⟨_, rfl⟩
  rw [hF]
  unfold otF at hF
  generalize (acF l c.b).2 = ae at hA hF
  generalize (acF l c.b).1 = x at hA hF
  obtain ⟨x1, x2⟩ := x
  obtain ⟨⟨f1, f2⟩, f3⟩ := F
  simp only [Prod.mk.injEq] at hF
  obtain ⟨⟨rfl, rfl⟩, hF⟩ := hF
  unfold accv at hA ⊢
  unfold wc at hcell
  dsimp only at hA ⊢
  have HK := Lib.hid (And.intro hA (And.intro hW hF))
  clear hA hW hO hF
  go_enter Tryz.func111, Tryz.ntmps111
  go_wp2_with fail
  refine HK.out.1.mono ?_
  rintro e W3 ⟨rfl, hb⟩
  obtain ⟨g, hg⟩ : ∃ g, W3.heap.size = g := ⟨_, rfl⟩
  obtain ⟨W5, hW5⟩ : ∃ W5, W3.alloc (.cells #[.int .i64 x1, .int .i64 x2] 55) = W5 := ⟨_, rfl⟩
  have H4 := Lib.hid (show Hs w [(g, .cells #[.int .i64 x1, .int .i64 x2] 55 (0, 0)), (w.heap.size, .cells #[.int .i64 0, .int .i64 0] 55 (0, 0))] W5 by
    rw [← hW5, ← hg]
    exact ((HB.out.below hb).alloc _).cons (heap_alloc_new W3 _))
  clear hb hcell hWW
  have hcell : ∀ j, W5.cell? ⟨pw, j, none⟩ = (wc pl c a)[j]? := (HK.out.2.1.below H4.out.1).cell
  unfold wc at hcell
  have d1 : ∀ j, W5.cell? ⟨w.heap.size, j, none⟩ = (#[.int .i64 0, .int .i64 0] : Array Value)[j]? := blk_cell (H4.out.at w.heap.size _ (by (first | exact hs_mem0 | exact hs_mem1 | exact hs_mem2 | exact hs_mem3 | exact hs_mem4)))
  have e1 : ∀ j, W5.frozen? ⟨w.heap.size, j, none⟩ = false := blk_frozen (H4.out.at w.heap.size _ (by (first | exact hs_mem0 | exact hs_mem1 | exact hs_mem2 | exact hs_mem3 | exact hs_mem4)))
  have d2 : ∀ j, W5.cell? ⟨g, j, none⟩ = (#[.int .i64 x1, .int .i64 x2] : Array Value)[j]? := blk_cell (H4.out.at g _ (by (first | exact hs_mem0 | exact hs_mem1 | exact hs_mem2 | exact hs_mem3 | exact hs_mem4)))
  have hF := HK.out.2.2
  rcases hy : (ae == 0) with _ | _
  · rw [hy] at hF
    simp only [Bool.false_eq_true, if_false] at hF
    subst hF
    go_wp2_with fail
    go_quiet (fail)
    go_wp2
    refine bodyPost_ret (res_cell_tmp rfl rfl (two_set (w := W5.drewN nq) (H4.out.at w.heap.size _ (by (first | exact hs_mem0 | exact hs_mem1 | exact hs_mem2 | exact hs_mem3 | exact hs_mem4))) _ _) Tryz.underlying55 rfl (by kernel_rfl)) rfl ⟨rfl, ?_⟩
    exact ((H4.out.1.trans (below_drewN _ _ |>.mono H4.out.1.size)).setCell (p := ⟨w.heap.size, 0, none⟩) (by simp) _).setCell (p := ⟨w.heap.size, 1, none⟩) (by simp) _
  · rw [hy] at hF
    simp only [if_true] at hF
    rcases hab : (c.a == c.b) with _ | _
    · rw [hab] at hF
      simp only [Bool.false_eq_true, if_false] at hF
      subst hF
      go_wp2_with fail
      go_quiet (fail)
      go_wp2
      refine bodyPost_ret (res_cell_tmp rfl rfl (two_set (w := W5.drewN nq) (H4.out.at w.heap.size _ (by (first | exact hs_mem0 | exact hs_mem1 | exact hs_mem2 | exact hs_mem3 | exact hs_mem4))) _ _) Tryz.underlying55 rfl (by kernel_rfl)) rfl ⟨rfl, ?_⟩
      exact ((H4.out.1.trans (below_drewN _ _ |>.mono H4.out.1.size)).setCell (p := ⟨w.heap.size, 0, none⟩) (by simp) _).setCell (p := ⟨w.heap.size, 1, none⟩) (by simp) _
    · rw [hab] at hF
      simp only [if_true] at hF
      rcases may with _ | _
      all_goals
        simp only [Bool.false_eq_true, if_false, if_true] at hF
        subst hF
        go_wp2_with fail
        go_quiet (fail)
        go_wp2
        refine bodyPost_ret (res_cell_tmp rfl rfl (two_set (w := W5.drewN nq) (H4.out.at w.heap.size _ (by (first | exact hs_mem0 | exact hs_mem1 | exact hs_mem2 | exact hs_mem3 | exact hs_mem4))) _ _) Tryz.underlying55 rfl (by kernel_rfl)) rfl ⟨rfl, ?_⟩
        exact ((H4.out.1.trans (below_drewN _ _ |>.mono H4.out.1.size)).setCell (p := ⟨w.heap.size, 0, none⟩) (by simp) _).setCell (p := ⟨w.heap.size, 1, none⟩) (by simp) _
end Go.Proofs.YtmkcbkdbdcnoiaaGreatDoor
namespace Go.Proofs.YtmkcbkdbdcnoiaaGreatDoor
open Go.RowKit
set_option linter.unusedVariables false
set_option linter.unusedSimpArgs false

/-- A mail of the account's, and its key. -/
def poF (l : List Par) (c : Cmd) : Ml × Str × Int := match tget l (kKey 3 c.a 0 c.b).1 with
  | none => ((0, 0, 0, 0), [], 161)
  | some s => ((mlParse s).1, (kKey 3 c.a 0 c.b).1, (mlParse s).2)
theorem res_cell_tmp2' {P : Program} {fn : Func} {p u x : Tmp} {ty t : TypeId} {tmps : Array Value} {w : World} {g : Nat} {cs : Array Value} {fr : Nat × Nat} {d : TypeDesc} (h : fn.results = #[.cell p ty, .tmp u, .tmp x])
    (hp : tmps.getD p undef = .pointer (some ⟨g, 0, none⟩)) (hb : w.heap[g]? = some (.cells cs t fr)) (hu : P.underlying ty = some d) (hd : d.isRow = true) (hi : (P.info? ty).map (·.size) = some cs.size) :
    (results fn tmps).run P w = .ok (.tuple #[.agg cs, tmps.getD u undef, tmps.getD x undef]) w := res_cell_tmp2 h hp hb hu hd hi

set_option maxHeartbeats 2000000 in
set_option maxRecDepth 100000 in
theorem wpost_any (B pl pw n : Nat) (l : List Par) (c : Cmd) (a : Ans) (w : World) (hW : Wk B pl pw l c a w) (hO : Ok n l) (hn : n ≤ 100000) (hc : CmdOk c) :
    Calls Tryz.prog 119 #[.pointer (some ⟨pw, 0, none⟩)] w fun e w' => e = .returned (.tuple #[mlv (poF l c).1, sv (poF l c).2.1, .int .i64 (poF l c).2.2]) ∧ Below w.heap.size w w' := by
  obtain ⟨W, hWW⟩ : ∃ W, w.alloc (.cells #[.int .u32 0, .int .i64 0, .int .u16 0, .int .i64 0] 64) = W := ⟨_, rfl⟩
  have HB := Lib.hid (show Hs w [(w.heap.size, .cells #[.int .u32 0, .int .i64 0, .int .u16 0, .int .i64 0] 64 (0, 0))] W from ⟨hWW ▸ (Below.refl _ w).alloc (Nat.le_refl _) _, fun x hx => by simp only [List.mem_cons, List.not_mem_nil, or_false] at hx; subst hx; rw [← hWW]; exact heap_alloc_new w _⟩)
  have hK := fun V => wkey_any 3 c.a 0 c.b V ⟨hc.a.1, hc.a.2, by omega, by omega, hc.b.1, hc.b.2⟩
  have hcell := (hW.below HB.out.1).cell
  obtain ⟨F, hF⟩ : ∃ F, poF l c = F := ⟨_, rfl⟩
  rw [hF]
  unfold poF at hF
  generalize (kKey 3 c.a 0 c.b).1 = k at hK hF
  have hT := fun V (h : Wk B pl pw l c a V) => wtext_any B pl pw n l c a k V h hO hn
  have hlen := tget_len (k := k) hO
  obtain ⟨⟨f1, f2, f3, f4⟩, fs, fe⟩ := F
  unfold sv at hK hT
  unfold mlv sv
  dsimp only
  have p2 : W.cell? ⟨pw, 2, none⟩ = some (.int .u32 c.a) := hcell 2
  have p3 : W.cell? ⟨pw, 3, none⟩ = some (.int .u32 c.b) := hcell 3
  have HK := Lib.hid (And.intro hK (And.intro hT (And.intro hW hF)))
  clear hK hT hW hF hO hcell
  go_enter Tryz.func119, Tryz.ntmps119
  go_wp2_with fail
  go_region_held3 (fun W' => W'.cell? ⟨pw, 2, none⟩ = some (.int .u32 c.a) ∧ W'.cell? ⟨pw, 3, none⟩ = some (.int .u32 c.b))
    (first | with_reducible exact ⟨q2, q3⟩ | with_reducible exact ⟨cell_drew q2, cell_drew q3⟩ | with_reducible exact ⟨p2, p3⟩ | with_reducible exact ⟨cell_drew p2, cell_drew p3⟩)
    ((go_at_call 66; (with_reducible refine (HK.out.1 _).mono ?_); rintro e W2 ⟨rfl, hb⟩; have hb2 := (Below.drew (Below.refl _ W)).trans hb; have q2 := cell_keep p2 hb2; have q3 := cell_keep p3 hb2; have H2 := Lib.hid (HB.out.below hb2); clear hb hb2))
  clear p2 p3 q2 q3 hWW
  go_wp2_with fail
  refine (HK.out.2.1 W2 (HK.out.2.2.1.below H2.out.1)).mono ?_
  rintro e W3 ⟨rfl, hb⟩
  have H3 := Lib.hid (H2.out.below hb)
  clear hb
  have d1 : ∀ j, W3.cell? ⟨w.heap.size, j, none⟩ = (#[.int .u32 0, .int .i64 0, .int .u16 0, .int .i64 0] : Array Value)[j]? := blk_cell (H3.out.at _ _ (by (first | exact hs_mem0 | exact hs_mem1 | exact hs_mem2 | exact hs_mem3 | exact hs_mem4)))
  have e1 : ∀ j, W3.frozen? ⟨w.heap.size, j, none⟩ = false := blk_frozen (H3.out.at _ _ (by (first | exact hs_mem0 | exact hs_mem1 | exact hs_mem2 | exact hs_mem3 | exact hs_mem4)))
  have hF := HK.out.2.2.2
  rcases ht : tget l k with _ | s
  · rw [ht] at hF
    simp only [Prod.mk.injEq] at hF
    obtain ⟨⟨rfl, rfl, rfl, rfl⟩, rfl, rfl⟩ := hF
    go_wp2
    refine bodyPost_ret (res_cell_tmp2 rfl rfl (four_set (H3.out.at _ _ (by (first | exact hs_mem0 | exact hs_mem1 | exact hs_mem2 | exact hs_mem3 | exact hs_mem4))) _ _ _ _) Tryz.underlying64 rfl (by kernel_rfl)) rfl ⟨rfl, ?_⟩
    exact four_below H3.out.1 (Nat.le_refl _) _ _ _ _
  · rw [ht] at hF hlen
    simp only [Option.getD_some] at hlen
    have hP := mlparse_any ⟨s.toArray⟩ W3 (by simp [ByteArray.size]; omega)
    simp only at hP hF
    obtain ⟨P, hPP⟩ : ∃ P, mlParse s = P := ⟨_, rfl⟩
    obtain ⟨⟨m1, m2, m3, m4⟩, pe⟩ := P
    rw [hPP] at hP hF
    simp only [Prod.mk.injEq] at hF
    obtain ⟨⟨rfl, rfl, rfl, rfl⟩, rfl, rfl⟩ := hF
    unfold mlv at hP
    dsimp only at hP
    have HP := Lib.hid hP
    clear hP hPP d1 e1
    go_wp2_with fail
    refine HP.out.mono ?_
    rintro e W4 ⟨rfl, hb⟩
    obtain ⟨g, hg⟩ : ∃ g, W4.heap.size = g := ⟨_, rfl⟩
    obtain ⟨W5, hW5⟩ : ∃ W5, W4.alloc (.cells #[.int .u32 m1, .int .i64 m2, .int .u16 m3, .int .i64 m4] 64) = W5 := ⟨_, rfl⟩
    have H4 := Lib.hid (show Hs w [(g, .cells #[.int .u32 m1, .int .i64 m2, .int .u16 m3, .int .i64 m4] 64 (0, 0)), (w.heap.size, .cells #[.int .u32 0, .int .i64 0, .int .u16 0, .int .i64 0] 64 (0, 0))] W5 by
      rw [← hW5, ← hg]
      exact ((H3.out.below hb).alloc _).cons (heap_alloc_new W4 _))
    clear hb
    have d1 : ∀ j, W5.cell? ⟨w.heap.size, j, none⟩ = (#[.int .u32 0, .int .i64 0, .int .u16 0, .int .i64 0] : Array Value)[j]? := blk_cell (H4.out.at w.heap.size _ (by (first | exact hs_mem0 | exact hs_mem1 | exact hs_mem2 | exact hs_mem3 | exact hs_mem4)))
    have e1 : ∀ j, W5.frozen? ⟨w.heap.size, j, none⟩ = false := blk_frozen (H4.out.at w.heap.size _ (by (first | exact hs_mem0 | exact hs_mem1 | exact hs_mem2 | exact hs_mem3 | exact hs_mem4)))
    have d2 : ∀ j, W5.cell? ⟨g, j, none⟩ = (#[.int .u32 m1, .int .i64 m2, .int .u16 m3, .int .i64 m4] : Array Value)[j]? := blk_cell (H4.out.at g _ (by (first | exact hs_mem0 | exact hs_mem1 | exact hs_mem2 | exact hs_mem3 | exact hs_mem4)))
    go_wp2
    refine bodyPost_ret (res_cell_tmp2 rfl rfl (four_set (H4.out.at w.heap.size _ (by (first | exact hs_mem0 | exact hs_mem1 | exact hs_mem2 | exact hs_mem3 | exact hs_mem4))) _ _ _ _) Tryz.underlying64 rfl (by kernel_rfl)) rfl ⟨rfl, ?_⟩
    exact four_below H4.out.1 (Nat.le_refl _) _ _ _ _
end Go.Proofs.YtmkcbkdbdcnoiaaGreatDoor
