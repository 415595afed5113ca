/- Package mail: Parse. goods.Count. goods.place: the search in goods' piles. goods.piles, place, with. -/
import Derived.Deep.CutBlock
import Derived.StillTailTactics
import Derived.Deep.RegionHeld3
import Derived.Test.YtmkcbkdbdcnoiaaGreatDoorG02
import Derived.Test.YtmkcbkdbdcnoiaaGreatDoorG04
import Derived.Test.YtmkcbkdbdcnoiaaGreatDoorG05
import Derived.Test.YtmkcbkdbdcnoiaaGreatDoorG06
namespace Go.Proofs.YtmkcbkdbdcnoiaaGreatDoor
open Go.RowKit
set_option linter.unusedVariables false
set_option linter.unusedSimpArgs false
attribute [local go_sem] Oper.semAt_some

/-- The mail of bytes. -/
def mlOf (s : List UInt8) : Ml := (((num (s.take 4) : Nat) : Int), sx (num ((s.drop 4).take 8)), ((num (((s.drop 4).drop 8).take 2) : Nat) : Int), sx (num ((((s.drop 4).drop 8).drop 2).take 8)))
def mlParse (s : List UInt8) : Ml × Int := if s.length = 22 ∧ mlRight (mlOf s) = true then (mlOf s, 0) else ((0, 0, 0, 0), 140)

def marr : List (Nat × Nat) → Array Value
  | [] => #[.int .u64 0, .int .u64 0, .int .u64 0, .int .u64 0]
  | [x] => #[.int .u64 (x.2 : Int), .int .u64 0, .int .u64 0, .int .u64 0]
  | [x, y] => #[.int .u64 (x.2 : Int), .int .u64 (y.2 : Int), .int .u64 0, .int .u64 0]
  | [x, y, z] => #[.int .u64 (x.2 : Int), .int .u64 (y.2 : Int), .int .u64 (z.2 : Int), .int .u64 0]
  | x :: y :: z :: u :: _ => #[.int .u64 (x.2 : Int), .int .u64 (y.2 : Int), .int .u64 (z.2 : Int), .int .u64 (u.2 : Int)]
def MlI (w : World) (pre : List (Nat × Nat)) (nb : Nat) (W : World) : Prop :=
  W.heap[w.heap.size + 1]? = some (.cells (marr pre) 247 (0, 0)) ∧ W.heap[w.heap.size]? = some (.cells #[.int .u32 0, .int .i64 0, .int .u16 0, .int .i64 0] 64 (0, 0)) ∧ W.heap[w.heap.size + 2]? = some (.cells #[.int .u32 0, .int .i64 0, .int .u16 0, .int .i64 0] 64 (0, 0)) ∧ Below w.heap.size w W
theorem mlOf_wrap {n : Nat} (h : n < 18446744073709551616) : IntKind.i64.wrap (n : Int) = sx n := by
  unfold sx wrap64
  rw [IntKind.wrap_i64]

set_option maxHeartbeats 2000000 in
set_option maxRecDepth 100000 in
theorem mlparse_any (s : ByteArray) (w : World) (hs : s.size ≤ 1000000) : Calls Tryz.prog 165 #[.string s] w fun e w' => e = .returned (.tuple #[mlv (mlParse s.data.toList).1, .int .i64 (mlParse s.data.toList).2]) ∧ Below w.heap.size w w' := by
  obtain ⟨R, hR⟩ : ∃ R, mlParse s.data.toList = R := ⟨_, rfl⟩
  rw [hR]
  unfold mlParse at hR
  by_cases h22 : s.size = 22
  · have hnn : ((s.size : Int) != 22) = false := by simp; omega
    have hlen : s.data.toList.length = 22 := h22
    simp only [hlen, true_and] at hR
    refine (callsIn_wide (n := 9)).1 ?_
    refine callsIn_of_wp_marks Tryz.func165 rfl trivial ?_ rfl
    simp only [Tryz.ntmps165, List.size_toArray, List.length_cons, List.length_nil, Nat.reduceAdd, Nat.reduceSub, Array.replicate_succ, Array.replicate_zero, List.push_toArray, List.append_toArray, List.nil_append, List.cons_append]
    refine wpIn_wide.2 ?_
    have HR := Lib.hid hR
    have HL := Lib.hid (And.intro h22 hlen)
    clear hR hlen
    go_wp2_with fail
    refine wp_scope_straight ?_
    go_wp2_with fail
    obtain ⟨W3, hW3⟩ : ∃ W3, (((w.alloc (.cells #[.int .u32 0, .int .i64 0, .int .u16 0, .int .i64 0] 64)).alloc (.cells #[.int .u64 0, .int .u64 0, .int .u64 0, .int .u64 0] 247)).alloc (.cells #[.int .u32 0, .int .i64 0, .int .u16 0, .int .i64 0] 64)) = W3 := ⟨_, rfl⟩
    obtain ⟨z0, z1, z2, z3, z4⟩ := three_new w (.cells #[.int .u32 0, .int .i64 0, .int .u16 0, .int .i64 0] 64) (.cells #[.int .u64 0, .int .u64 0, .int .u64 0, .int .u64 0] 247) (.cells #[.int .u32 0, .int .i64 0, .int .u16 0, .int .i64 0] 64)
    rw [hW3] at z0 z1 z2 z3 z4
    try rw [hW3]
    have H3 := Lib.hid (And.intro z0 (And.intro z1 (And.intro z2 (And.intro z3 z4))))
    clear z1 z2 z3 z4 hW3
    go_step3
    go_wp2_with (go_at_call 193; refine (mnumbers_any _ _ _ ⟨_, _, _, rfl⟩).mono ?_; rintro e w' ⟨rfl, rfl⟩)
    obtain ⟨W0, hW0⟩ : ∃ W0, ((W3.alloc (.cells #[.int .i64 4, .int .i64 8, .int .i64 2, .int .i64 8] 3)).alloc (.cells #[.string s] 9)).alloc (.cells #[.slice (some ⟨w.heap.size + 3, 0, none⟩) 4 4] 252) = W0 := ⟨_, rfl⟩
    have Z : Hid (W0.heap.size = w.heap.size + 6 ∧ W0.heap[w.heap.size + 3]? = some (.cells #[.int .i64 4, .int .i64 8, .int .i64 2, .int .i64 8] 3 (0, 0)) ∧ W0.heap[w.heap.size + 3 + 1]? = some (.cells #[.string s] 9 (0, 0)) ∧ W0.heap[w.heap.size + 3 + 1 + 1]? = some (.cells #[.slice (some ⟨w.heap.size + 3, 0, none⟩) 4 4] 252 (0, 0)) ∧ MlI w [] W0.heap.size W0) := Lib.hid (by
      obtain ⟨h0, h1, h2, h3, h4⟩ := H3.out
      obtain ⟨z0, z1, z2, z3, z4⟩ := three_new W3 (.cells #[.int .i64 4, .int .i64 8, .int .i64 2, .int .i64 8] 3) (.cells #[.string s] 9) (.cells #[.slice (some ⟨w.heap.size + 3, 0, none⟩) 4 4] 252)
      rw [h0] at z0 z1 z2 z3
      rw [← hW0]
      exact ⟨z0, z1, z2, z3, keep_b (W := W3) h2 z4, keep_b (W := W3) h1 z4, keep_b (W := W3) h3 z4, h4.trans (z4.mono h4.size)⟩)
    rw [hW0]
    clear hW0 H3 z0
    refine (wpIn_wide (n := 9)).1 ?_
    have hit := mnumbers_iter 8 (w.heap.size + 3 + 1 + 1) (w.heap.size + 3 + 1) (w.heap.size + 3) [4, 8, 2, 8] s W0 (by rw [HL.out.1]; rfl) (by intro k hk; simp at hk; omega) (by simp) ⟨Z.out.2.2.2.1, by have := Z.out.2.1; simpa using this⟩ Z.out.2.2.1 ⟨by omega, by omega⟩ (by omega)
    have hxs : rows 0 [4, 8, 2, 8] s.data.toList = [(0, num (s.data.toList.take 4)), (1, num ((s.data.toList.drop 4).take 8)), (2, num (((s.data.toList.drop 4).drop 8).take 2)), (3, num ((((s.data.toList.drop 4).drop 8).drop 2).take 8))] := rfl
    rw [hxs] at hit
    unfold mlOf at HR
    have hb1 := num_lt (s.data.toList.take 4)
    have hb2 := num_take_lt (s.data.toList.drop 4) 8 (by omega)
    have hb3 := num_lt (((s.data.toList.drop 4).drop 8).take 2)
    have hb4 := num_take_lt (((s.data.toList.drop 4).drop 8).drop 2) 8 (by omega)
    have l1 : (s.data.toList.take 4).length = 4 := by rw [List.length_take, HL.out.2]; omega
    have l3 : (((s.data.toList.drop 4).drop 8).take 2).length = 2 := by rw [List.length_take, List.length_drop, List.length_drop, HL.out.2]; omega
    rw [l1, show (256 : Nat) ^ 4 = 4294967296 by decide] at hb1
    rw [l3, show (256 : Nat) ^ 2 = 65536 by decide] at hb3
    clear hxs l1 l3 HL
    generalize num (s.data.toList.take 4) = a at *
    generalize num ((s.data.toList.drop 4).take 8) = b at *
    generalize num (((s.data.toList.drop 4).drop 8).take 2) = c at *
    generalize num ((((s.data.toList.drop 4).drop 8).drop 2).take 8) = d at *
    have HIT := Lib.hid hit
    clear hit
    refine wp_range (gf := 205) (lb := #[.pointer (some ⟨w.heap.size + 3 + 1 + 1, 0, none⟩), .pointer (some ⟨w.heap.size + 3 + 1, 0, none⟩)]) rfl (enters_of Tryz.func205 (by kernel_rfl) rfl)
      HIT.out (by rintro k rfl; have := Z.out.1; omega) (by rintro k (rfl | rfl) <;> (have := Z.out.1; omega)) (fun x => rfl)
      (MlI w) (fun _ _ _ => False) ?hI ?hm ?hIx ?h0
      (fun x a' W => a' = { tmps := #[.string s, undef, .pointer (some ⟨w.heap.size, 0, none⟩), .int .i64 0, .pointer (some ⟨w.heap.size + 1, 0, none⟩), .pointer (some ⟨w.heap.size + 1 + 1, 0, none⟩), .int .i64 (x.1 : Int), .int .u64 (x.2 : Int), .string s, .int .i64 22, .bool false, .string s, .slice (some ⟨w.heap.size + 3, 0, none⟩) 4 4, .func (.func 205) #[] #[.pointer (some ⟨w.heap.size + 3 + 1 + 1, 0, none⟩), .pointer (some ⟨w.heap.size + 3 + 1, 0, none⟩)], .int .i64 (x.1 : Int), .int .u64 (x.2 : Int), undef, undef, undef, undef, undef, undef, undef, undef, undef, undef, undef, undef, undef, undef, undef, undef, undef, undef, undef, undef, undef, undef, undef], defers := [] }) (fun _ _ _ _ h _ _ => h) ?assign ?body ?done ?stop
    case hm => intro pre nb nb' A' h hle; exact h
    case hI =>
      rintro pre nb A' B ⟨h1, h2, h3, h4⟩ hA hS
      have z0 := Z.out.1
      exact ⟨hS.at_ h1 ⟨by simp, by omega⟩, hS.at_ h2 ⟨by simp; omega, by omega⟩, hS.at_ h3 ⟨by simp, by omega⟩, h4.trans (hS.below (by omega) (fun k hk => ⟨by simp; omega, by omega⟩))⟩
    case hIx => intro q pre A' B h; exact h.elim
    case h0 => exact Z.out.2.2.2.2
    case stop => intro q pre W _ h; exact h.elim
    case assign =>
      intro l pre x rest nb W K _ hi _ _ hK
      dsimp only [encRow]
      gi_wp2
      exact hK _ _ (Same.refl _ _) hi rfl
    case body =>
      rintro lp pre x rest nb a' W hxs ⟨h1, h2, h3, h4⟩ rfl hn hlen
      have z0 := Z.out.1
      have hnot : ¬ Theirs W0 (fun k => k = w.heap.size + 3 + 1) (fun k => k = w.heap.size + 3 + 1 + 1 ∨ k = w.heap.size + 3) 0 nb (w.heap.size + 1) := by
        rintro (h | (h | h) | h | h) <;> omega
      have c1 : ∀ j, W.cell? ⟨w.heap.size + 1, j, none⟩ = (marr pre)[j]? := blk_cell h1
      have f1 : ∀ j, W.frozen? ⟨w.heap.size + 1, j, none⟩ = false := blk_frozen h1
      have HH := Lib.hid (And.intro h1 (And.intro h2 (And.intro h3 h4)))
      clear h1 h2 h3 h4
      have fin : ∀ (j : Nat) (u : Value) (pre' : List (Nat × Nat)), (marr pre).setIfInBounds j u = marr pre' → Same (Theirs W0 (fun k => k = w.heap.size + 3 + 1) (fun k => k = w.heap.size + 3 + 1 + 1 ∨ k = w.heap.size + 3) 0 nb) W (W.setCell ⟨w.heap.size + 1, j, none⟩ u) ∧ MlI w pre' (W.setCell ⟨w.heap.size + 1, j, none⟩ u).heap.size (W.setCell ⟨w.heap.size + 1, j, none⟩ u) := by
        intro j u pre' he
        obtain ⟨h1, h2, h3, h4⟩ := HH.out
        refine ⟨(Same.refl _ W).setCell (p := ⟨w.heap.size + 1, j, none⟩) (fun _ => hnot) _, ?_, ?_, ?_, h4.setCell (p := ⟨w.heap.size + 1, j, none⟩) (by simp) _⟩
        · rw [← he]; exact blk_set h1 j u
        · rw [Below.heap_setCell _ _ _ _ (by simp)]; exact h2
        · rw [Below.heap_setCell _ _ _ _ (by simp)]; exact h3
      have HF := Lib.hid fin
      clear fin
      rcases pre with _ | ⟨p0, _ | ⟨p1, _ | ⟨p2, _ | ⟨p3, pre⟩⟩⟩⟩
      · simp only [List.nil_append, List.cons.injEq] at hxs
        obtain ⟨rfl, _⟩ := hxs
        dsimp only [marr] at c1
        gi_wp2
        exact HF.out 0 _ _ rfl
      · simp only [List.cons_append, List.nil_append, List.cons.injEq] at hxs
        obtain ⟨rfl, rfl, _⟩ := hxs
        dsimp only [marr] at c1
        gi_wp2
        exact HF.out 1 _ _ rfl
      · simp only [List.cons_append, List.nil_append, List.cons.injEq] at hxs
        obtain ⟨rfl, rfl, rfl, _⟩ := hxs
        dsimp only [marr] at c1
        gi_wp2
        exact HF.out 2 _ _ rfl
      · simp only [List.cons_append, List.nil_append, List.cons.injEq] at hxs
        obtain ⟨rfl, rfl, rfl, rfl, _⟩ := hxs
        dsimp only [marr] at c1
        gi_wp2
        exact HF.out 3 _ _ rfl
      · have := congrArg List.length hxs
        simp at this
    case done =>
      rintro W ⟨h1, h2, h3, h4⟩ hsz hD
      have z0 := Z.out.1
      have c1 : ∀ j, W.cell? ⟨w.heap.size + 1, j, none⟩ = (#[.int .u64 (a : Int), .int .u64 (b : Int), .int .u64 (c : Int), .int .u64 (d : Int)] : Array Value)[j]? := blk_cell h1
      have c2 : ∀ j, W.cell? ⟨w.heap.size + 1 + 1, j, none⟩ = (#[.int .u32 0, .int .i64 0, .int .u16 0, .int .i64 0] : Array Value)[j]? := blk_cell h3
      have f2 : ∀ j, W.frozen? ⟨w.heap.size + 1 + 1, j, none⟩ = false := blk_frozen h3
      have x1 : IntKind.u32.wrap (a : Int) = (a : Int) := IntWalk.u32_in _ (by omega)
      have x3 : IntKind.u16.wrap (c : Int) = (c : Int) := IntWalk.u16_in _ (by omega)
      have x2 : IntKind.i64.wrap (b : Int) = sx b := mlOf_wrap hb2
      have x4 : IntKind.i64.wrap (d : Int) = sx d := mlOf_wrap hb4
      have HH := Lib.hid (And.intro h1 (And.intro h2 (And.intro h3 (And.intro h4 hD))))
      clear h1 h2 h3 h4 hD
      obtain ⟨W4, hW4⟩ : ∃ W4, (((W.setCell ⟨w.heap.size + 1 + 1, 0, none⟩ (.int .u32 (a : Int))).setCell ⟨w.heap.size + 1 + 1, 1, none⟩ (.int .i64 (sx b))).setCell ⟨w.heap.size + 1 + 1, 2, none⟩ (.int .u16 (c : Int))).setCell ⟨w.heap.size + 1 + 1, 3, none⟩ (.int .i64 (sx d)) = W4 := ⟨_, rfl⟩
      have H4 : Hid (Below w.heap.size w W4 ∧ W4.heap[w.heap.size]? = some (.cells #[.int .u32 0, .int .i64 0, .int .u16 0, .int .i64 0] 64 (0, 0)) ∧ W4.heap[w.heap.size + 1 + 1]? = some (.cells #[.int .u32 (a : Int), .int .i64 (sx b), .int .u16 (c : Int), .int .i64 (sx d)] 64 (0, 0)) ∧ W4.heap[W0.heap.size]? = some (.deferred (some []))) := Lib.hid (by
        obtain ⟨h1, h2, h3, h4, hD⟩ := HH.out
        rw [← hW4]
        refine ⟨four_below h4 (by omega) _ _ _ _, ?_, four_set h3 _ _ _ _, ?_⟩
        · rw [Below.heap_setCell _ _ _ _ (by simp; omega), Below.heap_setCell _ _ _ _ (by simp; omega), Below.heap_setCell _ _ _ _ (by simp; omega), Below.heap_setCell _ _ _ _ (by simp; omega)]; exact h2
        · rw [Below.heap_setCell _ _ _ _ (by simp; omega), Below.heap_setCell _ _ _ _ (by simp; omega), Below.heap_setCell _ _ _ _ (by simp; omega), Below.heap_setCell _ _ _ _ (by simp; omega)]; exact hD)
      have hA := mlright_any ((a : Int), sx b, (c : Int), sx d) W4
      unfold mlv at hA
      dsimp only at hA
      have c4 : ∀ j, W4.cell? ⟨w.heap.size + 1 + 1, j, none⟩ = (#[.int .u32 (a : Int), .int .i64 (sx b), .int .u16 (c : Int), .int .i64 (sx d)] : Array Value)[j]? := blk_cell H4.out.2.2.1
      rcases hr : mlRight ((a : Int), sx b, (c : Int), sx d) with _ | _
      all_goals
        rw [hr] at hA
        have HA := Lib.hid hA
        clear hA
        go_wp2_with fail
        try simp only [hW4]
        refine HA.out.mono ?_
        rintro e W5 ⟨rfl, hb⟩
        have H5 : Hid (Below w.heap.size w W5 ∧ W5.heap[w.heap.size]? = some (.cells #[.int .u32 0, .int .i64 0, .int .u16 0, .int .i64 0] 64 (0, 0)) ∧ W5.heap[w.heap.size + 1 + 1]? = some (.cells #[.int .u32 (a : Int), .int .i64 (sx b), .int .u16 (c : Int), .int .i64 (sx d)] 64 (0, 0)) ∧ W5.heap[W0.heap.size]? = some (.deferred (some []))) := Lib.hid (by
          obtain ⟨h1, h2, h3, h4⟩ := H4.out
          exact ⟨h1.trans (hb.mono h1.size), keep_b h2 hb, keep_b h3 hb, keep_b h4 hb⟩)
        have c5 : ∀ j, W5.cell? ⟨w.heap.size + 1 + 1, j, none⟩ = (#[.int .u32 (a : Int), .int .i64 (sx b), .int .u16 (c : Int), .int .i64 (sx d)] : Array Value)[j]? := blk_cell H5.out.2.2.1
        have c6 : ∀ j, W5.cell? ⟨w.heap.size, j, none⟩ = (#[.int .u32 0, .int .i64 0, .int .u16 0, .int .i64 0] : Array Value)[j]? := blk_cell H5.out.2.1
        have f6 : ∀ j, W5.frozen? ⟨w.heap.size, j, none⟩ = false := blk_frozen H5.out.2.1
        clear hb c4 hW4 c1 c2 f2 x1 x2 x3 x4
        go_wp2
      · go_step3
        go_wp2
        dsimp only [Exit.noGoto]
        obtain ⟨h1, h2, h3, hD⟩ := H5.out
        rw [z0] at hD
        have hR := HR.out
        rw [hr] at hR
        simp only [Bool.false_eq_true, if_false, if_true] at hR
        subst hR
        have hne : w.heap.size + 6 ≠ w.heap.size := by omega
        refine ⟨by simp, .inl ⟨_, _, rfl, run_takeDeferred (by rw [Below.heap_setCell _ _ _ _ hne, Below.heap_setCell _ _ _ _ hne, Below.heap_setCell _ _ _ _ hne, Below.heap_setCell _ _ _ _ hne]; exact hD), ?_⟩⟩
        refine ⟨_, res_cell_tmp rfl rfl ((World.putObj_heap_other (Ne.symm hne)).trans (four_set h2 _ _ _ _)) Tryz.underlying64 rfl (by kernel_rfl), ?_⟩
        refine ⟨rfl, ?_⟩
        exact (four_below h1 (Nat.le_refl _) _ _ _ _).trans (((Same.refl (fun k => k < w.heap.size) _).putObj _ (fun _ h => by omega)).below (by have := h1.size; simp [World.setCell]; omega) fun k hk => hk)
      · dsimp only [Exit.noGoto]
        obtain ⟨h1, h2, h3, hD⟩ := H5.out
        rw [z0] at hD
        have hR := HR.out
        rw [hr] at hR
        simp only [Bool.false_eq_true, if_false, if_true] at hR
        subst hR
        have hne : w.heap.size + 6 ≠ w.heap.size := by omega
        refine ⟨by simp, .inl ⟨_, _, rfl, run_takeDeferred (by rw [Below.heap_setCell _ _ _ _ hne, Below.heap_setCell _ _ _ _ hne, Below.heap_setCell _ _ _ _ hne, Below.heap_setCell _ _ _ _ hne]; exact hD), ?_⟩⟩
        refine ⟨_, res_cell_tmp rfl rfl ((World.putObj_heap_other (Ne.symm hne)).trans (four_set h2 _ _ _ _)) Tryz.underlying64 rfl (by kernel_rfl), ?_⟩
        refine ⟨rfl, ?_⟩
        exact (four_below h1 (Nat.le_refl _) _ _ _ _).trans (((Same.refl (fun k => k < w.heap.size) _).putObj _ (fun _ h => by omega)).below (by have := h1.size; simp [World.setCell]; omega) fun k hk => hk)
  · have hn : ((s.size : Int) != 22) = true := by simp; omega
    rw [if_neg (fun h => h22 h.1)] at hR
    subst hR
    unfold mlv
    go_enter Tryz.func165, Tryz.ntmps165
    go_wp2
    refine wp_scope_goto 0 rfl ?_
    go_wp2
    go_step3
    refine ⟨rfl, ?_⟩
    obtain ⟨z0, z1, z2, z3, z4⟩ := three_new w (.cells #[.int .u32 0, .int .i64 0, .int .u16 0, .int .i64 0] 64) (.cells #[.int .u64 0, .int .u64 0, .int .u64 0, .int .u64 0] 247) (.cells #[.int .u32 0, .int .i64 0, .int .u16 0, .int .i64 0] 64)
    have Z := Lib.hid (And.intro z1 z4)
    clear z0 z1 z2 z3 z4
    go_wp2
    dsimp only [Exit.noGoto]
    exact bodyPost_ret (res_cell_tmp rfl rfl Z.out.1 Tryz.underlying64 rfl (by kernel_rfl)) rfl ⟨rfl, Z.out.2⟩
end Go.Proofs.YtmkcbkdbdcnoiaaGreatDoor
namespace Go.Proofs.YtmkcbkdbdcnoiaaGreatDoor
open Go.RowKit
set_option linter.unusedVariables false
set_option linter.unusedSimpArgs false
attribute [local go_sem] Oper.semAt_some

theorem load_one {P : Program} {ty t : TypeId} {w : World} {g : Nat} {v : Value} {fr : Nat × Nat} (ht : (isAgg ty).run P w = .ok false w) (h : w.heap[g]? = some (.cells #[v] t fr)) : (loadVar ty ⟨g, 0, none⟩).run P w = .ok v w := by
  have hc : w.cell? ⟨g, 0, none⟩ = some v := blk_cell h 0
  simp [loadVar, ht, Result.andThen, go_sem, hc]
theorem res_one {P : Program} {fn : Func} {p : Tmp} {ty t : TypeId} {tmps : Array Value} {w : World} {g : Nat} {v : Value} {fr : Nat × Nat} (h : fn.results = #[.cell p ty])
    (hp : tmps.getD p undef = .pointer (some ⟨g, 0, none⟩)) (ht : (isAgg ty).run P w = .ok false w) (hb : w.heap[g]? = some (.cells #[v] t fr)) :
    (results fn tmps).run P w = .ok v w := by
  have hp' : tmps[p]?.getD undef = .pointer (some ⟨g, 0, none⟩) := by simpa using hp
  simp only [results, h]
  simp [Sem.run_bind, Result.andThen, hp', asAddr, load_one ht hb]

def gFind (l : List Stk) (item : Int) : Option Int := (l.find? fun s => s.1 == item).map (·.2)
def gCount (l : List Stk) (item : Int) : Int := (gFind l item).getD 0
def pFind (l : List (Stk × Stk)) (item : Int) : Option Int := (l.find? fun s => s.2.1 == item).map (·.2.2)
theorem pFind_prs (l : List Stk) (item : Int) : ∀ o, pFind (prs o l) item = gFind l item := by
  induction l with
  | nil => intro o; rfl
  | cons s l ih =>
    intro o
    have := ih s
    unfold pFind gFind at this ⊢
    rw [prs, List.find?_cons, List.find?_cons]
    cases h : s.1 == item
    · simpa using this
    · rfl
theorem pFind_pre {pre xs : List (Stk × Stk)} (h : pre <+: xs) {item c : Int} (hc : pFind pre item = some c) : pFind xs item = some c := by
  obtain ⟨r, rfl⟩ := h
  unfold pFind at hc ⊢
  rw [List.find?_append]
  cases h : pre.find? fun s => s.2.1 == item with
  | none => rw [h] at hc; cases hc
  | some x => rw [h] at hc; simpa using hc
theorem pFind_snoc (pre : List (Stk × Stk)) (x : Stk × Stk) (item : Int) (h : pFind pre item = none) : pFind (pre ++ [x]) item = if (x.2.1 == item) = true then some x.2.2 else none := by
  unfold pFind at h ⊢
  rw [List.find?_append]
  have : (pre.find? fun s => s.2.1 == item) = none := by simpa using h
  rw [this]
  cases hx : x.2.1 == item <;> simp [List.find?_cons, hx]

def GcI (w : World) (item : Int) (pre : List (Stk × Stk)) (nb : Nat) (W : World) : Prop :=
  W.heap[w.heap.size]? = some (.cells #[.int .u16 item] 23 (0, 0)) ∧ W.heap[w.heap.size + 1]? = some (.cells #[.int .i64 0] 2 (0, 0)) ∧ pFind pre item = none ∧ Below w.heap.size w W
def GcX (w : World) (item : Int) (q : Code) (pre : List (Stk × Stk)) (W : World) : Prop :=
  q = .ret ∧ ∃ c, W.heap[w.heap.size + 1]? = some (.cells #[.int .i64 c] 2 (0, 0)) ∧ pFind pre item = some c ∧ Below w.heap.size w W

set_option maxHeartbeats 2000000 in
set_option maxRecDepth 100000 in
theorem gcount_any (l : List Stk) (n : Nat) (v : Value) (item : Int) (w : World) (hn : l.length = n) (hv : Sees w v n 2 (stks l)) (hl : n ≤ 1000000) :
    Calls Tryz.prog 126 #[v, .int .u16 item] w fun e w' => e = .returned (.int .i64 (gCount l item)) ∧ Below w.heap.size w w' := by
  subst hn
  refine (callsIn_wide (n := 9)).1 ?_
  refine callsIn_of_wp_marks Tryz.func126 rfl trivial ?_ rfl
  simp only [Tryz.ntmps126, List.size_toArray, List.length_cons, List.length_nil, Nat.reduceAdd, Nat.reduceSub, Array.replicate_succ, Array.replicate_zero, List.push_toArray, List.append_toArray, List.nil_append, List.cons_append]
  have HV := Lib.hid hv
  obtain ⟨base, cap, rfl⟩ := hv.shape
  clear hv
  gi_wp2_with (refine ⟨trivial, ?_⟩; gi_at_call 172; refine (callsIn_wide.2 (pairs_any _ _ ⟨_, _, _, rfl⟩)).mono ?_; rintro e w' ⟨rfl, rfl⟩)
  obtain ⟨W0, hW0⟩ : ∃ W0, (((w.alloc (.cells #[.int .u16 item] 23)).alloc (.cells #[.int .i64 0] 2)).alloc (.cells #[.slice base l.length cap] 119)) = W0 := ⟨_, rfl⟩
  obtain ⟨z0, z1, z2, z3, z4⟩ := three_new w (.cells #[.int .u16 item] 23) (.cells #[.int .i64 0] 2) (.cells #[.slice base l.length cap] 119)
  rw [hW0] at z0 z1 z2 z3 z4 ⊢
  have Z := Lib.hid (And.intro z0 (And.intro z1 (And.intro z2 (And.intro z3 z4))))
  clear z0 z1 z2 z3 z4 hW0
  refine wp_range (gf := 196) (lb := #[.pointer (some ⟨w.heap.size + 1 + 1, 0, none⟩)]) rfl (enters_of Tryz.func196 (by kernel_rfl) rfl)
    (pairs_iter 8 (w.heap.size + 1 + 1) (.slice base l.length cap) l W0 hl Z.out.2.2.2.1 (HV.out.below Z.out.2.2.2.2) (by omega)) (fun k h => h.elim)
    (by rintro k (rfl | ⟨h, hk⟩); · have := Z.out.1; omega
        · have := HV.out.own_lt h (by omega) hk; have := Z.out.1; omega) (fun x => rfl)
    (GcI w item) (GcX w item) ?hI ?hm ?hIx ?h0
    (fun x a' W => ∃ b, a' = { tmps := #[.slice base l.length cap, .int .u16 item, undef, .pointer (some ⟨w.heap.size, 0, none⟩), .pointer (some ⟨w.heap.size + 1, 0, none⟩), undef, .pointer (some ⟨b, 0, none⟩), .slice base l.length cap, .func (.func 196) #[] #[.pointer (some ⟨w.heap.size + 1 + 1, 0, none⟩)], .agg #[.int .u16 x.1.1, .int .i64 x.1.2], .agg #[.int .u16 x.2.1, .int .i64 x.2.2], undef, undef, undef, undef, undef, undef], defers := [] } ∧ W0.heap.size + 2 ≤ b ∧ W.heap[b]? = some (.cells #[.int .u16 x.2.1, .int .i64 x.2.2] 62 (0, 0))) ?hAx ?assign ?body ?done ?stop
  case hm =>
    rintro pre nb nb' A' h hle
    exact h
  case hI =>
    rintro pre nb A' B ⟨h1, h1', h2, hb⟩ hA hS
    have z0 := Z.out.1
    exact ⟨hS.at_ h1 ⟨id, by omega⟩, hS.at_ h1' ⟨id, by omega⟩, h2, hb.trans (hS.below (by omega) (fun k hk => ⟨id, by omega⟩))⟩
  case hIx =>
    rintro q pre A' B ⟨h1, c, h2, h3, hb⟩ hA hS
    have z0 := Z.out.1
    exact ⟨h1, c, hS.at_ h2 ⟨id, by omega⟩, h3, hb.trans (hS.below (by omega) (fun k hk => ⟨id, by omega⟩))⟩
  case h0 => exact ⟨Z.out.2.1, Z.out.2.2.1, rfl, Z.out.2.2.2.2⟩
  case hAx =>
    rintro x a' A' B ⟨b, ha, hb, hc⟩ hA hS
    exact ⟨b, ha, hb, hS.at_ hc (by omega)⟩
  case assign =>
    intro lp pre x rest nb W K hxs ⟨h1, h1', h2, hb⟩ hnb hW hK
    clear hxs
    dsimp only [encS, stkv]
    gi_wp2
    exact hK _ _ ((Same.refl _ W).alloc _) ⟨keep_a _ h1, keep_a _ h1', h2, hb.alloc hb.size _⟩ ⟨W.heap.size, rfl, by omega, heap_alloc_new W _⟩
  case body =>
    rintro lp pre ⟨⟨p0, p1⟩, q0, q1⟩ rest nb a' W hxs ⟨h1, h1', h2, hb⟩ ⟨b, rfl, hb4, hc4⟩ hn hlen
    have z0 := Z.out.1
    dsimp only at hc4 ⊢
    have hall := pFind_snoc pre ((p0, p1), (q0, q1)) item h2
    have hnot : ¬ Theirs W0 (fun _ => False) (RowRd (w.heap.size + 1 + 1) l.length (.slice base l.length cap)) 1 nb (w.heap.size + 1) := by
      rintro (h | (h | ⟨h, hk⟩) | h | h)
      · exact h
      · omega
      · have := HV.out.own_lt h (by omega) hk; omega
      · omega
      · omega
    have hc : ∀ i, W.cell? ⟨b, i, none⟩ = (#[.int .u16 q0, .int .i64 q1] : Array Value)[i]? := blk_cell hc4
    have hd : W.cell? ⟨w.heap.size, 0, none⟩ = some (.int .u16 item) := blk_cell h1 0
    have f0 : ∀ i, W.frozen? ⟨w.heap.size + 1, i, none⟩ = false := blk_frozen h1'
    have c0 : W.cell? ⟨w.heap.size + 1, 0, none⟩ = some (.int .i64 0) := blk_cell h1' 0
    have H3 := Lib.hid (And.intro h1 (And.intro h1' (And.intro hb hall)))
    clear h1 h1' h2 hb hxs hall hc4
    rcases hq : (q0 == item) with _ | _
    · gi_wp2
      obtain ⟨h1, h1', hb, hall⟩ := H3.out
      exact ⟨Same.refl _ _, h1, h1', by rw [hall]; simp only [hq]; rfl, hb⟩
    · gi_wp2
      obtain ⟨h1, h1', hb, hall⟩ := H3.out
      exact ⟨(Same.refl _ _).setCell (p := ⟨w.heap.size + 1, 0, none⟩) (fun _ => hnot) _, rfl, q1, by have := blk_set h1' 0 (.int .i64 q1); simpa using this, by rw [hall]; simp only [hq]; rfl, hb.setCell (p := ⟨w.heap.size + 1, 0, none⟩) (by simp) _⟩
  case done =>
    rintro W ⟨h1, h1', h2, hb⟩ hsz hD
    rw [pFind_prs] at h2
    have c1 := blk_cell h1' 0
    have f0 : ∀ i, W.frozen? ⟨w.heap.size + 1, i, none⟩ = false := blk_frozen h1'
    simp only [List.getElem?_toArray, List.getElem?_cons_zero] at c1
    have HH := Lib.hid (And.intro h2 (And.intro hb (And.intro hD h1')))
    clear h1 h1' h2 hb hD
    gi_wp2
    obtain ⟨h2, hb, hD, h1'⟩ := HH.out
    have z0 := Z.out.1
    have hD2 : (W.setCell ⟨w.heap.size + 1, 0, none⟩ (.int .i64 0)).heap[W0.heap.size]? = some (.deferred (some [])) := by rw [Below.heap_setCell _ _ _ _ (by simp; omega)]; exact hD
    have hr := blk_set h1' 0 (.int .i64 0)
    refine ⟨by simp, .inl ⟨_, _, rfl, run_takeDeferred hD2, ?_⟩⟩
    refine ⟨_, res_one rfl rfl (by kernel_rfl) ((World.putObj_heap_other (by omega)).trans (by simpa using hr)), ?_⟩
    refine ⟨by rw [gCount, h2]; rfl, ?_⟩
    exact (hb.setCell (p := ⟨w.heap.size + 1, 0, none⟩) (by simp) _).trans (((Same.refl (fun k => k < w.heap.size) _).putObj _ (fun _ h => by have := Z.out.1; omega)).below (by have := hb.size; simp [World.setCell]; omega) fun k hk => hk)
  case stop =>
    rintro q pre W hp ⟨rfl, c, h1, h2, hb⟩ hsz hD
    have c1 := blk_cell h1 0
    simp only [List.getElem?_toArray, List.getElem?_cons_zero] at c1
    have h3 := pFind_pre hp h2
    rw [pFind_prs] at h3
    have HH := Lib.hid (And.intro h3 (And.intro hb (And.intro hD h1)))
    clear h1 h2 hb hD h3
    gi_wp2
    obtain ⟨h3, hb, hD, h1⟩ := HH.out
    have z0 := Z.out.1
    refine ⟨by simp, .inl ⟨_, _, rfl, run_takeDeferred hD, ?_⟩⟩
    refine ⟨_, res_one rfl rfl (by kernel_rfl) ((World.putObj_heap_other (by omega)).trans h1), ?_⟩
    refine ⟨by rw [gCount, h3]; rfl, ?_⟩
    exact hb.trans (((Same.refl (fun k => k < w.heap.size) W).putObj _ (fun _ h => by have := Z.out.1; omega)).below (by have := hb.size; omega) fun k hk => hk)
end Go.Proofs.YtmkcbkdbdcnoiaaGreatDoor
namespace Go.Proofs.YtmkcbkdbdcnoiaaGreatDoor
open Go.RowKit
set_option linter.unusedVariables false
set_option linter.unusedSimpArgs false

set_option maxRecDepth 100000 in
theorem nan_any (a : Int) (w : World) : Calls Tryz.prog 207 #[.int .u16 a] w fun e w' => e = .returned (.bool false) ∧ w' = w := by
  go_enter Tryz.func207, Tryz.ntmps207
  go_wp2
  go_ret
  exact ⟨by simp, rfl⟩
def cmpI (a b : Int) : Int := if a < b then -1 else if b < a then 1 else 0
set_option maxHeartbeats 400000 in
set_option maxRecDepth 100000 in
theorem cmp16_any (a b : Int) (w : World) : Calls Tryz.prog 204 #[.int .u16 a, .int .u16 b] w fun e w' => e = .returned (.int .i64 (cmpI a b)) ∧ w' = w := by
  by_cases h1 : a < b
  · go_enter Tryz.func204, Tryz.ntmps204
    go_wp2_with (go_at_call 207; with_reducible refine (nan_any _ _).mono ?_; rintro e w' ⟨rfl, rfl⟩)
    go_ret
    exact ⟨by rw [cmpI, if_pos h1]; rfl, rfl⟩
  · by_cases h2 : b < a
    · go_enter Tryz.func204, Tryz.ntmps204
      go_wp2_with (go_at_call 207; with_reducible refine (nan_any _ _).mono ?_; rintro e w' ⟨rfl, rfl⟩)
      go_ret
      exact ⟨by rw [cmpI, if_neg (by omega), if_pos h2]; rfl, rfl⟩
    · go_enter Tryz.func204, Tryz.ntmps204
      go_wp2_with (go_at_call 207; with_reducible refine (nan_any _ _).mono ?_; rintro e w' ⟨rfl, rfl⟩)
      go_ret
      exact ⟨by rw [cmpI, if_neg (by omega), if_neg (by omega)]; rfl, rfl⟩
set_option maxRecDepth 100000 in
theorem item_any (x : Stk) (w : World) : Calls Tryz.prog 189 #[stkv x] w fun e w' => e = .returned (.int .u16 x.1) ∧ w.alloc (.cells #[.int .u16 x.1, .int .i64 x.2] 240) = w' := by
  unfold stkv
  go_enter Tryz.func189, Tryz.ntmps189
  go_wp2
  go_ret
  exact ⟨rfl, rfl⟩
set_option maxHeartbeats 400000 in
set_option maxRecDepth 100000 in
theorem pcmp_any (x : Stk) (t : Int) (b : Nat) (w : World) (hb : w.cell? ⟨b, 0, none⟩ = some (.func (.func 189) #[] #[])) : Calls Tryz.prog 203 #[stkv x, .int .u16 t, .pointer (some ⟨b, 0, none⟩)] w fun e w' => e = .returned (.int .i64 (cmpI x.1 t)) ∧ Below w.heap.size w w' := by
  have hlt := cell_lt hb
  have hc : (w.alloc (.cells #[.int .u16 x.1, .int .i64 x.2] 240)).cell? ⟨b, 0, none⟩ = some (.func (.func 189) #[] #[]) := cell_keep hb ((Below.refl _ w).alloc (Nat.le_refl _) _)
  have hi := fun w => item_any x w
  unfold stkv at hi ⊢
  go_enter Tryz.func203, Tryz.ntmps203
  go_wp2_with (first | (go_at_call 189; with_reducible refine (hi _).mono ?_; rintro e w' ⟨rfl, rfl⟩) | (go_at_call 204; with_reducible refine (cmp16_any _ _ _).mono ?_; rintro e w' ⟨rfl, rfl⟩))
  go_ret
  exact ⟨rfl, ((Below.refl _ w).alloc (Nat.le_refl _) _).alloc (by simp) _⟩

/-- How many of the first elements are such. -/
def lbG {α : Type} (f : α → Bool) (l : List α) : Nat := (l.takeWhile f).length
theorem lbG_le {α : Type} (f : α → Bool) (l : List α) : lbG f l ≤ l.length := by
  unfold lbG
  exact (List.takeWhile_prefix f).length_le
theorem lbG_unique {α : Type} {f : α → Bool} {l : List α} {i : Nat} (hi : i ≤ l.length) (h1 : ∀ j (h : j < l.length), j < i → f (l[j]'h) = true) (h2 : ∀ j (h : j < l.length), i ≤ j → f (l[j]'h) = false) : i = lbG f l := by
  unfold lbG
  induction l generalizing i with
  | nil => simpa using hi
  | cons x l ih =>
    rw [List.takeWhile_cons]
    cases i with
    | zero =>
      have := h2 0 (by simp) (Nat.le_refl _)
      rw [show f x = false from this]; rfl
    | succ i =>
      have := h1 0 (by simp) (by omega)
      rw [show f x = true from this]
      simp only [if_true, List.length_cons]
      rw [← ih (by simpa using hi) (fun j h hj => h1 (j + 1) (by simpa using h) (by omega)) (fun j h hj => h2 (j + 1) (by simpa using h) (by omega))]

/-- Is it such a one that lies there? -/
def fndG {α : Type} (f e : α → Bool) (l : List α) : Bool := decide (∃ h : lbG f l < l.length, e (l[lbG f l]'h) = true)
def SrcPost {α : Type} (f e : α → Bool) (l : List α) (w : World) (en : Ending) (w' : World) : Prop :=
  en = .returned (.tuple #[.int .i64 (lbG f l : Nat), .bool (fndG f e l)]) ∧ Below w.heap.size w w'

set_option maxHeartbeats 1000000 in
set_option maxRecDepth 100000 in
theorem psearch_any (t : Int) (n bf : Nat) (v : Value) (l : List Stk) (w : World) (hv : Sees w v n 2 (stks l)) (hn : l.length = n) (hl : n ≤ 1000000) (hf : w.cell? ⟨bf, 0, none⟩ = some (.func (.func 189) #[] #[]))
    (ho : ∀ i j (hi : i < l.length) (hj : j < l.length), i < j → (l[i]'hi).1 < (l[j]'hj).1) :
    Calls Tryz.prog 202 #[v, .int .u16 t, .func (.func 203) #[] #[.pointer (some ⟨bf, 0, none⟩)]] w (SrcPost (fun s : Stk => decide (s.1 < t)) (fun s : Stk => s.1 == t) l w) := by
  have HV := Lib.hid (hn ▸ hv : Sees w v l.length 2 (stks l))
  obtain ⟨base, cap, rfl⟩ := hv.shape
  have HN := Lib.hid hn
  have HO := Lib.hid ho
  have HF := Lib.hid hf
  clear hv ho hf
  go_enter Tryz.func202, Tryz.ntmps202
  go_wp2
  go_loopw [9, 10] (fun i j wr => ∃ a b : Nat, a ≤ b ∧ b ≤ n ∧ i = .int .i64 (a : Int) ∧ j = .int .i64 (b : Int) ∧ Hid (∀ k (h : k < l.length), k < a → (l[k]'h).1 < t) ∧ Hid (∀ k (h : k < l.length), b ≤ k → t ≤ (l[k]'h).1) ∧ Hid (Below w.heap.size w wr)) (fun i j _ => (intOf j).toNat - (intOf i).toNat)
  case atStart => exact ⟨0, n, Nat.zero_le _, Nat.le_refl _, rfl, rfl, Lib.hid (fun k _ hk => absurd hk (by omega)), Lib.hid (fun k h hk => by have := HN.out; omega), Lib.hid (Below.refl _ _)⟩
  case round =>
    obtain ⟨a, b, hab, hbn, rfl, rfl, HA, HBb, HB⟩ := hrel
    by_cases hlt : a < b
    · have hs : IntKind.i64.wrap ((a : Int) + (b : Int)) = (a : Int) + (b : Int) := IntWalk.i64_in _ (by omega)
      have hs2 : IntKind.u64.wrap ((a : Int) + (b : Int)) = (a : Int) + (b : Int) := IntWalk.u64_in _ (by omega)
      obtain ⟨m, hm⟩ : ∃ m : Nat, ((a : Int) + (b : Int)) / 2 = (m : Int) := ⟨(a + b) / 2, by omega⟩
      have ham : a ≤ m := by omega
      have hmb : m < b := by omega
      have hml : m < l.length := by have := HN.out; omega
      obtain ⟨⟨s, u⟩, hs0⟩ : ∃ s, (l[m]'hml) = s := ⟨_, rfl⟩
      obtain ⟨ad, cap2, he, h0, h1, h1'⟩ := Sees.at2 (f := fun a : Stk => .int .u16 a.1) (g := fun a : Stk => .int .i64 a.2) (HV.out.below HB.out) m hml
      have HE := HN.out
      simp only [Value.slice.injEq] at he
      obtain ⟨rfl, -, rfl⟩ := he
      rw [hs0] at h0 h1 h1'
      have hmn : (m : Int) < (n : Int) := by omega
      have HS := Lib.hid hs0
      have HFb := Lib.hid (cell_keep HF.out HB.out)
      have hcl := pcmp_any (s, u) t bf wr (HFb.out)
      unfold stkv at hcl
      clear hs0 HE
      go_wp2_with fail
      refine hcl.mono ?_
      rintro e W2 ⟨rfl, hb⟩
      have HB2 := Lib.hid (HB.out.trans (hb.mono HB.out.size))
      clear hb HB h0 h1 h1' hs hs2 hcl
      by_cases hsp : s < t
      · have hd : decide (cmpI s t < 0) = true := by simp [cmpI, hsp]
        go_wp2
        go_roundw
        case rel =>
          refine ⟨m + 1, b, by omega, hbn, by go_num, rfl, Lib.hid (fun k hk hkm => ?_), HBb, HB2⟩
          rcases Nat.lt_or_ge k m with h | h
          · have := HO.out k m hk hml h
            rw [HS.out] at this
            simp only at this
            omega
          · obtain rfl : k = m := by omega
            rw [HS.out]
            exact hsp
        case measure => simp [intOf]; omega
      · have hd : decide (cmpI s t < 0) = false := by
          simp only [cmpI, if_neg hsp]; split <;> simp
        go_wp2
        go_roundw
        case rel =>
          refine ⟨a, m, by omega, by omega, rfl, rfl, HA, Lib.hid (fun k hk hkm => ?_), HB2⟩
          rcases Nat.lt_or_ge m k with h | h
          · have := HO.out m k hml hk h
            rw [HS.out] at this
            simp only at this
            omega
          · obtain rfl : k = m := by omega
            rw [HS.out]
            show t ≤ s
            omega
        case measure => simp [intOf]; omega
    · obtain rfl : a = b := by omega
      clear hlt hab
      have hu : Hid (a = lbG (fun s : Stk => decide (s.1 < t)) l) := Lib.hid (lbG_unique (by have := HN.out; omega) (fun j h hj => by simpa using HA.out j h hj) (fun j h hj => by simpa using HBb.out j h hj))
      by_cases han : a < n
      · have hml : a < l.length := by have := HN.out; omega
        obtain ⟨⟨s, u⟩, hs0⟩ : ∃ s, (l[a]'hml) = s := ⟨_, rfl⟩
        obtain ⟨ad, cap2, he, h0, h1, h1'⟩ := Sees.at2 (f := fun a : Stk => .int .u16 a.1) (g := fun a : Stk => .int .i64 a.2) (HV.out.below HB.out) a hml
        simp only [Value.slice.injEq] at he
        obtain ⟨rfl, -, rfl⟩ := he
        rw [hs0] at h0 h1 h1'
        have hmn : (a : Int) < (n : Int) := by omega
        have HS := Lib.hid hs0
        have HFb := Lib.hid (cell_keep HF.out HB.out)
        have hcl := pcmp_any (s, u) t bf wr (HFb.out)
        unfold stkv at hcl
        clear hs0
        go_wp2_with fail
        refine hcl.mono ?_
        rintro e W2 ⟨rfl, hb⟩
        have HB2 := Lib.hid (HB.out.trans (hb.mono HB.out.size))
        clear hb HB h0 h1 h1' hcl
        go_wp2
        go_ret2
        refine ⟨?_, HB2.out⟩
        have hE : (cmpI s t == 0) = decide (∃ h : a < l.length, ((l[a]'h).1 == t) = true) := by
          rw [Bool.eq_iff_iff]
          simp only [beq_iff_eq, decide_eq_true_eq]
          constructor
          · intro h; refine ⟨hml, ?_⟩; rw [HS.out]; simp only [cmpI] at h ⊢; split at h
            · omega
            · split at h
              · omega
              · omega
          · rintro ⟨_, h⟩; rw [HS.out] at h; simp only at h; subst h; simp [cmpI]
        have := hu.out
        rw [fndG, ← this]
        rw [← hE]
        rfl
      · have han' : ¬ (a : Int) < (n : Int) := by omega
        go_wp2
        go_ret2
        refine ⟨?_, HB.out⟩
        have := hu.out
        rw [fndG, ← this]
        rw [show decide (∃ h : a < l.length, ((l[a]'h).1 == t) = true) = false by simp only [decide_eq_false_iff_not]; rintro ⟨h, _⟩; have := HN.out; omega]
        rfl
end Go.Proofs.YtmkcbkdbdcnoiaaGreatDoor
namespace Go.Proofs.YtmkcbkdbdcnoiaaGreatDoor
open Go.RowKit
set_option linter.unusedVariables false
set_option linter.unusedSimpArgs false

theorem infoPile : (Tryz.prog.info? 240).map (fun i => (i.zero, i.size, i.bytes)) = some (some (.agg #[.int .u16 0, .int .i64 0]), 2, 16) := by kernel_rfl
theorem infoStack : (Tryz.prog.info? 62).map (fun i => (i.zero, i.size, i.bytes)) = some (some (.agg #[.int .u16 0, .int .i64 0]), 2, 16) := by kernel_rfl
theorem stks_snoc (l : List Stk) (i : Nat) (h : i < l.length) : stks (l.take (i + 1)) = stks (l.take i) ++ [.int .u16 (l[i]'h).1, .int .i64 (l[i]'h).2] := by
  rw [List.take_succ_eq_append_getElem h, stks, cat2_append]; rfl
theorem one_stks (l : List Stk) : ∀ u ∈ stks l, u.oneCell' = true := one_cat2 (fun _ => rfl) (fun _ => rfl) l

set_option maxHeartbeats 1000000 in
set_option maxRecDepth 100000 in
theorem piles_any (l : List Stk) (n : Nat) (v : Value) (w : World) (hn : l.length = n) (hv : Sees w v n 2 (stks l)) (hl : n ≤ 1000000) :
    Calls Tryz.prog 188 #[v] w fun e w' => ∃ u, e = .returned u ∧ w'.ownsRow w.heap.size 240 2 u n (stks l) ∧ Below w.heap.size w w' := by
  subst hn
  have HV := Lib.hid hv
  obtain ⟨base, cap, rfl⟩ := hv.shape
  clear hv
  go_enter Tryz.func188, Tryz.ntmps188
  go_wp2
  go_loopw [3, 8] (fun v i wr => ∃ k : Nat, k ≤ l.length ∧ i = .int .i64 (k : Int) ∧ Hid (wr.ownsRow w.heap.size 240 2 v k (stks (l.take k)) ∧ Below w.heap.size w wr)) (fun _ i _ => l.length - (intOf i).toNat)
  case atStart => exact ⟨0, Nat.zero_le _, rfl, Lib.hid ⟨⟨by simp [stks, cat2], .inl ⟨rfl, rfl⟩⟩, Below.refl _ _⟩⟩
  case round =>
    obtain ⟨k, hk, rfl, HK⟩ := hrel
    by_cases hlt : k < l.length
    · obtain ⟨s, hs⟩ : ∃ s, l[k]'hlt = s := ⟨_, rfl⟩
      obtain ⟨a, cap2, he, h2, h3, h4⟩ := Sees.at2 (f := fun a : Stk => .int .u16 a.1) (g := fun a : Stk => .int .i64 a.2) (HV.out.below HK.out.2) k hlt
      simp only [Value.slice.injEq, true_and] at he
      obtain ⟨rfl, rfl⟩ := he
      rw [hs] at h2 h3 h4
      have hlt' : (k : Int) < (l.length : Int) := by omega
      have HX : Hid (stks (l.take (k + 1)) = stks (l.take k) ++ [.int .u16 s.1, .int .i64 s.2]) := Lib.hid (by rw [stks_snoc l k hlt, hs])
      clear hs h3
      obtain ⟨i0, hi, hi0, hi1, hi2⟩ := info_parts infoPile
      obtain ⟨b1, hb1⟩ : ∃ b1, wr.heap.size = b1 := ⟨_, rfl⟩
      go_wp2_with (at_builtin; refine wpList_append_own _ rfl _ _ 241 rfl w.heap.size 240 i0 (.agg #[.int .u16 0, .int .i64 0]) 2 16 Tryz.underlying241 hi hi0 hi1 hi2 rfl (by decide) _ _ _ rfl ((HK.out.1.alloc _).alloc _) ⟨b1 + 1, 0, none⟩ 1 1 [.int .u16 s.1, .int .i64 s.2] rfl rfl ?c1 ?c2 ?b1 ?b2 ?b3 ?_)
      case c1 =>
        intro j u hj
        rw [add_plain, blk_cell (by have := heap_alloc_new (wr.alloc (.cells #[.int .u16 s.1, .int .i64 s.2] 62)) (.cells #[.int .u16 s.1, .int .i64 s.2] 240); rw [World.size_alloc, hb1] at this; exact this)]
        simpa using hj
      case c2 => simp [Value.oneCell']
      case b1 => unfold maxLen; omega
      case b2 => omega
      case b3 => have := HK.out.2.size; simp; omega
      intro v' w1 hown hgrow _
      have HO := Lib.hid (And.intro hown hgrow)
      clear hown hgrow h2 h4
      go_wp2
      go_roundw
      case rel =>
        refine ⟨k + 1, by omega, by go_num, Lib.hid ⟨by rw [HX.out]; exact HO.out.1, ?_⟩⟩
        refine ((HK.out.2.alloc HK.out.2.size _).alloc (by have := HK.out.2.size; simp; omega) _).grown HO.out.2 (by have := HK.out.2.size; simp; omega) (fun g hg => own_base HK.out.1 g hg)
      case measure => simp [intOf]; omega
    · obtain rfl : k = l.length := by omega
      go_wp2
      go_ret
      obtain ⟨h1, h2⟩ := HK.out
      rw [List.take_length] at h1
      exact ⟨_, rfl, h1, h2⟩

/-- The items rise. -/
def OrdS (l : List Stk) : Prop := ∀ i j (hi : i < l.length) (hj : j < l.length), i < j → (l[i]'hi).1 < (l[j]'hj).1

set_option maxHeartbeats 400000 in
set_option maxRecDepth 100000 in
theorem place_any (t : Int) (n : Nat) (v : Value) (l : List Stk) (w : World) (hv : Sees w v n 2 (stks l)) (hn : l.length = n) (hl : n ≤ 1000000) (ho : OrdS l) :
    Calls Tryz.prog 187 #[v, .int .u16 t, .func (.func 189) #[] #[]] w (SrcPost (fun s : Stk => decide (s.1 < t)) (fun s : Stk => s.1 == t) l w) := by
  have hmf : ∀ (fn : Fn) (first cap : Array Value) (w : World), (Instr.makeFunc fn first cap).run Tryz.prog w = .ok (.func fn first cap) w := fun _ _ _ _ => rfl
  have hb0 : Below w.heap.size w (w.alloc (.cells #[.func (.func 189) #[] #[]] 243)) := (Below.refl _ w).alloc (Nat.le_refl _) _
  have hS := psearch_any t n w.heap.size v l (w.alloc (.cells #[.func (.func 189) #[] #[]] 243)) (hv.below hb0) hn hl (blk_cell (heap_alloc_new w _) 0) ho
  obtain ⟨base, cap, rfl⟩ := hv.shape
  have HS := Lib.hid hS
  have HO := Lib.hid ho
  clear hS hv ho
  go_enter Tryz.func187, Tryz.ntmps187
  go_wp2_with fail
  refine HS.out.mono ?_
  rintro e W ⟨rfl, hb⟩
  have HB := Lib.hid (hb0.trans (hb.mono hb0.size))
  clear hb
  go_wp2
  go_ret2
  exact ⟨rfl, HB.out⟩

/-- Goods whose stack of an item is another one. -/
def gAt (l : List Stk) (item : Int) : Nat := lbG (fun s : Stk => decide (s.1 < item)) l
def gThere (l : List Stk) (item : Int) : Bool := fndG (fun s : Stk => decide (s.1 < item)) (fun s : Stk => s.1 == item) l
def gWith (l : List Stk) (s : Stk) : List Stk := l.take (gAt l s.1) ++ (if 0 < s.2 then [s] else []) ++ l.drop (if gThere l s.1 = true then gAt l s.1 + 1 else gAt l s.1)

theorem stks_append (a b : List Stk) : stks (a ++ b) = stks a ++ stks b := cat2_append a b
theorem sees_len {w : World} {v : Value} {n m sz : Nat} {xs : List Value} (h : Sees w v n sz xs) (e : m = n) : Sees w v m sz xs := e ▸ h
/-- A row of stacks is answered. -/
def StksPost (l : List Stk) (w : World) (e : Ending) (w' : World) : Prop := ∃ u, e = .returned u ∧ Sees w' u l.length 2 (stks l) ∧ Below w.heap.size w w'

set_option maxHeartbeats 1000000 in
set_option maxRecDepth 100000 in
theorem with_any (l : List Stk) (s : Stk) (n : Nat) (v : Value) (w : World) (hn : l.length = n) (hv : Sees w v n 2 (stks l)) (hl : n ≤ 1000) (ho : OrdS l) :
    Calls Tryz.prog 155 #[v, stkv s] w fun e w' => StksPost (gWith l s) w e w' := by
  obtain ⟨W, hW⟩ : ∃ W, w.alloc (.cells #[.int .u16 s.1, .int .i64 s.2] 62) = W := ⟨_, rfl⟩
  have hb0 : Below w.heap.size w W := by rw [← hW]; exact (Below.refl _ w).alloc (Nat.le_refl _) _
  have k0 : W.heap[w.heap.size]? = some (.cells #[.int .u16 s.1, .int .i64 s.2] 62 (0, 0)) := by rw [← hW]; exact heap_alloc_new w _
  have hV := hv.below hb0
  obtain ⟨base, cap, rfl⟩ := hv.shape
  have HH := Lib.hid (And.intro k0 (And.intro hV hb0))
  have HN := Lib.hid hn
  have HO := Lib.hid ho
  have c0 : W.cell? ⟨w.heap.size, 0, none⟩ = some (.int .u16 s.1) := blk_cell k0 0
  clear k0 hV hb0 hn ho hv
  have hP : ∀ (u : Value) (W : World), Sees W u n 2 (stks l) → Calls Tryz.prog 187 #[u, .int .u16 s.1, .func (.func 189) #[] #[]] W fun e w' => e = .returned (.tuple #[.int .i64 ((gAt l s.1 : Nat) : Int), .bool (gThere l s.1)]) ∧ Below W.heap.size W w' :=
    fun u W h => place_any s.1 n u l W h HN.out (by omega) HO.out
  have hile : gAt l s.1 ≤ n := by rw [← HN.out]; exact lbG_le _ _
  have hlt : gThere l s.1 = true → gAt l s.1 < n := fun h => by
    rw [← HN.out]; exact (of_decide_eq_true h).1
  have hG : gWith l s = l.take (gAt l s.1) ++ (if 0 < s.2 then [s] else []) ++ l.drop (if gThere l s.1 = true then gAt l s.1 + 1 else gAt l s.1) := rfl
  generalize gWith l s = L at hG ⊢
  generalize gAt l s.1 = i at *
  generalize gThere l s.1 = f at *
  have HGL := Lib.hid hG
  clear hG
  have HP := Lib.hid hP
  have HL := Lib.hid hlt
  clear hP hlt
  unfold stkv
  go_enter Tryz.func155, Tryz.ntmps155
  go_wp2_with fail
  go_region_held3 (fun W' => W'.cell? ⟨w.heap.size, 0, none⟩ = some (.int .u16 s.1)) (first | exact c0 | exact cell_keep (cell_keep (w := W.drew) (by exact c0) HB.out) HB3.out | exact (cell_keep (w := W.drew) (by exact c0) HB.out))
    (first | (go_at_call 188; refine (piles_any l n _ _ HN.out (by exact HH.out.2.1) (by omega)).mono ?_; rintro e W2 ⟨u, rfl, hown, hb⟩; have HB := Lib.hid hb; have HU := Lib.hid hown; clear hb hown) | (go_at_call 187; refine (HP.out _ _ (by exact Sees.of_own HU.out)).mono ?_; rintro e W3 ⟨rfl, hb⟩; have HB3 := Lib.hid hb; clear hb))
  have H3 : Hid (W3.heap[w.heap.size]? = some (.cells #[.int .u16 s.1, .int .i64 s.2] 62 (0, 0)) ∧ Sees W3 (.slice base n cap) n 2 (stks l) ∧ Below w.heap.size w W3) := Lib.hid
    ⟨keep_b (keep_b (W := W.drew) HH.out.1 HB.out) HB3.out, (Sees.below (w := W.drew) HH.out.2.1 HB.out).below HB3.out, (HH.out.2.2.drew.trans (HB.out.mono (by exact HH.out.2.2.size))).trans (HB3.out.mono (by have := HH.out.2.2.size; have := HB.out.size; simp at this; omega))⟩
  clear c0 HB HB3 HU HP HH
  have c3 : ∀ j, W3.cell? ⟨w.heap.size, j, none⟩ = (#[.int .u16 s.1, .int .i64 s.2] : Array Value)[j]? := blk_cell H3.out.1
  have hcap : n ≤ cap := by obtain ⟨_, b, c, he, hc, _⟩ := H3.out.2.1; simp only [Value.slice.injEq, true_and] at he; omega
  have hic : (i : Int) ≤ (cap : Int) := by omega
  obtain ⟨i0, hi, hi0, hi1, hi2⟩ := info_parts infoStack
  have HT : Hid (Sees W3 (.slice base i i) i 2 (stks (l.take i))) := Lib.hid (by rw [stks, cat2_take]; exact H3.out.2.1.front i i hile (Nat.le_refl _))
  have hcut : ∀ k, k ≤ n → ∀ W, Sees W (.slice base n cap) n 2 (stks l) → Sees W (.slice (if cap = k then base else base.map fun x => x.add (k * 2)) (n - k) (cap - k)) (n - k) 2 (stks (l.drop k)) := fun k hk W h => by
    rw [stks, cat2_drop]; exact h.cut k hk
  have HC := Lib.hid hcut
  clear hcut
  have hlen : Hid ((l.take i).length = i) := Lib.hid (by rw [List.length_take, HN.out]; omega)
  have hlen2 : Hid (∀ k, (l.drop k).length = n - k) := Lib.hid (fun k => by rw [List.length_drop, HN.out])
  have x2 : (i : Int) ≤ (n : Int) := by omega
  by_cases hp : 0 < s.2
  · have hp' : decide (0 < s.2) = true := by simpa using hp
    cases f
    all_goals
      go_wp2_with (at_builtin; refine append_full rfl _ _ 119 rfl Tryz.underlying119 hi hi0 hi1 hi2 rfl base i 1 _ (stks (l.take i)) (stks [s]) rfl rfl ((HT.out).alloc _) (Sees.of_blk (heap_alloc_new W3 _) rfl) (one_stks _) (by omega) (by omega) ?_)
      intro v' W8 hf
      obtain ⟨g8, cap8, rfl⟩ := ownsRow_succ (hf.some (by omega))
      have hcap8 : i + 1 ≤ cap8 := hf.sees.cap_le
      have H8 : Hid (Sees W8 (.slice base n cap) n 2 (stks l) ∧ Below w.heap.size w W8 ∧ Sees W8 (.slice (some ⟨g8, 0, none⟩) (i + 1) (i + 1)) (i + 1) 2 (stks (l.take i ++ [s]))) := Lib.hid (by
        have hb8 := ((Below.refl _ W3).alloc (Nat.le_refl _) _).trans (hf.below.mono (by simp))
        refine ⟨H3.out.2.1.below hb8, H3.out.2.2.trans (hb8.mono H3.out.2.2.size), ?_⟩
        have := hf.sees.front (i + 1) (i + 1) (Nat.le_refl _) (Nat.le_refl _)
        rw [List.take_of_length_le (by rw [hf.sees.1]; omega)] at this
        rw [stks, cat2_append]; exact this)
      clear hf c3
      have x1 : ((i : Int) + 1) ≤ (cap8 : Int) := by omega
      have x3 : (0 : Int) ≤ (i : Int) + 1 := by omega
      have x4 : ((i : Int) + 1).toNat = i + 1 := by omega
      have x5 : IntKind.i64.wrap ((i : Int) + 1) = (i : Int) + 1 := IntWalk.i64_in _ (by omega)
      try (have x6 : ((i : Int) + 1) ≤ (n : Int) := by (have x7 : i < n := (by first | exact HL.out rfl | exact HL.out trivial)); omega)
      go_wp2
      go_still_tail 9, (by kernel_rfl)
      clear x3 x4 x5
    · change wpList _ _ _ _ _ W8.drew
      have hCC := HC.out i hile _ H8.out.1.drew
      generalize (if cap = i then base else Option.map (fun x => x.add (i * 2)) base) = A at hCC ⊢
      refine append_full rfl _ _ 119 rfl Tryz.underlying119 hi hi0 hi1 hi2 rfl (some ⟨g8, 0, none⟩) (i + 1) (n - i) _ (stks (l.take i ++ [s])) (stks (l.drop i)) rfl rfl (by exact H8.out.2.2) hCC (one_stks _) (by omega) (by omega) ?_
      intro v' W9 hf
      have HF := Lib.hid hf
      clear hf hCC
      go_wp2
      go_ret
      unfold StksPost
      have hE := HGL.out
      rw [if_pos (by omega)] at hE
      refine ⟨_, rfl, ?_, H8.out.2.1.drew.trans (HF.out.below.mono H8.out.2.1.size)⟩
      have := HF.out.sees
      rw [← stks_append] at this
      (try simp only [if_true, List.append_nil, Bool.false_eq_true, if_false] at hE)
      rw [hE]
      exact sees_len this (by simp only [List.length_append, hlen.out, hlen2.out, List.length_singleton, List.append_nil])
    · change wpList _ _ _ _ _ W8.drew
      have hil : i + 1 ≤ n := by first | exact HL.out rfl | exact HL.out trivial
      have hCC := HC.out (i + 1) hil _ H8.out.1.drew
      generalize (if cap = i + 1 then base else Option.map (fun x => x.add ((i + 1) * 2)) base) = A at hCC ⊢
      refine append_full rfl _ _ 119 rfl Tryz.underlying119 hi hi0 hi1 hi2 rfl (some ⟨g8, 0, none⟩) (i + 1) (n - (i + 1)) _ (stks (l.take i ++ [s])) (stks (l.drop (i + 1))) rfl rfl (by exact H8.out.2.2) hCC (one_stks _) (by omega) (by omega) ?_
      intro v' W9 hf
      have HF := Lib.hid hf
      clear hf hCC
      go_wp2
      go_ret
      unfold StksPost
      have hE := HGL.out
      rw [if_pos (by omega)] at hE
      refine ⟨_, rfl, ?_, H8.out.2.1.drew.trans (HF.out.below.mono H8.out.2.1.size)⟩
      have := HF.out.sees
      rw [← stks_append] at this
      (try simp only [if_true, List.append_nil, Bool.false_eq_true, if_false] at hE)
      rw [hE]
      exact sees_len this (by simp only [List.length_append, hlen.out, hlen2.out, List.length_singleton, List.append_nil])
  · have hp' : decide (0 < s.2) = false := by simpa using hp
    cases f
    all_goals
      have x3 : (0 : Int) ≤ (i : Int) + 1 := by omega
      have x4 : ((i : Int) + 1).toNat = i + 1 := by omega
      have x5 : IntKind.i64.wrap ((i : Int) + 1) = (i : Int) + 1 := IntWalk.i64_in _ (by omega)
      try (have x6 : ((i : Int) + 1) ≤ (n : Int) := by (have x7 : i < n := (by first | exact HL.out rfl | exact HL.out trivial)); omega)
      go_wp2
      go_still_tail 9, (by kernel_rfl)
      clear x3 x4 x5
    · change wpList _ _ _ _ _ W3.drew
      have hCC := HC.out i hile _ H3.out.2.1.drew
      generalize (if cap = i then base else Option.map (fun x => x.add (i * 2)) base) = A at hCC ⊢
      refine append_full rfl _ _ 119 rfl Tryz.underlying119 hi hi0 hi1 hi2 rfl base i (n - i) _ (stks (l.take i)) (stks (l.drop i)) rfl rfl (by exact HT.out) hCC (one_stks _) (by omega) (by omega) ?_
      intro v' W9 hf
      have HF := Lib.hid hf
      clear hf hCC
      go_wp2
      go_ret
      unfold StksPost
      have hE := HGL.out
      rw [if_neg (show ¬ 0 < s.2 by omega)] at hE
      refine ⟨_, rfl, ?_, H3.out.2.2.drew.trans (HF.out.below.mono H3.out.2.2.size)⟩
      have := HF.out.sees
      rw [← stks_append] at this
      (try simp only [if_true, List.append_nil, Bool.false_eq_true, if_false] at hE)
      rw [hE]
      exact sees_len this (by simp only [List.length_append, hlen.out, hlen2.out, List.length_singleton, List.append_nil])
    · change wpList _ _ _ _ _ W3.drew
      have hil : i + 1 ≤ n := by first | exact HL.out rfl | exact HL.out trivial
      have hCC := HC.out (i + 1) hil _ H3.out.2.1.drew
      generalize (if cap = i + 1 then base else Option.map (fun x => x.add ((i + 1) * 2)) base) = A at hCC ⊢
      refine append_full rfl _ _ 119 rfl Tryz.underlying119 hi hi0 hi1 hi2 rfl base i (n - (i + 1)) _ (stks (l.take i)) (stks (l.drop (i + 1))) rfl rfl (by exact HT.out) hCC (one_stks _) (by omega) (by omega) ?_
      intro v' W9 hf
      have HF := Lib.hid hf
      clear hf hCC
      go_wp2
      go_ret
      unfold StksPost
      have hE := HGL.out
      rw [if_neg (show ¬ 0 < s.2 by omega)] at hE
      refine ⟨_, rfl, ?_, H3.out.2.2.drew.trans (HF.out.below.mono H3.out.2.2.size)⟩
      have := HF.out.sees
      rw [← stks_append] at this
      (try simp only [if_true, List.append_nil, Bool.false_eq_true, if_false] at hE)
      rw [hE]
      exact sees_len this (by simp only [List.length_append, hlen.out, hlen2.out, List.length_singleton, List.append_nil])
end Go.Proofs.YtmkcbkdbdcnoiaaGreatDoor
