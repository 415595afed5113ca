/- Package slices: Clone of pairs; world.IsQuery. Package world: Step. Package bazaarlaw16: shown; bazaarref07.Same. bazaarref07.Same. Laws of layer 16: what their walks share. Arguments opened: commands; the listed variables. The listed variables: what the row's condition gives; a world that meets it. -/
import Derived.BigQuiet
import Derived.Test.YtmkcbkdbdcnoiaaGreatDoorRows
import Derived.Deep.Slices
import Derived.Deep.Fields
import Derived.ChangeSame
import Derived.ChangeVars
import Derived.JoinedOf
import Derived.RowKit
import Derived.RowKitTokens
import Derived.LaidLaws
import Derived.LaidHandle
import Derived.Stop.Joined
import Derived.Stop.LaidErr
import Derived.Lib.SmallJoins
import Derived.ProofKit
import Derived.OpenShut
import Derived.ShutString
import Derived.ChangeOld
import Derived.Stop.LaidTwo
import Derived.Test.YtmkcbkdbdcnoiaaGreatDoorG08
import Derived.Test.YtmkcbkdbdcnoiaaGreatDoorG13
import Derived.Test.YtmkcbkdbdcnoiaaGreatDoorG22
namespace Go.Proofs.YtmkcbkdbdcnoiaaGreatDoor
open Go.RowKit
set_option linter.unusedVariables false
set_option linter.unusedSimpArgs false

/-- A row of pairs of the call's own is answered. -/
def OwnPPost (l : List Par) (w : World) (e : Ending) (w' : World) : Prop := ∃ u, e = .returned u ∧ w'.ownsRow w.heap.size 44 2 u l.length (prows l) ∧ Below w.heap.size w w'
theorem one_prows2 (l : List Par) : ∀ u ∈ prows l, u.oneCell' = true := one_cat2 (fun _ => rfl) (fun _ => rfl) l

set_option maxHeartbeats 1000000 in
set_option maxRecDepth 100000 in
theorem pclone_any (l : List Par) (n : Nat) (v : Value) (w : World) (hn : l.length = n) (hv : Sees w v n 2 (prows l)) (hl : n ≤ 100000) :
    Calls Tryz.prog 17 #[v] w fun e w' => OwnPPost l w e w' := by
  obtain ⟨base, cap, rfl⟩ := hv.shape
  cases base with
  | none =>
    have h0 : n = 0 := by
      obtain ⟨_, b, c, he, _, h⟩ := hv
      simp only [Value.slice.injEq, true_and] at he
      obtain ⟨rfl, rfl⟩ := he
      rcases h with h | ⟨a, ha, _⟩
      · exact h
      · cases ha
    subst h0
    have hl0 : l = [] := List.eq_nil_of_length_eq_zero hn
    subst hl0
    have he := fun w => Lib.run_eql_slice_nil (P := Tryz.prog) w 25 44 none 0 cap 0 0 Tryz.underlying25
    go_enter Tryz.func17, Tryz.ntmps17
    go_wp2
    go_ret
    exact ⟨_, rfl, ⟨rfl, .inl ⟨rfl, rfl⟩⟩, Below.refl _ _⟩
  | some ad =>
    have HV := Lib.hid (And.intro hv hn)
    clear hv hn
    have he := fun w => Lib.run_eql_slice_nil (P := Tryz.prog) w 25 44 (some ad) n cap 0 0 Tryz.underlying25
    obtain ⟨i0, hi, hi0, hi1, hi2⟩ := info_parts infoPair
    go_enter Tryz.func17, Tryz.ntmps17
    go_wp2_with (at_builtin; refine append_full rfl _ _ 25 rfl Tryz.underlying25 hi hi0 hi1 hi2 rfl (some ⟨w.heap.size, 0, none⟩) 0 n _ [] (prows l) rfl rfl ⟨by simp, _, _, rfl, Nat.le_refl _, .inl rfl⟩ (HV.out.1.alloc _) (one_prows2 _) (by omega) (by omega) ?_)
    intro v' w' hf
    have HF := Lib.hid hf
    clear hf
    go_wp2
    go_ret
    refine ⟨v', rfl, ?_, ((Below.refl _ w).alloc (Nat.le_refl _) _).trans (HF.out.below.mono (by simp))⟩
    obtain ⟨hv, hn⟩ := HV.out
    rcases Nat.eq_zero_or_pos n with h0 | h0
    · obtain ⟨rfl, rfl⟩ := HF.out.none h0
      subst h0
      have hl0 : l = [] := List.eq_nil_of_length_eq_zero hn
      subst hl0
      exact ⟨rfl, .inr ⟨w.heap.size, 0, #[], rfl, Nat.le_refl _, heap_alloc_new w _, Nat.le_refl _, Nat.zero_le _, rfl, rfl⟩⟩
    · have := HF.out.some h0
      rw [Nat.zero_add] at this
      rw [hn]
      exact ownsRow_base this (by simp)

set_option maxHeartbeats 1000000 in
set_option maxRecDepth 100000 in
theorem isQuery_any (op : Int) (w : World) : Calls Tryz.prog 15 #[.int .i64 op] w fun e w' => e = .returned (.bool (decide (16 ≤ op) && decide (op ≤ 19))) ∧ w' = w := by
  by_cases h : 16 ≤ op
  · have hd : decide (16 ≤ op) = true := by simpa using h
    go_enter Tryz.func15, Tryz.ntmps15
    go_wp2
    go_ret
    exact ⟨by simp [h], rfl⟩
  · have hd : decide (16 ≤ op) = false := by simpa using h
    go_enter Tryz.func15, Tryz.ntmps15
    go_wp2
    go_ret
    exact ⟨by simp [h], rfl⟩
set_option maxHeartbeats 1000000 in
set_option maxRecDepth 100000 in
theorem refIsQuery_any (op : Int) (w : World) : Calls Tryz.prog 16 #[.int .i64 op] w fun e w' => e = .returned (.bool (decide (16 ≤ op) && decide (op ≤ 19))) ∧ w' = w := by
  by_cases h : 16 ≤ op
  · have hd : decide (16 ≤ op) = true := by simpa using h
    go_enter Tryz.func16, Tryz.ntmps16
    go_wp2
    go_ret
    exact ⟨by simp [h], rfl⟩
  · have hd : decide (16 ≤ op) = false := by simpa using h
    go_enter Tryz.func16, Tryz.ntmps16
    go_wp2
    go_ret
    exact ⟨by simp [h], rfl⟩
end Go.Proofs.YtmkcbkdbdcnoiaaGreatDoor
namespace Go.Proofs.YtmkcbkdbdcnoiaaGreatDoor
open Go.RowKit
set_option linter.unusedVariables false
set_option linter.unusedSimpArgs false

/-- What a step comes to. -/
def stepF (l : List Par) (c : Cmd) : List Par × Ans := if (doneF l c).2.1 = 0 then doneF l c else (l, (doneF l c).2)
/-- A step's answer: a row of its own, and the answer. -/
def StepP (r : List Par × Ans) (w : World) (e : Ending) (w' : World) : Prop := ∃ u, e = .returned (.tuple #[u, ansv r.2]) ∧ w'.ownsRow w.heap.size 44 2 u r.1.length (prows r.1) ∧ Below w.heap.size w w'
/-- Two answers' blocks. -/
structure Sg (w : World) (b5 b7 : Nat) (x y : Ans) (W : World) : Prop where
  bl : Below w.heap.size w W
  k5 : W.heap[b5]? = some (.cells #[.int .i64 x.1, .int .i64 x.2.1, .int .i64 x.2.2] 31 (0, 0))
  k7 : W.heap[b7]? = some (.cells #[.int .i64 y.1, .int .i64 y.2.1, .int .i64 y.2.2] 31 (0, 0))
  ne : b7 ≠ b5
  le : w.heap.size ≤ b5
theorem Sg.below {w : World} {b5 b7 : Nat} {x y : Ans} {W W' : World} (h : Sg w b5 b7 x y W) (hb : Below W.heap.size W W') : Sg w b5 b7 x y W' := ⟨h.bl.trans (hb.mono h.bl.size), keep_b h.k5 hb, keep_b h.k7 hb, h.ne, h.le⟩
theorem Sg.set {w : World} {b5 b7 : Nat} {x y : Ans} {W : World} (h : Sg w b5 b7 x y W) (z1 z2 z3 : Int) : Sg w b5 b7 (z1, z2, z3) y (((W.setCell ⟨b5, 0, none⟩ (.int .i64 z1)).setCell ⟨b5, 1, none⟩ (.int .i64 z2)).setCell ⟨b5, 2, none⟩ (.int .i64 z3)) := by
  refine ⟨((h.bl.setCell (p := ⟨b5, 0, none⟩) h.le _).setCell (p := ⟨b5, 1, none⟩) h.le _).setCell (p := ⟨b5, 2, none⟩) h.le _, ?_, ?_, h.ne, h.le⟩
  · have := blk_set (blk_set (blk_set h.k5 0 (.int .i64 z1)) 1 (.int .i64 z2)) 2 (.int .i64 z3)
    simpa using this
  · rw [Below.heap_setCell _ _ _ _ h.ne, Below.heap_setCell _ _ _ _ h.ne, Below.heap_setCell _ _ _ _ h.ne]
    exact h.k7

set_option maxHeartbeats 4000000 in
set_option maxRecDepth 100000 in
theorem step_any (n : Nat) (l : List Par) (c : Cmd) (v : Value) (w : World) (hv : Sees w v l.length 2 (prows l)) (hG : Glob w) (hO : Ok n l) (hn : n < 99990) (hc : CmdOk c) :
    Calls Tryz.prog 10 #[v, cmv c] w fun e w' => StepP (stepF l c) w e w' := by
  have hC := fun V (hb : Below w.heap.size w V) => pclone_any l l.length v V rfl (hv.below hb) (by have := hO.len; omega)
  obtain ⟨R, hR⟩ : ∃ R, stepF l c = R := ⟨_, rfl⟩
  rw [hR]
  unfold stepF at hR
  obtain ⟨b3, hb3⟩ : ∃ b3, w.heap.size = b3 := ⟨_, rfl⟩
  obtain ⟨b5, hb5⟩ : ∃ b5, b3 + 1 = b5 := ⟨_, rfl⟩
  obtain ⟨W1, hW1⟩ : ∃ W1, w.alloc (.cells #[.int .i64 c.op, .int .u32 c.a, .int .u32 c.b, .int .u16 c.item, .int .i64 c.n, .int .i64 c.m] 28) = W1 := ⟨_, rfl⟩
  obtain ⟨W2, hW2⟩ : ∃ W2, W1.alloc (.cells #[.int .i64 0, .int .i64 0, .int .i64 0] 31) = W2 := ⟨_, rfl⟩
  have z1 : W1.heap.size = b5 := by rw [← hW1, World.size_alloc, hb3, hb5]
  have hs2 : W2.heap.size = b5 + 1 := by rw [← hW2, World.size_alloc, z1]
  have h1 : Below w.heap.size w W1 := by rw [← hW1]; exact (Below.refl _ w).alloc (Nat.le_refl _) _
  have h2 : Below W1.heap.size W1 W2 := by rw [← hW2]; exact (Below.refl _ W1).alloc (Nat.le_refl _) _
  have k3 : W2.heap[b3]? = some (.cells #[.int .i64 c.op, .int .u32 c.a, .int .u32 c.b, .int .u16 c.item, .int .i64 c.n, .int .i64 c.m] 28 (0, 0)) := by
    refine keep_b ?_ h2
    rw [← hW1, ← hb3]; exact heap_alloc_new w _
  have k5 : W2.heap[b5]? = some (.cells #[.int .i64 0, .int .i64 0, .int .i64 0] 31 (0, 0)) := by rw [← hW2, ← z1]; exact heap_alloc_new W1 _
  have hb2 : Below w.heap.size w W2 := h1.trans (h2.mono (by omega))
  have H2 := Lib.hid (And.intro hb2 (And.intro k3 (And.intro k5 hs2)))
  have KC := Lib.hid hC
  have HG := Lib.hid (And.intro hG hO)
  have HR := Lib.hid hR
  clear hC hG hO hR hv h1 h2 k3 k5 hb2 hs2
  unfold cmv
  go_enter Tryz.func10, Tryz.ntmps10
  go_wp2_with fail
  refine (KC.out _ H2.out.1).mono ?_
  rintro e V1 ⟨u, rfl, hu, hb⟩
  have hs1 := hb.size
  obtain ⟨base, cap, rfl⟩ := (Sees.of_own hu).shape
  obtain ⟨pl, hpl⟩ : ∃ pl, V1.heap.size = pl := ⟨_, rfl⟩
  obtain ⟨W3, hW3⟩ : ∃ W3, V1.alloc (.cells #[.slice base l.length cap] 48) = W3 := ⟨_, rfl⟩
  have hb3' : Below W2.heap.size W2 W3 := by rw [← hW3]; exact hb.alloc hs1 _
  have hbw : Below w.heap.size w W3 := H2.out.1.trans (hb3'.mono H2.out.1.size)
  have hL : Lst w.heap.size pl l W3 := by
    refine ⟨_, by rw [← hW3, ← hpl]; exact heap_alloc_new V1 _, ?_⟩
    rw [← hW3]
    exact own_read (ownsRow_base hu H2.out.1.size) ((Below.refl _ V1).alloc (Nat.le_refl _) _)
  have hs2 := H2.out.2.2.2
  have hD := done_any w.heap.size pl n l c W3 hL (by omega) ⟨w, HG.out.1, Nat.le_refl _, hbw.size, hbw.block⟩ hbw.size HG.out.2 hn hc
  have p3 : ∀ j, W3.cell? ⟨b3, j, none⟩ = (#[.int .i64 c.op, .int .u32 c.a, .int .u32 c.b, .int .u16 c.item, .int .i64 c.n, .int .i64 c.m] : Array Value)[j]? := blk_cell (keep_b H2.out.2.1 hb3')
  have H3 := Lib.hid (And.intro hbw (And.intro (keep_b H2.out.2.2.1 hb3') (show b5 < pl by omega)))
  obtain ⟨⟨l1, a1, a2, a3⟩, hq⟩ : ∃ q, doneF l c = q := ⟨_, rfl⟩
  have hR := HR.out
  rw [hq] at hD hR
  unfold cmv ansv at hD
  dsimp only at hD hR
  have KD := Lib.hid hD
  clear HR hD hq hs1 hb hu hb3' hbw hL hs2
  go_wp2_with fail
  refine KD.out.mono ?_
  rintro e V2 ⟨rfl, hL, hk, hb⟩
  have e5 := hk.keep b5 _ H3.out.2.1 (by have := H3.out.2.2; omega) rfl
  obtain ⟨b7, hb7⟩ : ∃ b7, V2.heap.size = b7 := ⟨_, rfl⟩
  obtain ⟨W7, hW7⟩ : ∃ W7, V2.alloc (.cells #[.int .i64 a1, .int .i64 a2, .int .i64 a3] 31) = W7 := ⟨_, rfl⟩
  have h7 : Below V2.heap.size V2 W7 := by rw [← hW7]; exact (Below.refl _ V2).alloc (Nat.le_refl _) _
  have hS : Sg w b5 b7 (0, 0, 0) (a1, a2, a3) W7 := by
    refine ⟨(H3.out.1.trans hb).trans (h7.mono (Nat.le_trans H3.out.1.size hb.size)), keep_b e5 h7, by rw [← hW7, ← hb7]; exact heap_alloc_new V2 _, ?_, by omega⟩
    have := (Array.getElem?_eq_some_iff.1 e5).1
    omega
  have HL := Lib.hid (hL.below h7)
  have HS := Lib.hid hS
  have c0 : ∀ j, W7.cell? ⟨b7, j, none⟩ = (#[.int .i64 a1, .int .i64 a2, .int .i64 a3] : Array Value)[j]? := blk_cell HS.out.k7
  clear p3 hL hk hb e5 h7 hS
  have e0 : ∀ j, W7.drew.cell? ⟨b5, j, none⟩ = (#[.int .i64 0, .int .i64 0, .int .i64 0] : Array Value)[j]? := blk_cell (blk_drew HS.out.k5)
  have ef : ∀ j, W7.drew.frozen? ⟨b5, j, none⟩ = false := blk_frozen (blk_drew HS.out.k5)
  have e0' : ∀ j, W7.cell? ⟨b5, j, none⟩ = (#[.int .i64 0, .int .i64 0, .int .i64 0] : Array Value)[j]? := blk_cell HS.out.k5
  have ef' : ∀ j, W7.frozen? ⟨b5, j, none⟩ = false := blk_frozen HS.out.k5
  have hn7 := HS.out.ne
  have p0 : W7.cell? ⟨b7, 0, none⟩ = some (.int .i64 a1) := c0 0
  have p1 : W7.cell? ⟨b7, 1, none⟩ = some (.int .i64 a2) := c0 1
  have p2 : W7.cell? ⟨b7, 2, none⟩ = some (.int .i64 a3) := c0 2
  by_cases ha : a1 = 0
  · subst ha
    rw [if_pos rfl] at hR
    obtain ⟨v1, hv1, ho1⟩ := HL.out
    obtain ⟨base1, cap1, rfl⟩ := (Sees.of_own ho1).shape
    have HO := Lib.hid ho1
    have q9 : W7.cell? ⟨pl, 0, none⟩ = some (.slice base1 l1.length cap1) := blk_cell hv1 0
    have hnp : pl ≠ b5 := by have := H3.out.2.2; omega
    clear ho1 hv1
    go_wp2_with fail
    try clear hW7 hb7 hW3 hpl hW1 hW2 z1 hb3 hb5
    go_region_held3 (fun W' => W'.cell? ⟨b7, 0, none⟩ = some (.int .i64 0) ∧ W'.cell? ⟨b7, 1, none⟩ = some (.int .i64 a2) ∧ W'.cell? ⟨b7, 2, none⟩ = some (.int .i64 a3) ∧ W'.cell? ⟨pl, 0, none⟩ = some (.slice base1 l1.length cap1))
      (refine ⟨?_, ?_, ?_, ?_⟩ <;> (repeat (first | with_reducible assumption | with_reducible refine cell_drew ?_ | with_reducible refine cell_far ?_ hn7 _ | with_reducible refine cell_far ?_ hnp _)))
      (fail)
    have HF := Lib.hid ((HS.out.below (Below.drew (Below.refl _ W7))).set 0 a2 a3)
    have HK := Lib.hid (blk_drew HS.out.k5)
    clear q9 p0 p1 p2 e0 ef e0' ef' c0
    go_wp2
    subst hR
    refine bodyPost_ret (res_tmp_cell rfl rfl HF.out.k5 Tryz.underlying31 rfl (by kernel_rfl)) rfl ⟨_, rfl, ?_, HF.out.bl⟩
    exact own_one (own_one (own_one (W := W7.drew) HO.out HK.out (by decide) 0 _) (blk_set HK.out 0 _) (by decide) 1 _) (blk_set (blk_set HK.out 0 _) 1 _) (by decide) 2 _
  · have ha' : (a1 != 0) = true := by simpa using ha
    rw [if_neg ha] at hR
    go_wp2_with fail
    clear hW7 hb7
    have HX := Lib.hid (HS.out.below (Below.drew (Below.refl _ W7)))
    have HY := Lib.hid (HX.out.set a1 a2 a3)
    go_region_held3 (fun W' => W'.cell? ⟨b7, 0, none⟩ = some (.int .i64 a1) ∧ W'.cell? ⟨b7, 1, none⟩ = some (.int .i64 a2) ∧ W'.cell? ⟨b7, 2, none⟩ = some (.int .i64 a3))
      (refine ⟨?_, ?_, ?_⟩ <;> (repeat (first | with_reducible assumption | with_reducible refine cell_drew ?_ | with_reducible refine cell_far ?_ hn7 _)))
      (first | (go_at_call 17; (with_reducible refine (KC.out _ HX.out.bl).mono ?_); rintro e V3 ⟨u, rfl, hu, hb⟩; have HZ := Lib.hid (HX.out.below hb); have HU := Lib.hid (ownsRow_base hu HX.out.bl.size); clear hu hb; have y0 : V3.cell? ⟨b7, 0, none⟩ = some (.int .i64 a1) := blk_cell HZ.out.k7 0; have y1 : V3.cell? ⟨b7, 1, none⟩ = some (.int .i64 a2) := blk_cell HZ.out.k7 1; have y2 : V3.cell? ⟨b7, 2, none⟩ = some (.int .i64 a3) := blk_cell HZ.out.k7 2; have x0 : ∀ j, V3.cell? ⟨b5, j, none⟩ = (#[.int .i64 0, .int .i64 0, .int .i64 0] : Array Value)[j]? := blk_cell HZ.out.k5; have xf : ∀ j, V3.frozen? ⟨b5, j, none⟩ = false := blk_frozen HZ.out.k5) | (go_at_call 17; (with_reducible refine (KC.out _ HY.out.bl).mono ?_); rintro e V3 ⟨u, rfl, hu, hb⟩; have HZ := Lib.hid (HY.out.below hb); have HU := Lib.hid (ownsRow_base hu HY.out.bl.size); clear hu hb; have y0 : V3.cell? ⟨b7, 0, none⟩ = some (.int .i64 a1) := blk_cell HZ.out.k7 0; have y1 : V3.cell? ⟨b7, 1, none⟩ = some (.int .i64 a2) := blk_cell HZ.out.k7 1; have y2 : V3.cell? ⟨b7, 2, none⟩ = some (.int .i64 a3) := blk_cell HZ.out.k7 2))
    have HF := Lib.hid (HZ.out.set a1 a2 a3)
    clear y0 y1 y2 x0 xf p0 p1 p2 e0 ef e0' ef' c0
    go_wp2
    subst hR
    refine bodyPost_ret (res_tmp_cell rfl rfl HF.out.k5 Tryz.underlying31 rfl (by kernel_rfl)) rfl ⟨u, rfl, ?_, HF.out.bl⟩
    exact own_one (own_one (own_one HU.out HZ.out.k5 (by decide) 0 _) (blk_set HZ.out.k5 0 _) (by decide) 1 _) (blk_set (blk_set HZ.out.k5 0 _) 1 _) (by decide) 2 _
end Go.Proofs.YtmkcbkdbdcnoiaaGreatDoor
namespace Go.Proofs.YtmkcbkdbdcnoiaaGreatDoor
open Go.RowKit
set_option linter.unusedVariables false
set_option linter.unusedSimpArgs false

def sh1 : List Par := [([97, 0, 0, 0, 1], [0, 0, 0, 0, 0, 0, 0, 0, 0, 0, 0, 0, 0, 0, 0, 0])]
theorem shown_1 : stepF [] ⟨1, 1, 0, 0, 0, 0⟩ = (sh1, (0, 0, 0)) := by kernel_rfl
def sh2 : List Par := [([97, 0, 0, 0, 1], [0, 0, 0, 0, 0, 0, 0, 5, 0, 0, 0, 0, 0, 0, 0, 0]), ([116, 0, 0, 0], [0, 0, 0, 0, 0, 0, 0, 5])]
theorem shown_2 : stepF sh1 ⟨2, 1, 0, 0, 5, 0⟩ = (sh2, (0, 0, 0)) := by kernel_rfl
theorem shown_3 : stepF sh2 ⟨16, 1, 0, 0, 0, 0⟩ = (sh2, (0, 5, 0)) := by kernel_rfl
theorem shown_4 : stepF [] ⟨99, 0, 0, 0, 0, 0⟩ = ([], (2, 0, 0)) := by kernel_rfl

theorem eq_29 (d : Nat) (x y : Int) (w : World) : (Op.equalIn (d + 1) 29 (.int .i64 x) (.int .i64 y)).run Tryz.prog w = .ok (x == y) w := by
  simp [Op.equalIn, underlying, Tryz.underlying29]
theorem eq31 (d : Nat) (x1 x2 x3 y1 y2 y3 : Int) (w : World) : (Op.equalIn (d + 2) 31 (ansv (x1, x2, x3)) (ansv (y1, y2, y3))).run Tryz.prog w = .ok ((x1 == y1) && ((x2 == y2) && ((x3 == y3) && true))) w := by
  refine eqA_of Tryz.underlying31 (by kernel_rfl) ?_
  exact eqf_cons (by rfl) (by kernel_rfl) (by kernel_rfl) (eq_29 _ _ _ _) (eqf_cons (by rfl) (by kernel_rfl) (by kernel_rfl) (eq_i64 _ _ _ _) (eqf_cons (by rfl) (by kernel_rfl) (by kernel_rfl) (eq_i64 _ _ _ _) eqf_nil))
theorem eql31 (x1 x2 x3 y1 y2 y3 : Int) (w : World) : (binOp .eql 31 (.agg #[.int .i64 x1, .int .i64 x2, .int .i64 x3]) (.agg #[.int .i64 y1, .int .i64 y2, .int .i64 y3])).run Tryz.prog w = .ok (.bool ((x1 == y1) && ((x2 == y2) && (x3 == y3)))) w := by
  have e := fun w => eq31 9998 x1 x2 x3 y1 y2 y3 w
  unfold ansv at e
  simp only [binOp]
  simp [Op.equal, Op.maxDepth, e]
theorem neq31 (x1 x2 x3 y1 y2 y3 : Int) (w : World) : (binOp .neq 31 (.agg #[.int .i64 x1, .int .i64 x2, .int .i64 x3]) (.agg #[.int .i64 y1, .int .i64 y2, .int .i64 y3])).run Tryz.prog w = .ok (.bool (!((x1 == y1) && ((x2 == y2) && (x3 == y3))))) w := by
  have e := fun w => eq31 9998 x1 x2 x3 y1 y2 y3 w
  unfold ansv at e
  simp only [binOp]
  simp [Op.equal, Op.maxDepth, e]
theorem eq_9 (d : Nat) (x y : ByteArray) (w : World) : (Op.equalIn (d + 1) 9 (.string x) (.string y)).run Tryz.prog w = .ok (x == y) w := by
  simp [Op.equalIn, underlying, Tryz.underlying9]
theorem neq44 (a b x y : ByteArray) (w : World) : (binOp .neq 44 (.agg #[.string a, .string b]) (.agg #[.string x, .string y])).run Tryz.prog w = .ok (.bool (!((a == x) && (b == y)))) w := by
  have e : ∀ w, (Op.equalIn 10000 44 (.agg #[.string a, .string b]) (.agg #[.string x, .string y])).run Tryz.prog w = .ok ((a == x) && ((b == y) && true)) w := fun w => by
    refine eqA_of (d := 9999) Tryz.underlying44 (by kernel_rfl) ?_
    exact eqf_cons (by rfl) (by kernel_rfl) (by kernel_rfl) (eq_9 _ _ _ _) (eqf_cons (by rfl) (by kernel_rfl) (by kernel_rfl) (eq_9 _ _ _ _) eqf_nil)
  simp only [binOp]
  simp [Op.equal, Op.maxDepth, e]

theorem doneF_ok {n : Nat} {l : List Par} (hO : Ok n l) (c : Cmd) : Ok (n + 4) (doneF l c).1 := by
  unfold doneF
  split
  · split
    · split
      · exact deedF_ok hO _
      · exact deedF_ok hO _
    · exact hO.mono (by omega)
  · exact hO.mono (by omega)
theorem stepF_ok {n : Nat} {l : List Par} (hO : Ok n l) (c : Cmd) : Ok (n + 4) (stepF l c).1 := by
  unfold stepF
  split
  · exact doneF_ok hO c
  · exact hO.mono (by omega)
/-- A step, its answer at hand. -/
theorem step_at {l l' : List Par} {c : Cmd} {a : Ans} (h : stepF l c = (l', a)) (n : Nat) (v : Value) (w : World) (hv : Sees w v l.length 2 (prows l)) (hG : Glob w) (hO : Ok n l) (hn : n < 99990) (hc : CmdOk c) :
    Calls Tryz.prog 10 #[v, cmv c] w fun e w' => ∃ u, e = .returned (.tuple #[u, .agg #[.int .i64 a.1, .int .i64 a.2.1, .int .i64 a.2.2]]) ∧ w'.ownsRow w.heap.size 44 2 u l'.length (prows l') ∧ Below w.heap.size w w' := by
  have := step_any n l c v w hv hG hO hn hc
  rw [h] at this
  exact this

set_option maxHeartbeats 4000000 in
set_option maxRecDepth 100000 in
theorem shown_any (w : World) (hG : Glob w) : Calls Tryz.prog 9 #[] w fun e w' => e = .returned (.bool true) ∧ Below w.heap.size w w' := by
  have hc : ∀ op a n, 0 ≤ a ∧ a < 4294967296 → CmdOk ⟨op, a, 0, 0, n, 0⟩ := fun op a n h => ⟨h, ⟨Int.le_refl 0, by show (0 : Int) < 4294967296; omega⟩, ⟨Int.le_refl 0, by show (0 : Int) < 65536; omega⟩⟩
  have hO0 : Ok 10 [] := ⟨.nil, by simp, by simp⟩
  have hO1 : Ok 14 sh1 := by have := stepF_ok hO0 ⟨1, 1, 0, 0, 0, 0⟩; rwa [shown_1] at this
  have hO2 : Ok 18 sh2 := by have := stepF_ok hO1 ⟨2, 1, 0, 0, 5, 0⟩; rwa [shown_2] at this
  have k1 := fun v V hv h => step_at shown_1 10 v V hv h hO0 (by omega) (hc _ _ _ (by omega))
  have k2 := fun v V hv h => step_at shown_2 14 v V hv h hO1 (by omega) (hc _ _ _ (by omega))
  have k3 := fun v V hv h => step_at shown_3 18 v V hv h hO2 (by omega) (hc _ _ _ (by omega))
  have k4 := fun v V hv h => step_at shown_4 10 v V hv h hO0 (by omega) (hc _ _ _ (by omega))
  unfold cmv at k1 k2 k3 k4
  have K := Lib.hid (And.intro k1 (And.intro k2 (And.intro k3 k4)))
  have HG := Lib.hid hG
  clear hc hO0 hO1 hO2 k1 k2 k3 k4 hG
  go_enter Tryz.func9, Tryz.ntmps9
  go_wp2_with fail
  refine (K.out.1 _ _ (Sees.nil w 2) HG.out).mono ?_
  rintro e V1 ⟨u1, rfl, hu, hb⟩
  have Hu := Lib.hid (And.intro hu hb)
  clear hu hb
  go_wp2_with fail
  obtain ⟨hu, hb⟩ := Hu.out
  clear Hu
  obtain ⟨b1, hb1⟩ : ∃ b1, V1.heap.size = b1 := ⟨_, rfl⟩
  obtain ⟨W1, hW1⟩ : ∃ W1, V1.alloc (.cells #[.int .i64 0, .int .i64 0, .int .i64 0] 31) = W1 := ⟨_, rfl⟩
  have H1 : Hid (Hs w [(b1, .cells #[.int .i64 0, .int .i64 0, .int .i64 0] 31 (0, 0))] W1) := Lib.hid (by
    rw [← hW1, ← hb1]
    exact ⟨hb.alloc hb.size _, fun x hx => by simp only [List.mem_cons, List.not_mem_nil, or_false] at hx; subst hx; exact heap_alloc_new V1 _⟩)
  have HU1 := Lib.hid (Sees.of_own (own_read hu ((Below.refl _ V1).alloc (Nat.le_refl _) (.cells #[.int .i64 0, .int .i64 0, .int .i64 0] 31))))
  rw [hW1] at HU1
  clear hu hb
  rw [hW1, hb1]
  clear hW1 hb1
  refine (K.out.2.1 _ _ HU1.out (HG.out.below H1.out.1)).mono ?_
  rintro e V2 ⟨u2, rfl, hu, hb⟩
  have Hu := Lib.hid (And.intro hu hb)
  clear hu hb
  go_wp2_with fail
  obtain ⟨hu, hb⟩ := Hu.out
  clear Hu
  obtain ⟨b2, hb2⟩ : ∃ b2, V2.heap.size = b2 := ⟨_, rfl⟩
  obtain ⟨W2, hW2⟩ : ∃ W2, V2.alloc (.cells #[.int .i64 0, .int .i64 0, .int .i64 0] 31) = W2 := ⟨_, rfl⟩
  have H2 : Hid (Hs w [(b2, .cells #[.int .i64 0, .int .i64 0, .int .i64 0] 31 (0, 0)), (b1, .cells #[.int .i64 0, .int .i64 0, .int .i64 0] 31 (0, 0))] W2) := Lib.hid (by
    rw [← hW2, ← hb2]
    exact ((H1.out.below hb).alloc _).cons (heap_alloc_new V2 _))
  have HU2 := Lib.hid (Sees.of_own (own_read hu ((Below.refl _ V2).alloc (Nat.le_refl _) (.cells #[.int .i64 0, .int .i64 0, .int .i64 0] 31))))
  rw [hW2] at HU2
  clear hu hb
  rw [hW2, hb2]
  clear hW2 hb2
  refine (K.out.2.2.1 _ _ HU2.out (HG.out.below H2.out.1)).mono ?_
  rintro e V3 ⟨u3, rfl, hu, hb⟩
  have Hu := Lib.hid (And.intro hu hb)
  clear hu hb
  go_wp2_with fail
  obtain ⟨hu, hb⟩ := Hu.out
  clear Hu
  obtain ⟨b3, hb3⟩ : ∃ b3, V3.heap.size = b3 := ⟨_, rfl⟩
  obtain ⟨W3, hW3⟩ : ∃ W3, V3.alloc (.cells #[.int .i64 0, .int .i64 5, .int .i64 0] 31) = W3 := ⟨_, rfl⟩
  have H3 : Hid (Hs w [(b3, .cells #[.int .i64 0, .int .i64 5, .int .i64 0] 31 (0, 0)), (b2, .cells #[.int .i64 0, .int .i64 0, .int .i64 0] 31 (0, 0)), (b1, .cells #[.int .i64 0, .int .i64 0, .int .i64 0] 31 (0, 0))] W3) := Lib.hid (by
    rw [← hW3, ← hb3]
    exact ((H2.out.below hb).alloc _).cons (heap_alloc_new V3 _))
  have HU3 := Lib.hid (Sees.of_own (own_read hu ((Below.refl _ V3).alloc (Nat.le_refl _) (.cells #[.int .i64 0, .int .i64 5, .int .i64 0] 31))))
  rw [hW3] at HU3
  clear hu hb
  rw [hW3, hb3]
  clear hW3 hb3
  refine (K.out.2.2.2 _ _ (Sees.nil _ 2) (HG.out.below H3.out.1)).mono ?_
  rintro e V4 ⟨u4, rfl, hu, hb⟩
  have H4 := Lib.hid ((H3.out.below hb).alloc (.cells #[.int .i64 2, .int .i64 0, .int .i64 0] 31))
  have c1 : ∀ j, (V4.alloc (.cells #[.int .i64 2, .int .i64 0, .int .i64 0] 31)).cell? ⟨b1, j, none⟩ = (#[.int .i64 0, .int .i64 0, .int .i64 0] : Array Value)[j]? := blk_cell (H4.out.at b1 _ (by (first | exact hs_mem0 | exact hs_mem1 | exact hs_mem2 | exact hs_mem3 | exact hs_mem4)))
  have c2 : ∀ j, (V4.alloc (.cells #[.int .i64 2, .int .i64 0, .int .i64 0] 31)).cell? ⟨b2, j, none⟩ = (#[.int .i64 0, .int .i64 0, .int .i64 0] : Array Value)[j]? := blk_cell (H4.out.at b2 _ (by (first | exact hs_mem0 | exact hs_mem1 | exact hs_mem2 | exact hs_mem3 | exact hs_mem4)))
  have c3 : ∀ j, (V4.alloc (.cells #[.int .i64 2, .int .i64 0, .int .i64 0] 31)).cell? ⟨b3, j, none⟩ = (#[.int .i64 0, .int .i64 5, .int .i64 0] : Array Value)[j]? := blk_cell (H4.out.at b3 _ (by (first | exact hs_mem0 | exact hs_mem1 | exact hs_mem2 | exact hs_mem3 | exact hs_mem4)))
  clear hu hb
  have hq := eql31
  go_wp2
  go_ret
  exact ⟨rfl, H4.out.1⟩
end Go.Proofs.YtmkcbkdbdcnoiaaGreatDoor
namespace Go.Proofs.YtmkcbkdbdcnoiaaGreatDoor
open Go.RowKit
set_option linter.unusedVariables false
set_option linter.unusedSimpArgs false

theorem ba_beq (x y : List UInt8) : ((⟨x.toArray⟩ : ByteArray) == ⟨y.toArray⟩) = decide (x = y) := by
  have h : ∀ a b : ByteArray, (a == b) = (a.data == b.data) := fun a b => by cases a; cases b; rfl
  rw [h]
  by_cases h : x = y
  · subst h; simp
  · simp [h]

set_option maxHeartbeats 1000000 in
set_option maxRecDepth 100000 in
theorem same_any (l m : List Par) (u v : Value) (w : World) (hu : Sees w u l.length 2 (prows l)) (hv : Sees w v m.length 2 (prows m)) (hl : l.length ≤ 1000000) :
    Calls Tryz.prog 14 #[u, v] w fun e w' => e = .returned (.bool (decide (l = m))) ∧ Below w.heap.size w w' := by
  have HU := Lib.hid hu
  have HV := Lib.hid hv
  obtain ⟨bu, cu, rfl⟩ := hu.shape
  obtain ⟨bv, cv, rfl⟩ := hv.shape
  clear hu hv
  by_cases hlen : l.length = m.length
  · have hne : ((l.length : Int) != (m.length : Int)) = false := by simp; omega
    go_enter Tryz.func14, Tryz.ntmps14
    go_wp2
    go_loopw [5] (fun i wr => ∃ k : Nat, k ≤ l.length ∧ i = .int .i64 (k : Int) ∧ Hid (l.take k = m.take k ∧ Below w.heap.size w wr)) (fun i _ => l.length - (intOf i).toNat)
    case atStart => exact ⟨0, Nat.zero_le _, rfl, Lib.hid ⟨rfl, Below.refl _ _⟩⟩
    case round =>
      obtain ⟨k, hk, rfl, HK⟩ := hrel
      by_cases hlt : k < l.length
      · have hltm : k < m.length := by omega
        obtain ⟨p, hp⟩ : ∃ p, l[k]'hlt = p := ⟨_, rfl⟩
        obtain ⟨q, hq⟩ : ∃ q, m[k]'hltm = q := ⟨_, rfl⟩
        obtain ⟨a, ca, he, h2, h3, h4⟩ := Sees.at2 (f := fun p : Par => .string ⟨p.1.toArray⟩) (g := fun p : Par => .string ⟨p.2.toArray⟩) (HU.out.below HK.out.2) k hlt
        simp only [Value.slice.injEq, true_and] at he
        obtain ⟨rfl, rfl⟩ := he
        rw [hp] at h2 h3 h4
        obtain ⟨b, cb, he, g2, g3, g4⟩ := Sees.at2 (f := fun p : Par => .string ⟨p.1.toArray⟩) (g := fun p : Par => .string ⟨p.2.toArray⟩) (HV.out.below HK.out.2) k hltm
        simp only [Value.slice.injEq, true_and] at he
        obtain ⟨rfl, rfl⟩ := he
        rw [hq] at g2 g3 g4
        have hlt1 : (k : Int) < (l.length : Int) := by omega
        have hlt2 : (k : Int) < (m.length : Int) := by omega
        have hpq := neq44 ⟨p.1.toArray⟩ ⟨p.2.toArray⟩ ⟨q.1.toArray⟩ ⟨q.2.toArray⟩
        simp only [ba_beq] at hpq
        have HX := Lib.hid (And.intro hp hq)
        clear hp hq h3 g3
        rcases hb : (decide (p.1 = q.1) && decide (p.2 = q.2)) with _ | _
        · rw [hb] at hpq
          simp only [Bool.not_false] at hpq
          go_wp2_with fail
          go_quiet (fail)
          go_wp2
          go_ret
          refine ⟨?_, HK.out.2.trans ((below_drewN _ _).mono HK.out.2.size)⟩
          have : l ≠ m := by
            rintro rfl
            have h1 := HX.out.1
            rw [HX.out.2] at h1
            subst h1
            simp at hb
          simp [this]
        · rw [hb] at hpq
          simp only [Bool.not_true] at hpq
          go_wp2_with fail
          go_quiet (fail)
          go_wp2
          go_roundw
          case rel =>
            refine ⟨k + 1, by omega, by go_num, Lib.hid ⟨?_, HK.out.2.trans ((below_drewN _ _).mono HK.out.2.size)⟩⟩
            rw [List.take_succ_eq_append_getElem hlt, List.take_succ_eq_append_getElem hltm, HK.out.1, HX.out.1, HX.out.2]
            simp only [Bool.and_eq_true, decide_eq_true_eq] at hb
            rw [Prod.ext hb.1 hb.2]
          case measure => simp [intOf]; omega
      · obtain rfl : k = l.length := by omega
        go_wp2
        go_ret
        refine ⟨?_, HK.out.2⟩
        have h1 := HK.out.1
        rw [List.take_length, hlen, List.take_length] at h1
        simp [h1]
  · have hne : ((l.length : Int) != (m.length : Int)) = true := by simp; omega
    go_enter Tryz.func14, Tryz.ntmps14
    go_wp2
    go_ret
    refine ⟨?_, Below.refl _ _⟩
    have : l ≠ m := fun e => hlen (by rw [e])
    simp [this]
end Go.Proofs.YtmkcbkdbdcnoiaaGreatDoor
namespace Go.Proofs.YtmkcbkdbdcnoiaaGreatDoor
open Go.RowKit
set_option linter.unusedVariables false
set_option linter.unusedSimpArgs false

/-- Zeros for so many pairs. -/
def mkp (n : Nat) : Array Value := madeCells #[.string ⟨#[]⟩, .string ⟨#[]⟩] (n * 2)
theorem mkp_size (n : Nat) : (mkp n).size = n * 2 := size_madeCells _ _
theorem make_pairs (n m : Nat) (hn : n ≤ m) (hm : m ≤ 1000000) : ∀ W : World, (Instr.makeSlice 25 (.int .i64 (n : Int)) (.int .i64 (m : Int))).run Tryz.prog W = .ok (.slice (some ⟨W.heap.size, 0, none⟩) n m) (W.alloc (.cells (mkp m) 44)) := by
  intro W
  obtain ⟨i0, hi, hi0, hi1, hi2⟩ := info_parts infoPair
  have hr := run_make (P := Tryz.prog) W 25 44 i0 (.agg #[.string ⟨#[]⟩, .string ⟨#[]⟩]) Tryz.underlying25 hi hi0 .i64 .i64 n m (by omega) (by omega) (by rw [hi2]; omega) (by omega)
  rw [hi1] at hr
  exact hr

/-- A row copied onto an empty one with room for it. -/
theorem append_copy {ops : Array Oper} {rest : List Oper} {o : Oper} {a : Act} {Q : Exit → Act → World → Prop} {w : World} (hgd : o.guard = none) (s x : Operand)
    (ho : o.op = .call { callee := .builtin .append, args := #[s, x], argTypes := #[25, 25] }) (B g n : Nat) (xv : Value) (ys : List Value) (cur : Array Value)
    (hs : a.eval s = .slice (some ⟨g, 0, none⟩) 0 n) (hx : a.eval x = xv) (hg : w.heap[g]? = some (.cells cur 44 (0, 0))) (hcur : cur.size = n * 2) (hBg : B ≤ g) (hB : B ≤ w.heap.size)
    (hxv : Sees w xv n 2 ys) (h1 : ∀ u ∈ ys, u.oneCell' = true) (hn : n ≤ 1000000)
    (h : ∀ v' w', w'.ownsRow B 44 2 v' n ys → w.grownBy w' (some g) → wpList Tryz.prog ops Q rest (a.put o.dst v') w') : wpList Tryz.prog ops Q (o :: rest) a w := by
  obtain ⟨i0, hi, hi0, hi1, hi2⟩ := info_parts infoPair
  rcases Nat.eq_zero_or_pos n with h0 | h0
  · subst h0
    have hy : ys = [] := List.eq_nil_of_length_eq_zero (by have := hxv.1; simpa using this)
    subst hy
    refine append_full hgd s x 25 ho Tryz.underlying25 hi hi0 hi1 hi2 rfl (some ⟨g, 0, none⟩) 0 0 xv [] [] hs hx ⟨by simp, _, _, rfl, Nat.le_refl _, .inl rfl⟩ hxv (by simp) (by omega) (by omega) ?_
    intro v' w' hf
    obtain ⟨rfl, rfl⟩ := hf.none rfl
    exact h _ _ ⟨rfl, .inr ⟨g, 0, cur, rfl, hBg, hg, Nat.le_refl _, Nat.zero_le _, hcur, by simp⟩⟩ ⟨rfl, rfl, rfl, Nat.le_refl _, fun _ _ _ => rfl⟩
  · obtain ⟨hl, base, cap, rfl, hc, hr⟩ := hxv
    obtain ⟨ad, rfl, hcs⟩ := hr.resolve_left (by omega)
    refine wpList_append_own _ hgd s x 25 ho B 44 i0 _ 2 32 Tryz.underlying25 hi hi0 hi1 hi2 rfl (by decide) (.slice (some ⟨g, 0, none⟩) 0 n) 0 [] hs ⟨rfl, .inr ⟨g, n, cur, rfl, hBg, hg, Nat.zero_le _, by unfold maxLen; omega, hcur, by simp⟩⟩ ad n cap ys hx hl hcs h1 (by unfold maxLen; omega) (by omega) hB ?_
    intro v' w' hown hgrow _
    rw [Nat.zero_add, List.nil_append] at hown
    exact h v' w' hown hgrow

/-- Commands' cells. -/
def cmds (L : List Cmd) : List Value := L.flatMap fun c => [.int .i64 c.op, .int .u32 c.a, .int .u32 c.b, .int .u16 c.item, .int .i64 c.n, .int .i64 c.m]
def cmdc (c : Cmd) : List Value := [.int .i64 c.op, .int .u32 c.a, .int .u32 c.b, .int .u16 c.item, .int .i64 c.n, .int .i64 c.m]
theorem cmds_length (L : List Cmd) : (cmds L).length = L.length * 6 := by
  induction L with
  | nil => rfl
  | cons c L ih => simp only [cmds, List.flatMap_cons, List.length_append, List.length_cons, List.length_nil] at ih ⊢; omega
theorem cmds_get (L : List Cmd) (i : Nat) (hi : i < L.length) (j : Nat) (hj : j < 6) : (cmds L)[i * 6 + j]? = (cmdc (L[i]'hi))[j]? := by
  induction L generalizing i with
  | nil => simp at hi
  | cons c L ih =>
    have e : cmds (c :: L) = cmdc c ++ cmds L := rfl
    rw [e]
    have hc : (cmdc c).length = 6 := rfl
    cases i with
    | zero => rw [Nat.zero_mul, Nat.zero_add, List.getElem?_append_left (by omega)]; rfl
    | succ i =>
      rw [List.getElem?_append_right (by omega), hc, show (i + 1) * 6 + j - 6 = i * 6 + j by omega]
      exact ih i (by simpa using hi)
theorem Sees.at6 {w : World} {v : Value} {L : List Cmd} (h : Sees w v L.length 6 (cmds L)) (i : Nat) (hi : i < L.length) :
    ∃ a cap, v = .slice (some a) L.length cap ∧ w.cell? (a.add (i * 6)) = some (.int .i64 (L[i]'hi).op) ∧ w.cell? ⟨(a.add (i * 6)).block, (a.add (i * 6)).off + 1, none⟩ = some (.int .u32 (L[i]'hi).a) ∧ w.cell? ⟨(a.add (i * 6)).block, (a.add (i * 6)).off + 2, none⟩ = some (.int .u32 (L[i]'hi).b)
      ∧ w.cell? ⟨(a.add (i * 6)).block, (a.add (i * 6)).off + 3, none⟩ = some (.int .u16 (L[i]'hi).item) ∧ w.cell? ⟨(a.add (i * 6)).block, (a.add (i * 6)).off + 4, none⟩ = some (.int .i64 (L[i]'hi).n) ∧ w.cell? ⟨(a.add (i * 6)).block, (a.add (i * 6)).off + 5, none⟩ = some (.int .i64 (L[i]'hi).m) := by
  obtain ⟨_, base, cap, rfl, _, h⟩ := h
  obtain ⟨a, rfl, hc⟩ := h.resolve_left (by omega)
  refine ⟨a, cap, rfl, ?_, ?_, ?_, ?_, ?_, ?_⟩
  · exact hc _ _ (by have := cmds_get L i hi 0 (by omega); simpa [cmdc] using this)
  all_goals
    rw [add_field a _ _ (by omega)]
    first
    | exact hc _ _ (by have := cmds_get L i hi 1 (by omega); simpa [cmdc] using this)
    | exact hc _ _ (by have := cmds_get L i hi 2 (by omega); simpa [cmdc] using this)
    | exact hc _ _ (by have := cmds_get L i hi 3 (by omega); simpa [cmdc] using this)
    | exact hc _ _ (by have := cmds_get L i hi 4 (by omega); simpa [cmdc] using this)
    | exact hc _ _ (by have := cmds_get L i hi 5 (by omega); simpa [cmdc] using this)

/-! ### What a step leaves as it was -/
theorem deedF_E (l : List Par) (c : Cmd) (a : Ans) (i : Nat) : (deedF l c a i).2.1.1 = a.1 := by
  unfold deedF
  split <;> (try rfl)
  · unfold seF; split <;> (try split) <;> (try split) <;> rfl
  · unfold liF; split <;> (try split) <;> rfl
  · unfold tmF; split <;> rfl
  · unfold toF; split <;> (try split) <;> (try split) <;> rfl
theorem stepF_err {l l' : List Par} {c : Cmd} {a1 a2 a3 : Int} (h : stepF l c = (l', a1, a2, a3)) (h1 : a1 ≠ 0) : l' = l ∧ a2 = 0 ∧ a3 = 0 := by
  unfold stepF at h
  have hd : ∀ x, doneF l c = x → x.2.1 ≠ 0 → x.2.2 = (0, 0) := by
    intro x hx hne
    unfold doneF at hx
    split at hx
    · split at hx
      · split at hx
        · subst hx
          exact absurd (deedF_E l c (0, 0, 0) _) hne
        · subst hx; rfl
      · subst hx; rfl
    · subst hx; rfl
  split at h
  · rename_i h0
    rw [h] at h0
    exact absurd h0 h1
  · rename_i h0
    have := hd _ rfl h0
    simp only [Prod.mk.injEq] at h
    obtain ⟨rfl, h⟩ := h
    rw [h] at this
    simp only [Prod.mk.injEq] at this
    exact ⟨rfl, this.1, this.2⟩
theorem stepF_query {l l' : List Par} {c : Cmd} {a : Ans} (h : stepF l c = (l', a)) (h1 : 16 ≤ c.op) (h2 : c.op ≤ 19) : l' = l := by
  have hi : c.op.toNat - 1 = 15 ∨ c.op.toNat - 1 = 16 ∨ c.op.toNat - 1 = 17 ∨ c.op.toNat - 1 = 18 := by omega
  have hd : ∀ a, (deedF l c a (c.op.toNat - 1)).1 = l := by
    intro a
    rcases hi with h | h | h | h <;> rw [h] <;> rfl
  have hdone : (doneF l c).1 = l := by
    unfold doneF
    split
    · split
      · split <;> exact hd _
      · rfl
    · rfl
  unfold stepF at h
  split at h
  · rw [h] at hdone; exact hdone
  · simp only [Prod.mk.injEq] at h; exact h.1.symm
end Go.Proofs.YtmkcbkdbdcnoiaaGreatDoor
namespace Go.Proofs.YtmkcbkdbdcnoiaaGreatDoor
open Go.ChangeShapes Go.WideShapes Go.Deep Go.Joins Go.RowKit
set_option linter.unusedVariables false
set_option linter.unusedSimpArgs false

theorem own : ownKnob Tryz.prog.godebug = none := by kernel_rfl
theorem laidOut : laidOutB Tryz.prog = true := by kernel_rfl

section
variable {H : Type} {enc : TypeId × Value → H} {P : Program} {w : World} {base : Nat} {spare : Nat → Bool} {held : Bool}
theorem open_slice_fields {t e : TypeId} {fs : Array Field} {fuel : Nat} {cs : List Value} {x : DataW H × List MemPlace} (ht : P.underlying t = some (.slice e)) (he : P.underlying e = some (.struct fs))
    (hone : oneCellFields P fs = true) (hC : P.cellsOf e = fs.size) (h : DataW.trod enc P w base spare held fuel t cs = some x) :
    (cs = [.slice none 0 0] ∧ x = (.nil, [])) ∨
    ∃ (a : Addr) (len cap m : Nat) (D : Nat → DataW H) (Pl : Nat → List MemPlace), cs = [.slice (some a) len cap] ∧ base ≤ a.block ∧ len ≤ cap ∧ cap ≤ maxLen ∧ m = (if spare a.block then cap else len) ∧
      x = (.slice ((List.range len).map D) ((List.range (m - len)).map fun j => D (len + j)), MemPlace.row a (m * fs.size) ++ (List.range m).flatMap Pl) ∧
      ∀ i, i < m → ∃ (ys : List (DataW H × List MemPlace)) (n : Nat), D i = .agg (ys.map (·.1)) ∧ Pl i = ys.flatMap (·.2) ∧ ys.length = fs.size ∧
        ∀ (j : Nat) (f : Field), fs[j]? = some f → ∃ (v : Value) (y : DataW H × List MemPlace), w.cell? (a.add (i * fs.size + j)) = some v ∧ ys[j]? = some y ∧ DataW.trod enc P w base spare held n f.type [v] = some y := by
  rcases open_slice ht h with h0 | ⟨a, len, cap, m, n, D, Pl, hcs, hb, hl, hm, hmm, hx, hi⟩
  · exact .inl h0
  · refine .inr ⟨a, len, cap, m, D, Pl, hcs, hb, hl, hm, hmm, by rw [hC] at hx; exact hx, fun i him => ?_⟩
    obtain ⟨cs', hc, ht'⟩ := hi i him
    rw [hC] at hc
    obtain ⟨ys, n', hn', hy, hlen, hyl, hf⟩ := DataW.trod_struct he ht'
    obtain ⟨_, hcl, hat⟩ := World.cells?_some hc
    simp only [Prod.mk.injEq] at hy
    refine ⟨ys, n', hy.1, hy.2, hyl, fun j f hj => ?_⟩
    obtain ⟨ho, hk⟩ := hone_of hone j f hj
    have hjl : j < fs.size := (Array.getElem?_eq_some_iff.1 hj).1
    have hcell := hat j hjl
    have hv : cs'[j]? = some (cs'[j]'(by omega)) := List.getElem?_eq_getElem (by omega)
    have h1 := hf j f hj
    rw [ho, hk] at h1
    have hone' : (cs'.drop j).take 1 = [cs'[j]'(by omega)] := by
      rw [List.drop_eq_getElem_cons (by omega)]
      rfl
    rw [hone'] at h1
    have hys : ys[j]? = some (ys[j]'(by omega)) := List.getElem?_eq_getElem (by omega)
    refine ⟨_, _, ?_, hys, h1.trans hys⟩
    rw [← Go.Deep.add_add, hcell, hv]
end

theorem lit_u32 {n : Int} (h : (Lit.int .u32 n).wf = true) : 0 ≤ n ∧ n < 4294967296 := by
  simp only [Lit.wf, Bool.and_eq_true, decide_eq_true_eq] at h
  exact ⟨h.1, Int.lt_of_le_of_lt h.2 (by decide)⟩
theorem lit_u16 {n : Int} (h : (Lit.int .u16 n).wf = true) : 0 ≤ n ∧ n < 65536 := by
  simp only [Lit.wf, Bool.and_eq_true, decide_eq_true_eq] at h
  exact ⟨h.1, Int.lt_of_le_of_lt h.2 (by decide)⟩

section
variable {H : Type} {enc : TypeId × Value → H} {w : World} {base : Nat} {spare : Nat → Bool} {held : Bool}
theorem open_cmds {fuel : Nat} {v : Value} {x : DataW H × List MemPlace} (h : DataW.trod enc Tryz.prog w base spare held fuel 22 [v] = some x) :
    ∃ L : List Cmd, Sees w v L.length 6 (cmds L) ∧ ∀ c ∈ L, CmdOk c := by
  rcases open_slice_fields Tryz.underlying22 Tryz.underlying28 (by kernel_rfl) (by kernel_rfl) h with ⟨hcs, _⟩ | ⟨a, len, cap, m, D, Pl, hcs, hb, hl, hm, hmm, hx, hi⟩
  · obtain rfl : v = .slice none 0 0 := by simpa using hcs
    exact ⟨[], Sees.nil _ _, by simp⟩
  · obtain rfl : v = .slice (some a) len cap := by simpa using hcs
    have hlm : len ≤ m := by rw [hmm]; split <;> omega
    have key : ∀ i, i < len → ∃ c : Cmd, CmdOk c ∧ ∀ j u, (cmdc c)[j]? = some u → w.cell? (a.add (i * 6 + j)) = some u := by
      intro i hlt
      obtain ⟨ys, n, _, _, _, hf⟩ := hi i (by omega)
      obtain ⟨v0, y0, hc0, _, h0⟩ := hf 0 _ rfl
      obtain ⟨v1, y1, hc1, _, h1⟩ := hf 1 _ rfl
      obtain ⟨v2, y2, hc2, _, h2⟩ := hf 2 _ rfl
      obtain ⟨v3, y3, hc3, _, h3⟩ := hf 3 _ rfl
      obtain ⟨v4, y4, hc4, _, h4⟩ := hf 4 _ rfl
      obtain ⟨v5, y5, hc5, _, h5⟩ := hf 5 _ rfl
      obtain ⟨n0, e0, _, w0⟩ := DataW.trod_int Tryz.underlying3 h0
      obtain ⟨n1, e1, _, w1⟩ := DataW.trod_int Tryz.underlying26 h1
      obtain ⟨n2, e2, _, w2⟩ := DataW.trod_int Tryz.underlying26 h2
      obtain ⟨n3, e3, _, w3⟩ := DataW.trod_int Tryz.underlying23 h3
      obtain ⟨n4, e4, _, w4⟩ := DataW.trod_int Tryz.underlying2 h4
      obtain ⟨n5, e5, _, w5⟩ := DataW.trod_int Tryz.underlying2 h5
      obtain rfl : v0 = .int .i64 n0 := by simpa using e0
      obtain rfl : v1 = .int .u32 n1 := by simpa using e1
      obtain rfl : v2 = .int .u32 n2 := by simpa using e2
      obtain rfl : v3 = .int .u16 n3 := by simpa using e3
      obtain rfl : v4 = .int .i64 n4 := by simpa using e4
      obtain rfl : v5 = .int .i64 n5 := by simpa using e5
      refine ⟨⟨n0, n1, n2, n3, n4, n5⟩, ⟨lit_u32 w1, lit_u32 w2, lit_u16 w3⟩, ?_⟩
      intro j u hj
      match j, hj with
      | 0, hj => simp [cmdc] at hj; rw [← hj]; exact hc0
      | 1, hj => simp [cmdc] at hj; rw [← hj]; exact hc1
      | 2, hj => simp [cmdc] at hj; rw [← hj]; exact hc2
      | 3, hj => simp [cmdc] at hj; rw [← hj]; exact hc3
      | 4, hj => simp [cmdc] at hj; rw [← hj]; exact hc4
      | 5, hj => simp [cmdc] at hj; rw [← hj]; exact hc5
      | j + 6, hj => simp [cmdc] at hj
    have key2 : ∀ n, n ≤ len → ∃ L : List Cmd, L.length = n ∧ (∀ c ∈ L, CmdOk c) ∧ ∀ j u, (cmds L)[j]? = some u → w.cell? (a.add j) = some u := by
      intro n
      induction n with
      | zero => exact fun _ => ⟨[], rfl, by simp, fun j u h => by simp [cmds] at h⟩
      | succ n ih =>
        intro hn
        obtain ⟨L, hl, hok, hc⟩ := ih (by omega)
        obtain ⟨c, hcok, hcc⟩ := key n (by omega)
        have e : cmds (L ++ [c]) = cmds L ++ cmdc c := by simp [cmds, cmdc]
        refine ⟨L ++ [c], by simp [hl], ?_, fun j u h => ?_⟩
        · intro d hd
          rcases List.mem_append.1 hd with hd | hd
          · exact hok d hd
          · obtain rfl := List.mem_singleton.1 hd; exact hcok
        · rw [e] at h
          have hlen := cmds_length L
          rcases Nat.lt_or_ge j (cmds L).length with hlt | hge
          · rw [List.getElem?_append_left hlt] at h; exact hc j u h
          · rw [List.getElem?_append_right hge] at h
            have := hcc _ u h
            rwa [hlen, hl, show n * 6 + (j - n * 6) = j by omega] at this
    obtain ⟨L, hll, hok, hc⟩ := key2 len (Nat.le_refl _)
    refine ⟨L, ⟨cmds_length L, some a, cap, by rw [hll], by omega, .inr ⟨a, rfl, hc⟩⟩, hok⟩
end

/-! ### The listed variables -/
theorem gT : Tryz.prog.globalNamed "errors.errorType" = some 0 := by kernel_rfl
theorem gO : Tryz.prog.globalNamed "bazaar/money.errOverflow" = some 1 := by kernel_rfl
theorem gA : Tryz.prog.globalNamed "bazaar/money.errAmount" = some 2 := by kernel_rfl
theorem gF : Tryz.prog.globalNamed "bazaar/money.errFunds" = some 3 := by kernel_rfl
theorem gOt : (Tryz.prog.globals[1]?).map (·.type) = some 86 := by kernel_rfl
theorem gAt' : (Tryz.prog.globals[2]?).map (·.type) = some 86 := by kernel_rfl
theorem gFt : (Tryz.prog.globals[3]?).map (·.type) = some 86 := by kernel_rfl
end Go.Proofs.YtmkcbkdbdcnoiaaGreatDoor
namespace Go.Proofs.YtmkcbkdbdcnoiaaGreatDoor
open Go.ChangeShapes Go.WideShapes Go.Deep Go.Joins Go.RowKit
set_option linter.unusedVariables false
set_option linter.unusedSimpArgs false

theorem star : "*" ++ "errors.errorString" = "*errors.errorString" := by decide
theorem row268 (u : TypeId) (h : Tryz.prog.typeName? 3 u = some "*errors.errorString") : u = 268 :=
  typeName_ptr_named (nm := "errors.errorString") (by rw [star]; kernel_rfl) (by kernel_rfl) (by decide) u (by rw [star]; exact h)
theorem cells296 : Tryz.prog.cellsOf 296 = 1 := by kernel_rfl
theorem cells9 : Tryz.prog.cellsOf 9 = 1 := by kernel_rfl
theorem tRt : (Tryz.prog.cutTypes.find? (·.1 == "internal/reflectlite.rtype")).map (·.2) = some 225 := by kernel_rfl
theorem oneRow : ((List.range Tryz.prog.types.size).filter fun t => Tryz.prog.rowNamed t [101, 114, 114, 111, 114]) = [86] := by kernel_rfl

theorem laid_three {P : Program} {n0 n1 n2 nm : String} {text0 text1 text2 : List UInt8} {r : List (String × DataW Unit)} {W : World} {g0 g1 g2 : Nat} {ti tp te ts : TypeId} {ms : Array (String × TypeId)} {f : Field}
    (h : laidMet P ((n0, .iface nm (.ptr (.agg [.lit (.string text0)]))) :: (n1, .iface nm (.ptr (.agg [.lit (.string text1)]))) :: (n2, .iface nm (.ptr (.agg [.lit (.string text2)]))) :: r) W)
    (hg0 : P.globalNamed n0 = some g0) (ht0 : (P.globals[g0]?).map (·.type) = some ti) (hg1 : P.globalNamed n1 = some g1) (ht1 : (P.globals[g1]?).map (·.type) = some ti) (hg2 : P.globalNamed n2 = some g2) (ht2 : (P.globals[g2]?).map (·.type) = some ti)
    (hi : P.underlying ti = some (.interface ms)) (hrow : ∀ u, P.typeName? 3 u = some nm → u = tp)
    (hp : P.underlying tp = some (.pointer te)) (he : P.underlying te = some (.struct #[f])) (hft : f.type = ts) (hfo : f.offset = 0) (hs : P.underlying ts = some .string) (hc : P.cellsOf te = 1) (hcs : P.cellsOf ts = 1) :
    ∃ (a0 a1 a2 : Addr), W.var? P n0 = some #[.iface tp (.pointer (some a0))] ∧ W.var? P n1 = some #[.iface tp (.pointer (some a1))] ∧ W.var? P n2 = some #[.iface tp (.pointer (some a2))] ∧ a0 ≠ a1 ∧ a0 ≠ a2 ∧ a1 ≠ a2 ∧
      (∃ c t, W.heap[a0.block]? = some (.cells c t (0, 0))) ∧ (∃ c t, W.heap[a1.block]? = some (.cells c t (0, 0))) ∧ ∃ c t, W.heap[a2.block]? = some (.cells c t (0, 0)) := by
  obtain ⟨ps, ⟨g0', t0', cs0, f0, p0, q0, hg0', ht0', hv0, hd0, ⟨g1', t1', cs1, f1, p1, q1, hg1', ht1', hv1, hd1, ⟨g2', t2', cs2, f2, p2, q2, hg2', ht2', hv2, hd2, _, e2⟩, e1⟩, e0⟩, hnd, hrows⟩ := h
  obtain rfl := Option.some.inj (hg0.symm.trans hg0')
  obtain rfl := Option.some.inj (hg1.symm.trans hg1')
  obtain rfl := Option.some.inj (hg2.symm.trans hg2')
  obtain rfl := Option.some.inj (ht0.symm.trans ht0')
  obtain rfl := Option.some.inj (ht1.symm.trans ht1')
  obtain rfl := Option.some.inj (ht2.symm.trans ht2')
  subst e2
  subst e1
  subst e0
  obtain ⟨l0⟩ := cs0
  obtain ⟨l1⟩ := cs1
  obtain ⟨l2⟩ := cs2
  have ok0 : ∀ u v, l0 = [.iface u v] → Value.okWide P W .any 0 u v := fun u v e => by
    subst e
    exact (hrows g0 0 (by simp [MemPlace.row])).2 u v (by simpa using World.var?_cell hg0' hv0 0)
  have ok1 : ∀ u v, l1 = [.iface u v] → Value.okWide P W .any 0 u v := fun u v e => by
    subst e
    exact (hrows g1 0 (by simp [MemPlace.row])).2 u v (by simpa using World.var?_cell hg1' hv1 0)
  have ok2 : ∀ u v, l2 = [.iface u v] → Value.okWide P W .any 0 u v := fun u v e => by
    subst e
    exact (hrows g2 0 (by simp [MemPlace.row])).2 u v (by simpa using World.var?_cell hg2' hv2 0)
  obtain ⟨a0, s0, rfl, hc0, hs0, hz0, rfl⟩ := errorString_of_trod hi hrow hp he hft hfo hs hc hcs hd0 ok0
  obtain ⟨a1, s1, rfl, hc1, hs1, hz1, rfl⟩ := errorString_of_trod hi hrow hp he hft hfo hs hc hcs hd1 ok1
  obtain ⟨a2, s2, rfl, hc2, hs2, hz2, rfl⟩ := errorString_of_trod hi hrow hp he hft hfo hs hc hcs hd2 ok2
  refine ⟨a0, a1, a2, hv0, hv1, hv2, ?_, ?_, ?_, (hrows a0.block a0.off (by simp [MemPlace.row])).1, (hrows a1.block a1.off (by simp [MemPlace.row])).1, (hrows a2.block a2.off (by simp [MemPlace.row])).1⟩
  · rintro rfl; simp [MemPlace.row] at hnd
  · rintro rfl; simp [MemPlace.row] at hnd
  · rintro rfl; simp [MemPlace.row] at hnd

abbrev laidL : List (String × DataW Unit) := [("errors.errorType", Rows.laid_errors_errorType), ("bazaar/money.errAmount", Rows.laid_bazaar_money_errAmount), ("bazaar/money.errOverflow", Rows.laid_bazaar_money_errOverflow), ("bazaar/money.errFunds", Rows.laid_bazaar_money_errFunds)]

theorem glob_of_laid {W : World} (h : laidMetH Tryz.prog laidL W) : Glob W := by
  have h' : laidMet Tryz.prog [("bazaar/money.errAmount", Rows.laid_bazaar_money_errAmount), ("bazaar/money.errOverflow", Rows.laid_bazaar_money_errOverflow), ("bazaar/money.errFunds", Rows.laid_bazaar_money_errFunds)] W ∧ handlesMet Tryz.prog [("errors.errorType", Rows.laid_errors_errorType)] W := h
  obtain ⟨name, u, ty, e1, e2, e3, e4, e5⟩ := h'.2 _ (List.mem_singleton.2 rfl)
  have en : name = [101, 114, 114, 111, 114] := (Option.some.inj e1).symm
  subst en
  obtain rfl := Option.some.inj (tRt.symm.trans e2)
  have hm : ty ∈ (List.range Tryz.prog.types.size).filter fun t => Tryz.prog.rowNamed t [101, 114, 114, 111, 114] := List.mem_filter.2 ⟨List.mem_range.2 e3, e4⟩
  rw [oneRow] at hm
  obtain rfl := List.mem_singleton.1 hm
  have hh : typeHandle Tryz.prog 86 = .pointer (some ⟨5, 86, none⟩) := by kernel_rfl
  rw [hh] at e5
  obtain ⟨aa, ao, af, va, vo, vf, n1, n2, n3, ba, bo, bf⟩ := laid_three h'.1 gA gAt' gO gOt gF gFt Tryz.underlying86 row268 Tryz.underlying268 Tryz.underlying296 rfl rfl Tryz.underlying9 cells296 cells9
  exact ⟨ao, aa, af, ⟨by simpa using World.var?_cell gT e5 0, by simpa using World.var?_cell gO vo 0, by simpa using World.var?_cell gA va 0, by simpa using World.var?_cell gF vf 0, bo, ba, bf, Ne.symm n1, n3, n2⟩⟩

/-! A world that meets the condition. -/
noncomputable def low : Nat := (World.holding Tryz.prog default ⟨#[], #[], []⟩).heap.size
noncomputable def laidWorld (os : Os) : World :=
  let w0 := World.holding Tryz.prog os ⟨#[.cells #[.string ⟨#[110, 111, 32, 97, 109, 111, 117, 110, 116]⟩] 296, .cells #[.string ⟨#[116, 111, 111, 32, 109, 117, 99, 104]⟩] 296, .cells #[.string ⟨#[116, 111, 111, 32, 108, 105, 116, 116, 108, 101]⟩] 296], #[], []⟩
  { w0 with heap := (((w0.heap.modify 0 fun
      | .cells _ t frozen => .cells #[.iface 225 (.agg #[.pointer (some ⟨5, 86, none⟩)])] t frozen
      | o => o).modify 2 fun
      | .cells _ t frozen => .cells #[.iface 268 (.pointer (some ⟨low, 0, none⟩))] t frozen
      | o => o).modify 1 fun
      | .cells _ t frozen => .cells #[.iface 268 (.pointer (some ⟨low + 1, 0, none⟩))] t frozen
      | o => o).modify 3 fun
      | .cells _ t frozen => .cells #[.iface 268 (.pointer (some ⟨low + 2, 0, none⟩))] t frozen
      | o => o }
theorem laidWorld_met (os : Os) (args : Array Value) : laidMetH Tryz.prog laidL ((laidWorld os).forCall (fun _ _ => 0) ⟨#[], args, []⟩).memory :=
  laidMetH_of_parts (laidMet_of_run (ps := [.cell 2 0, .cell low 0, .cell 1 0, .cell (low + 1) 0, .cell 3 0, .cell (low + 2) 0]) 8 (by kernel_rfl) (by kernel_rfl) (by kernel_rfl)) (by kernel_rfl)
end Go.Proofs.YtmkcbkdbdcnoiaaGreatDoor
