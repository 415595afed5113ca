/- Package world: deeds: a map of method values. errors.As at world's refusal; told. Package world: told. Package world: done. -/
import Derived.Test.YtmkcbkdbdcnoiaaGreatDoorG01
import Derived.Test.YtmkcbkdbdcnoiaaGreatDoorG17
import Derived.Test.YtmkcbkdbdcnoiaaGreatDoorG21
namespace Go.Proofs.YtmkcbkdbdcnoiaaGreatDoor
open Go.RowKit
set_option linter.unusedVariables false
set_option linter.unusedSimpArgs false

theorem run_look_none {P : Program} (w : World) {t kt et : TypeId} (ht : P.underlying t = some (.map kt et)) (hk : P.underlying kt = some (.int .i64)) {r : Nat} {es : Array MapEntry} {c : Nat} (hg : w.heap[r]? = some (.map es c)) (k : Int) (z : Value) (hz : (zeroValue et).run P w = .ok z w)
    (hf : Instr.findNow (.int .i64) (.int .i64 k) es.toList 0 = some none) :
    (Instr.lookup t (.map (some r)) (.int .i64 k) false).run P w = .ok z w := by
  have hu := run_underlying ht
  have hu2 := run_underlying hk
  have hc := run_check_int w hk es.isEmpty k
  simp [Instr.lookup, hu, hc, hu2, Instr.findKey, hf, MapKept.run_getObj_map hg, Result.andThen, hz]
/-- The deeds' method values. -/
def dv (pw k : Nat) : Value := .func (.func k) #[.pointer (some ⟨pw, 0, none⟩)] #[]
def deedsL (pw : Nat) : List (Int × Value) := [(1, dv pw 46), (2, dv pw 47), (3, dv pw 48), (4, dv pw 49), (5, dv pw 50), (6, dv pw 51), (7, dv pw 52), (8, dv pw 53), (9, dv pw 54), (10, dv pw 55), (11, dv pw 56), (12, dv pw 57), (13, dv pw 58), (14, dv pw 59), (15, dv pw 60), (16, dv pw 61), (17, dv pw 62), (18, dv pw 63), (19, dv pw 64)]
def deedsE (pw n : Nat) : Array MapEntry := (((deedsL pw).take n).zipIdx.map fun x => ⟨.int .i64 x.1.1, x.1.2, x.2⟩).toArray

set_option maxHeartbeats 4000000 in
set_option maxRecDepth 100000 in
theorem deeds_any (pw : Nat) (w : World) : Calls Tryz.prog 26 #[.pointer (some ⟨pw, 0, none⟩)] w fun e w' => e = .returned (.map (some w.heap.size)) ∧ w'.heap[w.heap.size]? = some (.map (deedsE pw 19) 19) ∧ Below w.heap.size w w' := by
  have hmf : ∀ (fn : Fn) (first cap : Array Value) (w : World), (Instr.makeFunc fn first cap).run Tryz.prog w = .ok (.func fn first cap) w := fun _ _ _ _ => rfl
  have hmm := @run_makeMap Tryz.prog
  obtain ⟨r, hr⟩ : ∃ r, w.heap.size = r := ⟨_, rfl⟩
  obtain ⟨w0, h0⟩ : ∃ w0, w.alloc (.map #[] 0) = w0 := ⟨_, rfl⟩
  have g0 : w0.heap[r]? = some (.map (deedsE pw 0) 0) := by rw [← h0, ← hr]; exact heap_alloc_new w _
  have b0 : Below r w w0 := by rw [← h0, ← hr]; exact (Below.refl _ w).alloc (Nat.le_refl _) _
  have l0 : r < w0.heap.size := (Array.getElem?_eq_some_iff.1 g0).1
  have s0 := run_insert_new w0 Tryz.underlying82 Tryz.underlying3 g0 1 (dv pw 46) (by rfl)
  obtain ⟨w1, e0⟩ : ∃ w1, w0.putObj r (.map ((deedsE pw 0).push ⟨.int .i64 1, (dv pw 46), 0⟩) (0 + 1)) = w1 := ⟨_, rfl⟩
  rw [e0] at s0
  have g1 : w1.heap[r]? = some (.map (deedsE pw 1) 1) := by rw [← e0]; exact (World.putObj_heap_same l0)
  have b1 : Below r w w1 := by rw [← e0]; exact b0.trans (((Same.refl (fun k => k < r) w0).putObj _ (fun _ h => by omega)).below (by omega) fun k hk => hk)
  have l1 : r < w1.heap.size := (Array.getElem?_eq_some_iff.1 g1).1
  clear e0 b0 l0
  have s1 := run_insert_new w1 Tryz.underlying82 Tryz.underlying3 g1 2 (dv pw 47) (by rfl)
  obtain ⟨w2, e1⟩ : ∃ w2, w1.putObj r (.map ((deedsE pw 1).push ⟨.int .i64 2, (dv pw 47), 1⟩) (1 + 1)) = w2 := ⟨_, rfl⟩
  rw [e1] at s1
  have g2 : w2.heap[r]? = some (.map (deedsE pw 2) 2) := by rw [← e1]; exact (World.putObj_heap_same l1)
  have b2 : Below r w w2 := by rw [← e1]; exact b1.trans (((Same.refl (fun k => k < r) w1).putObj _ (fun _ h => by omega)).below (by omega) fun k hk => hk)
  have l2 : r < w2.heap.size := (Array.getElem?_eq_some_iff.1 g2).1
  clear e1 b1 l1
  have s2 := run_insert_new w2 Tryz.underlying82 Tryz.underlying3 g2 3 (dv pw 48) (by rfl)
  obtain ⟨w3, e2⟩ : ∃ w3, w2.putObj r (.map ((deedsE pw 2).push ⟨.int .i64 3, (dv pw 48), 2⟩) (2 + 1)) = w3 := ⟨_, rfl⟩
  rw [e2] at s2
  have g3 : w3.heap[r]? = some (.map (deedsE pw 3) 3) := by rw [← e2]; exact (World.putObj_heap_same l2)
  have b3 : Below r w w3 := by rw [← e2]; exact b2.trans (((Same.refl (fun k => k < r) w2).putObj _ (fun _ h => by omega)).below (by omega) fun k hk => hk)
  have l3 : r < w3.heap.size := (Array.getElem?_eq_some_iff.1 g3).1
  clear e2 b2 l2
  have s3 := run_insert_new w3 Tryz.underlying82 Tryz.underlying3 g3 4 (dv pw 49) (by rfl)
  obtain ⟨w4, e3⟩ : ∃ w4, w3.putObj r (.map ((deedsE pw 3).push ⟨.int .i64 4, (dv pw 49), 3⟩) (3 + 1)) = w4 := ⟨_, rfl⟩
  rw [e3] at s3
  have g4 : w4.heap[r]? = some (.map (deedsE pw 4) 4) := by rw [← e3]; exact (World.putObj_heap_same l3)
  have b4 : Below r w w4 := by rw [← e3]; exact b3.trans (((Same.refl (fun k => k < r) w3).putObj _ (fun _ h => by omega)).below (by omega) fun k hk => hk)
  have l4 : r < w4.heap.size := (Array.getElem?_eq_some_iff.1 g4).1
  clear e3 b3 l3
  have s4 := run_insert_new w4 Tryz.underlying82 Tryz.underlying3 g4 5 (dv pw 50) (by rfl)
  obtain ⟨w5, e4⟩ : ∃ w5, w4.putObj r (.map ((deedsE pw 4).push ⟨.int .i64 5, (dv pw 50), 4⟩) (4 + 1)) = w5 := ⟨_, rfl⟩
  rw [e4] at s4
  have g5 : w5.heap[r]? = some (.map (deedsE pw 5) 5) := by rw [← e4]; exact (World.putObj_heap_same l4)
  have b5 : Below r w w5 := by rw [← e4]; exact b4.trans (((Same.refl (fun k => k < r) w4).putObj _ (fun _ h => by omega)).below (by omega) fun k hk => hk)
  have l5 : r < w5.heap.size := (Array.getElem?_eq_some_iff.1 g5).1
  clear e4 b4 l4
  have s5 := run_insert_new w5 Tryz.underlying82 Tryz.underlying3 g5 6 (dv pw 51) (by rfl)
  obtain ⟨w6, e5⟩ : ∃ w6, w5.putObj r (.map ((deedsE pw 5).push ⟨.int .i64 6, (dv pw 51), 5⟩) (5 + 1)) = w6 := ⟨_, rfl⟩
  rw [e5] at s5
  have g6 : w6.heap[r]? = some (.map (deedsE pw 6) 6) := by rw [← e5]; exact (World.putObj_heap_same l5)
  have b6 : Below r w w6 := by rw [← e5]; exact b5.trans (((Same.refl (fun k => k < r) w5).putObj _ (fun _ h => by omega)).below (by omega) fun k hk => hk)
  have l6 : r < w6.heap.size := (Array.getElem?_eq_some_iff.1 g6).1
  clear e5 b5 l5
  have s6 := run_insert_new w6 Tryz.underlying82 Tryz.underlying3 g6 7 (dv pw 52) (by rfl)
  obtain ⟨w7, e6⟩ : ∃ w7, w6.putObj r (.map ((deedsE pw 6).push ⟨.int .i64 7, (dv pw 52), 6⟩) (6 + 1)) = w7 := ⟨_, rfl⟩
  rw [e6] at s6
  have g7 : w7.heap[r]? = some (.map (deedsE pw 7) 7) := by rw [← e6]; exact (World.putObj_heap_same l6)
  have b7 : Below r w w7 := by rw [← e6]; exact b6.trans (((Same.refl (fun k => k < r) w6).putObj _ (fun _ h => by omega)).below (by omega) fun k hk => hk)
  have l7 : r < w7.heap.size := (Array.getElem?_eq_some_iff.1 g7).1
  clear e6 b6 l6
  have s7 := run_insert_new w7 Tryz.underlying82 Tryz.underlying3 g7 8 (dv pw 53) (by rfl)
  obtain ⟨w8, e7⟩ : ∃ w8, w7.putObj r (.map ((deedsE pw 7).push ⟨.int .i64 8, (dv pw 53), 7⟩) (7 + 1)) = w8 := ⟨_, rfl⟩
  rw [e7] at s7
  have g8 : w8.heap[r]? = some (.map (deedsE pw 8) 8) := by rw [← e7]; exact (World.putObj_heap_same l7)
  have b8 : Below r w w8 := by rw [← e7]; exact b7.trans (((Same.refl (fun k => k < r) w7).putObj _ (fun _ h => by omega)).below (by omega) fun k hk => hk)
  have l8 : r < w8.heap.size := (Array.getElem?_eq_some_iff.1 g8).1
  clear e7 b7 l7
  have s8 := run_insert_new w8 Tryz.underlying82 Tryz.underlying3 g8 9 (dv pw 54) (by rfl)
  obtain ⟨w9, e8⟩ : ∃ w9, w8.putObj r (.map ((deedsE pw 8).push ⟨.int .i64 9, (dv pw 54), 8⟩) (8 + 1)) = w9 := ⟨_, rfl⟩
  rw [e8] at s8
  have g9 : w9.heap[r]? = some (.map (deedsE pw 9) 9) := by rw [← e8]; exact (World.putObj_heap_same l8)
  have b9 : Below r w w9 := by rw [← e8]; exact b8.trans (((Same.refl (fun k => k < r) w8).putObj _ (fun _ h => by omega)).below (by omega) fun k hk => hk)
  have l9 : r < w9.heap.size := (Array.getElem?_eq_some_iff.1 g9).1
  clear e8 b8 l8
  have s9 := run_insert_new w9 Tryz.underlying82 Tryz.underlying3 g9 10 (dv pw 55) (by rfl)
  obtain ⟨w10, e9⟩ : ∃ w10, w9.putObj r (.map ((deedsE pw 9).push ⟨.int .i64 10, (dv pw 55), 9⟩) (9 + 1)) = w10 := ⟨_, rfl⟩
  rw [e9] at s9
  have g10 : w10.heap[r]? = some (.map (deedsE pw 10) 10) := by rw [← e9]; exact (World.putObj_heap_same l9)
  have b10 : Below r w w10 := by rw [← e9]; exact b9.trans (((Same.refl (fun k => k < r) w9).putObj _ (fun _ h => by omega)).below (by omega) fun k hk => hk)
  have l10 : r < w10.heap.size := (Array.getElem?_eq_some_iff.1 g10).1
  clear e9 b9 l9
  have s10 := run_insert_new w10 Tryz.underlying82 Tryz.underlying3 g10 11 (dv pw 56) (by rfl)
  obtain ⟨w11, e10⟩ : ∃ w11, w10.putObj r (.map ((deedsE pw 10).push ⟨.int .i64 11, (dv pw 56), 10⟩) (10 + 1)) = w11 := ⟨_, rfl⟩
  rw [e10] at s10
  have g11 : w11.heap[r]? = some (.map (deedsE pw 11) 11) := by rw [← e10]; exact (World.putObj_heap_same l10)
  have b11 : Below r w w11 := by rw [← e10]; exact b10.trans (((Same.refl (fun k => k < r) w10).putObj _ (fun _ h => by omega)).below (by omega) fun k hk => hk)
  have l11 : r < w11.heap.size := (Array.getElem?_eq_some_iff.1 g11).1
  clear e10 b10 l10
  have s11 := run_insert_new w11 Tryz.underlying82 Tryz.underlying3 g11 12 (dv pw 57) (by rfl)
  obtain ⟨w12, e11⟩ : ∃ w12, w11.putObj r (.map ((deedsE pw 11).push ⟨.int .i64 12, (dv pw 57), 11⟩) (11 + 1)) = w12 := ⟨_, rfl⟩
  rw [e11] at s11
  have g12 : w12.heap[r]? = some (.map (deedsE pw 12) 12) := by rw [← e11]; exact (World.putObj_heap_same l11)
  have b12 : Below r w w12 := by rw [← e11]; exact b11.trans (((Same.refl (fun k => k < r) w11).putObj _ (fun _ h => by omega)).below (by omega) fun k hk => hk)
  have l12 : r < w12.heap.size := (Array.getElem?_eq_some_iff.1 g12).1
  clear e11 b11 l11
  have s12 := run_insert_new w12 Tryz.underlying82 Tryz.underlying3 g12 13 (dv pw 58) (by rfl)
  obtain ⟨w13, e12⟩ : ∃ w13, w12.putObj r (.map ((deedsE pw 12).push ⟨.int .i64 13, (dv pw 58), 12⟩) (12 + 1)) = w13 := ⟨_, rfl⟩
  rw [e12] at s12
  have g13 : w13.heap[r]? = some (.map (deedsE pw 13) 13) := by rw [← e12]; exact (World.putObj_heap_same l12)
  have b13 : Below r w w13 := by rw [← e12]; exact b12.trans (((Same.refl (fun k => k < r) w12).putObj _ (fun _ h => by omega)).below (by omega) fun k hk => hk)
  have l13 : r < w13.heap.size := (Array.getElem?_eq_some_iff.1 g13).1
  clear e12 b12 l12
  have s13 := run_insert_new w13 Tryz.underlying82 Tryz.underlying3 g13 14 (dv pw 59) (by rfl)
  obtain ⟨w14, e13⟩ : ∃ w14, w13.putObj r (.map ((deedsE pw 13).push ⟨.int .i64 14, (dv pw 59), 13⟩) (13 + 1)) = w14 := ⟨_, rfl⟩
  rw [e13] at s13
  have g14 : w14.heap[r]? = some (.map (deedsE pw 14) 14) := by rw [← e13]; exact (World.putObj_heap_same l13)
  have b14 : Below r w w14 := by rw [← e13]; exact b13.trans (((Same.refl (fun k => k < r) w13).putObj _ (fun _ h => by omega)).below (by omega) fun k hk => hk)
  have l14 : r < w14.heap.size := (Array.getElem?_eq_some_iff.1 g14).1
  clear e13 b13 l13
  have s14 := run_insert_new w14 Tryz.underlying82 Tryz.underlying3 g14 15 (dv pw 60) (by rfl)
  obtain ⟨w15, e14⟩ : ∃ w15, w14.putObj r (.map ((deedsE pw 14).push ⟨.int .i64 15, (dv pw 60), 14⟩) (14 + 1)) = w15 := ⟨_, rfl⟩
  rw [e14] at s14
  have g15 : w15.heap[r]? = some (.map (deedsE pw 15) 15) := by rw [← e14]; exact (World.putObj_heap_same l14)
  have b15 : Below r w w15 := by rw [← e14]; exact b14.trans (((Same.refl (fun k => k < r) w14).putObj _ (fun _ h => by omega)).below (by omega) fun k hk => hk)
  have l15 : r < w15.heap.size := (Array.getElem?_eq_some_iff.1 g15).1
  clear e14 b14 l14
  have s15 := run_insert_new w15 Tryz.underlying82 Tryz.underlying3 g15 16 (dv pw 61) (by rfl)
  obtain ⟨w16, e15⟩ : ∃ w16, w15.putObj r (.map ((deedsE pw 15).push ⟨.int .i64 16, (dv pw 61), 15⟩) (15 + 1)) = w16 := ⟨_, rfl⟩
  rw [e15] at s15
  have g16 : w16.heap[r]? = some (.map (deedsE pw 16) 16) := by rw [← e15]; exact (World.putObj_heap_same l15)
  have b16 : Below r w w16 := by rw [← e15]; exact b15.trans (((Same.refl (fun k => k < r) w15).putObj _ (fun _ h => by omega)).below (by omega) fun k hk => hk)
  have l16 : r < w16.heap.size := (Array.getElem?_eq_some_iff.1 g16).1
  clear e15 b15 l15
  have s16 := run_insert_new w16 Tryz.underlying82 Tryz.underlying3 g16 17 (dv pw 62) (by rfl)
  obtain ⟨w17, e16⟩ : ∃ w17, w16.putObj r (.map ((deedsE pw 16).push ⟨.int .i64 17, (dv pw 62), 16⟩) (16 + 1)) = w17 := ⟨_, rfl⟩
  rw [e16] at s16
  have g17 : w17.heap[r]? = some (.map (deedsE pw 17) 17) := by rw [← e16]; exact (World.putObj_heap_same l16)
  have b17 : Below r w w17 := by rw [← e16]; exact b16.trans (((Same.refl (fun k => k < r) w16).putObj _ (fun _ h => by omega)).below (by omega) fun k hk => hk)
  have l17 : r < w17.heap.size := (Array.getElem?_eq_some_iff.1 g17).1
  clear e16 b16 l16
  have s17 := run_insert_new w17 Tryz.underlying82 Tryz.underlying3 g17 18 (dv pw 63) (by rfl)
  obtain ⟨w18, e17⟩ : ∃ w18, w17.putObj r (.map ((deedsE pw 17).push ⟨.int .i64 18, (dv pw 63), 17⟩) (17 + 1)) = w18 := ⟨_, rfl⟩
  rw [e17] at s17
  have g18 : w18.heap[r]? = some (.map (deedsE pw 18) 18) := by rw [← e17]; exact (World.putObj_heap_same l17)
  have b18 : Below r w w18 := by rw [← e17]; exact b17.trans (((Same.refl (fun k => k < r) w17).putObj _ (fun _ h => by omega)).below (by omega) fun k hk => hk)
  have l18 : r < w18.heap.size := (Array.getElem?_eq_some_iff.1 g18).1
  clear e17 b17 l17
  have s18 := run_insert_new w18 Tryz.underlying82 Tryz.underlying3 g18 19 (dv pw 64) (by rfl)
  obtain ⟨w19, e18⟩ : ∃ w19, w18.putObj r (.map ((deedsE pw 18).push ⟨.int .i64 19, (dv pw 64), 18⟩) (18 + 1)) = w19 := ⟨_, rfl⟩
  rw [e18] at s18
  have g19 : w19.heap[r]? = some (.map (deedsE pw 19) 19) := by rw [← e18]; exact (World.putObj_heap_same l18)
  have b19 : Below r w w19 := by rw [← e18]; exact b18.trans (((Same.refl (fun k => k < r) w18).putObj _ (fun _ h => by omega)).below (by omega) fun k hk => hk)
  have l19 : r < w19.heap.size := (Array.getElem?_eq_some_iff.1 g19).1
  clear e18 b18 l18
  have HG := Lib.hid (And.intro g19 b19)
  have HS := Lib.hid (And.intro h0 hr)
  unfold dv at s0 s1 s2 s3 s4 s5 s6 s7 s8 s9 s10 s11 s12 s13 s14 s15 s16 s17 s18
  clear g0 g1 g2 g3 g4 g5 g6 g7 g8 g9 g10 g11 g12 g13 g14 g15 g16 g17 g18 g19 b19 l19
  go_enter Tryz.func26, Tryz.ntmps26
  go_wp2
  go_ret
  obtain ⟨_, hh⟩ := HS.out
  rw [hh]
  exact ⟨rfl, HG.out⟩
theorem deeds_look (pw r i : Nat) (hi : i < 19) (w : World) (hg : w.heap[r]? = some (.map (deedsE pw 19) 19)) : (Instr.lookup 82 (.map (some r)) (.int .i64 ((i : Int) + 1)) false).run Tryz.prog w = .ok (dv pw (46 + i)) w := by
  have h : i = 0 ∨ i = 1 ∨ i = 2 ∨ i = 3 ∨ i = 4 ∨ i = 5 ∨ i = 6 ∨ i = 7 ∨ i = 8 ∨ i = 9 ∨ i = 10 ∨ i = 11 ∨ i = 12 ∨ i = 13 ∨ i = 14 ∨ i = 15 ∨ i = 16 ∨ i = 17 ∨ i = 18 := by omega
  rcases h with rfl | rfl | rfl | rfl | rfl | rfl | rfl | rfl | rfl | rfl | rfl | rfl | rfl | rfl | rfl | rfl | rfl | rfl | rfl
  all_goals exact run_look w Tryz.underlying82 Tryz.underlying3 hg _ _ _ (by rfl)
theorem deeds_none (pw r : Nat) (k : Int) (hk : k < 1 ∨ 19 < k) (w : World) (hg : w.heap[r]? = some (.map (deedsE pw 19) 19)) : (Instr.lookup 82 (.map (some r)) (.int .i64 k) false).run Tryz.prog w = .ok .nilFunc w := by
  refine run_look_none w Tryz.underlying82 Tryz.underlying3 hg k .nilFunc (by kernel_rfl) ?_
  have : ∀ m : Int, 1 ≤ m → m ≤ 19 → Instr.sameNow (.int .i64) (.int .i64 k) (.int .i64 m) = some false := fun m h1 h2 => by simp [Instr.sameNow]; omega
  simp [deedsE, deedsL, Instr.findNow, this]
end Go.Proofs.YtmkcbkdbdcnoiaaGreatDoor
namespace Go.Proofs.YtmkcbkdbdcnoiaaGreatDoor
open Go.RowKit Go.Extern.Stop Go.Stop Go.Extern
set_option linter.unusedVariables false
set_option linter.unusedSimpArgs false

/-- errors.As(nil, target). -/
theorem as_nil (t : Value) (w : World) :
    Calls Tryz.prog 68 #[.nilIface, t] w fun e w' => e = .returned (.bool false) ∧ w' = w := by
  go_enter Tryz.func68, Tryz.ntmps68
  go_wp2
  go_ret
  exact ⟨rfl, rfl⟩

/-! ### CLOSED FACTS ON THE MODEL's ENTRIES FOR internal/reflectlite, at this program's types: 25: *p.E · 27: **p.E · 23: error · 45: reflectlite's rtype · 1: how many package-level variables the dump has -/
theorem asvalueOf27 (t : Addr) (w : World) : (ReflectliteValue.unpack (.iface 106 (.pointer (some t)))).run Tryz.prog w
    = .ok (.agg #[.pointer (some ⟨5, 106, none⟩), .pointer (some ⟨w.heap.size, 0, none⟩), .int .u64 150]) (w.alloc (.cells #[.pointer (some t)] 106)) := by kernel_rfl
theorem astype27 (a : Addr) (w : World) : (ReflectliteValue.methodAny (ReflectliteValue.valueError "reflectlite.Value.Type" 0) (fun t _ _ _ => ReflectliteType.toType t) #[.agg #[.pointer (some ⟨5, 106, none⟩), .pointer (some a), .int .u64 150]]).run Tryz.prog w
    = .ok (.iface 225 (.agg #[.pointer (some ⟨5, 106, none⟩)])) w := by kernel_rfl
theorem asmethodKind (h : Value) (w : World) : (Go.method 407 225 (.agg #[h]) "Kind").run Tryz.prog w = .ok (222, h) w := by kernel_rfl
theorem askind27 (w : World) : ((ReflectliteType.abiMethod fun t => (fun a : Nat => Value.int IntKind.u8 (a : Int)) <$> Rtype.kind t) #[.pointer (some ⟨5, 106, none⟩)]).run Tryz.prog w = .ok (.int .u8 22) w := by kernel_rfl
theorem askind25 (w : World) : ((ReflectliteType.abiMethod fun t => (fun a : Nat => Value.int IntKind.u8 (a : Int)) <$> Rtype.kind t) #[.pointer (some ⟨5, 104, none⟩)]).run Tryz.prog w = .ok (.int .u8 22) w := by kernel_rfl

/-! ### THE ENTRIES THAT READ OR WRITE MEMORY: laws with a premise on the cell (after Derived/Lib/ReflectliteSlice.lean's manner: each unfolding a lemma of its own, by rfl) -/
theorem rlm (z : Sem Value) (f : TypeId → Addr → Nat → Nat → Sem Value) (v : Value) :
    ReflectliteValue.method z f #[v] = (do match ← ReflectliteValue.parts v with | none => z | some (t, a, fl) => f t a fl (fl % 32)) := rfl
theorem asparts27 (a : Addr) (w : World) : (ReflectliteValue.parts (.agg #[.pointer (some ⟨5, 106, none⟩), .pointer (some a), .int .u64 150])).run Tryz.prog w = .ok (some (106, a, 150)) w := by kernel_rfl
/-- (Value).IsNil at the Value of a **p.E that is not nil. -/
theorem asisNil27 (a p : Addr) (W : World) (ha : W.cell? a = some (.pointer (some p))) :
    (ReflectliteValue.method (ReflectliteValue.valueError "reflectlite.Value.IsNil" 0) ReflectliteValue.isNil #[.agg #[.pointer (some ⟨5, 106, none⟩), .pointer (some a), .int .u64 150]]).run Tryz.prog W = .ok (.bool false) W := by
  rw [rlm]
  simp only [Sem.run_bind, asparts27, Result.andThen]
  simp [ReflectliteValue.isNil, loadVar, isAgg, underlying, Tryz.underlying106, ha, Result.andThen]

theorem asmethodElem (h : Value) (w : World) : (Go.method 407 225 (.agg #[h]) "Elem").run Tryz.prog w = .ok (248, .agg #[h]) w := by kernel_rfl
theorem asmethodImplements (h : Value) (w : World) : (Go.method 407 225 (.agg #[h]) "Implements").run Tryz.prog w = .ok (249, .agg #[h]) w := by kernel_rfl
theorem asmethodAssignableTo (h : Value) (w : World) : (Go.method 407 225 (.agg #[h]) "AssignableTo").run Tryz.prog w = .ok (246, .agg #[h]) w := by kernel_rfl
theorem aselem27 (w : World) : (ReflectliteType.method ReflectliteType.elem #[.agg #[.pointer (some ⟨5, 106, none⟩)]]).run Tryz.prog w = .ok (.iface 225 (.agg #[.pointer (some ⟨5, 104, none⟩)])) w := by kernel_rfl
theorem asimplements25 (w : World) : (ReflectliteType.relation "Implements" ReflectliteType.implements_ #[.agg #[.pointer (some ⟨5, 104, none⟩)], .iface 225 (.agg #[.pointer (some ⟨5, 86, none⟩)])]).run Tryz.prog w = .ok (.bool true) w := by kernel_rfl
theorem astypeOf25 (v : Value) (w : World) : (ReflectliteType.typeOf #[.iface 104 v]).run Tryz.prog w = .ok (.iface 225 (.agg #[.pointer (some ⟨5, 104, none⟩)])) w := by kernel_rfl
theorem asassignable25 (w : World) : (ReflectliteType.relation "AssignableTo" ReflectliteType.assignableTo #[.agg #[.pointer (some ⟨5, 104, none⟩)], .iface 225 (.agg #[.pointer (some ⟨5, 104, none⟩)])]).run Tryz.prog w = .ok (.bool true) w := by kernel_rfl
theorem asvalueOf25 (e : Addr) (w : World) : (ReflectliteValue.unpack (.iface 104 (.pointer (some e)))).run Tryz.prog w
    = .ok (.agg #[.pointer (some ⟨5, 104, none⟩), .pointer (some ⟨w.heap.size, 0, none⟩), .int .u64 150]) (w.alloc (.cells #[.pointer (some e)] 104)) := by kernel_rfl

theorem aselemOf27 (w : World) : (Rtype.elem? 106).run Tryz.prog w = .ok (some 104) w := by kernel_rfl
theorem asmk25 (p : Addr) (w : World) : (ReflectliteValue.mk 104 p ReflectliteValue.flagAddr).run Tryz.prog w = .ok (.agg #[.pointer (some ⟨5, 104, none⟩), .pointer (some p), .int .u64 406]) w := by kernel_rfl
/-- (Value).Elem at the Value of a **p.E that is not nil: the Value of the *p.E variable that it points to, addressable. -/
theorem aselemV27 (a p : Addr) (W : World) (ha : W.cell? a = some (.pointer (some p))) :
    (ReflectliteValue.method (ReflectliteValue.valueError "reflectlite.Value.Elem" 0) ReflectliteValue.elem #[.agg #[.pointer (some ⟨5, 106, none⟩), .pointer (some a), .int .u64 150]]).run Tryz.prog W
      = .ok (.agg #[.pointer (some ⟨5, 104, none⟩), .pointer (some p), .int .u64 406]) W := by
  rw [rlm]
  simp only [Sem.run_bind, asparts27, Result.andThen]
  simp [ReflectliteValue.elem, loadVar, isAgg, underlying, Tryz.underlying106, ha, Result.andThen, aselemOf27, asmk25]
theorem rls (v x : Value) : ReflectliteValue.set #[v, x] = (do
    let (some (dst, a, fl), some (src, b, _)) := (← ReflectliteValue.parts v, ← ReflectliteValue.parts x)
      | unsupported (.noEntry "extern/(internal/reflectlite.Value).Set.zeroValue")
    if fl / ReflectliteValue.flagAddr % 2 == 0 then unsupported (.noEntry "extern/(internal/reflectlite.Value).Set.unaddressable")
    let val ← loadVar src b
    if ← Rtype.directlyAssignable dst src then storeVar dst a val
    else if ← Rtype.implements dst src then
      if (← Rtype.kind src) == 20 then
        match val with
        | .nilIface => unsupported (.noEntry "extern/reflectlite: a nil value of one interface type handed on as a value of another")
        | _ => storeVar dst a val
      else storeVar dst a (.iface src val)
    else panicString ("reflectlite.Set: value of type " ++ (← Rtype.spelt src) ++ " is not assignable to type " ++ (← Rtype.spelt dst))
    pure (.tuple #[])) := rfl
theorem asparts25a (a : Addr) (w : World) : (ReflectliteValue.parts (.agg #[.pointer (some ⟨5, 104, none⟩), .pointer (some a), .int .u64 406])).run Tryz.prog w = .ok (some (104, a, 406)) w := by kernel_rfl
theorem asparts25 (a : Addr) (w : World) : (ReflectliteValue.parts (.agg #[.pointer (some ⟨5, 104, none⟩), .pointer (some a), .int .u64 150])).run Tryz.prog w = .ok (some (104, a, 150)) w := by kernel_rfl
theorem asdirect25 (w : World) : (Rtype.directlyAssignable 104 104).run Tryz.prog w = .ok true w := by kernel_rfl
theorem assize25 (w : World) : (sizeOf 104).run Tryz.prog w = .ok 1 w := by kernel_rfl
/-- (Value).Set: the *p.E variable at 'ta' gets what the Value's own variable 'b' holds. -/
theorem asset25 (ta b e : Addr) (old : Value) (W : World) (hb : W.cell? b = some (.pointer (some e))) (ht : W.cell? ta = some old) (hf : W.frozen? ta = false) :
    (ReflectliteValue.set #[.agg #[.pointer (some ⟨5, 104, none⟩), .pointer (some ta), .int .u64 406], .agg #[.pointer (some ⟨5, 104, none⟩), .pointer (some b), .int .u64 150]]).run Tryz.prog W
      = .ok (.tuple #[]) (W.setCell ta (.pointer (some e))) := by
  rw [rls]
  simp only [Sem.run_bind, asparts25a, asparts25, Result.andThen]
  simp [ReflectliteValue.flagAddr, loadVar, isAgg, underlying, Tryz.underlying104, hb, Result.andThen, asdirect25, storeVar, Value.cells, storeCells, Addr.add]
  rw [run_store Tryz.prog W ta _ _ (by rfl)]
  simp [ht, hf]

set_option maxHeartbeats 4000000 in
theorem as_hit (e t : Addr) (old : Value) (w : World) (hg : w.cell? ⟨0, 0, none⟩ = some (.iface 225 (.agg #[.pointer (some ⟨5, 86, none⟩)]))) (ht0 : w.cell? t = some old) (hf0 : w.frozen? t = false) :
    Calls Tryz.prog 68 #[.iface 104 (.pointer (some e)), .iface 106 (.pointer (some t))] w fun ev w' => ev = .returned (.bool true) ∧ w' = ((((w.alloc (.cells #[.pointer (some t)] 106)).alloc (.cells #[.pointer (some ⟨5, 106, none⟩), .pointer (some ⟨w.heap.size, 0, none⟩), .int .u64 150] 155)).alloc (.cells #[.pointer (some ⟨5, 106, none⟩), .pointer (some ⟨w.heap.size, 0, none⟩), .int .u64 150] 155)).alloc (.cells #[.pointer (some e)] 104)).setCell t (.pointer (some e)) := by
  have h6 := @run_callFunc_extern Tryz.prog 132 _ (fun args => ReflectliteValue.unpack (args.getD 0 (.tuple #[]))) Tryz.func132 (by kernel_rfl) (by kernel_rfl) (by kernel_rfl) (by kernel_rfl)
  have h7 := @run_callFunc_extern Tryz.prog 133 _ (ReflectliteValue.methodAny (ReflectliteValue.valueError "reflectlite.Value.Type" 0) (fun t _ _ _ => ReflectliteType.toType t)) Tryz.func133 (by kernel_rfl) (by kernel_rfl) (by kernel_rfl) (by kernel_rfl)
  have h8 := @run_callFunc_extern Tryz.prog 134 _ (ReflectliteValue.method (ReflectliteValue.valueError "reflectlite.Value.IsNil" 0) ReflectliteValue.isNil) Tryz.func134 (by kernel_rfl) (by kernel_rfl) (by kernel_rfl) (by kernel_rfl)
  have h27 := @run_callFunc_extern Tryz.prog 222 _ (ReflectliteType.abiMethod fun t => do pure (.int .u8 (← Rtype.kind t))) Tryz.func222 (by kernel_rfl) (by kernel_rfl) (by kernel_rfl) (by kernel_rfl)
  have h37 := @run_callFunc_extern Tryz.prog 248 _ (ReflectliteType.method ReflectliteType.elem) Tryz.func248 (by kernel_rfl) (by kernel_rfl) (by kernel_rfl) (by kernel_rfl)
  have h38 := @run_callFunc_extern Tryz.prog 249 _ (ReflectliteType.relation "Implements" ReflectliteType.implements_) Tryz.func249 (by kernel_rfl) (by kernel_rfl) (by kernel_rfl) (by kernel_rfl)
  have h10 := @run_callFunc_extern Tryz.prog 183 _ ReflectliteType.typeOf Tryz.func183 (by kernel_rfl) (by kernel_rfl) (by kernel_rfl) (by kernel_rfl)
  have h35 := @run_callFunc_extern Tryz.prog 246 _ (ReflectliteType.relation "AssignableTo" ReflectliteType.assignableTo) Tryz.func246 (by kernel_rfl) (by kernel_rfl) (by kernel_rfl) (by kernel_rfl)
  have h11 := @run_callFunc_extern Tryz.prog 184 _ (ReflectliteValue.method (ReflectliteValue.valueError "reflectlite.Value.Elem" 0) ReflectliteValue.elem) Tryz.func184 (by kernel_rfl) (by kernel_rfl) (by kernel_rfl) (by kernel_rfl)
  have h12 := @run_callFunc_extern Tryz.prog 185 _ ReflectliteValue.set Tryz.func185 (by kernel_rfl) (by kernel_rfl) (by kernel_rfl) (by kernel_rfl)
  have tO := astypeOf25
  have mA := asmethodAssignableTo
  have a25 := asassignable25
  have v25 := asvalueOf25
  have f6 := asvalueOf27
  have f7 := astype27
  have mK := asmethodKind
  have mE := asmethodElem
  have mI := asmethodImplements
  have k27 := askind27
  have k25 := askind25
  have e27 := aselem27
  have i25 := asimplements25
  have n8 := asisNil27 ⟨w.heap.size, 0, none⟩ t ((w.alloc (.cells #[.pointer (some t)] 106)).alloc (.cells #[.pointer (some ⟨5, 106, none⟩), .pointer (some ⟨w.heap.size, 0, none⟩), .int .u64 150] 155)) (by simp)
  have hlt : 0 < w.heap.size := by
    rcases Nat.eq_zero_or_pos w.heap.size with h0 | h
    · simp [World.cell?, h0] at hg
    · exact h
  have hg2 : ((w.alloc (.cells #[.pointer (some t)] 106)).alloc (.cells #[.pointer (some ⟨5, 106, none⟩), .pointer (some ⟨w.heap.size, 0, none⟩), .int .u64 150] 155)).cell? ⟨0, 0, none⟩ = some (.iface 225 (.agg #[.pointer (some ⟨5, 86, none⟩)])) := by
    rw [World.cell?_alloc_lt _ _ ⟨0, 0, none⟩ (by simp), World.cell?_alloc_lt _ _ ⟨0, 0, none⟩ hlt]; exact hg
  have htl : t.block < w.heap.size := by
    rcases Nat.lt_or_ge t.block w.heap.size with h | h
    · exact h
    · simp [World.cell?, Array.getElem?_eq_none h] at ht0
  have el := aselemV27 ⟨w.heap.size, 0, none⟩ t (((w.alloc (.cells #[.pointer (some t)] 106)).alloc (.cells #[.pointer (some ⟨5, 106, none⟩), .pointer (some ⟨w.heap.size, 0, none⟩), .int .u64 150] 155)).alloc (.cells #[.pointer (some ⟨5, 106, none⟩), .pointer (some ⟨w.heap.size, 0, none⟩), .int .u64 150] 155)) (by rw [World.cell?_alloc_lt _ _ ⟨w.heap.size, 0, none⟩ (by simp; omega)]; simp)
  have st := asset25 t ⟨w.heap.size + 1 + 1 + 1, 0, none⟩ e old ((((w.alloc (.cells #[.pointer (some t)] 106)).alloc (.cells #[.pointer (some ⟨5, 106, none⟩), .pointer (some ⟨w.heap.size, 0, none⟩), .int .u64 150] 155)).alloc (.cells #[.pointer (some ⟨5, 106, none⟩), .pointer (some ⟨w.heap.size, 0, none⟩), .int .u64 150] 155)).alloc (.cells #[.pointer (some e)] 104))
    (by rw [World.cell?_alloc_at _ _ _ _ (by simp)]; rfl)
    (by rw [World.cell?_alloc_lt _ _ t (by simp; omega), World.cell?_alloc_lt _ _ t (by simp; omega), World.cell?_alloc_lt _ _ t (by simp; omega), World.cell?_alloc_lt _ _ t htl]; exact ht0)
    (by rw [World.frozen?_alloc_old _ _ t (by simp; omega), World.frozen?_alloc_old _ _ t (by simp; omega), World.frozen?_alloc_old _ _ t (by simp; omega), World.frozen?_alloc_old _ _ t (Nat.ne_of_lt htl)]; exact hf0)
  go_enter Tryz.func68, Tryz.ntmps68
  go_wp2
  refine wp_loop_rounds 1 ?_
  rw [rounds_succ]
  go_wp2
  go_ret
  exact ⟨rfl, rfl⟩
end Go.Proofs.YtmkcbkdbdcnoiaaGreatDoor
namespace Go.Proofs.YtmkcbkdbdcnoiaaGreatDoor
open Go.RowKit
set_option linter.unusedVariables false
set_option linter.unusedSimpArgs false

theorem as_hit2 (e t : Addr) (w : World) (hG : Glob w) (ht : t = ⟨w.heap.size, 0, none⟩) :
    Calls Tryz.prog 68 #[.iface 104 (.pointer (some e)), .iface 106 (.pointer (some t))] (w.alloc (.cells #[.pointer none] 104)) fun ev w' => ev = .returned (.bool true) ∧ Below w.heap.size w w' ∧ w'.cell? t = some (.pointer (some e)) := by
  subst ht
  obtain ⟨W, hW⟩ : ∃ W, w.alloc (.cells #[.pointer none] 104) = W := ⟨_, rfl⟩
  have hb : Below w.heap.size w W := hW ▸ (Below.refl _ w).alloc (Nat.le_refl _) _
  have h0 : W.heap[w.heap.size]? = some (.cells #[.pointer none] 104 (0, 0)) := by rw [← hW]; exact heap_alloc_new w _
  obtain ⟨ao, aa, af, hg⟩ := hG.below hb
  have hsz : W.heap.size = w.heap.size + 1 := by rw [← hW]; simp
  rw [hW]
  refine (as_hit e ⟨w.heap.size, 0, none⟩ (.pointer none) W hg.ty (blk_cell h0 0) (blk_frozen h0 0)).mono ?_
  rintro ev w' ⟨rfl, rfl⟩
  have h1 := ((((hb.alloc (by omega) (.cells #[.pointer (some ⟨w.heap.size, 0, none⟩)] 106)).alloc (by simp; omega) (.cells #[.pointer (some ⟨5, 106, none⟩), .pointer (some ⟨W.heap.size, 0, none⟩), .int .u64 150] 155)).alloc (by simp; omega) (.cells #[.pointer (some ⟨5, 106, none⟩), .pointer (some ⟨W.heap.size, 0, none⟩), .int .u64 150] 155)).alloc (by simp; omega) (.cells #[.pointer (some e)] 104)).setCell (p := ⟨w.heap.size, 0, none⟩) (Nat.le_refl _) (.pointer (some e))
  refine ⟨rfl, h1, ?_⟩
  have k1 := keep_a (.cells #[.pointer (some e)] 104) (keep_a (.cells #[.pointer (some ⟨5, 106, none⟩), .pointer (some ⟨W.heap.size, 0, none⟩), .int .u64 150] 155) (keep_a (.cells #[.pointer (some ⟨5, 106, none⟩), .pointer (some ⟨W.heap.size, 0, none⟩), .int .u64 150] 155) (keep_a (.cells #[.pointer (some ⟨w.heap.size, 0, none⟩)] 106) h0)))
  have k2 := blk_set k1 0 (.pointer (some e))
  exact blk_cell k2 0

set_option maxHeartbeats 1000000 in
set_option maxRecDepth 100000 in
theorem told_nil (w : World) : Calls Tryz.prog 28 #[.nilIface] w fun e w' => e = .returned (.int .i64 0) ∧ Below w.heap.size w w' := by
  have h := fun t V => as_nil t V
  go_enter Tryz.func28, Tryz.ntmps28
  go_wp2_with fail
  refine (h _ _).mono ?_
  rintro e w' ⟨rfl, rfl⟩
  go_wp2
  go_ret
  exact ⟨rfl, (Below.refl _ w).alloc (Nat.le_refl _) _⟩

set_option maxHeartbeats 1000000 in
set_option maxRecDepth 100000 in
theorem told_hit (b : Nat) (x : Int) (w : World) (hb : w.heap[b]? = some (.cells #[.int .i64 x] 108 (0, 0))) (hG : Glob w) :
    Calls Tryz.prog 28 #[.iface 104 (.pointer (some ⟨b, 0, none⟩))] w fun e w' => e = .returned (.int .i64 x) ∧ Below w.heap.size w w' := by
  have h := as_hit2 ⟨b, 0, none⟩ ⟨w.heap.size, 0, none⟩ w hG rfl
  have H := Lib.hid (And.intro h hb)
  clear h hb hG
  go_enter Tryz.func28, Tryz.ntmps28
  go_wp2_with fail
  refine H.out.1.mono ?_
  rintro e W2 ⟨rfl, hb, hc⟩
  have c0 : W2.cell? ⟨b, 0, none⟩ = some (.int .i64 x) := blk_cell (keep_b H.out.2 hb) 0
  have HB := Lib.hid hb
  clear hb
  go_wp2
  go_ret
  exact ⟨rfl, HB.out⟩
end Go.Proofs.YtmkcbkdbdcnoiaaGreatDoor
namespace Go.Proofs.YtmkcbkdbdcnoiaaGreatDoor
open Go.RowKit
set_option linter.unusedVariables false
set_option linter.unusedSimpArgs false

theorem deeds_any2 (pw : Nat) (w : World) : Calls Tryz.prog 26 #[.pointer (some ⟨pw, 0, none⟩)] w fun e w' => ∃ r, e = .returned (.map (some r)) ∧ w'.heap[r]? = some (.map (deedsE pw 19) 19) ∧ Below w.heap.size w w' :=
  (deeds_any pw w).mono fun e w' h => ⟨_, h⟩
theorem res_cell1 {P : Program} {fn : Func} {p : Tmp} {ty t : TypeId} {tmps : Array Value} {w : World} {g : Nat} {cs : Array Value} {fr : Nat × Nat} {d : TypeDesc} (h : fn.results = #[.cell p ty])
    (hp : tmps.getD p undef = .pointer (some ⟨g, 0, none⟩)) (hb : w.heap[g]? = some (.cells cs t fr)) (hu : P.underlying ty = some d) (hd : d.isRow = true) (hi : (P.info? ty).map (·.size) = some cs.size) :
    (results fn tmps).run P w = .ok (.agg cs) w := by
  have hp' : tmps[p]?.getD undef = .pointer (some ⟨g, 0, none⟩) := by simpa using hp
  simp only [results, h]
  simp [Sem.run_bind, Result.andThen, hp', asAddr, load_blk hb hu hd hi]
section
variable {B pl pw : Nat} {L : List (Nat × Obj)} {R : List (Value × List Stk)} {l l' : List Par} {c : Cmd} {a a' : Ans} {w V V' : World}
theorem DK.deed (h : DK B pl pw L R l c a w V) (hw : Wk B pl pw l' c a' V') (hk : Kept2 pl pw V V') (hb : Below B V V') : DK B pl pw L [] l' c a' w V' :=
  ⟨⟨hw, h.ds.kp.trans hk, h.ds.bl.trans hb, h.ds.base⟩, fun x hx => hk.keep _ _ (h.at_ x hx) (h.non x hx).2.1 (h.non x hx).2.2.1 (h.non x hx).1, h.non, h.far, by simp⟩
theorem DK.turn3 {b : Nat} {x y z : Value} {t : TypeId} (h : DK B pl pw ((b, .cells #[x, y, z] t (0, 0)) :: L) R l c a w V) (ht : t ≠ 62) (u1 u2 u3 : Value) : DK B pl pw ((b, .cells #[u1, u2, u3] t (0, 0)) :: L) R l c a w (((V.setCell ⟨b, 0, none⟩ u1).setCell ⟨b, 1, none⟩ u2).setCell ⟨b, 2, none⟩ u3) := by
  have := ((h.turn ht 0 u1).turn ht 1 u2).turn ht 2 u3
  simpa using this
end
theorem eq_fn (k : Nat) (z : Value) (w : World) : (binOp .eql 81 (.func (.func k) #[z] #[]) .nilFunc).run Tryz.prog w = .ok (.bool false) w := by kernel_rfl
theorem eq_fn0 (w : World) : (binOp .eql 81 .nilFunc .nilFunc).run Tryz.prog w = .ok (.bool true) w := by kernel_rfl
def cmv (c : Cmd) : Value := .agg #[.int .i64 c.op, .int .u32 c.a, .int .u32 c.b, .int .u16 c.item, .int .i64 c.n, .int .i64 c.m]
def ansv (a : Ans) : Value := .agg #[.int .i64 a.1, .int .i64 a.2.1, .int .i64 a.2.2]
/-- What a command comes to. -/
def doneF (l : List Par) (c : Cmd) : List Par × Ans :=
  if 1 ≤ c.op ∧ c.op ≤ 19 then
    if (c.op = 1 ∨ c.op = 19) ∨ (acF l c.a).2 = 0 then
      if (deedF l c (0, 0, 0) (c.op.toNat - 1)).2.2 = 0 then ((deedF l c (0, 0, 0) (c.op.toNat - 1)).1, (deedF l c (0, 0, 0) (c.op.toNat - 1)).2.1)
      else ((deedF l c (0, 0, 0) (c.op.toNat - 1)).1, ((deedF l c (0, 0, 0) (c.op.toNat - 1)).2.2, 0, 0))
    else (l, ((acF l c.a).2, 0, 0))
  else (l, (2, 0, 0))
/-- What done leaves. -/
def DoneP (B pl pw b4 b3 : Nat) (c : Cmd) (w : World) (r : List Par × Ans) (w' : World) : Prop :=
  ∃ a L, DK B pl pw ((b4, .cells #[.int .i64 r.2.1, .int .i64 r.2.2.1, .int .i64 r.2.2.2] 31 (0, 0)) :: L) [] r.1 c a w w'
theorem DoneP.fin {B pl pw b4 b3 : Nat} {c : Cmd} {w w' : World} {r : List Par × Ans} (h : DoneP B pl pw b4 b3 c w r w') (hpw : w.heap.size ≤ pw) : LP B pl r.1 w w' := by
  obtain ⟨a, L, h⟩ := h
  refine ⟨h.wk.lst, ⟨h.ds.kp.os, h.ds.kp.tape, h.ds.kp.output, h.ds.kp.size, fun k o e1 e2 e3 => ?_⟩, h.ds.bl⟩
  have := (Array.getElem?_eq_some_iff.1 e1).1
  exact h.ds.kp.keep k o e1 e2 (by omega) e3

set_option maxHeartbeats 8000000 in
set_option maxRecDepth 100000 in
theorem done_any (B pl n : Nat) (l : List Par) (c : Cmd) (w : World) (hL : Lst B pl l w) (hB : B ≤ pl) (hg : ∃ W0, Glob W0 ∧ W0.heap.size ≤ B ∧ W0.heap.size ≤ w.heap.size ∧ ∀ k, k < W0.heap.size → w.heap[k]? = W0.heap[k]?) (hBw : B ≤ w.heap.size) (hO : Ok n l) (hn : n < 99990) (hc : CmdOk c) :
    Calls Tryz.prog 18 #[.iface 45 (.pointer (some ⟨pl, 0, none⟩)), cmv c] w fun e w' => e = .returned (ansv (doneF l c).2) ∧ LP B pl (doneF l c).1 w w' := by
  obtain ⟨b3, hb3⟩ : ∃ b3, w.heap.size = b3 := ⟨_, rfl⟩
  obtain ⟨b4, hb4⟩ : ∃ b4, b3 + 1 = b4 := ⟨_, rfl⟩
  obtain ⟨pw, hpw⟩ : ∃ pw, b4 + 1 = pw := ⟨_, rfl⟩
  obtain ⟨W1, hW1⟩ : ∃ W1, w.alloc (.cells #[.int .i64 c.op, .int .u32 c.a, .int .u32 c.b, .int .u16 c.item, .int .i64 c.n, .int .i64 c.m] 28) = W1 := ⟨_, rfl⟩
  obtain ⟨W2, hW2⟩ : ∃ W2, W1.alloc (.cells #[.int .i64 0, .int .i64 0, .int .i64 0] 31) = W2 := ⟨_, rfl⟩
  obtain ⟨W3, hW3⟩ : ∃ W3, W2.alloc (.cells (wc pl c (0, 0, 0)) 80) = W3 := ⟨_, rfl⟩
  have z1 : W1.heap.size = b4 := by rw [← hW1, World.size_alloc, hb3, hb4]
  have z2 : W2.heap.size = pw := by rw [← hW2, World.size_alloc, z1, hpw]
  have hpl : pl < b3 := by obtain ⟨v, h, _⟩ := hL; rw [← hb3]; exact (Array.getElem?_eq_some_iff.1 h).1
  have hD : DK B pl pw [(b4, .cells #[.int .i64 0, .int .i64 0, .int .i64 0] 31 (0, 0)), (b3, .cells #[.int .i64 c.op, .int .u32 c.a, .int .u32 c.b, .int .u16 c.item, .int .i64 c.n, .int .i64 c.m] 28 (0, 0))] [] l c (0, 0, 0) w W3 := by
    have h1 : Below w.heap.size w W1 := by rw [← hW1]; exact (Below.refl _ w).alloc (Nat.le_refl _) _
    have h2 : Below W1.heap.size W1 W2 := by rw [← hW2]; exact (Below.refl _ W1).alloc (Nat.le_refl _) _
    have h3 : Below W2.heap.size W2 W3 := by rw [← hW3]; exact (Below.refl _ W2).alloc (Nat.le_refl _) _
    have hb : Below w.heap.size w W3 := (h1.trans (h2.mono (by omega))).trans (h3.mono (by omega))
    have k3 : W1.heap[b3]? = some (.cells #[.int .i64 c.op, .int .u32 c.a, .int .u32 c.b, .int .u16 c.item, .int .i64 c.n, .int .i64 c.m] 28 (0, 0)) := by rw [← hW1, ← hb3]; exact heap_alloc_new w _
    have k4 : W2.heap[b4]? = some (.cells #[.int .i64 0, .int .i64 0, .int .i64 0] 31 (0, 0)) := by rw [← hW2, ← z1]; exact heap_alloc_new W1 _
    have k5 : W3.heap[pw]? = some (.cells (wc pl c (0, 0, 0)) 80 (0, 0)) := by rw [← hW3, ← z2]; exact heap_alloc_new W2 _
    obtain ⟨W0, g1, g2, g3, g4⟩ := hg
    refine ⟨⟨⟨hL.below hb, k5, by omega, hB, by omega, W0, g1, g2, Nat.le_trans g3 hb.size, fun k hk => (hb.block k (by omega)).trans (g4 k hk)⟩, Kept2.of_below hb, hb.mono hBw, hBw⟩, ?_, ?_, ?_, by simp⟩
    · intro x hx
      simp only [List.mem_cons, List.not_mem_nil, or_false] at hx
      rcases hx with rfl | rfl
      · exact keep_b k4 h3
      · exact keep_b (keep_b k3 h2) h3
    · intro x hx
      simp only [List.mem_cons, List.not_mem_nil, or_false] at hx
      rcases hx with rfl | rfl
      · exact ⟨rfl, by show b4 ≠ pl; omega, by show b4 ≠ pw; omega, by show w.heap.size ≤ b4; omega⟩
      · exact ⟨rfl, by show b3 ≠ pl; omega, by show b3 ≠ pw; omega, by show w.heap.size ≤ b3; omega⟩
    · refine List.pairwise_cons.2 ⟨fun x hx => ?_, List.pairwise_singleton _ _⟩
      simp only [List.mem_cons, List.not_mem_nil, or_false] at hx
      subst hx
      show b3 ≠ b4
      omega
  have hww : w.heap.size ≤ pw := by omega
  have hP2 : W2.heap[b3]? = some (.cells #[.int .i64 c.op, .int .u32 c.a, .int .u32 c.b, .int .u16 c.item, .int .i64 c.n, .int .i64 c.m] 28 (0, 0)) := by
    have k3 : W1.heap[b3]? = some (.cells #[.int .i64 c.op, .int .u32 c.a, .int .u32 c.b, .int .u16 c.item, .int .i64 c.n, .int .i64 c.m] 28 (0, 0)) := by rw [← hW1, ← hb3]; exact heap_alloc_new w _
    rw [← hW2]; exact keep_b k3 ((Below.refl _ W1).alloc (Nat.le_refl _) _)
  obtain ⟨R, hR⟩ : ∃ R, doneF l c = R := ⟨_, rfl⟩
  rw [hR]
  unfold doneF at hR
  have HZ := Lib.hid hww
  have HD := Lib.hid hD
  have hF := fun V => deeds_any2 pw V
  have KF := Lib.hid hF
  have hA := fun V (h : Wk B pl pw l c (0, 0, 0) V) => waccount_any B pl pw n l c (0, 0, 0) c.a V h hO (by omega) hc.a
  obtain ⟨x, hx⟩ : ∃ x, acF l c.a = x := ⟨_, rfl⟩
  rw [hx] at hA hR
  obtain ⟨⟨x1, x2⟩, xe⟩ := x
  unfold accv at hA
  dsimp only at hA hR
  have KA := Lib.hid hA
  unfold wc at hW3
  unfold cmv ansv
  clear hD hF hA
  have HP := Lib.hid (show ∀ j, W2.cell? ⟨b3, j, none⟩ = (#[.int .i64 c.op, .int .u32 c.a, .int .u32 c.b, .int .u16 c.item, .int .i64 c.n, .int .i64 c.m] : Array Value)[j]? from blk_cell hP2)
  clear hx hP2
  by_cases hop : 1 ≤ c.op ∧ c.op ≤ 19
  · rw [if_pos hop] at hR
    obtain ⟨i, hi⟩ : ∃ i : Nat, c.op.toNat - 1 = i := ⟨_, rfl⟩
    rw [hi] at hR
    have hi19 : i < 19 := by omega
    have hci : c.op = (i : Int) + 1 := by omega
    have hd := fun V (h : Wk B pl pw l c (0, 0, 0) V) => deed_any i hi19 B pl pw n l c (0, 0, 0) V h hO hn hc
    have hl := fun V r => deeds_look pw r i hi19 V
    rw [← hci] at hl
    unfold dv at hl
    generalize deedF l c (0, 0, 0) i = q at hd hR
    obtain ⟨L1, ⟨a1, a2, a3⟩, e1⟩ := q
    dsimp only at hR
    have hkk : ∀ z : Value, (binOp .eql 81 (.func (.func (46 + i)) #[z] #[]) .nilFunc).run Tryz.prog = (binOp .eql 81 (.func (.func (46 + i)) #[z] #[]) .nilFunc).run Tryz.prog := fun _ => rfl
    clear hkk
    obtain ⟨k, hk⟩ : ∃ k, 46 + i = k := ⟨_, rfl⟩
    rw [hk] at hd hl
    have HI := Lib.hid (And.intro hk (And.intro hi19 hci))
    clear hk
    have KL := Lib.hid hl
    have KD := Lib.hid hd
    clear hl hd hi hi19 hci
    rcases h1 : (c.op == 1) with _ | _
    · rcases h19 : (c.op == 19) with _ | _
      · have hno : ¬ (c.op = 1 ∨ c.op = 19) := by simp at h1 h19; omega
        simp only [hno, false_or] at hR
        clear hno
        have HR := Lib.hid hR
        clear hR
        clear hO hg hL
        have hfe := eq_fn
        have hf0 := eq_fn0
        have pf2 : ∀ j, W2.cell? ⟨b3, j, none⟩ = (#[.int .i64 c.op, .int .u32 c.a, .int .u32 c.b, .int .u16 c.item, .int .i64 c.n, .int .i64 c.m] : Array Value)[j]? := HP.out
        go_enter Tryz.func18, Tryz.ntmps18
        go_wp2_with fail
        clear pf2 hW1 hW2 hW3
        have pb30 : W3.cell? ⟨b3, 0, none⟩ = some (.int .i64 c.op) := HD.out.blk (List.Mem.tail _ (List.Mem.head _)) 0
        have HD' := Lib.hid (HD.out.drew); clear HD; have HD := HD'; clear HD'
        go_region_held3 (fun W' => W'.cell? ⟨b3, 0, none⟩ = some (.int .i64 c.op))
          (first | with_reducible exact qb30 | with_reducible exact pb30 | with_reducible exact cell_drew pb30)
          ((go_at_call 26; (with_reducible refine (KF.out _).mono ?_); rintro e V1 ⟨r, rfl, hm, hb⟩; have hlk := KL.out V1 r hm; have HD' := Lib.hid (HD.out.read hb); clear HD hb hm; have HD := HD'; clear HD'; have qb30 : V1.cell? ⟨b3, 0, none⟩ = some (.int .i64 c.op) := HD.out.blk (List.Mem.tail _ (List.Mem.head _)) 0))
        clear hlk pb30
        have tb30 : V1.cell? ⟨b3, 0, none⟩ = some (.int .i64 c.op) := HD.out.blk (List.Mem.tail _ (List.Mem.head _)) 0
        have tb31 : V1.cell? ⟨b3, 1, none⟩ = some (.int .u32 c.a) := HD.out.blk (List.Mem.tail _ (List.Mem.head _)) 1
        go_wp2_with fail
        refine (KA.out _ HD.out.wk).mono ?_
        rintro e V2 ⟨rfl, hb⟩
        have HD' := Lib.hid (HD.out.read hb); clear HD hb; have HD := HD'; clear HD'
        try clear tb30 tb31 qb30
        obtain ⟨b7, hb7⟩ : ∃ b7, V2.heap.size = b7 := ⟨_, rfl⟩
        obtain ⟨W7, hW7⟩ : ∃ W7, V2.alloc (.cells #[.int .i64 x1, .int .i64 x2] 55) = W7 := ⟨_, rfl⟩
        have HD' : Hid (DK B pl pw [(b7, .cells #[.int .i64 x1, .int .i64 x2] 55 (0, 0)), (b4, .cells #[.int .i64 0, .int .i64 0, .int .i64 0] 31 (0, 0)), (b3, .cells #[.int .i64 c.op, .int .u32 c.a, .int .u32 c.b, .int .u16 c.item, .int .i64 c.n, .int .i64 c.m] 28 (0, 0))] [] l c (0, 0, 0) w W7) := Lib.hid (by rw [← hW7, ← hb7]; exact HD.out.new _ 55 rfl)
        clear HD; have HD := HD'; clear HD'
        by_cases hz : xe = 0
        · subst hz
          have hR := HR.out
          rw [if_pos rfl] at hR
          clear HR
          have HR := Lib.hid hR
          clear hR
          obtain ⟨hk, hi19, hci⟩ := HI.out
          have hkk : k = 46 ∨ k = 47 ∨ k = 48 ∨ k = 49 ∨ k = 50 ∨ k = 51 ∨ k = 52 ∨ k = 53 ∨ k = 54 ∨ k = 55 ∨ k = 56 ∨ k = 57 ∨ k = 58 ∨ k = 59 ∨ k = 60 ∨ k = 61 ∨ k = 62 ∨ k = 63 ∨ k = 64 := by omega
          clear hk hi19 hci HI
          rcases hkk with rfl | rfl | rfl | rfl | rfl | rfl | rfl | rfl | rfl | rfl | rfl | rfl | rfl | rfl | rfl | rfl | rfl | rfl | rfl
          all_goals
            go_wp2_with fail
            refine (KD.out _ HD.out.wk).mono ?_
            try clear hW7 hb7
            try clear tb30 qb30
            rintro e V3 ⟨v, rfl, hv, hw, hk, hb⟩
            dsimp only at hv hw
            have HD' := Lib.hid (HD.out.deed hw hk hb); clear HD hk hb hw; have HD := HD'; clear HD'
            rcases hv with ⟨h0, rfl⟩ | ⟨h0, be, rfl, hbb, hbo⟩
            · have hR := HR.out
              rw [if_pos h0] at hR
              clear HR
              have HR := Lib.hid hR
              clear hR
              have r7 : V3.cell? ⟨pw, 7, none⟩ = some (.int .i64 a1) := HD.out.cell 7
              have r8 : V3.cell? ⟨pw, 8, none⟩ = some (.int .i64 a2) := HD.out.cell 8
              have r9 : V3.cell? ⟨pw, 9, none⟩ = some (.int .i64 a3) := HD.out.cell 9
              have HD' := Lib.hid HD.out.swap; clear HD; have HD := HD'; clear HD'
              have y0 : V3.cell? ⟨b4, 0, none⟩ = some (.int .i64 0) := HD.out.blk (List.Mem.head _) 0
              have y1 : V3.cell? ⟨b4, 1, none⟩ = some (.int .i64 0) := HD.out.blk (List.Mem.head _) 1
              have y2 : V3.cell? ⟨b4, 2, none⟩ = some (.int .i64 0) := HD.out.blk (List.Mem.head _) 2
              have yf : ∀ j, V3.frozen? ⟨b4, j, none⟩ = false := HD.out.frz (List.Mem.head _)
              have HT := Lib.hid (HD.out.turn3 (by decide) (.int .i64 a1) (.int .i64 a2) (.int .i64 a3))
              go_wp2
              have hE := HR.out
              subst hE
              refine bodyPost_ret (res_cell1 rfl rfl (HT.out.at_ _ (List.Mem.head _)) Tryz.underlying31 rfl (by kernel_rfl)) rfl ⟨rfl, ?_⟩
              exact DoneP.fin (pw := pw) (b3 := b3) ⟨_, _, HT.out⟩ HZ.out
            · have hR := HR.out
              rw [if_neg h0] at hR
              clear HR
              have HR := Lib.hid hR
              clear hR
              have KT := Lib.hid (told_hit be e1 V3 hbo HD.out.glob)
              clear hbo hbb
              go_wp2_with fail
              refine KT.out.mono ?_
              rintro e V4 ⟨rfl, hb⟩
              have HD' := Lib.hid (HD.out.read hb); clear HD hb; have HD := HD'; clear HD'
              have HD' := Lib.hid HD.out.swap; clear HD; have HD := HD'; clear HD'
              have y0 : V4.cell? ⟨b4, 0, none⟩ = some (.int .i64 0) := HD.out.blk (List.Mem.head _) 0
              have y1 : V4.cell? ⟨b4, 1, none⟩ = some (.int .i64 0) := HD.out.blk (List.Mem.head _) 1
              have y2 : V4.cell? ⟨b4, 2, none⟩ = some (.int .i64 0) := HD.out.blk (List.Mem.head _) 2
              have yf : ∀ j, V4.frozen? ⟨b4, j, none⟩ = false := HD.out.frz (List.Mem.head _)
              have HT := Lib.hid (HD.out.turn3 (by decide) (.int .i64 e1) (.int .i64 0) (.int .i64 0))
              go_wp2
              have hE := HR.out
              subst hE
              refine bodyPost_ret (res_cell1 rfl rfl (HT.out.at_ _ (List.Mem.head _)) Tryz.underlying31 rfl (by kernel_rfl)) rfl ⟨rfl, ?_⟩
              exact DoneP.fin (pw := pw) (b3 := b3) ⟨_, _, HT.out⟩ HZ.out
        · have hz' : (xe == 0) = false := by simpa using hz
          have hz2 : (xe != 0) = true := by simpa using hz
          have hR := HR.out
          rw [if_neg hz] at hR
          clear HR
          have HR := Lib.hid hR
          clear hR
          have HD' := Lib.hid HD.out.swap; clear HD; have HD := HD'; clear HD'
          have y0 : W7.cell? ⟨b4, 0, none⟩ = some (.int .i64 0) := HD.out.blk (List.Mem.head _) 0
          have y1 : W7.cell? ⟨b4, 1, none⟩ = some (.int .i64 0) := HD.out.blk (List.Mem.head _) 1
          have y2 : W7.cell? ⟨b4, 2, none⟩ = some (.int .i64 0) := HD.out.blk (List.Mem.head _) 2
          have yf : ∀ j, W7.frozen? ⟨b4, j, none⟩ = false := HD.out.frz (List.Mem.head _)
          have HT := Lib.hid (HD.out.turn3 (by decide) (.int .i64 xe) (.int .i64 0) (.int .i64 0))
          go_wp2
          have hE := HR.out
          subst hE
          refine bodyPost_ret (res_cell1 rfl rfl (HT.out.at_ _ (List.Mem.head _)) Tryz.underlying31 rfl (by kernel_rfl)) rfl ⟨rfl, ?_⟩
          exact DoneP.fin (pw := pw) (b3 := b3) ⟨_, _, HT.out⟩ HZ.out
      · have hyes : c.op = 1 ∨ c.op = 19 := by simp at h19; omega
        simp only [hyes, true_or, if_true] at hR
        clear hyes
        have HR := Lib.hid hR
        clear hR
        clear hO hg hL
        have hfe := eq_fn
        have hf0 := eq_fn0
        have pf2 : ∀ j, W2.cell? ⟨b3, j, none⟩ = (#[.int .i64 c.op, .int .u32 c.a, .int .u32 c.b, .int .u16 c.item, .int .i64 c.n, .int .i64 c.m] : Array Value)[j]? := HP.out
        go_enter Tryz.func18, Tryz.ntmps18
        go_wp2_with fail
        clear pf2 hW1 hW2 hW3
        have pb30 : W3.cell? ⟨b3, 0, none⟩ = some (.int .i64 c.op) := HD.out.blk (List.Mem.tail _ (List.Mem.head _)) 0
        have HD' := Lib.hid (HD.out.drew); clear HD; have HD := HD'; clear HD'
        go_region_held3 (fun W' => W'.cell? ⟨b3, 0, none⟩ = some (.int .i64 c.op))
          (first | with_reducible exact qb30 | with_reducible exact pb30 | with_reducible exact cell_drew pb30)
          ((go_at_call 26; (with_reducible refine (KF.out _).mono ?_); rintro e V1 ⟨r, rfl, hm, hb⟩; have hlk := KL.out V1 r hm; have HD' := Lib.hid (HD.out.read hb); clear HD hb hm; have HD := HD'; clear HD'; have qb30 : V1.cell? ⟨b3, 0, none⟩ = some (.int .i64 c.op) := HD.out.blk (List.Mem.tail _ (List.Mem.head _)) 0))
        clear hlk pb30
        have tb30 : V1.cell? ⟨b3, 0, none⟩ = some (.int .i64 c.op) := HD.out.blk (List.Mem.tail _ (List.Mem.head _)) 0
        obtain ⟨hk, hi19, hci⟩ := HI.out
        have hkk : k = 64 := by simp at h19; omega
        clear hk hi19 hci HI
        subst hkk
        go_wp2_with fail
        refine (KD.out _ HD.out.wk).mono ?_
        try clear hW7 hb7
        try clear tb30 qb30
        rintro e V3 ⟨v, rfl, hv, hw, hk, hb⟩
        dsimp only at hv hw
        have HD' := Lib.hid (HD.out.deed hw hk hb); clear HD hk hb hw; have HD := HD'; clear HD'
        rcases hv with ⟨h0, rfl⟩ | ⟨h0, be, rfl, hbb, hbo⟩
        · have hR := HR.out
          rw [if_pos h0] at hR
          clear HR
          have HR := Lib.hid hR
          clear hR
          have r7 : V3.cell? ⟨pw, 7, none⟩ = some (.int .i64 a1) := HD.out.cell 7
          have r8 : V3.cell? ⟨pw, 8, none⟩ = some (.int .i64 a2) := HD.out.cell 8
          have r9 : V3.cell? ⟨pw, 9, none⟩ = some (.int .i64 a3) := HD.out.cell 9
          have y0 : V3.cell? ⟨b4, 0, none⟩ = some (.int .i64 0) := HD.out.blk (List.Mem.head _) 0
          have y1 : V3.cell? ⟨b4, 1, none⟩ = some (.int .i64 0) := HD.out.blk (List.Mem.head _) 1
          have y2 : V3.cell? ⟨b4, 2, none⟩ = some (.int .i64 0) := HD.out.blk (List.Mem.head _) 2
          have yf : ∀ j, V3.frozen? ⟨b4, j, none⟩ = false := HD.out.frz (List.Mem.head _)
          have HT := Lib.hid (HD.out.turn3 (by decide) (.int .i64 a1) (.int .i64 a2) (.int .i64 a3))
          go_wp2
          have hE := HR.out
          subst hE
          refine bodyPost_ret (res_cell1 rfl rfl (HT.out.at_ _ (List.Mem.head _)) Tryz.underlying31 rfl (by kernel_rfl)) rfl ⟨rfl, ?_⟩
          exact DoneP.fin (pw := pw) (b3 := b3) ⟨_, _, HT.out⟩ HZ.out
        · have hR := HR.out
          rw [if_neg h0] at hR
          clear HR
          have HR := Lib.hid hR
          clear hR
          have KT := Lib.hid (told_hit be e1 V3 hbo HD.out.glob)
          clear hbo hbb
          go_wp2_with fail
          refine KT.out.mono ?_
          rintro e V4 ⟨rfl, hb⟩
          have HD' := Lib.hid (HD.out.read hb); clear HD hb; have HD := HD'; clear HD'
          have y0 : V4.cell? ⟨b4, 0, none⟩ = some (.int .i64 0) := HD.out.blk (List.Mem.head _) 0
          have y1 : V4.cell? ⟨b4, 1, none⟩ = some (.int .i64 0) := HD.out.blk (List.Mem.head _) 1
          have y2 : V4.cell? ⟨b4, 2, none⟩ = some (.int .i64 0) := HD.out.blk (List.Mem.head _) 2
          have yf : ∀ j, V4.frozen? ⟨b4, j, none⟩ = false := HD.out.frz (List.Mem.head _)
          have HT := Lib.hid (HD.out.turn3 (by decide) (.int .i64 e1) (.int .i64 0) (.int .i64 0))
          go_wp2
          have hE := HR.out
          subst hE
          refine bodyPost_ret (res_cell1 rfl rfl (HT.out.at_ _ (List.Mem.head _)) Tryz.underlying31 rfl (by kernel_rfl)) rfl ⟨rfl, ?_⟩
          exact DoneP.fin (pw := pw) (b3 := b3) ⟨_, _, HT.out⟩ HZ.out
    · have hyes : c.op = 1 ∨ c.op = 19 := by simp at h1; omega
      simp only [hyes, true_or, if_true] at hR
      clear hyes
      have HR := Lib.hid hR
      clear hR
      clear hO hg hL
      have hfe := eq_fn
      have hf0 := eq_fn0
      have pf2 : ∀ j, W2.cell? ⟨b3, j, none⟩ = (#[.int .i64 c.op, .int .u32 c.a, .int .u32 c.b, .int .u16 c.item, .int .i64 c.n, .int .i64 c.m] : Array Value)[j]? := HP.out
      go_enter Tryz.func18, Tryz.ntmps18
      go_wp2_with fail
      clear pf2 hW1 hW2 hW3
      have pb30 : W3.cell? ⟨b3, 0, none⟩ = some (.int .i64 c.op) := HD.out.blk (List.Mem.tail _ (List.Mem.head _)) 0
      have HD' := Lib.hid (HD.out.drew); clear HD; have HD := HD'; clear HD'
      go_region_held3 (fun W' => W'.cell? ⟨b3, 0, none⟩ = some (.int .i64 c.op))
        (first | with_reducible exact qb30 | with_reducible exact pb30 | with_reducible exact cell_drew pb30)
        ((go_at_call 26; (with_reducible refine (KF.out _).mono ?_); rintro e V1 ⟨r, rfl, hm, hb⟩; have hlk := KL.out V1 r hm; have HD' := Lib.hid (HD.out.read hb); clear HD hb hm; have HD := HD'; clear HD'; have qb30 : V1.cell? ⟨b3, 0, none⟩ = some (.int .i64 c.op) := HD.out.blk (List.Mem.tail _ (List.Mem.head _)) 0))
      clear hlk pb30
      have tb30 : V1.cell? ⟨b3, 0, none⟩ = some (.int .i64 c.op) := HD.out.blk (List.Mem.tail _ (List.Mem.head _)) 0
      obtain ⟨hk, hi19, hci⟩ := HI.out
      have hkk : k = 46 := by simp at h1; omega
      clear hk hi19 hci HI
      subst hkk
      go_wp2_with fail
      refine (KD.out _ HD.out.wk).mono ?_
      try clear hW7 hb7
      try clear tb30 qb30
      rintro e V3 ⟨v, rfl, hv, hw, hk, hb⟩
      dsimp only at hv hw
      have HD' := Lib.hid (HD.out.deed hw hk hb); clear HD hk hb hw; have HD := HD'; clear HD'
      rcases hv with ⟨h0, rfl⟩ | ⟨h0, be, rfl, hbb, hbo⟩
      · have hR := HR.out
        rw [if_pos h0] at hR
        clear HR
        have HR := Lib.hid hR
        clear hR
        have r7 : V3.cell? ⟨pw, 7, none⟩ = some (.int .i64 a1) := HD.out.cell 7
        have r8 : V3.cell? ⟨pw, 8, none⟩ = some (.int .i64 a2) := HD.out.cell 8
        have r9 : V3.cell? ⟨pw, 9, none⟩ = some (.int .i64 a3) := HD.out.cell 9
        have y0 : V3.cell? ⟨b4, 0, none⟩ = some (.int .i64 0) := HD.out.blk (List.Mem.head _) 0
        have y1 : V3.cell? ⟨b4, 1, none⟩ = some (.int .i64 0) := HD.out.blk (List.Mem.head _) 1
        have y2 : V3.cell? ⟨b4, 2, none⟩ = some (.int .i64 0) := HD.out.blk (List.Mem.head _) 2
        have yf : ∀ j, V3.frozen? ⟨b4, j, none⟩ = false := HD.out.frz (List.Mem.head _)
        have HT := Lib.hid (HD.out.turn3 (by decide) (.int .i64 a1) (.int .i64 a2) (.int .i64 a3))
        go_wp2
        have hE := HR.out
        subst hE
        refine bodyPost_ret (res_cell1 rfl rfl (HT.out.at_ _ (List.Mem.head _)) Tryz.underlying31 rfl (by kernel_rfl)) rfl ⟨rfl, ?_⟩
        exact DoneP.fin (pw := pw) (b3 := b3) ⟨_, _, HT.out⟩ HZ.out
      · have hR := HR.out
        rw [if_neg h0] at hR
        clear HR
        have HR := Lib.hid hR
        clear hR
        have KT := Lib.hid (told_hit be e1 V3 hbo HD.out.glob)
        clear hbo hbb
        go_wp2_with fail
        refine KT.out.mono ?_
        rintro e V4 ⟨rfl, hb⟩
        have HD' := Lib.hid (HD.out.read hb); clear HD hb; have HD := HD'; clear HD'
        have y0 : V4.cell? ⟨b4, 0, none⟩ = some (.int .i64 0) := HD.out.blk (List.Mem.head _) 0
        have y1 : V4.cell? ⟨b4, 1, none⟩ = some (.int .i64 0) := HD.out.blk (List.Mem.head _) 1
        have y2 : V4.cell? ⟨b4, 2, none⟩ = some (.int .i64 0) := HD.out.blk (List.Mem.head _) 2
        have yf : ∀ j, V4.frozen? ⟨b4, j, none⟩ = false := HD.out.frz (List.Mem.head _)
        have HT := Lib.hid (HD.out.turn3 (by decide) (.int .i64 e1) (.int .i64 0) (.int .i64 0))
        go_wp2
        have hE := HR.out
        subst hE
        refine bodyPost_ret (res_cell1 rfl rfl (HT.out.at_ _ (List.Mem.head _)) Tryz.underlying31 rfl (by kernel_rfl)) rfl ⟨rfl, ?_⟩
        exact DoneP.fin (pw := pw) (b3 := b3) ⟨_, _, HT.out⟩ HZ.out
  · rw [if_neg hop] at hR
    have HR := Lib.hid hR
    clear hR
    have hl := fun V r => deeds_none pw r c.op (by omega) V
    have KL := Lib.hid hl
    clear hl
    clear hO hg hL
    have hfe := eq_fn
    have hf0 := eq_fn0
    have pf2 : ∀ j, W2.cell? ⟨b3, j, none⟩ = (#[.int .i64 c.op, .int .u32 c.a, .int .u32 c.b, .int .u16 c.item, .int .i64 c.n, .int .i64 c.m] : Array Value)[j]? := HP.out
    go_enter Tryz.func18, Tryz.ntmps18
    go_wp2_with fail
    clear pf2 hW1 hW2 hW3
    have pb30 : W3.cell? ⟨b3, 0, none⟩ = some (.int .i64 c.op) := HD.out.blk (List.Mem.tail _ (List.Mem.head _)) 0
    have HD' := Lib.hid (HD.out.drew); clear HD; have HD := HD'; clear HD'
    go_region_held3 (fun W' => W'.cell? ⟨b3, 0, none⟩ = some (.int .i64 c.op))
      (first | with_reducible exact qb30 | with_reducible exact pb30 | with_reducible exact cell_drew pb30)
      ((go_at_call 26; (with_reducible refine (KF.out _).mono ?_); rintro e V1 ⟨r, rfl, hm, hb⟩; have hlk := KL.out V1 r hm; have HD' := Lib.hid (HD.out.read hb); clear HD hb hm; have HD := HD'; clear HD'; have qb30 : V1.cell? ⟨b3, 0, none⟩ = some (.int .i64 c.op) := HD.out.blk (List.Mem.tail _ (List.Mem.head _)) 0))
    clear hlk pb30
    have y0 : V1.cell? ⟨b4, 0, none⟩ = some (.int .i64 0) := HD.out.blk (List.Mem.head _) 0
    have y1 : V1.cell? ⟨b4, 1, none⟩ = some (.int .i64 0) := HD.out.blk (List.Mem.head _) 1
    have y2 : V1.cell? ⟨b4, 2, none⟩ = some (.int .i64 0) := HD.out.blk (List.Mem.head _) 2
    have yf : ∀ j, V1.frozen? ⟨b4, j, none⟩ = false := HD.out.frz (List.Mem.head _)
    have HT := Lib.hid (HD.out.turn3 (by decide) (.int .i64 2) (.int .i64 0) (.int .i64 0))
    go_wp2
    have hE := HR.out
    subst hE
    refine bodyPost_ret (res_cell1 rfl rfl (HT.out.at_ _ (List.Mem.head _)) Tryz.underlying31 rfl (by kernel_rfl)) rfl ⟨rfl, ?_⟩
    exact DoneP.fin (pw := pw) (b3 := b3) ⟨_, _, HT.out⟩ HZ.out
end Go.Proofs.YtmkcbkdbdcnoiaaGreatDoor
