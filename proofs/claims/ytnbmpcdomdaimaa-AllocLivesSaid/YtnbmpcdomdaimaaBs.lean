/- What slices.BinarySearchFunc answers with Give's function. -/
import Derived.Test.YtnbmpcdomdaimaaIx
import Derived.Deep.QuietTactic
import Derived.BigQuiet
import Derived.Deep.RegionHeld3
import Derived.IntWalk
import Derived.Deep.CutBlock
namespace Go.Proofs.Ytnbmpcdomdaimaa
open Go.RowKit
set_option linter.unusedVariables false
set_option linter.unusedSimpArgs false

set_option maxHeartbeats 400000 in
set_option maxRecDepth 100000 in
/-- 'func(s api.Spare, p uint32) int { return int(s.Page) - int(p) }': the struct is boxed. -/
theorem diff_any (a t p : Nat) (w : World) (ha : a < 4294967296) (hp : p < 4294967296) :
    Calls Try.prog 31 #[.agg #[.int .u32 (a : Int), .int .u64 (t : Int)], .int .u32 (p : Int)] w fun e w' => e = .returned (.int .i64 ((a : Int) - (p : Int))) ∧ Below w.heap.size w w' := by
  have hc2 : (w.alloc (.cells #[.int .u32 (a : Int), .int .u64 (t : Int)] 44)).cell? ⟨w.heap.size, 0, none⟩ = some (.int .u32 (a : Int)) := blk_cell (heap_alloc_new w _) 0
  have h1 : IntKind.i64.wrap (a : Int) = (a : Int) := IntWalk.i64_in _ (by omega)
  have h2 : IntKind.i64.wrap (p : Int) = (p : Int) := IntWalk.i64_in _ (by omega)
  go_enter Try.func31, Try.ntmps31
  go_wp2
  go_ret
  exact ⟨rfl, (Below.refl _ w).alloc (Nat.le_refl _) _⟩
def BsPost (n p : Nat) (l : List Sp) (w : World) (e : Ending) (w' : World) : Prop :=
  ∃ k : Nat, k ≤ n ∧ (∀ j (h : j < l.length), j < k → (l[j]'h).1 < p) ∧ (∀ j (h : j < l.length), k ≤ j → p ≤ (l[j]'h).1) ∧ e = .returned (.tuple #[.int .i64 (k : Int), .bool (decide (∃ h : k < l.length, (l[k]'h).1 = p))]) ∧ Below w.heap.size w w'

/-- The list is in order (by pages). -/
def Ord (l : List Sp) : Prop := ∀ i j (hi : i < l.length) (hj : j < l.length), i < j → (l[i]'hi).1 < (l[j]'hj).1

set_option maxHeartbeats 1000000 in
set_option maxRecDepth 100000 in
theorem search_any (n p : Nat) (v : Value) (l : List Sp) (w : World) (hv : SpRow w v l) (hn : l.length = n) (hl : n ≤ 1000000) (hp : p < 4294967296) (hb : ∀ s ∈ l, s.1 < 4294967296) (ho : Ord l) :
    Calls Try.prog 30 #[v, .int .u32 (p : Int), .func (.func 31) #[] #[]] w (BsPost n p l w) := by
  obtain ⟨base, cap, rfl, hr⟩ := hv
  have HR := Lib.hid hr
  have HN := Lib.hid hn
  have HB0 := Lib.hid hb
  have HO := Lib.hid ho
  clear hr hb ho
  rw [hn]
  clear hn
  go_enter Try.func30, Try.ntmps30
  go_wp2
  go_loopw [9, 10] (fun i j wr => ∃ a b : Nat, a ≤ b ∧ b ≤ n ∧ i = .int .i64 (a : Int) ∧ j = .int .i64 (b : Int) ∧ Hid (∀ k (h : k < l.length), k < a → (l[k]'h).1 < p) ∧ Hid (∀ k (h : k < l.length), b ≤ k → p ≤ (l[k]'h).1) ∧ Hid (Below w.heap.size w wr)) (fun i j _ => (intOf j).toNat - (intOf i).toNat)
  case atStart => exact ⟨0, n, Nat.zero_le _, Nat.le_refl _, rfl, rfl, Lib.hid (fun k _ hk => absurd hk (by omega)), Lib.hid (fun k h hk => by have := HN.out; omega), Lib.hid (Below.refl _ _)⟩
  case round =>
    obtain ⟨a, b, hab, hbn, rfl, rfl, HA, HBb, HB⟩ := hrel
    by_cases hlt : a < b
    · have hs : IntKind.i64.wrap ((a : Int) + (b : Int)) = (a : Int) + (b : Int) := IntWalk.i64_in _ (by omega)
      have hs2 : IntKind.u64.wrap ((a : Int) + (b : Int)) = (a : Int) + (b : Int) := IntWalk.u64_in _ (by omega)
      obtain ⟨m, hm⟩ : ∃ m : Nat, ((a : Int) + (b : Int)) / 2 = (m : Int) := ⟨(a + b) / 2, by omega⟩
      have ham : a ≤ m := by omega
      have hmb : m < b := by omega
      have hml : m < l.length := by have := HN.out; omega
      have hne : l ≠ [] := by rintro rfl; simp at hml
      obtain ⟨ad, rfl, hcs⟩ := HR.out.resolve_left hne
      obtain ⟨h0, h1⟩ := hcs m hml
      obtain ⟨s, hs0⟩ : ∃ s, (l[m]'hml).1 = s := ⟨_, rfl⟩
      obtain ⟨t, ht0⟩ : ∃ t, (l[m]'hml).2 = t := ⟨_, rfl⟩
      have hsb : s < 4294967296 := by rw [← hs0]; exact HB0.out _ (List.getElem_mem hml)
      rw [hs0] at h0
      rw [ht0] at h1
      have c0 : wr.cell? (ad.add (m * 2)) = some (.int .u32 (s : Int)) := (HB.out.cell (p := ad.add (m * 2)) (cell_lt h0)).trans h0
      have c1 : wr.cell? (ad.add (m * 2 + 1)) = some (.int .u64 (t : Int)) := (HB.out.cell (p := ad.add (m * 2 + 1)) (cell_lt h1)).trans h1
      have c1' : wr.cell? ⟨(ad.add (m * 2)).block, (ad.add (m * 2)).off + 1, none⟩ = some (.int .u64 (t : Int)) := by rw [add_one]; exact c1
      have hmn : (m : Int) < (n : Int) := by omega
      have HS := Lib.hid hs0
      clear hcs h0 h1 hs0 ht0
      go_wp2_with fail
      refine (diff_any s t p _ hsb hp).mono ?_
      rintro e W2 ⟨rfl, hb⟩
      have HB2 := Lib.hid (HB.out.trans (hb.mono HB.out.size))
      clear hb HB c0 c1 c1' hs hs2
      by_cases hsp : s < p
      · have hd : decide ((s : Int) - (p : Int) < 0) = true := by simp; omega
        go_wp2
        go_roundw
        case rel =>
          refine ⟨m + 1, b, by omega, hbn, by go_num, rfl, Lib.hid (fun k hk hkm => ?_), HBb, HB2⟩
          rcases Nat.lt_or_ge k m with h | h
          · have := HO.out k m hk hml h
            have := HS.out
            omega
          · obtain rfl : k = m := by omega
            rw [HS.out]
            exact hsp
        case measure => simp [intOf]; omega
      · have hd : decide ((s : Int) - (p : Int) < 0) = false := by simp; omega
        go_wp2
        go_roundw
        case rel =>
          refine ⟨a, m, by omega, by omega, rfl, rfl, HA, Lib.hid (fun k hk hkm => ?_), HB2⟩
          rcases Nat.lt_or_ge m k with h | h
          · have := HO.out m k hml hk h
            have := HS.out
            omega
          · obtain rfl : k = m := by omega
            rw [HS.out]
            omega
        case measure => simp [intOf]; omega
    · obtain rfl : a = b := by omega
      clear hlt hab
      by_cases han : a < n
      · have hml : a < l.length := by have := HN.out; omega
        have hne : l ≠ [] := by rintro rfl; simp at hml
        obtain ⟨ad, rfl, hcs⟩ := HR.out.resolve_left hne
        obtain ⟨h0, h1⟩ := hcs a hml
        obtain ⟨s, hs0⟩ : ∃ s, (l[a]'hml).1 = s := ⟨_, rfl⟩
        obtain ⟨t, ht0⟩ : ∃ t, (l[a]'hml).2 = t := ⟨_, rfl⟩
        have hsb : s < 4294967296 := by rw [← hs0]; exact HB0.out _ (List.getElem_mem hml)
        rw [hs0] at h0
        rw [ht0] at h1
        have c0 : wr.cell? (ad.add (a * 2)) = some (.int .u32 (s : Int)) := (HB.out.cell (p := ad.add (a * 2)) (cell_lt h0)).trans h0
        have c1 : wr.cell? (ad.add (a * 2 + 1)) = some (.int .u64 (t : Int)) := (HB.out.cell (p := ad.add (a * 2 + 1)) (cell_lt h1)).trans h1
        have c1' : wr.cell? ⟨(ad.add (a * 2)).block, (ad.add (a * 2)).off + 1, none⟩ = some (.int .u64 (t : Int)) := by rw [add_one]; exact c1
        have hmn : (a : Int) < (n : Int) := by omega
        have HS := Lib.hid hs0
        clear hcs h0 h1 hs0 ht0
        go_wp2_with fail
        refine (diff_any s t p _ hsb hp).mono ?_
        rintro e W2 ⟨rfl, hb⟩
        have HB2 := Lib.hid (HB.out.trans (hb.mono HB.out.size))
        clear hb HB c0 c1 c1'
        go_wp2
        go_ret2
        refine ⟨a, by omega, HA.out, HBb.out, ?_, HB2.out⟩
        have hE : (((s : Int) - (p : Int)) == 0) = decide (∃ h : a < l.length, (l[a]'h).1 = p) := by
          rw [Bool.eq_iff_iff]
          simp only [beq_iff_eq, decide_eq_true_eq]
          constructor
          · intro h; exact ⟨hml, by rw [HS.out]; omega⟩
          · rintro ⟨_, h⟩; rw [HS.out] at h; omega
        rw [← hE]
        rfl
      · have han' : ¬ (a : Int) < (n : Int) := by omega
        go_wp2
        go_ret2
        refine ⟨a, by omega, HA.out, HBb.out, ?_, HB.out⟩
        rw [show decide (∃ h : a < l.length, (l[a]'h).1 = p) = false by simp only [decide_eq_false_iff_not]; rintro ⟨h, _⟩; have := HN.out; omega]
        rfl
end Go.Proofs.Ytnbmpcdomdaimaa
