/- What slices.IndexFunc answers with Take's function. -/
import Derived.Test.YtnbmpcdomdaimaaWi
namespace Go.Proofs.Ytnbmpcdomdaimaa
open Go.RowKit
set_option linter.unusedVariables false
set_option linter.unusedSimpArgs false

theorem add_twice (a : Addr) (i j : Nat) : (a.add i).add j = a.add (i + j) := by
  unfold Addr.add
  by_cases hi : i = 0 <;> by_cases hj : j = 0 <;> simp [hi, hj, Nat.add_assoc]
theorem add_one (a : Addr) (i : Nat) : (⟨(a.add i).block, (a.add i).off + 1, none⟩ : Addr) = a.add (i + 1) := (add_twice a i 1)

set_option maxHeartbeats 400000 in
set_option maxRecDepth 100000 in
theorem index_any (v : Value) (l : List Sp) (B o : Nat) (w : World) (hv : SpRow w v l) (hl : l.length ≤ 1000000) (hc : w.cell? ⟨B, 0, none⟩ = some (.int .u64 (o : Int))) :
    Calls Try.prog 26 #[v, .func (.func 27) #[] #[.pointer (some ⟨B, 0, none⟩)]] w fun e w' => (∃ i : Int, e = .returned (.int .i64 i) ∧ ((i = -1 ∧ ∀ s ∈ l, o < s.2) ∨ ∃ (k : Nat) (h : k < l.length), i = k ∧ (l[k]'h).2 ≤ o ∧ ∀ j (h : j < k), o < (l[j]'(by omega)).2)) ∧ Below w.heap.size w w' := by
  have hB : B < w.heap.size := cell_lt hc
  obtain ⟨base, cap, rfl, hr⟩ := hv
  have HR := Lib.hid hr
  have HC := Lib.hid hc
  clear hr hc
  go_enter Try.func26, Try.ntmps26
  go_wp2
  go_loopw [5, 8] (fun u i wr => ∃ j : Nat, j ≤ l.length ∧ i = .int .i64 (j : Int) ∧ Hid (∀ k (h : k < l.length), k < j → o < (l[k]'h).2) ∧ Hid (Below w.heap.size w wr)) (fun _ i _ => l.length - (intOf i).toNat)
  case atStart => exact ⟨0, Nat.zero_le _, rfl, Lib.hid (fun k _ hk => absurd hk (by omega)), Lib.hid (Below.refl _ _)⟩
  case round =>
    obtain ⟨j, hj, rfl, HO, HB⟩ := hrel
    by_cases hlt : j < l.length
    · have hne : l ≠ [] := by rintro rfl; simp at hlt
      obtain ⟨a, rfl, hcs⟩ := HR.out.resolve_left hne
      obtain ⟨h0, h1⟩ := hcs j hlt
      obtain ⟨p, hp⟩ : ∃ p, (l[j]'hlt).1 = p := ⟨_, rfl⟩
      obtain ⟨t, ht⟩ : ∃ t, (l[j]'hlt).2 = t := ⟨_, rfl⟩
      rw [hp] at h0
      rw [ht] at h1
      have c0 : wr.cell? (a.add (j * 2)) = some (.int .u32 (p : Int)) := (HB.out.cell (p := a.add (j * 2)) (cell_lt h0)).trans h0
      have c1 : wr.cell? (a.add (j * 2 + 1)) = some (.int .u64 (t : Int)) := (HB.out.cell (p := a.add (j * 2 + 1)) (cell_lt h1)).trans h1
      have c1' : wr.cell? ⟨(a.add (j * 2)).block, (a.add (j * 2)).off + 1, none⟩ = some (.int .u64 (t : Int)) := by rw [add_one]; exact c1
      have hlt' : (j : Int) < (l.length : Int) := by omega
      clear hcs h0 h1
      have hcB : wr.cell? ⟨B, 0, none⟩ = some (.int .u64 (o : Int)) := (HB.out.cell (p := ⟨B, 0, none⟩) hB).trans HC.out
      have HC' := Lib.hid hcB
      clear hcB
      go_wp2_with fail
      refine (older_any B o p t _ HC'.out (cell_lt HC'.out)).mono ?_
      rintro e W2 ⟨rfl, hb⟩
      have HB2 := Lib.hid (HB.out.trans (hb.mono HB.out.size))
      clear hb HB c0 c1 c1' HC'
      by_cases hto : t ≤ o
      · have hd : decide ((t : Int) ≤ (o : Int)) = true := by simp; omega
        go_wp2
        go_ret
        exact ⟨⟨_, rfl, .inr ⟨j, hlt, rfl, by omega, fun k hk => HO.out k (by omega) hk⟩⟩, HB2.out⟩
      · have hd : decide ((t : Int) ≤ (o : Int)) = false := by simp; omega
        go_wp2
        go_roundw
        case rel =>
          refine ⟨j + 1, by omega, by go_num, Lib.hid (fun k hk hk1 => ?_), HB2⟩
          by_cases hkj : k < j
          · exact HO.out k hk hkj
          · obtain rfl : k = j := by omega
            omega
        case measure => simp [intOf]; omega
    · obtain rfl : j = l.length := by omega
      go_wp2
      go_ret
      refine ⟨⟨_, rfl, .inl ⟨rfl, fun s hs => ?_⟩⟩, HB.out⟩
      obtain ⟨k, hk, rfl⟩ := List.getElem_of_mem hs
      exact HO.out k hk hk
end Go.Proofs.Ytnbmpcdomdaimaa
