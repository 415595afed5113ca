/- What the document's functions Put and Get answer: a number's bytes, and the number of bytes. -/
import Derived.Test.YtbjbadnkpeakcaaSh
namespace Go.Proofs.Ytbjbadnkpeakcaa
open Go.RowKit
set_option linter.unusedVariables false
set_option linter.unusedSimpArgs false

theorem own_text {w : World} {base n : Nat} {v : Value} {l : List UInt8} (h : w.ownsRow base 5 1 v n (Lib.byteCells l)) : (convert 26 9 v).run Try.prog w = .ok (.string ⟨l.toArray⟩) w := by
  have hl : l.length = n := by have := h.1; rw [Lib.byteCells_length] at this; omega
  have e : strOfNums (l.map fun b => (b.toNat : Int)) = ⟨l.toArray⟩ := by
    apply ByteArray.ext
    apply Array.toList_inj.1
    rw [strOfNums_data, List.map_map]
    conv => rhs; rw [← List.map_id l]
    apply List.map_congr_left
    intro b _
    simp
  rcases h.2 with ⟨rfl, rfl⟩ | ⟨g, cap, cur, rfl, _⟩
  · obtain rfl : l = [] := List.eq_nil_of_length_eq_zero hl
    exact run_convert_bytes_nil w 26 5 Try.underlying26 Try.underlying5 0 0 9 Try.underlying9
  · rw [← e]
    refine run_convert_bytes_arg w 26 5 Try.underlying26 Try.underlying5 g 0 n cap _ (by simpa using hl) (fun i hi => ?_) 9 Try.underlying9
    have hc := h.cells (g := g) rfl i (.int .u8 ((l[i]'(by omega)).toNat : Int)) (by simp [Lib.byteCells, List.getElem?_eq_getElem (show i < l.length by omega)])
    rw [add_plain] at hc
    rw [Nat.zero_add, hc]
    simp [List.getElem?_eq_getElem (show i < l.length by omega)]

set_option maxHeartbeats 400000 in
set_option maxRecDepth 100000 in
theorem put_any (n k : Nat) (i : Int) (hi : i = k) (hk : k ≤ 8) (hn : n < 18446744073709551616) (w : World) : Calls Try.prog 27 #[.int .u64 n, .int .i64 i] w fun e w' => e = .returned (.string ⟨(be n k).toArray⟩) ∧ Below w.heap.size w w' := by
  subst hi
  have HN := Lib.hid hn
  clear hn
  go_enter Try.func27, Try.ntmps27
  go_wp2
  go_loopw [5, 6] (fun v i wr => ∃ (r : Nat) (bs : List UInt8), r ≤ k ∧ i = .int .i64 ((r : Int) - 1) ∧ Hid (bs ++ be n r = be n k) ∧ Hid (wr.ownsRow w.heap.size 5 1 v bs.length (Lib.byteCells bs) ∧ Below w.heap.size w wr)) (fun _ i _ => (intOf i + 1).toNat)
  case atStart => exact ⟨k, [], Nat.le_refl _, rfl, Lib.hid rfl, Lib.hid ⟨⟨by simp [Lib.byteCells], .inl ⟨rfl, rfl⟩⟩, Below.refl _ _⟩⟩
  case round =>
    obtain ⟨r, bs, hr, rfl, HE, HK⟩ := hrel
    cases r with
    | zero =>
      have HC := own_text HK.out.1
      have HE2 := HE.out
      rw [be, List.append_nil] at HE2
      go_wp2
      go_ret
      exact ⟨rfl, HK.out.2⟩
    | succ r =>
      have hbs : bs.length ≤ 8 := by
        have h1 := congrArg List.length HE.out
        rw [List.length_append, be_length, be_length] at h1
        omega
      have hw : IntKind.i64.wrap (8 * (r : Int)) = 8 * (r : Int) := IntWalk.i64_in _ (by omega)
      have hp : (0 : Int) ≤ 8 * (r : Int) := by omega
      obtain ⟨i0, hi, hi0, hi1, hi2⟩ := info_parts infoByte
      go_wp2_with (at_builtin; refine wpList_append_own _ rfl _ _ 26 rfl w.heap.size 5 i0 (.int .u8 0) 1 1 Try.underlying26 hi hi0 hi1 hi2 rfl (by decide) _ _ _ rfl (HK.out.1.alloc _) ⟨wr.heap.size, 0, none⟩ 1 1 [.int .u8 ((n : Int) / 2 ^ (8 * r) % 256)] rfl rfl (cell_one_new _ _ _) (by simp [Value.oneCell']) ?b1 ?b2 ?b3 ?_)
      case b1 => unfold maxLen; omega
      case b2 => omega
      case b3 => have := HK.out.2.size; simp; omega
      intro v' w1 hown hgrow _
      rw [byte_of] at hown
      have HO := Lib.hid (And.intro hown hgrow)
      clear hown hgrow
      go_wp2
      go_roundw
      case rel =>
        refine ⟨r, bs ++ [UInt8.ofNat (n >>> (8 * r))], by omega, by go_num, Lib.hid (by have := HE.out; rw [be] at this; rw [List.append_assoc]; exact this), Lib.hid ⟨by simpa [Lib.byteCells] using HO.out.1, ?_⟩⟩
        exact (HK.out.2.alloc HK.out.2.size _).grown HO.out.2 (by have := HK.out.2.size; simp; omega) (fun g hg => by
          rcases HK.out.1.2 with ⟨rfl, _⟩ | ⟨g', cap, cur, rfl, hb, _⟩
          · simp [Value.ownBlock] at hg
          · simp [Value.ownBlock] at hg; omega)
      case measure => simp [intOf]

set_option maxHeartbeats 400000 in
set_option maxRecDepth 100000 in
theorem get_any (s : ByteArray) (w : World) (h8 : s.size ≤ 8) : Calls Try.prog 28 #[.string s] w fun e w' => e = .returned (.int .u64 (num s.data.toList : Int)) ∧ w = w' := by
  go_enter Try.func28, Try.ntmps28
  go_wp2
  go_loop [3, 4] (fun v i => ∃ j : Nat, j ≤ s.size ∧ i = .int .i64 j ∧ v = .int .u64 (num (s.data.toList.take j) : Int)) (fun _ i => s.size - (intOf i).toNat)
  case atStart => exact ⟨0, Nat.zero_le _, rfl, rfl⟩
  case round =>
    obtain ⟨j, hj, rfl, rfl⟩ := hrel
    by_cases hlt : j < s.size
    · go_wp2
      go_round
      case rel => exact ⟨j + 1, by omega, by go_num, by
            rw [or_byte _ _ (by
              have h1 := num_lt (s.data.toList.take j)
              have h2 : 256 ^ (s.data.toList.take j).length ≤ 256 ^ 7 := Nat.pow_le_pow_right (by omega) (by rw [List.length_take]; omega)
              have h3 : (256 : Nat) ^ 7 = 72057594037927936 := by decide
              omega), num_take_succ _ j (by simpa using hlt)]
            rfl⟩
      case measure => simp [intOf]; omega
    · go_wp2
      go_ret
      exact ⟨by rw [List.take_of_length_le (by simp; omega)]; rfl, rfl⟩
end Go.Proofs.Ytbjbadnkpeakcaa
