/- What the document's Chunk answers. -/
import Derived.Test.YtnbmpcdomdaimaaPua
import Derived.Deep.RegionHeld3
import Derived.LoopTactic
import Derived.IntWalk
namespace Go.Proofs.YtnbmpcdomdaimaaQ.PA
open Go.RowKit Go.Proofs.YtnbmpcdomdaimaaW.PrintWords Go.Proofs.YtnbmpcdomdaimaaW.PrintLast Go.Proofs.YtnbmpcdomdaimaaW.PrintMore
open Go.Proofs.Ytnbmpcdomdaimaa (Sp be be_length num num_lt num_be be_num be_num' num_take_succ num_lt8 num_take_lt cell_lt)
set_option linter.unusedVariables false
set_option linter.unusedSimpArgs false

theorem ev_rput0 (v : Nat) : ∀ (n : Nat) (xs : List UInt8), n ≤ 8 → xs.length + n ≤ 1000000 → Ev (fun k => bazaarref03_Put.l0 k (v : Int) (bi xs) ((n : Int) - 1)) ⟨(xs ++ be v n).toArray⟩ := by
  intro n
  induction n with
  | zero =>
    intro xs _ _
    refine Ev.step (f := fun _ => some (⟨(xs ++ be v 0).toArray⟩ : ByteArray)) (fun k => ?_) (Ev.now _)
    simp only [bazaarref03_Put.l0]
    rw [if_neg (by omega), str_bi]
    simp [be]
  | succ n ih =>
    intro xs hn hl
    have h := ih (xs ++ [UInt8.ofNat (v >>> (8 * n))]) (by omega) (by simp; omega)
    have e : xs ++ be v (n + 1) = (xs ++ [UInt8.ofNat (v >>> (8 * n))]) ++ be v n := by simp [be]
    rw [e]
    refine Ev.step (fun k => ?_) h
    have hi : (((n + 1 : Nat) : Int) - 1) = (n : Int) := by omega
    have h8 : IntKind.u64.wrap (wrap64 (8 * (n : Int))) = ((8 * n : Nat) : Int) := by
      rw [show wrap64 (8 * (n : Int)) = ((8 * n : Nat) : Int) by unfold wrap64; omega, u64_small (by omega) (by omega)]
    have hs : shr .u64 (v : Int) ((8 * n : Nat) : Int) % 256 = ((UInt8.ofNat (v >>> (8 * n))).toNat : Int) := by
      unfold shr
      rw [Int.toNat_natCast, Nat.min_eq_left (by show 8 * n ≤ 64; omega), UInt8.toNat_ofNat', Nat.shiftRight_eq_div_pow, Int.natCast_emod, Int.natCast_ediv, Int.natCast_pow]
      rfl
    simp only [bazaarref03_Put.l0]
    rw [hi, if_pos (by omega), h8, if_pos (by omega), if_pos (by rw [bi_length]; omega), hs, bi_append]
    rw [show wrap64 ((n : Int) - 1) = (n : Int) - 1 by unfold wrap64; omega]
    rfl

theorem rput_any (v n : Nat) (z : Int) (hz : z = (n : Int)) (hn : n ≤ 8) (w : World) : Calls Try.prog 35 #[.int .u64 (v : Int), .int .i64 z] w fun e w' => e = .returned (.string ⟨(be v n).toArray⟩) ∧ Below w.heap.size w w' := by
  subst hz
  have h := ev_rput0 v n [] hn (by simp; omega)
  obtain ⟨k, hk⟩ := h.rounds
  refine bazaarref03_Put.calls k v n _ w ?_
  unfold bazaarref03_Put.f
  rw [show wrap64 ((n : Int) - 1) = (n : Int) - 1 by unfold wrap64; omega]
  simpa [bi] using hk

def inB (l : List S44) : Bool := l.all fun s => decide (0 ≤ s.f0) && decide (s.f0 < 4294967296) && decide (0 ≤ s.f1) && decide (s.f1 < 18446744073709551616)
theorem inB_iff (l : List S44) : inB l = true ↔ inS l := by
  simp only [inB, List.all_eq_true, Bool.and_eq_true, decide_eq_true_eq, inS]
  constructor
  · intro h s hs; have := h s hs; exact ⟨this.1.1.1, this.1.1.2, this.1.2, this.2⟩
  · intro h s hs; have := h s hs; exact ⟨⟨⟨this.1, this.2.1⟩, this.2.2.1⟩, this.2.2.2⟩

def bazaarref05_Chunk.f (a0 : Int) (l1 : List S44) : Option (ByteArray × Int) :=
  if (okN a0 && inB l1) = true then (if l1.length ≤ 19 then some (⟨(chunkB a0.toNat (spOf l1)).toArray⟩, 0) else some (⟨#[]⟩, 50)) else none

theorem sz_be (v n : Nat) : (⟨(be v n).toArray⟩ : ByteArray).size = n := by show (be v n).toArray.size = n; simp [be_length]
theorem ba_append (a b : List UInt8) : (⟨a.toArray⟩ : ByteArray) ++ ⟨b.toArray⟩ = ⟨(a ++ b).toArray⟩ := by
  apply ba_eq
  simp [ByteArray.data_append]

set_option maxHeartbeats 2000000 in
set_option maxRecDepth 100000 in
theorem rchunk_ok (n : Nat) (A : Option Addr) (c : Nat) (l : List S44) (w : World) (hn : n < 4294967296) (hr : Kd.C k44 w A l.length l) (hc : l.length ≤ c) (hl : l.length ≤ 19) (hs : inS l) :
    Calls Try.prog 22 #[.int .u32 (n : Int), .slice A l.length c] w fun e w' => e = .returned (.tuple #[.string ⟨(chunkB n (spOf l)).toArray⟩, .int .i64 0]) ∧ Below w.heap.size w w' := by
  have HR := Lib.hid hr
  have HS := Lib.hid hs
  obtain ⟨m, hm⟩ : ∃ m, l.length = m := ⟨_, rfl⟩
  rw [hm] at hl hc ⊢
  have HM := Lib.hid hm
  clear hr hs hm
  have e0 : IntKind.u64.wrap (n : Int) = (n : Int) := IntWalk.u64_in _ (by omega)
  have e1 : IntKind.u64.wrap (m : Int) = (m : Int) := IntWalk.u64_in _ (by omega)
  have hl' : ¬ (m : Int) > 19 := by omega
  obtain ⟨s0, hs0⟩ : ∃ s0, (⟨(be n 4).toArray⟩ : ByteArray) = s0 := ⟨_, rfl⟩
  obtain ⟨s1, hs1⟩ : ∃ s1, (⟨(be m 1).toArray⟩ : ByteArray) = s1 := ⟨_, rfl⟩
  have z0 : s0.size = 4 := by rw [← hs0, sz_be]
  have z1 : s1.size = 1 := by rw [← hs1, sz_be]
  have n1 : ¬ 9223372036854775807 < s0.size + s1.size := by omega
  have P0 := Lib.hid (fun w => rput_any n 4 4 rfl (by omega) w)
  have P1 := Lib.hid (fun w => rput_any m 1 1 rfl (by omega) w)
  have HH := Lib.hid (And.intro hs0 (And.intro hs1 (And.intro z0 z1)))
  rw [hs0] at P0
  rw [hs1] at P1
  clear hs0 hs1 z0 z1
  go_enter Try.func22, Try.ntmps22
  go_wp2_with fail
  refine (P0.out _).mono ?_
  rintro e W1 ⟨rfl, hb1⟩
  have HB1 := Lib.hid hb1
  clear hb1
  go_wp2_with fail
  refine (P1.out _).mono ?_
  rintro e W2 ⟨rfl, hb2⟩
  have HB2 := Lib.hid (HB1.out.trans (hb2.mono HB1.out.size))
  clear hb2 HB1 P0 P1
  go_wp2
  go_loopw [6, 7] (fun s i wr => ∃ (j : Nat) (t : ByteArray), j ≤ m ∧ i = .int .i64 (j : Int) ∧ s = .string t ∧ Hid (t = ⟨(be n 4 ++ (UInt8.ofNat m :: spB ((spOf l).take j))).toArray⟩) ∧ Hid (Below w.heap.size w wr)) (fun _ i _ => m - (intOf i).toNat)
  case atStart =>
    refine ⟨0, s0 ++ s1, Nat.zero_le _, rfl, rfl, Lib.hid ?_, Lib.hid HB2.out⟩
    obtain ⟨h0, h1, _⟩ := HH.out
    rw [← h0, ← h1, ba_append]
    simp [be, spB]
  case round =>
    obtain ⟨j, t, hj, rfl, rfl, HT, HB⟩ := hrel
    by_cases hlt : j < m
    · have hjl : j < l.length := by have := HM.out; omega
      obtain ⟨ad, e, c0, c1⟩ := at_T44 HR.out (j : Int) (by omega) (by omega)
      subst e
      have hmem := HS.out _ (List.getElem_mem hjl)
      rw [rd_at l j hjl] at c0 c1
      obtain ⟨x, hx⟩ : ∃ x, l[j]'hjl = x := ⟨_, rfl⟩
      rw [hx] at c0 c1 hmem
      obtain ⟨a, ha⟩ := Int.eq_ofNat_of_zero_le hmem.1
      obtain ⟨b, hb⟩ := Int.eq_ofNat_of_zero_le hmem.2.2.1
      rw [ha] at c0
      rw [hb] at c1
      simp only [Int.toNat_natCast] at c0 c1
      have ha2 : a < 4294967296 := by have := hmem.2.1; omega
      have hb2 : b < 18446744073709551616 := by have := hmem.2.2.2; omega
      have e2 : IntKind.u64.wrap (a : Int) = (a : Int) := IntWalk.u64_in _ (by omega)
      have hjm : (j : Int) < (m : Int) := by omega
      have ht : t.size = 5 + 12 * j := by
        rw [HT.out]
        show (be n 4 ++ (UInt8.ofNat m :: spB ((spOf l).take j))).toArray.size = _
        simp only [List.size_toArray, List.length_append, be_length, List.length_cons, spB_length, List.length_take, spOf_length]
        omega
      obtain ⟨s4, hs4⟩ : ∃ s4, (⟨(be a 4).toArray⟩ : ByteArray) = s4 := ⟨_, rfl⟩
      obtain ⟨s8, hs8⟩ : ∃ s8, (⟨(be b 8).toArray⟩ : ByteArray) = s8 := ⟨_, rfl⟩
      have z4 : s4.size = 4 := by rw [← hs4, sz_be]
      have z8 : s8.size = 8 := by rw [← hs8, sz_be]
      have n2 : ¬ 9223372036854775807 < t.size + s4.size := by omega
      have n3 : ¬ 9223372036854775807 < t.size + s4.size + s8.size := by omega
      have P4 := Lib.hid (fun w => rput_any a 4 4 rfl (by omega) w)
      have P8 := Lib.hid (fun w => rput_any b 8 8 rfl (by omega) w)
      rw [hs4] at P4
      rw [hs8] at P8
      have hnext : t ++ s4 ++ s8 = ⟨(be n 4 ++ (UInt8.ofNat m :: spB ((spOf l).take (j + 1)))).toArray⟩ := by
        rw [HT.out, ← hs4, ← hs8, ba_append, ba_append]
        congr 2
        rw [List.take_succ_eq_append_getElem (show j < (spOf l).length by rw [spOf_length]; exact hjl)]
        have e1 : (spOf l)[j]'(by rw [spOf_length]; exact hjl) = (a, b) := by
          simp only [spOf, List.getElem_map]
          rw [hx, ha, hb]; rfl
        rw [e1]
        simp [spB]
      have hlt0 := cell_lt c0
      have hlt1 := cell_lt c1
      have HZ := Lib.hid (And.intro c0 (And.intro c1 (And.intro hlt0 hlt1)))
      have HN := Lib.hid hnext
      clear hnext hs4 hs8 z4 z8 ht hmem ha hb hx c0 c1 hlt0 hlt1 ha2 hb2
      have HD : Hid (Below w.heap.size w wr.drew) := Lib.hid (Below.drew HB.out)
      clear HB
      have HB := HD
      clear HD
      go_wp2_with fail
      go_region_held3 (fun W => W.cell? (ad.add (j * 2)) = some (.int .u32 (a : Int)) ∧ W.cell? ⟨(ad.add (j * 2)).block, (ad.add (j * 2)).off + 1, none⟩ = some (.int .u64 (b : Int)))
        (exact ⟨(HB.out.cell (p := ad.add (j * 2)) HZ.out.2.2.1).trans HZ.out.1, (HB.out.cell (p := ⟨(ad.add (j * 2)).block, (ad.add (j * 2)).off + 1, none⟩) HZ.out.2.2.2).trans HZ.out.2.1⟩)
        (first | (go_at_call 35; with_reducible refine (P4.out _).mono ?_; rintro r w' ⟨rfl, hb⟩; have HB' := Lib.hid (HB.out.trans (hb.mono HB.out.size)); clear HB hb; have HB := HB'; clear HB') | (go_at_call 35; with_reducible refine (P8.out _).mono ?_; rintro r w' ⟨rfl, hb⟩; have HB' := Lib.hid (HB.out.trans (hb.mono HB.out.size)); clear HB hb; have HB := HB'; clear HB'))
      all_goals (
        go_wp2
        go_roundw
        case rel => exact ⟨j + 1, _, by omega, by go_num, rfl, Lib.hid HN.out, HB⟩
        case measure => simp [intOf]; omega)
    · obtain rfl : j = m := by omega
      go_wp2
      go_ret2
      refine ⟨?_, HB.out⟩
      rw [HT.out, List.take_of_length_le (by rw [spOf_length, HM.out]; omega), chunkB, spOf_length, HM.out]
      rfl
set_option maxHeartbeats 400000 in
set_option maxRecDepth 100000 in
theorem rchunk_long (n : Int) (A : Option Addr) (c m : Nat) (w : World) (hl : 19 < m) :
    Calls Try.prog 22 #[.int .u32 n, .slice A m c] w fun e w' => e = .returned (.tuple #[.string ⟨#[]⟩, .int .i64 50]) ∧ Below w.heap.size w w' := by
  have hl' : (m : Int) > 19 := by omega
  go_enter Try.func22, Try.ntmps22
  go_wp2
  go_ret2
  exact ⟨rfl, Below.refl _ _⟩

theorem bazaarref05_Chunk.calls (a0 : Int) (A1 : Option Addr) (c1 : Nat) (l1 : List (S44)) (r1 : ByteArray) (r2 : Int) (w : World) (hr1 : Kd.C k44 w A1 l1.length l1) (hc1 : l1.length ≤ c1) (h : bazaarref05_Chunk.f a0 l1 = some (r1, r2)) :
    Calls Try.prog 22 #[.int .u32 a0, .slice A1 l1.length c1] w fun e w' => e = .returned (.tuple #[.string r1, .int .i64 r2]) ∧ Below w.heap.size w w' := by
  unfold bazaarref05_Chunk.f at h
  split at h
  · rename_i hk
    simp only [Bool.and_eq_true, okN, decide_eq_true_eq] at hk
    obtain ⟨⟨h0, h1⟩, h2⟩ := hk
    obtain ⟨n, rfl⟩ := Int.eq_ofNat_of_zero_le h0
    split at h
    · rename_i hl
      simp only [Option.some.injEq, Prod.mk.injEq, Int.toNat_natCast] at h
      obtain ⟨rfl, rfl⟩ := h
      exact rchunk_ok n A1 c1 l1 w (by omega) hr1 hc1 hl ((inB_iff l1).1 h2)
    · rename_i hl
      simp only [Option.some.injEq, Prod.mk.injEq] at h
      obtain ⟨rfl, rfl⟩ := h
      exact rchunk_long _ A1 c1 l1.length w (by omega)
  · simp at h
end Go.Proofs.YtnbmpcdomdaimaaQ.PA
