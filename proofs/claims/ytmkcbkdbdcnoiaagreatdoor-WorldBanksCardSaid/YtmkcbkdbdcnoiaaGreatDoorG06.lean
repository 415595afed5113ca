/- Package mail: Right, bytes, Bytes. Package mail: Bytes. Package keys: Parse. -/
import Derived.Test.YtmkcbkdbdcnoiaaGreatDoorG03
import Derived.Test.YtmkcbkdbdcnoiaaGreatDoorG04
import Derived.Test.YtmkcbkdbdcnoiaaGreatDoorG05
namespace Go.Proofs.YtmkcbkdbdcnoiaaGreatDoor
open Go.RowKit
set_option linter.unusedVariables false
set_option linter.unusedSimpArgs false

/-- A mail: who sent it, money, an item, how many. -/
abbrev Ml := Int × Int × Int × Int
def mlv (m : Ml) : Value := .agg #[.int .u32 m.1, .int .i64 m.2.1, .int .u16 m.2.2.1, .int .i64 m.2.2.2]
def mlc (m : Ml) : Array Value := #[.int .u32 m.1, .int .i64 m.2.1, .int .u16 m.2.2.1, .int .i64 m.2.2.2]
def mlRight (m : Ml) : Bool :=
  if (m.2.2.2 == 0) = true then (decide (1 ≤ m.1) && decide (m.1 ≤ 1000000)) && ((m.2.2.1 == 0) && (m.2.2.2 == 0)) && decide (0 < m.2.1) && okA m.2.1
  else (decide (1 ≤ m.1) && decide (m.1 ≤ 1000000)) && okA m.2.1 && okA m.2.2.2
theorem eql62 (x1 x2 y1 y2 : Int) (w : World) : (binOp .eql 62 (.agg #[.int .u16 x1, .int .i64 x2]) (.agg #[.int .u16 y1, .int .i64 y2])).run Tryz.prog w = .ok (.bool ((x1 == y1) && (x2 == y2))) w := by
  simp only [binOp]
  simp [Op.equal, Op.maxDepth, eq62 9998]

set_option maxHeartbeats 2000000 in
set_option maxRecDepth 100000 in
theorem mlright_any (m : Ml) (w : World) : Calls Tryz.prog 163 #[mlv m] w fun e w' => e = .returned (.bool (mlRight m)) ∧ Below w.heap.size w w' := by
  obtain ⟨f, n, i, c⟩ := m
  obtain ⟨W, hW⟩ : ∃ W, w.alloc (.cells #[.int .u32 f, .int .i64 n, .int .u16 i, .int .i64 c] 64) = W := ⟨_, rfl⟩
  have hb0 : Below w.heap.size w W := by rw [← hW]; exact (Below.refl _ w).alloc (Nat.le_refl _) _
  have c0 : ∀ j, W.cell? ⟨w.heap.size, j, none⟩ = (#[.int .u32 f, .int .i64 n, .int .u16 i, .int .i64 c] : Array Value)[j]? := by rw [← hW]; exact blk_cell (heap_alloc_new w _)
  have HB := Lib.hid hb0
  have hq := eql62 i c 0 0
  have hr1 := right_any n W
  have hr2 := right_any c W
  generalize hR : mlRight (f, n, i, c) = R
  simp only [mlRight] at hR
  have HR := Lib.hid hR
  unfold mlv
  dsimp only
  clear hb0 hR
  rcases hc : (c == 0) with _ | _
  · simp only [hc] at hq
    rcases h1 : decide (1 ≤ f) with _ | _
    · skip
      go_enter Tryz.func163, Tryz.ntmps163
      go_wp2_with (first | (go_at_call 105; (with_reducible refine hr1.mono ?_); rintro e w' ⟨rfl, rfl⟩) | (go_at_call 105; (with_reducible refine hr2.mono ?_); rintro e w' ⟨rfl, rfl⟩))
      go_ret
      have hR := HR.out
      simp only [hc, h1, Bool.true_and, Bool.false_and, Bool.and_false, Bool.and_true, if_true, if_false, Bool.false_eq_true] at hR
      exact ⟨by rw [← hR]; try rfl, HB.out⟩
    · rcases h2 : decide (f ≤ 1000000) with _ | _
      · skip
        go_enter Tryz.func163, Tryz.ntmps163
        go_wp2_with (first | (go_at_call 105; (with_reducible refine hr1.mono ?_); rintro e w' ⟨rfl, rfl⟩) | (go_at_call 105; (with_reducible refine hr2.mono ?_); rintro e w' ⟨rfl, rfl⟩))
        go_ret
        have hR := HR.out
        simp only [hc, h1, h2, Bool.true_and, Bool.false_and, Bool.and_false, Bool.and_true, if_true, if_false, Bool.false_eq_true] at hR
        exact ⟨by rw [← hR]; try rfl, HB.out⟩
      · rcases ho : okA n with _ | _
        · rw [ho] at hr1
          go_enter Tryz.func163, Tryz.ntmps163
          go_wp2_with (first | (go_at_call 105; (with_reducible refine hr1.mono ?_); rintro e w' ⟨rfl, rfl⟩) | (go_at_call 105; (with_reducible refine hr2.mono ?_); rintro e w' ⟨rfl, rfl⟩))
          go_ret
          have hR := HR.out
          simp only [hc, h1, h2, ho, Bool.true_and, Bool.false_and, Bool.and_false, Bool.and_true, if_true, if_false, Bool.false_eq_true] at hR
          exact ⟨by rw [← hR]; try rfl, HB.out⟩
        · rw [ho] at hr1
          rcases hp : okA c with _ | _
          · rw [hp] at hr2
            go_enter Tryz.func163, Tryz.ntmps163
            go_wp2_with (first | (go_at_call 105; (with_reducible refine hr1.mono ?_); rintro e w' ⟨rfl, rfl⟩) | (go_at_call 105; (with_reducible refine hr2.mono ?_); rintro e w' ⟨rfl, rfl⟩))
            go_ret
            have hR := HR.out
            simp only [hc, h1, h2, ho, hp, Bool.true_and, Bool.false_and, Bool.and_false, Bool.and_true, if_true, if_false, Bool.false_eq_true] at hR
            exact ⟨by rw [← hR]; try rfl, HB.out⟩
          · rw [hp] at hr2
            go_enter Tryz.func163, Tryz.ntmps163
            go_wp2_with (first | (go_at_call 105; (with_reducible refine hr1.mono ?_); rintro e w' ⟨rfl, rfl⟩) | (go_at_call 105; (with_reducible refine hr2.mono ?_); rintro e w' ⟨rfl, rfl⟩))
            go_ret
            have hR := HR.out
            simp only [hc, h1, h2, ho, hp, Bool.true_and, Bool.false_and, Bool.and_false, Bool.and_true, if_true, if_false, Bool.false_eq_true] at hR
            exact ⟨by rw [← hR]; try rfl, HB.out⟩
  · simp only [hc] at hq
    rcases h1 : decide (1 ≤ f) with _ | _
    · skip
      go_enter Tryz.func163, Tryz.ntmps163
      go_wp2_with (first | (go_at_call 105; (with_reducible refine hr1.mono ?_); rintro e w' ⟨rfl, rfl⟩) | (go_at_call 105; (with_reducible refine hr2.mono ?_); rintro e w' ⟨rfl, rfl⟩))
      go_ret
      have hR := HR.out
      simp only [hc, h1, Bool.true_and, Bool.false_and, Bool.and_false, Bool.and_true, if_true, if_false, Bool.false_eq_true] at hR
      exact ⟨by rw [← hR]; try rfl, HB.out⟩
    · rcases h2 : decide (f ≤ 1000000) with _ | _
      · skip
        go_enter Tryz.func163, Tryz.ntmps163
        go_wp2_with (first | (go_at_call 105; (with_reducible refine hr1.mono ?_); rintro e w' ⟨rfl, rfl⟩) | (go_at_call 105; (with_reducible refine hr2.mono ?_); rintro e w' ⟨rfl, rfl⟩))
        go_ret
        have hR := HR.out
        simp only [hc, h1, h2, Bool.true_and, Bool.false_and, Bool.and_false, Bool.and_true, if_true, if_false, Bool.false_eq_true] at hR
        exact ⟨by rw [← hR]; try rfl, HB.out⟩
      · rcases hi : (i == 0) with _ | _
        · simp only [hi] at hq
          go_enter Tryz.func163, Tryz.ntmps163
          go_wp2_with (first | (go_at_call 105; (with_reducible refine hr1.mono ?_); rintro e w' ⟨rfl, rfl⟩) | (go_at_call 105; (with_reducible refine hr2.mono ?_); rintro e w' ⟨rfl, rfl⟩))
          go_ret
          have hR := HR.out
          simp only [hc, h1, h2, hi, Bool.true_and, Bool.false_and, Bool.and_false, Bool.and_true, if_true, if_false, Bool.false_eq_true] at hR
          exact ⟨by rw [← hR]; try rfl, HB.out⟩
        · simp only [hi] at hq
          rcases hn : decide (0 < n) with _ | _
          · skip
            go_enter Tryz.func163, Tryz.ntmps163
            go_wp2_with (first | (go_at_call 105; (with_reducible refine hr1.mono ?_); rintro e w' ⟨rfl, rfl⟩) | (go_at_call 105; (with_reducible refine hr2.mono ?_); rintro e w' ⟨rfl, rfl⟩))
            go_ret
            have hR := HR.out
            simp only [hc, h1, h2, hi, hn, Bool.true_and, Bool.false_and, Bool.and_false, Bool.and_true, if_true, if_false, Bool.false_eq_true] at hR
            exact ⟨by rw [← hR]; try rfl, HB.out⟩
          · rcases ho : okA n with _ | _
            · rw [ho] at hr1
              go_enter Tryz.func163, Tryz.ntmps163
              go_wp2_with (first | (go_at_call 105; (with_reducible refine hr1.mono ?_); rintro e w' ⟨rfl, rfl⟩) | (go_at_call 105; (with_reducible refine hr2.mono ?_); rintro e w' ⟨rfl, rfl⟩))
              go_ret
              have hR := HR.out
              simp only [hc, h1, h2, hi, hn, ho, Bool.true_and, Bool.false_and, Bool.and_false, Bool.and_true, if_true, if_false, Bool.false_eq_true] at hR
              exact ⟨by rw [← hR]; try rfl, HB.out⟩
            · rw [ho] at hr1
              go_enter Tryz.func163, Tryz.ntmps163
              go_wp2_with (first | (go_at_call 105; (with_reducible refine hr1.mono ?_); rintro e w' ⟨rfl, rfl⟩) | (go_at_call 105; (with_reducible refine hr2.mono ?_); rintro e w' ⟨rfl, rfl⟩))
              go_ret
              have hR := HR.out
              simp only [hc, h1, h2, hi, hn, ho, Bool.true_and, Bool.false_and, Bool.and_false, Bool.and_true, if_true, if_false, Bool.false_eq_true] at hR
              exact ⟨by rw [← hR]; try rfl, HB.out⟩

set_option maxHeartbeats 1000000 in
set_option maxRecDepth 100000 in
theorem mlbytes_any (fs : List (Nat × Nat)) (v : Value) (w : World) (hv : Sees w v fs.length 2 (fcs .u64 fs))
    (hn : fs.length ≤ 100) (hs : ∀ f ∈ fs, f.1 < 18446744073709551616 ∧ f.2 ≤ 8) :
    Calls Tryz.prog 164 #[v] w fun e w' => e = .returned (.string ⟨(fieldBytes fs).toArray⟩) ∧ Below w.heap.size w w' := by
  have HS := Lib.hid hs
  have HV := Lib.hid hv
  obtain ⟨base, cap, rfl⟩ := hv.shape
  obtain ⟨R, hR⟩ : ∃ R, fieldBytes fs = R := ⟨_, rfl⟩
  rw [hR]
  have HR := Lib.hid hR
  clear hs hv hR
  obtain ⟨i0, hi, hi0, hi1, hi2⟩ := info_parts infoU8
  go_enter Tryz.func164, Tryz.ntmps164
  go_wp2
  go_loopw [3, 9] (fun v i wr => ∃ k : Nat, k ≤ fs.length ∧ i = .int .i64 (k : Int) ∧ Hid (Bld w v (fieldBytes (fs.take k)) wr)) (fun _ i _ => fs.length - (intOf i).toNat)
  case atStart => exact ⟨0, Nat.zero_le _, rfl, Lib.hid (Bld.start w)⟩
  case round =>
    obtain ⟨k, hk, rfl, HK⟩ := hrel
    by_cases hlt : k < fs.length
    · have HS1 := Lib.hid (fieldBytes_snoc fs k hlt)
      have hq := HS.out _ (List.getElem_mem hlt)
      obtain ⟨a, cap2, he, h2, h3, h4⟩ := Sees.at2 (f := fun f : Nat × Nat => .int .u64 (f.1 : Int)) (g := fun f : Nat × Nat => .int .i64 (f.2 : Int)) (HV.out.below HK.out.2) k hlt
      simp only [Value.slice.injEq, true_and] at he
      obtain ⟨rfl, rfl⟩ := he
      obtain ⟨n, sz, hnsz⟩ : ∃ n sz, fs[k]'hlt = (n, sz) := ⟨_, _, rfl⟩
      rw [hnsz] at hq h2 h3 h4 HS1
      clear hnsz
      obtain ⟨hq1, hq2⟩ := hq
      simp only at hq1 hq2 h2 h3 h4 HS1
      have hlt' : (k : Int) < (fs.length : Int) := by omega
      have hle : (fieldBytes (fs.take k)).length ≤ 8 * k := by
        have := fieldBytes_length (fs.take k) (fun f hf => ⟨by have := (HS.out f (List.mem_of_mem_take hf)).1; omega, by have := (HS.out f (List.mem_of_mem_take hf)).2; omega⟩)
        rw [List.length_take] at this; omega
      have HQ1 := Lib.hid hq1
      clear hq1
      obtain ⟨wo, hwo⟩ : ∃ wo : World, wr.alloc (.cells #[.int .u64 (n : Int), .int .i64 (sz : Int)] 189) = wo := ⟨_, rfl⟩
      obtain ⟨bx, hbx⟩ : ∃ bx, wr.heap.size = bx := ⟨_, rfl⟩
      have HX : Hid (Bld w _ (fieldBytes (fs.take k)) wo ∧ wo.heap[bx]? = some (.cells #[.int .u64 (n : Int), .int .i64 (sz : Int)] 189 (0, 0))) := Lib.hid (by
        rw [← hwo, ← hbx]
        exact ⟨⟨HK.out.1.alloc _, HK.out.2.alloc HK.out.2.size _⟩, heap_alloc_new wr _⟩)
      have c0 : ∀ j, wo.cell? ⟨bx, j, none⟩ = (#[.int .u64 (n : Int), .int .i64 (sz : Int)] : Array Value)[j]? := blk_cell HX.out.2
      go_wp2
      clear c0 h2 h3 h4 hwo hbx
      go_loopw [3, 6] (fun v j wq => ∃ r : Nat, r ≤ sz ∧ j = .int .i64 ((r : Int) - 1) ∧ ∃ bs, Hid (bs ++ be n r = fieldBytes (fs.take (k + 1))) ∧ Hid (Bld w v bs wq ∧ wq.heap[bx]? = some (.cells #[.int .u64 (n : Int), .int .i64 (sz : Int)] 189 (0, 0)))) (fun _ j _ => ((intOf j) + 1).toNat)
      case atStart => exact ⟨sz, Nat.le_refl _, rfl, fieldBytes (fs.take k), Lib.hid (by rw [HS1.out]), HX⟩
      case round =>
        obtain ⟨r, hr, rfl, bs, HE, HI⟩ := hrel
        have hbs : bs.length ≤ 1000 := by
          have h1 := congrArg List.length HE.out
          rw [List.length_append, be_length] at h1
          have h2 := congrArg List.length HS1.out
          rw [List.length_append, be_length] at h2
          omega
        cases r with
        | zero =>
          have HE2 := HE.out
          rw [be, List.append_nil] at HE2
          subst HE2
          go_wp2
          go_roundw
          case rel => exact ⟨k + 1, by omega, by go_num, Lib.hid HI.out.1⟩
          case measure => simp [intOf]; omega
        | succ r =>
          have c0 : ∀ j, wr.cell? ⟨bx, j, none⟩ = (#[.int .u64 (n : Int), .int .i64 (sz : Int)] : Array Value)[j]? := blk_cell HI.out.2
          have hw : IntKind.i64.wrap (8 * (r : Int)) = 8 * (r : Int) := IntWalk.i64_in _ (by omega)
          have hp : (0 : Int) ≤ 8 * (r : Int) := by omega
          have hmin : min (8 * r) 64 = 8 * r := by omega
          go_wp2_with (at_builtin; refine wpList_append_own _ rfl _ _ 197 rfl w.heap.size 5 i0 (.int .u8 0) 1 1 Tryz.underlying197 hi hi0 hi1 hi2 rfl (by decide) _ _ _ rfl (HI.out.1.1.alloc _) ⟨wr.heap.size, 0, none⟩ 1 1 [.int .u8 ((n : Int) / 2 ^ (8 * r) % 256)] rfl rfl (cell_one_new _ _ _) (by simp [Value.oneCell']) ?b1 ?b2 ?b3 ?_)
          case b1 => unfold maxLen; omega
          case b2 => omega
          case b3 => have := HI.out.1.2.size; simp; omega
          intro v' w1 hown hgrow _
          have hx2 : w1.heap[bx]? = some (.cells #[.int .u64 (n : Int), .int .i64 (sz : Int)] 189 (0, 0)) := by
            have hlt := (Array.getElem?_eq_some_iff.1 HI.out.2).1
            rw [hgrow.block bx (by simp; omega) (fun e => ?_), Below.heap_alloc _ _ _ hlt]
            · exact HI.out.2
            · rcases HI.out.1.1.2 with ⟨h, _⟩ | ⟨g, cap, cur, h, _, hh, _⟩
              · rw [h] at e; cases e
              · rw [h] at e
                simp only [Value.ownBlock, Option.some.injEq] at e
                rw [← e, HI.out.2] at hh
                cases hh
          have HO := Lib.hid (And.intro hown (And.intro hgrow hx2))
          clear hown hgrow hmin hx2 c0
          go_wp2
          go_roundw
          case rel =>
            refine ⟨r, by omega, by go_num, bs ++ [UInt8.ofNat (n >>> (8 * r))], Lib.hid (by have := HE.out; rw [be] at this; rw [List.append_assoc]; exact this), Lib.hid ⟨?_, HO.out.2.2⟩⟩
            exact HI.out.1.next (n := (n : Int) / 2 ^ (8 * r) % 256) (byte_of n r) HO.out.1 HO.out.2.1
          case measure => simp [intOf]
    · obtain rfl : k = fs.length := by omega
      have HK2 := HK.out
      rw [List.take_length] at HK2
      rw [HR.out] at HK2
      have HC := own_text HK2.1
      have HB := Lib.hid HK2.2
      clear HK2
      go_wp2
      go_ret
      exact ⟨rfl, HB.out⟩
end Go.Proofs.YtmkcbkdbdcnoiaaGreatDoor
namespace Go.Proofs.YtmkcbkdbdcnoiaaGreatDoor
open Go.RowKit
set_option linter.unusedVariables false
set_option linter.unusedSimpArgs false

def mlBytes (m : Ml) : List UInt8 × Int := if mlRight m = true then (fieldBytes [(m.1.toNat, 4), (m.2.1.toNat, 8), (m.2.2.1.toNat, 2), (m.2.2.2.toNat, 8)], 0) else ([], 140)
theorem mlRight_ok {m : Ml} (h : mlRight m = true) : (1 ≤ m.1 ∧ m.1 ≤ 1000000) ∧ (0 ≤ m.2.1 ∧ m.2.1 ≤ 1152921504606846976) ∧ (0 ≤ m.2.2.2 ∧ m.2.2.2 ≤ 1152921504606846976) := by
  unfold mlRight at h
  split at h
  · rename_i hc
    simp only [Bool.and_eq_true, decide_eq_true_eq, okA_iff, beq_iff_eq] at h hc
    omega
  · simp only [Bool.and_eq_true, decide_eq_true_eq, okA_iff] at h
    omega

set_option maxHeartbeats 1000000 in
set_option maxRecDepth 100000 in
theorem mlBytes_any (m : Ml) (w : World) (h1 : 0 ≤ m.2.2.1) (h2 : m.2.2.1 < 65536) : Calls Tryz.prog 118 #[mlv m] w fun e w' => e = .returned (.tuple #[.string ⟨(mlBytes m).1.toArray⟩, .int .i64 (mlBytes m).2]) ∧ Below w.heap.size w w' := by
  obtain ⟨W, hW⟩ : ∃ W, w.alloc (.cells (mlc m) 64) = W := ⟨_, rfl⟩
  have HK : Hid (Kp w w.heap.size (.cells (mlc m) 64 (0, 0)) W) := Lib.hid (by rw [← hW]; exact ⟨(Below.refl _ w).alloc (Nat.le_refl _) _, heap_alloc_new w _⟩)
  have hA := mlright_any m W
  obtain ⟨R, hR⟩ : ∃ R, mlBytes m = R := ⟨_, rfl⟩
  rw [hR]
  unfold mlBytes at hR
  have hok := fun h => mlRight_ok (m := m) h
  obtain ⟨f, n, i, c⟩ := m
  unfold mlv mlc at *
  dsimp only at *
  have c0 := HK.out.cell
  rcases hr : mlRight (f, n, i, c) with _ | _
  · rw [hr] at hA hR
    simp only [Bool.false_eq_true, if_false] at hR
    subst hR
    have HA := Lib.hid hA
    clear hA hok
    go_enter Tryz.func118, Tryz.ntmps118
    go_wp2_with fail
    refine HA.out.mono ?_
    rintro e W2 ⟨rfl, hb⟩
    have HB := Lib.hid (HK.out.below hb)
    clear hb
    go_wp2
    go_ret2
    exact ⟨rfl, HB.out.1⟩
  · obtain ⟨⟨f1, f2⟩, ⟨n1, n2⟩, c1, c2⟩ := hok hr
    rw [hr] at hA hR
    simp only [if_true] at hR
    obtain ⟨f, rfl⟩ := Int.eq_ofNat_of_zero_le (show 0 ≤ f by omega)
    obtain ⟨n, rfl⟩ := Int.eq_ofNat_of_zero_le n1
    obtain ⟨i, rfl⟩ := Int.eq_ofNat_of_zero_le h1
    obtain ⟨c, rfl⟩ := Int.eq_ofNat_of_zero_le c1
    simp only [Int.toNat_natCast] at hR
    have HR := Lib.hid hR
    have HA := Lib.hid hA
    clear hA hok hR hr
    have x1 : IntKind.u64.wrap (f : Int) = (f : Int) := IntWalk.u64_in _ (by omega)
    have x2 : IntKind.u64.wrap (n : Int) = (n : Int) := IntWalk.u64_in _ (by omega)
    have x3 : IntKind.u64.wrap (i : Int) = (i : Int) := IntWalk.u64_in _ (by omega)
    have x4 : IntKind.u64.wrap (c : Int) = (c : Int) := IntWalk.u64_in _ (by omega)
    go_enter Tryz.func118, Tryz.ntmps118
    go_wp2_with fail
    refine HA.out.mono ?_
    rintro e W2 ⟨rfl, hb⟩
    have HB := Lib.hid (HK.out.below hb)
    clear hb c0
    have c0 := HB.out.cell
    have hM := mlbytes_any [(f, 4), (n, 8), (i, 2), (c, 8)] _ (W2.alloc (.cells #[.int .u64 f, .int .i64 4, .int .u64 n, .int .i64 8, .int .u64 i, .int .i64 2, .int .u64 c, .int .i64 8] 189)) (Sees.of_blk (heap_alloc_new W2 _) rfl) (by simp) (by
      intro f hf
      simp only [List.mem_cons, List.not_mem_nil, or_false] at hf
      rcases hf with rfl | rfl | rfl | rfl <;> simp only <;> omega)
    have HM := Lib.hid hM
    clear hM
    go_wp2_with fail
    refine HM.out.mono ?_
    rintro e W3 ⟨rfl, hb⟩
    have HB3 := Lib.hid ((HB.out.alloc _).below hb)
    clear hb c0
    have hE := HR.out
    subst hE
    go_wp2
    go_ret2
    exact ⟨rfl, HB3.out.1⟩
end Go.Proofs.YtmkcbkdbdcnoiaaGreatDoor
namespace Go.Proofs.YtmkcbkdbdcnoiaaGreatDoor
open Go.RowKit
set_option linter.unusedVariables false
set_option linter.unusedSimpArgs false
attribute [local go_sem] Oper.semAt_some

/-- The place of a key. -/
def kNums (s : List UInt8) : List Nat := nums [(kForm (kOfS s)).2.1, (kForm (kOfS s)).2.2.1, (kForm (kOfS s)).2.2.2] (s.drop 1)
def kParse (s : List UInt8) : (Int × Int × Int × Int) × Int :=
  if kOfS s = 0 then ((0, 0, 0, 0), 100)
  else if kRight (kOfS s) ((kNums s).getD 0 0 : Nat) ((kNums s).getD 1 0 : Nat) ((kNums s).getD 2 0 : Nat) = true then ((kOfS s, ((kNums s).getD 0 0 : Nat), ((kNums s).getD 1 0 : Nat), ((kNums s).getD 2 0 : Nat)), 0) else ((0, 0, 0, 0), 100)

theorem eq_u32 (d : Nat) (x y : Int) (w : World) : (Op.equalIn (d + 1) 26 (.int .u32 x) (.int .u32 y)).run Tryz.prog w = .ok (x == y) w := by
  simp [Op.equalIn, underlying, Tryz.underlying26]
theorem eq_int (d : Nat) (x y : Int) (w : World) : (Op.equalIn (d + 1) 3 (.int .i64 x) (.int .i64 y)).run Tryz.prog w = .ok (x == y) w := by
  simp [Op.equalIn, underlying, Tryz.underlying3]
theorem eq51 (d : Nat) (x1 x2 x3 x4 y1 y2 y3 y4 : Int) (w : World) : (Op.equalIn (d + 2) 51 (plv x1 x2 x3 x4) (plv y1 y2 y3 y4)).run Tryz.prog w = .ok ((x1 == y1) && ((x2 == y2) && ((x3 == y3) && ((x4 == y4) && true)))) w := by
  refine eqA_of Tryz.underlying51 (by kernel_rfl) ?_
  exact eqf_cons (by rfl) (by kernel_rfl) (by kernel_rfl) (eq_int _ _ _ _) (eqf_cons (by rfl) (by kernel_rfl) (by kernel_rfl) (eq_u32 _ _ _ _) (eqf_cons (by rfl) (by kernel_rfl) (by kernel_rfl) (eq_u16 _ _ _ _) (eqf_cons (by rfl) (by kernel_rfl) (by kernel_rfl) (eq_u32 _ _ _ _) eqf_nil)))
theorem eql51 (x1 x2 x3 x4 y1 y2 y3 y4 : Int) (w : World) : (binOp .eql 51 (plv x1 x2 x3 x4) (plv y1 y2 y3 y4)).run Tryz.prog w = .ok (.bool ((x1 == y1) && ((x2 == y2) && ((x3 == y3) && (x4 == y4))))) w := by
  have e := fun w => eq51 9998 x1 x2 x3 x4 y1 y2 y3 y4 w
  unfold plv at e ⊢
  simp only [binOp]
  simp [Op.equal, Op.maxDepth, e]
def u32s (l : List Nat) : List Value := l.map fun n : Nat => Value.int .u32 (n : Int)
def KpI (w : World) (b : Nat) (pre : List Nat) (nb : Nat) (W : World) : Prop :=
  pre.length < 3 ∧ (∃ v, W.heap[b + 1]? = some (.cells #[v] 208 (0, 0)) ∧ W.ownsRow (b + 7) 26 1 v pre.length (u32s pre) ∧ (∀ g, v.ownBlock = some g → g < nb)) ∧
  W.heap[w.heap.size]? = some (.cells #[.int .i64 0, .int .u32 0, .int .u16 0, .int .u32 0] 51 (0, 0)) ∧ Below w.heap.size w W
def KpX (w : World) (b : Nat) (q : Code) (pre : List Nat) (W : World) : Prop :=
  q = .exit 0 ∧ pre.length = 3 ∧ (∃ v, W.heap[b + 1]? = some (.cells #[v] 208 (0, 0)) ∧ W.ownsRow (b + 7) 26 1 v pre.length (u32s pre)) ∧
  W.heap[w.heap.size]? = some (.cells #[.int .i64 0, .int .u32 0, .int .u16 0, .int .u32 0] 51 (0, 0)) ∧ Below w.heap.size w W
theorem infoU32 : (Tryz.prog.info? 26).map (fun i => (i.zero, i.size, i.bytes)) = some (some (.int .u32 0), 1, 4) := by kernel_rfl

set_option maxHeartbeats 2000000 in
set_option maxRecDepth 100000 in
theorem kparse_any (s : ByteArray) (w : World) (hs : s.size ≤ 1000000) : Calls Tryz.prog 128 #[.string s] w fun e w' =>
    e = .returned (.tuple #[plv (kParse s.data.toList).1.1 (kParse s.data.toList).1.2.1 (kParse s.data.toList).1.2.2.1 (kParse s.data.toList).1.2.2.2, .int .i64 (kParse s.data.toList).2]) ∧ Below w.heap.size w w' := by
  obtain ⟨W, hW⟩ : ∃ W, w.alloc (.cells #[.int .i64 0, .int .u32 0, .int .u16 0, .int .u32 0] 51) = W := ⟨_, rfl⟩
  have HK : Hid (Kp w w.heap.size (.cells #[.int .i64 0, .int .u32 0, .int .u16 0, .int .u32 0] 51 (0, 0)) W) := Lib.hid (by rw [← hW]; exact ⟨(Below.refl _ w).alloc (Nat.le_refl _) _, heap_alloc_new w _⟩)
  obtain ⟨R, hR⟩ : ∃ R, kParse s.data.toList = R := ⟨_, rfl⟩
  rw [hR]
  have HR := Lib.hid hR
  clear hR
  have hko := kindOf_any s W hs
  rcases kOfS_cases s.data.toList with ⟨hkd, hmt⟩ | ⟨hk0, _⟩
  · refine (callsIn_wide (n := 9)).1 ?_
    refine callsIn_of_wp_marks Tryz.func128 rfl trivial ?_ rfl
    simp only [Tryz.ntmps128, List.size_toArray, List.length_cons, List.length_nil, Nat.reduceAdd, Nat.reduceSub, Array.replicate_succ, Array.replicate_zero, List.push_toArray, List.append_toArray, List.nil_append, List.cons_append]
    have hk0 : kOfS s.data.toList ≠ 0 := by unfold isKind at hkd; omega
    have hR := HR.out
    rw [kParse, if_neg hk0] at hR
    unfold kNums at hR
    have hlen : s.size = 1 + (kForm (kOfS s.data.toList)).2.1 + (kForm (kOfS s.data.toList)).2.2.1 + (kForm (kOfS s.data.toList)).2.2.2 := by
      simp only [mt, Bool.and_eq_true, decide_eq_true_eq] at hmt
      exact hmt.2
    have hle : (kForm (kOfS s.data.toList)).2.1 ≤ 4 ∧ (kForm (kOfS s.data.toList)).2.2.1 ≤ 2 ∧ (kForm (kOfS s.data.toList)).2.2.2 ≤ 4 := by
      rcases hkd with h | h | h | h | h | h <;> rw [h] <;> decide
    have hv : kFormV (kOfS s.data.toList) = fmv ((kForm (kOfS s.data.toList)).1.toNat : Int) ((kForm (kOfS s.data.toList)).2.1 : Int) ((kForm (kOfS s.data.toList)).2.2.1 : Int) ((kForm (kOfS s.data.toList)).2.2.2 : Int) := by rw [kFormV, if_neg hk0]
    rw [hv] at hko
    clear hv hmt HR
    generalize kOfS s.data.toList = k at *
    generalize kForm k = F at *
    obtain ⟨g0, g1, g2, g3⟩ := F
    unfold fmv at hko
    simp only at hR hlen hle hko
    have hL3 : ∃ a i m : Nat, nums [g1, g2, g3] (s.data.toList.drop 1) = [a, i, m] ∧ a < 4294967296 ∧ i < 65536 ∧ m < 4294967296 := by
      refine ⟨_, _, _, rfl, ?_, ?_, ?_⟩
      · have h1 := num_lt ((s.data.toList.drop 1).take g1)
        have h2 : 256 ^ ((s.data.toList.drop 1).take g1).length ≤ 256 ^ 4 := Nat.pow_le_pow_right (by omega) (by rw [List.length_take]; omega)
        have h3 : (256 : Nat) ^ 4 = 4294967296 := by decide
        omega
      · have h1 := num_lt (((s.data.toList.drop 1).drop g1).take g2)
        have h2 : 256 ^ (((s.data.toList.drop 1).drop g1).take g2).length ≤ 256 ^ 2 := Nat.pow_le_pow_right (by omega) (by rw [List.length_take]; omega)
        have h3 : (256 : Nat) ^ 2 = 65536 := by decide
        omega
      · have h1 := num_lt ((((s.data.toList.drop 1).drop g1).drop g2).take g3)
        have h2 : 256 ^ ((((s.data.toList.drop 1).drop g1).drop g2).take g3).length ≤ 256 ^ 4 := Nat.pow_le_pow_right (by omega) (by rw [List.length_take]; omega)
        have h3 : (256 : Nat) ^ 4 = 4294967296 := by decide
        omega
    obtain ⟨a, i, m, hL, ha, hi, hm⟩ := hL3
    rw [hL] at hR
    simp only [List.getD_cons_zero, List.getD_cons_succ] at hR
    have HP := Lib.hid (And.intro hR (And.intro hlen (And.intro hL hkd)))
    clear hR hlen hL hkd
    refine wpIn_wide.2 ?_
    go_wp2_with fail
    refine wp_scope_straight ?_
    go_wp2_with fail
    refine hko.mono ?_
    rintro e W2 ⟨rfl, hb⟩
    have HK2 := Lib.hid (HK.out.below hb)
    clear hb
    have hk0' : (k == 0) = false := by simpa using hk0
    obtain ⟨b5, hb5⟩ : ∃ b5, W2.heap.size = b5 := ⟨_, rfl⟩
    go_wp2_with fail
    obtain ⟨W3, hW3⟩ : ∃ W3, (W2.alloc (.cells #[.int .u8 (g0.toNat : Int), .int .i64 (g1 : Int), .int .i64 (g2 : Int), .int .i64 (g3 : Int)] 205)).alloc (.cells #[.slice none 0 0] 208) = W3 := ⟨_, rfl⟩
    have H3 : Hid (Below w.heap.size w W3 ∧ W3.heap[w.heap.size]? = some (.cells #[.int .i64 0, .int .u32 0, .int .u16 0, .int .u32 0] 51 (0, 0)) ∧ W3.heap[b5]? = some (.cells #[.int .u8 (g0.toNat : Int), .int .i64 (g1 : Int), .int .i64 (g2 : Int), .int .i64 (g3 : Int)] 205 (0, 0)) ∧ W3.heap[b5 + 1]? = some (.cells #[.slice none 0 0] 208 (0, 0)) ∧ W3.heap.size = b5 + 2 ∧ w.heap.size < b5) := Lib.hid (by
      obtain ⟨h1, h2⟩ := HK2.out
      have hlt := (Array.getElem?_eq_some_iff.1 h2).1
      rw [← hW3, ← hb5]
      exact ⟨(h1.alloc h1.size _).alloc (by have := h1.size; simp; omega) _, keep_a _ (keep_a _ h2), keep_a _ (heap_alloc_new W2 _), by have := alloc_new2 W2 (.cells #[.int .u8 (g0.toNat : Int), .int .i64 (g1 : Int), .int .i64 (g2 : Int), .int .i64 (g3 : Int)] 205) (.cells #[.slice none 0 0] 208); exact this, by simp, hlt⟩)
    try rw [hW3]
    clear hW3 hb5 HK2 HK hW
    go_step3
    have c5 : ∀ j, W3.cell? ⟨b5, j, none⟩ = (#[.int .u8 (g0.toNat : Int), .int .i64 (g1 : Int), .int .i64 (g2 : Int), .int .i64 (g3 : Int)] : Array Value)[j]? := blk_cell H3.out.2.2.1
    have c51 : W3.cell? ⟨b5, 1, none⟩ = some (.int .i64 (g1 : Int)) := c5 1
    have c52 : W3.cell? ⟨b5, 2, none⟩ = some (.int .i64 (g2 : Int)) := c5 2
    have c53 : W3.cell? ⟨b5, 3, none⟩ = some (.int .i64 (g3 : Int)) := c5 3
    have hz1 : (1 : Int) ≤ (s.size : Int) := by have := HP.out.2.1; omega
    have hsz3 : W3.heap.size = b5 + 2 := H3.out.2.2.2.2.1
    go_wp2_with fail
    go_region_held3 (fun W' => W'.cell? ⟨b5, 1, none⟩ = some (.int .i64 (g1 : Int)) ∧ W'.cell? ⟨b5, 2, none⟩ = some (.int .i64 (g2 : Int)) ∧ W'.cell? ⟨b5, 3, none⟩ = some (.int .i64 (g3 : Int)))
      (first | with_reducible exact ⟨c51, c52, c53⟩ | with_reducible exact ⟨cell_drew c51, cell_drew c52, cell_drew c53⟩ | with_reducible exact ⟨cell_alloc c51 _, cell_alloc c52 _, cell_alloc c53 _⟩ | with_reducible exact ⟨cell_drew (cell_alloc c51 _), cell_drew (cell_alloc c52 _), cell_drew (cell_alloc c53 _)⟩ | with_reducible exact ⟨cell_alloc (cell_alloc (cell_drew (cell_alloc c51 _)) _) _, cell_alloc (cell_alloc (cell_drew (cell_alloc c52 _)) _) _, cell_alloc (cell_alloc (cell_drew (cell_alloc c53 _)) _) _⟩ | with_reducible exact ⟨cell_drew (cell_alloc (cell_alloc (cell_alloc c51 _) _) _), cell_drew (cell_alloc (cell_alloc (cell_alloc c52 _) _) _), cell_drew (cell_alloc (cell_alloc (cell_alloc c53 _) _) _)⟩)
      ((go_at_call 175; refine (knumbers_any _ _ _ ⟨_, _, _, rfl⟩).mono ?_; rintro e w' ⟨rfl, rfl⟩))
    obtain ⟨W0, hW0⟩ : ∃ W0, (((W3.alloc (.cells #[.int .i64 (g1 : Int), .int .i64 (g2 : Int), .int .i64 (g3 : Int)] 3)).alloc (.cells #[.string (s.extract 1 s.size)] 9)).alloc (.cells #[.slice (some ⟨b5 + 2, 0, none⟩) 3 3] 252)).drew = W0 := ⟨_, rfl⟩
    have Z : Hid (W0.heap.size = b5 + 5 ∧ W0.heap[w.heap.size]? = some (.cells #[.int .i64 0, .int .u32 0, .int .u16 0, .int .u32 0] 51 (0, 0)) ∧ W0.heap[b5 + 1]? = some (.cells #[.slice none 0 0] 208 (0, 0)) ∧ W0.heap[b5 + 2]? = some (.cells #[.int .i64 (g1 : Int), .int .i64 (g2 : Int), .int .i64 (g3 : Int)] 3 (0, 0)) ∧
        W0.heap[b5 + 3]? = some (.cells #[.string (s.extract 1 s.size)] 9 (0, 0)) ∧ W0.heap[b5 + 4]? = some (.cells #[.slice (some ⟨b5 + 2, 0, none⟩) 3 3] 252 (0, 0)) ∧ Below w.heap.size w W0 ∧ w.heap.size < b5) := Lib.hid (by
      obtain ⟨h1, h2, h3, h4, h5, h6⟩ := H3.out
      obtain ⟨z0, z1, z2, z3, z4⟩ := three_new W3 (.cells #[.int .i64 (g1 : Int), .int .i64 (g2 : Int), .int .i64 (g3 : Int)] 3) (.cells #[.string (s.extract 1 s.size)] 9) (.cells #[.slice (some ⟨b5 + 2, 0, none⟩) 3 3] 252)
      rw [h5] at z0 z1 z2 z3
      rw [← hW0]
      exact ⟨z0, keep_b (W := W3) h2 z4.drew, keep_b (W := W3) h4 z4.drew, z1, z2, z3, h1.trans (z4.drew.mono h1.size), h6⟩)
    rw [hW0]
    clear hW0 c5 c51 c52 c53 hz1 hsz3 H3
    go_wp2_with fail
    refine (wpIn_wide (n := 9)).1 ?_
    have hsx : (s.extract 1 s.size).size = [g1, g2, g3].sum := by have := HP.out.2.1; simp; omega
    have hxs : nums [g1, g2, g3] (s.extract 1 s.size).data.toList = [a, i, m] := by rw [← HP.out.2.2.1, Lib.extract_to_end]
    have hit := knumbers_iter 8 (b5 + 4) (b5 + 3) (b5 + 2) [g1, g2, g3] (s.extract 1 s.size) W0 hsx (by intro k hk; simp at hk; omega) (by simp) ⟨Z.out.2.2.2.2.2.1, by have := Z.out.2.2.2.1; simpa using this⟩ Z.out.2.2.2.2.1 ⟨by omega, by omega⟩ (by omega)
    rw [hxs] at hit
    have HIT := Lib.hid hit
    clear hit hsx hxs
    refine wp_range (gf := 198) (lb := #[.pointer (some ⟨b5 + 4, 0, none⟩), .pointer (some ⟨b5 + 3, 0, none⟩)]) rfl (enters_of Tryz.func198 (by kernel_rfl) rfl)
      HIT.out (by rintro k rfl; have := Z.out.1; omega) (by rintro k (rfl | rfl) <;> (have := Z.out.1; omega)) (fun x => rfl)
      (KpI w b5) (KpX w b5) ?hI ?hm ?hIx ?h0
      (fun x a' W => a' = { tmps := #[.string s, undef, .pointer (some ⟨w.heap.size, 0, none⟩), .int .i64 0, .int .i64 k, .pointer (some ⟨b5, 0, none⟩), .pointer (some ⟨b5 + 1, 0, none⟩), .int .u32 (x : Int), undef, undef, .tuple #[.int .i64 k, .agg #[.int .u8 (g0.toNat : Int), .int .i64 (g1 : Int), .int .i64 (g2 : Int), .int .i64 (g3 : Int)]], .string s, .tuple #[.int .i64 k, .agg #[.int .u8 (g0.toNat : Int), .int .i64 (g1 : Int), .int .i64 (g2 : Int), .int .i64 (g3 : Int)]], .int .i64 k, .agg #[.int .u8 (g0.toNat : Int), .int .i64 (g1 : Int), .int .i64 (g2 : Int), .int .i64 (g3 : Int)], .int .i64 k, .bool false, undef, .string s, .string (s.extract 1 s.size), .pointer (some ⟨b5, 1, none⟩), .int .i64 (g1 : Int), .pointer (some ⟨b5, 2, none⟩), .int .i64 (g2 : Int), .pointer (some ⟨b5, 3, none⟩), .int .i64 (g3 : Int), .slice (some ⟨b5 + 2, 0, none⟩) 3 3, .func (.func 198) #[] #[.pointer (some ⟨b5 + 4, 0, none⟩), .pointer (some ⟨b5 + 3, 0, none⟩)], .int .u32 (x : Int), undef, undef, undef, undef, undef, undef, undef, undef, undef, undef, undef, undef, undef, undef, undef, undef, undef, undef, undef, undef, undef, undef, undef, undef, undef, undef, undef, undef, undef, undef], defers := [] }) (fun _ _ _ _ h _ _ => h) ?assign ?body ?done ?stop
    case hm =>
      rintro pre nb nb' A' ⟨h0, ⟨v, h1, h2, h3⟩, h4, h5⟩ hle
      exact ⟨h0, ⟨v, h1, h2, fun g h => Nat.lt_of_lt_of_le (h3 g h) hle⟩, h4, h5⟩
    case hI =>
      rintro pre nb A' B ⟨h0, ⟨v, h1, h2, h3⟩, h4, h5⟩ hA hS
      have z0 := Z.out.1
      have z1 := Z.out.2.2.2.2.2.2.2
      exact ⟨h0, ⟨v, hS.at_ h1 ⟨by simp, by omega⟩, ownsRow_same h2 hS (fun k hk _ => ⟨by simp; omega, by omega⟩), h3⟩, hS.at_ h4 ⟨by simp; omega, by omega⟩, h5.trans (hS.below (by omega) (fun k hk => ⟨by simp; omega, by omega⟩))⟩
    case hIx =>
      rintro q pre A' B ⟨h0, h0', ⟨v, h1, h2⟩, h4, h5⟩ hA hS
      have z0 := Z.out.1
      have z1 := Z.out.2.2.2.2.2.2.2
      exact ⟨h0, h0', ⟨v, hS.at_ h1 ⟨by simp, by omega⟩, ownsRow_same h2 hS (fun k hk _ => ⟨by simp; omega, by omega⟩)⟩, hS.at_ h4 ⟨by simp; omega, by omega⟩, h5.trans (hS.below (by omega) (fun k hk => ⟨by simp; omega, by omega⟩))⟩
    case h0 => exact ⟨by simp, ⟨_, Z.out.2.2.1, ⟨by simp [u32s], .inl ⟨rfl, rfl⟩⟩, by simp [Value.ownBlock]⟩, Z.out.2.1, Z.out.2.2.2.2.2.2.1⟩
    case assign =>
      intro l pre x rest nb W K _ hi _ _ hK
      dsimp only [encN]
      gi_wp2
      exact hK _ _ (Same.refl _ _) hi rfl
    case body =>
      rintro lp pre x rest nb a' W hxs ⟨h0, ⟨v, h1, h2, h3⟩, h4, h5⟩ rfl hn hlen
      have z0 := Z.out.1
      have z1 := Z.out.2.2.2.2.2.2.2
      have c2 : W.cell? ⟨b5 + 1, 0, none⟩ = some v := blk_cell h1 0
      have hnew := cell_one_new W (.int .u32 (x : Int)) 26
      have HH := Lib.hid (And.intro h0 (And.intro h1 (And.intro h2 (And.intro h3 (And.intro h4 (And.intro h5 hnew))))))
      have hW5 : b5 + 7 ≤ W.heap.size := by omega
      clear h1 h2 h3 h4 h5 hxs hnew
      obtain ⟨i0, hi, hi0, hi1, hi2⟩ := info_parts infoU32
      gi_wp2_with (gi_at_builtin; refine wpListIn_append_own _ rfl _ _ 208 rfl (b5 + 7) 26 i0 (.int .u32 0) 1 4 Tryz.underlying208 hi hi0 hi1 hi2 rfl (by decide) _ _ _ rfl (HH.out.2.2.1.alloc _) ⟨W.heap.size, 0, none⟩ 1 1 [.int .u32 (x : Int)] rfl rfl HH.out.2.2.2.2.2.2 (by simp [Value.oneCell']) ?b1 ?b2 ?b3 ?_)
      case b1 => unfold maxLen; omega
      case b2 => omega
      case b3 => simp; omega
      intro v' w1 hown' hgrow _
      obtain ⟨g', cap', rfl⟩ := ownsRow_succ hown'
      have hgb : b5 + 7 ≤ g' ∧ g' < w1.heap.size := by
        rcases hown'.2 with ⟨h, _⟩ | ⟨g, cap, cur, h, hg, hh, _⟩
        · cases h
        · simp only [Value.slice.injEq, Option.some.injEq, Addr.mk.injEq] at h
          rw [h.1.1]; exact ⟨hg, (Array.getElem?_eq_some_iff.1 hh).1⟩
      have hrow : ∀ k, v.ownBlock = some k → b5 + 7 ≤ k ∧ k < nb := fun k hk => ⟨own_base HH.out.2.2.1 k hk, HH.out.2.2.2.1 k hk⟩
      have s1 : Same (fun k => k < b5 + 7 ∨ nb ≤ k) W w1 := ((Same.refl _ _).alloc _).grown hgrow (fun k hk _ h => by have := hrow k hk; omega)
      have hv2 : w1.heap[b5 + 1]? = some (.cells #[v] 208 (0, 0)) := s1.at_ HH.out.2.1 (.inl (by omega))
      have c3 : w1.cell? ⟨b5 + 1, 0, none⟩ = some v := blk_cell hv2 0
      have f3 : ∀ i, w1.frozen? ⟨b5 + 1, i, none⟩ = false := blk_frozen hv2
      have HG := Lib.hid (And.intro hown' (And.intro hgb (And.intro s1 hv2)))
      clear hown' hgrow hgb hrow s1 hv2
      have s2 : Same (fun k => (k < b5 + 7 ∧ k ≠ b5 + 1) ∨ nb ≤ k) W (w1.setCell ⟨b5 + 1, 0, none⟩ (.slice (some ⟨g', 0, none⟩) (pre.length + 1) cap')) :=
        (HG.out.2.2.1.mono fun k _ h => by omega).setCell (fun _ h => by simp at h; omega) _
      have hthe : Same (Theirs W0 (fun k => k = b5 + 3) (fun k => k = b5 + 4 ∨ k = b5 + 2) 0 nb) W (w1.setCell ⟨b5 + 1, 0, none⟩ (.slice (some ⟨g', 0, none⟩) (pre.length + 1) cap')) := s2.mono fun k _ h => by
        rcases h with rfl | (rfl | rfl) | h | h
        · left; omega
        · left; omega
        · left; omega
        · left; omega
        · right; exact h
      have hrow2 : (w1.setCell ⟨b5 + 1, 0, none⟩ (.slice (some ⟨g', 0, none⟩) (pre.length + 1) cap')).ownsRow (b5 + 7) 26 1 (.slice (some ⟨g', 0, none⟩) (pre.length + 1) cap') (pre.length + 1) (u32s (pre ++ [x])) :=
        ownsRow_same (S := fun k => k ≠ b5 + 1) (by simpa [u32s] using HG.out.1) ((Same.refl _ _).setCell (fun _ h => h rfl) _) (fun k hk _ => by omega)
      have hbox : (w1.setCell ⟨b5 + 1, 0, none⟩ (.slice (some ⟨g', 0, none⟩) (pre.length + 1) cap')).heap[b5 + 1]? = some (.cells #[.slice (some ⟨g', 0, none⟩) (pre.length + 1) cap'] 208 (0, 0)) := by have := blk_set HG.out.2.2.2 0 (.slice (some ⟨g', 0, none⟩) (pre.length + 1) cap'); simpa using this
      have hres := s2.at_ HH.out.2.2.2.2.1 (.inl ⟨by omega, by omega⟩)
      have hbel : Below w.heap.size w (w1.setCell ⟨b5 + 1, 0, none⟩ (.slice (some ⟨g', 0, none⟩) (pre.length + 1) cap')) := HH.out.2.2.2.2.2.1.trans (s2.below HH.out.2.2.2.2.2.1.size fun k hk => .inl ⟨by omega, by omega⟩)
      have hsz : g' < (w1.setCell ⟨b5 + 1, 0, none⟩ (.slice (some ⟨g', 0, none⟩) (pre.length + 1) cap')).heap.size := by simpa [World.setCell] using HG.out.2.1.2
      have HX := Lib.hid (And.intro hthe (And.intro hrow2 (And.intro hbox (And.intro hres (And.intro hbel hsz)))))
      clear s2 hthe hrow2 hbox hres hbel hsz
      have hpl : (pre ++ [x]).length = pre.length + 1 := by simp
      rcases Nat.lt_or_ge (pre.length + 1) 3 with h3 | h3
      · have hne : (((pre.length : Int) + 1) == 3) = false := by simp; omega
        have HP3 := Lib.hid h3
        clear h3
        gi_wp2
        obtain ⟨e1, e2, e3, e4, e5, e6⟩ := HX.out
        exact ⟨e1, by rw [hpl]; exact HP3.out, ⟨_, e3, by rw [hpl]; exact e2, fun g hg => by
          obtain rfl : g' = g := by simpa [Value.ownBlock] using hg
          exact e6⟩, e4, e5⟩
      · have hne : (((pre.length : Int) + 1) == 3) = true := by simp; omega
        have HP3 := Lib.hid h3
        clear h3
        gi_wp2
        obtain ⟨e1, e2, e3, e4, e5, e6⟩ := HX.out
        exact ⟨e1, rfl, by rw [hpl]; have := HP3.out; have := HH.out.1; omega, ⟨_, e3, by rw [hpl]; exact e2⟩, e4, e5⟩
    case done =>
      rintro W ⟨h0, _⟩
      simp at h0
    case stop =>
      rintro q pre W ⟨r, hr⟩ ⟨rfl, h0, ⟨v, h1, h2⟩, h4, h5⟩ hsz hD
      have z0 := Z.out.1
      have z1 := Z.out.2.2.2.2.2.2.2
      have hpre : pre = [a, i, m] := by
        have := congrArg List.length hr
        rw [List.length_append] at this
        have hr0 : r = [] := List.eq_nil_of_length_eq_zero (by simp at this; omega)
        rw [hr0, List.append_nil] at hr
        exact hr
      subst hpre
      obtain ⟨g, cap, rfl⟩ := ownsRow_succ (k := 2) h2
      have hgb : b5 + 7 ≤ g := by
        rcases h2.2 with ⟨h, _⟩ | ⟨g', cap', cur, h, hg, hh, _⟩
        · cases h
        · simp only [Value.slice.injEq, Option.some.injEq, Addr.mk.injEq] at h
          rw [h.1.1]; exact hg
      have cB : W.cell? ⟨b5 + 1, 0, none⟩ = some (.slice (some ⟨g, 0, none⟩) 3 cap) := blk_cell h1 0
      have hcs := h2.cells (g := g) rfl
      have cg0 : W.cell? ⟨g, 0, none⟩ = some (.int .u32 (a : Int)) := hcs 0 _ rfl
      have cg1 : W.cell? ⟨g, 1, none⟩ = some (.int .u32 (i : Int)) := by have := hcs 1 (.int .u32 (i : Int)) rfl; rwa [add_plain] at this
      have cg2 : W.cell? ⟨g, 2, none⟩ = some (.int .u32 (m : Int)) := by have := hcs 2 (.int .u32 (m : Int)) rfl; rwa [add_plain] at this
      have HH := Lib.hid (And.intro h4 (And.intro h5 hD))
      have hwi : IntKind.u16.wrap (i : Int) = (i : Int) := IntWalk.u16_in _ (by omega)
      clear h0 h1 h2 h4 h5 hD hcs hr
      refine wpIn_wide.2 ?_
      go_wp2_with fail
      go_region_held3 (fun W' => W'.cell? ⟨b5 + 1, 0, none⟩ = some (.slice (some ⟨g, 0, none⟩) 3 cap) ∧ W'.cell? ⟨g, 0, none⟩ = some (.int .u32 (a : Int)) ∧ W'.cell? ⟨g, 1, none⟩ = some (.int .u32 (i : Int)) ∧ W'.cell? ⟨g, 2, none⟩ = some (.int .u32 (m : Int)))
        (first | with_reducible exact ⟨cB, cg0, cg1, cg2⟩ | with_reducible exact ⟨cell_drew cB, cell_drew cg0, cell_drew cg1, cell_drew cg2⟩ | with_reducible exact ⟨cell_alloc cB _, cell_alloc cg0 _, cell_alloc cg1 _, cell_alloc cg2 _⟩ | with_reducible exact ⟨cell_drew (cell_alloc cB _), cell_drew (cell_alloc cg0 _), cell_drew (cell_alloc cg1 _), cell_drew (cell_alloc cg2 _)⟩)
        (fail)
      obtain ⟨b8, hb8⟩ : ∃ b8, W.heap.size = b8 := ⟨_, rfl⟩
      obtain ⟨W4, hW4⟩ : ∃ W4, (W.alloc (.cells #[.int .i64 k, .int .u32 (a : Int), .int .u16 (i : Int), .int .u32 (m : Int)] 51)).drew = W4 := ⟨_, rfl⟩
      have H4 : Hid (Below w.heap.size w W4 ∧ W4.heap[w.heap.size]? = some (.cells #[.int .i64 0, .int .u32 0, .int .u16 0, .int .u32 0] 51 (0, 0)) ∧ W4.heap[b8]? = some (.cells #[.int .i64 k, .int .u32 (a : Int), .int .u16 (i : Int), .int .u32 (m : Int)] 51 (0, 0)) ∧ W4.heap[b5 + 5]? = some (.deferred (some [])) ∧ w.heap.size < b8) := Lib.hid (by
        obtain ⟨h4, h5, hD⟩ := HH.out
        have hlt := (Array.getElem?_eq_some_iff.1 h4).1
        rw [z0] at hD
        rw [← hW4, ← hb8]
        exact ⟨(h5.alloc h5.size _).drew, blk_drew (keep_a _ h4), blk_drew (heap_alloc_new W _), blk_drew (keep_a _ hD), hlt⟩)
      rw [hW4, hb8]
      clear hW4 hb8 hwi HH
      have hq := eql51 k a i m 0 0 0 0
      rw [hk0'] at hq
      have hK := kright_any k a i m (W4.alloc (.cells #[.int .i64 0, .int .u32 0, .int .u16 0, .int .u32 0] 51))
      unfold plv at hq hK
      simp only [Bool.false_and] at hq
      have c8 : ∀ j, W4.cell? ⟨b8, j, none⟩ = (#[.int .i64 k, .int .u32 (a : Int), .int .u16 (i : Int), .int .u32 (m : Int)] : Array Value)[j]? := blk_cell H4.out.2.2.1
      have c9 : ∀ j, (W4.alloc (.cells #[.int .i64 0, .int .u32 0, .int .u16 0, .int .u32 0] 51)).cell? ⟨b8, j, none⟩ = (#[.int .i64 k, .int .u32 (a : Int), .int .u16 (i : Int), .int .u32 (m : Int)] : Array Value)[j]? := blk_cell (keep_a _ H4.out.2.2.1)
      clear cB cg0 cg1 cg2
      rcases hkr : kRight k a i m with _ | _
      all_goals
        rw [hkr] at hK
        have HKK := Lib.hid hK
        clear hK
        go_wp2_with fail
        refine HKK.out.mono ?_
        rintro e W5 ⟨rfl, hb⟩
        have H5 : Hid (Below w.heap.size w W5 ∧ W5.heap[w.heap.size]? = some (.cells #[.int .i64 0, .int .u32 0, .int .u16 0, .int .u32 0] 51 (0, 0)) ∧ W5.heap[b8]? = some (.cells #[.int .i64 k, .int .u32 (a : Int), .int .u16 (i : Int), .int .u32 (m : Int)] 51 (0, 0)) ∧ W5.heap[b5 + 5]? = some (.deferred (some []))) := Lib.hid (by
          obtain ⟨h1, h2, h3, h5, h6⟩ := H4.out
          have h1' := h1.alloc h1.size (.cells #[.int .i64 0, .int .u32 0, .int .u16 0, .int .u32 0] 51)
          exact ⟨h1'.trans (hb.mono h1'.size), keep_b (keep_a _ h2) hb, keep_b (keep_a _ h3) hb, keep_b (keep_a _ h5) hb⟩)
        have c5 : ∀ j, W5.cell? ⟨b8, j, none⟩ = (#[.int .i64 k, .int .u32 (a : Int), .int .u16 (i : Int), .int .u32 (m : Int)] : Array Value)[j]? := blk_cell H5.out.2.2.1
        have c6 : ∀ j, W5.cell? ⟨w.heap.size, j, none⟩ = (#[.int .i64 0, .int .u32 0, .int .u16 0, .int .u32 0] : Array Value)[j]? := blk_cell H5.out.2.1
        have f6 : ∀ j, W5.frozen? ⟨w.heap.size, j, none⟩ = false := blk_frozen H5.out.2.1
        clear hb c8 c9
        go_wp2
        dsimp only [Exit.noGoto]
        obtain ⟨h1, h2, h3, hD⟩ := H5.out
        have hR := HP.out.1
        rw [hkr] at hR
        simp only [Bool.false_eq_true, if_false, if_true] at hR
        subst hR
        have hne : b5 + 5 ≠ w.heap.size := by omega
        refine ⟨by simp, .inl ⟨_, _, rfl, run_takeDeferred (by rw [Below.heap_setCell _ _ _ _ hne, Below.heap_setCell _ _ _ _ hne, Below.heap_setCell _ _ _ _ hne, Below.heap_setCell _ _ _ _ hne]; exact hD), ?_⟩⟩
        refine ⟨_, res_cell_tmp rfl rfl ((World.putObj_heap_other (Ne.symm hne)).trans (four_set h2 _ _ _ _)) Tryz.underlying51 rfl (by kernel_rfl), ?_⟩
        refine ⟨rfl, ?_⟩
        exact (four_below h1 (Nat.le_refl _) _ _ _ _).trans (((Same.refl (fun k => k < w.heap.size) _).putObj _ (fun _ h => by omega)).below (by have := h1.size; simp [World.setCell]; omega) fun k hk => hk)
  · rw [hk0] at hko
    have hRR := HR.out
    rw [kParse, if_pos hk0] at hRR
    subst hRR
    go_enter Tryz.func128, Tryz.ntmps128
    go_wp2_with fail
    refine wp_scope_straight ?_
    go_wp2_with fail
    refine hko.mono ?_
    rintro e W2 ⟨rfl, hb⟩
    have HK2 := Lib.hid (HK.out.below hb)
    clear hb
    have hz : kFormV 0 = .agg #[.int .u8 0, .int .i64 0, .int .i64 0, .int .i64 0] := rfl
    rw [hz]
    have c2 := HK2.out.cell
    have f2 : ∀ j, W2.frozen? ⟨w.heap.size, j, none⟩ = false := blk_frozen HK2.out.2
    have hlt : w.heap.size < W2.heap.size := (Array.getElem?_eq_some_iff.1 HK2.out.2).1
    go_wp2
    dsimp only [Exit.noGoto]
    refine bodyPost_ret (res_cell_tmp rfl rfl (keep_a _ (four_set HK2.out.2 _ _ _ _)) Tryz.underlying51 rfl (by kernel_rfl)) rfl ⟨rfl, ?_⟩
    have hb := four_below HK2.out.1 (Nat.le_refl w.heap.size) (.int .i64 0) (.int .u32 0) (.int .u16 0) (.int .u32 0)
    exact hb.alloc hb.size _
end Go.Proofs.YtmkcbkdbdcnoiaaGreatDoor
