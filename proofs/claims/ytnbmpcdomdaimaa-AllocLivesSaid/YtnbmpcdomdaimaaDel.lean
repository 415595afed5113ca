/- What slices.Delete answers at one spare of a row. -/
import Derived.Test.YtnbmpcdomdaimaaCd
import Derived.Deep.RegionLaw
import Derived.StillTailTactics
namespace Go.Proofs.Ytnbmpcdomdaimaa
open Go.RowKit
set_option linter.unusedVariables false
set_option linter.unusedSimpArgs false

theorem zero_spare : ∀ w : World, (zeroValue 44).run Try.prog w = .ok (.agg #[.int .u32 0, .int .u64 0]) w := by
  intro w
  obtain ⟨i0, hi, hi0, hi1, hi2⟩ := info_parts infoSpare
  simp [zeroValue, typeInfo, hi, hi0]

/-- 'clear' of one spare of a row. -/
theorem run_clear_spare (w : World) (ty : TypeId) (g o c : Nat) (cur : Array Value) (hg : w.heap[g]? = some (.cells cur 44 (0, 0))) (ho : o + 2 ≤ cur.size) :
    (Builtin.clear_ #[23] ty #[.slice (some ⟨g, o, none⟩) 1 c]).run Try.prog w = .ok (.tuple #[]) (w.setRow g (cur.toList.take o ++ [Value.int .u32 0, Value.int .u64 0] ++ cur.toList.drop (o + 2)).toArray) := by
  have hst := run_storeCells_at Try.prog g o 44 [.int .u32 0, .int .u64 0] 0 cur w hg (by simpa using ho) (by intro v hv; simp at hv; rcases hv with rfl | rfl <;> rfl)
  have hzc : (Builtin.zeroCells #[.int .u32 0, .int .u64 0] 1).toList = [.int .u32 0, .int .u64 0] := by kernel_rfl
  simp only [Nat.add_zero] at hst
  simp [Builtin.clear_, run_underlying Try.underlying23, zero_spare, Value.cells, hzc, hst]

theorem setCells_mid {g : Nat} {t : TypeId} (vs : List Value) : ∀ (o : Nat) (w : World) (pre mid post : List Value), o = pre.length → vs.length = mid.length → w.heap[g]? = some (.cells (pre ++ (mid ++ post)).toArray t (0, 0)) →
    (w.setCells g o vs).heap[g]? = some (.cells (pre ++ (vs ++ post)).toArray t (0, 0)) := by
  induction vs with
  | nil =>
    intro o w pre mid post _ hl h
    obtain rfl : mid = [] := List.eq_nil_of_length_eq_zero hl.symm
    exact h
  | cons v vs ih =>
    intro o w pre mid post ho hl h
    obtain ⟨m, mid, rfl⟩ : ∃ m r, mid = m :: r := by
      cases mid with
      | nil => simp at hl
      | cons m r => exact ⟨m, r, rfl⟩
    rw [World.setCells]
    have h2 := ih (o + 1) (w.setCell ⟨g, o, none⟩ v) (pre ++ [v]) mid post (by simp [ho]) (by simpa using hl) (by
      rw [blk_set h o v]
      congr 2
      subst ho
      simp)
    simpa using h2

theorem append_room_sp {ops : Array Oper} {rest : List Oper} {o : Oper} {a : Act} {Q : Exit → Act → World → Prop} {w : World} (hgd : o.guard = none) (s x : Operand)
    (ho : o.op = .call { callee := .builtin .append, args := #[s, x], argTypes := #[23, 23] }) (g n cap : Nat) (hs : a.eval s = .slice (some ⟨g, 0, none⟩) n cap) (ad : Addr) (m c : Nat) (news : List Value) (hx : a.eval x = .slice (some ad) m c)
    (hn : news.length = m * 2) (hc : ∀ j u, news[j]? = some u → w.cell? (ad.add j) = some u) (h1 : ∀ u ∈ news, u.oneCell' = true) (N : Nat) (hN : n + m = N) (hroom : N ≤ cap)
    (pre mid post : List Value) (hg : w.heap[g]? = some (.cells (pre ++ (mid ++ post)).toArray 44 (0, 0))) (hp : pre.length = n * 2) (hm : mid.length = news.length)
    (h : ∀ w', w'.heap[g]? = some (.cells (pre ++ (news ++ post)).toArray 44 (0, 0)) → (∀ B a, Below B a w → B ≤ g → Below B a w') → wpList Try.prog ops Q rest (a.put o.dst (.slice (some ⟨g, 0, none⟩) N cap)) w') : wpList Try.prog ops Q (o :: rest) a w := by
  obtain ⟨i0, hi, hi0, hi1, hi2⟩ := info_parts infoSpare
  subst hN
  refine wpList_plain hgd fun K hK => ?_
  have hrun := run_append_room_cells (P := Try.prog) w 23 o.type 44 i0 Try.underlying23 hi g 0 n cap ad m c news (by rw [hi1]; exact hn) hc h1 hroom
    (fun j hj => by
      rw [hi1, Nat.zero_add, blk_cell hg, Array.getElem?_eq_getElem (by simp; omega)]; rfl)
    (fun j hj => blk_frozen hg _)
  rw [hi1] at hrun
  unfold Oper.wp
  simp [execOp, ho, resolve, invoke, builtin, hs, hx, hrun, Result.andThen]
  refine hK _ _ (h _ ?_ (fun B a hB hle => below_setCells hle _ _ _ hB))
  exact setCells_mid news (n * 2) w pre mid post hp.symm hm.symm hg

theorem clear_sp {ops : Array Oper} {rest : List Oper} {o : Oper} {a : Act} {Q : Exit → Act → World → Prop} {w : World} (hgd : o.guard = none) (x : Operand)
    (ho : o.op = .call { callee := .builtin .clear, args := #[x], argTypes := #[23] }) (g off c : Nat) (hx : a.eval x = .slice (some ⟨g, off, none⟩) 1 c) (pre : List Value) (u v : Value)
    (hg : w.heap[g]? = some (.cells (pre ++ [u, v]).toArray 44 (0, 0))) (hp : pre.length = off)
    (h : ∀ w', w'.heap[g]? = some (.cells (pre ++ [Value.int .u32 0, Value.int .u64 0]).toArray 44 (0, 0)) → (∀ B a, Below B a w → B ≤ g → Below B a w') → ∀ r, wpList Try.prog ops Q rest (a.put o.dst r) w') : wpList Try.prog ops Q (o :: rest) a w := by
  refine wpList_plain hgd fun K hK => ?_
  have hrun := run_clear_spare w o.type g off c _ hg (by simp; omega)
  unfold Oper.wp
  simp [execOp, ho, resolve, invoke, builtin, hx, hrun, Result.andThen]
  refine hK _ _ (h _ ?_ (fun B a hb hle => below_setRow hb hle _) _)
  rw [setRow_heap w g _ _ 44 _ hg]
  subst hp
  simp

/-- The row that slices.Delete leaves: the spares without one, and one empty spare. -/
def gone (l : List Sp) (k : Nat) : List Value := sp (l.eraseIdx k) ++ [Value.int .u32 0, .int .u64 0]

theorem row_tail (w : World) (g k2 n : Nat) (l : List Sp) (hn : l.length = n) (h5 : k2 ≤ n) (hg : w.heap[g]? = some (.cells (sp l).toArray 44 (0, 0))) :
    ∃ A, (if n = k2 then some (⟨g, 0, none⟩ : Addr) else some ⟨g, k2 * 2, none⟩) = some A ∧ ∀ j u, (sp (l.drop k2))[j]? = some u → w.drew.cell? (A.add j) = some u := by
  have hd : sp (l.drop k2) = (sp l).drop (k2 * 2) := by
    have := sp_append (l.take k2) (l.drop k2)
    rw [List.take_append_drop] at this
    rw [this, List.drop_left' (by rw [sp_length, List.length_take]; omega)]
  by_cases h : n = k2
  · refine ⟨_, by rw [if_pos h], fun j u hj => ?_⟩
    rw [List.drop_of_length_le (by omega)] at hj
    simp [sp] at hj
  · refine ⟨_, by rw [if_neg h], fun j u hj => ?_⟩
    have : (⟨g, k2 * 2, none⟩ : Addr).add j = ⟨g, k2 * 2 + j, none⟩ := by unfold Addr.add; split <;> simp_all
    rw [this, blk_cell (blk_drew hg)]
    rw [hd, List.getElem?_drop] at hj
    simpa using hj

theorem row_parts (l : List Sp) (k k2 n : Nat) (hn : l.length = n) (hk : k < n) (hk2 : k2 = k + 1) : ∃ u v, sp l = sp (l.take k) ++ ((sp (l.drop k)).take ((n - k2) * 2) ++ [u, v]) := by
  have h1 := sp_append (l.take k) (l.drop k)
  rw [List.take_append_drop] at h1
  have hlen : (sp (l.drop k)).length = (n - k2) * 2 + 2 := by rw [sp_length, List.length_drop]; omega
  have h2 := (List.take_append_drop ((n - k2) * 2) (sp (l.drop k))).symm
  obtain ⟨u, v, h3⟩ : ∃ u v, (sp (l.drop k)).drop ((n - k2) * 2) = [u, v] := by
    have : ((sp (l.drop k)).drop ((n - k2) * 2)).length = 2 := by rw [List.length_drop, hlen]; omega
    match (sp (l.drop k)).drop ((n - k2) * 2), this with
    | [u, v], _ => exact ⟨u, v, rfl⟩
  exact ⟨u, v, by rw [h1]; conv => lhs; rw [h2, h3]⟩

set_option maxHeartbeats 1000000 in
set_option maxRecDepth 100000 in
theorem delete_one (g k k2 n : Nat) (i2 : Int) (hi2 : i2 = (k2 : Int)) (hk2 : k2 = k + 1) (l : List Sp) (w : World) (hn : l.length = n) (hk : k < n) (hl : n ≤ 1000000) (hg : w.heap[g]? = some (.cells (sp l).toArray 44 (0, 0))) :
    Calls Try.prog 28 #[.slice (some ⟨g, 0, none⟩) n n, .int .i64 (k : Int), .int .i64 i2] w fun e w' => e = .returned (.slice (some ⟨g, 0, none⟩) (n - 1) n) ∧ w'.heap[g]? = some (.cells (gone l k).toArray 44 (0, 0)) ∧ (∀ B a, Below B a w → B ≤ g → Below B a w') := by
  subst hi2
  have h1 : (k2 : Int) ≤ (n : Int) := by omega
  have h2 : (k : Int) ≤ (n : Int) := by omega
  have h4 : (k : Int) ≤ (k2 : Int) := by omega
  have h5 : k2 ≤ n := by omega
  have h6 : k ≤ k2 := by omega
  have h7 : k ≤ n := by omega
  have h3 : ((k : Int) == (k2 : Int)) = false := by simp; omega
  have HK2 := Lib.hid hk2
  clear hk2
  obtain ⟨i0, hi, hi0, hi1, hi2⟩ := info_parts infoSpare
  go_enter Try.func28, Try.ntmps28
  go_wp2
  go_still_tail 6, (by kernel_rfl)
  change wpList _ _ _ _ _ w.drew
  obtain ⟨A, hA, hsrc⟩ := row_tail w g k2 n l hn h5 hg
  obtain ⟨u, v, hparts⟩ := row_parts l k k2 n hn hk HK2.out
  have hg2 : w.drew.heap[g]? = some (.cells (sp (l.take k) ++ ((sp (l.drop k)).take ((n - k2) * 2) ++ [u, v])).toArray 44 (0, 0)) := by rw [← hparts]; exact hg
  rw [hA]
  refine append_room_sp rfl _ _ rfl g k n rfl A (n - k2) (n - k2) (sp (l.drop k2)) rfl (by rw [sp_length, List.length_drop]; omega) hsrc (one_sp _) (n - 1) (by have := HK2.out; omega) (by omega) _ _ _ hg2
    (by rw [sp_length, List.length_take]; omega) (by have := HK2.out; simp [sp_length]; omega) ?_
  intro W1 hg1 hB1
  have hg3 : W1.heap[g]? = some (.cells (sp (l.eraseIdx k) ++ [u, v]).toArray 44 (0, 0)) := by
    rw [hg1, List.eraseIdx_eq_take_drop_succ, sp_append, ← HK2.out, List.append_assoc]
  have H1 := Lib.hid (And.intro hg3 hB1)
  clear hg1 hg2 hg3 hB1 hparts hsrc hA
  have hN : n - 1 ≤ n := by omega
  have hN1 : ((n - 1 : Nat) : Int) ≤ (n : Int) := by omega
  have hN2 : ¬ n = n - 1 := by omega
  have hN3 : n - (n - 1) = 1 := by omega
  have hlen : (sp (l.eraseIdx k)).length = (n - 1) * 2 := by rw [sp_length, List.length_eraseIdx, if_pos (by omega)]; omega
  generalize hm1 : n - 1 = m1 at *
  have HL := Lib.hid hlen
  have HM1 := Lib.hid hm1
  clear hlen hm1
  go_wp2_with ((with_reducible show wpList _ _ _ _ _ _); refine clear_sp (o := ⟨none, _, _, _, _, _⟩) rfl _ rfl g (m1 * 2) 1 rfl _ u v H1.out.1 HL.out ?_)
  intro W2 hg2 hB2
  have H2 := Lib.hid (And.intro hg2 hB2)
  clear hg2 hB2
  go_wp2
  go_ret
  exact ⟨by rw [HM1.out]; rfl, H2.out.1, fun B a hB hle => H2.out.2 B a (H1.out.2 B a (Below.drew hB) hle) hle⟩
end Go.Proofs.Ytnbmpcdomdaimaa
