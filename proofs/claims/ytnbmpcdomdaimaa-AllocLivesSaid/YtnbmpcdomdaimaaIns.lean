/- What slices.Insert answers at one spare and a row without room. -/
import Derived.Test.YtnbmpcdomdaimaaDel
import Derived.Laws.Append
import Derived.StillTailTactics
namespace Go.Proofs.Ytnbmpcdomdaimaa
open Go.RowKit
set_option linter.unusedVariables false
set_option linter.unusedSimpArgs false

theorem add_off (g o j : Nat) : (⟨g, o, none⟩ : Addr).add j = ⟨g, o + j, none⟩ := by unfold Addr.add; split <;> simp_all
theorem sp_drop (l : List Sp) (i : Nat) : sp (l.drop i) = (sp l).drop (i * 2) := by
  by_cases h : i ≤ l.length
  · have := sp_append (l.take i) (l.drop i)
    rw [List.take_append_drop] at this
    rw [this, List.drop_left' (by rw [sp_length, List.length_take]; omega)]
  · rw [List.drop_of_length_le (by omega), List.drop_of_length_le (by rw [sp_length]; omega)]
    rfl
/-- A block whose first cells are those of spares. -/
def Row44 (w : World) (g c : Nat) (l : List Sp) : Prop := ∃ cur : Array Value, w.heap[g]? = some (.cells cur 44 (0, 0)) ∧ cur.size = c * 2 ∧ cur.toList.take (l.length * 2) = sp l

theorem append_grow_sp {ops : Array Oper} {rest : List Oper} {o : Oper} {a : Act} {Q : Exit → Act → World → Prop} {w : World} (hgd : o.guard = none) (s x : Operand)
    (ho : o.op = .call { callee := .builtin .append, args := #[s, x], argTypes := #[23, 23] }) (g n : Nat) (l : List Sp) (hn : l.length = n) (hl : n ≤ 1000000) (hs : a.eval s = .slice (some ⟨g, 0, none⟩) n n) (hg : w.heap[g]? = some (.cells (sp l).toArray 44 (0, 0)))
    (ad : Addr) (q : Sp) (hx : a.eval x = .slice (some ad) 1 1) (hc : ∀ j u, (sp [q])[j]? = some u → w.cell? (ad.add j) = some u)
    (h : ∀ c w', n + 1 ≤ c → c ≤ maxLen → Row44 w' w.heap.size c (l ++ [q]) → Below w.heap.size w w' → wpList Try.prog ops Q rest (a.put o.dst (.slice (some ⟨w.heap.size, 0, none⟩) (n + 1) c)) w') : wpList Try.prog ops Q (o :: rest) a w := by
  obtain ⟨i0, hi, hi0, hi1, hi2⟩ := info_parts infoSpare
  refine wpList_plain hgd fun K hK => ?_
  have hfit : Builtin.nextslicecap (n + 1) n * i0.bytes ≤ 281474976710656 := growslice_fits (by omega) (by rw [hi2]; omega)
  have hrun := run_append_grow (P := Try.prog) w 23 o.type 44 i0 _ Try.underlying23 hi hi0 ⟨g, 0, none⟩ n n (sp l) (by rw [hi1, sp_length, hn]) (fun j v hv => by rw [add_plain, blk_cell hg]; simpa using hv)
    ad 1 1 (sp [q]) (by rw [hi1, sp_length]; rfl) hc (by omega) (by omega) hfit
  have hge := grownCap_ge w (n + 1) n 44
  have hcm := grownCap_le_maxLen w (n + 1) n 44 (by simp only [maxLen]; omega)
  unfold Oper.wp
  simp only [execOp, ho, resolve, invoke, builtin, Sem.run_bind, Sem.run_pure, Result.andThen_ok, List.map_toArray, List.map_cons, List.map_nil, hs, hx, hrun]
  refine hK _ _ (h _ _ hge hcm ⟨_, heap_alloc_new w.drew _, ?_, ?_⟩ ?_)
  · simp only [Array.size_append, List.size_toArray, size_zeroCells, sp_length, hn]
    show n * 2 + [q].length * 2 + (grownCap w (n + 1) n 44 - (n + 1)) * 2 = _
    simp only [List.length_cons, List.length_nil]
    omega
  · simp only [Array.toList_append, sp_append]
    exact List.take_left' (by rw [List.length_append, sp_length, sp_length, List.length_append]; omega)
  · exact (Below.drew (Below.refl _ w)).alloc (Nat.le_refl _) _

theorem run_zeros_grow (w : World) (ty : TypeId) (g i n : Nat) (l : List Sp) (hn : l.length = n) (hl : n ≤ 1000000) (hi : i ≤ n) (hg : w.heap[g]? = some (.cells (sp l).toArray 44 (0, 0))) :
    (Builtin.append_ #[23, 3] ty #[.slice (some ⟨g, 0, none⟩) i n, .int .i64 ((n + 1 - i : Nat) : Int)]).run Try.prog w =
      .ok (.slice (some ⟨w.heap.size, 0, none⟩) (n + 1) (grownCap w (n + 1) n 44))
        (w.drew.alloc (.cells ((sp (l.take i)).toArray ++ Builtin.zeroCells #[.int .u32 0, .int .u64 0] (n + 1 - i) ++ Builtin.zeroCells #[.int .u32 0, .int .u64 0] (grownCap w (n + 1) n 44 - (n + 1))) 44)) := by
  obtain ⟨i0, hi', hi0, hi1, hi2⟩ := info_parts infoSpare
  obtain ⟨m, hm⟩ : ∃ m, n + 1 - i = m := ⟨_, rfl⟩
  have him : i + m = n + 1 := by omega
  rw [hm]
  have hw : IntKind.i64.wrap (m : Int) = m := by rw [IntKind.wrap_i64]; omega
  have hneg : ¬ ((m : Int) < 0) := by omega
  have hbig : ¬ (281474976710656 < (m : Int) * (i0.bytes : Int)) := by rw [hi2]; omega
  have hroom : ¬ (i + m ≤ n) := by omega
  have h63' : ¬ (9223372036854775807 < ((i : Int) + (m : Int))) := by omega
  have hfit : Builtin.nextslicecap (n + 1) n * i0.bytes ≤ 281474976710656 := growslice_fits (by omega) (by rw [hi2]; omega)
  have h48' : ¬ (281474976710656 < Builtin.nextslicecap (i + m) n * i0.bytes) := by rw [him]; omega
  have hfo := run_firstCells_some (P := Try.prog) w.drew i0.size i ⟨g, 0, none⟩ i n (sp (l.take i)) (by rw [hi1, sp_length, List.length_take]; omega) (fun j v hv => by
    rw [add_plain, blk_cell (blk_drew hg)]
    have h1 := sp_append (l.take i) (l.drop i)
    rw [List.take_append_drop] at h1
    rw [h1]
    have := (List.getElem?_eq_some_iff.1 hv).1
    simpa [List.getElem?_append_left this] using hv)
  have hmz : ¬ (m * i0.size = 0) := by rw [hi1]; omega
  have hroom' : ¬ (n + 1 ≤ n) := by omega
  have h48'' : ¬ (281474976710656 < Builtin.nextslicecap (n + 1) n * i0.bytes) := by omega
  simp [Builtin.append_, run_underlying Try.underlying23, run_underlying Try.underlying3, sizeOf, typeInfo, zeroValue, hi', hi0, asInt, asIntOf, hw, hneg, hbig, hroom, h63', h48', Question.forced, hfo, newRow, grownCap, hmz, him, Value.cells, hroom', h48'']
  try (congr 2; apply Array.ext'; simp [List.append_assoc])

theorem zeros_grow_sp {ops : Array Oper} {rest : List Oper} {o : Oper} {a : Act} {Q : Exit → Act → World → Prop} {w : World} (hgd : o.guard = none) (s x : Operand)
    (ho : o.op = .call { callee := .builtin .append, args := #[s, x], argTypes := #[23, 3] }) (g i n : Nat) (l : List Sp) (hn : l.length = n) (hl : n ≤ 1000000) (hi : i ≤ n) (hs : a.eval s = .slice (some ⟨g, 0, none⟩) i n) (hg : w.heap[g]? = some (.cells (sp l).toArray 44 (0, 0)))
    (m : Int) (hm : m = ((n + 1 - i : Nat) : Int)) (hx : a.eval x = .int .i64 m)
    (h : ∀ c w', n + 1 ≤ c → c ≤ maxLen → Row44 w' w.heap.size c (l.take i) → Below w.heap.size w w' → wpList Try.prog ops Q rest (a.put o.dst (.slice (some ⟨w.heap.size, 0, none⟩) (n + 1) c)) w') : wpList Try.prog ops Q (o :: rest) a w := by
  subst hm
  refine wpList_plain hgd fun K hK => ?_
  have hrun := run_zeros_grow w o.type g i n l hn hl hi hg
  have hge := grownCap_ge w (n + 1) n 44
  have hcm := grownCap_le_maxLen w (n + 1) n 44 (by simp only [maxLen]; omega)
  unfold Oper.wp
  simp only [execOp, ho, resolve, invoke, builtin, Sem.run_bind, Sem.run_pure, Result.andThen_ok, List.map_toArray, List.map_cons, List.map_nil, hs, hx, hrun]
  refine hK _ _ (h _ _ hge hcm ⟨_, heap_alloc_new w.drew _, ?_, ?_⟩ ?_)
  · simp only [Array.size_append, List.size_toArray, size_zeroCells, sp_length, List.length_take]
    show min i l.length * 2 + (n + 1 - i) * 2 + (grownCap w (n + 1) n 44 - (n + 1)) * 2 = _
    omega
  · simp only [Array.toList_append, List.append_assoc]
    exact List.take_left' (by rw [sp_length])
  · exact (Below.drew (Below.refl _ w)).alloc (Nat.le_refl _) _

/-- 'copy' into a row, anywhere. -/
theorem copy_at {ops : Array Oper} {rest : List Oper} {o : Oper} {a : Act} {Q : Exit → Act → World → Prop} {w : World} (hgd : o.guard = none) (d s : Operand)
    (ho : o.op = .call { callee := .builtin .copy, args := #[d, s], argTypes := #[23, 23] }) (g off dLen dCap : Nat) (ad : Addr) (sLen sCap : Nat) (cs : List Value)
    (hd : a.eval d = .slice (some ⟨g, off, none⟩) dLen dCap) (hs : a.eval s = .slice (some ad) sLen sCap) (cur : Array Value) (hg : w.heap[g]? = some (.cells cur 44 (0, 0))) (hn : cs.length = Nat.min sLen dLen * 2)
    (hc : ∀ j u, cs[j]? = some u → w.cell? (ad.add j) = some u) (h1 : ∀ u ∈ cs, u.oneCell' = true) (hfit : off + cs.length ≤ cur.size)
    (h : ∀ w', w'.heap[g]? = some (.cells (cur.toList.take off ++ cs ++ cur.toList.drop (off + cs.length)).toArray 44 (0, 0)) → (∀ B a, Below B a w → B ≤ g → Below B a w') → (∀ k, k ≠ g → w'.heap[k]? = w.heap[k]?) → ∀ r, wpList Try.prog ops Q rest (a.put o.dst r) w') :
    wpList Try.prog ops Q (o :: rest) a w := by
  have hsz : (Try.prog.info? 44).map (·.size) = some 2 := by kernel_rfl
  refine wpList_plain hgd fun K hK => ?_
  have hrun := run_copy_rowk (P := Try.prog) w 23 23 o.type 44 2 g off dLen dCap ad sLen sCap cur 44 cs Try.underlying23 hsz hg hn hc hfit h1
  unfold Oper.wp
  simp [execOp, ho, resolve, invoke, builtin, hd, hs, hrun, Result.andThen]
  refine hK _ _ (h _ ?_ (fun B a hb hle => below_setRow hb hle _) (fun k hk => setRow_other w g k _ hk) _)
  rw [setRow_heap w g _ _ 44 _ hg]
  simp

def InsPost (n : Nat) (l : List Sp) (i : Nat) (q : Sp) (w : World) (e : Ending) (w' : World) : Prop :=
  ∃ g c, e = .returned (.slice (some ⟨g, 0, none⟩) (n + 1) c) ∧ w.heap.size ≤ g ∧ n + 1 ≤ c ∧ c ≤ maxLen ∧ Row44 w' g c (l.take i ++ q :: l.drop i) ∧ Below w.heap.size w w'

set_option maxHeartbeats 1000000 in
set_option maxRecDepth 100000 in
theorem insert_end (g n : Nat) (ad : Addr) (q : Sp) (l : List Sp) (w : World) (hn : l.length = n) (hl : n ≤ 1000000) (hg : w.heap[g]? = some (.cells (sp l).toArray 44 (0, 0))) (hc : ∀ j u, (sp [q])[j]? = some u → w.cell? (ad.add j) = some u) :
    Calls Try.prog 32 #[.slice (some ⟨g, 0, none⟩) n n, .int .i64 (n : Int), .slice (some ad) 1 1] w (InsPost n l n q w) := by
  have HG := Lib.hid (And.intro hg hc)
  have HN := Lib.hid hn
  clear hg hc hn
  go_enter Try.func32, Try.ntmps32
  go_wp2_with (at_builtin; refine append_grow_sp rfl _ _ rfl g n l HN.out hl rfl HG.out.1 ad q rfl HG.out.2 ?_)
  intro c w' h1 h2 h3 h4
  have H := Lib.hid (And.intro h1 (And.intro h2 (And.intro h3 h4)))
  clear h1 h2 h3 h4
  go_wp2
  go_ret
  refine ⟨_, c, rfl, Nat.le_refl _, H.out.1, H.out.2.1, ?_, H.out.2.2.2⟩
  have := H.out.2.2.1
  have hn := HN.out
  rwa [List.take_of_length_le (by omega), List.drop_of_length_le (by omega)]
set_option maxHeartbeats 1000000 in
set_option maxRecDepth 100000 in
theorem insert_mid (g i n : Nat) (ad : Addr) (q : Sp) (l : List Sp) (w : World) (hn : l.length = n) (hi : i < n) (hl : n ≤ 1000000) (hg : w.heap[g]? = some (.cells (sp l).toArray 44 (0, 0))) (hc : ∀ j u, (sp [q])[j]? = some u → w.cell? (ad.add j) = some u) :
    Calls Try.prog 32 #[.slice (some ⟨g, 0, none⟩) n n, .int .i64 (i : Int), .slice (some ad) 1 1] w (InsPost n l i q w) := by
  have HG := Lib.hid (And.intro hg hc)
  have HN := Lib.hid hn
  have h1 : (i : Int) ≤ (n : Int) := by omega
  have h2 : ((i : Int) == (n : Int)) = false := by simp; omega
  have h3 : (i : Int) < (n : Int) := by omega
  have h4 : i ≤ n := by omega
  clear hg hc hn
  go_enter Try.func32, Try.ntmps32
  go_wp2_with (at_builtin; refine zeros_grow_sp rfl _ _ rfl g i n l HN.out hl h4 rfl HG.out.1 _ (by omega) rfl ?_)
  intro c w1 g1 g2 g3 g4
  obtain ⟨cur, hcur, hcs, hct⟩ := g3
  have hsrc : ∀ j u, (sp [q])[j]? = some u → w1.cell? (ad.add j) = some u := fun j u hj => (g4.cell (p := ad.add j) (cell_lt (HG.out.2 j u hj))).trans (HG.out.2 j u hj)
  have hgl : g < w.heap.size := (Array.getElem?_eq_some_iff.1 HG.out.1).1
  have hg1 : w1.heap[g]? = some (.cells (sp l).toArray 44 (0, 0)) := (g4.block g hgl).trans HG.out.1
  have H := Lib.hid (And.intro hcur (And.intro hcs (And.intro hct (And.intro hsrc (And.intro hg1 (And.intro hgl g4))))))
  clear hcur hcs hct hsrc hg1 hgl g4
  have h5 : (i : Int) ≤ (n : Int) + 1 := by omega
  have h6 : ¬ c = i := by omega
  have h7 : i ≤ n + 1 := by omega
  have h8 : n + 1 ≤ c := g1
  clear g1
  go_wp2_with ((with_reducible show wpList _ _ _ _ _ _); refine copy_at (o := ⟨some 45, _, _, _, _, _⟩) rfl _ _ rfl w.heap.size (i * 2) (n + 1 - i) (c - i) ad 1 1 (sp [q]) rfl rfl cur H.out.1 (by rw [show Nat.min 1 (n + 1 - i) = 1 from Nat.min_eq_left (by omega)]; rfl) H.out.2.2.2.1 (one_sp _) (by rw [H.out.2.1, sp_length]; simp; omega) ?_)
  intro w2 k1 k2 k3 r
  obtain ⟨cur2, hcur2⟩ : ∃ cur2, (cur.toList.take (i * 2) ++ (sp [q] ++ cur.toList.drop (i * 2 + (sp [q]).length))).toArray = cur2 := ⟨_, rfl⟩
  rw [hcur2] at k1
  have hs2 : cur2.size = c * 2 := by
    rw [← hcur2]
    have := H.out.2.1
    simp [sp_length]
    omega
  have ht2 : cur2.toList.take ((i + 1) * 2) = sp (l.take i ++ [q]) := by
    have := H.out.2.2.1
    rw [List.length_take, HN.out, Nat.min_eq_left (by omega)] at this
    rw [← hcur2, this, sp_append, ← List.append_assoc]
    exact List.take_left' (by rw [List.length_append, sp_length, sp_length, List.length_take, HN.out]; simp; omega)
  have hg2 := (k3 g (by have := H.out.2.2.2.2.2.1; omega)).trans H.out.2.2.2.2.1
  have hb2 := k2 w.heap.size w H.out.2.2.2.2.2.2 (Nat.le_refl _)
  have H2 := Lib.hid (And.intro k1 (And.intro hs2 (And.intro ht2 (And.intro hg2 hb2))))
  clear k1 k2 k3 hs2 ht2 hg2 hb2 hcur2 H
  have h9 : (i : Int) + 1 ≤ (n : Int) + 1 := by omega
  have h10 : ¬ c = i + 1 := by omega
  have h11 : ¬ n = i := by omega
  have h12 : i + 1 ≤ n + 1 := by omega
  have h13 : IntKind.i64.wrap ((i : Int) + 1) = (i : Int) + 1 := IntWalk.i64_in _ (by omega)
  have h14 : (0 : Int) ≤ (i : Int) + 1 := by omega
  have h15 : ((i : Int) + 1).toNat = i + 1 := by omega
  go_wp2_with fail
  go_still_tail 8, (by kernel_rfl)
  change wpList _ _ _ _ _ w2.drew
  clear h13 h14 h15
  refine copy_at rfl _ _ rfl w.heap.size ((i + 1) * 2) (n - i) (c - (i + 1)) ⟨g, i * 2, none⟩ (n - i) (n - i) (sp (l.drop i)) (by simp [go_sem]) rfl cur2 (blk_drew H2.out.1) (by rw [show (n - i).min (n - i) = n - i from Nat.min_self _, sp_length, List.length_drop, HN.out]) ?_ (one_sp _) (by rw [H2.out.2.1, sp_length, List.length_drop, HN.out]; omega) ?_
  · intro j u hj
    rw [add_off, blk_cell (blk_drew H2.out.2.2.2.1)]
    rw [sp_drop, List.getElem?_drop] at hj
    simpa using hj
  intro w3 k1 k2 k3 r2
  have H3 := Lib.hid (And.intro k1 (k2 w.heap.size w (Below.drew H2.out.2.2.2.2) (Nat.le_refl _)))
  clear k1 k2 k3
  go_wp2
  go_ret
  refine ⟨_, c, rfl, Nat.le_refl _, h8, g2, ⟨_, H3.out.1, ?_, ?_⟩, H3.out.2⟩
  · have := H2.out.2.1
    have := HN.out
    simp [sp_length]
    omega
  · have h1 := H2.out.2.2.1
    have h2 := HN.out
    have h3 : (l.take i ++ q :: l.drop i).length * 2 = (sp (l.take i ++ [q]) ++ sp (l.drop i)).length := by
      simp only [List.length_append, sp_length, List.length_cons, List.length_nil]; omega
    have h4 : sp (l.take i ++ q :: l.drop i) = sp (l.take i ++ [q]) ++ sp (l.drop i) := by rw [← sp_append]; simp
    rw [h4, h3]
    show List.take _ (List.take ((i + 1) * 2) cur2.toList ++ _ ++ _) = _
    rw [h1]
    exact List.take_left
end Go.Proofs.Ytnbmpcdomdaimaa
