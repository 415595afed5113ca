/- What the law's cut answers: the first forty-one hundred spares, in a list of its own. -/
import Derived.Test.YtnbmpcdomdaimaaGv
import Derived.Deep.RegionHeld3
import Derived.Laws.Small
import Derived.Deep.RegionLaw
namespace Go.Proofs.Ytnbmpcdomdaimaa
open Go.RowKit
set_option linter.unusedVariables false
set_option linter.unusedSimpArgs false

theorem step_append_made {ops : Array Oper} {o : Oper} {a : Act} {w : World} {K : Act → World → Prop} {Q : Exit → Act → World → Prop} {E : Prop}
    (hg : o.guard = none) (s x : Operand) (hop : o.op = Op.call { callee := Callee.builtin Builtin.append, args := #[s, x], argTypes := #[23, 23] })
    (g m cap c : Nat) (hs : a.eval s = .slice (some ⟨g, 0, none⟩) 0 cap) (ad : Addr) (news : List Value) (hx : a.eval x = .slice (some ad) m c) (hn : news.length = m * 2) (hc : ∀ j u, news[j]? = some u → w.cell? (ad.add j) = some u) (h1 : ∀ u ∈ news, u.oneCell' = true)
    (hroom : m ≤ cap) (Z : Array Value) (hb : w.heap[g]? = some (.cells Z 44 (0, 0))) (hz : Z.size = cap * 2)
    (hK : ∀ w', (∃ cur : Array Value, w'.heap[g]? = some (.cells cur 44 (0, 0)) ∧ cur.size = cap * 2 ∧ cur.toList.take (m * 2) = news) → (∀ B a, Below B a w → B ≤ g → Below B a w') → (∀ k, k ≠ g → w'.heap[k]? = w.heap[k]?) → (∀ k i, k ≠ g → w'.cell? ⟨k, i, none⟩ = w.cell? ⟨k, i, none⟩ ∧ w'.frozen? ⟨k, i, none⟩ = w.frozen? ⟨k, i, none⟩) → K (a.put o.dst (.slice (some ⟨g, 0, none⟩) m cap)) w') :
    if Region.wanted o (yielded ops a.tmps) = true then Oper.wp Try.prog o a w K Q else E := by
  obtain ⟨i0, hi, hi0, hi1, hi2⟩ := info_parts infoSpare
  refine step_append_room hg s x 23 hop 44 i0 2 Try.underlying23 hi hi1 g 0 0 cap hs ad m c news hx hn hc h1 (by omega) (fun j hj => ?_) ?_
  · rw [blk_cell hb, blk_frozen hb, Array.getElem?_eq_getElem (by omega)]
    exact ⟨rfl, rfl⟩
  · rw [Nat.zero_add]
    have ho : ∀ k, k ≠ g → (w.setCells g (0 + 0 * 2) news).heap[k]? = w.heap[k]? := fun k hk => setCells_other news _ _ _ hk
    refine hK _ ⟨_, setCells_mid news 0 w [] (Z.toList.take (m * 2)) (Z.toList.drop (m * 2)) rfl (by simp; omega) (by simpa using hb), ?_, ?_⟩ (fun B a hB hle => below_setCells hle _ _ _ hB) ho (fun k i hk => by simp only [World.cell?, World.frozen?, ho k hk]; exact ⟨trivial, trivial⟩)
    · simp; omega
    · simp only [List.nil_append]
      exact List.take_left' hn

set_option maxHeartbeats 1000000 in
set_option maxRecDepth 100000 in
theorem cut_some (hi ca : Int) (ad : Addr) (n c m : Nat) (news : List Value) (w : World) (hn : n ≤ 9223372036854775807) (hnc : n ≤ c) (hm : m = min n 4100) (hl : news.length = m * 2) (hr : ∀ j u, news[j]? = some u → w.cell? (ad.add j) = some u) (h1 : ∀ u ∈ news, u.oneCell' = true) :
    Calls Try.prog 12 #[.agg #[.int .u32 hi, .int .u32 ca, .slice (some ad) n c]] w fun e w' => ∃ g, e = .returned (.agg #[.int .u32 hi, .int .u32 ca, .slice (some ⟨g, 0, none⟩) m 4100]) ∧ w.heap.size ≤ g ∧ (∃ cur : Array Value, w'.heap[g]? = some (.cells cur 44 (0, 0)) ∧ cur.size = 4100 * 2 ∧ cur.toList.take (m * 2) = news) ∧ Below w.heap.size w w' := by
  obtain ⟨Z, hZ⟩ : ∃ Z, mkz 4100 = Z := ⟨_, rfl⟩
  have hmk : ∀ W : World, (Instr.makeSlice 23 (.int .i64 0) (.int .i64 4100)).run Try.prog W = .ok (.slice (some ⟨W.heap.size, 0, none⟩) 0 4100) (W.alloc (.cells Z 44)) := by rw [← hZ]; exact make_sp 0 4100 (by omega) (by omega)
  have HZ := Lib.hid hZ
  clear hZ
  obtain ⟨W0, hW0⟩ : ∃ W0, (w.alloc (.cells #[.int .u32 hi, .int .u32 ca, .slice (some ad) n c] 25)).alloc (.cells #[.int .u32 0, .int .u32 0, .slice none 0 0] 25) = W0 := ⟨_, rfl⟩
  have T0 : GvW w W0 (.int .u32 hi) (.int .u32 ca) (.slice (some ad) n c) (.int .u32 0) (.int .u32 0) (.slice none 0 0) := by rw [← hW0]; exact gvW_new w _ _ _
  obtain ⟨c0, c1, c2⟩ := cells3 T0.b0
  have HT0 := Lib.hid T0
  have HR := Lib.hid (And.intro hl (And.intro hr h1))
  clear T0 hl hr h1
  have hmin : (if (4100 : Int) < (n : Int) then (4100 : Int) else (n : Int)) = (m : Int) := by split <;> omega
  have hmc : (m : Int) ≤ (c : Int) := by omega
  have hmc2 : m ≤ c := by omega
  have hm4 : m ≤ 4100 := by omega
  have HM := Lib.hid hm
  clear hm
  go_enter Try.func12, Try.ntmps12
  go_wp2_with fail
  have f0 : W0.frozen? ⟨w.heap.size, 2, none⟩ = false := blk_frozen HT0.out.b0 2
  have hne : w.heap.size ≠ W0.heap.size := by have := HT0.out.size; omega
  have hsrc : ∀ j u, news[j]? = some u → ((W0.alloc (.cells Z 44)).drew).cell? (ad.add j) = some u := by
    intro j u hj
    have h := HR.out.2.1 j u hj
    exact (((Below.refl _ W0).alloc (Nat.le_refl _) (.cells Z 44)).cell (p := ad.add j) (Nat.lt_of_lt_of_le (cell_lt h) HT0.out.bel.size)).trans ((HT0.out.bel.cell (p := ad.add j) (cell_lt h)).trans h)
  have HS := Lib.hid hsrc
  have HNE := Lib.hid hne
  have HZs : Hid (Z.size = 4100 * 2) := Lib.hid (by rw [← HZ.out]; exact mkz_size 4100)
  have HCF : Hid ((W0.alloc (.cells Z 44)).drew.cell? ⟨w.heap.size, 2, none⟩ = some (.slice (some ad) n c) ∧ (W0.alloc (.cells Z 44)).drew.frozen? ⟨w.heap.size, 2, none⟩ = false) := Lib.hid ⟨blk_cell (blk_drew (keep_a _ HT0.out.b0)) 2, blk_frozen (blk_drew (keep_a _ HT0.out.b0)) 2⟩
  clear hsrc hne
  have c2' : (W0.alloc (.cells Z 44)).cell? ⟨w.heap.size, 2, none⟩ = some (.slice (some ad) n c) := HCF.out.1
  go_region_law
    ((refine step_append_made (by rfl) _ _ (by rfl) W0.heap.size m 4100 c (by rfl) ad news (by rfl) HR.out.1 HS.out HR.out.2.2 (by omega) Z (blk_drew (heap_alloc_new W0 _)) HZs.out ?_; intro w1 hq1 hbel1 hoth1 hoc1; have hfz := (hoc1 w.heap.size 2 HNE.out).2.trans HCF.out.2; have hcz := (hoc1 w.heap.size 2 HNE.out).1.trans HCF.out.1; have hq := Lib.hid (And.intro hq1 (And.intro hbel1 hoth1)); clear hq1 hbel1 hoth1 hoc1))
  all_goals (
    have hsz := HT0.out.size
    have HT1 : GvW w w1 (.int .u32 hi) (.int .u32 ca) (.slice (some ad) n c) (.int .u32 0) (.int .u32 0) (.slice none 0 0) :=
      ⟨(hq.out.2.2 _ (by omega)).trans (blk_drew (keep_a _ HT0.out.b0)), (hq.out.2.2 _ (by omega)).trans (blk_drew (keep_a _ HT0.out.b1)), hq.out.2.1 _ _ (Below.drew (HT0.out.bel.alloc HT0.out.bel.size _)) HT0.out.bel.size⟩
    have HT2 := Lib.hid (HT1.put 2 (.slice (some ⟨W0.heap.size, 0, none⟩) m 4100) _ _ _ rfl)
    have HQ : Hid (∃ cur : Array Value, (w1.setCell ⟨w.heap.size, 2, none⟩ (.slice (some ⟨W0.heap.size, 0, none⟩) m 4100)).heap[W0.heap.size]? = some (.cells cur 44 (0, 0)) ∧ cur.size = 4100 * 2 ∧ cur.toList.take (m * 2) = news) := Lib.hid (by
      obtain ⟨cur, h1, h2⟩ := hq.out.1
      exact ⟨cur, far_set h1 (Ne.symm HNE.out) _, h2⟩)
    have HSZ := Lib.hid hsz
    obtain ⟨W2, hW2⟩ : ∃ W2, w1.setCell ⟨w.heap.size, 2, none⟩ (.slice (some ⟨W0.heap.size, 0, none⟩) m 4100) = W2 := ⟨_, rfl⟩
    rw [hW2] at HT2 HQ ⊢
    clear hW2 HT1 hsz hfz hcz c2' c0 c1 c2 f0 hW0 hmk hmin hmc hmc2
    obtain ⟨c0, c1, c2⟩ := cells3 HT2.out.b0
    obtain ⟨d0, d1, d2⟩ := cells3 HT2.out.b1
    have f1 : ∀ i, W2.frozen? ⟨w.heap.size + 1, i, none⟩ = false := blk_frozen HT2.out.b1
    go_wp2
    have HX := ((HT2.out.res 0 (.int .u32 hi) _ _ _ rfl).res 1 (.int .u32 ca) _ _ _ rfl).res 2 (.slice (some ⟨W0.heap.size, 0, none⟩) m 4100) _ _ _ rfl
    refine bodyPost_ret (res_cell rfl rfl HX.b1 Try.underlying25 rfl (by kernel_rfl)) rfl ⟨W0.heap.size, rfl, HT0.out.bel.size, ?_, HX.bel⟩
    obtain ⟨cur, h1, h2⟩ := HQ.out
    have hne : W0.heap.size ≠ w.heap.size + 1 := by have := HSZ.out; omega
    exact ⟨cur, far_set (i := 2) (far_set (i := 1) (far_set (i := 0) h1 hne _) hne _) hne _, h2⟩)

theorem step_append_none {ops : Array Oper} {o : Oper} {a : Act} {w : World} {K : Act → World → Prop} {Q : Exit → Act → World → Prop} {E : Prop}
    (hg : o.guard = none) (s x : Operand) (hop : o.op = Op.call { callee := Callee.builtin Builtin.append, args := #[s, x], argTypes := #[23, 23] })
    (g m n cap c : Nat) (hs : a.eval s = .slice (some ⟨g, 0, none⟩) 0 cap) (hx : a.eval x = .slice none m c) (hm : m = 0) (Z : Array Value) (hb : w.heap[g]? = some (.cells Z 44 (0, 0))) (hz : Z.size = cap * 2)
    (hK : ∀ w', (∃ cur : Array Value, w'.heap[g]? = some (.cells cur 44 (0, 0)) ∧ cur.size = cap * 2 ∧ cur.toList.take (m * 2) = []) → (∀ B a, Below B a w → B ≤ g → Below B a w') → (∀ k, k ≠ g → w'.heap[k]? = w.heap[k]?) → (∀ k i, k ≠ g → w'.cell? ⟨k, i, none⟩ = w.cell? ⟨k, i, none⟩ ∧ w'.frozen? ⟨k, i, none⟩ = w.frozen? ⟨k, i, none⟩) → K (a.put o.dst (.slice (some ⟨g, 0, none⟩) m cap)) w') :
    if Region.wanted o (yielded ops a.tmps) = true then Oper.wp Try.prog o a w K Q else E := by
  subst hm
  have hw : Region.wanted o (yielded ops a.tmps) = true := by simp [Region.wanted, hg]
  rw [if_pos hw]
  obtain ⟨i0, hi, hi0, hi1, hi2⟩ := info_parts infoSpare
  have hrun : (Builtin.append_ #[23, 23] o.type #[.slice (some ⟨g, 0, none⟩) 0 cap, .slice none 0 c]).run Try.prog w = .ok (.slice (some ⟨g, 0, none⟩) 0 cap) w := by
    simp [Builtin.append_, run_underlying Try.underlying23, sizeOf, typeInfo, hi, Builtin.lenOf, Builtin.firstCells, storeCells]
  unfold Oper.wp
  simp [execOp, hop, resolve, invoke, builtin, hs, hx, hrun, Result.andThen]
  exact hK w ⟨Z, hb, hz, by simp⟩ (fun _ _ h _ => h) (fun _ _ => rfl) (fun _ _ _ => ⟨rfl, rfl⟩)

set_option maxHeartbeats 1000000 in
set_option maxRecDepth 100000 in
theorem cut_none (hi ca : Int) (n c m : Nat) (w : World) (hn : n ≤ 9223372036854775807) (hnc : n ≤ c) (hm : m = min n 4100) (hn0 : n = 0) :
    Calls Try.prog 12 #[.agg #[.int .u32 hi, .int .u32 ca, .slice none n c]] w fun e w' => ∃ g, e = .returned (.agg #[.int .u32 hi, .int .u32 ca, .slice (some ⟨g, 0, none⟩) m 4100]) ∧ w.heap.size ≤ g ∧ (∃ cur : Array Value, w'.heap[g]? = some (.cells cur 44 (0, 0)) ∧ cur.size = 4100 * 2 ∧ cur.toList.take (m * 2) = []) ∧ Below w.heap.size w w' := by
  obtain ⟨Z, hZ⟩ : ∃ Z, mkz 4100 = Z := ⟨_, rfl⟩
  have hmk : ∀ W : World, (Instr.makeSlice 23 (.int .i64 0) (.int .i64 4100)).run Try.prog W = .ok (.slice (some ⟨W.heap.size, 0, none⟩) 0 4100) (W.alloc (.cells Z 44)) := by rw [← hZ]; exact make_sp 0 4100 (by omega) (by omega)
  have HZ := Lib.hid hZ
  clear hZ
  obtain ⟨W0, hW0⟩ : ∃ W0, (w.alloc (.cells #[.int .u32 hi, .int .u32 ca, .slice none n c] 25)).alloc (.cells #[.int .u32 0, .int .u32 0, .slice none 0 0] 25) = W0 := ⟨_, rfl⟩
  have T0 : GvW w W0 (.int .u32 hi) (.int .u32 ca) (.slice none n c) (.int .u32 0) (.int .u32 0) (.slice none 0 0) := by rw [← hW0]; exact gvW_new w _ _ _
  obtain ⟨c0, c1, c2⟩ := cells3 T0.b0
  have HT0 := Lib.hid T0
  clear T0
  have hm0 : m = 0 := by omega
  have HM0 := Lib.hid (And.intro hm0 hn0)
  have hmin : (if (4100 : Int) < (n : Int) then (4100 : Int) else (n : Int)) = (m : Int) := by split <;> omega
  have hmc : (m : Int) ≤ (c : Int) := by omega
  have hmc2 : m ≤ c := by omega
  have hm4 : m ≤ 4100 := by omega
  clear hm hm0 hn0
  go_enter Try.func12, Try.ntmps12
  go_wp2_with fail
  have f0 : W0.frozen? ⟨w.heap.size, 2, none⟩ = false := blk_frozen HT0.out.b0 2
  have hne : w.heap.size ≠ W0.heap.size := by have := HT0.out.size; omega
  have HNE := Lib.hid hne
  have HZs : Hid (Z.size = 4100 * 2) := Lib.hid (by rw [← HZ.out]; exact mkz_size 4100)
  have HCF : Hid ((W0.alloc (.cells Z 44)).drew.cell? ⟨w.heap.size, 2, none⟩ = some (.slice none n c) ∧ (W0.alloc (.cells Z 44)).drew.frozen? ⟨w.heap.size, 2, none⟩ = false) := Lib.hid ⟨blk_cell (blk_drew (keep_a _ HT0.out.b0)) 2, blk_frozen (blk_drew (keep_a _ HT0.out.b0)) 2⟩
  clear hne
  have c2' : (W0.alloc (.cells Z 44)).cell? ⟨w.heap.size, 2, none⟩ = some (.slice none n c) := HCF.out.1
  go_region_law
    ((refine step_append_none (by rfl) _ _ (by rfl) W0.heap.size m n 4100 c (by rfl) (by rfl) HM0.out.1 Z (blk_drew (heap_alloc_new W0 _)) HZs.out ?_; intro w1 hq1 hbel1 hoth1 hoc1; have hfz := (hoc1 w.heap.size 2 HNE.out).2.trans HCF.out.2; have hcz := (hoc1 w.heap.size 2 HNE.out).1.trans HCF.out.1; have hq := Lib.hid (And.intro hq1 (And.intro hbel1 hoth1)); clear hq1 hbel1 hoth1 hoc1))
  all_goals (
    have hsz := HT0.out.size
    have HT1 : GvW w w1 (.int .u32 hi) (.int .u32 ca) (.slice none n c) (.int .u32 0) (.int .u32 0) (.slice none 0 0) :=
      ⟨(hq.out.2.2 _ (by omega)).trans (blk_drew (keep_a _ HT0.out.b0)), (hq.out.2.2 _ (by omega)).trans (blk_drew (keep_a _ HT0.out.b1)), hq.out.2.1 _ _ (Below.drew (HT0.out.bel.alloc HT0.out.bel.size _)) HT0.out.bel.size⟩
    have HT2 := Lib.hid (HT1.put 2 (.slice (some ⟨W0.heap.size, 0, none⟩) m 4100) _ _ _ rfl)
    have HQ : Hid (∃ cur : Array Value, (w1.setCell ⟨w.heap.size, 2, none⟩ (.slice (some ⟨W0.heap.size, 0, none⟩) m 4100)).heap[W0.heap.size]? = some (.cells cur 44 (0, 0)) ∧ cur.size = 4100 * 2 ∧ cur.toList.take (m * 2) = []) := Lib.hid (by
      obtain ⟨cur, h1, h2⟩ := hq.out.1
      exact ⟨cur, far_set h1 (Ne.symm HNE.out) _, h2⟩)
    have HSZ := Lib.hid hsz
    obtain ⟨W2, hW2⟩ : ∃ W2, w1.setCell ⟨w.heap.size, 2, none⟩ (.slice (some ⟨W0.heap.size, 0, none⟩) m 4100) = W2 := ⟨_, rfl⟩
    rw [hW2] at HT2 HQ ⊢
    clear hW2 HT1 hsz hfz hcz c2' c0 c1 c2 f0 hW0 hmk hmin hmc hmc2
    obtain ⟨c0, c1, c2⟩ := cells3 HT2.out.b0
    obtain ⟨d0, d1, d2⟩ := cells3 HT2.out.b1
    have f1 : ∀ i, W2.frozen? ⟨w.heap.size + 1, i, none⟩ = false := blk_frozen HT2.out.b1
    go_wp2
    have HX := ((HT2.out.res 0 (.int .u32 hi) _ _ _ rfl).res 1 (.int .u32 ca) _ _ _ rfl).res 2 (.slice (some ⟨W0.heap.size, 0, none⟩) m 4100) _ _ _ rfl
    refine bodyPost_ret (res_cell rfl rfl HX.b1 Try.underlying25 rfl (by kernel_rfl)) rfl ⟨W0.heap.size, rfl, HT0.out.bel.size, ?_, HX.bel⟩
    obtain ⟨cur, h1, h2⟩ := HQ.out
    have hne : W0.heap.size ≠ w.heap.size + 1 := by have := HSZ.out; omega
    exact ⟨cur, far_set (i := 2) (far_set (i := 1) (far_set (i := 0) h1 hne _) hne _) hne _, h2⟩)
end Go.Proofs.Ytnbmpcdomdaimaa
