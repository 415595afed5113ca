/- The iterator of alloc.pairs: it hands over each spare with the one ahead of it. -/
import Derived.Test.YtnbmpcdomdaimaaIx
import Derived.WalkSpells
import Derived.WalkLawsBesides
namespace Go.Proofs.Ytnbmpcdomdaimaa
open Go.RowKit
set_option linter.unusedVariables false
set_option linter.unusedSimpArgs false
attribute [local go_sem] Oper.semAt_some

def prs (old : Sp) : List Sp → List (Sp × Sp)
  | [] => []
  | s :: l => (old, s) :: prs s l

def spv (s : Sp) : Value := .agg #[.int .u32 (s.1 : Int), .int .u64 (s.2 : Int)]
def encP (x : Sp × Sp) : Array Value := #[spv x.1, spv x.2]

/-- What the iterator reads. -/
def PRd (Bl : Nat) (v : Value) (l : List Sp) (k : Nat) : Prop := k = Bl ∨ (l ≠ [] ∧ v.ownBlock = some k)

theorem SpRow.same {S : Nat → Prop} {A B : World} {v : Value} {l : List Sp} (h : SpRow A v l) (hS : l ≠ [] → ∀ k, v.ownBlock = some k → k < A.heap.size → B.heap[k]? = A.heap[k]?) : SpRow B v l := by
  obtain ⟨base, cap, rfl, h⟩ := h
  refine ⟨base, cap, rfl, ?_⟩
  by_cases hne : l = []
  · exact .inl hne
  obtain ⟨a, rfl, hc⟩ := h.resolve_left hne
  right
  replace hS := hS hne
  refine ⟨a, rfl, fun i hi => ?_⟩
  have hb : ∀ j, (a.add j).block = a.block := fun j => by unfold Addr.add; split <;> rfl
  obtain ⟨h1, h2⟩ := hc i hi
  have hk := hS a.block rfl (by have := cell_lt h1; rwa [hb] at this)
  constructor
  · rw [← h1]; simp only [World.cell?, hb, hk]
  · rw [← h2]; simp only [World.cell?, hb, hk]

set_option maxHeartbeats 1000000 in
set_option maxRecDepth 100000 in
theorem pairs_iter (n Bl : Nat) (v : Value) (l : List Sp) (w : World) (hl : l.length ≤ 1000000) (hr : w.heap[Bl]? = some (.cells #[v] 23 (0, 0))) (hv : SpRow w v l) (h1 : 1 ≤ n) :
    Iter n Try.prog 40 #[.pointer (some ⟨Bl, 0, none⟩)] encP (prs (0, 0) l) (fun _ => False) (PRd Bl v l) 0 w := by
  intro lp J Jx W hW hsame hJ hJx hY h0
  have HY := Lib.hid hY
  have HJ := Lib.hid hJ
  have H0 := Lib.hid h0
  clear hY hJ hJx h0
  have hB := (hsame Bl (Array.getElem?_eq_some_iff.1 hr).1 (.inr (.inl rfl))).trans hr
  have hv1 : SpRow W v l := hv.same (S := fun _ => True) (fun hne k hk hlt => hsame k hlt (.inr (.inr ⟨hne, hk⟩)))
  have HR : Hid (W.heap[Bl]? = some (.cells #[v] 23 (0, 0)) ∧ SpRow W v l) := Lib.hid ⟨hB, hv1⟩
  clear hsame hr hv hB hv1
  have hW1 : Bl < W.heap.size := (Array.getElem?_eq_some_iff.1 HR.out.1).1
  have hc1 : (W.alloc (.cells #[.int .u32 0, .int .u64 0] 44)).cell? ⟨Bl, 0, none⟩ = some v := blk_cell (keep_a _ HR.out.1) 0
  obtain ⟨base, cap, rfl, hrow⟩ := HR.out.2
  refine callsIn_of_wp Try.func40 rfl trivial ?_ rfl
  simp only [Try.ntmps40, List.size_toArray, List.length_cons, List.length_nil, Nat.reduceAdd, Nat.reduceSub, Array.replicate_succ, Array.replicate_zero, List.push_toArray, List.append_toArray, List.nil_append, List.cons_append]
  gi_wp2
  gi_loopw [8] (fun i wr => ∃ (j : Nat) (pre : List (Sp × Sp)) (old : Sp), j ≤ l.length ∧ i = .int .i64 (j : Int) ∧ Hid (prs (0, 0) l = pre ++ prs old (l.drop j)) ∧ Hid (wr.heap[Bl]? = some (.cells #[.slice base l.length cap] 23 (0, 0)) ∧ SpRow wr (.slice base l.length cap) l) ∧
      Hid (wr.heap[W.heap.size]? = some (.cells #[.int .u32 (old.1 : Int), .int .u64 (old.2 : Int)] 44 (0, 0))) ∧ Hid (J pre wr) ∧ W.heap.size + 1 ≤ wr.heap.size) (fun i _ => l.length - (intOf i).toNat)
  case atStart =>
    refine ⟨0, [], (0, 0), Nat.zero_le _, rfl, Lib.hid rfl, Lib.hid ⟨keep_a _ HR.out.1, SpRow.below HR.out.2 ((Below.refl _ W).alloc (Nat.le_refl _) _)⟩, Lib.hid (heap_alloc_new W _), Lib.hid ?_, by simp⟩
    exact HJ.out _ _ _ H0.out (Nat.le_refl _) ((Same.refl _ W).alloc _)
  case round =>
    obtain ⟨j, pre, old, hj, rfl, HP, HB, HO, HJp, hsz⟩ := hrel
    by_cases hlt : j < l.length
    · have hne : l ≠ [] := by rintro rfl; simp at hlt
      obtain ⟨s, hs⟩ : ∃ s, l[j]'hlt = s := ⟨_, rfl⟩
      have hdrop : l.drop j = s :: l.drop (j + 1) := by rw [← hs]; exact List.drop_eq_getElem_cons hlt
      have HX := Lib.hid (HP.out.trans (by rw [hdrop]; rfl : pre ++ prs old (l.drop j) = pre ++ (old, s) :: prs s (l.drop (j + 1))))
      obtain ⟨base2, cap2, he, hrow2⟩ := HB.out.2
      obtain ⟨rfl, rfl⟩ : base = base2 ∧ cap = cap2 := by simpa using he
      obtain ⟨a, rfl, hcs⟩ := hrow2.resolve_left hne
      obtain ⟨h2, h3⟩ := hcs j hlt
      rw [hs] at h2 h3
      have h4 : wr.cell? ⟨(a.add (j * 2)).block, (a.add (j * 2)).off + 1, none⟩ = some (.int .u64 (s.2 : Int)) := by rw [add_one]; exact h3
      have hab : a.block < W.heap.size := by
        obtain ⟨b3, c3, he3, hr3⟩ := HR.out.2
        obtain ⟨a3, ha3, hc3⟩ := hr3.resolve_left hne
        have hb3 : a3 = a := by
          simp only [Value.slice.injEq] at he3
          rw [ha3] at he3
          exact (Option.some.inj he3.1).symm
        have := cell_lt (hc3 j hlt).1
        rw [hb3] at this
        have e : (a.add (j * 2)).block = a.block := by unfold Addr.add; split <;> rfl
        rwa [e] at this
      have hlt' : (j : Int) < (l.length : Int) := by omega
      obtain ⟨W1, hW1'⟩ : ∃ W1, wr.alloc (.cells #[.int .u32 (s.1 : Int), .int .u64 (s.2 : Int)] 44) = W1 := ⟨_, rfl⟩
      obtain ⟨b1, hb1⟩ : ∃ b1, wr.heap.size = b1 := ⟨_, rfl⟩
      have k1 : W1.heap[b1]? = some (.cells #[.int .u32 (s.1 : Int), .int .u64 (s.2 : Int)] 44 (0, 0)) := by rw [← hW1', ← hb1]; exact heap_alloc_new wr _
      have k0 : W1.heap[W.heap.size]? = some (.cells #[.int .u32 (old.1 : Int), .int .u64 (old.2 : Int)] 44 (0, 0)) := by rw [← hW1']; exact keep_a _ HO.out
      have kB : W1.heap[Bl]? = some (.cells #[.slice (some a) l.length cap] 23 (0, 0)) := by rw [← hW1']; exact keep_a _ HB.out.1
      have kv : SpRow W1 (.slice (some a) l.length cap) l := by rw [← hW1']; exact HB.out.2.below ((Below.refl _ wr).alloc (Nat.le_refl _) _)
      have kJ : J pre W1 := by rw [← hW1']; exact HJ.out _ _ _ HJp.out (by omega) ((Same.refl _ wr).alloc _)
      have ksz : W.heap.size + 1 ≤ W1.heap.size := by rw [← hW1']; simp; omega
      have kb : W.heap.size + 1 ≤ b1 ∧ b1 < W1.heap.size := by rw [← hW1', ← hb1]; simp; omega
      obtain ⟨fn, tmps, assign, body, hy, hR⟩ := HY.out pre _ _ W1 HX.out kJ (by omega)
      dsimp only [encP, spv] at hy
      obtain ⟨c0, c1⟩ := cells2 k0
      obtain ⟨d0, d1⟩ := cells2 k1
      have HRR := Lib.hid hR
      have HK := Lib.hid (And.intro k0 (And.intro k1 (And.intro kB (And.intro kv (And.intro ksz kb)))))
      clear hR k0 k1 kB kv kJ ksz kb hcs hrow2 h3 hdrop hs hrow hc1
      gi_wp2
      refine HRR.out.mono ?_
      rintro e W3 (⟨rfl, hJ3, hk3⟩ | ⟨rfl, hJx3⟩)
      · have g0 := hk3.at_ HK.out.1 (.inr (.inr (Nat.le_refl _)))
        have g1 := hk3.at_ HK.out.2.1 (.inr (.inr (by have := HK.out.2.2.2.2.2.1; omega)))
        have gB := hk3.at_ HK.out.2.2.1 (.inr (.inl (.inl rfl)))
        have gv : SpRow W3 (.slice (some a) l.length cap) l := HK.out.2.2.2.1.same (S := fun _ => True) (fun hne k hk hlt => hk3.same k hlt (.inr (.inl (.inr ⟨hne, hk⟩))))
        have gsz := hk3.size
        have ksz := HK.out.2.2.2.2.1
        have e0 := (cells2 g1).1
        have e1 := (cells2 g1).2
        have f0 := (cells2 g0).1
        have f1 := (cells2 g0).2
        have ff : ∀ i, W3.frozen? ⟨W.heap.size, i, none⟩ = false := blk_frozen g0
        have HG := Lib.hid (And.intro g0 (And.intro gB (And.intro gv hJ3)))
        clear g0 g1 gB gv hJ3 hk3 c0 c1 d0 d1
        gi_wp2
        go_roundw
        case rel =>
          refine ⟨j + 1, pre ++ [(old, s)], s, by omega, by go_num, Lib.hid (by rw [HX.out, List.append_assoc]; rfl), Lib.hid ⟨?_, ?_⟩, Lib.hid ?_, Lib.hid ?_, by simp [World.setCell]; omega⟩
          · rw [Below.heap_setCell _ _ _ _ (by simp; omega), Below.heap_setCell _ _ _ _ (by simp; omega)]; exact HG.out.2.1
          · refine HG.out.2.2.1.same (S := fun _ => True) (fun _ k hk _ => ?_)
            obtain rfl : a.block = k := by simpa [Value.ownBlock] using hk
            rw [Below.heap_setCell _ _ _ _ (by simp; omega), Below.heap_setCell _ _ _ _ (by simp; omega)]
          · have := blk_set (blk_set HG.out.1 0 (.int .u32 (s.1 : Int))) 1 (.int .u64 (s.2 : Int))
            simpa using this
          · refine HJ.out _ _ _ HG.out.2.2.2 (by omega) ?_
            exact ((Same.refl _ W3).setCell (p := ⟨W.heap.size, 0, none⟩) (fun _ h => h.2 (Nat.le_refl _)) _).setCell (p := ⟨W.heap.size, 1, none⟩) (fun _ h => h.2 (Nat.le_refl _)) _
        case measure => simp [intOf]; omega
      · have H3 := Lib.hid hJx3
        clear hJx3
        gi_wp2
        refine bodyPost_ret (results_none rfl _ _ _) rfl ?_
        exact ⟨⟨_, rfl⟩, .inr ⟨pre ++ [(old, s)], ⟨prs s (l.drop (j + 1)), by rw [HX.out, List.append_assoc]; rfl⟩, H3.out⟩⟩
    · obtain rfl : j = l.length := by omega
      have hX := HP.out
      rw [List.drop_length, prs, List.append_nil] at hX
      have HX2 := Lib.hid hX
      clear hX hlt
      gi_wp2
      go_end0
      exact ⟨⟨_, rfl⟩, .inl ⟨by omega, by rw [HX2.out]; exact HJp.out⟩⟩
end Go.Proofs.Ytnbmpcdomdaimaa
