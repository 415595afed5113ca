/- copy of spares, and what alloc.copied answers. -/
import Derived.Test.YtnbmpcdomdaimaaIx
import Derived.Laws.CopyOwn
import Derived.Laws.OwnMore
import Derived.Laws.MakeOwn
namespace Go.Proofs.Ytnbmpcdomdaimaa
open Go.RowKit
set_option linter.unusedVariables false
set_option linter.unusedSimpArgs false

theorem infoSpare : (Try.prog.info? 44).map (fun i => (i.zero, i.size, i.bytes)) = some (some (.agg #[.int .u32 0, .int .u64 0]), 2, 16) := by kernel_rfl
theorem one_sp (l : List Sp) : ∀ u ∈ sp l, u.oneCell' = true := by
  intro u hu
  obtain ⟨s, _, hs⟩ := List.mem_flatMap.1 hu
  rcases List.mem_cons.1 hs with rfl | hs
  · rfl
  · rw [List.mem_singleton.1 hs]; rfl

/-- 'copy' of elements of k cells each. -/
theorem run_copy_rowk {P : Program} (w : World) (dT sT ty elem : TypeId) (k g o dLen dCap : Nat) (a : Addr) (sLen sCap : Nat) (cur : Array Value) (t : TypeId) (cs : List Value)
    (hu : P.underlying dT = some (.slice elem)) (hs : (P.info? elem).map (·.size) = some k)
    (hg : w.heap[g]? = some (.cells cur t (0, 0))) (hn : cs.length = Nat.min sLen dLen * k)
    (hsrc : ∀ j v, cs[j]? = some v → w.cell? (a.add j) = some v) (hfit : o + cs.length ≤ cur.size) (h1 : ∀ v ∈ cs, v.oneCell' = true) :
    (Builtin.copy_ #[dT, sT] ty #[.slice (some ⟨g, o, none⟩) dLen dCap, .slice (some a) sLen sCap]).run P w =
      .ok (goInt (Nat.min sLen dLen)) (w.setRow g (cur.toList.take o ++ cs ++ cur.toList.drop (o + cs.length)).toArray) := by
  have hl := run_loadCells_list (P := P) w a cs hsrc
  have hst := run_storeCells_at P g o t cs 0 cur w hg (by simpa using hfit) h1
  cases hq : P.info? elem with
  | none => simp [hq] at hs
  | some i =>
    have hi : i.size = k := by simpa [hq] using hs
    rw [hn] at hl
    simp [Builtin.copy_, run_underlying hu, Builtin.lenOf, Builtin.firstCells, sizeOf, typeInfo, hq, hi, hl, hst]

theorem run_copy_nonek {P : Program} (w : World) (dT sT ty elem : TypeId) (k : Nat) (d : Option Addr) (dLen dCap sCap : Nat) (hu : P.underlying dT = some (.slice elem)) (hs : (P.info? elem).map (·.size) = some k) :
    (Builtin.copy_ #[dT, sT] ty #[.slice d dLen dCap, .slice none 0 sCap]).run P w = .ok (goInt 0) w := by
  cases hq : P.info? elem with
  | none => simp [hq] at hs
  | some i => cases d <;> simp [Builtin.copy_, run_underlying hu, Builtin.lenOf, Builtin.firstCells, sizeOf, typeInfo, hq, storeCells]

theorem copy_sp {ops : Array Oper} {rest : List Oper} {o : Oper} {a : Act} {Q : Exit → Act → World → Prop} {w : World} (hgd : o.guard = none) (d s : Operand)
    (ho : o.op = .call { callee := .builtin .copy, args := #[d, s], argTypes := #[23, 23] }) (g : Nat) (v : Value) (l : List Sp) (dCap : Nat)
    (hd : a.eval d = .slice (some ⟨g, 0, none⟩) l.length dCap) (hs : a.eval s = v) (hv : SpRow w v l) (cur : Array Value) (hg : w.heap[g]? = some (.cells cur 44 (0, 0))) (hc : cur.size = l.length * 2)
    (h : ∀ w', w'.heap[g]? = some (.cells (sp l).toArray 44 (0, 0)) → (∀ B a, Below B a w → B ≤ g → Below B a w') → (∀ k, k ≠ g → w'.heap[k]? = w.heap[k]?) → wpList Try.prog ops Q rest (a.put o.dst (goInt l.length)) w') :
    wpList Try.prog ops Q (o :: rest) a w := by
  obtain ⟨base, cap, rfl, hr⟩ := hv
  have hsz : (Try.prog.info? 44).map (·.size) = some 2 := by kernel_rfl
  refine wpList_plain hgd fun K hK => ?_
  cases base with
  | none =>
    have hl : l = [] := by
      rcases hr with h | ⟨a, ha, _⟩
      · exact h
      · cases ha
    subst hl
    have hrun := run_copy_nonek (P := Try.prog) w 23 23 o.type 44 2 (some ⟨g, 0, none⟩) 0 dCap cap Try.underlying23 hsz
    unfold Oper.wp
    simp [execOp, ho, resolve, invoke, builtin, hd, hs, hrun, Result.andThen]
    refine hK _ _ (h w ?_ (fun _ _ hb _ => hb) (fun _ _ => rfl))
    have : cur = #[] := Array.eq_empty_of_size_eq_zero (by simpa using hc)
    rw [hg, this]; rfl
  | some ad =>
    have hsrc : ∀ j u, (sp l)[j]? = some u → w.cell? (ad.add j) = some u := by
      intro j u hj
      have hlt : j < l.length * 2 := by have := (List.getElem?_eq_some_iff.1 hj).1; rwa [sp_length] at this
      have hne : l ≠ [] := by rintro rfl; simp at hlt
      obtain ⟨a', ha, hcs⟩ := hr.resolve_left hne
      cases ha
      have hi : j / 2 < l.length := by omega
      obtain ⟨h1, h2⟩ := hcs (j / 2) hi
      obtain ⟨g1, g2⟩ := sp_get l (j / 2) hi
      rcases Nat.mod_two_eq_zero_or_one j with hm | hm
      · rw [show j / 2 * 2 = j by omega] at h1 g1
        rw [h1]; exact (g1.symm.trans hj)
      · rw [show j / 2 * 2 + 1 = j by omega] at h2 g2
        rw [h2]; exact (g2.symm.trans hj)
    have hrun := run_copy_rowk (P := Try.prog) w 23 23 o.type 44 2 g 0 l.length dCap ad l.length cap cur 44 (sp l) Try.underlying23 hsz hg (by rw [sp_length]; simp) hsrc (by rw [sp_length]; omega) (one_sp l)
    unfold Oper.wp
    simp [execOp, ho, resolve, invoke, builtin, hd, hs, hrun, Result.andThen]
    refine hK _ _ (h _ ?_ (fun B a hb hle => below_setRow hb hle _) (fun k hk => setRow_other w g k _ hk))
    rw [setRow_heap w g _ _ 44 _ hg]
    have : List.drop (sp l).length cur.toList = [] := List.drop_of_length_le (by rw [sp_length]; simp; omega)
    simp [this]
end Go.Proofs.Ytnbmpcdomdaimaa
