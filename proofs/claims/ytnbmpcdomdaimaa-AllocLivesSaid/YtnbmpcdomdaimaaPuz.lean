/- What the pure statements share. -/
import Derived.Test.YtnbmpcdomdaimaaPAx3
import Derived.Test.YtnbmpcdomdaimaaSho
namespace Go.Proofs.YtnbmpcdomdaimaaQ.PA
open Go.RowKit Go.Proofs.YtnbmpcdomdaimaaW.PrintWords Go.Proofs.YtnbmpcdomdaimaaW.PrintLast Go.Proofs.YtnbmpcdomdaimaaW.PrintMore
open Go.Proofs.Ytnbmpcdomdaimaa (Sp right takeL gOk right_iff takeL_split takeL_none takeL_some Good good_mid good_drop good_append good_insert)
set_option linter.unusedVariables false
set_option linter.unusedSimpArgs false

theorem wrap_up {i : Int} {n : Nat} (h0 : 0 ≤ i) (h : i < (n : Int)) (hn : n ≤ 8796093022208) : wrap64 (i + 1) = i + 1 := by unfold wrap64; omega
theorem rd_at (l : List S44) (i : Nat) (h : i < l.length) : rd_T44 l (i : Int) = l[i]'h := by
  rw [rd_T44, Int.toNat_natCast, List.getD_eq_getElem?_getD, List.getElem?_eq_getElem h]; rfl

theorem okL_take {l : List S44} (h : ∀ s ∈ l, 0 ≤ s.f0 ∧ s.f0 < 4294967296 ∧ 0 ≤ s.f1) : okL (l.take 4100) = true := by
  simp only [okL, Bool.and_eq_true, List.all_eq_true, decide_eq_true_eq]
  refine ⟨by rw [List.length_take]; omega, fun s hs => ?_⟩
  have := h s (List.mem_of_mem_take hs)
  exact ⟨⟨this.1, this.2.1⟩, this.2.2⟩

theorem ev_same0 (l : List S44) (hl : l.length ≤ 8796093022208) : ∀ (d i : Nat), i + d = l.length → Ev (fun k => bazaarref05_Same.l0 k l l (i : Int)) true := by
  intro d
  induction d with
  | zero =>
    intro i h
    refine Ev.step (f := fun _ => some true) (fun k => ?_) (Ev.now true)
    simp only [bazaarref05_Same.l0]
    rw [if_neg (by omega)]
  | succ d ih =>
    intro i h
    refine Ev.step (fun k => ?_) (ih (i + 1) (by omega))
    simp only [bazaarref05_Same.l0]
    rw [if_pos (by omega), if_pos (by omega), if_pos (by omega), if_neg (by simp), wrap_up (n := l.length) (by omega) (by omega) hl]
    rfl
theorem ev_same (l : List S44) (hl : l.length ≤ 8796093022208) : Ev (fun k => bazaarref05_Same.f k l l) true := by
  unfold bazaarref05_Same.f
  simp only [if_true]
  exact ev_same0 l hl l.length 0 (by omega)
theorem ev_lsame (a b : Int) (l : List S44) (hl : l.length ≤ 8796093022208) : Ev (fun k => bazaarlaw05_same.f k a b l a b l) true := by
  unfold bazaarlaw05_same.f
  refine Ev.bind (ev_same l hl) ?_
  simp only [if_true, beq_self_eq_true]
  exact Ev.now true

/-- What came in may be asked about. -/
structure Okay (a0 a1 : Int) (l : List S44) : Prop where
  h0 : 0 ≤ a0
  h1 : a0 < 4294967296
  h2 : 0 ≤ a1
  h3 : a1 < 4294967296
  hs : ∀ s ∈ l, 0 ≤ s.f0 ∧ s.f0 < 4294967296 ∧ 0 ≤ s.f1
  hl : l.length ≤ 9223372036854775807

theorem cut_eq {a0 a1 : Int} {l : List S44} (h : Okay a0 a1 l) : bazaarlaw05_cut.f a0 a1 l = some (a0, a1, l.take 4100) := by
  rw [bazaarlaw05_cut.f, if_pos h.hl]
theorem Okay.okL {a0 a1 : Int} {l : List S44} (h : Okay a0 a1 l) : PA.okL (l.take 4100) = true := okL_take h.hs
theorem Okay.okN0 {a0 a1 : Int} {l : List S44} (h : Okay a0 a1 l) : okN a0 = true := by simp [okN, h.h0, h.h1]
theorem Okay.okN1 {a0 a1 : Int} {l : List S44} (h : Okay a0 a1 l) : okN a1 = true := by simp [okN, h.h2, h.h3]
theorem Okay.cut {a0 a1 : Int} {l : List S44} (h : Okay a0 a1 l) : Okay a0 a1 (l.take 4100) :=
  ⟨h.h0, h.h1, h.h2, h.h3, fun s hs => h.hs s (List.mem_of_mem_take hs), by rw [List.length_take]; omega⟩

/-- What Take does to an alloc that came in: one of four. -/
theorem take_ways {a0 a1 : Int} {l : List S44} (h : Okay a0 a1 l) (hl : PA.okL l = true) {o : Int} (ho : 0 ≤ o) :
    (right a0.toNat a1.toNat (spOf l) = false ∧ alloc_Take.f a0 a1 l o = some (0, 0, [], 0, 50)) ∨
    (right a0.toNat a1.toNat (spOf l) = true ∧ ∃ p r, takeL o.toNat (spOf l) = some (p, r) ∧ alloc_Take.f a0 a1 l o = some (a0, a1, ofSp r, (p : Int), 0)) ∨
    (right a0.toNat a1.toNat (spOf l) = true ∧ takeL o.toNat (spOf l) = none ∧ a0 = a1 ∧ alloc_Take.f a0 a1 l o = some (a0, a1, l, 0, 51)) ∨
    (right a0.toNat a1.toNat (spOf l) = true ∧ takeL o.toNat (spOf l) = none ∧ a0 ≠ a1 ∧ alloc_Take.f a0 a1 l o = some (a0 + 1, a1, l, a0, 0)) := by
  have hg : (okN a0 && okN a1 && PA.okL l && decide (0 ≤ o)) = true := by simp [h.okN0, h.okN1, hl, ho]
  cases hR : right a0.toNat a1.toNat (spOf l) with
  | false =>
    refine .inl ⟨rfl, ?_⟩
    unfold alloc_Take.f
    rw [if_pos hg, if_neg (by simp [hR])]
  | true =>
    right
    cases hT : takeL o.toNat (spOf l) with
    | some x =>
      obtain ⟨p, r⟩ := x
      refine .inl ⟨rfl, p, r, rfl, ?_⟩
      unfold alloc_Take.f
      rw [if_pos hg, if_pos hR, hT]
    | none =>
      right
      by_cases he : a0 = a1
      · refine .inl ⟨rfl, rfl, he, ?_⟩
        unfold alloc_Take.f
        rw [if_pos hg, if_pos hR, hT]
        simp only
        rw [if_pos he]
      · refine .inr ⟨rfl, rfl, he, ?_⟩
        unfold alloc_Take.f
        rw [if_pos hg, if_pos hR, hT]
        simp only
        rw [if_neg he]

end Go.Proofs.YtnbmpcdomdaimaaQ.PA
