/- The pure statement of AllocGated, and what the others share. -/
import Derived.Test.YtnbmpcdomdaimaaPAx3
import Derived.Test.YtnbmpcdomdaimaaPAx4
namespace Go.Proofs.YtnbmpcdomdaimaaQ.PA
open Go.RowKit Go.Proofs.YtnbmpcdomdaimaaW.PrintWords Go.Proofs.YtnbmpcdomdaimaaW.PrintLast Go.Proofs.YtnbmpcdomdaimaaW.PrintMore
open Go.Proofs.Ytnbmpcdomdaimaa (Sp right takeL gOk right_iff takeL_split takeL_none takeL_some Good good_mid good_drop good_append good_insert)
set_option linter.unusedVariables false
set_option linter.unusedSimpArgs false

theorem wrap_up {i : Int} {n : Nat} (h0 : 0 ≤ i) (h : i < (n : Int)) (hn : n ≤ 8796093022208) : wrap64 (i + 1) = i + 1 := by unfold wrap64; omega
theorem rd_at (l : List S44) (i : Nat) (h : i < l.length) : rd_T44 l (i : Int) = l[i]'h := by
  rw [rd_T44, Int.toNat_natCast, List.getD_eq_getElem?_getD, List.getElem?_eq_getElem h]; rfl

theorem okL_take {l : List S44} (h : ∀ s ∈ l, 0 ≤ s.f0 ∧ s.f0 < 4294967296 ∧ 0 ≤ s.f1) : okL (l.take 4100) = true := by
  simp only [okL, Bool.and_eq_true, List.all_eq_true, decide_eq_true_eq]
  refine ⟨by rw [List.length_take]; omega, fun s hs => ?_⟩
  have := h s (List.mem_of_mem_take hs)
  exact ⟨⟨this.1, this.2.1⟩, this.2.2⟩

theorem ev_same0 (l : List S44) (hl : l.length ≤ 8796093022208) : ∀ (d i : Nat), i + d = l.length → Ev (fun k => bazaarref05_Same.l0 k l l (i : Int)) true := by
  intro d
  induction d with
  | zero =>
    intro i h
    refine Ev.step (f := fun _ => some true) (fun k => ?_) (Ev.now true)
    simp only [bazaarref05_Same.l0]
    rw [if_neg (by omega)]
  | succ d ih =>
    intro i h
    refine Ev.step (fun k => ?_) (ih (i + 1) (by omega))
    simp only [bazaarref05_Same.l0]
    rw [if_pos (by omega), if_pos (by omega), if_pos (by omega), if_neg (by simp), wrap_up (n := l.length) (by omega) (by omega) hl]
    rfl
theorem ev_same (l : List S44) (hl : l.length ≤ 8796093022208) : Ev (fun k => bazaarref05_Same.f k l l) true := by
  unfold bazaarref05_Same.f
  simp only [if_true]
  exact ev_same0 l hl l.length 0 (by omega)
theorem ev_lsame (a b : Int) (l : List S44) (hl : l.length ≤ 8796093022208) : Ev (fun k => bazaarlaw05_same.f k a b l a b l) true := by
  unfold bazaarlaw05_same.f
  refine Ev.bind (ev_same l hl) ?_
  simp only [if_true, beq_self_eq_true]
  exact Ev.now true

/-- What came in may be asked about. -/
structure Okay (a0 a1 : Int) (l : List S44) : Prop where
  h0 : 0 ≤ a0
  h1 : a0 < 4294967296
  h2 : 0 ≤ a1
  h3 : a1 < 4294967296
  hs : ∀ s ∈ l, 0 ≤ s.f0 ∧ s.f0 < 4294967296 ∧ 0 ≤ s.f1
  hl : l.length ≤ 9223372036854775807

theorem cut_eq {a0 a1 : Int} {l : List S44} (h : Okay a0 a1 l) : bazaarlaw05_cut.f a0 a1 l = some (a0, a1, l.take 4100) := by
  rw [bazaarlaw05_cut.f, if_pos h.hl]
theorem Okay.okL {a0 a1 : Int} {l : List S44} (h : Okay a0 a1 l) : PA.okL (l.take 4100) = true := okL_take h.hs
theorem Okay.okN0 {a0 a1 : Int} {l : List S44} (h : Okay a0 a1 l) : okN a0 = true := by simp [okN, h.h0, h.h1]
theorem Okay.okN1 {a0 a1 : Int} {l : List S44} (h : Okay a0 a1 l) : okN a1 = true := by simp [okN, h.h2, h.h3]
theorem Okay.cut {a0 a1 : Int} {l : List S44} (h : Okay a0 a1 l) : Okay a0 a1 (l.take 4100) :=
  ⟨h.h0, h.h1, h.h2, h.h3, fun s hs => h.hs s (List.mem_of_mem_take hs), by rw [List.length_take]; omega⟩

/-- What Take does to an alloc that came in: one of four. -/
theorem take_ways {a0 a1 : Int} {l : List S44} (h : Okay a0 a1 l) (hl : PA.okL l = true) {o : Int} (ho : 0 ≤ o) :
    (right a0.toNat a1.toNat (spOf l) = false ∧ alloc_Take.f a0 a1 l o = some (0, 0, [], 0, 50)) ∨
    (right a0.toNat a1.toNat (spOf l) = true ∧ ∃ p r, takeL o.toNat (spOf l) = some (p, r) ∧ alloc_Take.f a0 a1 l o = some (a0, a1, ofSp r, (p : Int), 0)) ∨
    (right a0.toNat a1.toNat (spOf l) = true ∧ takeL o.toNat (spOf l) = none ∧ a0 = a1 ∧ alloc_Take.f a0 a1 l o = some (a0, a1, l, 0, 51)) ∨
    (right a0.toNat a1.toNat (spOf l) = true ∧ takeL o.toNat (spOf l) = none ∧ a0 ≠ a1 ∧ alloc_Take.f a0 a1 l o = some (a0 + 1, a1, l, a0, 0)) := by
  have hg : (okN a0 && okN a1 && PA.okL l && decide (0 ≤ o)) = true := by simp [h.okN0, h.okN1, hl, ho]
  cases hR : right a0.toNat a1.toNat (spOf l) with
  | false =>
    refine .inl ⟨rfl, ?_⟩
    unfold alloc_Take.f
    rw [if_pos hg, if_neg (by simp [hR])]
  | true =>
    right
    cases hT : takeL o.toNat (spOf l) with
    | some x =>
      obtain ⟨p, r⟩ := x
      refine .inl ⟨rfl, p, r, rfl, ?_⟩
      unfold alloc_Take.f
      rw [if_pos hg, if_pos hR, hT]
    | none =>
      right
      by_cases he : a0 = a1
      · refine .inl ⟨rfl, rfl, he, ?_⟩
        unfold alloc_Take.f
        rw [if_pos hg, if_pos hR, hT]
        simp only
        rw [if_pos he]
      · refine .inr ⟨rfl, rfl, he, ?_⟩
        unfold alloc_Take.f
        rw [if_pos hg, if_pos hR, hT]
        simp only
        rw [if_neg he]

theorem ev_gated1 (p : Int) (x9 : Bool) (a b c d : Int) (l m : List S44) (hm : m.length ≤ 5000) (hp : ∀ s ∈ m, s.f0 ≠ p) (hfin : (x9 == (c == a)) = true) (hfin2 : x9 = true ∨ p = a) :
    ∀ (n i : Nat), i + n = m.length → Ev (fun k => bazaarlaw05_AllocGated.l1 k true p x9 (i : Int) a b l c d m) true := by
  intro n
  induction n with
  | zero =>
    intro i h
    refine Ev.step (f := fun _ => some true) (fun k => ?_) (Ev.now true)
    simp only [bazaarlaw05_AllocGated.l1]
    rw [if_neg (by omega), if_pos trivial, if_pos hfin]
    rcases hfin2 with rfl | rfl
    · rfl
    · split <;> simp
  | succ n ih =>
    intro i h
    refine Ev.step (fun k => ?_) (ih (i + 1) (by omega))
    simp only [bazaarlaw05_AllocGated.l1]
    rw [if_pos (by omega), if_pos (by omega), if_neg (by rw [rd_at m i (by omega)]; exact hp _ (List.getElem_mem _)), wrap_up (n := m.length) (by omega) (by omega) (by omega)]
    rfl

theorem ev_gated0 (o p : Int) (a b c d : Int) (l m : List S44) (hl : l.length ≤ 5000) (hp : ∀ s ∈ l, s.f0 = p → s.f1 ≤ o) (z : Bool) (hz : ∀ s ∈ l, s.f1 ≤ o → z = true) (hz2 : z = true → ∃ s ∈ l, s.f1 ≤ o)
    (hnext : Ev (fun k => bazaarlaw05_AllocGated.l1 k true p z 0 a b l c d m) true) :
    ∀ (n i : Nat) (y : Bool), i + n = l.length → (y = true → z = true) → (z = true → y = true ∨ ∃ s ∈ l.drop i, s.f1 ≤ o) → Ev (fun k => bazaarlaw05_AllocGated.l0 k o true p y (i : Int) a b l c d m) true := by
  intro n
  induction n with
  | zero =>
    intro i y h h1 h2
    refine Ev.step (fun k => ?_) hnext
    simp only [bazaarlaw05_AllocGated.l0]
    rw [if_neg (by omega)]
    have : y = z := by
      cases y with
      | true => exact (h1 rfl).symm
      | false =>
        cases z with
        | false => rfl
        | true =>
          rcases h2 rfl with h | ⟨s, hs, _⟩
          · cases h
          · rw [List.drop_of_length_le (by omega)] at hs; simp at hs
    rw [this]
  | succ n ih =>
    intro i y h h1 h2
    have hi : i < l.length := by omega
    have hmem := List.getElem_mem hi
    have hrd := rd_at l i hi
    have hw : wrap64 ((i : Int) + 1) = ((i + 1 : Nat) : Int) := by rw [wrap_up (n := l.length) (by omega) (by omega) (by omega)]; rfl
    have hdrop : l.drop i = l[i]'hi :: l.drop (i + 1) := List.drop_eq_getElem_cons hi
    have fin : ∀ y' : Bool, y' = (y || decide ((l[i]'hi).f1 ≤ o)) → Ev (fun k => bazaarlaw05_AllocGated.l0 k o true p y' ((i + 1 : Nat) : Int) a b l c d m) true := by
      rintro y' rfl
      refine ih (i + 1) _ (by omega) ?_ ?_
      · intro hy
        simp only [Bool.or_eq_true, decide_eq_true_eq] at hy
        rcases hy with hy | hy
        · exact h1 hy
        · exact hz _ hmem hy
      · intro hzt
        rcases h2 hzt with h | ⟨s, hs, hso⟩
        · exact .inl (by simp [h])
        · rw [hdrop] at hs
          rcases List.mem_cons.1 hs with rfl | hs
          · exact .inl (by simp [hso])
          · exact .inr ⟨s, hs, hso⟩
    cases y with
    | true =>
      refine Ev.step (fun k => ?_) (fin true rfl)
      simp only [bazaarlaw05_AllocGated.l0]
      rw [if_pos (by omega), if_pos (by omega), hrd, hw]
      simp only [if_true]
      split
      · rename_i hf
        rw [if_neg (by have := hp _ hmem hf; omega)]
      · rfl
    | false =>
      refine Ev.step (fun k => ?_) (fin (decide ((l[i]'hi).f1 ≤ o)) rfl)
      simp only [bazaarlaw05_AllocGated.l0]
      rw [if_pos (by omega), if_pos (by omega), hrd, hw]
      simp only [Bool.false_eq_true, if_false]
      split
      · rename_i hf
        rw [if_neg (by have := hp _ hmem hf; omega)]
      · rfl

theorem mem_spOf {l : List S44} (h : okL l = true) {s : S44} (hs : s ∈ l) : (s.f0.toNat, s.f1.toNat) ∈ spOf l ∧ (s.f0.toNat : Int) = s.f0 ∧ (s.f1.toNat : Int) = s.f1 := by
  have := okL_mem h s hs
  exact ⟨List.mem_map.2 ⟨s, hs, rfl⟩, Int.toNat_of_nonneg this.1, Int.toNat_of_nonneg this.2.2⟩

theorem gated_pure (a0 a1 : Int) (l0 : List S44) (o : Int) (h0 : Okay a0 a1 l0) (ho : 0 ≤ o) : ∃ k, bazaarlaw05_AllocGated.f k a0 a1 l0 o = some true := by
  apply Ev.rounds
  unfold bazaarlaw05_AllocGated.f
  simp only [bazaarlaw05_shown.f, Option.bind_some, cut_eq h0]
  have h := h0.cut
  have hl := h0.okL
  obtain ⟨l, hll⟩ : ∃ l, l0.take 4100 = l := ⟨_, rfl⟩
  rw [hll] at h hl ⊢
  have hlen := okL_len hl
  rcases take_ways h hl ho with ⟨hR, ht⟩ | ⟨hR, p, r, hT, ht⟩ | ⟨hR, hT, he, ht⟩ | ⟨hR, hT, he, ht⟩
  · rw [ht]; simp only [Option.bind_some, if_true, beq_self_eq_true, show ¬ ((50 : Int) = 0) by decide, if_false]; exact Ev.now true
  · rw [ht]
    simp only [Option.bind_some, if_true]
    obtain ⟨hG1, hG2, hG3, hG4, hG5, hG⟩ := (right_iff _ _ _).1 hR
    obtain ⟨l1, t, l2, hsp, rfl, hto, hl1⟩ := takeL_some hT
    have hG' := hG
    rw [hsp] at hG'
    obtain ⟨m1, m2⟩ := good_mid hG'
    have hne : ∀ s ∈ ofSp (l1 ++ l2), s.f0 ≠ (p : Int) := by
      intro s hs
      obtain ⟨x, hx, rfl⟩ := List.mem_map.1 hs
      rcases List.mem_append.1 hx with hx | hx
      · have := m1 x hx; show (x.1 : Int) ≠ p; simp only at this; omega
      · have := m2 x hx; show (x.1 : Int) ≠ p; simp only at this; omega
    have hin : ∃ s ∈ l, s.f1 ≤ o := by
      have : (p, t) ∈ spOf l := by rw [hsp]; simp
      obtain ⟨s, hs, e⟩ := List.mem_map.1 this
      have := mem_spOf hl hs
      injection e with e1 e2
      exact ⟨s, hs, by omega⟩
    refine ev_gated0 o p a0 a1 a0 a1 l (ofSp (l1 ++ l2)) hlen ?_ true (fun _ _ _ => rfl) (fun _ => hin) ?_ l.length 0 false (by omega) (fun h => by cases h) (fun _ => .inr (by simpa using hin))
    · intro s hs hsp'
      obtain ⟨hm, e1, e2⟩ := mem_spOf hl hs
      rw [hsp] at hm
      rcases List.mem_append.1 hm with hm | hm
      · have := m1 _ hm; simp only at this; omega
      · rcases List.mem_cons.1 hm with hm | hm
        · injection hm with h3 h4; omega
        · have := m2 _ hm; simp only at this; omega
    · refine ev_gated1 p true a0 a1 a0 a1 l (ofSp (l1 ++ l2)) ?_ hne (by simp) (.inl rfl) (ofSp (l1 ++ l2)).length 0 (by omega)
      rw [ofSp_length]
      have := congrArg List.length hsp
      rw [spOf_length] at this
      simp at this ⊢
      omega
  · rw [ht]; simp only [Option.bind_some, if_true, beq_self_eq_true, show ¬ ((51 : Int) = 0) by decide, if_false]; exact Ev.now true
  · rw [ht]
    simp only [Option.bind_some, if_true]
    obtain ⟨hG1, hG2, hG3, hG4, hG5, hG⟩ := (right_iff _ _ _).1 hR
    have hall := takeL_none.1 hT
    have hlt : ∀ s ∈ l, s.f0 ≠ a0 ∧ ¬ s.f1 ≤ o := by
      intro s hs
      obtain ⟨hm, e1, e2⟩ := mem_spOf hl hs
      have := hall _ hm
      have h5 := (hG.mem _ hm).2.1
      have := h.h0
      simp only at *
      omega
    refine ev_gated0 o a0 a0 a1 (a0 + 1) a1 l l hlen (fun s hs hf => absurd hf (hlt s hs).1) false (fun s hs hf => absurd hf (hlt s hs).2) (fun h => by cases h) ?_ l.length 0 false (by omega) (fun h => by cases h) (fun h => by cases h)
    refine ev_gated1 a0 false a0 a1 (a0 + 1) a1 l l hlen (fun s hs => (hlt s hs).1) ?_ (.inr rfl) l.length 0 (by omega)
    have : ((a0 + 1) == a0) = false := by simp; omega
    rw [this]; rfl
end Go.Proofs.YtnbmpcdomdaimaaQ.PA
