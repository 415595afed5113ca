/- The pure statement of AllocTakes: the document's Right, Take, Give answer as the program's. -/
import Derived.Test.YtnbmpcdomdaimaaPuz
namespace Go.Proofs.YtnbmpcdomdaimaaQ.PA
open Go.RowKit Go.Proofs.YtnbmpcdomdaimaaW.PrintWords Go.Proofs.YtnbmpcdomdaimaaW.PrintLast Go.Proofs.YtnbmpcdomdaimaaW.PrintMore
open Go.Proofs.Ytnbmpcdomdaimaa (Sp right okFrom takeL gOk right_iff takeL_split takeL_none takeL_some good_mid good_drop good_append good_insert)
set_option linter.unusedVariables false
set_option linter.unusedSimpArgs false

theorem mem_spOf' {l : List S44} (h : okL l = true) {s : S44} (hs : s ∈ l) : (s.f0.toNat, s.f1.toNat) ∈ spOf l := List.mem_map.2 ⟨s, hs, rfl⟩

def oldAt (l : List Sp) : Nat → Sp
  | 0 => (0, 0)
  | i + 1 => l.getD i (0, 0)

theorem spOf_get (l : List S44) (i : Nat) (h : i < l.length) : (spOf l)[i]'(by rw [spOf_length]; exact h) = ((l[i]'h).f0.toNat, (l[i]'h).f1.toNat) := by simp [spOf]

theorem ev_rright0 (hi : Nat) (a1 : Int) (l : List S44) (hl : okL l = true) (h2 : 2 ≤ hi) : ∀ (n i : Nat), i + n = l.length → (i = 0 ∨ 2 ≤ (oldAt (spOf l) i).1) →
    Ev (fun k => bazaarref05_Right.l0 k (i : Int) (hi : Int) a1 l) (okFrom (hi - 1) (oldAt (spOf l) i) ((spOf l).drop i)) := by
  have hlen := okL_len hl
  intro n
  induction n with
  | zero =>
    intro i h _
    refine Ev.step (f := fun _ => some _) (fun k => ?_) (Ev.now _)
    simp only [bazaarref05_Right.l0]
    rw [if_neg (by omega), List.drop_of_length_le (by rw [spOf_length]; omega)]
    rfl
  | succ n ih =>
    intro i h hold
    have hi' : i < l.length := by omega
    have hm := okL_mem hl _ (List.getElem_mem hi')
    obtain ⟨p, hp⟩ := Int.eq_ofNat_of_zero_le hm.1
    obtain ⟨t, ht⟩ := Int.eq_ofNat_of_zero_le hm.2.2
    have hg := spOf_get l i hi'
    rw [hp, ht] at hg
    simp only [Int.toNat_natCast] at hg
    have hw : wrap64 ((i : Int) + 1) = ((i + 1 : Nat) : Int) := by unfold wrap64; omega
    have hnext : oldAt (spOf l) (i + 1) = (p, t) := by
      show (spOf l).getD i (0, 0) = _
      rw [List.getD_eq_getElem?_getD, List.getElem?_eq_getElem (by rw [spOf_length]; exact hi'), hg]; rfl
    rw [List.drop_eq_getElem_cons (by rw [spOf_length]; exact hi'), hg]
    simp only [okFrom]
    by_cases c1 : p < 2
    · refine Ev.step (f := fun _ => some _) (fun k => ?_) (Ev.now _)
      simp only [bazaarref05_Right.l0]
      rw [if_pos (by omega), if_pos (by omega), rd_at l i hi', hp, if_pos (by omega)]
      simp; omega
    by_cases c2 : hi ≤ p
    · refine Ev.step (f := fun _ => some _) (fun k => ?_) (Ev.now _)
      simp only [bazaarref05_Right.l0]
      rw [if_pos (by omega), if_pos (by omega), rd_at l i hi', hp, if_neg (by omega), if_pos (by omega)]
      simp; omega
    by_cases c3 : t < 1
    · refine Ev.step (f := fun _ => some _) (fun k => ?_) (Ev.now _)
      simp only [bazaarref05_Right.l0]
      rw [if_pos (by omega), if_pos (by omega), rd_at l i hi', hp, if_neg (by omega), if_neg (by omega), ht, if_pos (by omega)]
      simp; omega
    have base : (decide (2 ≤ p) && decide (p ≤ hi - 1) && decide (t ≠ 0)) = true := by simp; omega
    have hih := ih (i + 1) (by omega) (.inr (by rw [hnext]; show 2 ≤ p; omega))
    rw [hnext] at hih
    cases i with
    | zero =>
      rw [base]
      simp only [oldAt, decide_true, Bool.true_or, Bool.true_and]
      refine Ev.step (fun k => ?_) hih
      simp only [bazaarref05_Right.l0]
      rw [if_pos (by omega), if_pos (by omega), rd_at l 0 hi', hp, if_neg (by omega), if_neg (by omega), ht, if_neg (by omega), if_neg (by omega), hw]
    | succ j =>
      have hj : j < l.length := by omega
      have hmj := okL_mem hl _ (List.getElem_mem hj)
      obtain ⟨q, hq⟩ := Int.eq_ofNat_of_zero_le hmj.1
      have hgj := spOf_get l j hj
      rw [hq] at hgj
      simp only [Int.toNat_natCast] at hgj
      have hold' : oldAt (spOf l) (j + 1) = (q, (l[j]'hj).f1.toNat) := by
        show (spOf l).getD j (0, 0) = _
        rw [List.getD_eq_getElem?_getD, List.getElem?_eq_getElem (by rw [spOf_length]; exact hj), hgj]; rfl
      rw [hold'] at hold ⊢
      have hq2 : 2 ≤ q := by
        rcases hold with h | h
        · omega
        · exact h
      have hz : decide (((q, (l[j]'hj).f1.toNat) : Sp) = (0, 0)) = false := by simp; omega
      have hwj : wrap64 (((j + 1 : Nat) : Int) - 1) = (j : Int) := by unfold wrap64; omega
      rw [base, hz]
      simp only [Bool.false_or, Bool.true_and]
      by_cases c4 : p ≤ q
      · refine Ev.step (f := fun _ => some _) (fun k => ?_) (Ev.now _)
        simp only [bazaarref05_Right.l0]
        rw [if_pos (by omega), if_pos (by omega), rd_at l (j + 1) hi', hp, if_neg (by omega), if_neg (by omega), ht, if_neg (by omega), if_pos (by omega), hwj, if_pos (by omega), if_pos (by omega), rd_at l j hj, hq, if_pos (by omega)]
        simp; omega
      · rw [show decide (q < p) = true by simp; omega, Bool.true_and]
        refine Ev.step (fun k => ?_) hih
        simp only [bazaarref05_Right.l0]
        rw [if_pos (by omega), if_pos (by omega), rd_at l (j + 1) hi', hp, if_neg (by omega), if_neg (by omega), ht, if_neg (by omega), if_pos (by omega), hwj, if_pos (by omega), if_pos (by omega), rd_at l j hj, hq, if_neg (by omega), hw]

theorem ev_rright {a0 a1 : Int} {l : List S44} (h : Okay a0 a1 l) (hl : okL l = true) : Ev (fun k => bazaarref05_Right.f k a0 a1 l) (right a0.toNat a1.toNat (spOf l)) := by
  obtain ⟨hi, rfl⟩ := Int.eq_ofNat_of_zero_le h.h0
  obtain ⟨ca, rfl⟩ := Int.eq_ofNat_of_zero_le h.h2
  simp only [Int.toNat_natCast]
  have hj : ∀ _ : Nat, Ev (fun k => bazaarref05_Right.j0 k true (hi : Int) (ca : Int) l) false := fun _ => Ev.step (f := fun _ => some false) (fun k => by simp only [bazaarref05_Right.j0, if_true]) (Ev.now _)
  unfold bazaarref05_Right.f
  unfold right
  by_cases c1 : ca < 2
  · simp only [if_pos (show (ca : Int) < 2 by omega), show decide (2 ≤ ca) = false by simp; omega, Bool.false_and]; exact hj 0
  by_cases c2 : 16384 < ca
  · simp only [if_neg (show ¬ (ca : Int) < 2 by omega), if_pos (show (ca : Int) > 16384 by omega), show decide (ca ≤ 16384) = false by simp; omega, Bool.false_and, Bool.and_false]; exact hj 0
  by_cases c3 : hi < 2
  · simp only [if_neg (show ¬ (ca : Int) < 2 by omega), if_neg (show ¬ (ca : Int) > 16384 by omega), if_pos (show (hi : Int) < 2 by omega), show decide (2 ≤ hi) = false by simp; omega, Bool.false_and, Bool.and_false]; exact hj 0
  by_cases c4 : ca < hi
  · simp only [if_neg (show ¬ (ca : Int) < 2 by omega), if_neg (show ¬ (ca : Int) > 16384 by omega), if_neg (show ¬ (hi : Int) < 2 by omega), if_pos (show (hi : Int) > (ca : Int) by omega), show decide (hi ≤ ca) = false by simp; omega, Bool.false_and, Bool.and_false]; exact hj 0
  simp only [if_neg (show ¬ (ca : Int) < 2 by omega), if_neg (show ¬ (ca : Int) > 16384 by omega), if_neg (show ¬ (hi : Int) < 2 by omega), if_neg (show ¬ (hi : Int) > (ca : Int) by omega), show decide (2 ≤ ca) = true by simp; omega, show decide (ca ≤ 16384) = true by simp; omega, show decide (2 ≤ hi) = true by simp; omega, show decide (hi ≤ ca) = true by simp; omega, Bool.true_and]
  by_cases c5 : 4096 < l.length
  · simp only [show decide ((l.length : Int) > 4096) = true by simp; omega, show decide ((spOf l).length ≤ 4096) = false by simp [spOf_length]; omega, Bool.false_and]; exact hj 0
  · simp only [show decide ((l.length : Int) > 4096) = false by simp; omega, show decide ((spOf l).length ≤ 4096) = true by simp [spOf_length]; omega, Bool.true_and]
    have hz := ev_rright0 hi (ca : Int) l hl (by omega) l.length 0 (by omega) (.inl rfl)
    refine Ev.step (fun k => ?_) hz
    simp only [bazaarref05_Right.j0, Bool.false_eq_true, if_false]
    rfl

theorem ev_rtake1 (o p a0 a1 : Int) (l : List S44) (hl : l.length ≤ 5000) (hp : 0 < p) : ∀ (n i : Nat) (xs : List S44), i + n = l.length → xs.length ≤ i → Ev (fun k => bazaarref05_Take.l0 k o xs p (i : Int) a0 a1 l) (a0, a1, xs ++ l.drop i, p, 0) := by
  intro n
  induction n with
  | zero =>
    intro i xs h hx
    refine Ev.step (f := fun _ => some _) (fun k => ?_) (Ev.now _)
    simp only [bazaarref05_Take.l0]
    rw [if_neg (by omega), if_pos (by omega), List.drop_of_length_le (by omega), List.append_nil]
  | succ n ih =>
    intro i xs h hx
    have hi : i < l.length := by omega
    have e : xs ++ l.drop i = (xs ++ [l[i]'hi]) ++ l.drop (i + 1) := by rw [List.drop_eq_getElem_cons hi]; simp
    rw [e]
    refine Ev.step (fun k => ?_) (ih (i + 1) (xs ++ [l[i]'hi]) (by omega) (by simp; omega))
    simp only [bazaarref05_Take.l0]
    rw [if_pos (by omega), if_neg (by omega), if_pos (by omega), if_pos (by omega), rd_at l i hi, show wrap64 ((i : Int) + 1) = ((i + 1 : Nat) : Int) by unfold wrap64; omega]

/-- What Take comes to, behind its start. -/
def takeAns (o a0 a1 : Int) (xs l : List S44) : Int × Int × List S44 × Int × Int :=
  match takeL o.toNat (spOf l) with
  | some (p, r) => (a0, a1, xs ++ ofSp r, (p : Int), 0)
  | none => if a0 = a1 then (a0, a1, xs ++ l, 0, 51) else (a0 + 1, a1, xs ++ l, a0, 0)

theorem spOf_cons (x : S44) (l : List S44) : spOf (x :: l) = (x.f0.toNat, x.f1.toNat) :: spOf l := rfl
theorem ofSp_cons (x : Sp) (l : List Sp) : ofSp (x :: l) = ⟨(x.1 : Int), (x.2 : Int)⟩ :: ofSp l := rfl
theorem okL_cons {x : S44} {l : List S44} (h : ∀ s ∈ x :: l, 0 ≤ s.f0 ∧ s.f0 < 4294967296 ∧ 0 ≤ s.f1) : (⟨(x.f0.toNat : Int), (x.f1.toNat : Int)⟩ : S44) = x := by
  have := h x (by simp)
  rw [Int.toNat_of_nonneg this.1, Int.toNat_of_nonneg this.2.2]
theorem ofSp_spOfm {l : List S44} (h : ∀ s ∈ l, 0 ≤ s.f0 ∧ s.f0 < 4294967296 ∧ 0 ≤ s.f1) : ofSp (spOf l) = l := by
  induction l with
  | nil => rfl
  | cons x l ih => rw [spOf_cons, ofSp_cons, ih (fun s hs => h s (by simp [hs]))]; simp only; rw [okL_cons h]

theorem ev_rtake0 (o a0 a1 : Int) (l : List S44) (hok : okL l = true) (ho : 0 ≤ o) (h0 : 0 ≤ a0) (h01 : a0 ≤ a1) (h1 : a1 < 4294967296) (hpos : ∀ s ∈ l, 2 ≤ s.f0) : ∀ (n i : Nat) (xs : List S44), i + n = l.length → xs.length ≤ i →
    Ev (fun k => bazaarref05_Take.l0 k o xs 0 (i : Int) a0 a1 l) (takeAns o a0 a1 xs (l.drop i)) := by
  have hl := okL_len hok
  intro n
  induction n with
  | zero =>
    intro i xs h hx
    refine Ev.step (f := fun _ => some _) (fun k => ?_) (Ev.now _)
    simp only [bazaarref05_Take.l0]
    rw [if_neg (by omega), if_neg (by omega), List.drop_of_length_le (by omega)]
    simp only [takeAns, spOf, List.map_nil, takeL, List.append_nil]
    split
    · rfl
    · rw [show (a0 + 1) % 4294967296 = a0 + 1 by omega, show (a0 + 1 - 1) % 4294967296 = a0 by omega]
  | succ n ih =>
    intro i xs h hx
    have hi : i < l.length := by omega
    have hm := okL_mem hok _ (List.getElem_mem hi)
    have hp2 := hpos _ (List.getElem_mem hi)
    have hw : wrap64 ((i : Int) + 1) = ((i + 1 : Nat) : Int) := by unfold wrap64; omega
    rw [List.drop_eq_getElem_cons hi]
    by_cases hle : (l[i]'hi).f1 ≤ o
    · have e : takeAns o a0 a1 xs (l[i]'hi :: l.drop (i + 1)) = (a0, a1, xs ++ l.drop (i + 1), (l[i]'hi).f0, 0) := by
        simp only [takeAns, spOf_cons, takeL]
        rw [if_pos (by omega)]
        simp only
        rw [ofSp_spOfm (fun s hs => okL_mem hok s (List.mem_of_mem_drop hs)), Int.toNat_of_nonneg hm.1]
      rw [e]
      refine Ev.step (fun k => ?_) (ev_rtake1 o (l[i]'hi).f0 a0 a1 l hl (by omega) n (i + 1) xs (by omega) (by omega))
      simp only [bazaarref05_Take.l0]
      rw [if_pos (by omega), if_pos trivial, if_pos (by omega), rd_at l i hi, if_pos hle, hw]
    · have e : takeAns o a0 a1 xs (l[i]'hi :: l.drop (i + 1)) = takeAns o a0 a1 (xs ++ [l[i]'hi]) (l.drop (i + 1)) := by
        simp only [takeAns, spOf_cons, takeL]
        rw [if_neg (by omega)]
        cases takeL o.toNat (spOf (l.drop (i + 1))) with
        | none => simp
        | some x =>
          simp only [Option.map_some, ofSp_cons, List.append_assoc, List.singleton_append]
          rw [Int.toNat_of_nonneg hm.1, Int.toNat_of_nonneg hm.2.2]
      rw [e]
      refine Ev.step (fun k => ?_) (ih (i + 1) (xs ++ [l[i]'hi]) (by omega) (by simp; omega))
      simp only [bazaarref05_Take.l0]
      rw [if_pos (by omega), if_pos trivial, if_pos (by omega), rd_at l i hi, if_neg hle, if_pos (by omega), hw]

theorem ev_rtake {a0 a1 : Int} {l : List S44} (h : Okay a0 a1 l) (hl : okL l = true) {o : Int} (ho : 0 ≤ o) : ∃ x, alloc_Take.f a0 a1 l o = some x ∧ Ev (fun k => bazaarref05_Take.f k a0 a1 l o) x := by
  have hR := ev_rright h hl
  have hg : (okN a0 && okN a1 && okL l && decide (0 ≤ o)) = true := by simp [h.okN0, h.okN1, hl, ho]
  cases hr : right a0.toNat a1.toNat (spOf l) with
  | false =>
    rw [hr] at hR
    refine ⟨(0, 0, [], 0, 50), by unfold alloc_Take.f; rw [if_pos hg, if_neg (by simp [hr])], ?_⟩
    unfold bazaarref05_Take.f
    refine Ev.bind hR ?_
    simp only [Bool.false_eq_true, if_false]
    exact Ev.now _
  | true =>
    rw [hr] at hR
    obtain ⟨g1, g2, g3, g4, g5, g6⟩ := (right_iff _ _ _).1 hr
    have h0 := h.h0
    have h2 := h.h2
    refine ⟨takeAns o a0 a1 [] l, ?_, ?_⟩
    · unfold alloc_Take.f takeAns
      rw [if_pos hg, if_pos hr]
      cases takeL o.toNat (spOf l) with
      | none => simp only [List.nil_append]; split <;> rfl
      | some x => rfl
    · unfold bazaarref05_Take.f
      refine Ev.bind hR ?_
      simp only [if_true]
      have := ev_rtake0 o a0 a1 l hl ho h0 (by omega) h.h3 (fun s hs => by
        have hm := mem_spOf' hl hs
        have := (g6.mem _ hm).1
        simp only at this
        omega) l.length 0 [] (by omega) (by simp)
      simpa using this
/-- What Give comes to, behind its start. -/
def giveAns (p t a0 a1 : Int) (done : Bool) (xs l : List S44) : Int × Int × List S44 × Int :=
  if l.any (fun s => s.f0 == p) then (0, 0, [], 50) else (a0, a1, xs ++ (if done then l else ofSp (giveL p.toNat t.toNat (spOf l))), 0)

theorem giveL_nil (p t : Nat) : giveL p t [] = [(p, t)] := rfl
theorem giveL_less {p t : Nat} {x : Sp} (l : List Sp) (h : x.1 < p) : giveL p t (x :: l) = x :: giveL p t l := by
  simp [giveL, List.takeWhile_cons, List.dropWhile_cons, lessP, h]
theorem giveL_more {p t : Nat} {x : Sp} (l : List Sp) (h : ¬ x.1 < p) : giveL p t (x :: l) = (p, t) :: x :: l := by
  simp [giveL, List.takeWhile_cons, List.dropWhile_cons, lessP, h]

theorem ev_rgive0 (p t a0 a1 : Int) (l : List S44) (hok : okL l = true) (hp : 0 ≤ p) (ht : 0 ≤ t) : ∀ (n i : Nat) (xs : List S44) (done : Bool), i + n = l.length → xs.length ≤ 2 * i →
    Ev (fun k => bazaarref05_Give.l0 k p t xs done (i : Int) a0 a1 l) (giveAns p t a0 a1 done xs (l.drop i)) := by
  have hl := okL_len hok
  intro n
  induction n with
  | zero =>
    intro i xs done h hx
    refine Ev.step (f := fun _ => some _) (fun k => ?_) (Ev.now _)
    simp only [bazaarref05_Give.l0]
    rw [if_neg (by omega), List.drop_of_length_le (by omega)]
    cases done with
    | true => simp [giveAns]
    | false =>
      simp only [Bool.false_eq_true, if_false, giveAns, List.any_nil, spOf, List.map_nil, giveL_nil, ofSp, List.map_cons]
      rw [if_pos (by omega), Int.toNat_of_nonneg hp, Int.toNat_of_nonneg ht]
  | succ n ih =>
    intro i xs done h hx
    have hi : i < l.length := by omega
    have hm := okL_mem hok _ (List.getElem_mem hi)
    have hw : wrap64 ((i : Int) + 1) = ((i + 1 : Nat) : Int) := by unfold wrap64; omega
    rw [List.drop_eq_getElem_cons hi]
    have hd : ∀ s ∈ l.drop (i + 1), 0 ≤ s.f0 ∧ s.f0 < 4294967296 ∧ 0 ≤ s.f1 := fun s hs => okL_mem hok s (List.mem_of_mem_drop hs)
    by_cases he : (l[i]'hi).f0 = p
    · have e : giveAns p t a0 a1 done xs (l[i]'hi :: l.drop (i + 1)) = (0, 0, [], 50) := by simp only [giveAns, List.any_cons, he, beq_self_eq_true, Bool.true_or, if_true]
      rw [e]
      refine Ev.step (f := fun _ => some _) (fun k => ?_) (Ev.now _)
      simp only [bazaarref05_Give.l0]
      rw [if_pos (by omega), if_pos (by omega), rd_at l i hi, if_pos he]
    · have hbe : ((l[i]'hi).f0 == p) = false := by simpa using he
      cases done with
      | true =>
        have e : giveAns p t a0 a1 true xs (l[i]'hi :: l.drop (i + 1)) = giveAns p t a0 a1 true (xs ++ [l[i]'hi]) (l.drop (i + 1)) := by
          simp only [giveAns, List.any_cons, hbe, Bool.false_or, if_true, List.append_assoc, List.singleton_append]
        rw [e]
        refine Ev.step (fun k => ?_) (ih (i + 1) (xs ++ [l[i]'hi]) true (by omega) (by simp; omega))
        simp only [bazaarref05_Give.l0]
        rw [if_pos (by omega), if_pos (by omega), rd_at l i hi, if_neg he, if_pos trivial, if_pos (by omega), hw]
      | false =>
        by_cases hgt : (l[i]'hi).f0 > p
        · have e : giveAns p t a0 a1 false xs (l[i]'hi :: l.drop (i + 1)) = giveAns p t a0 a1 true (xs ++ [⟨p, t⟩] ++ [l[i]'hi]) (l.drop (i + 1)) := by
            simp only [giveAns, List.any_cons, hbe, Bool.false_or, if_true, Bool.false_eq_true, if_false, spOf_cons]
            rw [giveL_more _ (show ¬ ((l[i]'hi).f0.toNat, (l[i]'hi).f1.toNat).1 < p.toNat by simp only; omega)]
            rw [ofSp_cons, ofSp_cons, ofSp_spOfm hd]
            simp only
            rw [Int.toNat_of_nonneg hp, Int.toNat_of_nonneg ht, Int.toNat_of_nonneg hm.1, Int.toNat_of_nonneg hm.2.2]
            simp only [List.append_assoc, List.singleton_append, List.cons_append, List.nil_append]
          rw [e]
          refine Ev.step (fun k => ?_) (ih (i + 1) (xs ++ [⟨p, t⟩] ++ [l[i]'hi]) true (by omega) (by simp; omega))
          simp only [bazaarref05_Give.l0]
          rw [if_pos (by omega), if_pos (by omega), rd_at l i hi, if_neg he, if_neg (by decide), if_pos hgt, if_pos (by omega), Option.bind_some, if_pos (show (xs ++ [(⟨p, t⟩ : S44)]).length < 8796093022208 by rw [List.length_append, List.length_singleton]; omega), hw]
        · have e : giveAns p t a0 a1 false xs (l[i]'hi :: l.drop (i + 1)) = giveAns p t a0 a1 false (xs ++ [l[i]'hi]) (l.drop (i + 1)) := by
            simp only [giveAns, List.any_cons, hbe, Bool.false_or, Bool.false_eq_true, if_false, spOf_cons]
            rw [giveL_less _ (show ((l[i]'hi).f0.toNat, (l[i]'hi).f1.toNat).1 < p.toNat by simp only; omega)]
            rw [ofSp_cons]
            simp only
            rw [Int.toNat_of_nonneg hm.1, Int.toNat_of_nonneg hm.2.2]
            simp only [List.append_assoc, List.singleton_append, List.cons_append, List.nil_append]
          rw [e]
          refine Ev.step (fun k => ?_) (ih (i + 1) (xs ++ [l[i]'hi]) false (by omega) (by simp; omega))
          simp only [bazaarref05_Give.l0]
          rw [if_pos (by omega), if_pos (by omega), rd_at l i hi, if_neg he, if_neg (by decide), if_neg hgt, if_pos (by omega), hw]

theorem any_page {l : List S44} (h : okL l = true) (p : Int) (hp : 0 ≤ p) : (spOf l).any (fun s => s.1 == p.toNat) = l.any (fun s => s.f0 == p) := by
  rw [spOf, List.any_map]
  apply Bool.eq_iff_iff.2
  simp only [List.any_eq_true, Function.comp_apply, beq_iff_eq]
  constructor
  · rintro ⟨s, hs, e⟩
    have := (okL_mem h s hs).1
    exact ⟨s, hs, by omega⟩
  · rintro ⟨s, hs, e⟩; exact ⟨s, hs, by rw [e]⟩

theorem ev_rgive {a0 a1 : Int} {l : List S44} (h : Okay a0 a1 l) (hl : okL l = true) {p t : Int} (hp : 0 ≤ p) (hp2 : p < 4294967296) (ht : 0 ≤ t) : ∃ x, alloc_Give.f a0 a1 l p t = some x ∧ Ev (fun k => bazaarref05_Give.f k a0 a1 l p t) x := by
  have hR := ev_rright h hl
  have hk : okN p = true := by simp [okN, hp, hp2]
  have hg : (okN a0 && okN a1 && okL l && okN p && decide (0 ≤ t)) = true := by simp [h.okN0, h.okN1, hl, ht, hk]
  have hj : ∀ _ : Nat, Ev (fun k => bazaarref05_Give.j0 k p t true a0 a1 l) (0, 0, [], 50) := fun _ => Ev.step (f := fun _ => some _) (fun k => by simp only [bazaarref05_Give.j0, if_true]) (Ev.now _)
  have bad : gOk a0.toNat a1.toNat (spOf l) p.toNat t.toNat = false → alloc_Give.f a0 a1 l p t = some (0, 0, [], 50) := fun hb => by
    unfold alloc_Give.f; rw [if_pos hg, if_neg (by simp [hb])]
  have h0 := h.h0
  cases hr : right a0.toNat a1.toNat (spOf l) with
  | false =>
    rw [hr] at hR
    refine ⟨_, bad (by simp [gOk, hr]), ?_⟩
    unfold bazaarref05_Give.f
    refine Ev.bind hR ?_
    simp only [Bool.false_eq_true, if_false]
    exact hj 0
  | true =>
    rw [hr] at hR
    by_cases c1 : p < 2
    · refine ⟨_, bad (by simp only [gOk, show decide (2 ≤ p.toNat) = false by simp; omega]; simp), ?_⟩
      unfold bazaarref05_Give.f
      refine Ev.bind hR ?_
      simp only [if_true, if_pos c1]; exact hj 0
    by_cases c2 : p ≥ a0
    · refine ⟨_, bad (by simp only [gOk, show decide (p.toNat < a0.toNat) = false by simp; omega]; simp), ?_⟩
      unfold bazaarref05_Give.f
      refine Ev.bind hR ?_
      simp only [if_true, if_neg c1, if_pos c2]; exact hj 0
    by_cases c3 : t < 1
    · refine ⟨_, bad (by simp only [gOk, show decide (t.toNat ≠ 0) = false by simp; omega]; simp), ?_⟩
      unfold bazaarref05_Give.f
      refine Ev.bind hR ?_
      simp only [if_true, if_neg c1, if_neg c2, if_pos c3]; exact hj 0
    obtain ⟨g1, g2, g3, g4, g5, g6⟩ := (right_iff _ _ _).1 hr
    rw [spOf_length] at g5
    by_cases c4 : l.length = 4096
    · refine ⟨_, bad (by simp only [gOk, spOf_length, show decide (l.length ≠ 4096) = false by simp; omega]; simp), ?_⟩
      unfold bazaarref05_Give.f
      refine Ev.bind hR ?_
      simp only [if_true, if_neg c1, if_neg c2, if_neg c3, show decide ((l.length : Int) ≥ 4096) = true by simp; omega]; exact hj 0
    have hany := any_page hl p hp
    have hrun : Ev (fun k => bazaarref05_Give.f k a0 a1 l p t) (giveAns p t a0 a1 false [] l) := by
      unfold bazaarref05_Give.f
      refine Ev.bind hR ?_
      simp only [if_true, if_neg c1, if_neg c2, if_neg c3, show decide ((l.length : Int) ≥ 4096) = false by simp; omega]
      have := ev_rgive0 p t a0 a1 l hl hp ht l.length 0 [] false (by omega) (by simp)
      rw [List.drop_zero] at this
      refine Ev.step (fun k => ?_) this
      simp only [bazaarref05_Give.j0, Bool.false_eq_true, if_false]
      rfl
    refine ⟨_, ?_, hrun⟩
    cases ha : l.any (fun s => s.f0 == p) with
    | true =>
      rw [bad (by rw [gOk, hany, ha]; simp)]
      simp [giveAns, ha]
    | false =>
      have hGo : gOk a0.toNat a1.toNat (spOf l) p.toNat t.toNat = true := by
        rw [gOk, hany, ha, hr, spOf_length]
        simp
        omega
      unfold alloc_Give.f
      rw [if_pos hg, if_pos hGo]
      simp [giveAns, ha]
/-- What the walk of AllocTakes wants, at one number of rounds. -/
theorem takes_pure {a0 a1 : Int} {l0 : List S44} (h0 : Okay a0 a1 l0) {o p t : Int} (ho : 0 ≤ o) (hp : 0 ≤ p) (hp2 : p < 4294967296) (ht : 0 ≤ t) :
    ∃ (k : Nat) (R : Bool) (r1 r2 : Int) (r3 : List S44) (r4 r5 q1 q2 : Int) (q3 : List S44) (q4 : Int),
      bazaarlaw05_cut.f a0 a1 l0 = some (a0, a1, l0.take 4100) ∧ alloc_Right.f a0 a1 (l0.take 4100) = some R ∧ bazaarref05_Right.f k a0 a1 (l0.take 4100) = some R ∧
      alloc_Take.f a0 a1 (l0.take 4100) o = some (r1, r2, r3, r4, r5) ∧ bazaarref05_Take.f k a0 a1 (l0.take 4100) o = some (r1, r2, r3, r4, r5) ∧
      alloc_Give.f a0 a1 (l0.take 4100) p t = some (q1, q2, q3, q4) ∧ bazaarref05_Give.f k a0 a1 (l0.take 4100) p t = some (q1, q2, q3, q4) ∧
      bazaarlaw05_same.f k r1 r2 r3 r1 r2 r3 = some true ∧ bazaarlaw05_same.f k q1 q2 q3 q1 q2 q3 = some true := by
  have h := h0.cut
  have hl := h0.okL
  have hlen := okL_len hl
  obtain ⟨k1, e1⟩ := ev_rright h hl
  obtain ⟨⟨r1, r2, r3, r4, r5⟩, hT, k2, e2⟩ := ev_rtake h hl ho
  obtain ⟨⟨q1, q2, q3, q4⟩, hG, k3, e3⟩ := ev_rgive h hl hp hp2 ht
  have hr3 : r3.length ≤ 8796093022208 := by
    rcases take_ways h hl ho with ⟨_, hx⟩ | ⟨_, _, r, htk, hx⟩ | ⟨_, _, _, hx⟩ | ⟨_, _, _, hx⟩
    all_goals (
      rw [hT] at hx
      simp only [Option.some.injEq, Prod.mk.injEq] at hx
      obtain ⟨rfl, rfl, rfl, rfl, rfl⟩ := hx)
    · simp
    · obtain ⟨l1, t', l2, hsp, rfl, _⟩ := takeL_some htk
      have := congrArg List.length hsp
      rw [spOf_length] at this
      rw [ofSp_length]
      simp at this ⊢
      omega
    · omega
    · omega
  have hq3 : q3.length ≤ 8796093022208 := by
    unfold alloc_Give.f at hG
    split at hG
    · split at hG
      · simp only [Option.some.injEq, Prod.mk.injEq] at hG
        obtain ⟨rfl, rfl, rfl, rfl⟩ := hG
        rw [ofSp_length, giveL_length, spOf_length]
        omega
      · simp only [Option.some.injEq, Prod.mk.injEq] at hG
        obtain ⟨rfl, rfl, rfl, rfl⟩ := hG
        simp
    · simp at hG
  obtain ⟨k4, e4⟩ := ev_lsame r1 r2 r3 hr3
  obtain ⟨k5, e5⟩ := ev_lsame q1 q2 q3 hq3
  refine ⟨max (max (max k1 k2) (max k3 k4)) k5, right a0.toNat a1.toNat (spOf (l0.take 4100)), r1, r2, r3, r4, r5, q1, q2, q3, q4, cut_eq h0, by rw [alloc_Right.f, if_pos (by simp [h.okN0, h.okN1, hl])], e1 _ (by omega), hT, e2 _ (by omega), hG, e3 _ (by omega), e4 _ (by omega), e5 _ (by omega)⟩
end Go.Proofs.YtnbmpcdomdaimaaQ.PA
