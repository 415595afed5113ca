/- The pure statement of AllocGiven. -/
import Derived.Test.YtnbmpcdomdaimaaPuz
import Derived.Test.YtnbmpcdomdaimaaPAx6
namespace Go.Proofs.YtnbmpcdomdaimaaQ.PA
open Go.RowKit Go.Proofs.YtnbmpcdomdaimaaW.PrintWords Go.Proofs.YtnbmpcdomdaimaaW.PrintLast Go.Proofs.YtnbmpcdomdaimaaW.PrintMore
open Go.Proofs.Ytnbmpcdomdaimaa (Sp right takeL gOk right_iff takeL_split takeL_none takeL_some good_mid good_drop good_append good_insert)
set_option linter.unusedVariables false
set_option linter.unusedSimpArgs false

def isSp (p t : Int) (s : S44) : Bool := s.f0 == p && s.f1 == t

theorem ev_given0 (p t : Int) (a0 a1 b0 b1 : Int) (l m : List S44) (hm : m.length ≤ 5000) (hone : m.countP (isSp p t) = 1) (hlen : m.length = l.length + 1) (hr : alloc_Right.f b0 b1 m = some true) (hb : b0 = a0) :
    ∀ (n i c : Nat), i + n = m.length → c + (m.drop i).countP (isSp p t) = 1 → Ev (fun k => bazaarlaw05_AllocGiven.l0 k p t true (c : Int) (i : Int) a0 a1 l b0 b1 m) true := by
  intro n
  induction n with
  | zero =>
    intro i c h hc
    rw [List.drop_of_length_le (by omega)] at hc
    simp only [List.countP_nil, Nat.add_zero] at hc
    subst hc
    refine Ev.step (f := fun _ => some true) (fun k => ?_) (Ev.now true)
    simp only [bazaarlaw05_AllocGiven.l0]
    rw [if_neg (by omega), if_pos trivial, if_pos (by rfl), wrap_up (n := m.length) (by omega) (by omega) (by omega), if_pos (by omega), hr]
    simp [hb]
  | succ n ih =>
    intro i c h hc
    have hi : i < m.length := by omega
    rw [List.drop_eq_getElem_cons hi, List.countP_cons] at hc
    have hw : wrap64 ((i : Int) + 1) = ((i + 1 : Nat) : Int) := by rw [wrap_up (n := m.length) (by omega) (by omega) (by omega)]; rfl
    cases hs : isSp p t (m[i]'hi) with
    | true =>
      rw [hs] at hc
      simp only [if_true] at hc
      have hc0 : c = 0 := by omega
      subst hc0
      refine Ev.step (fun k => ?_) (ih (i + 1) 1 (by omega) (by omega))
      simp only [bazaarlaw05_AllocGiven.l0]
      rw [if_pos (by omega), if_pos (by omega), rd_at m i hi, if_pos (show ((m[i]'hi).f0 == p && (m[i]'hi).f1 == t) = true from hs), hw, show wrap64 (((0 : Nat) : Int) + 1) = ((1 : Nat) : Int) from by unfold wrap64; omega]
    | false =>
      rw [hs] at hc
      simp only [Bool.false_eq_true, if_false, Nat.add_zero] at hc
      refine Ev.step (fun k => ?_) (ih (i + 1) c (by omega) hc)
      simp only [bazaarlaw05_AllocGiven.l0]
      rw [if_pos (by omega), if_pos (by omega), rd_at m i hi, if_neg (show ¬ ((m[i]'hi).f0 == p && (m[i]'hi).f1 == t) = true from by rw [show ((m[i]'hi).f0 == p && (m[i]'hi).f1 == t) = false from hs]; simp), hw]

theorem less_split {p : Nat} {m b : Nat} : ∀ {l : List Sp}, Go.Proofs.Ytnbmpcdomdaimaa.Good m b l → (∀ s ∈ l, s.1 ≠ p) → (∀ s ∈ l.takeWhile (lessP p), s.1 < p) ∧ (∀ s ∈ l.dropWhile (lessP p), p < s.1) := by
  intro l
  induction l generalizing b with
  | nil => intro _ _; simp
  | cons x l ih =>
    intro h hne
    have ih' := ih h.2.2.2 (fun s hs => hne s (by simp [hs]))
    by_cases hx : x.1 < p
    · have hxp : lessP p x = true := by simp [lessP, hx]
      rw [List.takeWhile_cons, List.dropWhile_cons, hxp]
      simp only [if_true]
      refine ⟨fun s hs => ?_, ih'.2⟩
      rcases List.mem_cons.1 hs with rfl | hs
      · exact hx
      · exact ih'.1 s hs
    · have hxp : lessP p x = false := by simp [lessP]; omega
      rw [List.takeWhile_cons, List.dropWhile_cons, hxp]
      refine ⟨by simp, fun s hs => ?_⟩
      have hxn := hne x (by simp)
      rcases List.mem_cons.1 hs with rfl | hs
      · omega
      · have := (h.2.2.2.mem s hs).1; omega

theorem ofSp_ok {m b : Nat} {l : List Sp} (h : Go.Proofs.Ytnbmpcdomdaimaa.Good m b l) (hm : m < 4294967296) (hl : l.length ≤ 5000) : okL (ofSp l) = true := by
  simp only [okL, Bool.and_eq_true, List.all_eq_true, decide_eq_true_eq]
  refine ⟨by rw [ofSp_length]; exact hl, fun s hs => ?_⟩
  obtain ⟨x, hx, rfl⟩ := List.mem_map.1 hs
  have := (h.mem x hx).2.1
  exact ⟨⟨Int.natCast_nonneg _, by show (x.1 : Int) < _; omega⟩, Int.natCast_nonneg _⟩
theorem spOf_ofSp (l : List Sp) : spOf (ofSp l) = l := by
  induction l with
  | nil => rfl
  | cons x l ih =>
    show ((x.1 : Int).toNat, (x.2 : Int).toNat) :: spOf (ofSp l) = x :: l
    rw [ih]; rfl

theorem give_ways' {a0 a1 : Int} {l : List S44} (h : Okay a0 a1 l) (hl : okL l = true) {p t : Int} (hp : 0 ≤ p) (hp2 : p < 4294967296) (ht : 0 ≤ t) :
    (gOk a0.toNat a1.toNat (spOf l) p.toNat t.toNat = false ∧ alloc_Give.f a0 a1 l p t = some (0, 0, [], 50)) ∨
    (gOk a0.toNat a1.toNat (spOf l) p.toNat t.toNat = true ∧ alloc_Give.f a0 a1 l p t = some (a0, a1, ofSp (giveL p.toNat t.toNat (spOf l)), 0)) := by
  have hk : okN p = true := by simp [okN, hp, hp2]
  have hg : (okN a0 && okN a1 && okL l && okN p && decide (0 ≤ t)) = true := by simp [h.okN0, h.okN1, hl, ht, hk]
  cases hG : gOk a0.toNat a1.toNat (spOf l) p.toNat t.toNat with
  | false => exact .inl ⟨rfl, by rw [alloc_Give.f, if_pos hg, if_neg (by simp [hG])]⟩
  | true => exact .inr ⟨rfl, by rw [alloc_Give.f, if_pos hg, if_pos hG]⟩

theorem gOk_iff (hi ca : Nat) (l : List Sp) (p t : Nat) : gOk hi ca l p t = true ↔ right hi ca l = true ∧ 2 ≤ p ∧ p < hi ∧ 0 < t ∧ l.length ≠ 4096 ∧ ∀ s ∈ l, s.1 ≠ p := by
  simp only [gOk, Bool.and_eq_true, decide_eq_true_eq, Bool.not_eq_true', List.any_eq_false, beq_iff_eq]
  constructor
  · rintro ⟨⟨⟨⟨h1, h2, h3⟩, h4⟩, h5⟩, h6⟩; exact ⟨h1, h2, h3, by omega, h5, h6⟩
  · rintro ⟨h1, h2, h3, h4, h5, h6⟩; exact ⟨⟨⟨⟨h1, h2, h3⟩, by omega⟩, h5⟩, h6⟩

/-- What is given keeps the alloc right. -/
theorem give_right {hi ca p t : Nat} {l : List Sp} (h : gOk hi ca l p t = true) : right hi ca (giveL p t l) = true ∧ Go.Proofs.Ytnbmpcdomdaimaa.Good (hi - 1) 1 (giveL p t l) := by
  obtain ⟨hR, h2, h3, h4, h5, h6⟩ := (gOk_iff _ _ _ _ _).1 h
  obtain ⟨g1, g2, g3, g4, g5, hG⟩ := (right_iff _ _ _).1 hR
  obtain ⟨s1, s2⟩ := less_split hG h6
  have hG' : Go.Proofs.Ytnbmpcdomdaimaa.Good (hi - 1) 1 (l.takeWhile (lessP p) ++ l.dropWhile (lessP p)) := by rw [List.takeWhile_append_dropWhile]; exact hG
  have hn := good_insert (t := t) hG' s1 s2 (by omega) (show p ≤ hi - 1 by omega) h4
  exact ⟨(right_iff _ _ _).2 ⟨g1, g2, g3, g4, by rw [giveL_length]; omega, hn⟩, hn⟩

theorem given_pure (a0 a1 : Int) (l0 : List S44) (p t : Int) (h0 : Okay a0 a1 l0) (hp : 0 ≤ p) (hp2 : p < 4294967296) (ht0 : 0 ≤ t) : ∃ k, bazaarlaw05_AllocGiven.f k a0 a1 l0 p t = some true := by
  apply Ev.rounds
  unfold bazaarlaw05_AllocGiven.f
  simp only [bazaarlaw05_shown.f, Option.bind_some, cut_eq h0]
  have h := h0.cut
  have hl := h0.okL
  obtain ⟨l, hll⟩ : ∃ l, l0.take 4100 = l := ⟨_, rfl⟩
  rw [hll] at h hl ⊢
  have hlen := okL_len hl
  rcases give_ways' h hl hp hp2 ht0 with ⟨_, hg⟩ | ⟨hG, hg⟩
  · rw [hg]
    simp only [Option.bind_some, if_true, show ¬ ((50 : Int) = 0) by decide, if_false]
    exact Ev.now true
  · rw [hg]
    simp only [Option.bind_some, if_true]
    obtain ⟨pn, rfl⟩ := Int.eq_ofNat_of_zero_le hp
    obtain ⟨tn, rfl⟩ := Int.eq_ofNat_of_zero_le ht0
    simp only [Int.toNat_natCast] at hG ⊢
    obtain ⟨hR, h2, h3, h4, h5, h6⟩ := (gOk_iff _ _ _ _ _).1 hG
    obtain ⟨hr', hgood⟩ := give_right hG
    have hhi := h.h1
    have hhi0 := h.h0
    obtain ⟨_, _, _, _, g5, _⟩ := (right_iff _ _ _).1 hR
    have hgl : (ofSp (giveL pn tn (spOf l))).length = l.length + 1 := by rw [ofSp_length, giveL_length, spOf_length]
    have hok : okL (ofSp (giveL pn tn (spOf l))) = true := ofSp_ok hgood (by omega) (by rw [giveL_length]; omega)
    have hright : alloc_Right.f a0 a1 (ofSp (giveL pn tn (spOf l))) = some true := by
      rw [alloc_Right.f, if_pos (by simp [h.okN0, h.okN1, hok]), spOf_ofSp, hr']
    have hcount : (ofSp (giveL pn tn (spOf l))).countP (isSp pn tn) = 1 := by
      have hz : ∀ m : List Sp, (∀ s ∈ m, s.1 ≠ pn) → (ofSp m).countP (isSp pn tn) = 0 := by
        intro m hm
        rw [List.countP_eq_zero]
        intro s hs
        obtain ⟨x, hx, rfl⟩ := List.mem_map.1 hs
        have := hm x hx
        simp only [isSp, Bool.and_eq_true, beq_iff_eq]
        omega
      have hsub1 : ∀ s ∈ (spOf l).takeWhile (lessP pn), s.1 ≠ pn := fun s hs => h6 s (List.takeWhile_subset _ hs)
      have hsub2 : ∀ s ∈ (spOf l).dropWhile (lessP pn), s.1 ≠ pn := fun s hs => h6 s (List.dropWhile_subset _ hs)
      have e : ofSp (giveL pn tn (spOf l)) = ofSp ((spOf l).takeWhile (lessP pn)) ++ ((⟨(pn : Int), (tn : Int)⟩ : S44) :: ofSp ((spOf l).dropWhile (lessP pn))) := by
        simp [ofSp, giveL]
      rw [e, List.countP_append, List.countP_cons, hz _ hsub1, hz _ hsub2]
      simp [isSp]
    have hm5 : (ofSp (giveL pn tn (spOf l))).length ≤ 5000 := by rw [hgl]; rw [spOf_length] at g5; omega
    exact ev_given0 pn tn a0 a1 a0 a1 l _ hm5 hcount hgl hright rfl _ 0 0 (Nat.zero_add _) (by rw [List.drop_zero]; omega)
end Go.Proofs.YtnbmpcdomdaimaaQ.PA
