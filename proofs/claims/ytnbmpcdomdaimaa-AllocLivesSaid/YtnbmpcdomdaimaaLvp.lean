/- AllocLives, in plain Lean: what holds between the acts, and what an act does to it. -/
import Derived.Test.YtnbmpcdomdaimaaPug
namespace Go.Proofs.YtnbmpcdomdaimaaQ.PA
open Go.RowKit Go.Proofs.YtnbmpcdomdaimaaW.PrintWords Go.Proofs.YtnbmpcdomdaimaaW.PrintLast Go.Proofs.YtnbmpcdomdaimaaW.PrintMore
open Go.Proofs.Ytnbmpcdomdaimaa (Sp right okFrom takeL gOk right_iff takeL_split takeL_none takeL_some good_mid good_drop good_append good_insert)
set_option linter.unusedVariables false
set_option linter.unusedSimpArgs false

def upd (T : Nat → Bool) (p : Nat) (b : Bool) : Nat → Bool := fun q => if q = p then b else T q

/-- What holds between the acts: a0 pages so far, the spares l, which pages are taken, how many. -/
structure Inv (m : Nat) (a0 : Int) (l : List S44) (T : Nat → Bool) (n : Int) : Prop where
  le : m ≤ 200
  ok : okL l = true
  h0 : 0 ≤ a0
  hR : right a0.toNat m (spOf l) = true
  tk : ∀ p : Nat, T p = true → 2 ≤ p ∧ (p : Int) < a0 ∧ ∀ s ∈ spOf l, s.1 ≠ p
  fr : ∀ p : Nat, 2 ≤ p → (p : Int) < a0 → (∀ s ∈ spOf l, s.1 ≠ p) → T p = true
  cnt : n + l.length + 2 = a0

theorem Inv.okay {m : Nat} {a0 : Int} {l : List S44} {T : Nat → Bool} {n : Int} (h : Inv m a0 l T n) : Okay a0 (m : Int) l := by
  obtain ⟨g1, g2, g3, g4, g5, g6⟩ := (right_iff _ _ _).1 h.hR
  have := h.h0
  have := h.le
  have := okL_len h.ok
  exact ⟨h.h0, by omega, by omega, by omega, okL_mem h.ok, by omega⟩
theorem Inv.bounds {m : Nat} {a0 : Int} {l : List S44} {T : Nat → Bool} {n : Int} (h : Inv m a0 l T n) : 2 ≤ a0 ∧ a0 ≤ (m : Int) ∧ l.length ≤ 4096 ∧ 2 ≤ m := by
  obtain ⟨g1, g2, g3, g4, g5, g6⟩ := (right_iff _ _ _).1 h.hR
  have := h.h0
  rw [spOf_length] at g5
  omega

/-- Different pages below a number: fewer than it. -/
theorem good_len {m : Nat} : ∀ {l : List Sp} {b : Nat}, Go.Proofs.Ytnbmpcdomdaimaa.Good m b l → l.length ≤ m - b := by
  intro l
  induction l with
  | nil => intro b _; simp
  | cons x l ih =>
    intro b h
    have h1 := ih h.2.2.2
    have h2 := h.1
    have h3 := h.2.1
    simp only [List.length_cons]
    omega

theorem inv_first (m : Nat) (h2 : 2 ≤ m) (h200 : m ≤ 200) : Inv m 2 [] (fun _ => false) 0 :=
  ⟨h200, by simp [okL], by omega, (right_iff _ _ _).2 ⟨h2, by omega, by decide, by show 2 ≤ m; exact h2, by simp [spOf], trivial⟩, fun p hp => by simp at hp, fun p h1 h2 => by omega, by simp⟩

/-- An act that takes. -/
theorem inv_take {m : Nat} {a0 : Int} {l : List S44} {T : Nat → Bool} {n : Int} (h : Inv m a0 l T n) {o : Int} (ho : 0 ≤ o) :
    (a0 = (m : Int) ∧ alloc_Take.f a0 (m : Int) l o = some (a0, (m : Int), l, 0, 51)) ∨
    ∃ (b0 : Int) (l' : List S44) (p : Nat), alloc_Take.f a0 (m : Int) l o = some (b0, (m : Int), l', (p : Int), 0) ∧ 2 ≤ p ∧ p < m ∧ T p = false ∧ alloc_Right.f b0 (m : Int) l' = some true ∧ Inv m b0 l' (upd T p true) (n + 1) := by
  have hk := h.okay
  have hb := h.bounds
  obtain ⟨g1, g2, g3, g4, g5, g6⟩ := (right_iff _ _ _).1 h.hR
  have rr : ∀ {b0 : Int} {l' : List S44}, Inv m b0 l' (upd T 0 true) 0 → True := fun _ => trivial
  rcases take_ways hk h.ok ho with ⟨hR, ht⟩ | ⟨hR, p, r, hT, ht⟩ | ⟨hR, hT, he, ht⟩ | ⟨hR, hT, he, ht⟩
  · have := h.hR
    rw [Int.toNat_natCast, this] at hR
    cases hR
  · right
    obtain ⟨l1, t, l2, hsp, rfl, hto, hl1⟩ := takeL_some hT
    have hG' := g6
    rw [hsp] at hG'
    obtain ⟨m1, m2⟩ := good_mid hG'
    have hin : (p, t) ∈ spOf l := by rw [hsp]; simp
    have hpb := g6.mem _ hin
    have hlen := congrArg List.length hsp
    rw [spOf_length] at hlen
    simp only [List.length_append, List.length_cons] at hlen
    have hgd := good_drop hG'
    have hmem : ∀ q, (∀ s ∈ l1 ++ l2, s.1 ≠ q) ∧ q ≠ p ↔ ∀ s ∈ spOf l, s.1 ≠ q := by
      intro q
      rw [hsp]
      simp only [List.mem_append, List.mem_cons]
      constructor
      · rintro ⟨h1, h2⟩ s (hs | rfl | hs)
        · exact h1 s (.inl hs)
        · exact fun e => h2 e.symm
        · exact h1 s (.inr hs)
      · intro h1
        exact ⟨fun s hs => h1 s (by rcases hs with hs | hs; · exact .inl hs
                                    · exact .inr (.inr hs)), fun e => h1 (p, t) (.inr (.inl rfl)) e.symm⟩
    have hpn : ∀ s ∈ l1 ++ l2, s.1 ≠ p := by
      intro s hs
      rcases List.mem_append.1 hs with hs | hs
      · have := m1 s hs; simp only at this; omega
      · have := m2 s hs; simp only at this; omega
    have hok : okL (ofSp (l1 ++ l2)) = true := ofSp_ok hgd (by omega) (by rw [List.length_append]; omega)
    have hRn : right a0.toNat m (l1 ++ l2) = true := (right_iff _ _ _).2 ⟨g1, g2, g3, g4, by rw [List.length_append]; omega, hgd⟩
    refine ⟨a0, ofSp (l1 ++ l2), p, ht, by simp only at hpb; omega, by simp only at hpb; omega, ?_, ?_, ?_⟩
    · cases hTp : T p with
      | false => rfl
      | true => exact absurd rfl ((h.tk p hTp).2.2 _ hin)
    · rw [alloc_Right.f, if_pos (by simp [hk.okN0, hk.okN1, hok]), spOf_ofSp, Int.toNat_natCast, hRn]
    · refine ⟨h.le, hok, h.h0, by rw [spOf_ofSp]; exact hRn, ?_, ?_, ?_⟩
      · intro q hq
        rw [spOf_ofSp]
        by_cases e : q = p
        · subst e; exact ⟨by simp only at hpb; omega, by simp only at hpb; omega, hpn⟩
        · simp only [upd, if_neg e] at hq
          obtain ⟨h1, h2, h3⟩ := h.tk q hq
          exact ⟨h1, h2, ((hmem q).2 h3).1⟩
      · intro q h1 h2 h3
        rw [spOf_ofSp] at h3
        by_cases e : q = p
        · simp [upd, e]
        · simp only [upd, if_neg e]
          exact h.fr q h1 h2 ((hmem q).1 ⟨h3, e⟩)
      · have := h.cnt
        rw [ofSp_length, List.length_append]
        omega
  · exact .inl ⟨he, ht⟩
  · right
    have hlt : a0 < (m : Int) := by omega
    obtain ⟨a, rfl⟩ := Int.eq_ofNat_of_zero_le h.h0
    simp only [Int.toNat_natCast] at *
    have hgd := g6.weaken (m' := a + 1 - 1) (b' := 1) (Nat.le_refl _) (by omega)
    have hRn : right (a + 1) m (spOf l) = true := (right_iff _ _ _).2 ⟨g1, g2, by omega, by omega, g5, hgd⟩
    have hno : ∀ s ∈ spOf l, s.1 ≠ a := by intro s hs; have := (g6.mem s hs).2.1; omega
    refine ⟨(a : Int) + 1, l, a, ht, by omega, by omega, ?_, ?_, ?_⟩
    · cases hTp : T a with
      | false => rfl
      | true => have := (h.tk a hTp).2.1; omega
    · rw [alloc_Right.f, if_pos (by have := h.le; simp [okN, h.ok]; omega), show ((a : Int) + 1).toNat = a + 1 by omega, Int.toNat_natCast, hRn]
    · refine ⟨h.le, h.ok, by omega, by rw [show ((a : Int) + 1).toNat = a + 1 by omega]; exact hRn, ?_, ?_, ?_⟩
      · intro q hq
        by_cases e : q = a
        · subst e; exact ⟨by omega, by omega, hno⟩
        · simp only [upd, if_neg e] at hq
          obtain ⟨h1, h2, h3⟩ := h.tk q hq
          exact ⟨h1, by omega, h3⟩
      · intro q h1 h2 h3
        by_cases e : q = a
        · simp [upd, e]
        · simp only [upd, if_neg e]
          exact h.fr q h1 (by omega) h3
      · have := h.cnt
        omega

/-- An act that gives. -/
theorem inv_give {m : Nat} {a0 : Int} {l : List S44} {T : Nat → Bool} {n : Int} (h : Inv m a0 l T n) (p : Nat) (hp : p < 200) (t : Int) (ht : 0 ≤ t) :
    (T p = true ∧ 0 < t ∧ ∃ l', alloc_Give.f a0 (m : Int) l (p : Int) t = some (a0, (m : Int), l', 0) ∧ Inv m a0 l' (upd T p false) (n - 1)) ∨
    ((T p = false ∨ t = 0) ∧ alloc_Give.f a0 (m : Int) l (p : Int) t = some (0, 0, [], 50)) := by
  have hk := h.okay
  have hb := h.bounds
  have hle := h.le
  obtain ⟨g1, g2, g3, g4, g5, g6⟩ := (right_iff _ _ _).1 h.hR
  have hgl := good_len g6
  rw [spOf_length] at hgl
  rcases give_ways' hk h.ok (p := (p : Int)) (t := t) (by omega) (by omega) ht with ⟨hG, hg⟩ | ⟨hG, hg⟩
  · refine .inr ⟨?_, hg⟩
    simp only [Int.toNat_natCast] at hG
    cases hTp : T p with
    | false => exact .inl rfl
    | true =>
      right
      obtain ⟨h1, h2, h3⟩ := h.tk p hTp
      rcases Int.lt_or_eq_of_le ht with hlt | heq
      · exfalso
        have : gOk a0.toNat m (spOf l) p t.toNat = true := (gOk_iff _ _ _ _ _).2 ⟨h.hR, h1, by omega, by omega, by rw [spOf_length]; omega, h3⟩
        rw [this] at hG
        cases hG
      · exact heq.symm
  · simp only [Int.toNat_natCast] at hG
    obtain ⟨hR, h2, h3, h4, h5, h6⟩ := (gOk_iff _ _ _ _ _).1 hG
    obtain ⟨hr', hgood⟩ := give_right hG
    have hgl2 : (giveL p t.toNat (spOf l)).length = l.length + 1 := by rw [giveL_length, spOf_length]
    have hok : okL (ofSp (giveL p t.toNat (spOf l))) = true := ofSp_ok hgood (by omega) (by rw [hgl2]; omega)
    have hmem : ∀ q, (∀ s ∈ giveL p t.toNat (spOf l), s.1 ≠ q) ↔ (∀ s ∈ spOf l, s.1 ≠ q) ∧ q ≠ p := by
      intro q
      have e := List.takeWhile_append_dropWhile (p := lessP p) (l := spOf l)
      constructor
      · intro h1
        refine ⟨fun s hs => ?_, fun e' => h1 (p, t.toNat) (by simp [giveL]) e'.symm⟩
        have hs' : s ∈ (spOf l).takeWhile (lessP p) ++ (spOf l).dropWhile (lessP p) := by rw [e]; exact hs
        rcases List.mem_append.1 hs' with hs | hs
        · exact h1 s (by simp [giveL, hs])
        · exact h1 s (by simp [giveL, hs])
      · rintro ⟨h1, h2⟩ s hs
        simp only [giveL, List.mem_append, List.mem_cons] at hs
        rcases hs with hs | rfl | hs
        · exact h1 s (List.takeWhile_subset _ hs)
        · exact fun e' => h2 e'.symm
        · exact h1 s (List.dropWhile_subset _ hs)
    refine .inl ⟨h.fr p h2 (by omega) h6, by omega, _, hg, h.le, hok, h.h0, by rw [spOf_ofSp]; exact hr', ?_, ?_, ?_⟩
    · intro q hq
      rw [Int.toNat_natCast, spOf_ofSp]
      by_cases e : q = p
      · simp [upd, e] at hq
      · simp only [upd, if_neg e] at hq
        obtain ⟨x1, x2, x3⟩ := h.tk q hq
        exact ⟨x1, x2, (hmem q).2 ⟨x3, e⟩⟩
    · intro q x1 x2 x3
      rw [Int.toNat_natCast, spOf_ofSp] at x3
      obtain ⟨x4, x5⟩ := (hmem q).1 x3
      simp only [upd, if_neg x5]
      exact h.fr q x1 x2 x4
    · have := h.cnt
      rw [ofSp_length, Int.toNat_natCast, hgl2]
      omega
end Go.Proofs.YtnbmpcdomdaimaaQ.PA
