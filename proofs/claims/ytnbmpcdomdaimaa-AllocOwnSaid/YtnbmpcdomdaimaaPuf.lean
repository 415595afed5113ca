/- The pure statements of AllocFresh and AllocOwn. -/
import Derived.Test.YtnbmpcdomdaimaaPu
import Derived.Test.YtnbmpcdomdaimaaPAx5
namespace Go.Proofs.YtnbmpcdomdaimaaQ.PA
open Go.RowKit Go.Proofs.YtnbmpcdomdaimaaW.PrintWords Go.Proofs.YtnbmpcdomdaimaaW.PrintLast Go.Proofs.YtnbmpcdomdaimaaW.PrintMore
open Go.Proofs.Ytnbmpcdomdaimaa (Sp right takeL gOk right_iff takeL_split takeL_none takeL_some Good good_mid good_drop good_append good_insert)
set_option linter.unusedVariables false
set_option linter.unusedSimpArgs false

theorem right_eq {a0 a1 : Int} {l : List S44} (h : Okay a0 a1 l) (hl : okL l = true) : alloc_Right.f a0 a1 l = some (right a0.toNat a1.toNat (spOf l)) := by
  rw [alloc_Right.f, if_pos (by simp [h.okN0, h.okN1, hl])]

theorem fresh_pure (a0 a1 : Int) (l0 : List S44) (h0 : Okay a0 a1 l0) : ∃ k, bazaarlaw05_AllocFresh.f k a0 a1 l0 = some true := by
  apply Ev.rounds
  unfold bazaarlaw05_AllocFresh.f
  simp only [bazaarlaw05_shown.f, Option.bind_some, cut_eq h0]
  have h := h0.cut
  have hl := h0.okL
  obtain ⟨l, hll⟩ : ∃ l, l0.take 4100 = l := ⟨_, rfl⟩
  rw [hll] at h hl ⊢
  have hlen := okL_len hl
  rcases take_ways h hl (Int.le_refl 0) with ⟨hR, ht⟩ | ⟨hR, p, r, hT, ht⟩ | ⟨hR, hT, he, ht⟩ | ⟨hR, hT, he, ht⟩
  · rw [ht, right_eq h hl, hR]
    simp only [Option.bind_some, if_true, Bool.false_eq_true, if_false, beq_self_eq_true]
    exact Ev.now true
  · exfalso
    obtain ⟨hG1, hG2, hG3, hG4, hG5, hG⟩ := (right_iff _ _ _).1 hR
    obtain ⟨l1, t, l2, hsp, rfl, hto, hl1⟩ := takeL_some hT
    have := (hG.mem (p, t) (by rw [hsp]; simp)).2.2
    simp at this hto
    omega
  · rw [ht, right_eq h hl, hR]
    simp only [Option.bind_some, if_true, he]
    exact Ev.bind (ev_lsame a1 a1 l (by omega)) (Ev.now true)
  · rw [ht, right_eq h hl, hR]
    obtain ⟨hG1, hG2, hG3, hG4, hG5, hG⟩ := (right_iff _ _ _).1 hR
    have hm : (a0 + 1) % 4294967296 = a0 + 1 := by have := h.h0; have := h.h2; have := h.h3; omega
    simp only [Option.bind_some, if_true, hm]
    simp only [if_neg he]
    exact Ev.bind (ev_same l (by omega)) (Ev.now true)

/-- What the first loop of AllocOwn does to what Take answered: nothing that counts. -/
theorem ev_own1 (a0 a1 b0 b1 : Int) (l m : List S44) (hm : m.length ≤ 5000) (hs : Ev (fun k => bazaarlaw05_same.f k a0 a1 l a0 a1 l) true) :
    ∀ (n i : Nat) (m : List S44), m.length ≤ 5000 → i + n = m.length → Ev (fun k => bazaarlaw05_AllocOwn.l1 k true (i : Int) a0 a1 l a0 a1 l b0 b1 m) true := by
  intro n
  induction n with
  | zero =>
    intro i m hm h
    refine Ev.step (fun k => ?_) (Ev.bind hs (Ev.now true))
    simp only [bazaarlaw05_AllocOwn.l1]
    rw [if_neg (by omega), if_pos trivial]
  | succ n ih =>
    intro i m hm h
    refine Ev.step (fun k => ?_) (ih (i + 1) (m.set i ⟨0, (rd_T44 m (i : Int)).f1⟩) (by rw [List.length_set]; omega) (by rw [List.length_set]; omega))
    simp only [bazaarlaw05_AllocOwn.l1]
    rw [if_pos (by omega), if_pos (by omega), wrap_up (n := m.length) (by omega) (by omega) (by omega)]
    rfl

theorem ev_own0 (a0 a1 b0 b1 p t : Int) (l : List S44) (hnext : ∃ x, alloc_Give.f a0 a1 l p t = some x ∧ Ev (fun k => bazaarlaw05_AllocOwn.l1 k true 0 a0 a1 l a0 a1 l x.1 x.2.1 x.2.2.1) true) :
    ∀ (n i : Nat) (m : List S44), m.length ≤ 5000 → i + n = m.length → Ev (fun k => bazaarlaw05_AllocOwn.l0 k p t true (i : Int) a0 a1 l a0 a1 l b0 b1 m) true := by
  obtain ⟨x, hx, hev⟩ := hnext
  intro n
  induction n with
  | zero =>
    intro i m hm h
    refine Ev.step (fun k => ?_) hev
    simp only [bazaarlaw05_AllocOwn.l0]
    rw [if_neg (by omega), hx]
    rfl
  | succ n ih =>
    intro i m hm h
    refine Ev.step (fun k => ?_) (ih (i + 1) (m.set i ⟨0, (rd_T44 m (i : Int)).f1⟩) (by rw [List.length_set]; omega) (by rw [List.length_set]; omega))
    simp only [bazaarlaw05_AllocOwn.l0]
    rw [if_pos (by omega), if_pos (by omega), wrap_up (n := m.length) (by omega) (by omega) (by omega)]
    rfl

theorem give_ways {a0 a1 : Int} {l : List S44} (h : Okay a0 a1 l) (hl : okL l = true) {p t : Int} (hp : 0 ≤ p) (hp2 : p < 4294967296) (ht : 0 ≤ t) :
    (gOk a0.toNat a1.toNat (spOf l) p.toNat t.toNat = false ∧ alloc_Give.f a0 a1 l p t = some (0, 0, [], 50)) ∨
    (gOk a0.toNat a1.toNat (spOf l) p.toNat t.toNat = true ∧ alloc_Give.f a0 a1 l p t = some (a0, a1, ofSp (giveL p.toNat t.toNat (spOf l)), 0)) := by
  have hg : (okN a0 && okN a1 && okL l && okN p && decide (0 ≤ t)) = true := by
    have hk : okN p = true := by simp [okN, hp, hp2]
    simp [h.okN0, h.okN1, hl, ht, hk]
  cases hG : gOk a0.toNat a1.toNat (spOf l) p.toNat t.toNat with
  | false => exact .inl ⟨rfl, by rw [alloc_Give.f, if_pos hg, if_neg (by simp [hG])]⟩
  | true => exact .inr ⟨rfl, by rw [alloc_Give.f, if_pos hg, if_pos hG]⟩

theorem take_cut (l : List S44) : (l.take 4100).take 4100 = l.take 4100 := by rw [List.take_take, Nat.min_self]

theorem own_pure (a0 a1 : Int) (l0 : List S44) (o p t : Int) (h0 : Okay a0 a1 l0) (ho : 0 ≤ o) (hp : 0 ≤ p) (hp2 : p < 4294967296) (ht0 : 0 ≤ t) : ∃ k, bazaarlaw05_AllocOwn.f k a0 a1 l0 o p t = some true := by
  apply Ev.rounds
  unfold bazaarlaw05_AllocOwn.f
  simp only [bazaarlaw05_shown.f, Option.bind_some, cut_eq h0, cut_eq h0.cut, take_cut]
  have h := h0.cut
  have hl := h0.okL
  obtain ⟨l, hll⟩ : ∃ l, l0.take 4100 = l := ⟨_, rfl⟩
  rw [hll] at h hl ⊢
  have hlen := okL_len hl
  have hs := ev_lsame a0 a1 l (by omega)
  have hnext : ∃ x, alloc_Give.f a0 a1 l p t = some x ∧ Ev (fun k => bazaarlaw05_AllocOwn.l1 k true 0 a0 a1 l a0 a1 l x.1 x.2.1 x.2.2.1) true := by
    rcases give_ways h hl hp hp2 ht0 with ⟨_, hg⟩ | ⟨hG, hg⟩
    · exact ⟨_, hg, ev_own1 a0 a1 0 0 l [] (by simp) hs 0 0 [] (by simp) rfl⟩
    · have hgl : (ofSp (giveL p.toNat t.toNat (spOf l))).length ≤ 5000 := by
        rw [ofSp_length, giveL_length, spOf_length]
        simp only [gOk, Bool.and_eq_true] at hG
        obtain ⟨_, _, _, _, hG5, _⟩ := (right_iff _ _ _).1 hG.1.1.1.1
        rw [spOf_length] at hG5
        omega
      exact ⟨_, hg, ev_own1 a0 a1 a0 a1 l _ hgl hs _ 0 _ hgl (Nat.zero_add _)⟩
  rcases take_ways h hl ho with ⟨hR, ht⟩ | ⟨hR, p', r, hT, ht⟩ | ⟨hR, hT, he, ht⟩ | ⟨hR, hT, he, ht⟩
  · rw [ht]; exact ev_own0 a0 a1 0 0 p t l hnext 0 0 [] (by simp) rfl
  · rw [ht]
    have hrl : (ofSp r).length ≤ 5000 := by
      obtain ⟨l1, t', l2, hsp, rfl, _⟩ := takeL_some hT
      have := congrArg List.length hsp
      rw [spOf_length] at this
      rw [ofSp_length]
      simp at this ⊢
      omega
    exact ev_own0 a0 a1 a0 a1 p t l hnext _ 0 _ hrl (Nat.zero_add _)
  · rw [ht]; exact ev_own0 a0 a1 a0 a1 p t l hnext _ 0 _ hlen (Nat.zero_add _)
  · rw [ht]; exact ev_own0 a0 a1 (a0 + 1) a1 p t l hnext _ 0 _ hlen (Nat.zero_add _)
end Go.Proofs.YtnbmpcdomdaimaaQ.PA
