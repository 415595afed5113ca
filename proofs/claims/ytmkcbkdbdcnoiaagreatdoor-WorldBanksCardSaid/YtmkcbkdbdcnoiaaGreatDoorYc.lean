/- Plain laws: accounts back from their bytes; a bank is changed by its own account's deposits and withdrawals alone. -/
import Derived.Test.YtmkcbkdbdcnoiaaGreatDoorYa
namespace Go.Proofs.YtmkcbkdbdcnoiaaGreatDoor
open Go.RowKit
set_option linter.unusedVariables false
set_option linter.unusedSimpArgs false

theorem okAcc_iff (a : Acc) : okAcc a = true ↔ (0 ≤ a.1 ∧ a.1 ≤ 1152921504606846976) ∧ (0 ≤ a.2 ∧ a.2 ≤ 1152921504606846976) ∧ a.1 + a.2 ≤ 1152921504606846976 := by
  unfold okAcc addF
  simp only [decide_eq_true_eq, Bool.and_eq_true, okA_iff']
  by_cases h : (0 ≤ a.1 ∧ a.1 ≤ 1152921504606846976) ∧ 0 ≤ a.2 ∧ a.2 ≤ 1152921504606846976
  · rw [if_pos h]
    by_cases h2 : 0 ≤ a.1 + a.2 ∧ a.1 + a.2 ≤ 1152921504606846976
    · rw [if_pos h2]
      simp only [true_iff]
      exact ⟨h.1, h.2, h2.2⟩
    · rw [if_neg h2]
      simp only [Int.reduceEq, false_iff]
      omega
  · rw [if_neg h]
    simp only [Int.reduceEq, false_iff]
    omega
theorem addF_zero {a b : Int} (h : (addF a b).2 = 0) : (0 ≤ a ∧ a ≤ 1152921504606846976) ∧ (0 ≤ b ∧ b ≤ 1152921504606846976) ∧ a + b ≤ 1152921504606846976 ∧ (addF a b).1 = a + b := by
  unfold addF at h ⊢
  split at h
  · rename_i h1
    split at h
    · rename_i h2
      rw [if_pos h1, if_pos h2]
      simp only [Bool.and_eq_true, okA_iff'] at h1 h2
      exact ⟨h1.1, h1.2, h2.2, rfl⟩
    · cases h
  · cases h
theorem subF_zero {a b : Int} (h : (subF a b).2 = 0) : (0 ≤ a ∧ a ≤ 1152921504606846976) ∧ (0 ≤ b ∧ b ≤ 1152921504606846976) ∧ b ≤ a ∧ (subF a b).1 = a - b := by
  unfold subF at h ⊢
  split at h
  · rename_i h1
    split at h
    · cases h
    · rename_i h2
      rw [if_pos h1, if_neg h2]
      simp only [Bool.and_eq_true, okA_iff'] at h1
      exact ⟨h1.1, h1.2, by omega, rfl⟩
  · cases h
theorem earn_ok {x : Acc} {n : Int} (h : (doesF earnsF x n).2 = 0) : okAcc (doesF earnsF x n).1 = true ∧ (doesF earnsF x n).1 = (x.1 + n, x.2) ∧ okAcc x = true ∧ 0 ≤ n := by
  unfold doesF at h ⊢
  split at h
  · rename_i h1
    split at h
    · rename_i h2
      rw [if_pos h1, if_pos h2]
      unfold earnsF at h2 ⊢
      dsimp only at h2 ⊢
      split at h2
      · rename_i h3
        obtain ⟨a1, a2, a3, a4⟩ := addF_zero h3
        obtain ⟨b1, b2, b3, b4⟩ := addF_zero h2
        rw [a4] at b1 b3 ⊢
        exact ⟨(okAcc_iff _).2 ⟨b1, b2, b3⟩, rfl, h1, a2.1⟩
      · rename_i h3; exact absurd h2 h3
    · rename_i h2; exact absurd h h2
  · cases h
theorem spend_ok {x : Acc} {n : Int} (h : (doesF spendsF x n).2 = 0) : okAcc (doesF spendsF x n).1 = true ∧ (doesF spendsF x n).1 = (x.1 - n, x.2) ∧ okAcc x = true ∧ 0 ≤ n := by
  unfold doesF at h ⊢
  split at h
  · rename_i h1
    split at h
    · rename_i h2
      rw [if_pos h1, if_pos h2]
      unfold spendsF at h2 ⊢
      dsimp only at h2 ⊢
      obtain ⟨a1, a2, a3, a4⟩ := subF_zero h2
      rw [a4]
      have := (okAcc_iff _).1 h1
      exact ⟨(okAcc_iff _).2 ⟨by dsimp only; omega, this.2.1, by dsimp only; omega⟩, rfl, h1, a2.1⟩
    · rename_i h2; exact absurd h h2
  · cases h
theorem pay_ok {x y : Acc} {n : Int} (h : (payF x y n).2.2 = 0) : okAcc (payF x y n).1 = true ∧ (payF x y n).1 = (x.1 - n, x.2) ∧ okAcc (payF x y n).2.1 = true ∧ (payF x y n).2.1 = (y.1 + n, y.2) ∧ 0 ≤ n := by
  unfold payF at h ⊢
  split at h
  · rename_i h1
    split at h
    · rename_i h2
      split at h
      · rename_i h3
        rw [if_pos h1, if_pos h2, if_pos h3]
        have e1 := spend_ok h2
        have e2 := earn_ok h3
        exact ⟨e1.1, e1.2.1, e2.1, e2.2.1, e1.2.2.2⟩
      · rename_i h3; exact absurd h h3
    · rename_i h2; exact absurd h h2
  · cases h

theorem aParse_aBytes (y : Acc) (h : okAcc y = true) : (aParseF (aBytesF y).1).1 = y := by
  have h2 := (okAcc_iff y).1 h
  have hall : [y.1, y.2].all okA = true := by simp [okA_iff', h2.1.1, h2.1.2, h2.2.1.1, h2.2.1.2]
  unfold aBytesF aParseF aParse
  rw [if_pos h, mParse_mBytes _ hall]
  simp only
  rw [if_pos h]

/-- An account's key. -/
def kA (x : Int) : Str := (kKey 1 x 0 0).1
theorem kA_inj {x y : Int} (hx : 0 ≤ x ∧ x < 4294967296) (hy : 0 ≤ y ∧ y < 4294967296) (h : kA x = kA y) (hne : kA x ≠ []) : x = y := by
  unfold kA kKey at h hne
  split at h
  · rename_i h1
    split at h
    · rename_i h2
      simp only [kForm, if_true, List.cons.injEq, true_and, fieldBytes, List.flatMap_cons, List.flatMap_nil, List.append_nil] at h
      have hl : (be x.toNat 4).length = (be y.toNat 4).length := by rw [be_length, be_length]
      have e := List.append_inj_left h hl
      have := congrArg num e
      rw [num_be, num_be, Nat.mod_eq_of_lt (by omega), Nat.mod_eq_of_lt (by omega)] at this
      omega
    · simp at h
  · rename_i h1
    rw [if_neg h1] at hne
    exact absurd rfl hne
theorem kA_ex {l : List Par} {x : Int} (h : (acF l x).2 = 0) : kA x ≠ [] := by
  intro e
  unfold acF tget at h
  rw [show (kKey 1 x 0 0).1 = [] from e, if_pos rfl] at h
  simp at h
/-- The account is there, with so much in its bank. -/
def Bk (l : List Par) (x : Int) (b : Int) : Prop := (acF l x).2 = 0 ∧ (acF l x).1.2 = b
theorem acF_of_tget {l m : List Par} {x : Int} (h : tget l (kA x) = tget m (kA x)) : acF l x = acF m x := by
  unfold acF; rw [show (kKey 1 x 0 0).1 = kA x from rfl, h]
theorem acF_put_ne {l : List Par} {k v : Str} {x : Int} (h0 : kA x ≠ []) (h : k ≠ kA x) : acF (put l k v) x = acF l x :=
  acF_of_tget (by rw [tget_put _ _ _ _ h0, if_neg (Ne.symm h)])
theorem acF_del_ne {l : List Par} {k : Str} {x : Int} (h0 : kA x ≠ []) (h : k ≠ kA x) : acF (del l k) x = acF l x :=
  acF_of_tget (by rw [tget_del _ _ _ h0, if_neg (Ne.symm h)])
theorem kA_head {x : Int} (h : kA x ≠ []) : ∃ r, kA x = 97 :: r := by
  rcases kKey_head 1 x 0 0 with h1 | ⟨r, h1⟩
  · exact absurd h1 h
  · exact ⟨r, h1⟩
theorem kKey_ne_kA {k a i m x : Int} (hk : (kForm k).1 ≠ 97) (h0 : kA x ≠ []) : (kKey k a i m).1 ≠ kA x := by
  obtain ⟨r, hr⟩ := kA_head h0
  rw [hr]; exact kKey_ne hk
theorem acF_snF {l : List Par} {k a i m y x : Int} (hk : (kForm k).1 ≠ 97) (h0 : kA x ≠ []) : acF (snF l (kKey k a i m).1 y) x = acF l x := acF_put_ne h0 (kKey_ne_kA hk h0)
theorem acF_sgF {l : List Par} {z : Int} {g : List Stk} {it x : Int} (h0 : kA x ≠ []) : acF (sgF l z g it) x = acF l x := by
  unfold sgF
  split
  · exact acF_put_ne h0 (kKey_ne_kA (by decide) h0)
  · exact acF_del_ne h0 (kKey_ne_kA (by decide) h0)
theorem acF_saA_ne {l : List Par} {z x : Int} {y : Acc} (hz : 0 ≤ z ∧ z < 4294967296) (hx : 0 ≤ x ∧ x < 4294967296) (h0 : kA x ≠ []) (h : z ≠ x) : acF (saA l z y) x = acF l x :=
  acF_put_ne h0 fun e => h (kA_inj hz hx e (by rw [show kA z = kA x from e]; exact h0))
theorem acF_saA_eq {l : List Par} {x : Int} {y : Acc} (h0 : kA x ≠ []) (hy : okAcc y = true) : acF (saA l x y) x = (y, 0) := by
  unfold acF saA
  rw [tget_put _ _ _ _ (show (kKey 1 x 0 0).1 ≠ [] from h0), if_pos rfl]
  simp only
  rw [aParse_aBytes y hy]
/-- An account that gets the same bank. -/
theorem Bk.set {l : List Par} {x z b : Int} {y : Acc} (h : Bk l x b) (hz : 0 ≤ z ∧ z < 4294967296) (hx : 0 ≤ x ∧ x < 4294967296) (hy : okAcc y = true) (hb : z = x → y.2 = b) : Bk (saA l z y) x b := by
  have h0 := kA_ex h.1
  by_cases hzx : z = x
  · subst hzx
    unfold Bk
    rw [acF_saA_eq h0 hy]
    exact ⟨rfl, hb rfl⟩
  · unfold Bk
    rw [acF_saA_ne hz hx h0 hzx]
    exact h
theorem Bk.of {l m : List Par} {x b : Int} (h : Bk l x b) (e : acF m x = acF l x) : Bk m x b := by unfold Bk; rw [e]; exact h

theorem mSend_ok {x : Acc} {g : List Stk} {m : Ml} (h : (mSend x g m).2.2 = 0) : okAcc (mSend x g m).1 = true ∧ (mSend x g m).1 = (x.1 - m.2.1, x.2) := by
  unfold mSend mDone at h ⊢
  split at h
  · rename_i h1
    split at h
    · rename_i h2
      have e := spend_ok h2
      split at h
      · rename_i h3
        split at h
        · rename_i h4
          split at h
          · rename_i h5
            rw [if_pos h1, if_pos h2, if_pos h3, if_pos h4, if_pos h5]; exact ⟨e.1, e.2.1⟩
          · rename_i h5; exact absurd h h5
        · rename_i h4
          rw [if_pos h1, if_pos h2, if_pos h3, if_neg h4]; exact ⟨e.1, e.2.1⟩
      · cases h
    · rename_i h2; exact absurd h h2
  · cases h
theorem mClaim_ok {x : Acc} {g : List Stk} {m : Ml} (h : (mClaim x g m).2.2 = 0) : okAcc (mClaim x g m).1 = true ∧ (mClaim x g m).1 = (x.1 + m.2.1, x.2) := by
  unfold mClaim mDone at h ⊢
  split at h
  · rename_i h1
    split at h
    · rename_i h2
      have e := earn_ok h2
      split at h
      · rename_i h3
        split at h
        · rename_i h4
          split at h
          · rename_i h5
            rw [if_pos h1, if_pos h2, if_pos h3, if_pos h4, if_pos h5]; exact ⟨e.1, e.2.1⟩
          · rename_i h5; exact absurd h h5
        · rename_i h4
          rw [if_pos h1, if_pos h2, if_pos h3, if_neg h4]; exact ⟨e.1, e.2.1⟩
      · cases h
    · rename_i h2; exact absurd h h2
  · cases h
theorem sBuy_ok {x y : Acc} {g : List Stk} {m : Sl} (h : (sBuy x y g m).2.2.2 = 0) : okAcc (sBuy x y g m).1 = true ∧ (sBuy x y g m).1 = (x.1 - m.2.2.2, x.2) ∧ okAcc (sBuy x y g m).2.1 = true ∧ (sBuy x y g m).2.1 = (y.1 + m.2.2.2, y.2) := by
  unfold sBuy at h ⊢
  split at h
  · rename_i h1
    split at h
    · rename_i h2
      split at h
      · rename_i h3
        rw [if_pos h1, if_pos h2, if_pos h3]
        have := pay_ok h2
        exact ⟨this.1, this.2.1, this.2.2.1, this.2.2.2.1⟩
      · rename_i h3; exact absurd h h3
    · rename_i h2; exact absurd h h2
  · cases h
theorem saF_other {l : List Par} {c : Cmd} (h : (saF l c false).2.2 = 0) : (saF l c false).1.1 ≠ c.a := by
  unfold saF at h ⊢
  split at h
  · cases h
  · rename_i s hs
    split at h
    · split at h
      · cases h
      · rename_i h1 h2
        intro e
        rw [if_neg h2] at e
        have e' : (slParse s).1.1 = c.a := by rw [if_pos h1] at e; exact e
        apply h2
        simp [e']
    · rename_i h1; simp only [beq_iff_eq] at h1; exact absurd h h1

theorem poF_ne_kA {l : List Par} {c : Cmd} {x : Int} (h0 : kA x ≠ []) : (poF l c).2.1 ≠ kA x := by
  obtain ⟨r, hr⟩ := kA_head h0
  rw [hr]; exact poF_key_ne _ _ _ _ (by decide)
theorem saF_ne_kA {l : List Par} {c : Cmd} {own : Bool} {x : Int} (h0 : kA x ≠ []) : (saF l c own).2.1 ≠ kA x := by
  obtain ⟨r, hr⟩ := kA_head h0
  rw [hr]; exact saF_key_ne _ _ _ _ _ (by decide)

theorem deedF_bank {l : List Par} {c : Cmd} {x b : Int} (i : Nat) (hc : CmdOk c) (hx : 0 ≤ x ∧ x < 4294967296) (h : Bk l x b) (hi : c.a ≠ x ∨ i ≠ 6 ∧ i ≠ 7) : Bk (deedF l c (0, 0, 0) i).1 x b := by
  have h0 := kA_ex h.1
  have hca : c.a = x → (acF l c.a).1.2 = b := fun e => by rw [e]; exact h.2
  unfold deedF
  split
  · unfold opF
    split
    · exact h
    · split
      · exact h
      · rename_i h1 h2
        exact h.set hc.a hx (by decide) fun e => absurd (by rw [e]; exact h.1) h2
  · unfold miF
    split
    · split
      · rename_i h1 h2
        have e := earn_ok h2
        exact (h.set hc.a hx e.1 fun he => by rw [e.2.1]; exact hca he).of (acF_snF (by decide) h0)
      · exact h
    · exact h
  · by_cases h2 : (doesF spendsF (acF l c.a).1 c.n).2 = 0
    · have e := spend_ok h2
      have hch : chF (doesF spendsF) l c = (saA l c.a (doesF spendsF (acF l c.a).1 c.n).1, 0) := by unfold chF; rw [if_pos h2]; rfl
      unfold buF
      rw [hch]
      simp only [if_true]
      exact (h.set hc.a hx e.1 fun he => by rw [e.2.1]; exact hca he).of (acF_put_ne h0 (kKey_ne_kA (by decide) h0))
    · have hch : chF (doesF spendsF) l c = (l, (doesF spendsF (acF l c.a).1 c.n).2) := by unfold chF; rw [if_neg h2]
      unfold buF
      rw [hch]
      simp only [if_neg h2]
      exact h
  · unfold maF
    split
    · exact h
    · split
      · split
        · exact (h.of (acF_sgF h0)).of (acF_snF (by decide) h0)
        · exact h
      · exact h
  · unfold brF
    split
    · exact (h.of (acF_sgF h0)).of (acF_snF (by decide) h0)
    · exact h
  · unfold pyF
    split
    · rename_i h1
      split
      · rename_i h2
        have e := pay_ok h2
        refine (h.set hc.a hx e.1 fun he => by rw [e.2.1]; exact hca he).set hc.b hx e.2.2.1 fun he => ?_
        rw [e.2.2.2.1]
        show (acF l c.b).1.2 = b
        rw [he]; exact h.2
      · exact h
    · exact h
  · unfold chF
    split
    · exact (h.of (acF_put_ne h0 fun e => by
        rcases hi with hi | hi
        · exact hi (kA_inj hc.a hx e (by rw [show kA c.a = kA x from e]; exact h0))
        · exact absurd rfl hi.1))
    · exact h
  · unfold chF
    split
    · exact (h.of (acF_put_ne h0 fun e => by
        rcases hi with hi | hi
        · exact hi (kA_inj hc.a hx e (by rw [show kA c.a = kA x from e]; exact h0))
        · exact absurd rfl hi.2))
    · exact h
  · unfold giF
    split
    · split
      · exact (h.of (acF_sgF h0)).of (acF_sgF h0)
      · exact h
    · exact h
  · unfold seF
    split
    · split
      · rename_i h1 h2
        have e := mSend_ok h2
        split
        · exact (((h.set hc.a hx e.1 fun he => by rw [e.2]; exact hca he).of (acF_sgF h0)).of (acF_snF (by decide) h0)).of (acF_put_ne h0 (kKey_ne_kA (by decide) h0))
        · exact h
      · exact h
    · exact h
  · unfold clF
    split
    · split
      · rename_i h1 h2
        have e := mClaim_ok h2
        split
        · exact ((h.set hc.a hx e.1 fun he => by rw [e.2]; exact hca he).of (acF_sgF h0)).of (acF_del_ne h0 (poF_ne_kA h0))
        · exact (h.set hc.a hx e.1 fun he => by rw [e.2]; exact hca he).of (acF_del_ne h0 (poF_ne_kA h0))
      · exact h
    · exact h
  · unfold baF
    split
    · exact (h.of (acF_del_ne h0 (poF_ne_kA h0))).of (acF_put_ne h0 (kKey_ne_kA (by decide) h0))
    · exact h
  · unfold liF
    split
    · split
      · exact ((h.of (acF_sgF h0)).of (acF_snF (by decide) h0)).of (acF_put_ne h0 (kKey_ne_kA (by decide) h0))
      · exact h
    · exact h
  · unfold byF
    split
    · rename_i h1
      split
      · rename_i h2
        have e := sBuy_ok h2
        refine (((h.set hc.a hx e.1 fun he => by rw [e.2.1]; exact hca he).set (saF_rng l c false).1 hx e.2.2.1 fun he => ?_).of (acF_sgF h0)).of (acF_del_ne h0 (saF_ne_kA h0))
        rw [e.2.2.2]
        show (acF l (saF l c false).1.1).1.2 = b
        rw [he]; exact h.2
      · exact h
    · exact h
  · unfold caF
    split
    · split
      · exact (h.of (acF_sgF h0)).of (acF_del_ne h0 (saF_ne_kA h0))
      · exact h
    · exact h
  all_goals exact h
/-- A query of an account. -/
theorem stepF_account (l : List Par) (x : Int) : stepF l ⟨16, x, 0, 0, 0, 0⟩ = (l, if (acF l x).2 = 0 then (0, (acF l x).1.1, (acF l x).1.2) else ((acF l x).2, 0, 0)) := by
  unfold stepF doneF
  simp only [show (1 : Int) ≤ 16 ∧ (16 : Int) ≤ 19 by omega, and_self, if_true]
  by_cases h : (acF l x).2 = 0
  · have : ((16 : Int) = 1 ∨ (16 : Int) = 19) ∨ (acF l x).2 = 0 := .inr h
    simp only [if_pos this, if_pos h]
    simp [deedF]
  · have : ¬ (((16 : Int) = 1 ∨ (16 : Int) = 19) ∨ (acF l x).2 = 0) := by omega
    simp only [if_neg this, if_neg h]
theorem stepF_bank {l l' : List Par} {c : Cmd} {a : Ans} {x b : Int} (hq : stepF l c = (l', a)) (hc : CmdOk c) (hx : 0 ≤ x ∧ x < 4294967296) (h : Bk l x b) (hi : c.a ≠ x ∨ c.op ≠ 7 ∧ c.op ≠ 8) : Bk l' x b := by
  obtain ⟨a1, a2, a3⟩ := a
  by_cases ha : a1 = 0
  · subst ha
    obtain ⟨h1, h2, h3, h4, h5⟩ := stepF_deed hq
    rw [h4]
    exact deedF_bank _ hc hx h (by omega)
  · obtain ⟨rfl, _, _⟩ := stepF_err hq ha
    exact h
end Go.Proofs.YtmkcbkdbdcnoiaaGreatDoor
