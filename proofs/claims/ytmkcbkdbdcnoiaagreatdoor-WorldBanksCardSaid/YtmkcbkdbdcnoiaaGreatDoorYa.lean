/- Plain laws: numbers back from their bytes; what stands under a key behind a deed; how mails and listings are numbered. -/
import Derived.Test.YtmkcbkdbdcnoiaaGreatDoorG23
namespace Go.Proofs.YtmkcbkdbdcnoiaaGreatDoor
open Go.RowKit
set_option linter.unusedVariables false
set_option linter.unusedSimpArgs false

theorem okA_iff' (n : Int) : okA n = true ↔ 0 ≤ n ∧ n ≤ 1152921504606846976 := by simp [okA]
theorem sx_be (x : Int) (hx : okA x = true) : sx (num (be x.toNat 8)) = x := by
  rw [okA_iff'] at hx
  rw [num_be, sx, Nat.mod_eq_of_lt (by omega), Int.toNat_of_nonneg hx.1]
  exact IntWalk.wrap64_in x (by omega)
theorem mbytes_cons (x : Int) (l : List Int) : mbytes (x :: l) = be x.toNat 8 ++ mbytes l := rfl
theorem oct_mbytes (l : List Int) (h : l.all okA = true) : oct (mbytes l) = l := by
  induction l with
  | nil => rfl
  | cons x l ih =>
    simp only [List.all_cons, Bool.and_eq_true] at h
    have hb : (be x.toNat 8).length = 8 := be_length _ _
    rw [mbytes_cons, oct_long _ (by simp [hb]), List.take_left' hb, List.drop_left' hb, ih h.2, sx_be x h.1]
theorem mParse_mBytes (l : List Int) (h : l.all okA = true) : mParse (mBytesF l).1 = some l := by
  unfold mBytesF mParse
  rw [if_pos h]
  simp only [oct_mbytes l h, h]
  have : (mbytes l).length % 8 = 0 := by rw [mbytes_length]; omega
  simp [this]

theorem kKey_head (k a i m : Int) : (kKey k a i m).1 = [] ∨ ∃ r, (kKey k a i m).1 = (kForm k).1 :: r := by
  unfold kKey
  split
  · exact .inr ⟨_, rfl⟩
  · exact .inl rfl
theorem kKey_ne {k a i m : Int} {b : UInt8} {r : Str} (h : (kForm k).1 ≠ b) : (kKey k a i m).1 ≠ b :: r := by
  intro e
  rcases kKey_head k a i m with h1 | ⟨r', h1⟩
  · rw [h1] at e; cases e
  · rw [h1] at e
    simp only [List.cons.injEq] at e
    exact h e.1
/-- The counters' keys. -/
def kM : Str := [110, 1]
def kL : Str := [110, 2]
theorem kM_eq : (kKey 5 1 0 0).1 = kM := by kernel_rfl
theorem kL_eq : (kKey 5 2 0 0).1 = kL := by kernel_rfl

section
variable {l : List Par} {k k0 v : Str}
theorem tget_put (l : List Par) (k v k0 : Str) (h0 : k0 ≠ []) : tget (put l k v) k0 = if k0 = k then some v else tget l k0 := by
  unfold tget
  rw [if_neg h0, if_neg h0, get_put]
theorem tget_del (l : List Par) (k k0 : Str) (h0 : k0 ≠ []) : tget (del l k) k0 = if k0 = k then none else tget l k0 := by
  unfold tget
  rw [if_neg h0, if_neg h0, get_del]
theorem numF_put_ne (h0 : k0 ≠ []) (h : k ≠ k0) : numF (put l k v) k0 = numF l k0 := by
  unfold numF; rw [tget_put _ _ _ _ h0, if_neg (Ne.symm h)]
theorem numF_del_ne (h0 : k0 ≠ []) (h : k ≠ k0) : numF (del l k) k0 = numF l k0 := by
  unfold numF; rw [tget_del _ _ _ h0, if_neg (Ne.symm h)]
theorem numF_del_eq (h0 : k0 ≠ []) : numF (del l k0) k0 = 0 := by
  unfold numF; rw [tget_del _ _ _ h0, if_pos rfl]
  rfl
theorem numF_snF_eq (h0 : k0 ≠ []) {x : Int} (hx : okA x = true) : numF (snF l k0 x) k0 = x := by
  unfold numF snF; rw [tget_put _ _ _ _ h0, if_pos rfl]
  simp only [Option.getD_some]
  rw [mParse_mBytes [x] (by simp [hx])]
end
theorem numF_saA (l : List Par) (x : Int) (y : Acc) (b : UInt8) (r : Str) (hb : b ≠ 97) : numF (saA l x y) (b :: r) = numF l (b :: r) :=
  numF_put_ne (by simp) (kKey_ne (by simpa [kForm] using Ne.symm hb))
theorem numF_sgF (l : List Par) (x : Int) (g : List Stk) (it : Int) (b : UInt8) (r : Str) (hb : b ≠ 105) : numF (sgF l x g it) (b :: r) = numF l (b :: r) := by
  unfold sgF
  split
  · exact numF_put_ne (by simp) (kKey_ne (by simpa [kForm] using Ne.symm hb))
  · exact numF_del_ne (by simp) (kKey_ne (by simpa [kForm] using Ne.symm hb))
theorem numF_snF_ne (l : List Par) (k k0 : Str) (x : Int) (h0 : k0 ≠ []) (h : k ≠ k0) : numF (snF l k x) k0 = numF l k0 := numF_put_ne h0 h
theorem poF_key (l : List Par) (c : Cmd) : (poF l c).2.1 = [] ∨ (poF l c).2.1 = (kKey 3 c.a 0 c.b).1 := by
  unfold poF
  split
  · exact .inl rfl
  · exact .inr rfl
theorem saF_key (l : List Par) (c : Cmd) (own : Bool) : (saF l c own).2.1 = [] ∨ (saF l c own).2.1 = (kKey 4 c.b 0 0).1 := by
  unfold saF
  split
  · exact .inl rfl
  · exact .inr rfl
theorem poF_key_ne (l : List Par) (c : Cmd) (b : UInt8) (r : Str) (hb : b ≠ 109) : (poF l c).2.1 ≠ b :: r := by
  rcases poF_key l c with h | h <;> rw [h]
  · simp
  · exact kKey_ne (by simpa [kForm] using Ne.symm hb)
theorem saF_key_ne (l : List Par) (c : Cmd) (own : Bool) (b : UInt8) (r : Str) (hb : b ≠ 115) : (saF l c own).2.1 ≠ b :: r := by
  rcases saF_key l c own with h | h <;> rw [h]
  · simp
  · exact kKey_ne (by simpa [kForm] using Ne.symm hb)

/-- What the deeds leave of a counter. -/
theorem numF_chF (F : Acc → Int → Acc × Int) (l : List Par) (c : Cmd) (r : Str) : numF (chF F l c).1 (110 :: r) = numF l (110 :: r) := by
  unfold chF
  split
  · exact numF_put_ne (by simp) (kKey_ne (by decide))
  · rfl
theorem deedF_count (l : List Par) (c : Cmd) (a : Ans) (i : Nat) (h9 : i ≠ 9) (h12 : i ≠ 12) (r : Str) : numF (deedF l c a i).1 (110 :: r) = numF l (110 :: r) := by
  unfold deedF
  split
  · unfold opF
    split
    · rfl
    · split
      · rfl
      · exact numF_put_ne (by simp) (kKey_ne (by decide))
  · unfold miF
    split
    · split
      · dsimp only; rw [numF_snF_ne _ _ _ _ (by simp) (kKey_ne (by decide)), numF_saA _ _ _ _ _ (by decide)]
      · rfl
    · rfl
  · unfold buF
    split
    · dsimp only
      rw [numF_put_ne (by simp) (kKey_ne (by decide)), numF_chF]
    · exact numF_chF _ _ _ _
  · unfold maF
    split
    · rfl
    · split
      · split
        · dsimp only; rw [numF_snF_ne _ _ _ _ (by simp) (kKey_ne (by decide)), numF_sgF _ _ _ _ _ _ (by decide)]
        · rfl
      · rfl
  · unfold brF
    split
    · dsimp only; rw [numF_snF_ne _ _ _ _ (by simp) (kKey_ne (by decide)), numF_sgF _ _ _ _ _ _ (by decide)]
    · rfl
  · unfold pyF
    split
    · split
      · dsimp only; rw [numF_saA _ _ _ _ _ (by decide), numF_saA _ _ _ _ _ (by decide)]
      · rfl
    · rfl
  · exact numF_chF _ _ _ _
  · exact numF_chF _ _ _ _
  · unfold giF
    split
    · split
      · dsimp only; rw [numF_sgF _ _ _ _ _ _ (by decide), numF_sgF _ _ _ _ _ _ (by decide)]
      · rfl
    · rfl
  · exact absurd rfl h9
  · unfold clF
    split
    · split
      · split
        · dsimp only; rw [numF_del_ne (by simp) (poF_key_ne _ _ _ _ (by decide)), numF_sgF _ _ _ _ _ _ (by decide), numF_saA _ _ _ _ _ (by decide)]
        · dsimp only; rw [numF_del_ne (by simp) (poF_key_ne _ _ _ _ (by decide)), numF_saA _ _ _ _ _ (by decide)]
      · rfl
    · rfl
  · unfold baF
    split
    · dsimp only; rw [numF_put_ne (by simp) (kKey_ne (by decide)), numF_del_ne (by simp) (poF_key_ne _ _ _ _ (by decide))]
    · rfl
  · exact absurd rfl h12
  · unfold byF
    split
    · split
      · dsimp only; rw [numF_del_ne (by simp) (saF_key_ne _ _ _ _ _ (by decide)), numF_sgF _ _ _ _ _ _ (by decide), numF_saA _ _ _ _ _ (by decide), numF_saA _ _ _ _ _ (by decide)]
      · rfl
    · rfl
  · unfold caF
    split
    · split
      · dsimp only; rw [numF_del_ne (by simp) (saF_key_ne _ _ _ _ _ (by decide)), numF_sgF _ _ _ _ _ _ (by decide)]
      · rfl
    · rfl
  all_goals rfl
theorem nxF_eq {l : List Par} {j x : Int} (h : (nxF l j).2 = 0) (hx : (nxF l j).1 = x) : x = numF l (kKey 5 j 0 0).1 + 1 ∧ okA x = true := by
  have h0 := numF_ok l (kKey 5 j 0 0).1
  unfold nxF at h hx
  split at h
  · simp at h
  · rename_i hn
    rw [if_neg hn] at hx
    dsimp only at hx
    subst hx
    exact ⟨rfl, (okA_iff' _).2 (by omega)⟩
theorem seF_count {l : List Par} {c : Cmd} (h : (seF l c (0, 0, 0)).2.2 = 0) :
    (seF l c (0, 0, 0)).2.1 = (0, numF l kM + 1, 0) ∧ numF (seF l c (0, 0, 0)).1 kM = numF l kM + 1 ∧ numF (seF l c (0, 0, 0)).1 kL = numF l kL := by
  unfold seF at h ⊢
  split at h
  · rename_i h1
    rw [if_pos h1]
    split at h
    · rename_i h2
      rw [if_pos h2]
      split at h
      · rename_i h3
        rw [if_pos h3]
        obtain ⟨e1, e2⟩ := nxF_eq h3 rfl
        rw [kM_eq] at e1
        dsimp only
        rw [kM_eq]
        refine ⟨by rw [e1], ?_, ?_⟩
        · rw [kM, numF_put_ne (by simp) (kKey_ne (by decide)), ← kM, numF_snF_eq (by decide) e2, e1]
        · rw [kL, numF_put_ne (by simp) (kKey_ne (by decide)), numF_snF_ne _ _ _ _ (by simp) (by decide), numF_sgF _ _ _ _ _ _ (by decide), numF_saA _ _ _ _ _ (by decide)]
      · rename_i h3; exact absurd h h3
    · rename_i h2; exact absurd h h2
  · rename_i h1; exact absurd h h1
theorem liF_count {l : List Par} {c : Cmd} (h : (liF l c (0, 0, 0)).2.2 = 0) :
    (liF l c (0, 0, 0)).2.1 = (0, numF l kL + 1, 0) ∧ numF (liF l c (0, 0, 0)).1 kL = numF l kL + 1 ∧ numF (liF l c (0, 0, 0)).1 kM = numF l kM := by
  unfold liF at h ⊢
  split at h
  · rename_i h1
    rw [if_pos h1]
    split at h
    · rename_i h3
      rw [if_pos h3]
      obtain ⟨e1, e2⟩ := nxF_eq h3 rfl
      rw [kL_eq] at e1
      dsimp only
      rw [kL_eq]
      refine ⟨by rw [e1], ?_, ?_⟩
      · rw [kL, numF_put_ne (by simp) (kKey_ne (by decide)), ← kL, numF_snF_eq (by decide) e2, e1]
      · rw [kM, numF_put_ne (by simp) (kKey_ne (by decide)), numF_snF_ne _ _ _ _ (by simp) (by decide), numF_sgF _ _ _ _ _ _ (by decide)]
    · rename_i h3; exact absurd h h3
  · rename_i h1; exact absurd h h1
/-- A step that succeeds is its deed. -/
theorem stepF_deed {l l' : List Par} {c : Cmd} {a2 a3 : Int} (h : stepF l c = (l', 0, a2, a3)) :
    (1 ≤ c.op ∧ c.op ≤ 19) ∧ ((c.op = 1 ∨ c.op = 19) ∨ (acF l c.a).2 = 0) ∧ (deedF l c (0, 0, 0) (c.op.toNat - 1)).2.2 = 0 ∧ l' = (deedF l c (0, 0, 0) (c.op.toNat - 1)).1 ∧ (0, a2, a3) = (deedF l c (0, 0, 0) (c.op.toNat - 1)).2.1 := by
  unfold stepF at h
  have hd : doneF l c = (l', 0, a2, a3) := by
    split at h
    · exact h
    · rename_i h0
      simp only [Prod.mk.injEq] at h
      exact absurd (by rw [h.2]) h0
  unfold doneF at hd
  split at hd
  · rename_i h1
    split at hd
    · rename_i h2
      split at hd
      · rename_i h3
        simp only [Prod.mk.injEq] at hd
        exact ⟨h1, h2, h3, hd.1.symm, hd.2.symm⟩
      · rename_i h3
        simp only [Prod.mk.injEq] at hd
        exact absurd hd.2.1 h3
    · rename_i h2
      simp only [Prod.mk.injEq] at hd
      exact absurd (.inr hd.2.1) h2
  · simp at hd
/-- How mails and listings are numbered. -/
theorem stepF_numbers {l l' : List Par} {c : Cmd} {a1 a2 a3 : Int} (h : stepF l c = (l', a1, a2, a3)) :
    (numF l' kM = numF l kM + (if a1 = 0 ∧ c.op = 10 then 1 else 0) ∧ (a1 = 0 ∧ c.op = 10 → a2 = numF l kM + 1)) ∧ (numF l' kL = numF l kL + (if a1 = 0 ∧ c.op = 13 then 1 else 0) ∧ (a1 = 0 ∧ c.op = 13 → a2 = numF l kL + 1)) := by
  by_cases ha : a1 = 0
  · subst ha
    obtain ⟨h1, h2, h3, h4, h5⟩ := stepF_deed h
    by_cases h9 : c.op = 10
    · rw [show c.op.toNat - 1 = 9 by omega] at h3 h4 h5
      obtain ⟨e1, e2, e3⟩ := seF_count (l := l) (c := c) h3
      have e1' : (0, a2, a3) = ((0 : Int), numF l kM + 1, (0 : Int)) := h5.trans e1
      simp only [Prod.mk.injEq] at e1'
      have e2' : numF l' kM = numF l kM + 1 := by rw [h4]; exact e2
      have e3' : numF l' kL = numF l kL := by rw [h4]; exact e3
      simp only [h9, and_self, if_true, e2', e3', e1'.2.1, true_and]
      simp
    · by_cases h12 : c.op = 13
      · rw [show c.op.toNat - 1 = 12 by omega] at h3 h4 h5
        obtain ⟨e1, e2, e3⟩ := liF_count (l := l) (c := c) h3
        have e1' : (0, a2, a3) = ((0 : Int), numF l kL + 1, (0 : Int)) := h5.trans e1
        simp only [Prod.mk.injEq] at e1'
        have e2' : numF l' kL = numF l kL + 1 := by rw [h4]; exact e2
        have e3' : numF l' kM = numF l kM := by rw [h4]; exact e3
        simp only [h12, and_self, if_true, e2', e3', e1'.2.1, true_and]
        simp
      · have e1 := deedF_count l c (0, 0, 0) (c.op.toNat - 1) (by omega) (by omega) [1]
        have e2 := deedF_count l c (0, 0, 0) (c.op.toNat - 1) (by omega) (by omega) [2]
        rw [← h4] at e1 e2
        simp only [h9, h12, and_false, if_false, false_implies, and_true, Int.add_zero]
        exact ⟨e1, e2⟩
  · obtain ⟨rfl, _, _⟩ := stepF_err h ha
    simp [ha]
end Go.Proofs.YtmkcbkdbdcnoiaaGreatDoor
