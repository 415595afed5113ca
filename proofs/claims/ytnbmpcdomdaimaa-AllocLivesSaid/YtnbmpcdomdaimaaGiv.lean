/- What Right, Take, Give and cut answer, in the form of the printed texts. -/
import Derived.Test.YtnbmpcdomdaimaaPAx0
import Derived.Test.YtnbmpcdomdaimaaGv
namespace Go.Proofs.YtnbmpcdomdaimaaQ.PA
open Go.RowKit Go.Proofs.YtnbmpcdomdaimaaW.PrintWords Go.Proofs.YtnbmpcdomdaimaaW.PrintLast Go.Proofs.YtnbmpcdomdaimaaW.PrintMore
open Go.Proofs.Ytnbmpcdomdaimaa (Sp SpRow sp sp_length sp_get right takeL gOk right_any take_bad take_ok give_any TkPost GvPost Row44 gone sp_append right_iff takeL_split takeL_none)
set_option linter.unusedVariables false
set_option linter.unusedSimpArgs false

def spOf (l : List S44) : List Sp := l.map fun s => (s.f0.toNat, s.f1.toNat)
def ofSp (l : List Sp) : List S44 := l.map fun s => ⟨(s.1 : Int), (s.2 : Int)⟩
/-- The spares are pages and transactions, not too many. -/
def okL (l : List S44) : Bool := decide (l.length ≤ 5000) && l.all fun s => decide (0 ≤ s.f0) && decide (s.f0 < 4294967296) && decide (0 ≤ s.f1)
def okN (a : Int) : Bool := decide (0 ≤ a) && decide (a < 4294967296)

theorem spOf_length (l : List S44) : (spOf l).length = l.length := List.length_map _
theorem ofSp_length (l : List Sp) : (ofSp l).length = l.length := List.length_map _
theorem okL_len {l : List S44} (h : okL l = true) : l.length ≤ 5000 := by
  simp only [okL, Bool.and_eq_true, decide_eq_true_eq] at h
  exact h.1
theorem okL_mem {l : List S44} (h : okL l = true) : ∀ s ∈ l, 0 ≤ s.f0 ∧ s.f0 < 4294967296 ∧ 0 ≤ s.f1 := by
  simp only [okL, Bool.and_eq_true, List.all_eq_true, decide_eq_true_eq] at h
  intro s hs
  have := h.2 s hs
  exact ⟨this.1.1, this.1.2, this.2⟩
theorem ofSp_spOf {l : List S44} (h : okL l = true) : ofSp (spOf l) = l := by
  have := okL_mem h
  clear h
  induction l with
  | nil => rfl
  | cons x l ih =>
    have hx := this x (by simp)
    show (⟨((x.f0.toNat : Nat) : Int), ((x.f1.toNat : Nat) : Int)⟩ : S44) :: ofSp (spOf l) = x :: l
    rw [ih fun s hs => this s (by simp [hs])]
    rw [Int.toNat_of_nonneg hx.1, Int.toNat_of_nonneg hx.2.2]
theorem spOf_small {l : List S44} (h : okL l = true) : ∀ s ∈ spOf l, s.1 < 4294967296 := by
  intro s hs
  obtain ⟨x, hx, rfl⟩ := List.mem_map.1 hs
  have := okL_mem h x hx
  show x.f0.toNat < _
  omega

/-- What came in, as the elder texts read it. -/
theorem row_of {w : World} {A : Option Addr} {c : Nat} {l : List S44} (h : Kd.C k44 w A l.length l) (hl : okL l = true) : SpRow w (.slice A l.length c) (spOf l) := by
  refine ⟨A, c, by rw [spOf_length], ?_⟩
  by_cases h0 : l = []
  · subst h0; exact .inl rfl
  right
  have hlen : 0 < l.length := List.length_pos_iff.2 h0
  obtain ⟨ad, rfl, _⟩ := at_T44 h 0 (Int.le_refl _) (by omega)
  refine ⟨ad, rfl, fun i hi => ?_⟩
  have hi' : i < l.length := by rwa [spOf_length] at hi
  obtain ⟨ad', e, c0, c1⟩ := at_T44 h (i : Int) (by omega) (by omega)
  cases e
  have hm := okL_mem hl (l[i]'hi') (List.getElem_mem hi')
  have hrd : rd_T44 l (i : Int) = l[i]'hi' := by simp [rd_T44, hi']
  rw [hrd] at c0 c1
  simp only [Int.toNat_natCast] at c0 c1
  have e1 : ((spOf l)[i]'hi) = ((l[i]'hi').f0.toNat, (l[i]'hi').f1.toNat) := by simp [spOf]
  rw [e1]
  refine ⟨by rw [c0]; simp only; congr 2; omega, ?_⟩
  rw [show ad.add (i * 2 + 1) = ⟨(ad.add (i * 2)).block, (ad.add (i * 2)).off + 1, none⟩ from (Go.Proofs.Ytnbmpcdomdaimaa.add_one ad (i * 2)).symm, c1]
  simp only
  congr 2
  omega

theorem reps_sp (w : World) (base : Nat) (ok : Nat → Prop) (l : List Sp) : Reps (k44.M w base ok) k44.sz (ofSp l) (sp l) := by
  refine ⟨by rw [sp_length, ofSp_length]; rfl, ?_⟩
  intro j p hp
  have hj : j < l.length := by have := (List.getElem?_eq_some_iff.1 hp).1; rwa [ofSp_length] at this
  have hpe : p = ⟨((l[j]'hj).1 : Int), ((l[j]'hj).2 : Int)⟩ := by
    have := List.getElem?_eq_some_iff.1 hp
    simp [ofSp] at this
    exact this.2.symm
  subst hpe
  have e : (List.take 2 (List.drop (j * 2) (sp l))) = [.int .u32 ((l[j]'hj).1 : Int), .int .u64 ((l[j]'hj).2 : Int)] := by
    rw [← Go.Proofs.Ytnbmpcdomdaimaa.sp_drop, List.drop_eq_getElem_cons hj, Go.Proofs.Ytnbmpcdomdaimaa.sp_cons]
    rfl
  show k44.M w base ok _ (List.take 2 (List.drop (j * 2) (sp l)))
  rw [e]
  exact k44_mkM w base ok (⟨((l[j]'hj).1 : Int), ((l[j]'hj).2 : Int)⟩ : S44)

theorem made_of {w : World} {base g c n : Nat} {l : List Sp} (hb : base ≤ g) (hn : l.length = n) (hnc : n ≤ c) (hcm : c ≤ maxLen) (h : Row44 w g c l) : Kd.R k44 44 w base (fun _ => True) (.slice (some ⟨g, 0, none⟩) n c) (ofSp l) := by
  obtain ⟨cur, hg, hs, ht⟩ := h
  refine ⟨fun _ _ => trivial, sp l, ?_, reps_sp _ _ _ l⟩
  refine ⟨by rw [sp_length, ofSp_length]; rfl, .inr ⟨g, c, cur, by rw [ofSp_length, hn], hb, hg, by rw [ofSp_length, hn]; exact hnc, hcm, hs, ?_⟩⟩
  rw [ofSp_length]
  exact ht

theorem row44_whole {w : World} {g : Nat} {l : List Sp} (h : w.heap[g]? = some (.cells (sp l).toArray 44 (0, 0))) : Row44 w g l.length l :=
  ⟨_, h, by simp [sp_length], List.take_of_length_le (by simp [sp_length])⟩

def alloc_Right.f (a0_0 a0_1 : Int) (l0_2 : List S44) : Option Bool := if (okN a0_0 && okN a0_1 && okL l0_2) = true then some (right a0_0.toNat a0_1.toNat (spOf l0_2)) else none

theorem alloc_Right.calls (a0_0 : Int) (a0_1 : Int) (A0_2 : Option Addr) (c0_2 : Nat) (l0_2 : List (S44)) (r : Bool) (w : World) (hr0_2 : Kd.C k44 w A0_2 l0_2.length l0_2) (hc0_2 : l0_2.length ≤ c0_2) (h : alloc_Right.f a0_0 a0_1 l0_2 = some r) :
    Calls Try.prog 17 #[.agg #[.int .u32 a0_0, .int .u32 a0_1, .slice A0_2 l0_2.length c0_2]] w fun e w' => e = .returned (.bool r) ∧ Below w.heap.size w w' := by
  unfold alloc_Right.f at h
  split at h
  · rename_i hk
    simp only [Bool.and_eq_true, okN, decide_eq_true_eq] at hk
    obtain ⟨⟨⟨h0, h1⟩, h2, h3⟩, hl⟩ := hk
    obtain ⟨hi, rfl⟩ := Int.eq_ofNat_of_zero_le h0
    obtain ⟨ca, rfl⟩ := Int.eq_ofNat_of_zero_le h2
    injection h with h
    subst h
    exact right_any hi ca _ (spOf l0_2) w (row_of hr0_2 hl) (by rw [spOf_length]; have := okL_len hl; omega) (by omega) (by omega) (spOf_small hl)
  · simp at h

def alloc_Take.f (a0_0 a0_1 : Int) (l0_2 : List S44) (a1 : Int) : Option (Int × Int × List S44 × Int × Int) :=
  if (okN a0_0 && okN a0_1 && okL l0_2 && decide (0 ≤ a1)) = true then
    if right a0_0.toNat a0_1.toNat (spOf l0_2) = true then
      match takeL a1.toNat (spOf l0_2) with
      | some (p, r) => some (a0_0, a0_1, ofSp r, (p : Int), 0)
      | none => if a0_0 = a0_1 then some (a0_0, a0_1, l0_2, 0, 51) else some (a0_0 + 1, a0_1, l0_2, a0_0, 0)
    else some (0, 0, [], 0, 50)
  else none

theorem alloc_Take.calls (a0_0 : Int) (a0_1 : Int) (A0_2 : Option Addr) (c0_2 : Nat) (l0_2 : List (S44)) (a1 : Int) (r1 : Int) (r2 : Int) (r3 : List (S44)) (r4 : Int) (r5 : Int) (w : World) (hr0_2 : Kd.C k44 w A0_2 l0_2.length l0_2) (hc0_2 : l0_2.length ≤ c0_2) (h : alloc_Take.f a0_0 a0_1 l0_2 a1 = some (r1, r2, r3, r4, r5)) :
    Calls Try.prog 13 #[.agg #[.int .u32 a0_0, .int .u32 a0_1, .slice A0_2 l0_2.length c0_2], .int .u64 a1] w fun e w' => ∃ v2_ : Value, e = .returned (.tuple #[.agg #[.int .u32 r1, .int .u32 r2, v2_], .int .u32 r4, .int .i64 r5]) ∧ Kd.R k44 44 w' w.heap.size (fun _ => True) v2_ r3 ∧ Below w.heap.size w w' := by
  unfold alloc_Take.f at h
  split at h
  · rename_i hk
    simp only [Bool.and_eq_true, okN, decide_eq_true_eq] at hk
    obtain ⟨⟨⟨⟨h0, h1⟩, h2, h3⟩, hl⟩, h4⟩ := hk
    obtain ⟨hi, rfl⟩ := Int.eq_ofNat_of_zero_le h0
    obtain ⟨ca, rfl⟩ := Int.eq_ofNat_of_zero_le h2
    obtain ⟨o, rfl⟩ := Int.eq_ofNat_of_zero_le h4
    simp only [Int.toNat_natCast] at h
    have hrow : SpRow w (.slice A0_2 l0_2.length c0_2) (spOf l0_2) := row_of hr0_2 hl
    have hlen : (spOf l0_2).length ≤ 1000000 := by rw [spOf_length]; have := okL_len hl; omega
    have hmx : maxLen = 9223372036854775807 := rfl
    have h5 := okL_len hl
    have h6 := spOf_length l0_2
    split at h
    · rename_i hR
      refine (take_ok hi ca o _ _ w hrow hlen (by omega) (by omega) (spOf_small hl) hR).mono ?_
      rintro e w' (⟨k, hk, g, hko, hkj, rfl, hg, hgb, hbel⟩ | ⟨hall, g, hg, hgb, hbel, hw⟩)
      · have hsplit : spOf l0_2 = (spOf l0_2).take k ++ (((spOf l0_2)[k]'hk).1, ((spOf l0_2)[k]'hk).2) :: (spOf l0_2).drop (k + 1) := by
          have := List.take_append_drop k (spOf l0_2)
          rw [List.drop_eq_getElem_cons hk] at this
          exact this.symm
        have ht : takeL o (spOf l0_2) = some (((spOf l0_2)[k]'hk).1, (spOf l0_2).eraseIdx k) := by
          rw [List.eraseIdx_eq_take_drop_succ]
          conv => lhs; rw [hsplit]
          refine takeL_split hko ?_
          intro s hs
          obtain ⟨j, hj, rfl⟩ := List.getElem_of_mem hs
          rw [List.getElem_take]
          exact hkj j (by rw [List.length_take] at hj; omega)
        rw [ht] at h
        simp only [Option.some.injEq, Prod.mk.injEq] at h
        obtain ⟨rfl, rfl, rfl, rfl, rfl⟩ := h
        have hel : ((spOf l0_2).eraseIdx k).length = (spOf l0_2).length - 1 := by rw [List.length_eraseIdx, if_pos hk]
        refine ⟨_, rfl, made_of hg hel (by omega) (by omega) ⟨_, hgb, ?_, ?_⟩, hbel⟩
        · simp only [gone, List.size_toArray, List.length_append, sp_length, hel, List.length_cons, List.length_nil]
          omega
        · simp only [gone]
          exact List.take_left' (by rw [sp_length])
      · rw [takeL_none.2 hall] at h
        simp only at h
        rcases hw with ⟨rfl, rfl⟩ | ⟨hne, rfl⟩
        · rw [if_pos rfl] at h
          simp only [Option.some.injEq, Prod.mk.injEq] at h
          obtain ⟨rfl, rfl, rfl, rfl, rfl⟩ := h
          have := made_of hg rfl (Nat.le_refl _) (by omega) (row44_whole hgb)
          rw [ofSp_spOf hl] at this
          exact ⟨_, rfl, this, hbel⟩
        · rw [if_neg (by omega)] at h
          simp only [Option.some.injEq, Prod.mk.injEq] at h
          obtain ⟨rfl, rfl, rfl, rfl, rfl⟩ := h
          have := made_of hg rfl (Nat.le_refl _) (by omega) (row44_whole hgb)
          rw [ofSp_spOf hl] at this
          exact ⟨_, rfl, this, hbel⟩
    · rename_i hR
      simp only [Option.some.injEq, Prod.mk.injEq] at h
      obtain ⟨rfl, rfl, rfl, rfl, rfl⟩ := h
      refine (take_bad hi ca o _ _ w hrow hlen (by omega) (by omega) (spOf_small hl) (by simpa using hR)).mono ?_
      rintro e w' ⟨rfl, hb⟩
      exact ⟨_, rfl, Kd.R_nil _ _ _ _ _, hb⟩
  · simp at h

def lessP (p : Nat) (s : Sp) : Bool := decide (s.1 < p)
def giveL (p t : Nat) (l : List Sp) : List Sp := l.takeWhile (lessP p) ++ (p, t) :: l.dropWhile (lessP p)

theorem giveL_length (p t : Nat) (l : List Sp) : (giveL p t l).length = l.length + 1 := by
  have h : (l.takeWhile (lessP p) ++ l.dropWhile (lessP p)).length = l.length := by rw [List.takeWhile_append_dropWhile]
  rw [List.length_append] at h
  rw [giveL, List.length_append, List.length_cons]
  omega

theorem split_at {p : Nat} : ∀ {l : List Sp} {k : Nat}, (∀ j (h : j < l.length), j < k → (l[j]'h).1 < p) → (∀ j (h : j < l.length), k ≤ j → p < (l[j]'h).1) → l.take k = l.takeWhile (lessP p) ∧ l.drop k = l.dropWhile (lessP p) := by
  intro l
  induction l with
  | nil => intro k _ _; simp
  | cons x l ih =>
    intro k h1 h2
    cases k with
    | zero =>
      have hx : ¬ x.1 < p := by have := h2 0 (by simp) (Nat.le_refl _); simp at this; omega
      simp [List.takeWhile_cons, List.dropWhile_cons, lessP, hx]
    | succ k =>
      have hx : x.1 < p := h1 0 (by simp) (by omega)
      have := ih (k := k) (fun j h hj => h1 (j + 1) (by simpa using h) (by omega)) (fun j h hj => h2 (j + 1) (by simpa using h) (by omega))
      simp [List.takeWhile_cons, List.dropWhile_cons, lessP, hx]; exact ⟨this.1, this.2⟩

def alloc_Give.f (a0_0 a0_1 : Int) (l0_2 : List S44) (a1 a2 : Int) : Option (Int × Int × List S44 × Int) :=
  if (okN a0_0 && okN a0_1 && okL l0_2 && okN a1 && decide (0 ≤ a2)) = true then
    if gOk a0_0.toNat a0_1.toNat (spOf l0_2) a1.toNat a2.toNat = true then some (a0_0, a0_1, ofSp (giveL a1.toNat a2.toNat (spOf l0_2)), 0) else some (0, 0, [], 50)
  else none

theorem alloc_Give.calls (a0_0 : Int) (a0_1 : Int) (A0_2 : Option Addr) (c0_2 : Nat) (l0_2 : List (S44)) (a1 : Int) (a2 : Int) (r1 : Int) (r2 : Int) (r3 : List (S44)) (r4 : Int) (w : World) (hr0_2 : Kd.C k44 w A0_2 l0_2.length l0_2) (hc0_2 : l0_2.length ≤ c0_2) (h : alloc_Give.f a0_0 a0_1 l0_2 a1 a2 = some (r1, r2, r3, r4)) :
    Calls Try.prog 15 #[.agg #[.int .u32 a0_0, .int .u32 a0_1, .slice A0_2 l0_2.length c0_2], .int .u32 a1, .int .u64 a2] w fun e w' => ∃ v2_ : Value, e = .returned (.tuple #[.agg #[.int .u32 r1, .int .u32 r2, v2_], .int .i64 r4]) ∧ Kd.R k44 44 w' w.heap.size (fun _ => True) v2_ r3 ∧ Below w.heap.size w w' := by
  unfold alloc_Give.f at h
  split at h
  · rename_i hk
    simp only [Bool.and_eq_true, okN, decide_eq_true_eq] at hk
    obtain ⟨⟨⟨⟨⟨h0, h1⟩, h2, h3⟩, hl⟩, h4, h5⟩, h6⟩ := hk
    obtain ⟨hi, rfl⟩ := Int.eq_ofNat_of_zero_le h0
    obtain ⟨ca, rfl⟩ := Int.eq_ofNat_of_zero_le h2
    obtain ⟨p, rfl⟩ := Int.eq_ofNat_of_zero_le h4
    obtain ⟨t, rfl⟩ := Int.eq_ofNat_of_zero_le h6
    simp only [Int.toNat_natCast] at h
    have hrow : SpRow w (.slice A0_2 l0_2.length c0_2) (spOf l0_2) := row_of hr0_2 hl
    have hlen : (spOf l0_2).length ≤ 1000000 := by rw [spOf_length]; have := okL_len hl; omega
    refine (give_any hi ca p t _ _ w hrow hlen (by omega) (by omega) (by omega) (spOf_small hl)).mono ?_
    rintro e w' (⟨hg, rfl, hb⟩ | ⟨hg, g, c, k, rfl, hgb, hc, hcm, hrow, hk, hlo, hup, hb⟩)
    · rw [if_neg (by simp [hg])] at h
      simp only [Option.some.injEq, Prod.mk.injEq] at h
      obtain ⟨rfl, rfl, rfl, rfl⟩ := h
      exact ⟨_, rfl, Kd.R_nil _ _ _ _ _, hb⟩
    · rw [if_pos hg] at h
      simp only [Option.some.injEq, Prod.mk.injEq] at h
      obtain ⟨rfl, rfl, rfl, rfl⟩ := h
      obtain ⟨e1, e2⟩ := split_at hlo hup
      rw [e1, e2] at hrow
      refine ⟨_, rfl, made_of hgb (giveL_length _ _ _) hc hcm hrow, hb⟩
  · simp at h
end Go.Proofs.YtnbmpcdomdaimaaQ.PA
