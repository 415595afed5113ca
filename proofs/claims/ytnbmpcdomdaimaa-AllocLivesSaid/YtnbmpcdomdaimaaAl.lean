/- Which pages are free, in plain Lean: what is right, what is taken, what given comes to. -/
namespace Go.Proofs.Ytnbmpcdomdaimaa
set_option linter.unusedVariables false
set_option linter.unusedSimpArgs false

/-- A spare: its page, and the transaction that let it go. -/
abbrev Sp := Nat × Nat

/-- Are the spares right, behind one that lies ahead of them? 'm' is the last page there may be. -/
def okFrom (m : Nat) (old : Sp) : List Sp → Bool
  | [] => true
  | s :: l => (decide (2 ≤ s.1) && decide (s.1 ≤ m) && decide (s.2 ≠ 0) && (decide (old = (0, 0)) || decide (old.1 < s.1))) && okFrom m s l

def right (high cap : Nat) (l : List Sp) : Bool :=
  decide (2 ≤ cap) && decide (cap ≤ 16384) && decide (2 ≤ high) && decide (high ≤ cap) && decide (l.length ≤ 4096) && okFrom (high - 1) (0, 0) l

def takeL (o : Nat) : List Sp → Option (Nat × List Sp)
  | [] => none
  | s :: l => if s.2 ≤ o then some (s.1, l) else (takeL o l).map fun x => (x.1, s :: x.2)

/-- In order, pages between 2 and m, transactions there. -/
def Good (m : Nat) : Nat → List Sp → Prop
  | _, [] => True
  | b, s :: l => b < s.1 ∧ s.1 ≤ m ∧ 0 < s.2 ∧ Good m s.1 l

theorem okFrom_good (m : Nat) : ∀ (l : List Sp) (old : Sp), 2 ≤ old.1 ∨ old = (0, 0) → (okFrom m old l = true ↔ Good m (max old.1 1) l) := by
  intro l
  induction l with
  | nil => intro old _; simp [okFrom, Good]
  | cons s l ih =>
    intro old ho
    simp only [okFrom, Good, Bool.and_eq_true, Bool.or_eq_true, decide_eq_true_eq]
    constructor
    · rintro ⟨⟨⟨⟨h1, h2⟩, h3⟩, h4⟩, h5⟩
      have h6 := (ih s (.inl h1)).1 h5
      rw [show max s.1 1 = s.1 by omega] at h6
      refine ⟨?_, h2, by omega, h6⟩
      rcases h4 with rfl | h4
      · simp; omega
      · omega
    · rintro ⟨h1, h2, h3, h4⟩
      have h0 : 2 ≤ s.1 := by omega
      refine ⟨⟨⟨⟨h0, h2⟩, by omega⟩, ?_⟩, (ih s (.inl h0)).2 (by rw [show max s.1 1 = s.1 by omega]; exact h4)⟩
      rcases ho with ho | ho
      · right; omega
      · exact .inl ho

theorem right_iff (high cap : Nat) (l : List Sp) : right high cap l = true ↔ 2 ≤ cap ∧ cap ≤ 16384 ∧ 2 ≤ high ∧ high ≤ cap ∧ l.length ≤ 4096 ∧ Good (high - 1) 1 l := by
  have h := okFrom_good (high - 1) l (0, 0) (.inr rfl)
  simp only [right, Bool.and_eq_true, decide_eq_true_eq, h]
  constructor
  · rintro ⟨⟨⟨⟨⟨a, b⟩, c⟩, d⟩, e⟩, f⟩; exact ⟨a, b, c, d, e, f⟩
  · rintro ⟨a, b, c, d, e, f⟩; exact ⟨⟨⟨⟨⟨a, b⟩, c⟩, d⟩, e⟩, f⟩

theorem Good.mem {m : Nat} : ∀ {l : List Sp} {b : Nat}, Good m b l → ∀ s ∈ l, b < s.1 ∧ s.1 ≤ m ∧ 0 < s.2 := by
  intro l
  induction l with
  | nil => intro b _ s hs; simp at hs
  | cons x l ih =>
    intro b h s hs
    rcases List.mem_cons.1 hs with rfl | hs
    · exact ⟨h.1, h.2.1, h.2.2.1⟩
    · have := ih h.2.2.2 s hs
      have := h.1
      omega

theorem Good.weaken {m b b' m' : Nat} {l : List Sp} (h : Good m b l) (hb : b' ≤ b) (hm : m ≤ m') : Good m' b' l := by
  induction l generalizing b b' with
  | nil => trivial
  | cons s l ih => exact ⟨by have := h.1; omega, by have := h.2.1; omega, h.2.2.1, ih h.2.2.2 (Nat.le_refl _)⟩

theorem takeL_none {o : Nat} {l : List Sp} : takeL o l = none ↔ ∀ s ∈ l, o < s.2 := by
  induction l with
  | nil => simp [takeL]
  | cons x l ih =>
    simp only [takeL]
    split
    · rename_i h
      simp only [reduceCtorEq, List.mem_cons, forall_eq_or_imp, false_iff]
      omega
    · rename_i h
      simp only [Option.map_eq_none_iff, ih, List.mem_cons, forall_eq_or_imp]
      constructor
      · intro h'; exact ⟨by omega, h'⟩
      · exact fun h' => h'.2

/-- What is taken: the list ahead of it, itself, the list behind it. -/
theorem takeL_some {o p : Nat} {l r : List Sp} (h : takeL o l = some (p, r)) : ∃ l1 t l2, l = l1 ++ (p, t) :: l2 ∧ r = l1 ++ l2 ∧ t ≤ o ∧ ∀ s ∈ l1, o < s.2 := by
  induction l generalizing p r with
  | nil => simp [takeL] at h
  | cons x l ih =>
    simp only [takeL] at h
    split at h
    · rename_i hx
      simp only [Option.some.injEq, Prod.mk.injEq] at h
      obtain ⟨rfl, rfl⟩ := h
      exact ⟨[], x.2, l, rfl, rfl, hx, by simp⟩
    · rename_i hx
      obtain ⟨⟨p', r'⟩, hy, he⟩ := Option.map_eq_some_iff.1 h
      simp only [Prod.mk.injEq] at he
      obtain ⟨rfl, rfl⟩ := he
      obtain ⟨l1, t, l2, rfl, rfl, ht, hl⟩ := ih hy
      refine ⟨x :: l1, t, l2, rfl, rfl, ht, ?_⟩
      intro s hs
      rcases List.mem_cons.1 hs with rfl | hs
      · omega
      · exact hl s hs

theorem takeL_split {o p t : Nat} {l1 l2 : List Sp} (ht : t ≤ o) (hl : ∀ s ∈ l1, o < s.2) : takeL o (l1 ++ (p, t) :: l2) = some (p, l1 ++ l2) := by
  induction l1 with
  | nil => simp [takeL, ht]
  | cons x l ih =>
    have hx := hl x (by simp)
    have := ih (fun s hs => hl s (by simp [hs]))
    simp only [List.cons_append, takeL]
    rw [if_neg (by omega), this]
    rfl

theorem good_append {m : Nat} : ∀ {l1 l2 : List Sp} {b : Nat}, Good m b (l1 ++ l2) → Good m b l1 ∧ Good m b l2 := by
  intro l1
  induction l1 with
  | nil => intro l2 b h; exact ⟨trivial, h⟩
  | cons x l ih =>
    intro l2 b h
    obtain ⟨h1, h2⟩ := ih h.2.2.2
    exact ⟨⟨h.1, h.2.1, h.2.2.1, h1⟩, h2.weaken (by have := h.1; omega) (Nat.le_refl _)⟩

theorem good_drop {m : Nat} : ∀ {l1 l2 : List Sp} {b : Nat} {x : Sp}, Good m b (l1 ++ x :: l2) → Good m b (l1 ++ l2) := by
  intro l1
  induction l1 with
  | nil => intro l2 b x h; exact h.2.2.2.weaken (by have := h.1; omega) (Nat.le_refl _)
  | cons y l ih => intro l2 b x h; exact ⟨h.1, h.2.1, h.2.2.1, ih h.2.2.2⟩

/-- In order: what lies behind a spare is greater, what lies ahead is less. -/
theorem good_mid {m : Nat} : ∀ {l1 l2 : List Sp} {b : Nat} {x : Sp}, Good m b (l1 ++ x :: l2) → (∀ s ∈ l1, s.1 < x.1) ∧ (∀ s ∈ l2, x.1 < s.1) := by
  intro l1
  induction l1 with
  | nil => intro l2 b x h; exact ⟨by simp, fun s hs => (h.2.2.2.mem s hs).1⟩
  | cons y l ih =>
    intro l2 b x h
    obtain ⟨h1, h2⟩ := ih h.2.2.2
    refine ⟨fun s hs => ?_, h2⟩
    rcases List.mem_cons.1 hs with rfl | hs
    · exact (h.2.2.2.mem x (by simp)).1
    · exact h1 s hs

/-- A spare's place among those that are there: how many pages are less. -/
def place (p : Nat) (l : List Sp) : Nat := (l.takeWhile fun s => decide (s.1 < p)).length

theorem good_insert {m p t : Nat} : ∀ {l1 l2 : List Sp} {b : Nat}, Good m b (l1 ++ l2) → (∀ s ∈ l1, s.1 < p) → (∀ s ∈ l2, p < s.1) → b < p → p ≤ m → 0 < t → Good m b (l1 ++ (p, t) :: l2) := by
  intro l1
  induction l1 with
  | nil =>
    intro l2 b h _ h2 hb hp ht
    refine ⟨hb, hp, ht, ?_⟩
    cases l2 with
    | nil => trivial
    | cons y l => exact ⟨h2 y (by simp), h.2.1, h.2.2.1, h.2.2.2⟩
  | cons y l ih =>
    intro l2 b h h1 h2 hb hp ht
    exact ⟨h.1, h.2.1, h.2.2.1, ih h.2.2.2 (fun s hs => h1 s (by simp [hs])) h2 (h1 y (by simp)) hp ht⟩
end Go.Proofs.Ytnbmpcdomdaimaa
