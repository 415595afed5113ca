/- A law for 'for .. := range seq { .. }' where the iterator keeps cells of its own (a captured variable, variables that it lays when it begins): its contract 'Iter', and what a caller owes. Over any program. -/
import Derived.RangeFuncNested
import Derived.RangeFuncBound
import Derived.RangeFuncCalls
import Derived.RangeFuncLeaves
import Derived.Shelf.Abstract
import Derived.WalkKit
import Derived.OwnWalkIn
import Derived.TacticsInMore
import Derived.LoopNIn
import Derived.LoopIn
import Derived.Lib.Hide
import Derived.Deep.Draws
import Derived.WalkMore
import Derived.Scope
set_option linter.unusedVariables false
set_option linter.unusedSimpArgs false
namespace Go.Proofs.Ytnbmpcdomdaimaa
open Go.RowKit

/-- The blocks of S that were there are as they were; the rest of the machine too. -/
structure Same (S : Nat → Prop) (A B : World) : Prop where
  os : B.os = A.os
  tape : B.tape = A.tape
  output : B.output = A.output
  size : A.heap.size ≤ B.heap.size
  same : ∀ k, k < A.heap.size → S k → B.heap[k]? = A.heap[k]?

section
variable {S S' : Nat → Prop} {A B C w W : World}
theorem Same.refl (S : Nat → Prop) (A : World) : Same S A A := ⟨rfl, rfl, rfl, Nat.le_refl _, fun _ _ _ => rfl⟩
theorem Same.trans (h : Same S A B) (k : Same S B C) : Same S A C :=
  ⟨k.os.trans h.os, k.tape.trans h.tape, k.output.trans h.output, Nat.le_trans h.size k.size, fun i hi hs => (k.same i (Nat.lt_of_lt_of_le hi h.size) hs).trans (h.same i hi hs)⟩
theorem Same.mono (h : Same S A B) (hs : ∀ k, k < A.heap.size → S' k → S k) : Same S' A B := ⟨h.os, h.tape, h.output, h.size, fun i hi h' => h.same i hi (hs i hi h')⟩
theorem Same.alloc (h : Same S A B) (o : Obj) : Same S A (B.alloc o) :=
  h.trans ⟨rfl, rfl, rfl, by simp, fun k hk _ => Below.heap_alloc _ _ _ hk⟩
theorem Same.setCell (h : Same S A B) {p : Addr} (hp : p.block < A.heap.size → ¬ S p.block) (u : Value) : Same S A (B.setCell p u) := by
  refine ⟨h.os, h.tape, h.output, by simpa [World.setCell] using h.size, fun k hk hs => ?_⟩
  rw [Below.heap_setCell _ _ _ _ (fun e => hp (e ▸ hk) (e ▸ hs))]
  exact h.same k hk hs
theorem Same.drew (h : Same S A B) : Same S A B.drew := ⟨h.os, h.tape, h.output, h.size, h.same⟩
theorem Same.drewN (h : Same S A B) (n : Nat) : Same S A (B.drewN n) := ⟨h.os, h.tape, h.output, h.size, h.same⟩
theorem Same.putObj (h : Same S A B) {l : Nat} (o : Obj) (hl : l < A.heap.size → ¬ S l) : Same S A (B.putObj l o) :=
  ⟨h.os, h.tape, h.output, by simpa using h.size, fun k hk hs => (World.putObj_heap_other (by rintro rfl; exact hl hk hs)).trans (h.same k hk hs)⟩
theorem Same.grown (h : Same S A B) {row : Option Nat} (hg : B.grownBy C row) (hr : ∀ k, row = some k → k < A.heap.size → ¬ S k) : Same S A C :=
  ⟨hg.os.trans h.os, hg.tape.trans h.tape, hg.output.trans h.output, Nat.le_trans h.size hg.size, fun k hk hs => (hg.block k (Nat.lt_of_lt_of_le hk h.size) (fun e => hr k e.symm hk hs)).trans (h.same k hk hs)⟩
theorem Same.of_below {n : Nat} (h : Below n A B) (hs : ∀ k, k < A.heap.size → S k → k < n) : Same S A B := ⟨h.os, h.tape, h.output, h.size, fun k hk h' => h.block k (hs k hk h')⟩
theorem Same.below {n : Nat} (h : Same S A B) (hn : n ≤ A.heap.size) (hs : ∀ k, k < n → S k) : Below n A B := ⟨h.os, h.tape, h.output, h.size, fun k hk => h.same k (by omega) (hs k hk)⟩
theorem Same.at_ (h : Same S A B) {k : Nat} {o : Obj} (hk : A.heap[k]? = some o) (hs : S k) : B.heap[k]? = some o := (h.same k (Array.getElem?_eq_some_iff.1 hk).1 hs).trans hk
theorem Same.then_below (h : Same S A B) {n : Nat} (k : Below n B C) (hs : ∀ i, i < A.heap.size → S i → i < n) : Same S A C :=
  ⟨k.os.trans h.os, k.tape.trans h.tape, k.output.trans h.output, Nat.le_trans h.size k.size, fun i hi h' => (k.block i (hs i hi h')).trans (h.same i hi h')⟩
end

theorem alloc_at (w : World) (o : Obj) (k : Nat) : (w.alloc o).heap[k]? = if k = w.heap.size then some o else w.heap[k]? := by
  show (w.heap.push o)[k]? = _
  rw [Array.getElem?_push]

theorem ownsRow_same {S : Nat → Prop} {A B : World} {base : Nat} {e : TypeId} {size n : Nat} {v : Value} {xs : List Value} (h : A.ownsRow base e size v n xs) (hS : Same S A B) (hb : ∀ k, base ≤ k → k < A.heap.size → S k) : B.ownsRow base e size v n xs := by
  refine ⟨h.1, h.2.imp id ?_⟩
  rintro ⟨g, cap, cur, hv, hg, hh, r⟩
  exact ⟨g, cap, cur, hv, hg, hS.at_ hh (hb g hg (Array.getElem?_eq_some_iff.1 hh).1), r⟩
theorem ownsRow_base {A : World} {base base' : Nat} {e : TypeId} {size n : Nat} {v : Value} {xs : List Value} (h : A.ownsRow base e size v n xs) (hb : base' ≤ base) : A.ownsRow base' e size v n xs := by
  refine ⟨h.1, h.2.imp id ?_⟩
  rintro ⟨g, cap, cur, hv, hg, r⟩
  exact ⟨g, cap, cur, hv, by omega, r⟩
theorem box_same {S : Nat → Prop} {A B : World} {k : Nat} {t : TypeId} {v : Value} (h : Boxed A k t v) (hS : Same S A B) (hk : S k) : Boxed B k t v := hS.at_ h hk

section
variable {F : Fence} {n : Nat} {P : Program} {b : Frame} {a : Act} {k : List Item} {cs : List Frame} {w : World} {Q : Exit → Act → World → Prop}
theorem stepR_scope {c : Code} : step P (lone (b.atR a (.code (.scope c) :: k)) cs w) = .next (lone (b.atR a (.code c :: .inScope c :: k)) cs w) :=
  step_lone_go (by simp [stepG, stepG.exec, Frame.atR])
theorem stepR_inScope {c : Code} : step P (lone (b.atR a (.inScope c :: k)) cs w) = .next (lone (b.atR a k) cs w) :=
  step_lone_go (by simp [stepG, stepG.exec, Frame.atR])

/-- A body that holds a label to which nothing jumps, in the fence. -/
theorem wpIn_scope {c : Code} (h : c.wpIn F n P (Exit.noGoto Q) a w) : (Code.scope c).wpIn F n P Q a w := by
  intro b k cs hro hb hr
  have h0 : (lone (b.atR a (.code (.scope c) :: k)) cs w).fenced P F := fenced_calm hb hr rfl
  obtain ⟨e, a₁, w₁, hq, harr⟩ := h b (.inScope c :: k) cs hro hb hr
  cases e with
  | normal => exact ⟨.normal, a₁, w₁, hq, .head h0 stepR_scope (StepsIn.trans harr (.one (fenced_calm hb hr rfl) stepR_inScope))⟩
  | exit id =>
    have hx : exitTo id (.inScope c :: k) = exitTo id k := by simp [exitTo]
    exact ⟨_, a₁, w₁, hq, fun k' hk => .head h0 stepR_scope (harr.1 k' (by rw [hx]; exact hk)),
      fun hr' hk => let ⟨k₁, h1, h2⟩ := harr.2 hr' (by rw [hx]; exact hk); ⟨k₁, h1, .head h0 stepR_scope h2⟩⟩
  | goto l => exact hq.elim
  | ret => exact ⟨_, a₁, w₁, hq, .of_steps (.one h0 stepR_scope) harr⟩
  | panic ch => exact ⟨_, a₁, w₁, hq, .of_steps (.one h0 stepR_scope) harr⟩
  | outgrown => exact ⟨_, a₁, w₁, hq, .of_steps (.one h0 stepR_scope) harr⟩
theorem wpIn_label {l : Nat} (h : Q .normal a w) : (Code.label l).wpIn F n P Q a w :=
  fun b k cs _ hb hr => ⟨.normal, a, w, h, .one (fenced_calm hb hr rfl) stepR_label⟩
end

/-- THE CONTRACT OF AN ITERATOR that hands over just xs, one by one, to whatever body: T: its own cells that lie already; it lays c more as it begins; Rd: what it reads. -/
def Iter {α : Type} (n : Nat) (P : Program) (g : Nat) (lb : Array Value) (encs : α → Array Value) (xs : List α) (T Rd : Nat → Prop) (c : Nat) (w : World) : Prop :=
  ∀ (l : Nat) (J Jx : List α → World → Prop) (W : World), w.heap.size ≤ W.heap.size → (∀ k, k < w.heap.size → T k ∨ Rd k → W.heap[k]? = w.heap[k]?) →
    (∀ s A B, J s A → W.heap.size ≤ A.heap.size → Same (fun k => ¬ T k ∧ ¬ (W.heap.size ≤ k)) A B → J s B) →
    (∀ s A B, Jx s A → W.heap.size ≤ A.heap.size → Same (fun k => ¬ T k ∧ ¬ (W.heap.size ≤ k)) A B → Jx s B) →
    (∀ pre x rest W1, xs = pre ++ x :: rest → J pre W1 → W.heap.size ≤ W1.heap.size → YieldAt Fence.wide (n - 1) P l (encs x) W1 fun e W' =>
      (e = .returned (.bool true) ∧ J (pre ++ [x]) W' ∧ Same (fun k => T k ∨ Rd k ∨ (W.heap.size ≤ k)) W1 W') ∨ (e = .returned (.bool false) ∧ Jx (pre ++ [x]) W')) →
    J [] W →
    CallsIn Fence.wide n P g (#[.func (.yield l) #[] #[]] ++ lb) W fun e W' => (∃ v, e = .returned v) ∧ ((W.heap.size ≤ W'.heap.size ∧ J xs W') ∨ ∃ pre, pre <+: xs ∧ Jx pre W')

/-- How the body of a round may be left. -/
def bpost {α : Type} (Keep : Nat → Prop) (I : List α → World → Prop) (Ix : Code → List α → World → Prop) (xs : List α) (W : World) : Exit → Act → World → Prop
  | .normal, _, W' => Same Keep W W' ∧ I xs W'
  | .ret, _, W' => Same Keep W W' ∧ Ix .ret xs W'
  | .exit id, _, W' => Same Keep W W' ∧ Ix (.exit id) xs W'
  | .goto t, _, W' => Same Keep W W' ∧ Ix (.goto t) xs W'
  | .panic _, _, _ => False
  | .outgrown, _, _ => False

/-- What the caller's words speak of: neither the iterator's cells nor the loop's record. -/
def Mine (w : World) (T : Nat → Prop) (c : Nat) (k : Nat) : Prop := ¬ T k ∧ ¬ (w.heap.size ≤ k)
/-- What a round must keep. -/
def Theirs (w : World) (T Rd : Nat → Prop) (c : Nat) (k : Nat) : Prop := T k ∨ Rd k ∨ (w.heap.size ≤ k)

theorem wp_range {α : Type} {n : Nat} {P : Program} {g : Operand} {ps : Array Tmp} {assign body : Code} {Q : Exit → Act → World → Prop} {a : Act} {w : World}
    {gf : Nat} {lb : Array Value} (hg : a.eval g = .func (.func gf) #[] lb) (eg : ∀ args w, (callFunc gf args).run P w = .ok (.enter gf args) w)
    {encs : α → Array Value} {xs : List α} {T Rd : Nat → Prop} {c : Nat} (hit : Iter (n - 1) P gf lb encs xs T Rd c w) (hT : ∀ k, T k → k < w.heap.size) (hRd : ∀ k, Rd k → k < w.heap.size) (hps : ∀ x, (encs x).size = ps.size)
    (I : List α → World → Prop) (Ix : Code → List α → World → Prop) (hI : ∀ s A B, I s A → w.heap.size ≤ A.heap.size → Same (Mine w T c) A B → I s B) (hIx : ∀ q s A B, Ix q s A → w.heap.size ≤ A.heap.size → Same (Mine w T c) A B → Ix q s B) (h0 : I [] w)
    (Ax : α → Act → World → Prop) (hAx : ∀ x a' A B, Ax x a' A → w.heap.size ≤ A.heap.size → Same (fun k => k ≠ w.heap.size + 1) A B → Ax x a' B)
    (hassign : ∀ (l : Nat) (pre : List α) (x : α) (rest : List α) (W : World) (K : Act → World → Prop), xs = pre ++ x :: rest → I pre W → w.heap.size + 2 ≤ W.heap.size → (∀ a' W', Same (Theirs w T Rd c) W W' → I pre W' → Ax x a' W' → K a' W') →
      assign.wpIn (Fence.wide.inRound l) (n - 1 - 1) P (Exit.then K (fun _ _ _ => False)) { tmps := (ps.zip (encs x)).foldl (fun t (p, v) => t.setIfInBounds p v) a.tmps, defers := [] } W)
    (hbody : ∀ (l : Nat) (pre : List α) (x : α) (rest : List α) (a' : Act) (W : World), xs = pre ++ x :: rest → I pre W → Ax x a' W → w.heap.size + 2 ≤ W.heap.size → body.wpIn (Fence.wide.inRound l) (n - 1 - 1) P (bpost (Theirs w T Rd c) I Ix (pre ++ [x]) W) a' W)
    (hdone : ∀ (W : World), I xs W → w.heap.size + 2 ≤ W.heap.size → W.heap[w.heap.size]? = some (.deferred (some [])) → Q .normal { a with defers := { target := .collected w.heap.size, args := #[] } :: a.defers } W)
    (hstop : ∀ (q : Code) (pre : List α) (W : World), pre <+: xs → Ix q pre W → w.heap.size + 2 ≤ W.heap.size → W.heap[w.heap.size]? = some (.deferred (some [])) → q.wpIn Fence.wide n P Q { a with defers := { target := .collected w.heap.size, args := #[] } :: a.defers } W) :
    (Code.rangeFunc g ps assign body).wpIn Fence.wide n P Q a w := by
  refine wpIn_rangeFunc ?_
  intro fn hfn
  obtain ⟨rec, hrec⟩ : ∃ rec : LoopState → Option Code → Loop, rec = fun st pe => { state := st, pending := pe, fn, tmps := a.tmps, params := ps, assign, body, defers := w.heap.size } := ⟨_, rfl⟩
  obtain ⟨W1, hW1⟩ : ∃ W1, (w.alloc (.deferred (some []))).alloc (.loop (rec .ready none)) = W1 := ⟨_, rfl⟩
  have hL1 : W1.heap[w.heap.size + 1]? = some (.loop (rec .ready none)) := by
    rw [← hW1]; have := World.alloc_heap_new (w.alloc (.deferred (some []))) (.loop (rec .ready none)); rwa [World.size_alloc] at this
  have hK1 : W1.heap[w.heap.size]? = some (.deferred (some [])) := by
    rw [← hW1]; exact (Below.heap_alloc _ _ _ (by simp)).trans (World.alloc_heap_new w _)
  have hsz : W1.heap.size = w.heap.size + 2 := by rw [← hW1]; simp
  have hI1 : I [] W1 := by rw [← hW1]; exact hI _ _ _ h0 (Nat.le_refl _) (((Same.refl _ w).alloc _).alloc _)
  have hS1 : Same (fun _ => True) w W1 := by rw [← hW1]; exact ((Same.refl _ w).alloc _).alloc _
  refine ⟨w.heap.size + 1, [{ target := .collected w.heap.size, args := #[] }], W1, { target := .fn (.func gf) lb, args := #[.func (.yield (w.heap.size + 1)) #[] #[]] }, W1, gf,
    #[.func (.yield (w.heap.size + 1)) #[] #[]] ++ lb, W1, ?_, ?_, ?_, ?_, fun h => by simp [Fence.wide] at h, ?_⟩
  · rw [← hW1, hrec]; exact run_enterLoop_outer _ _ _ _ _
  · simp only [resolve, hg]
    simp [go_sem]
  · intro f' hf'; trivial
  · simp [invoke, go_sem, eg]
  · refine (hit (w.heap.size + 1)
      (fun pre W => I pre W ∧ W.heap[w.heap.size + 1]? = some (.loop (rec .ready none)) ∧ W.heap[w.heap.size]? = some (.deferred (some [])))
      (fun pre W => ∃ q, Ix q pre W ∧ W.heap[w.heap.size + 1]? = some (.loop (rec .done (some q))) ∧ W.heap[w.heap.size]? = some (.deferred (some [])) ∧ w.heap.size + 2 ≤ W.heap.size)
      W1 (by omega) (fun k hk _ => hS1.same k hk trivial) ?_ ?_ ?_ ⟨hI1, hL1, hK1⟩).mono ?_
    · rintro s A B ⟨hi, hl, hk⟩ hsA hAB
      refine ⟨hI _ _ _ hi (by omega) (hAB.mono fun k _ hm => ⟨hm.1, fun h => hm.2 (by omega)⟩), hAB.at_ hl ⟨fun h => ?_, fun h => ?_⟩, hAB.at_ hk ⟨fun h => ?_, fun h => ?_⟩⟩
      · have := hT _ h; omega
      · omega
      · have := hT _ h; omega
      · omega
    · rintro s A B ⟨q, hi, hl, hk, hz⟩ hsA hAB
      refine ⟨q, hIx _ _ _ _ hi (by omega) (hAB.mono fun k _ hm => ⟨hm.1, fun h => hm.2 (by omega)⟩), hAB.at_ hl ⟨fun h => ?_, fun h => ?_⟩, hAB.at_ hk ⟨fun h => ?_, fun h => ?_⟩, Nat.le_trans hz hAB.size⟩
      · have := hT _ h; omega
      · omega
      · have := hT _ h; omega
      · omega
    · -- one round
      rintro pre x rest W hxs ⟨hi, hl, hk⟩ hlen
      rw [hsz] at hlen
      have hy := run_yield (P := P) (args := encs x) hl (by rw [hrec]; exact hps x)
      rw [hrec] at hy
      refine ⟨fn, _, assign, body, hy, roundIn_of_wpIn hfn (hassign _ pre x rest W _ hxs hi hlen ?_)⟩
      clear hy
      intro a' Wa hka hia hax
      have hla := hka.at_ hl (.inr (.inr (by omega)))
      have hda := hka.at_ hk (.inr (.inr (by omega)))
      have hlt : w.heap.size + 1 < Wa.heap.size := (Array.getElem?_eq_some_iff.1 hla).1
      refine ⟨_, run_beginRound hla (by rw [hrec]), ?_⟩
      have hp : ∀ (X : World) (o : Obj), Same (Mine w T c) X (X.putObj (w.heap.size + 1) o) := fun X o => (Same.refl _ X).putObj o fun _ h => h.2 (by omega)
      have hl2 : (Wa.putObj (w.heap.size + 1) (.loop { rec .ready none with state := .busy })).heap[w.heap.size + 1]? = some (.loop { rec .ready none with state := .busy }) := World.putObj_heap_same hlt
      have hd2 : (Wa.putObj (w.heap.size + 1) (.loop { rec .ready none with state := .busy })).heap[w.heap.size]? = some (.deferred (some [])) := (World.putObj_heap_other (by omega)).trans hda
      have hsa := hka.size
      refine wpIn_mono (hbody _ pre x rest a' _ hxs (hI _ _ _ hia (by omega) (hp _ _)) (hAx _ _ _ _ hax (by omega) ((Same.refl _ _).putObj _ (fun _ h => h rfl))) (by simp; omega)) ?_
      have fin : ∀ (jump : Option Code) (W3 : World), Same (Theirs w T Rd c) (Wa.putObj (w.heap.size + 1) (.loop { rec .ready none with state := .busy })) W3 →
          (Instr.endRound (w.heap.size + 1) jump).run P W3 = .ok (.bool jump.isNone) (W3.putObj (w.heap.size + 1) (.loop (rec (if jump.isNone then .ready else .done) jump))) ∧
          (W3.putObj (w.heap.size + 1) (.loop (rec (if jump.isNone then .ready else .done) jump))).heap[w.heap.size + 1]? = some (.loop (rec (if jump.isNone then .ready else .done) jump)) ∧
          (W3.putObj (w.heap.size + 1) (.loop (rec (if jump.isNone then .ready else .done) jump))).heap[w.heap.size]? = some (.deferred (some [])) ∧ w.heap.size + 2 ≤ W3.heap.size := fun jump W3 hk3 => by
        have hl3 := hk3.at_ hl2 (.inr (.inr (by omega)))
        have := run_endRound (P := P) jump hl3
        rw [hrec] at this ⊢
        exact ⟨this, World.putObj_heap_same (Array.getElem?_eq_some_iff.1 hl3).1, (World.putObj_heap_other (by omega)).trans (hk3.at_ hd2 (.inr (.inr (by omega)))), by have := hk3.size; simp at this; omega⟩
      rintro e a3 W3 hq
      cases e with
      | normal =>
        obtain ⟨hk3, hi3⟩ := hq
        obtain ⟨hr, hl4, hk4, hz4⟩ := fin none W3 hk3
        refine ⟨_, _, hr, .inl ⟨rfl, ⟨hI _ _ _ hi3 (by omega) (hp _ _), hl4, hk4⟩, ?_⟩⟩
        have hno : ∀ X : Prop, (w.heap.size + 1 < W.heap.size → ¬ (T (w.heap.size + 1) ∨ Rd (w.heap.size + 1) ∨ (W1.heap.size ≤ w.heap.size + 1))) := by
          intro _ _ h
          rcases h with h | h | h
          · have := hT _ h; omega
          · have := hRd _ h; omega
          · omega
        have hsub : ∀ k, (T k ∨ Rd k ∨ (W1.heap.size ≤ k)) → Theirs w T Rd c k := by
          rintro k (h | h | h)
          · exact .inl h
          · exact .inr (.inl h)
          · exact .inr (.inr (by omega))
        have s1 : Same (fun k => T k ∨ Rd k ∨ (W1.heap.size ≤ k)) W Wa := hka.mono fun k _ h => hsub k h
        have s2 := s1.putObj (.loop { rec .ready none with state := .busy }) (hno True)
        have s3 := s2.trans (hk3.mono fun k _ h => hsub k h)
        exact s3.putObj _ (hno True)
      | ret =>
        obtain ⟨hk3, hi3⟩ := hq
        obtain ⟨hr, hl4, hk4, hz4⟩ := fin (some .ret) W3 hk3
        exact ⟨_, _, hr, .inr ⟨rfl, .ret, hIx _ _ _ _ hi3 (by omega) (hp _ _), hl4, hk4, by simpa using hz4⟩⟩
      | exit id =>
        obtain ⟨hk3, hi3⟩ := hq
        obtain ⟨hr, hl4, hk4, hz4⟩ := fin (some (.exit id)) W3 hk3
        exact ⟨_, _, hr, .inr ⟨rfl, .exit id, hIx _ _ _ _ hi3 (by omega) (hp _ _), hl4, hk4, by simpa using hz4⟩⟩
      | goto t =>
        obtain ⟨hk3, hi3⟩ := hq
        obtain ⟨hr, hl4, hk4, hz4⟩ := fin (some (.goto t)) W3 hk3
        exact ⟨_, _, hr, .inr ⟨rfl, .goto t, hIx _ _ _ _ hi3 (by omega) (hp _ _), hl4, hk4, by simpa using hz4⟩⟩
      | panic ch => exact hq.elim
      | outgrown => exact hq.elim
    · -- behind the iterator
      rintro e W2 ⟨⟨v, rfl⟩, (⟨hz, hi, hl, hk⟩ | ⟨pre, hSp, q, hi, hl, hk, hz⟩)⟩
      · have hp : Same (Mine w T c) W2 (W2.putObj (w.heap.size + 1) (.loop { rec .ready none with state := .exhausted })) := (Same.refl _ W2).putObj _ fun _ h => h.2 (by omega)
        exact ⟨none, _, by have := run_endLoop (P := P) hl (by rw [hrec]; simp); rw [hrec] at this; exact this, hdone _ (by rw [hrec] at hp; exact hI _ _ _ hi (by omega) hp) (by simp; omega) ((World.putObj_heap_other (by omega)).trans hk)⟩
      · have hp : Same (Mine w T c) W2 (W2.putObj (w.heap.size + 1) (.loop { rec .done (some q) with state := .exhausted })) := (Same.refl _ W2).putObj _ fun _ h => h.2 (by omega)
        exact ⟨some q, _, by have := run_endLoop (P := P) hl (by rw [hrec]; simp); rw [hrec] at this; exact this, hstop q pre _ hSp (by rw [hrec] at hp; exact hIx _ _ _ _ hi (by omega) hp) (by simp; omega) ((World.putObj_heap_other (by omega)).trans hk)⟩
end Go.Proofs.Ytnbmpcdomdaimaa
