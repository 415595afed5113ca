/- A law for 'for .. := range seq { .. }' where the iterator keeps cells of its own (a captured variable, variables that it lays when it begins): its contract 'Iter', and what a caller owes. Over any program. Small facts on blocks and on results that lie in memory. errors.Is over the sentinels of package money, and money.told. Package money: what may be an amount, Add, Sub, Move. Rows that are read: elements of two cells; the block they lie in. -/
import Derived.RangeFuncNested
import Derived.RangeFuncBound
import Derived.RangeFuncCalls
import Derived.RangeFuncLeaves
import Derived.Shelf.Abstract
import Derived.WalkKit
import Derived.OwnWalkIn
import Derived.TacticsInMore
import Derived.LoopNIn
import Derived.LoopIn
import Derived.Lib.Hide
import Derived.Deep.Draws
import Derived.WalkMore
import Derived.Scope
import Derived.Deep.MidRow
import Derived.Laws.ResultCell
import Derived.ScopeJumps
import Derived.ProofKit
import Derived.Below
import Derived.Lib.Builder
import Derived.Test.YtmkcbkdbdcnoiaaGreatDoorProg
import Derived.LaidEql
import Derived.Stop.Asserts
import Derived.RowKitTokens
import Derived.Deep.QuietTactic
import Derived.BigQuiet
import Derived.IntWalk
set_option linter.unusedVariables false
set_option linter.unusedSimpArgs false
namespace Go.Proofs.YtmkcbkdbdcnoiaaGreatDoor
open Go.RowKit

/-- The blocks of S that were there are as they were; the rest of the machine too. -/
structure Same (S : Nat → Prop) (A B : World) : Prop where
  os : B.os = A.os
  tape : B.tape = A.tape
  output : B.output = A.output
  size : A.heap.size ≤ B.heap.size
  same : ∀ k, k < A.heap.size → S k → B.heap[k]? = A.heap[k]?

section
variable {S S' : Nat → Prop} {A B C w W : World}
theorem Same.refl (S : Nat → Prop) (A : World) : Same S A A := ⟨rfl, rfl, rfl, Nat.le_refl _, fun _ _ _ => rfl⟩
theorem Same.trans (h : Same S A B) (k : Same S B C) : Same S A C :=
  ⟨k.os.trans h.os, k.tape.trans h.tape, k.output.trans h.output, Nat.le_trans h.size k.size, fun i hi hs => (k.same i (Nat.lt_of_lt_of_le hi h.size) hs).trans (h.same i hi hs)⟩
theorem Same.mono (h : Same S A B) (hs : ∀ k, k < A.heap.size → S' k → S k) : Same S' A B := ⟨h.os, h.tape, h.output, h.size, fun i hi h' => h.same i hi (hs i hi h')⟩
theorem Same.alloc (h : Same S A B) (o : Obj) : Same S A (B.alloc o) :=
  h.trans ⟨rfl, rfl, rfl, by simp, fun k hk _ => Below.heap_alloc _ _ _ hk⟩
theorem Same.setCell (h : Same S A B) {p : Addr} (hp : p.block < A.heap.size → ¬ S p.block) (u : Value) : Same S A (B.setCell p u) := by
  refine ⟨h.os, h.tape, h.output, by simpa [World.setCell] using h.size, fun k hk hs => ?_⟩
  rw [Below.heap_setCell _ _ _ _ (fun e => hp (e ▸ hk) (e ▸ hs))]
  exact h.same k hk hs
theorem Same.drew (h : Same S A B) : Same S A B.drew := ⟨h.os, h.tape, h.output, h.size, h.same⟩
theorem Same.drewN (h : Same S A B) (n : Nat) : Same S A (B.drewN n) := ⟨h.os, h.tape, h.output, h.size, h.same⟩
theorem Same.putObj (h : Same S A B) {l : Nat} (o : Obj) (hl : l < A.heap.size → ¬ S l) : Same S A (B.putObj l o) :=
  ⟨h.os, h.tape, h.output, by simpa using h.size, fun k hk hs => (World.putObj_heap_other (by rintro rfl; exact hl hk hs)).trans (h.same k hk hs)⟩
theorem Same.grown (h : Same S A B) {row : Option Nat} (hg : B.grownBy C row) (hr : ∀ k, row = some k → k < A.heap.size → ¬ S k) : Same S A C :=
  ⟨hg.os.trans h.os, hg.tape.trans h.tape, hg.output.trans h.output, Nat.le_trans h.size hg.size, fun k hk hs => (hg.block k (Nat.lt_of_lt_of_le hk h.size) (fun e => hr k e.symm hk hs)).trans (h.same k hk hs)⟩
theorem Same.of_below {n : Nat} (h : Below n A B) (hs : ∀ k, k < A.heap.size → S k → k < n) : Same S A B := ⟨h.os, h.tape, h.output, h.size, fun k hk h' => h.block k (hs k hk h')⟩
theorem Same.below {n : Nat} (h : Same S A B) (hn : n ≤ A.heap.size) (hs : ∀ k, k < n → S k) : Below n A B := ⟨h.os, h.tape, h.output, h.size, fun k hk => h.same k (by omega) (hs k hk)⟩
theorem Same.at_ (h : Same S A B) {k : Nat} {o : Obj} (hk : A.heap[k]? = some o) (hs : S k) : B.heap[k]? = some o := (h.same k (Array.getElem?_eq_some_iff.1 hk).1 hs).trans hk
theorem Same.then_below (h : Same S A B) {n : Nat} (k : Below n B C) (hs : ∀ i, i < A.heap.size → S i → i < n) : Same S A C :=
  ⟨k.os.trans h.os, k.tape.trans h.tape, k.output.trans h.output, Nat.le_trans h.size k.size, fun i hi h' => (k.block i (hs i hi h')).trans (h.same i hi h')⟩
end

theorem alloc_at (w : World) (o : Obj) (k : Nat) : (w.alloc o).heap[k]? = if k = w.heap.size then some o else w.heap[k]? := by
  show (w.heap.push o)[k]? = _
  rw [Array.getElem?_push]

theorem ownsRow_same {S : Nat → Prop} {A B : World} {base : Nat} {e : TypeId} {size n : Nat} {v : Value} {xs : List Value} (h : A.ownsRow base e size v n xs) (hS : Same S A B) (hb : ∀ k, base ≤ k → k < A.heap.size → S k) : B.ownsRow base e size v n xs := by
  refine ⟨h.1, h.2.imp id ?_⟩
  rintro ⟨g, cap, cur, hv, hg, hh, r⟩
  exact ⟨g, cap, cur, hv, hg, hS.at_ hh (hb g hg (Array.getElem?_eq_some_iff.1 hh).1), r⟩
theorem ownsRow_base {A : World} {base base' : Nat} {e : TypeId} {size n : Nat} {v : Value} {xs : List Value} (h : A.ownsRow base e size v n xs) (hb : base' ≤ base) : A.ownsRow base' e size v n xs := by
  refine ⟨h.1, h.2.imp id ?_⟩
  rintro ⟨g, cap, cur, hv, hg, r⟩
  exact ⟨g, cap, cur, hv, by omega, r⟩
theorem box_same {S : Nat → Prop} {A B : World} {k : Nat} {t : TypeId} {v : Value} (h : Boxed A k t v) (hS : Same S A B) (hk : S k) : Boxed B k t v := hS.at_ h hk

section
variable {F : Fence} {n : Nat} {P : Program} {b : Frame} {a : Act} {k : List Item} {cs : List Frame} {w : World} {Q : Exit → Act → World → Prop}
theorem stepR_scope {c : Code} : step P (lone (b.atR a (.code (.scope c) :: k)) cs w) = .next (lone (b.atR a (.code c :: .inScope c :: k)) cs w) :=
  step_lone_go (by simp [stepG, stepG.exec, Frame.atR])
theorem stepR_inScope {c : Code} : step P (lone (b.atR a (.inScope c :: k)) cs w) = .next (lone (b.atR a k) cs w) :=
  step_lone_go (by simp [stepG, stepG.exec, Frame.atR])

/-- A body that holds a label to which nothing jumps, in the fence. -/
theorem wpIn_scope {c : Code} (h : c.wpIn F n P (Exit.noGoto Q) a w) : (Code.scope c).wpIn F n P Q a w := by
  intro b k cs hro hb hr
  have h0 : (lone (b.atR a (.code (.scope c) :: k)) cs w).fenced P F := fenced_calm hb hr rfl
  obtain ⟨e, a₁, w₁, hq, harr⟩ := h b (.inScope c :: k) cs hro hb hr
  cases e with
  | normal => exact ⟨.normal, a₁, w₁, hq, .head h0 stepR_scope (StepsIn.trans harr (.one (fenced_calm hb hr rfl) stepR_inScope))⟩
  | exit id =>
    have hx : exitTo id (.inScope c :: k) = exitTo id k := by simp [exitTo]
    exact ⟨_, a₁, w₁, hq, fun k' hk => .head h0 stepR_scope (harr.1 k' (by rw [hx]; exact hk)),
      fun hr' hk => let ⟨k₁, h1, h2⟩ := harr.2 hr' (by rw [hx]; exact hk); ⟨k₁, h1, .head h0 stepR_scope h2⟩⟩
  | goto l => exact hq.elim
  | ret => exact ⟨_, a₁, w₁, hq, .of_steps (.one h0 stepR_scope) harr⟩
  | panic ch => exact ⟨_, a₁, w₁, hq, .of_steps (.one h0 stepR_scope) harr⟩
  | outgrown => exact ⟨_, a₁, w₁, hq, .of_steps (.one h0 stepR_scope) harr⟩
theorem wpIn_label {l : Nat} (h : Q .normal a w) : (Code.label l).wpIn F n P Q a w :=
  fun b k cs _ hb hr => ⟨.normal, a, w, h, .one (fenced_calm hb hr rfl) stepR_label⟩
end

/-- THE CONTRACT OF AN ITERATOR that hands over just xs, one by one, to whatever body: T: its own cells that lie already; c: how many blocks it lays as it begins; Rd: what it reads. What it lays in a round lies behind all that lay there when the round began. -/
def Iter {α : Type} (n : Nat) (P : Program) (g : Nat) (lb : Array Value) (encs : α → Array Value) (xs : List α) (T Rd : Nat → Prop) (c : Nat) (w : World) : Prop :=
  ∀ (l : Nat) (J Jx : List α → World → Prop) (W : World), w.heap.size ≤ W.heap.size → (∀ k, k < w.heap.size → T k ∨ Rd k → W.heap[k]? = w.heap[k]?) →
    (∀ s A B, J s A → W.heap.size ≤ A.heap.size → Same (fun k => ¬ T k ∧ ¬ (W.heap.size ≤ k ∧ k < W.heap.size + c)) A B → J s B) →
    (∀ s A B, Jx s A → W.heap.size ≤ A.heap.size → Same (fun k => ¬ T k ∧ ¬ (W.heap.size ≤ k ∧ k < W.heap.size + c)) A B → Jx s B) →
    (∀ pre x rest V W1, xs = pre ++ x :: rest → J pre V → W.heap.size + c ≤ V.heap.size → Same (fun _ => True) V W1 → YieldAt Fence.wide (n - 1) P l (encs x) W1 fun e W' =>
      (e = .returned (.bool true) ∧ J (pre ++ [x]) W' ∧ Same (fun k => T k ∨ Rd k ∨ (W.heap.size ≤ k ∧ k < W.heap.size + c) ∨ V.heap.size ≤ k) W1 W') ∨ (e = .returned (.bool false) ∧ Jx (pre ++ [x]) W')) →
    J [] W →
    CallsIn Fence.wide n P g (#[.func (.yield l) #[] #[]] ++ lb) W fun e W' => (∃ v, e = .returned v) ∧ ((W.heap.size ≤ W'.heap.size ∧ J xs W') ∨ ∃ pre, pre <+: xs ∧ Jx pre W')

/-- How the body of a round may be left. -/
def bpost {α : Type} (Keep : Nat → Prop) (I : List α → Nat → World → Prop) (Ix : Code → List α → World → Prop) (xs : List α) (W : World) : Exit → Act → World → Prop
  | .normal, _, W' => Same Keep W W' ∧ I xs W'.heap.size W'
  | .ret, _, W' => Same Keep W W' ∧ Ix .ret xs W'
  | .exit id, _, W' => Same Keep W W' ∧ Ix (.exit id) xs W'
  | .goto t, _, W' => Same Keep W W' ∧ Ix (.goto t) xs W'
  | .panic _, _, _ => False
  | .outgrown, _, _ => False

/-- What the caller's words speak of: neither the iterator's cells nor the loop's record. -/
def Mine (w : World) (T : Nat → Prop) (c : Nat) (k : Nat) : Prop := ¬ T k ∧ ¬ (w.heap.size ≤ k ∧ k < w.heap.size + 2 + c)
/-- What a round must keep. -/
def Theirs (w : World) (T Rd : Nat → Prop) (c nb : Nat) (k : Nat) : Prop := T k ∨ Rd k ∨ (w.heap.size ≤ k ∧ k < w.heap.size + 2 + c) ∨ nb ≤ k

theorem wp_range {α : Type} {n : Nat} {P : Program} {g : Operand} {ps : Array Tmp} {assign body : Code} {Q : Exit → Act → World → Prop} {a : Act} {w : World}
    {gf : Nat} {lb : Array Value} (hg : a.eval g = .func (.func gf) #[] lb) (eg : ∀ args w, (callFunc gf args).run P w = .ok (.enter gf args) w)
    {encs : α → Array Value} {xs : List α} {T Rd : Nat → Prop} {c : Nat} (hit : Iter (n - 1) P gf lb encs xs T Rd c w) (hT : ∀ k, T k → k < w.heap.size) (hRd : ∀ k, Rd k → k < w.heap.size) (hps : ∀ x, (encs x).size = ps.size)
    (I : List α → Nat → World → Prop) (Ix : Code → List α → World → Prop) (hI : ∀ s nb A B, I s nb A → w.heap.size ≤ A.heap.size → Same (Mine w T c) A B → I s nb B) (hm : ∀ s nb nb' A, I s nb A → nb ≤ nb' → I s nb' A)
    (hIx : ∀ q s A B, Ix q s A → w.heap.size ≤ A.heap.size → Same (Mine w T c) A B → Ix q s B) (h0 : I [] w.heap.size w)
    (Ax : α → Act → World → Prop) (hAx : ∀ x a' A B, Ax x a' A → w.heap.size ≤ A.heap.size → Same (fun k => k ≠ w.heap.size + 1) A B → Ax x a' B)
    (hassign : ∀ (l : Nat) (pre : List α) (x : α) (rest : List α) (nb : Nat) (W : World) (K : Act → World → Prop), xs = pre ++ x :: rest → I pre nb W → w.heap.size + 2 + c ≤ nb → nb ≤ W.heap.size → (∀ a' W', Same (Theirs w T Rd c nb) W W' → I pre nb W' → Ax x a' W' → K a' W') →
      assign.wpIn (Fence.wide.inRound l) (n - 1 - 1) P (Exit.then K (fun _ _ _ => False)) { tmps := (ps.zip (encs x)).foldl (fun t (p, v) => t.setIfInBounds p v) a.tmps, defers := [] } W)
    (hbody : ∀ (l : Nat) (pre : List α) (x : α) (rest : List α) (nb : Nat) (a' : Act) (W : World), xs = pre ++ x :: rest → I pre nb W → Ax x a' W → w.heap.size + 2 + c ≤ nb → nb ≤ W.heap.size → body.wpIn (Fence.wide.inRound l) (n - 1 - 1) P (bpost (Theirs w T Rd c nb) I Ix (pre ++ [x]) W) a' W)
    (hdone : ∀ (W : World), I xs W.heap.size W → w.heap.size + 2 ≤ W.heap.size → W.heap[w.heap.size]? = some (.deferred (some [])) → Q .normal { a with defers := { target := .collected w.heap.size, args := #[] } :: a.defers } W)
    (hstop : ∀ (q : Code) (pre : List α) (W : World), pre <+: xs → Ix q pre W → w.heap.size + 2 ≤ W.heap.size → W.heap[w.heap.size]? = some (.deferred (some [])) → q.wpIn Fence.wide n P Q { a with defers := { target := .collected w.heap.size, args := #[] } :: a.defers } W) :
    (Code.rangeFunc g ps assign body).wpIn Fence.wide n P Q a w := by
  refine wpIn_rangeFunc ?_
  intro fn hfn
  obtain ⟨rec, hrec⟩ : ∃ rec : LoopState → Option Code → Loop, rec = fun st pe => { state := st, pending := pe, fn, tmps := a.tmps, params := ps, assign, body, defers := w.heap.size } := ⟨_, rfl⟩
  obtain ⟨W1, hW1⟩ : ∃ W1, (w.alloc (.deferred (some []))).alloc (.loop (rec .ready none)) = W1 := ⟨_, rfl⟩
  have hL1 : W1.heap[w.heap.size + 1]? = some (.loop (rec .ready none)) := by
    rw [← hW1]; have := World.alloc_heap_new (w.alloc (.deferred (some []))) (.loop (rec .ready none)); rwa [World.size_alloc] at this
  have hK1 : W1.heap[w.heap.size]? = some (.deferred (some [])) := by
    rw [← hW1]; exact (Below.heap_alloc _ _ _ (by simp)).trans (World.alloc_heap_new w _)
  have hsz : W1.heap.size = w.heap.size + 2 := by rw [← hW1]; simp
  have hI1 : I [] W1.heap.size W1 := hm _ _ _ _ (by rw [← hW1]; exact hI _ _ _ _ h0 (Nat.le_refl _) (((Same.refl _ w).alloc _).alloc _)) (by omega)
  have hS1 : Same (fun _ => True) w W1 := by rw [← hW1]; exact ((Same.refl _ w).alloc _).alloc _
  refine ⟨w.heap.size + 1, [{ target := .collected w.heap.size, args := #[] }], W1, { target := .fn (.func gf) lb, args := #[.func (.yield (w.heap.size + 1)) #[] #[]] }, W1, gf,
    #[.func (.yield (w.heap.size + 1)) #[] #[]] ++ lb, W1, ?_, ?_, ?_, ?_, fun h => by simp [Fence.wide] at h, ?_⟩
  · rw [← hW1, hrec]; exact run_enterLoop_outer _ _ _ _ _
  · simp only [resolve, hg]
    simp [go_sem]
  · intro f' hf'; trivial
  · simp [invoke, go_sem, eg]
  · have hMine : ∀ k, ¬ T k ∧ ¬ (W1.heap.size ≤ k ∧ k < W1.heap.size + c) → k ≠ w.heap.size → k ≠ w.heap.size + 1 → Mine w T c k := fun k h h1 h2 => ⟨h.1, fun hk => h.2 ⟨by omega, by omega⟩⟩
    have hMine' : ∀ k, Mine w T c k → ¬ T k ∧ ¬ (W1.heap.size ≤ k ∧ k < W1.heap.size + c) := fun k h => ⟨h.1, fun hk => h.2 ⟨by omega, by omega⟩⟩
    refine (hit (w.heap.size + 1)
      (fun pre W => I pre W.heap.size W ∧ W.heap[w.heap.size + 1]? = some (.loop (rec .ready none)) ∧ W.heap[w.heap.size]? = some (.deferred (some [])))
      (fun pre W => ∃ q, Ix q pre W ∧ W.heap[w.heap.size + 1]? = some (.loop (rec .done (some q))) ∧ W.heap[w.heap.size]? = some (.deferred (some [])) ∧ w.heap.size + 2 ≤ W.heap.size)
      W1 (by omega) (fun k hk _ => hS1.same k hk trivial) ?_ ?_ ?_ ⟨hI1, hL1, hK1⟩).mono ?_
    · rintro s A B ⟨hi, hl, hk⟩ hsA hAB
      refine ⟨hm _ _ _ _ (hI _ _ _ _ hi (by omega) (hAB.mono fun k _ h => hMine' k h)) hAB.size, hAB.at_ hl ⟨fun h => ?_, fun h => ?_⟩, hAB.at_ hk ⟨fun h => ?_, fun h => ?_⟩⟩
      · have := hT _ h; omega
      · omega
      · have := hT _ h; omega
      · omega
    · rintro s A B ⟨q, hi, hl, hk, hz⟩ hsA hAB
      refine ⟨q, hIx _ _ _ _ hi (by omega) (hAB.mono fun k _ h => hMine' k h), hAB.at_ hl ⟨fun h => ?_, fun h => ?_⟩, hAB.at_ hk ⟨fun h => ?_, fun h => ?_⟩, Nat.le_trans hz hAB.size⟩
      · have := hT _ h; omega
      · omega
      · have := hT _ h; omega
      · omega
    · -- one round
      rintro pre x rest V W hxs ⟨hi0, hl0, hk0⟩ hlen hVW
      rw [hsz] at hlen
      have hi : I pre V.heap.size W := hI _ _ _ _ hi0 (by omega) (hVW.mono fun _ _ _ => trivial)
      have hl := hVW.at_ hl0 trivial
      have hk := hVW.at_ hk0 trivial
      have hVs := hVW.size
      clear hi0 hl0 hk0
      have hy := run_yield (P := P) (args := encs x) hl (by rw [hrec]; exact hps x)
      rw [hrec] at hy
      refine ⟨fn, _, assign, body, hy, roundIn_of_wpIn hfn (hassign _ pre x rest V.heap.size W _ hxs hi (by omega) hVs ?_)⟩
      clear hy
      intro a' Wa hka hia hax
      have hla := hka.at_ hl (.inr (.inr (.inl ⟨by omega, by omega⟩)))
      have hda := hka.at_ hk (.inr (.inr (.inl ⟨by omega, by omega⟩)))
      have hlt : w.heap.size + 1 < Wa.heap.size := (Array.getElem?_eq_some_iff.1 hla).1
      refine ⟨_, run_beginRound hla (by rw [hrec]), ?_⟩
      have hp : ∀ (X : World) (o : Obj), Same (Mine w T c) X (X.putObj (w.heap.size + 1) o) := fun X o => (Same.refl _ X).putObj o fun _ h => h.2 ⟨by omega, by omega⟩
      have hl2 : (Wa.putObj (w.heap.size + 1) (.loop { rec .ready none with state := .busy })).heap[w.heap.size + 1]? = some (.loop { rec .ready none with state := .busy }) := World.putObj_heap_same hlt
      have hd2 : (Wa.putObj (w.heap.size + 1) (.loop { rec .ready none with state := .busy })).heap[w.heap.size]? = some (.deferred (some [])) := (World.putObj_heap_other (by omega)).trans hda
      have hsa := hka.size
      refine wpIn_mono (hbody _ pre x rest V.heap.size a' _ hxs (hI _ _ _ _ hia (by omega) (hp _ _)) (hAx _ _ _ _ hax (by omega) ((Same.refl _ _).putObj _ (fun _ h => h rfl))) (by omega) (by simp; omega)) ?_
      have fin : ∀ (jump : Option Code) (W3 : World), Same (Theirs w T Rd c V.heap.size) (Wa.putObj (w.heap.size + 1) (.loop { rec .ready none with state := .busy })) W3 →
          (Instr.endRound (w.heap.size + 1) jump).run P W3 = .ok (.bool jump.isNone) (W3.putObj (w.heap.size + 1) (.loop (rec (if jump.isNone then .ready else .done) jump))) ∧
          (W3.putObj (w.heap.size + 1) (.loop (rec (if jump.isNone then .ready else .done) jump))).heap[w.heap.size + 1]? = some (.loop (rec (if jump.isNone then .ready else .done) jump)) ∧
          (W3.putObj (w.heap.size + 1) (.loop (rec (if jump.isNone then .ready else .done) jump))).heap[w.heap.size]? = some (.deferred (some [])) ∧ w.heap.size + 2 ≤ W3.heap.size := fun jump W3 hk3 => by
        have hl3 := hk3.at_ hl2 (.inr (.inr (.inl ⟨by omega, by omega⟩)))
        have := run_endRound (P := P) jump hl3
        rw [hrec] at this ⊢
        exact ⟨this, World.putObj_heap_same (Array.getElem?_eq_some_iff.1 hl3).1, (World.putObj_heap_other (by omega)).trans (hk3.at_ hd2 (.inr (.inr (.inl ⟨by omega, by omega⟩)))), by have := hk3.size; simp at this; omega⟩
      rintro e a3 W3 hq
      cases e with
      | normal =>
        obtain ⟨hk3, hi3⟩ := hq
        obtain ⟨hr, hl4, hk4, hz4⟩ := fin none W3 hk3
        refine ⟨_, _, hr, .inl ⟨rfl, ⟨hm _ _ _ _ (hI _ _ _ _ hi3 (by omega) (hp _ _)) (by simp), hl4, hk4⟩, ?_⟩⟩
        have hno : ∀ X : World, (w.heap.size + 1 < X.heap.size → ¬ (T (w.heap.size + 1) ∨ Rd (w.heap.size + 1) ∨ (W1.heap.size ≤ w.heap.size + 1 ∧ w.heap.size + 1 < W1.heap.size + c) ∨ V.heap.size ≤ w.heap.size + 1)) := by
          intro _ _ h
          rcases h with h | h | h | h
          · have := hT _ h; omega
          · have := hRd _ h; omega
          · omega
          · omega
        have hsub : ∀ k, (T k ∨ Rd k ∨ (W1.heap.size ≤ k ∧ k < W1.heap.size + c) ∨ V.heap.size ≤ k) → Theirs w T Rd c V.heap.size k := by
          rintro k (h | h | h | h)
          · exact .inl h
          · exact .inr (.inl h)
          · exact .inr (.inr (.inl (by omega)))
          · exact .inr (.inr (.inr h))
        have s1 : Same (fun k => T k ∨ Rd k ∨ (W1.heap.size ≤ k ∧ k < W1.heap.size + c) ∨ V.heap.size ≤ k) W Wa := hka.mono fun k _ h => hsub k h
        have s2 := s1.putObj (.loop { rec .ready none with state := .busy }) (hno W)
        have s3 := s2.trans (hk3.mono fun k _ h => hsub k h)
        exact s3.putObj _ (hno W)
      | ret =>
        obtain ⟨hk3, hi3⟩ := hq
        obtain ⟨hr, hl4, hk4, hz4⟩ := fin (some .ret) W3 hk3
        exact ⟨_, _, hr, .inr ⟨rfl, .ret, hIx _ _ _ _ hi3 (by omega) (hp _ _), hl4, hk4, by simpa using hz4⟩⟩
      | exit id =>
        obtain ⟨hk3, hi3⟩ := hq
        obtain ⟨hr, hl4, hk4, hz4⟩ := fin (some (.exit id)) W3 hk3
        exact ⟨_, _, hr, .inr ⟨rfl, .exit id, hIx _ _ _ _ hi3 (by omega) (hp _ _), hl4, hk4, by simpa using hz4⟩⟩
      | goto t =>
        obtain ⟨hk3, hi3⟩ := hq
        obtain ⟨hr, hl4, hk4, hz4⟩ := fin (some (.goto t)) W3 hk3
        exact ⟨_, _, hr, .inr ⟨rfl, .goto t, hIx _ _ _ _ hi3 (by omega) (hp _ _), hl4, hk4, by simpa using hz4⟩⟩
      | panic ch => exact hq.elim
      | outgrown => exact hq.elim
    · -- behind the iterator
      rintro e W2 ⟨⟨v, rfl⟩, (⟨hz, hi, hl, hk⟩ | ⟨pre, hSp, q, hi, hl, hk, hz⟩)⟩
      · have hp : Same (Mine w T c) W2 (W2.putObj (w.heap.size + 1) (.loop { rec .ready none with state := .exhausted })) := (Same.refl _ W2).putObj _ fun _ h => h.2 ⟨by omega, by omega⟩
        exact ⟨none, _, by have := run_endLoop (P := P) hl (by rw [hrec]; simp); rw [hrec] at this; exact this, hdone _ (by rw [hrec] at hp; exact hm _ _ _ _ (hI _ _ _ _ hi (by omega) hp) (by simp)) (by simp; omega) ((World.putObj_heap_other (by omega)).trans hk)⟩
      · have hp : Same (Mine w T c) W2 (W2.putObj (w.heap.size + 1) (.loop { rec .done (some q) with state := .exhausted })) := (Same.refl _ W2).putObj _ fun _ h => h.2 ⟨by omega, by omega⟩
        exact ⟨some q, _, by have := run_endLoop (P := P) hl (by rw [hrec]; simp); rw [hrec] at this; exact this, hstop q pre _ hSp (by rw [hrec] at hp; exact hIx _ _ _ _ hi (by omega) hp) (by simp; omega) ((World.putObj_heap_other (by omega)).trans hk)⟩
end Go.Proofs.YtmkcbkdbdcnoiaaGreatDoor
set_option linter.unusedVariables false
set_option linter.unusedSimpArgs false
namespace Go.Proofs.YtmkcbkdbdcnoiaaGreatDoor
open Go.RowKit

theorem blk_set {w : World} {g : Nat} {t : TypeId} {cs : Array Value} (h : w.heap[g]? = some (.cells cs t (0, 0))) (i : Nat) (u : Value) : (w.setCell ⟨g, i, none⟩ u).heap[g]? = some (.cells (cs.setIfInBounds i u) t (0, 0)) := by
  simp [World.setCell, Array.getElem?_modify, h]
theorem blk_cell {w : World} {g : Nat} {t : TypeId} {cs : Array Value} {fr : Nat × Nat} (h : w.heap[g]? = some (.cells cs t fr)) (i : Nat) : w.cell? ⟨g, i, none⟩ = cs[i]? := by
  simp [World.cell?, h]
theorem blk_frozen {w : World} {g : Nat} {t : TypeId} {cs : Array Value} (h : w.heap[g]? = some (.cells cs t (0, 0))) (i : Nat) : w.frozen? ⟨g, i, none⟩ = false := by
  simp [World.frozen?, h]

theorem blk_drew {w : World} {g : Nat} {o : Obj} (h : w.heap[g]? = some o) : w.drew.heap[g]? = some o := h

theorem load_blk {P : Program} {w : World} {g : Nat} {t ty : TypeId} {cs : Array Value} {fr : Nat × Nat} {d : TypeDesc} (h : w.heap[g]? = some (.cells cs t fr)) (hu : P.underlying ty = some d) (hd : d.isRow = true) (hi : (P.info? ty).map (·.size) = some cs.size) :
    (loadVar ty ⟨g, 0, none⟩).run P w = .ok (.agg cs) w := by
  have := run_loadVar_mid (P := P) w g 0 ty cs.toList d (fun j v hv => by rw [Nat.zero_add, blk_cell h]; simpa using hv) hu hd (by simpa using hi)
  simpa using this

theorem blk_there {w : World} {g : Nat} {t : TypeId} {cs : Array Value} (h : w.heap[g]? = some (.cells cs t (0, 0))) (n : Nat) (hn : n ≤ cs.size) : w.there g 0 n := by
  intro j hj
  rw [Nat.zero_add, blk_cell h, blk_frozen h]
  exact ⟨by rw [Array.getElem?_eq_getElem (by omega)]; rfl, rfl⟩

theorem setCells_blk {g : Nat} {t : TypeId} (vs : List Value) : ∀ (o : Nat) (w : World) (pre post : List Value), o = pre.length → w.heap[g]? = some (.cells (pre ++ post).toArray t (0, 0)) → vs.length = post.length →
    (w.setCells g o vs).heap[g]? = some (.cells (pre ++ vs).toArray t (0, 0)) := by
  induction vs with
  | nil =>
    intro o w pre post ho h hl
    have : post = [] := List.eq_nil_of_length_eq_zero hl.symm
    subst this
    exact h
  | cons v vs ih =>
    intro o w pre post ho h hl
    cases post with
    | nil => simp at hl
    | cons p post =>
      rw [World.setCells]
      have h1 := blk_set h o v
      have h2 : (pre ++ p :: post).toArray.setIfInBounds o v = ((pre ++ [v]) ++ post).toArray := by
        subst ho
        simp
      rw [h2] at h1
      have := ih (o + 1) _ (pre ++ [v]) post (by simp; omega) h1 (by simpa using hl)
      simpa using this

/-- A whole struct stored into its own block. -/
theorem setCells_whole {w : World} {g : Nat} {t : TypeId} {cs : Array Value} (h : w.heap[g]? = some (.cells cs t (0, 0))) (vs : List Value) (hl : vs.length = cs.size) : (w.setCells g 0 vs).heap[g]? = some (.cells vs.toArray t (0, 0)) := by
  have := setCells_blk (g := g) (t := t) vs 0 w [] cs.toList rfl (by simpa using h) (by simpa using hl)
  simpa using this
theorem setCells_other {g : Nat} (vs : List Value) : ∀ (o : Nat) (w : World) (k : Nat), k ≠ g → (w.setCells g o vs).heap[k]? = w.heap[k]? := by
  induction vs with
  | nil => intro o w k _; rfl
  | cons v vs ih =>
    intro o w k hk
    rw [World.setCells, ih _ _ _ hk]
    exact Below.heap_setCell _ _ _ _ hk
theorem below_setCells {B : Nat} {a : World} {g : Nat} (hg : B ≤ g) (vs : List Value) : ∀ (o : Nat) (w : World), Below B a w → Below B a (w.setCells g o vs) := by
  induction vs with
  | nil => intro o w h; exact h
  | cons v vs ih =>
    intro o w h
    rw [World.setCells]
    exact ih _ _ (h.setCell (p := ⟨g, o, none⟩) hg v)

/-- Two results, the first of them a struct in memory. -/
theorem res_cell_tmp {P : Program} {fn : Func} {p u : Tmp} {ty t : TypeId} {tmps : Array Value} {w : World} {g : Nat} {cs : Array Value} {fr : Nat × Nat} {d : TypeDesc} (h : fn.results = #[.cell p ty, .tmp u])
    (hp : tmps.getD p undef = .pointer (some ⟨g, 0, none⟩)) (hb : w.heap[g]? = some (.cells cs t fr)) (hu : P.underlying ty = some d) (hd : d.isRow = true) (hi : (P.info? ty).map (·.size) = some cs.size) :
    (results fn tmps).run P w = .ok (.tuple #[.agg cs, tmps.getD u undef]) w := by
  rw [results_cell_tmp h, hp]
  simp [asAddr, Result.andThen, load_blk hb hu hd hi]

/-- A scope whose body may jump on to a label of its own. -/
def Exit.fwd (P : Program) (l : Nat) (rest : Code) (Q : Exit → Act → World → Prop) : Exit → Act → World → Prop
  | .goto l', a, w => l' = l ∧ rest.wp P (Exit.noGoto Q) a w
  | e, a, w => Q e a w
theorem wp_scope_goto {P : Program} {a : Act} {w : World} {Q : Exit → Act → World → Prop} {c rest : Code} (l : Nat) (hf : findLabel c l = some rest) (h : c.wp P (Exit.fwd P l rest Q) a w) : (Code.scope c).wp P Q a w := by
  refine wp_scope_jumps l (fun a w => rest.wp P (Exit.noGoto Q) a w) (fun _ _ => 0) hf ?_ ?_
  · exact Code.wp_mono (fun e a w hq => by cases e <;> exact hq) h
  · intro a w hJ
    exact Code.wp_mono (fun e a w hq => by cases e <;> first | exact hq | exact hq.elim) hJ
section
variable {P : Program} {l : Nat} {rest : Code} {Q : Exit → Act → World → Prop} {a : Act} {w : World}
@[go_sem] theorem Exit.fwd_normal : Exit.fwd P l rest Q .normal a w = Q .normal a w := rfl
@[go_sem] theorem Exit.fwd_exit (id : Nat) : Exit.fwd P l rest Q (.exit id) a w = Q (.exit id) a w := rfl
@[go_sem] theorem Exit.fwd_ret : Exit.fwd P l rest Q .ret a w = Q .ret a w := rfl
@[go_sem] theorem Exit.fwd_panic (ch : List PanicEntry) : Exit.fwd P l rest Q (.panic ch) a w = Q (.panic ch) a w := rfl
end

theorem keep_b {W W' : World} {g : Nat} {o : Obj} (h : W.heap[g]? = some o) (hb : Below W.heap.size W W') : W'.heap[g]? = some o :=
  (hb.block g (Array.getElem?_eq_some_iff.1 h).1).trans h
theorem keep_a {W : World} {g : Nat} {o : Obj} (o' : Obj) (h : W.heap[g]? = some o) : (W.alloc o').heap[g]? = some o :=
  keep_b h ((Below.refl _ W).alloc (Nat.le_refl _) _)
theorem cells3 {W : World} {g : Nat} {t : TypeId} {a0 a1 a2 : Value} (h : W.heap[g]? = some (.cells #[a0, a1, a2] t (0, 0))) :
    W.cell? ⟨g, 0, none⟩ = some a0 ∧ W.cell? ⟨g, 1, none⟩ = some a1 ∧ W.cell? ⟨g, 2, none⟩ = some a2 :=
  ⟨blk_cell h 0, blk_cell h 1, blk_cell h 2⟩
theorem cells2 {W : World} {g : Nat} {t : TypeId} {a0 a1 : Value} (h : W.heap[g]? = some (.cells #[a0, a1] t (0, 0))) :
    W.cell? ⟨g, 0, none⟩ = some a0 ∧ W.cell? ⟨g, 1, none⟩ = some a1 :=
  ⟨blk_cell h 0, blk_cell h 1⟩
theorem own_below {w w' : World} {base : Nat} {e : TypeId} {size : Nat} {v : Value} {n : Nat} {xs : List Value} (h : w.ownsRow base e size v n xs) (hb : Below w.heap.size w w') : w'.ownsRow base e size v n xs :=
  ⟨h.1, h.2.imp id fun ⟨g, cap, cur, hv, hg, hh, rest⟩ => ⟨g, cap, cur, hv, hg, keep_b hh hb, rest⟩⟩
theorem own_base {w : World} {base : Nat} {e : TypeId} {size : Nat} {v : Value} {n : Nat} {xs : List Value} (h : w.ownsRow base e size v n xs) (g : Nat) (hg : v.ownBlock = some g) : base ≤ g := by
  rcases h.2 with ⟨rfl, _⟩ | ⟨g', cap, cur, rfl, hb, _⟩
  · simp [Value.ownBlock] at hg
  · simp [Value.ownBlock] at hg; omega
theorem below_drewN (w : World) (m : Nat) : Below w.heap.size w (w.drewN m) := by
  induction m with
  | zero => exact Below.refl _ w
  | succ m ih => exact Below.drew ih
theorem add_plain (g j : Nat) : (⟨g, 0, none⟩ : Addr).add j = ⟨g, j, none⟩ := by unfold Addr.add; split <;> simp_all
theorem cell_lt {w : World} {a : Addr} {v : Value} (h : w.cell? a = some v) : a.block < w.heap.size := by
  apply Classical.byContradiction
  intro hn
  have : w.heap[a.block]? = none := Array.getElem?_eq_none (by omega)
  simp [World.cell?, this] at h

end Go.Proofs.YtmkcbkdbdcnoiaaGreatDoor
namespace Go.Proofs.YtmkcbkdbdcnoiaaGreatDoor
open Go.RowKit Go.Extern.Stop Go.Stop Go.Extern
set_option linter.unusedVariables false
set_option linter.unusedSimpArgs false

theorem Tz.isTypeOf (v : Value) (w : World) : (Extern.ReflectliteType.typeOf #[.iface 268 v]).run Tryz.prog w = .ok (.iface 225 (.agg #[.pointer (some ⟨5, 268, none⟩)])) w := by kernel_rfl
/-- The model's entry for (rtype).Comparable. -/
def Tz.cmpE : Array Value → Sem Value := Extern.ReflectliteType.method fun t => do Extern.Rtype.noPackHeld "Comparable" t; pure (.bool (← typeInfo t).comparable)
theorem Tz.cmpE_at : find Tryz.f247 = some Tz.cmpE := by kernel_rfl
theorem Tz.isComparable (w : World) : (Tz.cmpE #[.agg #[.pointer (some ⟨5, 268, none⟩)]]).run Tryz.prog w = .ok (.bool true) w := by kernel_rfl
theorem Tz.isMethodComparable (v : Value) (w : World) : (Go.method 407 225 v "Comparable").run Tryz.prog w = .ok (247, v) w := by kernel_rfl
theorem Tz.isComp : (Tryz.prog.info? 268).map (·.comparable) = some true := by kernel_rfl
theorem Tz.isSize : (Tryz.prog.info? 296).map (·.size) = some 1 := by kernel_rfl
theorem Tz.noIsE (v : Value) (xT : TypeId) (w : World) : (Instr.typeAssert (.iface 268 v) xT 265 true).run Tryz.prog w = .ok (.tuple #[.nilIface, .bool false]) w := run_typeAssert_lacksB Tryz.underlying265 (by kernel_rfl) (by kernel_rfl) v xT w
theorem Tz.noUnwrapE (v : Value) (xT : TypeId) (w : World) : (Instr.typeAssert (.iface 268 v) xT 233 true).run Tryz.prog w = .ok (.tuple #[.nilIface, .bool false]) w := run_typeAssert_lacksB Tryz.underlying233 (by kernel_rfl) (by kernel_rfl) v xT w
theorem Tz.noUnwrapsE (v : Value) (xT : TypeId) (w : World) : (Instr.typeAssert (.iface 268 v) xT 234 true).run Tryz.prog w = .ok (.tuple #[.nilIface, .bool false]) w := run_typeAssert_lacksB Tryz.underlying234 (by kernel_rfl) (by kernel_rfl) v xT w

set_option maxHeartbeats 1000000 in
set_option maxRecDepth 100000 in
/-- errors.Is(x, x), x a pointer to an errors.errorString. -/
theorem is_same (a : Addr) (w : World) :
    Calls Tryz.prog 200 #[.iface 268 (.pointer (some a)), .iface 268 (.pointer (some a))] w fun e w' => e = .returned (.bool true) ∧ w' = w := by
  obtain ⟨i, hi, hcmp⟩ := Option.map_eq_some_iff.1 Tz.isComp
  obtain ⟨j, hj, hjs⟩ := Option.map_eq_some_iff.1 Tz.isSize
  have h8 := @run_callFunc_extern Tryz.prog 183 _ Extern.ReflectliteType.typeOf Tryz.func183 (by kernel_rfl) (by kernel_rfl) (by kernel_rfl) (by kernel_rfl)
  have h32 := @run_callFunc_extern Tryz.prog 247 _ Tz.cmpE Tryz.func247 (by kernel_rfl) (by kernel_rfl) (by kernel_rfl) Tz.cmpE_at
  have tT := Tz.isTypeOf
  have cT := Tz.isComparable
  have mR := Tz.isMethodComparable
  have heq := run_eql_iface_ptr_same (P := Tryz.prog) w a Tryz.underlying86 Tryz.underlying268 hi hcmp hj
  go_enter Tryz.func200, Tryz.ntmps200
  go_wp2
  refine wp_loop_rounds 1 ?_
  rw [rounds_succ]
  go_wp2
  go_ret
  exact ⟨rfl, rfl⟩

set_option maxHeartbeats 1000000 in
set_option maxRecDepth 100000 in
/-- errors.Is(x, y), two different pointers to errors.errorString: false. -/
theorem is_other (a b : Addr) (ca cb : Array Value) (ta tb : TypeId) (w : World) (hne : a ≠ b) (ha : w.heap[a.block]? = some (.cells ca ta (0, 0))) (hb : w.heap[b.block]? = some (.cells cb tb (0, 0))) :
    Calls Tryz.prog 200 #[.iface 268 (.pointer (some a)), .iface 268 (.pointer (some b))] w fun e w' => e = .returned (.bool false) ∧ w' = w := by
  obtain ⟨i, hi, hcmp⟩ := Option.map_eq_some_iff.1 Tz.isComp
  obtain ⟨j, hj, hjs⟩ := Option.map_eq_some_iff.1 Tz.isSize
  have h8 := @run_callFunc_extern Tryz.prog 183 _ Extern.ReflectliteType.typeOf Tryz.func183 (by kernel_rfl) (by kernel_rfl) (by kernel_rfl) (by kernel_rfl)
  have h32 := @run_callFunc_extern Tryz.prog 247 _ Tz.cmpE Tryz.func247 (by kernel_rfl) (by kernel_rfl) (by kernel_rfl) Tz.cmpE_at
  have tT := Tz.isTypeOf
  have cT := Tz.isComparable
  have mR := Tz.isMethodComparable
  have nE := Tz.noIsE
  have uE := Tz.noUnwrapE
  have vE := Tz.noUnwrapsE
  have heq := run_eql_iface_ptr_other (P := Tryz.prog) w Tryz.underlying86 Tryz.underlying268 hi hcmp hj (by rw [hjs]; decide) hne ha hb
  go_enter Tryz.func200, Tryz.ntmps200
  go_wp2
  refine wp_loop_rounds 1 ?_
  rw [rounds_succ]
  go_wp2
  go_ret
  exact ⟨rfl, rfl⟩

/-- The package's variables as they were laid. -/
structure Gl (w : World) (ao aa af : Addr) : Prop where
  ty : w.cell? ⟨0, 0, none⟩ = some (.iface 225 (.agg #[.pointer (some ⟨5, 86, none⟩)]))
  o : w.cell? ⟨1, 0, none⟩ = some (.iface 268 (.pointer (some ao)))
  a : w.cell? ⟨2, 0, none⟩ = some (.iface 268 (.pointer (some aa)))
  f : w.cell? ⟨3, 0, none⟩ = some (.iface 268 (.pointer (some af)))
  ho : ∃ c t, w.heap[ao.block]? = some (.cells c t (0, 0))
  ha : ∃ c t, w.heap[aa.block]? = some (.cells c t (0, 0))
  hf : ∃ c t, w.heap[af.block]? = some (.cells c t (0, 0))
  oa : ao ≠ aa
  of : ao ≠ af
  af : aa ≠ af

theorem cell_keep {w w' : World} {a : Addr} {v : Value} (h : w.cell? a = some v) (hb : Below w.heap.size w w') : w'.cell? a = some v := (hb.cell (p := a) (cell_lt h)).trans h
theorem Gl.below {w w' : World} {ao aa af : Addr} (h : Gl w ao aa af) (hb : Below w.heap.size w w') : Gl w' ao aa af :=
  ⟨cell_keep h.ty hb, cell_keep h.o hb, cell_keep h.a hb, cell_keep h.f hb, h.ho.imp fun _ ⟨t, k⟩ => ⟨t, keep_b k hb⟩, h.ha.imp fun _ ⟨t, k⟩ => ⟨t, keep_b k hb⟩, h.hf.imp fun _ ⟨t, k⟩ => ⟨t, keep_b k hb⟩, h.oa, h.of, h.af⟩
def Glob (w : World) : Prop := ∃ ao aa af, Gl w ao aa af
theorem Glob.below {w w' : World} (h : Glob w) (hb : Below w.heap.size w w') : Glob w' := by
  obtain ⟨a, b, c, h⟩ := h
  exact ⟨a, b, c, h.below hb⟩
theorem Glob.alloc {w : World} (h : Glob w) (o : Obj) : Glob (w.alloc o) := h.below ((Below.refl _ w).alloc (Nat.le_refl _) _)

section
variable {w : World} {ao aa af : Addr}
set_option maxHeartbeats 1000000 in
set_option maxRecDepth 100000 in
theorem told_a (h : Gl w ao aa af) : Calls Tryz.prog 180 #[.iface 268 (.pointer (some aa))] w fun e w' => e = .returned (.int .i64 110) ∧ w' = w := by
  have h2 := h.a
  go_enter Tryz.func180, Tryz.ntmps180
  go_wp2_with (go_at_call 200; with_reducible refine (is_same aa w).mono ?_; rintro e w' ⟨rfl, rfl⟩)
  go_ret
  exact ⟨rfl, rfl⟩
set_option maxHeartbeats 1000000 in
set_option maxRecDepth 100000 in
theorem told_o (h : Gl w ao aa af) : Calls Tryz.prog 180 #[.iface 268 (.pointer (some ao))] w fun e w' => e = .returned (.int .i64 111) ∧ w' = w := by
  have h1 := h.o
  have h2 := h.a
  obtain ⟨c1, t1, b1⟩ := h.ho
  obtain ⟨c2, t2, b2⟩ := h.ha
  go_enter Tryz.func180, Tryz.ntmps180
  go_wp2_with (first | (go_at_call 200; with_reducible refine (is_other ao aa _ _ _ _ _ h.oa b1 b2).mono ?_; rintro e w' ⟨rfl, rfl⟩) | (go_at_call 200; with_reducible refine (is_same ao _).mono ?_; rintro e w' ⟨rfl, rfl⟩))
  go_ret
  exact ⟨rfl, rfl⟩
set_option maxHeartbeats 1000000 in
set_option maxRecDepth 100000 in
theorem told_f (h : Gl w ao aa af) : Calls Tryz.prog 180 #[.iface 268 (.pointer (some af))] w fun e w' => e = .returned (.int .i64 112) ∧ w' = w := by
  have h1 := h.o
  have h2 := h.a
  have h3 := h.f
  obtain ⟨c1, t1, b1⟩ := h.ho
  obtain ⟨c2, t2, b2⟩ := h.ha
  obtain ⟨c3, t3, b3⟩ := h.hf
  go_enter Tryz.func180, Tryz.ntmps180
  go_wp2_with (first | (go_at_call 200; with_reducible refine (is_other af aa _ _ _ _ _ (Ne.symm h.af) b3 b2).mono ?_; rintro e w' ⟨rfl, rfl⟩) | (go_at_call 200; with_reducible refine (is_other af ao _ _ _ _ _ (Ne.symm h.of) b3 b1).mono ?_; rintro e w' ⟨rfl, rfl⟩) | (go_at_call 200; with_reducible refine (is_same af _).mono ?_; rintro e w' ⟨rfl, rfl⟩))
  go_ret
  exact ⟨rfl, rfl⟩
end
end Go.Proofs.YtmkcbkdbdcnoiaaGreatDoor
namespace Go.Proofs.YtmkcbkdbdcnoiaaGreatDoor
open Go.RowKit
set_option linter.unusedVariables false
set_option linter.unusedSimpArgs false

/-- A row that can be read: n elements of sz cells each, xs in all. -/
def Sees (w : World) (v : Value) (n sz : Nat) (xs : List Value) : Prop :=
  xs.length = n * sz ∧ ∃ base cap, v = .slice base n cap ∧ n ≤ cap ∧ (n = 0 ∨ ∃ a : Addr, base = some a ∧ ∀ j u, xs[j]? = some u → w.cell? (a.add j) = some u)

theorem Sees.below {w w' : World} {v : Value} {n sz : Nat} {xs : List Value} (h : Sees w v n sz xs) (hb : Below w.heap.size w w') : Sees w' v n sz xs := by
  obtain ⟨hl, base, cap, rfl, hc, h⟩ := h
  refine ⟨hl, base, cap, rfl, hc, h.imp id ?_⟩
  rintro ⟨a, rfl, hc⟩
  exact ⟨a, rfl, fun j u hj => cell_keep (hc j u hj) hb⟩
theorem Sees.alloc {w : World} {v : Value} {n sz : Nat} {xs : List Value} (h : Sees w v n sz xs) (o : Obj) : Sees (w.alloc o) v n sz xs := h.below ((Below.refl _ w).alloc (Nat.le_refl _) _)
theorem Sees.nil (w : World) (sz : Nat) : Sees w (.slice none 0 0) 0 sz [] := ⟨by simp, none, 0, rfl, Nat.le_refl _, .inl rfl⟩
theorem Sees.of_own {w : World} {B n sz : Nat} {t : TypeId} {v : Value} {xs : List Value} (h : w.ownsRow B t sz v n xs) : Sees w v n sz xs := by
  have h0 := h
  refine ⟨h.1, ?_⟩
  rcases h.2 with ⟨rfl, hl⟩ | ⟨g, cap, cur, rfl, hg, hh, hc, _⟩
  · subst hl; exact ⟨none, 0, rfl, Nat.le_refl _, .inl rfl⟩
  · refine ⟨_, _, rfl, hc, .inr ⟨⟨g, 0, none⟩, rfl, fun j u hj => h0.cells (g := g) rfl _ _ hj⟩⟩
/-- A block made of the elements alone. -/
theorem Sees.of_blk {w : World} {g n sz : Nat} {t : TypeId} {fr : Nat × Nat} {cs : Array Value} (h : w.heap[g]? = some (.cells cs t fr)) (hn : cs.size = n * sz) : Sees w (.slice (some ⟨g, 0, none⟩) n n) n sz cs.toList := by
  refine ⟨by simpa using hn, _, _, rfl, Nat.le_refl _, .inr ⟨_, rfl, fun j u hj => ?_⟩⟩
  rw [add_plain, blk_cell h]
  simpa using hj

/-- May it be an amount? -/
def okA (n : Int) : Bool := decide (0 ≤ n) && decide (n ≤ 1152921504606846976)

def ints (l : List Int) : List Value := l.map fun n => .int .i64 n

set_option maxRecDepth 100000 in
theorem right_any (n : Int) (w : World) : Calls Tryz.prog 105 #[.int .i64 n] w fun e w' => e = .returned (.bool (okA n)) ∧ w' = w := by
  by_cases h0 : 0 ≤ n
  · have hd : decide (0 ≤ n) = true := by simpa using h0
    go_enter Tryz.func105, Tryz.ntmps105
    go_wp2
    go_ret
    exact ⟨by simp [okA, h0], rfl⟩
  · have hd : decide (0 ≤ n) = false := by simpa using h0
    go_enter Tryz.func105, Tryz.ntmps105
    go_wp2
    go_ret
    exact ⟨by simp only [okA, hd, Bool.false_and]; rfl, rfl⟩

set_option maxHeartbeats 400000 in
set_option maxRecDepth 100000 in
theorem are_any (l : List Int) (n : Nat) (v : Value) (w : World) (hn : l.length = n) (hv : Sees w v n 1 (ints l)) (hl : n ≤ 1000000) : Calls Tryz.prog 186 #[v] w fun e w' => e = .returned (.bool (l.all okA)) ∧ w' = w := by
  obtain ⟨_, base, cap, rfl, hcap, hr⟩ := hv
  have HR := Lib.hid hr
  have HN := Lib.hid hn
  clear hr hn
  go_enter Tryz.func186, Tryz.ntmps186
  go_wp2
  go_loop [7] (fun i => ∃ k : Nat, k ≤ n ∧ i = .int .i64 (k : Int) ∧ Hid ((l.take k).all okA = true)) (fun i => n - (intOf i).toNat)
  case atStart => exact ⟨0, Nat.zero_le _, rfl, Lib.hid rfl⟩
  case round =>
    obtain ⟨k, hk, rfl, HA⟩ := hrel
    by_cases hlt : k < n
    · obtain ⟨a, rfl, hcs⟩ := HR.out.resolve_left (by omega)
      have hkl : k < l.length := by have := HN.out; omega
      obtain ⟨x, hx⟩ : ∃ x, l[k]'hkl = x := ⟨_, rfl⟩
      have c0 : w.cell? (a.add k) = some (.int .i64 x) := hcs k _ (by simp [ints, hkl, hx])
      have hlt' : (k : Int) < (n : Int) := by omega
      have HX := Lib.hid hx
      clear hcs hx
      rcases hok : okA x with _ | _
      · have hok' : (!okA x) = true := by rw [hok]; rfl
        go_wp2_with (go_at_call 105; with_reducible refine (right_any x _).mono ?_; rintro e w' ⟨rfl, rfl⟩)
        go_ret
        refine ⟨?_, rfl⟩
        have : l.all okA = false := by
          rw [List.all_eq_false]
          exact ⟨x, by rw [← HX.out]; exact List.getElem_mem hkl, by simp [hok]⟩
        rw [this]; rfl
      · have hok' : (!okA x) = false := by rw [hok]; rfl
        go_wp2_with (go_at_call 105; with_reducible refine (right_any x _).mono ?_; rintro e w' ⟨rfl, rfl⟩)
        refine ⟨⟨k + 1, by omega, by go_num, Lib.hid ?_⟩, by simp [intOf]; omega⟩
        rw [List.take_succ_eq_append_getElem hkl, List.all_append, HA.out, HX.out]
        simp [hok]
    · obtain rfl : k = n := by omega
      go_wp2
      go_ret
      refine ⟨?_, rfl⟩
      have h := HA.out
      rw [List.take_of_length_le (by have := HN.out; omega)] at h
      rw [h]; rfl

theorem okA_iff (n : Int) : okA n = true ↔ 0 ≤ n ∧ n ≤ 1152921504606846976 := by simp [okA]

/-- What Add and Sub answer. -/
def addF (a b : Int) : Int × Int := if (okA a && okA b) = true then if okA (a + b) = true then (a + b, 0) else (0, 111) else (0, 110)
def subF (a b : Int) : Int × Int := if (okA a && okA b) = true then if a < b then (0, 112) else (a - b, 0) else (0, 110)

section
variable {w : World} {p q : Addr} {a b : Int}
set_option maxHeartbeats 400000 in
set_option maxRecDepth 100000 in
theorem add1_any {ao aa af : Addr} (hG : Gl w ao aa af) (hp : w.cell? p = some (.int .i64 a)) (hq : w.cell? q = some (.int .i64 b)) (ha : okA a = true) (hb : okA b = true) :
    Calls Tryz.prog 147 #[.pointer (some p), .pointer (some q)] w fun e w' => e = .returned (.tuple (if okA (a + b) = true then #[.int .i64 (a + b), .nilIface] else #[.int .i64 0, .iface 268 (.pointer (some ao))])) ∧ Below w.heap.size w w' := by
  have h1 := (okA_iff a).1 ha
  have h2 := (okA_iff b).1 hb
  have hs : IntKind.i64.wrap (a + b) = a + b := IntWalk.i64_in _ (by omega)
  have ho := hG.o
  rcases hok : okA (a + b) with _ | _
  · have hok' : (!okA (a + b)) = true := by rw [hok]; rfl
    go_enter Tryz.func147, Tryz.ntmps147
    go_wp2_with (first | (go_at_call 105; with_reducible refine (right_any (a + b) _).mono ?_; rintro e w' ⟨rfl, rfl⟩))
    go_quiet (fail)
    go_wp2
    go_ret2
    exact ⟨rfl, below_drewN _ _⟩
  · have hok' : (!okA (a + b)) = false := by rw [hok]; rfl
    go_enter Tryz.func147, Tryz.ntmps147
    go_wp2_with (go_at_call 105; with_reducible refine (right_any (a + b) _).mono ?_; rintro e w' ⟨rfl, rfl⟩)
    go_ret2
    exact ⟨rfl, Below.refl _ _⟩
set_option maxHeartbeats 400000 in
set_option maxRecDepth 100000 in
theorem sub1_any {ao aa af : Addr} (hG : Gl w ao aa af) (hp : w.cell? p = some (.int .i64 a)) (hq : w.cell? q = some (.int .i64 b)) (ha : okA a = true) (hb : okA b = true) :
    Calls Tryz.prog 191 #[.pointer (some p), .pointer (some q)] w fun e w' => e = .returned (.tuple (if a < b then #[.int .i64 0, .iface 268 (.pointer (some af))] else #[.int .i64 (a - b), .nilIface])) ∧ Below w.heap.size w w' := by
  have h1 := (okA_iff a).1 ha
  have h2 := (okA_iff b).1 hb
  have hs : IntKind.i64.wrap (a - b) = a - b := IntWalk.i64_in _ (by omega)
  have ho := hG.f
  by_cases hlt : a < b
  · go_enter Tryz.func191, Tryz.ntmps191
    go_wp2
    go_quiet (fail)
    go_wp2
    go_ret2
    exact ⟨rfl, below_drewN _ _⟩
  · go_enter Tryz.func191, Tryz.ntmps191
    go_wp2
    go_ret2
    exact ⟨rfl, Below.refl _ _⟩

set_option maxHeartbeats 1000000 in
set_option maxRecDepth 100000 in
theorem done_add (hG : Glob w) (hp : w.cell? p = some (.int .i64 a)) (hq : w.cell? q = some (.int .i64 b)) :
    Calls Tryz.prog 146 #[.int .i64 a, .int .i64 b, .func (.func 147) #[] #[.pointer (some p), .pointer (some q)]] w fun e w' => e = .returned (.tuple #[.int .i64 (addF a b).1, .int .i64 (addF a b).2]) ∧ Below w.heap.size w w' := by
  obtain ⟨ao, aa, af, hG⟩ := hG
  have hb0 : Below w.heap.size w (w.alloc (.cells #[.int .i64 a, .int .i64 b] 2)) := (Below.refl _ w).alloc (Nat.le_refl _) _
  have hG2 := hG.below hb0
  have hA : Calls Tryz.prog 186 #[.slice (some ⟨w.heap.size, 0, none⟩) 2 2] (w.alloc (.cells #[.int .i64 a, .int .i64 b] 2)) fun e w' => e = .returned (.bool (okA a && okA b)) ∧ w' = w.alloc (.cells #[.int .i64 a, .int .i64 b] 2) :=
    (are_any [a, b] 2 _ _ rfl (Sees.of_blk (heap_alloc_new w _) (by simp)) (by omega)).mono (by rintro e w' ⟨rfl, rfl⟩; exact ⟨by simp, rfl⟩)
  have hp2 := cell_keep hp hb0
  have hq2 := cell_keep hq hb0
  have hga := hG2.a
  rcases hok : (okA a && okA b) with _ | _
  · have hok' : (!(okA a && okA b)) = true := by rw [hok]; rfl
    have hF : addF a b = (0, 110) := by simp [addF, hok]
    rw [hF]
    go_enter Tryz.func146, Tryz.ntmps146
    go_wp2_with (first | (go_at_call 186; with_reducible refine hA.mono ?_; rintro e w' ⟨rfl, rfl⟩) | (go_at_call 180; with_reducible refine (told_a hG2).mono ?_; rintro e w' ⟨rfl, rfl⟩))
    go_ret2
    exact ⟨rfl, hb0⟩
  · have hok' : (!(okA a && okA b)) = false := by rw [hok]; rfl
    simp only [Bool.and_eq_true] at hok
    have hC := add1_any hG2 hp2 hq2 hok.1 hok.2
    by_cases ht : okA (a + b) = true
    · have hF : addF a b = (a + b, 0) := by simp [addF, hok, ht]
      rw [hF]
      simp only [if_pos ht] at hC
      go_enter Tryz.func146, Tryz.ntmps146
      go_wp2_with (first | (go_at_call 186; with_reducible refine hA.mono ?_; rintro e w' ⟨rfl, rfl⟩) | fail)
      refine hC.mono ?_
      rintro e W ⟨rfl, hb⟩
      have hbb := Lib.hid (hb0.trans (hb.mono (by simp)))
      have hG3 := hG2.below hb
      clear hb
      go_wp2
      go_ret2
      exact ⟨rfl, hbb.out⟩
    · have hF : addF a b = (0, 111) := by simp [addF, hok, ht]
      rw [hF]
      simp only [if_neg ht] at hC
      go_enter Tryz.func146, Tryz.ntmps146
      go_wp2_with (first | (go_at_call 186; with_reducible refine hA.mono ?_; rintro e w' ⟨rfl, rfl⟩) | fail)
      refine hC.mono ?_
      rintro e W ⟨rfl, hb⟩
      have hbb := Lib.hid (hb0.trans (hb.mono (by simp)))
      have hG3 := hG2.below hb
      clear hb
      go_wp2_with (go_at_call 180; with_reducible refine (told_o hG3).mono ?_; rintro e w' ⟨rfl, rfl⟩)
      go_ret2
      exact ⟨rfl, hbb.out⟩

set_option maxHeartbeats 1000000 in
set_option maxRecDepth 100000 in
theorem done_sub (hG : Glob w) (hp : w.cell? p = some (.int .i64 a)) (hq : w.cell? q = some (.int .i64 b)) :
    Calls Tryz.prog 146 #[.int .i64 a, .int .i64 b, .func (.func 191) #[] #[.pointer (some p), .pointer (some q)]] w fun e w' => e = .returned (.tuple #[.int .i64 (subF a b).1, .int .i64 (subF a b).2]) ∧ Below w.heap.size w w' := by
  obtain ⟨ao, aa, af, hG⟩ := hG
  have hb0 : Below w.heap.size w (w.alloc (.cells #[.int .i64 a, .int .i64 b] 2)) := (Below.refl _ w).alloc (Nat.le_refl _) _
  have hG2 := hG.below hb0
  have hA : Calls Tryz.prog 186 #[.slice (some ⟨w.heap.size, 0, none⟩) 2 2] (w.alloc (.cells #[.int .i64 a, .int .i64 b] 2)) fun e w' => e = .returned (.bool (okA a && okA b)) ∧ w' = w.alloc (.cells #[.int .i64 a, .int .i64 b] 2) :=
    (are_any [a, b] 2 _ _ rfl (Sees.of_blk (heap_alloc_new w _) (by simp)) (by omega)).mono (by rintro e w' ⟨rfl, rfl⟩; exact ⟨by simp, rfl⟩)
  have hp2 := cell_keep hp hb0
  have hq2 := cell_keep hq hb0
  have hga := hG2.a
  rcases hok : (okA a && okA b) with _ | _
  · have hok' : (!(okA a && okA b)) = true := by rw [hok]; rfl
    have hF : subF a b = (0, 110) := by simp [subF, hok]
    rw [hF]
    go_enter Tryz.func146, Tryz.ntmps146
    go_wp2_with (first | (go_at_call 186; with_reducible refine hA.mono ?_; rintro e w' ⟨rfl, rfl⟩) | (go_at_call 180; with_reducible refine (told_a hG2).mono ?_; rintro e w' ⟨rfl, rfl⟩))
    go_ret2
    exact ⟨rfl, hb0⟩
  · have hok' : (!(okA a && okA b)) = false := by rw [hok]; rfl
    simp only [Bool.and_eq_true] at hok
    have hC := sub1_any hG2 hp2 hq2 hok.1 hok.2
    by_cases ht : a < b
    · have hF : subF a b = (0, 112) := by simp [subF, hok, ht]
      rw [hF]
      simp only [if_pos ht] at hC
      go_enter Tryz.func146, Tryz.ntmps146
      go_wp2_with (first | (go_at_call 186; with_reducible refine hA.mono ?_; rintro e w' ⟨rfl, rfl⟩) | fail)
      refine hC.mono ?_
      rintro e W ⟨rfl, hb⟩
      have hbb := Lib.hid (hb0.trans (hb.mono (by simp)))
      have hG3 := hG2.below hb
      clear hb
      go_wp2_with (go_at_call 180; with_reducible refine (told_f hG3).mono ?_; rintro e w' ⟨rfl, rfl⟩)
      go_ret2
      exact ⟨rfl, hbb.out⟩
    · have hF : subF a b = (a - b, 0) := by simp [subF, hok, ht]
      rw [hF]
      simp only [if_neg ht] at hC
      go_enter Tryz.func146, Tryz.ntmps146
      go_wp2_with (first | (go_at_call 186; with_reducible refine hA.mono ?_; rintro e w' ⟨rfl, rfl⟩) | fail)
      refine hC.mono ?_
      rintro e W ⟨rfl, hb⟩
      have hbb := Lib.hid (hb0.trans (hb.mono (by simp)))
      have hG3 := hG2.below hb
      clear hb
      go_wp2
      go_ret2
      exact ⟨rfl, hbb.out⟩
end

set_option maxHeartbeats 1000000 in
set_option maxRecDepth 100000 in
theorem add_any (a b : Int) (w : World) (hG : Glob w) :
    Calls Tryz.prog 98 #[.int .i64 a, .int .i64 b] w fun e w' => e = .returned (.tuple #[.int .i64 (addF a b).1, .int .i64 (addF a b).2]) ∧ Below w.heap.size w w' := by
  obtain ⟨W, hW⟩ : ∃ W, (w.alloc (.cells #[.int .i64 a] 2)).alloc (.cells #[.int .i64 b] 2) = W := ⟨_, rfl⟩
  have hb : Below w.heap.size w W := by rw [← hW]; exact ((Below.refl _ w).alloc (Nat.le_refl _) _).alloc (by simp) _
  have hp : W.cell? ⟨w.heap.size, 0, none⟩ = some (.int .i64 a) := by rw [← hW]; exact blk_cell (keep_a _ (heap_alloc_new w _)) 0
  have hq : W.cell? ⟨w.heap.size + 1, 0, none⟩ = some (.int .i64 b) := by
    rw [← hW]; have := heap_alloc_new (w.alloc (.cells #[.int .i64 a] 2)) (.cells #[.int .i64 b] 2); rw [World.size_alloc] at this; exact blk_cell this 0
  have hmf : ∀ (fn : Fn) (first cap : Array Value) (w : World), (Instr.makeFunc fn first cap).run Tryz.prog w = .ok (.func fn first cap) w := fun _ _ _ _ => rfl
  go_enter Tryz.func98, Tryz.ntmps98
  go_wp2_with fail
  refine (done_add (hG.below hb) hp hq).mono ?_
  rintro e W3 ⟨rfl, hb3⟩
  have hbb := Lib.hid (hb.trans (hb3.mono hb.size))
  clear hb hb3
  go_wp2
  go_ret2
  exact ⟨rfl, hbb.out⟩

set_option maxHeartbeats 1000000 in
set_option maxRecDepth 100000 in
theorem sub_any (a b : Int) (w : World) (hG : Glob w) :
    Calls Tryz.prog 157 #[.int .i64 a, .int .i64 b] w fun e w' => e = .returned (.tuple #[.int .i64 (subF a b).1, .int .i64 (subF a b).2]) ∧ Below w.heap.size w w' := by
  obtain ⟨W, hW⟩ : ∃ W, (w.alloc (.cells #[.int .i64 a] 2)).alloc (.cells #[.int .i64 b] 2) = W := ⟨_, rfl⟩
  have hb : Below w.heap.size w W := by rw [← hW]; exact ((Below.refl _ w).alloc (Nat.le_refl _) _).alloc (by simp) _
  have hp : W.cell? ⟨w.heap.size, 0, none⟩ = some (.int .i64 a) := by rw [← hW]; exact blk_cell (keep_a _ (heap_alloc_new w _)) 0
  have hq : W.cell? ⟨w.heap.size + 1, 0, none⟩ = some (.int .i64 b) := by
    rw [← hW]; have := heap_alloc_new (w.alloc (.cells #[.int .i64 a] 2)) (.cells #[.int .i64 b] 2); rw [World.size_alloc] at this; exact blk_cell this 0
  have hmf : ∀ (fn : Fn) (first cap : Array Value) (w : World), (Instr.makeFunc fn first cap).run Tryz.prog w = .ok (.func fn first cap) w := fun _ _ _ _ => rfl
  go_enter Tryz.func157, Tryz.ntmps157
  go_wp2_with fail
  refine (done_sub (hG.below hb) hp hq).mono ?_
  rintro e W3 ⟨rfl, hb3⟩
  have hbb := Lib.hid (hb.trans (hb3.mono hb.size))
  clear hb hb3
  go_wp2
  go_ret2
  exact ⟨rfl, hbb.out⟩
end Go.Proofs.YtmkcbkdbdcnoiaaGreatDoor
namespace Go.Proofs.YtmkcbkdbdcnoiaaGreatDoor
open Go.RowKit
set_option linter.unusedVariables false
set_option linter.unusedSimpArgs false

theorem add_field (ad : Addr) (m j : Nat) (hj : 0 < j) : (⟨(ad.add m).block, (ad.add m).off + j, none⟩ : Addr) = ad.add (m + j) := by
  unfold Addr.add
  by_cases hm : m = 0
  · subst hm
    simp [Nat.ne_of_gt hj]
  · simp [hm, Nat.ne_of_gt (Nat.add_pos_left (Nat.pos_of_ne_zero hm) j)]
    omega
theorem add_one (ad : Addr) (m : Nat) : (⟨(ad.add m).block, (ad.add m).off + 1, none⟩ : Addr) = ad.add (m + 1) := add_field ad m 1 (by omega)
theorem add_block (ad : Addr) (m : Nat) : (ad.add m).block = ad.block := by unfold Addr.add; split <;> rfl

/-- The cells of elements of two cells. -/
def cat2 {α : Type} (f g : α → Value) (l : List α) : List Value := l.flatMap fun x => [f x, g x]
section
variable {α : Type} {f g : α → Value}
theorem cat2_cons (x : α) (l : List α) : cat2 f g (x :: l) = f x :: g x :: cat2 f g l := rfl
theorem cat2_length (l : List α) : (cat2 f g l).length = l.length * 2 := by
  induction l with
  | nil => rfl
  | cons x l ih => rw [cat2_cons, List.length_cons, List.length_cons, ih, List.length_cons]; omega
theorem cat2_append (a b : List α) : cat2 f g (a ++ b) = cat2 f g a ++ cat2 f g b := by simp [cat2]
theorem cat2_get : ∀ (l : List α) (i : Nat) (h : i < l.length), (cat2 f g l)[i * 2]? = some (f (l[i]'h)) ∧ (cat2 f g l)[i * 2 + 1]? = some (g (l[i]'h)) := by
  intro l
  induction l with
  | nil => intro i h; simp at h
  | cons x l ih =>
    intro i h
    cases i with
    | zero => exact ⟨rfl, rfl⟩
    | succ i =>
      have := ih i (by simpa using h)
      rw [cat2_cons, show (i + 1) * 2 = i * 2 + 1 + 1 by omega]
      simpa using this
theorem cat2_take (l : List α) (m : Nat) : cat2 f g (l.take m) = (cat2 f g l).take (m * 2) := by
  induction l generalizing m with
  | nil => simp [cat2]
  | cons x l ih =>
    cases m with
    | zero => simp [cat2]
    | succ m => rw [List.take_succ_cons, cat2_cons, cat2_cons, show (m + 1) * 2 = m * 2 + 1 + 1 by omega, List.take_succ_cons, List.take_succ_cons, ih]
theorem cat2_drop (l : List α) (m : Nat) : cat2 f g (l.drop m) = (cat2 f g l).drop (m * 2) := by
  induction l generalizing m with
  | nil => simp [cat2]
  | cons x l ih =>
    cases m with
    | zero => simp [cat2]
    | succ m => rw [List.drop_succ_cons, cat2_cons, show (m + 1) * 2 = m * 2 + 1 + 1 by omega, List.drop_succ_cons, List.drop_succ_cons, ih]

/-- An element's cells. -/
theorem Sees.at2 {w : World} {v : Value} {l : List α} (h : Sees w v l.length 2 (cat2 f g l)) (i : Nat) (hi : i < l.length) :
    ∃ a cap, v = .slice (some a) l.length cap ∧ w.cell? (a.add (i * 2)) = some (f (l[i]'hi)) ∧ w.cell? (a.add (i * 2 + 1)) = some (g (l[i]'hi)) ∧ w.cell? ⟨(a.add (i * 2)).block, (a.add (i * 2)).off + 1, none⟩ = some (g (l[i]'hi)) := by
  obtain ⟨_, base, cap, rfl, _, h⟩ := h
  obtain ⟨a, rfl, hc⟩ := h.resolve_left (by omega)
  obtain ⟨h1, h2⟩ := cat2_get (f := f) (g := g) l i hi
  exact ⟨a, cap, rfl, hc _ _ h1, hc _ _ h2, by rw [add_one]; exact hc _ _ h2⟩
end

theorem Sees.same {S : Nat → Prop} {A B : World} {v : Value} {n sz : Nat} {xs : List Value} (h : Sees A v n sz xs) (hS : ∀ k, v.ownBlock = some k → k < A.heap.size → B.heap[k]? = A.heap[k]?) : Sees B v n sz xs := by
  obtain ⟨hl, base, cap, rfl, hc, h⟩ := h
  refine ⟨hl, base, cap, rfl, hc, h.imp id ?_⟩
  rintro ⟨a, rfl, hcs⟩
  refine ⟨a, rfl, fun j u hj => ?_⟩
  have h1 := hcs j u hj
  have hk := hS a.block rfl (by have := cell_lt h1; rwa [add_block] at this)
  rw [← h1]; simp only [World.cell?, add_block, hk]
theorem Sees.own_lt {w : World} {v : Value} {n sz : Nat} {xs : List Value} (h : Sees w v n sz xs) (hn : 0 < n) (hs : 0 < sz) {k : Nat} (hk : v.ownBlock = some k) : k < w.heap.size := by
  obtain ⟨hl, base, cap, rfl, hc, h⟩ := h
  obtain ⟨a, rfl, hcs⟩ := h.resolve_left (by omega)
  obtain rfl : a.block = k := by simpa [Value.ownBlock] using hk
  have hp := Nat.mul_pos hn hs
  have := cell_lt (hcs 0 (xs[0]'(by omega)) (List.getElem?_eq_getElem (by omega)))
  rwa [add_block] at this
theorem Sees.shape {w : World} {v : Value} {n sz : Nat} {xs : List Value} (h : Sees w v n sz xs) : ∃ base cap, v = .slice base n cap := ⟨h.2.choose, h.2.choose_spec.choose, h.2.choose_spec.choose_spec.1⟩
end Go.Proofs.YtmkcbkdbdcnoiaaGreatDoor
