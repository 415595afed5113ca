/- Small facts on blocks and on results that lie in memory. -/
import Derived.WalkKit
import Derived.Deep.MidRow
import Derived.Laws.ResultCell
import Derived.ScopeJumps
import Derived.WalkMore
import Derived.WalkKit
import Derived.ProofKit
import Derived.Below
import Derived.Lib.Builder
import Derived.Test.YtnbmpcdomdaimaaRng
import Derived.Test.YtnbmpcdomdaimaaAl
set_option linter.unusedVariables false
set_option linter.unusedSimpArgs false
namespace Go.Proofs.Ytnbmpcdomdaimaa
open Go.RowKit

theorem blk_set {w : World} {g : Nat} {t : TypeId} {cs : Array Value} (h : w.heap[g]? = some (.cells cs t (0, 0))) (i : Nat) (u : Value) : (w.setCell ⟨g, i, none⟩ u).heap[g]? = some (.cells (cs.setIfInBounds i u) t (0, 0)) := by
  simp [World.setCell, Array.getElem?_modify, h]
theorem blk_cell {w : World} {g : Nat} {t : TypeId} {cs : Array Value} {fr : Nat × Nat} (h : w.heap[g]? = some (.cells cs t fr)) (i : Nat) : w.cell? ⟨g, i, none⟩ = cs[i]? := by
  simp [World.cell?, h]
theorem blk_frozen {w : World} {g : Nat} {t : TypeId} {cs : Array Value} (h : w.heap[g]? = some (.cells cs t (0, 0))) (i : Nat) : w.frozen? ⟨g, i, none⟩ = false := by
  simp [World.frozen?, h]

theorem blk_drew {w : World} {g : Nat} {o : Obj} (h : w.heap[g]? = some o) : w.drew.heap[g]? = some o := h

theorem load_blk {P : Program} {w : World} {g : Nat} {t ty : TypeId} {cs : Array Value} {fr : Nat × Nat} {d : TypeDesc} (h : w.heap[g]? = some (.cells cs t fr)) (hu : P.underlying ty = some d) (hd : d.isRow = true) (hi : (P.info? ty).map (·.size) = some cs.size) :
    (loadVar ty ⟨g, 0, none⟩).run P w = .ok (.agg cs) w := by
  have := run_loadVar_mid (P := P) w g 0 ty cs.toList d (fun j v hv => by rw [Nat.zero_add, blk_cell h]; simpa using hv) hu hd (by simpa using hi)
  simpa using this

theorem blk_there {w : World} {g : Nat} {t : TypeId} {cs : Array Value} (h : w.heap[g]? = some (.cells cs t (0, 0))) (n : Nat) (hn : n ≤ cs.size) : w.there g 0 n := by
  intro j hj
  rw [Nat.zero_add, blk_cell h, blk_frozen h]
  exact ⟨by rw [Array.getElem?_eq_getElem (by omega)]; rfl, rfl⟩

theorem setCells_blk {g : Nat} {t : TypeId} (vs : List Value) : ∀ (o : Nat) (w : World) (pre post : List Value), o = pre.length → w.heap[g]? = some (.cells (pre ++ post).toArray t (0, 0)) → vs.length = post.length →
    (w.setCells g o vs).heap[g]? = some (.cells (pre ++ vs).toArray t (0, 0)) := by
  induction vs with
  | nil =>
    intro o w pre post ho h hl
    have : post = [] := List.eq_nil_of_length_eq_zero hl.symm
    subst this
    exact h
  | cons v vs ih =>
    intro o w pre post ho h hl
    cases post with
    | nil => simp at hl
    | cons p post =>
      rw [World.setCells]
      have h1 := blk_set h o v
      have h2 : (pre ++ p :: post).toArray.setIfInBounds o v = ((pre ++ [v]) ++ post).toArray := by
        subst ho
        simp
      rw [h2] at h1
      have := ih (o + 1) _ (pre ++ [v]) post (by simp; omega) h1 (by simpa using hl)
      simpa using this

/-- A whole struct stored into its own block. -/
theorem setCells_whole {w : World} {g : Nat} {t : TypeId} {cs : Array Value} (h : w.heap[g]? = some (.cells cs t (0, 0))) (vs : List Value) (hl : vs.length = cs.size) : (w.setCells g 0 vs).heap[g]? = some (.cells vs.toArray t (0, 0)) := by
  have := setCells_blk (g := g) (t := t) vs 0 w [] cs.toList rfl (by simpa using h) (by simpa using hl)
  simpa using this
theorem setCells_other {g : Nat} (vs : List Value) : ∀ (o : Nat) (w : World) (k : Nat), k ≠ g → (w.setCells g o vs).heap[k]? = w.heap[k]? := by
  induction vs with
  | nil => intro o w k _; rfl
  | cons v vs ih =>
    intro o w k hk
    rw [World.setCells, ih _ _ _ hk]
    exact Below.heap_setCell _ _ _ _ hk
theorem below_setCells {B : Nat} {a : World} {g : Nat} (hg : B ≤ g) (vs : List Value) : ∀ (o : Nat) (w : World), Below B a w → Below B a (w.setCells g o vs) := by
  induction vs with
  | nil => intro o w h; exact h
  | cons v vs ih =>
    intro o w h
    rw [World.setCells]
    exact ih _ _ (h.setCell (p := ⟨g, o, none⟩) hg v)

/-- Two results, the first of them a struct in memory. -/
theorem res_cell_tmp {P : Program} {fn : Func} {p u : Tmp} {ty t : TypeId} {tmps : Array Value} {w : World} {g : Nat} {cs : Array Value} {fr : Nat × Nat} {d : TypeDesc} (h : fn.results = #[.cell p ty, .tmp u])
    (hp : tmps.getD p undef = .pointer (some ⟨g, 0, none⟩)) (hb : w.heap[g]? = some (.cells cs t fr)) (hu : P.underlying ty = some d) (hd : d.isRow = true) (hi : (P.info? ty).map (·.size) = some cs.size) :
    (results fn tmps).run P w = .ok (.tuple #[.agg cs, tmps.getD u undef]) w := by
  rw [results_cell_tmp h, hp]
  simp [asAddr, Result.andThen, load_blk hb hu hd hi]

/-- A scope whose body may jump on to a label of its own. -/
def Exit.fwd (P : Program) (l : Nat) (rest : Code) (Q : Exit → Act → World → Prop) : Exit → Act → World → Prop
  | .goto l', a, w => l' = l ∧ rest.wp P (Exit.noGoto Q) a w
  | e, a, w => Q e a w
theorem wp_scope_goto {P : Program} {a : Act} {w : World} {Q : Exit → Act → World → Prop} {c rest : Code} (l : Nat) (hf : findLabel c l = some rest) (h : c.wp P (Exit.fwd P l rest Q) a w) : (Code.scope c).wp P Q a w := by
  refine wp_scope_jumps l (fun a w => rest.wp P (Exit.noGoto Q) a w) (fun _ _ => 0) hf ?_ ?_
  · exact Code.wp_mono (fun e a w hq => by cases e <;> exact hq) h
  · intro a w hJ
    exact Code.wp_mono (fun e a w hq => by cases e <;> first | exact hq | exact hq.elim) hJ
section
variable {P : Program} {l : Nat} {rest : Code} {Q : Exit → Act → World → Prop} {a : Act} {w : World}
@[go_sem] theorem Exit.fwd_normal : Exit.fwd P l rest Q .normal a w = Q .normal a w := rfl
@[go_sem] theorem Exit.fwd_exit (id : Nat) : Exit.fwd P l rest Q (.exit id) a w = Q (.exit id) a w := rfl
@[go_sem] theorem Exit.fwd_ret : Exit.fwd P l rest Q .ret a w = Q .ret a w := rfl
@[go_sem] theorem Exit.fwd_panic (ch : List PanicEntry) : Exit.fwd P l rest Q (.panic ch) a w = Q (.panic ch) a w := rfl
end

theorem keep_b {W W' : World} {g : Nat} {o : Obj} (h : W.heap[g]? = some o) (hb : Below W.heap.size W W') : W'.heap[g]? = some o :=
  (hb.block g (Array.getElem?_eq_some_iff.1 h).1).trans h
theorem keep_a {W : World} {g : Nat} {o : Obj} (o' : Obj) (h : W.heap[g]? = some o) : (W.alloc o').heap[g]? = some o :=
  keep_b h ((Below.refl _ W).alloc (Nat.le_refl _) _)
theorem cells3 {W : World} {g : Nat} {t : TypeId} {a0 a1 a2 : Value} (h : W.heap[g]? = some (.cells #[a0, a1, a2] t (0, 0))) :
    W.cell? ⟨g, 0, none⟩ = some a0 ∧ W.cell? ⟨g, 1, none⟩ = some a1 ∧ W.cell? ⟨g, 2, none⟩ = some a2 :=
  ⟨blk_cell h 0, blk_cell h 1, blk_cell h 2⟩
theorem cells2 {W : World} {g : Nat} {t : TypeId} {a0 a1 : Value} (h : W.heap[g]? = some (.cells #[a0, a1] t (0, 0))) :
    W.cell? ⟨g, 0, none⟩ = some a0 ∧ W.cell? ⟨g, 1, none⟩ = some a1 :=
  ⟨blk_cell h 0, blk_cell h 1⟩
theorem own_below {w w' : World} {base : Nat} {e : TypeId} {size : Nat} {v : Value} {n : Nat} {xs : List Value} (h : w.ownsRow base e size v n xs) (hb : Below w.heap.size w w') : w'.ownsRow base e size v n xs :=
  ⟨h.1, h.2.imp id fun ⟨g, cap, cur, hv, hg, hh, rest⟩ => ⟨g, cap, cur, hv, hg, keep_b hh hb, rest⟩⟩
theorem own_base {w : World} {base : Nat} {e : TypeId} {size : Nat} {v : Value} {n : Nat} {xs : List Value} (h : w.ownsRow base e size v n xs) (g : Nat) (hg : v.ownBlock = some g) : base ≤ g := by
  rcases h.2 with ⟨rfl, _⟩ | ⟨g', cap, cur, rfl, hb, _⟩
  · simp [Value.ownBlock] at hg
  · simp [Value.ownBlock] at hg; omega
theorem below_drewN (w : World) (m : Nat) : Below w.heap.size w (w.drewN m) := by
  induction m with
  | zero => exact Below.refl _ w
  | succ m ih => exact Below.drew ih
theorem add_plain (g j : Nat) : (⟨g, 0, none⟩ : Addr).add j = ⟨g, j, none⟩ := by unfold Addr.add; split <;> simp_all
theorem cell_lt {w : World} {a : Addr} {v : Value} (h : w.cell? a = some v) : a.block < w.heap.size := by
  apply Classical.byContradiction
  intro hn
  have : w.heap[a.block]? = none := Array.getElem?_eq_none (by omega)
  simp [World.cell?, this] at h

/-- The cells of spares. -/
def sp (l : List Sp) : List Value := l.flatMap fun s => [.int .u32 (s.1 : Int), .int .u64 (s.2 : Int)]
theorem sp_length (l : List Sp) : (sp l).length = l.length * 2 := by
  induction l with
  | nil => rfl
  | cons x l ih => simp only [sp, List.flatMap_cons, List.length_append, List.length_cons, List.length_nil] at *; omega
theorem sp_cons (x : Sp) (l : List Sp) : sp (x :: l) = .int .u32 (x.1 : Int) :: .int .u64 (x.2 : Int) :: sp l := rfl
theorem sp_append (a b : List Sp) : sp (a ++ b) = sp a ++ sp b := by simp [sp]
theorem sp_get (l : List Sp) (i : Nat) (h : i < l.length) : (sp l)[i * 2]? = some (.int .u32 ((l[i]'h).1 : Int)) ∧ (sp l)[i * 2 + 1]? = some (.int .u64 ((l[i]'h).2 : Int)) := by
  induction l generalizing i with
  | nil => simp at h
  | cons x l ih =>
    cases i with
    | zero => exact ⟨rfl, rfl⟩
    | succ i =>
      have := ih i (by simpa using h)
      rw [sp_cons, show (i + 1) * 2 = i * 2 + 1 + 1 by omega]
      simpa using this

/-- A row of spares that can be read. -/
def SpRow (w : World) (v : Value) (l : List Sp) : Prop :=
  ∃ base cap, v = .slice base l.length cap ∧ (l = [] ∨ ∃ a : Addr, base = some a ∧ ∀ i (h : i < l.length), w.cell? (a.add (i * 2)) = some (.int .u32 ((l[i]'h).1 : Int)) ∧ w.cell? (a.add (i * 2 + 1)) = some (.int .u64 ((l[i]'h).2 : Int)))

theorem SpRow.of_own {w : World} {B : Nat} {v : Value} {l : List Sp} (h : w.ownsRow B 44 2 v l.length (sp l)) : SpRow w v l := by
  have h0 := h
  rcases h.2 with ⟨rfl, hl⟩ | ⟨g, cap, cur, rfl, hg, _⟩
  · have : l = [] := List.eq_nil_of_length_eq_zero hl
    exact ⟨none, 0, by rw [this]; rfl, .inl this⟩
  · exact ⟨_, _, rfl, .inr ⟨⟨g, 0, none⟩, rfl, fun i hi => ⟨h0.cells (g := g) rfl _ _ (sp_get l i hi).1, h0.cells (g := g) rfl _ _ (sp_get l i hi).2⟩⟩⟩

theorem SpRow.below {w w' : World} {v : Value} {l : List Sp} (h : SpRow w v l) (hb : Below w.heap.size w w') : SpRow w' v l := by
  obtain ⟨base, cap, rfl, h⟩ := h
  refine ⟨base, cap, rfl, h.imp id ?_⟩
  rintro ⟨a, rfl, hc⟩
  refine ⟨a, rfl, fun i hi => ?_⟩
  obtain ⟨h1, h2⟩ := hc i hi
  exact ⟨(hb.cell (p := a.add (i * 2)) (cell_lt h1)).trans h1, (hb.cell (p := a.add (i * 2 + 1)) (cell_lt h2)).trans h2⟩
end Go.Proofs.Ytnbmpcdomdaimaa
