/- The rows' parameters that are structs: a command, an answer. -/
import Derived.Test.YtbjbadnkpeakcaaRow
import Derived.Lib.SmallJoins
namespace Go.Proofs.Ytbjbadnkpeakcaa
open Go.Joins Go.ChangeShapes Go.WideShapes Go.RowKit Go.Deep

section
variable {H : Type} {enc : TypeId × Value → H} {w : World} {base : Nat} {spare : Nat → Bool} {held : Bool}

/-- A struct of six fields, by value: its cells, and each one's reading. -/
theorem open_six {P : Program} {r : Reach} {b0 : Nat} {t : TypeId} {f0 f1 f2 f3 f4 f5 : Field} {v : Value} {d : DataW H} {p : List MemPlace} (hs : P.underlying t = some (.struct #[f0, f1, f2, f3, f4, f5])) (hone : oneCellFields P #[f0, f1, f2, f3, f4, f5] = true) (hC : P.cellsOf t = 6)
    (hv : Value.okWide P w r b0 t v) (h : DataW.Trod enc P w base spare held t v d p) :
    ∃ (v0 v1 v2 v3 v4 v5 : Value) (y0 y1 y2 y3 y4 y5 : DataW H × List MemPlace) (n : Nat), v = .agg #[v0, v1, v2, v3, v4, v5] ∧
      DataW.trod enc P w base spare held n f0.type [v0] = some y0 ∧ DataW.trod enc P w base spare held n f1.type [v1] = some y1 ∧ DataW.trod enc P w base spare held n f2.type [v2] = some y2 ∧ DataW.trod enc P w base spare held n f3.type [v3] = some y3 ∧ DataW.trod enc P w base spare held n f4.type [v4] = some y4 ∧ DataW.trod enc P w base spare held n f5.type [v5] = some y5 := by
  obtain ⟨⟨l⟩, rfl, hsz⟩ := okWide_struct hs hv
  obtain ⟨fuel, hf⟩ := h
  obtain ⟨xs, n, _, _, _, hlen, hg⟩ := DataW.trod_struct hs hf
  have hl := hsz.trans hC
  match l, hl, xs, hlen with
  | [c0, c1, c2, c3, c4, c5], _, [y0, y1, y2, y3, y4, y5], _ =>
    have one : ∀ i f, (#[f0, f1, f2, f3, f4, f5] : Array Field)[i]? = some f → _ := fun i f hi => hone_of hone i f hi
    obtain ⟨o0, k0⟩ := one 0 f0 rfl
    obtain ⟨o1, k1⟩ := one 1 f1 rfl
    obtain ⟨o2, k2⟩ := one 2 f2 rfl
    obtain ⟨o3, k3⟩ := one 3 f3 rfl
    obtain ⟨o4, k4⟩ := one 4 f4 rfl
    obtain ⟨o5, k5⟩ := one 5 f5 rfl
    refine ⟨c0, c1, c2, c3, c4, c5, y0, y1, y2, y3, y4, y5, n, rfl, ?_, ?_, ?_, ?_, ?_, ?_⟩
    · simpa [Value.cells, o0, k0] using hg 0 f0 rfl
    · simpa [Value.cells, o1, k1] using hg 1 f1 rfl
    · simpa [Value.cells, o2, k2] using hg 2 f2 rfl
    · simpa [Value.cells, o3, k3] using hg 3 f3 rfl
    · simpa [Value.cells, o4, k4] using hg 4 f4 rfl
    · simpa [Value.cells, o5, k5] using hg 5 f5 rfl

theorem command_open {r : Reach} {b0 : Nat} {v : Value} {d : DataW H} {p : List MemPlace} (hv : Value.okWide Try.prog w r b0 31 v) (h : DataW.Trod enc Try.prog w base spare held 31 v d p) :
    ∃ op a b it n m : Int, v = .agg #[.int .i64 op, .int .u32 a, .int .u32 b, .int .u16 it, .int .i64 n, .int .i64 m] ∧ (Lit.int .i64 op).wf = true ∧ (Lit.int .u32 a).wf = true ∧ (Lit.int .u32 b).wf = true ∧ (Lit.int .u16 it).wf = true ∧ (Lit.int .i64 n).wf = true ∧ (Lit.int .i64 m).wf = true := by
  obtain ⟨v0, v1, v2, v3, v4, v5, y0, y1, y2, y3, y4, y5, n, rfl, h0, h1, h2, h3, h4, h5⟩ := open_six Try.underlying31 (by kernel_rfl) (by kernel_rfl) hv h
  obtain ⟨a0, e0, rfl, w0⟩ := DataW.trod_int Try.underlying3 h0
  obtain ⟨a1, e1, rfl, w1⟩ := DataW.trod_int Try.underlying28 h1
  obtain ⟨a2, e2, rfl, w2⟩ := DataW.trod_int Try.underlying28 h2
  obtain ⟨a3, e3, rfl, w3⟩ := DataW.trod_int Try.underlying29 h3
  obtain ⟨a4, e4, rfl, w4⟩ := DataW.trod_int Try.underlying2 h4
  obtain ⟨a5, e5, rfl, w5⟩ := DataW.trod_int Try.underlying2 h5
  simp at e0 e1 e2 e3 e4 e5
  subst e0 e1 e2 e3 e4 e5
  exact ⟨_, _, _, _, _, _, rfl, w0, w1, w2, w3, w4, w5⟩

theorem answer_open {r : Reach} {b0 : Nat} {v : Value} {d : DataW H} {p : List MemPlace} (hv : Value.okWide Try.prog w r b0 36 v) (h : DataW.Trod enc Try.prog w base spare held 36 v d p) :
    ∃ e x y : Int, v = .agg #[.int .i64 e, .int .i64 x, .int .i64 y] ∧ (Lit.int .i64 e).wf = true ∧ (Lit.int .i64 x).wf = true ∧ (Lit.int .i64 y).wf = true := by
  obtain ⟨v0, v1, v2, y0, y1, y2, n, rfl, _, _, h0, h1, h2⟩ := open_agg3 Try.underlying36 (by kernel_rfl) (by kernel_rfl) hv h
  obtain ⟨a0, e0, rfl, w0⟩ := DataW.trod_int Try.underlying23 h0
  obtain ⟨a1, e1, rfl, w1⟩ := DataW.trod_int Try.underlying2 h1
  obtain ⟨a2, e2, rfl, w2⟩ := DataW.trod_int Try.underlying2 h2
  simp at e0 e1 e2
  subst e0 e1 e2
  exact ⟨_, _, _, rfl, w0, w1, w2⟩
end
end Go.Proofs.Ytbjbadnkpeakcaa
