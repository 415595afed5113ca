/- Arguments opened: an alloc, a slice of spares. -/
import Derived.Test.YtnbmpcdomdaimaaPAx0
import Derived.Deep.Slices
import Derived.Deep.Fields
import Derived.ChangeSame
import Derived.Lib.SmallJoins
import Derived.ProofKit
import Derived.OpenShut
import Derived.ShutString
import Derived.ChangeOld
namespace Go.Proofs.YtnbmpcdomdaimaaQ
open Go.ChangeShapes Go.WideShapes Go.Deep Go.Joins Go.RowKit
open Go.Proofs.YtnbmpcdomdaimaaQ.PA Go.Proofs.YtnbmpcdomdaimaaW.PrintWords Go.Proofs.YtnbmpcdomdaimaaW.PrintLast Go.Proofs.YtnbmpcdomdaimaaW.PrintMore
set_option linter.unusedVariables false

theorem own : ownKnob Try.prog.godebug = none := by kernel_rfl
theorem laidOut : laidOutB Try.prog = true := by kernel_rfl

section
variable {H : Type} {enc : TypeId × Value → H} {P : Program} {w : World} {base : Nat} {spare : Nat → Bool} {held : Bool}
theorem open_slice_fields {t e : TypeId} {fs : Array Field} {fuel : Nat} {cs : List Value} {x : DataW H × List MemPlace} (ht : P.underlying t = some (.slice e)) (he : P.underlying e = some (.struct fs))
    (hone : oneCellFields P fs = true) (hC : P.cellsOf e = fs.size) (h : DataW.trod enc P w base spare held fuel t cs = some x) :
    (cs = [.slice none 0 0] ∧ x = (.nil, [])) ∨
    ∃ (a : Addr) (len cap m : Nat) (D : Nat → DataW H) (Pl : Nat → List MemPlace), cs = [.slice (some a) len cap] ∧ base ≤ a.block ∧ len ≤ cap ∧ cap ≤ maxLen ∧ m = (if spare a.block then cap else len) ∧
      x = (.slice ((List.range len).map D) ((List.range (m - len)).map fun j => D (len + j)), MemPlace.row a (m * fs.size) ++ (List.range m).flatMap Pl) ∧
      ∀ i, i < m → ∃ (ys : List (DataW H × List MemPlace)) (n : Nat), D i = .agg (ys.map (·.1)) ∧ Pl i = ys.flatMap (·.2) ∧ ys.length = fs.size ∧
        ∀ (j : Nat) (f : Field), fs[j]? = some f → ∃ (v : Value) (y : DataW H × List MemPlace), w.cell? (a.add (i * fs.size + j)) = some v ∧ ys[j]? = some y ∧ DataW.trod enc P w base spare held n f.type [v] = some y := by
  rcases open_slice ht h with h0 | ⟨a, len, cap, m, n, D, Pl, hcs, hb, hl, hm, hmm, hx, hi⟩
  · exact .inl h0
  · refine .inr ⟨a, len, cap, m, D, Pl, hcs, hb, hl, hm, hmm, by rw [hC] at hx; exact hx, fun i him => ?_⟩
    obtain ⟨cs', hc, ht'⟩ := hi i him
    rw [hC] at hc
    obtain ⟨ys, n', hn', hy, hlen, hyl, hf⟩ := DataW.trod_struct he ht'
    obtain ⟨_, hcl, hat⟩ := World.cells?_some hc
    simp only [Prod.mk.injEq] at hy
    refine ⟨ys, n', hy.1, hy.2, hyl, fun j f hj => ?_⟩
    obtain ⟨ho, hk⟩ := hone_of hone j f hj
    have hjl : j < fs.size := (Array.getElem?_eq_some_iff.1 hj).1
    have hcell := hat j hjl
    have hv : cs'[j]? = some (cs'[j]'(by omega)) := List.getElem?_eq_getElem (by omega)
    have h1 := hf j f hj
    rw [ho, hk] at h1
    have hone' : (cs'.drop j).take 1 = [cs'[j]'(by omega)] := by
      rw [List.drop_eq_getElem_cons (by omega)]
      rfl
    rw [hone'] at h1
    have hys : ys[j]? = some (ys[j]'(by omega)) := List.getElem?_eq_getElem (by omega)
    refine ⟨_, _, ?_, hys, h1.trans hys⟩
    rw [← Go.Deep.add_add, hcell, hv]
end

theorem bounds_u32 {n : Int} (h : (Lit.int .u32 n).wf = true) : 0 ≤ n ∧ n < 4294967296 := by
  simp only [Lit.wf, Bool.and_eq_true, decide_eq_true_eq] at h
  exact ⟨h.1, Int.lt_of_le_of_lt h.2 (by decide)⟩
theorem bounds_u64 {n : Int} (h : (Lit.int .u64 n).wf = true) : 0 ≤ n ∧ n < 18446744073709551616 := by
  simp only [Lit.wf, Bool.and_eq_true, decide_eq_true_eq] at h
  exact ⟨h.1, Int.lt_of_le_of_lt h.2 (by decide)⟩

section
variable {H : Type} {enc : TypeId × Value → H} {w : World} {base : Nat} {spare : Nat → Bool} {held : Bool}

def InR (l : List S44) : Prop := ∀ s ∈ l, 0 ≤ s.f0 ∧ s.f0 < 4294967296 ∧ 0 ≤ s.f1 ∧ s.f1 < 18446744073709551616

theorem open_spares {fuel : Nat} {v : Value} {x : DataW H × List MemPlace} (h : DataW.trod enc Try.prog w base spare held fuel 23 [v] = some x) :
    ∃ (A : Option Addr) (c : Nat) (l : List S44), v = .slice A l.length c ∧ Kd.C k44 w A l.length l ∧ l.length ≤ c ∧ c ≤ maxLen ∧ InR l := by
  rcases open_slice_fields Try.underlying23 Try.underlying44 (by kernel_rfl) (by kernel_rfl) h with ⟨hcs, _⟩ | ⟨a, len, cap, m, D, Pl, hcs, hb, hl, hm, hmm, hx, hi⟩
  · obtain rfl : v = .slice none 0 0 := by simpa using hcs
    exact ⟨none, 0, [], rfl, ⟨rfl, by simp, fun h => absurd h (by simp)⟩, Nat.le_refl _, by simp [maxLen], fun s hs => by simp at hs⟩
  · obtain rfl : v = .slice (some a) len cap := by simpa using hcs
    have hlm : len ≤ m := by rw [hmm]; split <;> omega
    have key : ∀ i, i < len → ∃ s : S44, w.cell? (a.add (i * 2)) = some (.int .u32 s.f0) ∧ w.cell? (a.add (i * 2 + 1)) = some (.int .u64 s.f1) ∧ 0 ≤ s.f0 ∧ s.f0 < 4294967296 ∧ 0 ≤ s.f1 ∧ s.f1 < 18446744073709551616 := by
      intro i hlt
      obtain ⟨ys, n, _, _, _, hf⟩ := hi i (by omega)
      obtain ⟨v0, y0, hc0, _, h0⟩ := hf 0 _ rfl
      obtain ⟨v1, y1, hc1, _, h1⟩ := hf 1 _ rfl
      obtain ⟨n0, e0, _, w0⟩ := DataW.trod_int Try.underlying22 h0
      obtain ⟨n1, e1, _, w1⟩ := DataW.trod_int Try.underlying26 h1
      obtain rfl : v0 = .int .u32 n0 := by simpa using e0
      obtain rfl : v1 = .int .u64 n1 := by simpa using e1
      refine ⟨⟨n0, n1⟩, hc0, hc1, ?_⟩
      have b0 := bounds_u32 w0
      have b1 := bounds_u64 w1
      exact ⟨b0.1, b0.2, b1.1, b1.2⟩
    have key2 : ∀ n, n ≤ len → ∃ l : List S44, l.length = n ∧ ∀ i (h : i < l.length), w.cell? (a.add (i * 2)) = some (.int .u32 (l[i]'h).f0) ∧ w.cell? (a.add (i * 2 + 1)) = some (.int .u64 (l[i]'h).f1) ∧ 0 ≤ (l[i]'h).f0 ∧ (l[i]'h).f0 < 4294967296 ∧ 0 ≤ (l[i]'h).f1 ∧ (l[i]'h).f1 < 18446744073709551616 := by
      intro n
      induction n with
      | zero => exact fun _ => ⟨[], rfl, fun i h => by simp at h⟩
      | succ n ih =>
        intro hn
        obtain ⟨l, hl, hc⟩ := ih (by omega)
        obtain ⟨s, hs⟩ := key n (by omega)
        refine ⟨l ++ [s], by simp [hl], fun i h => ?_⟩
        rcases Nat.lt_or_ge i l.length with hlt | hge
        · rw [List.getElem_append_left hlt]; exact hc i hlt
        · obtain rfl : i = l.length := by simp at h; omega
          rw [List.getElem_concat_length rfl, hl]; exact hs
    obtain ⟨l, hll, hc⟩ := key2 len (Nat.le_refl _)
    refine ⟨some a, cap, l, by rw [hll], ?_, by omega, hm, ?_⟩
    · refine ⟨rfl, by have : maxLen = 9223372036854775807 := rfl; omega, fun _ => ⟨a, rfl, ?_⟩⟩
      intro j p hj
      obtain ⟨hlt, rfl⟩ := List.getElem?_eq_some_iff.1 hj
      have h2 := hc j hlt
      refine ⟨_, rfl, k44_mk w _, ?_⟩
      intro i u hi
      match i, hi with
      | 0, hi => simp at hi; rw [← hi]; exact h2.1
      | 1, hi => simp at hi; rw [← hi]; exact h2.2.1
      | i + 2, hi => simp at hi
    · intro s hs
      obtain ⟨i, hi, rfl⟩ := List.getElem_of_mem hs
      have := hc i hi
      exact this.2.2

theorem open_alloc {r : Reach} {b0 : Nat} {v : Value} {d : DataW H} {p : List MemPlace} (hv : Value.okWide Try.prog w r b0 25 v) (h : DataW.Trod enc Try.prog w base spare held 25 v d p) :
    ∃ (a0 a1 : Int) (A : Option Addr) (c : Nat) (l : List S44), v = .agg #[.int .u32 a0, .int .u32 a1, .slice A l.length c] ∧ Kd.C k44 w A l.length l ∧ l.length ≤ c ∧ c ≤ maxLen ∧ InR l ∧ (0 ≤ a0 ∧ a0 < 4294967296) ∧ 0 ≤ a1 ∧ a1 < 4294967296 := by
  obtain ⟨v0, v1, v2, y0, y1, y2, n, rfl, _, _, h0, h1, h2⟩ := open_agg3 Try.underlying25 (by kernel_rfl) (by kernel_rfl) hv h
  obtain ⟨n0, e0, _, w0⟩ := DataW.trod_int Try.underlying22 h0
  obtain ⟨n1, e1, _, w1⟩ := DataW.trod_int Try.underlying22 h1
  obtain rfl : v0 = .int .u32 n0 := by simpa using e0
  obtain rfl : v1 = .int .u32 n1 := by simpa using e1
  obtain ⟨A, c, l, rfl, hC, hlc, hcm, hr⟩ := open_spares h2
  exact ⟨n0, n1, A, c, l, rfl, hC, hlc, hcm, hr, bounds_u32 w0, bounds_u32 w1⟩
end
end Go.Proofs.YtnbmpcdomdaimaaQ
