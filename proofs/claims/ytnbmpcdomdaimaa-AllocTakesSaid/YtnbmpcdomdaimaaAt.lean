/- The statement AllocTakes: it answers true for every input, which reads as it did: no condition. -/
import Derived.Test.YtnbmpcdomdaimaaTks
import Derived.Test.YtnbmpcdomdaimaaPut
import Derived.Test.YtnbmpcdomdaimaaOpn
import Derived.Test.YtnbmpcdomdaimaaRows
import Derived.ProofKit
import Derived.OpenShut
import Derived.ShutString
import Derived.ChangeOld
namespace Go.Proofs.Ytnbmpcdomdaimaa
open Go.ChangeShapes Go.WideShapes Go.ChangeAt Go.RowKit Go.Proofs.YtnbmpcdomdaimaaQ Go.Proofs.YtnbmpcdomdaimaaQ.PA
open Go.ChangeMaps (open_string shut_string)
open Go.Proofs.YtnbmpcdomdaimaaW.PrintWords (Ev Kd)
set_option linter.unusedVariables false

section
variable {H : Type} {enc : TypeId × Value → H} {base : Nat} {spare : Nat → Bool} {held : Bool}
theorem takes_walk {r : Reach} {b0 : Nat} {d0 : DataW H} {p0 : List MemPlace} {w : World} (v0 : Value) (o0 : Value.okWide Try.prog w r b0 25 v0) (h0 : DataW.Trod enc Try.prog w base spare held 25 v0 d0 p0) (o : Int) (wo : (Lit.int .u64 o).wf = true) (p : Int) (wp : (Lit.int .u32 p).wf = true) (t : Int) (wt : (Lit.int .u64 t).wf = true) (w' : World) (hw : w' = w) :
    Calls Try.prog 3 #[v0, .int .u64 o, .int .u32 p, .int .u64 t] w' fun e w2 => e = .returned (.bool true) ∧ Below w'.heap.size w' w2 := by
  subst hw
  obtain ⟨a0, a1, A, c, l, rfl, hC, hlc, hcm, hr, ⟨g0, g1⟩, g2, g3⟩ := open_alloc o0 h0
  have hmx : maxLen = 9223372036854775807 := rfl
  have bo := bounds_u64 wo
  have bp := bounds_u32 wp
  have bt := bounds_u64 wt
  obtain ⟨k, R, r1, r2, r3, r4, r5, q1, q2, q3, q4, h1, h2, h3, h4, h5, h6, h7, h8, h9⟩ := takes_pure (a0 := a0) (a1 := a1) (l0 := l) ⟨g0, g1, g2, g3, fun s hs => ⟨(hr s hs).1, (hr s hs).2.1, (hr s hs).2.2.1⟩, by omega⟩ (o := o) (p := p) (t := t) bo.1 bp.1 (by have := bp.2; omega) bt.1
  exact takes_any k a0.toNat a1 A c l (l.take 4100) o p t R a0 r1 r2 r3 r4 r5 q1 q2 q3 q4 _ hC hlc (Int.toNat_of_nonneg g0) h1 h2 h3 h4 h5 h6 h7 h8 h9
end

set_option maxRecDepth 100000 in
theorem allocTakes_lifted (os : Os) (started : os.Started) (H : Type) (enc : TypeId × Value → H) :
    ReturnsInHanded {} Try.checked os 3 .any (Rows.allocTakesSpec.pre6 enc Try.prog Try.f3 Rows.allocTakesRow.domain false) (Rows.allocTakesSpec.post enc Try.prog Try.f3 false true false false) := by
  refine returnsInHanded_of_change (C := Try.checked) own started (by kernel_rfl) Try.func3
    (ChangeSpec.witness6 (enc := enc) (C := Try.checked) false ⟨#[], #[.agg #[.int .u32 0, .int .u32 0, .slice none 0 0], .int .u64 0, .int .u32 0, .int .u64 0], []⟩ 8 (by kernel_rfl) (by kernel_rfl) (by kernel_rfl) (by kernel_rfl)) ?_
  intro W base args ds gs before hval0 hW hcnd _
  have hval : ∀ (j : Nat) t v, Try.f3.params[j]? = some t → args[j]? = some v → Value.okWide Try.prog W .any base t v := hval0
  have hW' := hW
  obtain ⟨p, q, hA0, hV, rfl, hfz, hnd⟩ := hW
  have hA : DataW.TrodAll enc Try.prog W 0 (fun _ => true) true Try.f3.params.toList args.toList ds p := hA0
  rw [Try.params3] at hA hval
  obtain ⟨v0, vs0, d0, ds0, p0, q0, hargs, rfl, rfl, h0, r0⟩ := trodAll_cons hA
  obtain ⟨v1, vs1, d1, ds1, p1, q1, rfl, rfl, rfl, h1, r1⟩ := trodAll_cons r0
  obtain ⟨v2, vs2, d2, ds2, p2, q2, rfl, rfl, rfl, h2, r2⟩ := trodAll_cons r1
  obtain ⟨v3, vs3, d3, ds3, p3, q3, rfl, rfl, rfl, h3, r3⟩ := trodAll_cons r2
  obtain ⟨rfl, rfl, rfl⟩ := trodAll_nil r3
  obtain rfl : args = #[v0, v1, v2, v3] := by cases args; simp_all
  obtain ⟨rfl, rfl⟩ := trodVars_none hV
  have k0 := h0
  have lt0 : ∀ x ∈ p0, x.block < W.heap.size := by obtain ⟨m, hm⟩ := k0; exact DataW.trod_lt m _ _ _ hm
  have k1 := h1
  have lt1 : ∀ x ∈ p1, x.block < W.heap.size := by obtain ⟨m, hm⟩ := k1; exact DataW.trod_lt m _ _ _ hm
  have k2 := h2
  have lt2 : ∀ x ∈ p2, x.block < W.heap.size := by obtain ⟨m, hm⟩ := k2; exact DataW.trod_lt m _ _ _ hm
  have k3 := h3
  have lt3 : ∀ x ∈ p3, x.block < W.heap.size := by obtain ⟨m, hm⟩ := k3; exact DataW.trod_lt m _ _ _ hm
  have o0 := hval 0 25 v0 rfl rfl
  obtain ⟨a1, rfl, rfl, rfl, w1⟩ := open_int Try.underlying26 (hval 1 26 v1 rfl rfl) h1
  obtain ⟨a2, rfl, rfl, rfl, w2⟩ := open_int Try.underlying22 (hval 2 22 v2 rfl rfl) h2
  obtain ⟨a3, rfl, rfl, rfl, w3⟩ := open_int Try.underlying26 (hval 3 26 v3 rfl rfl) h3
  clear hA0 hval0
  refine (takes_walk v0 o0 h0 a1 w1 a2 w2 a3 w3 W rfl).mono fun e W' ⟨he, bel⟩ => ?_
  subst he
  exact ⟨_, rfl, _, _, _, [], _, [], hW', trodAll_mk1 (shut_bool Try.underlying4 _), (trodAll_cons_mk (Below.trod laidOut (by kernel_rfl) (of_decide_eq_true (by kernel_rfl)) k0 bel lt0) (trodAll_cons_mk (Below.trod laidOut (by kernel_rfl) (of_decide_eq_true (by kernel_rfl)) k1 bel lt1) (trodAll_cons_mk (Below.trod laidOut (by kernel_rfl) (of_decide_eq_true (by kernel_rfl)) k2 bel lt2) (trodAll_cons_mk (Below.trod laidOut (by kernel_rfl) (of_decide_eq_true (by kernel_rfl)) k3 bel lt3) trodAll_mk0)))), rfl, bel.frame _, fun h => by cases h⟩

theorem allocTakes_over : Rows.allocTakesRow.holds Try.pinned (OpenSpec.ofChange Rows.allocTakesSpec) :=
  OpenClaim.holds_of_wide 3 Try.f3 rfl rfl rfl rfl rfl rfl rfl ⟨rfl, rfl, rfl, rfl, rfl⟩ rfl rfl rfl rfl rfl (by kernel_rfl) Try.func3 (by kernel_rfl)
    (of_decide_eq_true (by kernel_rfl)) (by unfold Func.isWrapper; first | (rw [if_pos (by decide +kernel)]; kernel_rfl) | (rw [if_neg (by decide +kernel)]; exact ⟨rfl, rfl⟩))
    (fun os started H enc _ => allocTakes_lifted os started H enc)

/-- The statement. -/
theorem allocTakes_holds : Rows.AllocTakesSaid := allocTakes_over
#print axioms allocTakes_holds
end Go.Proofs.Ytnbmpcdomdaimaa
