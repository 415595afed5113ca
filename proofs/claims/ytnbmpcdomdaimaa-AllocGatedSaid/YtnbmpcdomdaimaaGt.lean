/- The statement AllocGated: it answers true for every input, which reads as it did: no condition. -/
import Derived.Test.YtnbmpcdomdaimaaPu
import Derived.Test.YtnbmpcdomdaimaaOpn
import Derived.Test.YtnbmpcdomdaimaaRows
import Derived.ProofKit
import Derived.OpenShut
import Derived.ShutString
import Derived.ChangeOld
namespace Go.Proofs.Ytnbmpcdomdaimaa
open Go.ChangeShapes Go.WideShapes Go.ChangeAt Go.RowKit Go.Proofs.YtnbmpcdomdaimaaQ Go.Proofs.YtnbmpcdomdaimaaQ.PA
open Go.ChangeMaps (open_string shut_string)
open Go.Proofs.YtnbmpcdomdaimaaW.PrintWords (Ev Kd)
set_option linter.unusedVariables false

section
variable {H : Type} {enc : TypeId × Value → H} {base : Nat} {spare : Nat → Bool} {held : Bool}
theorem gated_walk {r : Reach} {b0 : Nat} {d0 : DataW H} {p0 : List MemPlace} {w : World} (v0 : Value) (o0 : Value.okWide Try.prog w r b0 25 v0) (h0 : DataW.Trod enc Try.prog w base spare held 25 v0 d0 p0) (n : Int) (wn : (Lit.int .u64 n).wf = true) (w' : World) (hw : w' = w) :
    Calls Try.prog 5 #[v0, .int .u64 n] w' fun e w2 => e = .returned (.bool true) ∧ Below w'.heap.size w' w2 := by
  subst hw
  obtain ⟨a0, a1, A, c, l, rfl, hC, hlc, hcm, hr, ⟨g0, g1⟩, g2, g3⟩ := open_alloc o0 h0
  have hn := bounds_u64 wn
  have hmx : maxLen = 9223372036854775807 := rfl
  obtain ⟨k, hk⟩ := gated_pure a0 a1 l n ⟨g0, g1, g2, g3, fun s hs => ⟨(hr s hs).1, (hr s hs).2.1, (hr s hs).2.2.1⟩, by omega⟩ hn.1
  exact bazaarlaw05_AllocGated.calls k a0 a1 A c l n true _ hC hlc hk
end

set_option maxRecDepth 100000 in
theorem allocGated_lifted (os : Os) (started : os.Started) (H : Type) (enc : TypeId × Value → H) :
    ReturnsInHanded {} Try.checked os 5 .any (Rows.allocGatedSpec.pre6 enc Try.prog Try.f5 Rows.allocGatedRow.domain false) (Rows.allocGatedSpec.post enc Try.prog Try.f5 false true false false) := by
  refine returnsInHanded_of_change (C := Try.checked) own started (by kernel_rfl) Try.func5
    (ChangeSpec.witness6 (enc := enc) (C := Try.checked) false ⟨#[], #[.agg #[.int .u32 0, .int .u32 0, .slice none 0 0], .int .u64 0], []⟩ 8 (by kernel_rfl) (by kernel_rfl) (by kernel_rfl) (by kernel_rfl)) ?_
  intro W base args ds gs before hval0 hW hcnd _
  have hval : ∀ (j : Nat) t v, Try.f5.params[j]? = some t → args[j]? = some v → Value.okWide Try.prog W .any base t v := hval0
  have hW' := hW
  obtain ⟨p, q, hA0, hV, rfl, hfz, hnd⟩ := hW
  have hA : DataW.TrodAll enc Try.prog W 0 (fun _ => true) true Try.f5.params.toList args.toList ds p := hA0
  rw [Try.params5] at hA hval
  obtain ⟨v0, vs0, d0, ds0, p0, q0, hargs, rfl, rfl, h0, r0⟩ := trodAll_cons hA
  obtain ⟨v1, vs1, d1, ds1, p1, q1, rfl, rfl, rfl, h1, r1⟩ := trodAll_cons r0
  obtain ⟨rfl, rfl, rfl⟩ := trodAll_nil r1
  obtain rfl : args = #[v0, v1] := by cases args; simp_all
  obtain ⟨rfl, rfl⟩ := trodVars_none hV
  have k0 := h0
  have lt0 : ∀ x ∈ p0, x.block < W.heap.size := by obtain ⟨m, hm⟩ := k0; exact DataW.trod_lt m _ _ _ hm
  have k1 := h1
  have lt1 : ∀ x ∈ p1, x.block < W.heap.size := by obtain ⟨m, hm⟩ := k1; exact DataW.trod_lt m _ _ _ hm
  have o0 := hval 0 25 v0 rfl rfl
  obtain ⟨a1, rfl, rfl, rfl, w1⟩ := open_int Try.underlying26 (hval 1 26 v1 rfl rfl) h1
  clear hA0 hval0
  refine (gated_walk v0 o0 h0 a1 w1 W rfl).mono fun e W' ⟨he, bel⟩ => ?_
  subst he
  exact ⟨_, rfl, _, _, _, [], _, [], hW', trodAll_mk1 (shut_bool Try.underlying4 _), (trodAll_cons_mk (Below.trod laidOut (by kernel_rfl) (of_decide_eq_true (by kernel_rfl)) k0 bel lt0) (trodAll_cons_mk (Below.trod laidOut (by kernel_rfl) (of_decide_eq_true (by kernel_rfl)) k1 bel lt1) trodAll_mk0)), rfl, bel.frame _, fun h => by cases h⟩

theorem allocGated_over : Rows.allocGatedRow.holds Try.pinned (OpenSpec.ofChange Rows.allocGatedSpec) :=
  OpenClaim.holds_of_wide 5 Try.f5 rfl rfl rfl rfl rfl rfl rfl ⟨rfl, rfl, rfl, rfl, rfl⟩ rfl rfl rfl rfl rfl (by kernel_rfl) Try.func5 (by kernel_rfl)
    (of_decide_eq_true (by kernel_rfl)) (by unfold Func.isWrapper; first | (rw [if_pos (by decide +kernel)]; kernel_rfl) | (rw [if_neg (by decide +kernel)]; exact ⟨rfl, rfl⟩))
    (fun os started H enc _ => allocGated_lifted os started H enc)

/-- The statement. -/
theorem allocGated_holds : Rows.AllocGatedSaid := allocGated_over
#print axioms allocGated_holds
end Go.Proofs.Ytnbmpcdomdaimaa
