/- CodecMakes is proved: no condition. -/
import Derived.Test.YtbjbadnkpeakcaaMs
import Derived.Test.YtbjbadnkpeakcaaRs
import Derived.Test.YtbjbadnkpeakcaaRi
namespace Go.Proofs.Ytbjbadnkpeakcaa
open Go.ChangeShapes Go.WideShapes Go.ChangeAt Go.RowKit
open Go.ChangeMaps (open_string shut_string)
set_option linter.unusedVariables false
set_option linter.unusedSimpArgs false


theorem parseReq_twin (s : ByteArray) : ∃ x0 x1 x2 x3 x4 x5 ev : Int,
    (∀ w, Calls Try.prog 11 #[.string s] w fun e w' => e = .returned (.tuple #[.agg #[.int .i64 x0, .int .u32 x1, .int .u32 x2, .int .u16 x3, .int .i64 x4, .int .i64 x5], .int .i64 ev]) ∧ Below w.heap.size w w') ∧
    (∀ w, Calls Try.prog 16 #[.string s] w fun e w' => e = .returned (.tuple #[.agg #[.int .i64 x0, .int .u32 x1, .int .u32 x2, .int .u16 x3, .int .i64 x4, .int .i64 x5], .int .i64 ev]) ∧ Below w.heap.size w w') := by
  by_cases h : s.size = 27
  · by_cases h0 : 1 ≤ numAt s 0 1
    · by_cases h1 : numAt s 0 1 ≤ 21
      · exact ⟨_, _, _, _, _, _, _, fun w => parseReq_ok s w h h0 h1, fun w => refParseReq_ok s w h h0 h1⟩
      · exact ⟨_, _, _, _, _, _, _, fun w => parseReq_op s w h (by omega), fun w => refParseReq_high s w h h0 (by omega)⟩
    · exact ⟨_, _, _, _, _, _, _, fun w => parseReq_op s w h (by omega), fun w => refParseReq_low s w h (by omega)⟩
  · exact ⟨_, _, _, _, _, _, _, fun w => parseReq_size s w h, fun w => refParseReq_size s w h⟩

theorem makes_raw {H : Type} {enc : TypeId × Value → H} {w : World} {base : Nat} {spare : Nat → Bool} {held : Bool} {r : Reach} {b0 : Nat} {d0 d1 : DataW H} {p0 p1 : List MemPlace}
    (v0 : Value) (o0 : Value.okWide Try.prog w r b0 31 v0) (h0 : DataW.Trod enc Try.prog w base spare held 31 v0 d0 p0)
    (v1 : Value) (o1 : Value.okWide Try.prog w r b0 36 v1) (h1 : DataW.Trod enc Try.prog w base spare held 36 v1 d1 p1) (s : ByteArray) (hs : s.size ≤ maxLen) (w1 : World) :
    Calls Try.prog 5 #[v0, v1, .string s] w1 fun r w' => r = .returned (.bool true) ∧ Below w1.heap.size w1 w' := by
  obtain ⟨op, a, b, it, n, m, rfl, k0, k1, k2, k3, k4, k5⟩ := command_open o0 h0
  obtain ⟨e, x, y, rfl, j0, j1, j2⟩ := answer_open o1 h1
  have q1 := bounds_u32 k1
  have q2 := bounds_u32 k2
  have q3 := bounds_u16 k3
  exact makes_walk op a b it n m e x y s hs (request_twin op a b it n m k0 (by omega) (by omega) (by omega)) parseReq_twin w1

set_option maxRecDepth 100000 in
theorem codecMakes_lifted (os : Os) (started : os.Started) (H : Type) (enc : TypeId × Value → H) :
    ReturnsInHanded {} Try.checked os 5 .any (Rows.codecMakesSpec.pre6 enc Try.prog Try.f5 Rows.codecMakesRow.domain false) (Rows.codecMakesSpec.post enc Try.prog Try.f5 false true false false) := by
  refine returnsInHanded_of_change (C := Try.checked) own started (by kernel_rfl) Try.func5
    (ChangeSpec.witness6 (enc := enc) (C := Try.checked) false ⟨#[], #[.agg #[.int .i64 0, .int .u32 0, .int .u32 0, .int .u16 0, .int .i64 0, .int .i64 0], .agg #[.int .i64 0, .int .i64 0, .int .i64 0], .string ⟨#[]⟩], []⟩ 8 (by kernel_rfl) (by kernel_rfl) (by kernel_rfl) (by kernel_rfl)) ?_
  intro W base args ds gs before hval0 hW hcnd _
  have hval : ∀ (j : Nat) t v, Try.f5.params[j]? = some t → args[j]? = some v → Value.okWide Try.prog W .any base t v := hval0
  have hW' := hW
  obtain ⟨p, q, hA0, hV, rfl, hfz, hnd⟩ := hW
  have hA : DataW.TrodAll enc Try.prog W 0 (fun _ => true) true Try.f5.params.toList args.toList ds p := hA0
  rw [Try.params5] at hA hval
  obtain ⟨v0, vs0, d0, ds0, p0, q0, hargs, rfl, rfl, h0, r0⟩ := trodAll_cons hA
  obtain ⟨v1, vs1, d1, ds1, p1, q1, rfl, rfl, rfl, h1, r1⟩ := trodAll_cons r0
  obtain ⟨v2, vs2, d2, ds2, p2, q2, rfl, rfl, rfl, h2, r2⟩ := trodAll_cons r1
  obtain ⟨rfl, rfl, rfl⟩ := trodAll_nil r2
  obtain rfl : args = #[v0, v1, v2] := by cases args; simp_all
  obtain ⟨rfl, rfl⟩ := trodVars_none hV
  have k0 := h0
  have lt0 : ∀ x ∈ p0, x.block < W.heap.size := by obtain ⟨m, hm⟩ := k0; exact DataW.trod_lt m _ _ _ hm
  have k1 := h1
  have lt1 : ∀ x ∈ p1, x.block < W.heap.size := by obtain ⟨m, hm⟩ := k1; exact DataW.trod_lt m _ _ _ hm
  have k2 := h2
  have lt2 : ∀ x ∈ p2, x.block < W.heap.size := by obtain ⟨m, hm⟩ := k2; exact DataW.trod_lt m _ _ _ hm
  have o0 := hval 0 31 v0 rfl rfl
  have o1 := hval 1 36 v1 rfl rfl
  obtain ⟨a2, rfl, rfl, rfl, w2⟩ := open_string Try.underlying9 (hval 2 9 v2 rfl rfl) h2
  clear hA0 hval0
  refine (makes_raw v0 o0 h0 v1 o1 h1 a2 w2 W).mono fun e W' ⟨he, bel⟩ => ?_
  subst he
  exact ⟨_, rfl, _, _, _, [], _, [], hW', trodAll_mk1 (shut_bool Try.underlying4 _), (trodAll_cons_mk (Below.trod laidOut (by kernel_rfl) (of_decide_eq_true (by kernel_rfl)) k0 bel lt0) (trodAll_cons_mk (Below.trod laidOut (by kernel_rfl) (of_decide_eq_true (by kernel_rfl)) k1 bel lt1) (trodAll_cons_mk (Below.trod laidOut (by kernel_rfl) (of_decide_eq_true (by kernel_rfl)) k2 bel lt2) trodAll_mk0))), rfl, bel.frame _, fun h => by cases h⟩

theorem codecMakes_over : Rows.codecMakesRow.holds Try.pinned (OpenSpec.ofChange Rows.codecMakesSpec) :=
  OpenClaim.holds_of_wide 5 Try.f5 rfl rfl rfl rfl rfl rfl rfl ⟨rfl, rfl, rfl, rfl, rfl⟩ rfl rfl rfl rfl rfl (by kernel_rfl) Try.func5 (by kernel_rfl)
    (of_decide_eq_true (by kernel_rfl)) (by unfold Func.isWrapper; first | (rw [if_pos (by decide +kernel)]; kernel_rfl) | (rw [if_neg (by decide +kernel)]; exact ⟨rfl, rfl⟩))
    (fun os started H enc _ => codecMakes_lifted os started H enc)

/-- The statement. -/
theorem codecMakes_holds : Rows.CodecMakesSaid := codecMakes_over

#print axioms codecMakes_holds
end Go.Proofs.Ytbjbadnkpeakcaa
