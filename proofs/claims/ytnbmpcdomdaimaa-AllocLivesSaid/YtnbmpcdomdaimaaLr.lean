/- The statement AllocLives: it answers true for every input, which reads as it did: no condition. -/
import Derived.Test.YtnbmpcdomdaimaaLv
import Derived.Test.YtnbmpcdomdaimaaOpn
import Derived.Test.YtnbmpcdomdaimaaRows
import Derived.ProofKit
import Derived.OpenShut
import Derived.ShutString
import Derived.ChangeOld
namespace Go.Proofs.Ytnbmpcdomdaimaa
open Go.ChangeShapes Go.WideShapes Go.ChangeAt Go.RowKit Go.Proofs.YtnbmpcdomdaimaaQ Go.Proofs.YtnbmpcdomdaimaaQ.PA
open Go.ChangeMaps (open_string shut_string)
open Go.Proofs.YtnbmpcdomdaimaaW.PrintWords (Ev Kd)
set_option linter.unusedVariables false

section
variable {H : Type} {enc : TypeId × Value → H} {base : Nat} {spare : Nat → Bool} {held : Bool}
theorem open_acts {w : World} {fuel : Nat} {v : Value} {x : DataW H × List MemPlace} (h : DataW.trod enc Try.prog w base spare held fuel 37 [v] = some x) :
    ∃ (A : Option Addr) (n c : Nat), v = .slice A n c ∧ ActRow w A n := by
  rcases open_slice_fields Try.underlying37 Try.underlying40 (by kernel_rfl) (by kernel_rfl) h with ⟨hcs, _⟩ | ⟨a, len, cap, m, D, Pl, hcs, hb, hl, hm, hmm, hx, hi⟩
  · obtain rfl : v = .slice none 0 0 := by simpa using hcs
    exact ⟨none, 0, 0, rfl, .inl rfl⟩
  · obtain rfl : v = .slice (some a) len cap := by simpa using hcs
    have hlm : len ≤ m := by rw [hmm]; split <;> omega
    refine ⟨some a, len, cap, rfl, .inr ⟨a, rfl, fun i hlt => ?_⟩⟩
    obtain ⟨ys, n, _, _, _, hf⟩ := hi i (by omega)
    obtain ⟨v0, y0, hc0, _, h0⟩ := hf 0 _ rfl
    obtain ⟨v1, y1, hc1, _, h1⟩ := hf 1 _ rfl
    obtain ⟨v2, y2, hc2, _, h2⟩ := hf 2 _ rfl
    obtain ⟨n0, e0, _, w0⟩ := DataW.trod_int Try.underlying3 h0
    obtain ⟨n1, e1, _, w1⟩ := DataW.trod_int Try.underlying26 h1
    obtain ⟨n2, e2, _, w2⟩ := DataW.trod_int Try.underlying3 h2
    obtain rfl : v0 = .int .i64 n0 := by simpa using e0
    obtain rfl : v1 = .int .u64 n1 := by simpa using e1
    obtain rfl : v2 = .int .i64 n2 := by simpa using e2
    refine ⟨n0, n1, n2, hc0, ?_, ?_, (Go.Proofs.YtnbmpcdomdaimaaQ.bounds_u64 w1).1⟩
    · rw [← Go.Proofs.YtnbmpcdomdaimaaW.PrintWords.add_field _ _ 1 (by omega)]; exact hc1
    · rw [← Go.Proofs.YtnbmpcdomdaimaaW.PrintWords.add_field _ _ 2 (by omega)]; exact hc2

theorem lives_walk {r : Reach} {b0 : Nat} {d0 : DataW H} {p0 : List MemPlace} {w : World} (n : Int) (wn : (Lit.int .u32 n).wf = true) (v0 : Value) (o0 : Value.okWide Try.prog w r b0 37 v0) (h0 : DataW.Trod enc Try.prog w base spare held 37 v0 d0 p0) (w' : World) (hw : w' = w) :
    Calls Try.prog 4 #[.int .u32 n, v0] w' fun e w2 => e = .returned (.bool true) ∧ Below w'.heap.size w' w2 := by
  subst hw
  by_cases h : n < 2 ∨ 200 < n
  · exact lives_out n v0 _ h
  · obtain ⟨A', n', c', rfl⟩ := okWide_slice Try.underlying37 o0
    obtain ⟨fuel, hf⟩ := h0
    obtain ⟨A, k, c, e, hr⟩ := open_acts (v := .slice A' n' c') (by simpa [Value.cells] using hf)
    rw [e]
    obtain ⟨m, rfl⟩ := Int.eq_ofNat_of_zero_le (show 0 ≤ n by omega)
    exact lives_in m A k c _ (by omega) (by omega) hr
end

set_option maxRecDepth 100000 in
theorem allocLives_lifted (os : Os) (started : os.Started) (H : Type) (enc : TypeId × Value → H) :
    ReturnsInHanded {} Try.checked os 4 .any (Rows.allocLivesSpec.pre6 enc Try.prog Try.f4 Rows.allocLivesRow.domain false) (Rows.allocLivesSpec.post enc Try.prog Try.f4 false true false false) := by
  refine returnsInHanded_of_change (C := Try.checked) own started (by kernel_rfl) Try.func4
    (ChangeSpec.witness6 (enc := enc) (C := Try.checked) false ⟨#[], #[.int .u32 0, .slice none 0 0], []⟩ 8 (by kernel_rfl) (by kernel_rfl) (by kernel_rfl) (by kernel_rfl)) ?_
  intro W base args ds gs before hval0 hW hcnd _
  have hval : ∀ (j : Nat) t v, Try.f4.params[j]? = some t → args[j]? = some v → Value.okWide Try.prog W .any base t v := hval0
  have hW' := hW
  obtain ⟨p, q, hA0, hV, rfl, hfz, hnd⟩ := hW
  have hA : DataW.TrodAll enc Try.prog W 0 (fun _ => true) true Try.f4.params.toList args.toList ds p := hA0
  rw [Try.params4] at hA hval
  obtain ⟨v0, vs0, d0, ds0, p0, q0, hargs, rfl, rfl, h0, r0⟩ := trodAll_cons hA
  obtain ⟨v1, vs1, d1, ds1, p1, q1, rfl, rfl, rfl, h1, r1⟩ := trodAll_cons r0
  obtain ⟨rfl, rfl, rfl⟩ := trodAll_nil r1
  obtain rfl : args = #[v0, v1] := by cases args; simp_all
  obtain ⟨rfl, rfl⟩ := trodVars_none hV
  have k0 := h0
  have lt0 : ∀ x ∈ p0, x.block < W.heap.size := by obtain ⟨m, hm⟩ := k0; exact DataW.trod_lt m _ _ _ hm
  have k1 := h1
  have lt1 : ∀ x ∈ p1, x.block < W.heap.size := by obtain ⟨m, hm⟩ := k1; exact DataW.trod_lt m _ _ _ hm
  obtain ⟨a0, rfl, rfl, rfl, w0⟩ := open_int Try.underlying22 (hval 0 22 v0 rfl rfl) h0
  have o1 := hval 1 37 v1 rfl rfl
  clear hA0 hval0
  refine (lives_walk a0 w0 v1 o1 h1 W rfl).mono fun e W' ⟨he, bel⟩ => ?_
  subst he
  exact ⟨_, rfl, _, _, _, [], _, [], hW', trodAll_mk1 (shut_bool Try.underlying4 _), (trodAll_cons_mk (Below.trod laidOut (by kernel_rfl) (of_decide_eq_true (by kernel_rfl)) k0 bel lt0) (trodAll_cons_mk (Below.trod laidOut (by kernel_rfl) (of_decide_eq_true (by kernel_rfl)) k1 bel lt1) trodAll_mk0)), rfl, bel.frame _, fun h => by cases h⟩

theorem allocLives_over : Rows.allocLivesRow.holds Try.pinned (OpenSpec.ofChange Rows.allocLivesSpec) :=
  OpenClaim.holds_of_wide 4 Try.f4 rfl rfl rfl rfl rfl rfl rfl ⟨rfl, rfl, rfl, rfl, rfl⟩ rfl rfl rfl rfl rfl (by kernel_rfl) Try.func4 (by kernel_rfl)
    (of_decide_eq_true (by kernel_rfl)) (by unfold Func.isWrapper; first | (rw [if_pos (by decide +kernel)]; kernel_rfl) | (rw [if_neg (by decide +kernel)]; exact ⟨rfl, rfl⟩))
    (fun os started H enc _ => allocLives_lifted os started H enc)

/-- The statement. -/
theorem allocLives_holds : Rows.AllocLivesSaid := allocLives_over
#print axioms allocLives_holds
end Go.Proofs.Ytnbmpcdomdaimaa
