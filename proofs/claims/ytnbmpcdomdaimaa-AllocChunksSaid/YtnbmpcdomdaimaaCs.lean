/- The statement AllocChunks: it answers true for every input, which reads as it did: no condition. -/
import Derived.Test.YtnbmpcdomdaimaaPuc
import Derived.Test.YtnbmpcdomdaimaaOpn
import Derived.Test.YtnbmpcdomdaimaaRows
import Derived.ProofKit
import Derived.OpenShut
import Derived.ShutString
import Derived.ChangeOld
namespace Go.Proofs.Ytnbmpcdomdaimaa
open Go.ChangeShapes Go.WideShapes Go.ChangeAt Go.RowKit Go.Proofs.YtnbmpcdomdaimaaQ Go.Proofs.YtnbmpcdomdaimaaQ.PA
open Go.ChangeMaps (open_string shut_string)
open Go.Proofs.YtnbmpcdomdaimaaW.PrintWords (Ev Kd)
set_option linter.unusedVariables false

section
variable {H : Type} {enc : TypeId × Value → H} {base : Nat} {spare : Nat → Bool} {held : Bool}
theorem chunks_walk {r : Reach} {b0 : Nat} {d0 : DataW H} {p0 : List MemPlace} {w : World} (n : Int) (wn : (Lit.int .u32 n).wf = true) (v0 : Value) (o0 : Value.okWide Try.prog w r b0 23 v0) (h0 : DataW.Trod enc Try.prog w base spare held 23 v0 d0 p0) (s : ByteArray) (ws : s.size ≤ maxLen) (w' : World) (hw : w' = w) :
    Calls Try.prog 9 #[.int .u32 n, v0, .string s] w' fun e w2 => e = .returned (.bool true) ∧ Below w'.heap.size w' w2 := by
  subst hw
  obtain ⟨A', n', c', rfl⟩ := okWide_slice Try.underlying23 o0
  obtain ⟨fuel, hf⟩ := h0
  obtain ⟨A, c, l, e, hC, hlc, hcm, hr⟩ := open_spares (v := .slice A' n' c') (by simpa [Value.cells] using hf)
  rw [e]
  have bp := bounds_u32 wn
  obtain ⟨k, hk⟩ := chunks_pure n l s bp.1 (by have := bp.2; omega) hr
  exact bazaarlaw05_AllocChunks.calls k n A c l s true _ hC hlc hk
end

set_option maxRecDepth 100000 in
theorem allocChunks_lifted (os : Os) (started : os.Started) (H : Type) (enc : TypeId × Value → H) :
    ReturnsInHanded {} Try.checked os 9 .any (Rows.allocChunksSpec.pre6 enc Try.prog Try.f9 Rows.allocChunksRow.domain false) (Rows.allocChunksSpec.post enc Try.prog Try.f9 false true false false) := by
  refine returnsInHanded_of_change (C := Try.checked) own started (by kernel_rfl) Try.func9
    (ChangeSpec.witness6 (enc := enc) (C := Try.checked) false ⟨#[], #[.int .u32 0, .slice none 0 0, .string ⟨#[]⟩], []⟩ 8 (by kernel_rfl) (by kernel_rfl) (by kernel_rfl) (by kernel_rfl)) ?_
  intro W base args ds gs before hval0 hW hcnd _
  have hval : ∀ (j : Nat) t v, Try.f9.params[j]? = some t → args[j]? = some v → Value.okWide Try.prog W .any base t v := hval0
  have hW' := hW
  obtain ⟨p, q, hA0, hV, rfl, hfz, hnd⟩ := hW
  have hA : DataW.TrodAll enc Try.prog W 0 (fun _ => true) true Try.f9.params.toList args.toList ds p := hA0
  rw [Try.params9] at hA hval
  obtain ⟨v0, vs0, d0, ds0, p0, q0, hargs, rfl, rfl, h0, r0⟩ := trodAll_cons hA
  obtain ⟨v1, vs1, d1, ds1, p1, q1, rfl, rfl, rfl, h1, r1⟩ := trodAll_cons r0
  obtain ⟨v2, vs2, d2, ds2, p2, q2, rfl, rfl, rfl, h2, r2⟩ := trodAll_cons r1
  obtain ⟨rfl, rfl, rfl⟩ := trodAll_nil r2
  obtain rfl : args = #[v0, v1, v2] := by cases args; simp_all
  obtain ⟨rfl, rfl⟩ := trodVars_none hV
  have k0 := h0
  have lt0 : ∀ x ∈ p0, x.block < W.heap.size := by obtain ⟨m, hm⟩ := k0; exact DataW.trod_lt m _ _ _ hm
  have k1 := h1
  have lt1 : ∀ x ∈ p1, x.block < W.heap.size := by obtain ⟨m, hm⟩ := k1; exact DataW.trod_lt m _ _ _ hm
  have k2 := h2
  have lt2 : ∀ x ∈ p2, x.block < W.heap.size := by obtain ⟨m, hm⟩ := k2; exact DataW.trod_lt m _ _ _ hm
  obtain ⟨a0, rfl, rfl, rfl, w0⟩ := open_int Try.underlying22 (hval 0 22 v0 rfl rfl) h0
  have o1 := hval 1 23 v1 rfl rfl
  obtain ⟨a2, rfl, rfl, rfl, w2⟩ := open_string Try.underlying9 (hval 2 9 v2 rfl rfl) h2
  clear hA0 hval0
  refine (chunks_walk a0 w0 v1 o1 h1 a2 w2 W rfl).mono fun e W' ⟨he, bel⟩ => ?_
  subst he
  exact ⟨_, rfl, _, _, _, [], _, [], hW', trodAll_mk1 (shut_bool Try.underlying4 _), (trodAll_cons_mk (Below.trod laidOut (by kernel_rfl) (of_decide_eq_true (by kernel_rfl)) k0 bel lt0) (trodAll_cons_mk (Below.trod laidOut (by kernel_rfl) (of_decide_eq_true (by kernel_rfl)) k1 bel lt1) (trodAll_cons_mk (Below.trod laidOut (by kernel_rfl) (of_decide_eq_true (by kernel_rfl)) k2 bel lt2) trodAll_mk0))), rfl, bel.frame _, fun h => by cases h⟩

theorem allocChunks_over : Rows.allocChunksRow.holds Try.pinned (OpenSpec.ofChange Rows.allocChunksSpec) :=
  OpenClaim.holds_of_wide 9 Try.f9 rfl rfl rfl rfl rfl rfl rfl ⟨rfl, rfl, rfl, rfl, rfl⟩ rfl rfl rfl rfl rfl (by kernel_rfl) Try.func9 (by kernel_rfl)
    (of_decide_eq_true (by kernel_rfl)) (by unfold Func.isWrapper; first | (rw [if_pos (by decide +kernel)]; kernel_rfl) | (rw [if_neg (by decide +kernel)]; exact ⟨rfl, rfl⟩))
    (fun os started H enc _ => allocChunks_lifted os started H enc)

/-- The statement. -/
theorem allocChunks_holds : Rows.AllocChunksSaid := allocChunks_over
#print axioms allocChunks_holds
end Go.Proofs.Ytnbmpcdomdaimaa
