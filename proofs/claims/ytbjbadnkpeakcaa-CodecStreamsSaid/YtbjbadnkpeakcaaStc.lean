/- CodecStreams is proved: no condition. -/
import Derived.Test.YtbjbadnkpeakcaaStw
import Derived.Test.YtbjbadnkpeakcaaRow
import Derived.SliceStrings
namespace Go.Proofs.Ytbjbadnkpeakcaa
open Go.ChangeShapes Go.WideShapes Go.ChangeAt Go.RowKit
open Go.ChangeMaps (open_string shut_string)
set_option linter.unusedVariables false
set_option linter.unusedSimpArgs false

theorem cells9 : Try.prog.cellsOf 9 = 1 := by kernel_rfl

theorem read_text {w : World} {a : Addr} {ss : List ByteArray} (hcell : ∀ i, i < ss.length → w.cell? (a.add i) = some (.string (ss.getD i ByteArray.empty))) (hws : ∀ s ∈ ss, s.size ≤ maxLen) (i : Nat) (hi : i < ss.length) (a' : Addr) (ha : a' = a) :
    ∃ b x, some a = some b ∧ w.cell? (b.add i) = some (.string x) ∧ x.size ≤ maxLen ∧ b.block < w.heap.size := by
  refine ⟨a, ss.getD i ByteArray.empty, rfl, hcell i hi, ?_, ?_⟩
  · rw [List.getD_eq_getElem?_getD, List.getElem?_eq_getElem hi]
    exact hws _ (List.getElem_mem hi)
  · have hc := hcell i hi
    apply Classical.byContradiction
    intro hn
    have e : (a.add i).block = a.block := by unfold Addr.add; split <;> rfl
    have : w.heap[(a.add i).block]? = none := Array.getElem?_eq_none (by omega)
    simp [World.cell?, this] at hc

theorem streams_raw {H : Type} {enc : TypeId × Value → H} {w : World} {base : Nat} {spare : Nat → Bool} {held : Bool} {r : Reach} {b0 : Nat} {d0 : DataW H} {p0 : List MemPlace}
    (v0 : Value) (o0 : Value.okWide Try.prog w r b0 43 v0) (h0 : DataW.Trod enc Try.prog w base spare held 43 v0 d0 p0) (n : Int) (wn : (Lit.int .i64 n).wf = true) :
    Calls Try.prog 8 #[v0, .int .i64 n] w fun r w' => r = .returned (.bool true) ∧ Below w.heap.size w w' := by
  obtain ⟨fuel, hf⟩ := h0
  obtain ⟨sb, sl, sc', rfl⟩ := okWide_slice Try.underlying43 o0
  have hf' : DataW.trod enc Try.prog w base spare held fuel 43 [.slice sb sl sc'] = some (d0, p0) := hf
  rcases open_strings Try.underlying43 Try.underlying9 cells9 hf' with ⟨hcs, _⟩ | ⟨a, len, cap, ss, hcs, _, hlc, hcm, hlen, hx, hcell, hws⟩
  · simp only [List.cons.injEq, Value.slice.injEq, and_true] at hcs
    obtain ⟨rfl, rfl, rfl⟩ := hcs
    exact streams_walk none 0 0 n w (by omega) (bounds_i64 wn) (Lib.hid (fun i hi => absurd hi (by omega)))
  · simp only [List.cons.injEq, Value.slice.injEq, and_true] at hcs
    obtain ⟨rfl, rfl, rfl⟩ := hcs
    have hle : sl ≤ ss.length := by rw [hlen]; split <;> omega
    exact streams_walk (some a) sl sc' n w (by omega) (bounds_i64 wn) (Lib.hid (fun i hi => read_text hcell hws i (by omega) a rfl))

set_option maxRecDepth 100000 in
theorem codecStreams_lifted (os : Os) (started : os.Started) (H : Type) (enc : TypeId × Value → H) :
    ReturnsInHanded {} Try.checked os 8 .any (Rows.codecStreamsSpec.pre6 enc Try.prog Try.f8 Rows.codecStreamsRow.domain false) (Rows.codecStreamsSpec.post enc Try.prog Try.f8 false true false false) := by
  refine returnsInHanded_of_change (C := Try.checked) own started (by kernel_rfl) Try.func8
    (ChangeSpec.witness6 (enc := enc) (C := Try.checked) false ⟨#[], #[.slice none 0 0, .int .i64 0], []⟩ 8 (by kernel_rfl) (by kernel_rfl) (by kernel_rfl) (by kernel_rfl)) ?_
  intro W base args ds gs before hval0 hW hcnd _
  have hval : ∀ (j : Nat) t v, Try.f8.params[j]? = some t → args[j]? = some v → Value.okWide Try.prog W .any base t v := hval0
  have hW' := hW
  obtain ⟨p, q, hA0, hV, rfl, hfz, hnd⟩ := hW
  have hA : DataW.TrodAll enc Try.prog W 0 (fun _ => true) true Try.f8.params.toList args.toList ds p := hA0
  rw [Try.params8] at hA hval
  obtain ⟨v0, vs0, d0, ds0, p0, q0, hargs, rfl, rfl, h0, r0⟩ := trodAll_cons hA
  obtain ⟨v1, vs1, d1, ds1, p1, q1, rfl, rfl, rfl, h1, r1⟩ := trodAll_cons r0
  obtain ⟨rfl, rfl, rfl⟩ := trodAll_nil r1
  obtain rfl : args = #[v0, v1] := by cases args; simp_all
  obtain ⟨rfl, rfl⟩ := trodVars_none hV
  have k0 := h0
  have lt0 : ∀ x ∈ p0, x.block < W.heap.size := by obtain ⟨m, hm⟩ := k0; exact DataW.trod_lt m _ _ _ hm
  have k1 := h1
  have lt1 : ∀ x ∈ p1, x.block < W.heap.size := by obtain ⟨m, hm⟩ := k1; exact DataW.trod_lt m _ _ _ hm
  have o0 := hval 0 43 v0 rfl rfl
  obtain ⟨a1, rfl, rfl, rfl, w1⟩ := open_int Try.underlying3 (hval 1 3 v1 rfl rfl) h1
  clear hA0 hval0
  refine (streams_raw v0 o0 h0 a1 w1).mono fun e W' ⟨he, bel⟩ => ?_
  subst he
  exact ⟨_, rfl, _, _, _, [], _, [], hW', trodAll_mk1 (shut_bool Try.underlying4 _), (trodAll_cons_mk (Below.trod laidOut (by kernel_rfl) (of_decide_eq_true (by kernel_rfl)) k0 bel lt0) (trodAll_cons_mk (Below.trod laidOut (by kernel_rfl) (of_decide_eq_true (by kernel_rfl)) k1 bel lt1) trodAll_mk0)), rfl, bel.frame _, fun h => by cases h⟩

theorem codecStreams_over : Rows.codecStreamsRow.holds Try.pinned (OpenSpec.ofChange Rows.codecStreamsSpec) :=
  OpenClaim.holds_of_wide 8 Try.f8 rfl rfl rfl rfl rfl rfl rfl ⟨rfl, rfl, rfl, rfl, rfl⟩ rfl rfl rfl rfl rfl (by kernel_rfl) Try.func8 (by kernel_rfl)
    (of_decide_eq_true (by kernel_rfl)) (by unfold Func.isWrapper; first | (rw [if_pos (by decide +kernel)]; kernel_rfl) | (rw [if_neg (by decide +kernel)]; exact ⟨rfl, rfl⟩))
    (fun os started H enc _ => codecStreams_lifted os started H enc)

/-- The statement. -/
theorem codecStreams_holds : Rows.CodecStreamsSaid := codecStreams_over

#print axioms codecStreams_holds
end Go.Proofs.Ytbjbadnkpeakcaa
