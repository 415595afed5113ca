/- CodecSplits is proved: no condition. -/
import Derived.Test.YtbjbadnkpeakcaaSpp
import Derived.Test.YtbjbadnkpeakcaaTw
namespace Go.Proofs.Ytbjbadnkpeakcaa
open Go.ChangeShapes Go.WideShapes Go.ChangeAt Go.RowKit
open Go.ChangeMaps (open_string shut_string)
set_option linter.unusedVariables false
set_option linter.unusedSimpArgs false

theorem splits_length {s : ByteArray} {l : List ByteArray} {r : ByteArray} {e : Int} (h : SplitsTo s l r e) : l.length ≤ s.size := by
  induction h with
  | short => simp
  | bad => simp
  | part => simp
  | more s l r e h2 h0 h1 h3 _ ih =>
    rw [ByteArray.size_extract] at ih
    simp only [List.length_cons]
    omega

set_option maxHeartbeats 2000000 in
set_option maxRecDepth 100000 in
theorem splits_walk (s : ByteArray) (hs : s.size ≤ maxLen) (st : ByteArray) (hst : st.size ≤ maxLen) (w : World) : Calls Try.prog 7 #[.string s, .string st] w fun r w' => r = .returned (.bool true) ∧ Below w.heap.size w w' := by
  obtain ⟨a, ha⟩ : ∃ a, s.extract 0 (min (s.size : Int) 200).toNat = a := ⟨_, rfl⟩
  obtain ⟨b, hb⟩ : ∃ b, st.extract 0 (min (st.size : Int) 1000).toNat = b := ⟨_, rfl⟩
  have za : a.size ≤ 200 := by rw [← ha, ByteArray.size_extract]; omega
  have zb : b.size ≤ 1000 := by rw [← hb, ByteArray.size_extract]; omega
  obtain ⟨ft, fe, F1, F2⟩ := frame_twin a (by unfold maxLen; omega)
  obtain ⟨l, r, e, HS⟩ := splits_any b.size b (Nat.le_refl _)
  have hl := splits_length HS
  have S1 := Lib.hid (fun w => split_any b l r e (by omega) HS w)
  have S2 := Lib.hid (fun w => refSplit_any b l r e (by omega) HS w)
  replace F1 := Lib.hid F1
  replace F2 := Lib.hid F2
  clear HS
  unfold maxLen at hs hst
  go_enter Try.func7, Try.ntmps7
  go_wp2_with fail
  refine (shown_any _).mono ?_
  rintro x W1 ⟨rfl, hb1⟩
  have H1 := Lib.hid hb1
  clear hb1
  go_wp2_with fail
  refine (F1.out _).mono ?_
  rintro x W2 ⟨rfl, hb2⟩
  have H2 := Lib.hid (H1.out.trans (hb2.mono H1.out.size))
  clear hb2 H1
  go_wp2_with fail
  refine (F2.out _).mono ?_
  rintro x W3 ⟨rfl, hb3⟩
  have H3 := Lib.hid (H2.out.trans (hb3.mono H2.out.size))
  clear hb3 H2
  go_wp2_with fail
  refine (S1.out _).mono ?_
  rintro x W4 ⟨v1, rfl, ho1, hb4⟩
  have H4 := Lib.hid (And.intro (H3.out.trans (hb4.mono H3.out.size)) (TextRow.of_own ho1))
  clear hb4 H3 ho1
  go_wp2_with fail
  refine (S2.out _).mono ?_
  rintro x W5 ⟨v2, rfl, ho2, hb5⟩
  have H5 := Lib.hid (And.intro (H4.out.1.trans (hb5.mono H4.out.1.size)) (And.intro (H4.out.2.below hb5) (TextRow.of_own ho2)))
  clear hb5 H4 ho2
  go_wp2_with fail
  refine (texts_same v1 v2 l _ H5.out.2.1 H5.out.2.2 (by omega)).mono ?_
  rintro x W6 ⟨rfl, hb6⟩
  have H6 := Lib.hid (H5.out.1.trans (hb6.mono H5.out.1.size))
  clear hb6 H5
  go_wp2
  go_ret
  exact ⟨rfl, H6.out⟩

set_option maxRecDepth 100000 in
theorem codecSplits_lifted (os : Os) (started : os.Started) (H : Type) (enc : TypeId × Value → H) :
    ReturnsInHanded {} Try.checked os 7 .any (Rows.codecSplitsSpec.pre6 enc Try.prog Try.f7 Rows.codecSplitsRow.domain false) (Rows.codecSplitsSpec.post enc Try.prog Try.f7 false true false false) := by
  refine returnsInHanded_of_change (C := Try.checked) own started (by kernel_rfl) Try.func7
    (ChangeSpec.witness6 (enc := enc) (C := Try.checked) false ⟨#[], #[.string ⟨#[]⟩, .string ⟨#[]⟩], []⟩ 8 (by kernel_rfl) (by kernel_rfl) (by kernel_rfl) (by kernel_rfl)) ?_
  intro W base args ds gs before hval0 hW hcnd _
  have hval : ∀ (j : Nat) t v, Try.f7.params[j]? = some t → args[j]? = some v → Value.okWide Try.prog W .any base t v := hval0
  have hW' := hW
  obtain ⟨p, q, hA0, hV, rfl, hfz, hnd⟩ := hW
  have hA : DataW.TrodAll enc Try.prog W 0 (fun _ => true) true Try.f7.params.toList args.toList ds p := hA0
  rw [Try.params7] at hA hval
  obtain ⟨v0, vs0, d0, ds0, p0, q0, hargs, rfl, rfl, h0, r0⟩ := trodAll_cons hA
  obtain ⟨v1, vs1, d1, ds1, p1, q1, rfl, rfl, rfl, h1, r1⟩ := trodAll_cons r0
  obtain ⟨rfl, rfl, rfl⟩ := trodAll_nil r1
  obtain rfl : args = #[v0, v1] := by cases args; simp_all
  obtain ⟨rfl, rfl⟩ := trodVars_none hV
  have k0 := h0
  have lt0 : ∀ x ∈ p0, x.block < W.heap.size := by obtain ⟨m, hm⟩ := k0; exact DataW.trod_lt m _ _ _ hm
  have k1 := h1
  have lt1 : ∀ x ∈ p1, x.block < W.heap.size := by obtain ⟨m, hm⟩ := k1; exact DataW.trod_lt m _ _ _ hm
  obtain ⟨a0, rfl, rfl, rfl, w0⟩ := open_string Try.underlying9 (hval 0 9 v0 rfl rfl) h0
  obtain ⟨a1, rfl, rfl, rfl, w1⟩ := open_string Try.underlying9 (hval 1 9 v1 rfl rfl) h1
  clear hA0 hval0
  refine (splits_walk a0 w0 a1 w1 W).mono fun e W' ⟨he, bel⟩ => ?_
  subst he
  exact ⟨_, rfl, _, _, _, [], _, [], hW', trodAll_mk1 (shut_bool Try.underlying4 _), (trodAll_cons_mk (Below.trod laidOut (by kernel_rfl) (of_decide_eq_true (by kernel_rfl)) k0 bel lt0) (trodAll_cons_mk (Below.trod laidOut (by kernel_rfl) (of_decide_eq_true (by kernel_rfl)) k1 bel lt1) trodAll_mk0)), rfl, bel.frame _, fun h => by cases h⟩

theorem codecSplits_over : Rows.codecSplitsRow.holds Try.pinned (OpenSpec.ofChange Rows.codecSplitsSpec) :=
  OpenClaim.holds_of_wide 7 Try.f7 rfl rfl rfl rfl rfl rfl rfl ⟨rfl, rfl, rfl, rfl, rfl⟩ rfl rfl rfl rfl rfl (by kernel_rfl) Try.func7 (by kernel_rfl)
    (of_decide_eq_true (by kernel_rfl)) (by unfold Func.isWrapper; first | (rw [if_pos (by decide +kernel)]; kernel_rfl) | (rw [if_neg (by decide +kernel)]; exact ⟨rfl, rfl⟩))
    (fun os started H enc _ => codecSplits_lifted os started H enc)

/-- The statement. -/
theorem codecSplits_holds : Rows.CodecSplitsSaid := codecSplits_over

#print axioms codecSplits_holds
end Go.Proofs.Ytbjbadnkpeakcaa
