/- CodecSizes is proved: for every text, the statement's function returns true, and changes nothing that was there. No condition. -/
import Derived.Test.YtbjbadnkpeakcaaRow
namespace Go.Proofs.Ytbjbadnkpeakcaa
open Go.ChangeShapes Go.WideShapes Go.ChangeAt Go.RowKit
open Go.ChangeMaps (open_string shut_string)
set_option linter.unusedVariables false
set_option linter.unusedSimpArgs false

theorem cut_t (s t : ByteArray) (w : World) (hs : s.size ≤ maxLen) (ht : s.extract 0 (min s.size 60) = t) : Calls Try.prog 12 #[.string s] w fun e w' => e = .returned (.string t) ∧ w = w' := by
  subst ht
  exact cut_any s w hs

theorem parseReq_sum (s : ByteArray) (w : World) : Calls Try.prog 11 #[.string s] w fun e w' => ∃ x0 x1 x2 x3 x4 x5 ev : Int,
    e = .returned (.tuple #[.agg #[.int .i64 x0, .int .u32 x1, .int .u32 x2, .int .u16 x3, .int .i64 x4, .int .i64 x5], .int .i64 ev]) ∧ ((ev = 0 ∧ s.size = 27) ∨ ev = 170) ∧ Below w.heap.size w w' := by
  by_cases h : s.size = 27
  · by_cases ho : 1 ≤ numAt s 0 1 ∧ numAt s 0 1 ≤ 21
    · exact (parseReq_ok s w h ho.1 ho.2).mono fun e w' ⟨he, hb⟩ => ⟨_, _, _, _, _, _, _, he, .inl ⟨rfl, h⟩, hb⟩
    · exact (parseReq_op s w h (by omega)).mono fun e w' ⟨he, hb⟩ => ⟨_, _, _, _, _, _, _, he, .inr rfl, hb⟩
  · exact (parseReq_size s w h).mono fun e w' ⟨he, hb⟩ => ⟨_, _, _, _, _, _, _, he, .inr rfl, hb⟩

theorem parseRep_sum (s : ByteArray) (w : World) : Calls Try.prog 13 #[.string s] w fun e w' => ∃ x0 x1 x2 ev : Int,
    e = .returned (.tuple #[.agg #[.int .i64 x0, .int .i64 x1, .int .i64 x2], .int .i64 ev]) ∧ ((ev = 0 ∧ s.size = 18) ∨ ev = 170) ∧ Below w.heap.size w w' := by
  by_cases h : s.size = 18
  · by_cases ho : numAt s 0 2 ≤ 999
    · exact (parseRep_ok s w h ho).mono fun e w' ⟨he, hb⟩ => ⟨_, _, _, _, he, .inl ⟨rfl, h⟩, hb⟩
    · exact (parseRep_num s w h (by omega)).mono fun e w' ⟨he, hb⟩ => ⟨_, _, _, _, he, .inr rfl, hb⟩
  · exact (parseRep_size s w h).mono fun e w' ⟨he, hb⟩ => ⟨_, _, _, _, he, .inr rfl, hb⟩

set_option maxHeartbeats 1000000 in
set_option maxRecDepth 100000 in
theorem sizes_walk (s : ByteArray) (hs : s.size ≤ maxLen) (w : World) : Calls Try.prog 4 #[.string s] w fun e w' => e = .returned (.bool true) ∧ Below w.heap.size w w' := by
  obtain ⟨t, ht⟩ : ∃ t, s.extract 0 (min s.size 60) = t := ⟨_, rfl⟩
  have HC := Lib.hid (fun w => cut_t s t w hs ht)
  clear ht
  go_enter Try.func4, Try.ntmps4
  go_wp2_with fail
  refine (shown_any _).mono ?_
  rintro e w1 ⟨rfl, hb⟩
  have HB := Lib.hid hb
  clear hb
  go_wp2_with fail
  refine (HC.out _).mono ?_
  rintro e w' ⟨rfl, rfl⟩
  go_wp2_with fail
  refine (parseReq_sum t _).mono ?_
  rintro e w2 ⟨x0, x1, x2, x3, x4, x5, ev, rfl, hev, hb⟩
  have HB2 := Lib.hid (HB.out.trans (hb.mono HB.out.size))
  clear hb HB
  go_wp2_with fail
  refine (HC.out _).mono ?_
  rintro e w' ⟨rfl, rfl⟩
  go_wp2_with fail
  refine (parseRep_sum t _).mono ?_
  rintro e w3 ⟨y0, y1, y2, fv, rfl, hfv, hb⟩
  have HB3 := Lib.hid ((HB2.out.alloc HB2.out.size _).trans (hb.mono (by have := HB2.out.size; simp; omega)))
  clear hb HB2
  rcases hev with ⟨rfl, h27⟩ | rfl
  · have hf : fv = 170 := by
      rcases hfv with ⟨_, h18⟩ | h
      · omega
      · exact h
    subst hf
    have b1 : ((t.size : Int) == 27) = true := by simp; omega
    have b2 : ((t.size : Int) == 18) = false := by simp; omega
    clear hfv h27
    go_wp2_with (go_at_call 12; refine (HC.out _).mono ?_; rintro e w' ⟨rfl, rfl⟩)
    go_ret
    exact ⟨rfl, HB3.out.alloc HB3.out.size _⟩
  · rcases hfv with ⟨rfl, h18⟩ | rfl
    · have b1 : ((t.size : Int) == 27) = false := by simp; omega
      have b2 : ((t.size : Int) == 18) = true := by simp; omega
      clear h18
      go_wp2_with (go_at_call 12; refine (HC.out _).mono ?_; rintro e w' ⟨rfl, rfl⟩)
      go_ret
      exact ⟨rfl, HB3.out.alloc HB3.out.size _⟩
    · by_cases h27 : t.size = 27
      · have b1 : ((t.size : Int) == 27) = true := by simp; omega
        have b2 : ((t.size : Int) == 18) = false := by simp; omega
        clear h27
        go_wp2_with (go_at_call 12; refine (HC.out _).mono ?_; rintro e w' ⟨rfl, rfl⟩)
        go_ret
        exact ⟨rfl, HB3.out.alloc HB3.out.size _⟩
      · by_cases h18 : t.size = 18
        · have b1 : ((t.size : Int) == 27) = false := by simp; omega
          have b2 : ((t.size : Int) == 18) = true := by simp; omega
          clear h18 h27
          go_wp2_with (go_at_call 12; refine (HC.out _).mono ?_; rintro e w' ⟨rfl, rfl⟩)
          go_ret
          exact ⟨rfl, HB3.out.alloc HB3.out.size _⟩
        · have b1 : ((t.size : Int) == 27) = false := by simp; omega
          have b2 : ((t.size : Int) == 18) = false := by simp; omega
          clear h18 h27
          go_wp2_with (go_at_call 12; refine (HC.out _).mono ?_; rintro e w' ⟨rfl, rfl⟩)
          go_ret
          exact ⟨rfl, HB3.out.alloc HB3.out.size _⟩

set_option maxRecDepth 100000 in
theorem codecSizes_lifted (os : Os) (started : os.Started) (H : Type) (enc : TypeId × Value → H) :
    ReturnsInHanded {} Try.checked os 4 .any (Rows.codecSizesSpec.pre6 enc Try.prog Try.f4 Rows.codecSizesRow.domain false) (Rows.codecSizesSpec.post enc Try.prog Try.f4 false true false false) := by
  refine returnsInHanded_of_change (C := Try.checked) own started (by kernel_rfl) Try.func4
    (ChangeSpec.witness6 (enc := enc) (C := Try.checked) false ⟨#[], #[.string ⟨#[]⟩], []⟩ 8 (by kernel_rfl) (by kernel_rfl) (by kernel_rfl) (by kernel_rfl)) ?_
  intro W base args ds gs before hval0 hW hcnd _
  have hval : ∀ (j : Nat) t v, Try.f4.params[j]? = some t → args[j]? = some v → Value.okWide Try.prog W .any base t v := hval0
  have hW' := hW
  obtain ⟨p, q, hA0, hV, rfl, hfz, hnd⟩ := hW
  have hA : DataW.TrodAll enc Try.prog W 0 (fun _ => true) true Try.f4.params.toList args.toList ds p := hA0
  rw [Try.params4] at hA hval
  obtain ⟨v0, vs0, d0, ds0, p0, q0, hargs, rfl, rfl, h0, r0⟩ := trodAll_cons hA
  obtain ⟨rfl, rfl, rfl⟩ := trodAll_nil r0
  obtain rfl : args = #[v0] := by cases args; simp_all
  obtain ⟨rfl, rfl⟩ := trodVars_none hV
  have k0 := h0
  have lt0 : ∀ x ∈ p0, x.block < W.heap.size := by obtain ⟨m, hm⟩ := k0; exact DataW.trod_lt m _ _ _ hm
  obtain ⟨a0, rfl, rfl, rfl, w0⟩ := open_string Try.underlying9 (hval 0 9 v0 rfl rfl) h0
  clear hA0 hval0
  refine (sizes_walk a0 w0 W).mono fun e W' ⟨he, bel⟩ => ?_
  subst he
  exact ⟨_, rfl, _, _, _, [], _, [], hW', trodAll_mk1 (shut_bool Try.underlying4 _), (trodAll_cons_mk (Below.trod laidOut (by kernel_rfl) (of_decide_eq_true (by kernel_rfl)) k0 bel lt0) trodAll_mk0), rfl, bel.frame _, fun h => by cases h⟩

theorem codecSizes_over : Rows.codecSizesRow.holds Try.pinned (OpenSpec.ofChange Rows.codecSizesSpec) :=
  OpenClaim.holds_of_wide 4 Try.f4 rfl rfl rfl rfl rfl rfl rfl ⟨rfl, rfl, rfl, rfl, rfl⟩ rfl rfl rfl rfl rfl (by kernel_rfl) Try.func4 (by kernel_rfl)
    (of_decide_eq_true (by kernel_rfl)) (by unfold Func.isWrapper; first | (rw [if_pos (by decide +kernel)]; kernel_rfl) | (rw [if_neg (by decide +kernel)]; exact ⟨rfl, rfl⟩))
    (fun os started H enc _ => codecSizes_lifted os started H enc)

/-- The statement. -/
theorem codecSizes_holds : Rows.CodecSizesSaid := codecSizes_over
#print axioms codecSizes_holds
end Go.Proofs.Ytbjbadnkpeakcaa
