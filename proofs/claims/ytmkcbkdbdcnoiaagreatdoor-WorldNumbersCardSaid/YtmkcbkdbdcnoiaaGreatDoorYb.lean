/- bazaarlaw16.WorldNumbers: the walk. -/
import Derived.Test.YtmkcbkdbdcnoiaaGreatDoorYa
namespace Go.Proofs.YtmkcbkdbdcnoiaaGreatDoor
open Go.RowKit
set_option linter.unusedVariables false
set_option linter.unusedSimpArgs false

set_option maxHeartbeats 8000000 in
set_option maxRecDepth 100000 in
theorem numbers_any (L : List Cmd) (v : Value) (w : World) (hv : Sees w v L.length 6 (cmds L)) (hc : ∀ c ∈ L, CmdOk c) (hG : Glob w) :
    Calls Tryz.prog 5 #[v] w fun e w' => e = .returned (.bool true) ∧ Below w.heap.size w w' := by
  have HV := Lib.hid (And.intro hv (And.intro hc hG))
  obtain ⟨base, cap, rfl⟩ := hv.shape
  clear hv hc hG
  go_enter Tryz.func5, Tryz.ntmps5
  go_wp2_with fail
  refine (shown_any w HV.out.2.2).mono ?_
  rintro e W0 ⟨rfl, hb⟩
  have H0 := Lib.hid hb
  clear hb
  go_wp2_with fail
  go_loopw [4, 5, 6, 7] (fun vw im il i wr => ∃ k : Nat, k ≤ L.length ∧ k ≤ 150 ∧ i = .int .i64 (k : Int) ∧ Hid (∃ l, im = .int .i64 (numF l kM) ∧ il = .int .i64 (numF l kL) ∧ Below w.heap.size w wr ∧ Ok (4 * k) l ∧ wr.ownsRow w.heap.size 44 2 vw l.length (prows l))) (fun _ _ _ i _ => 150 - (intOf i).toNat)
  case atStart => exact ⟨0, Nat.zero_le _, Nat.zero_le _, rfl, Lib.hid ⟨[], rfl, rfl, H0.out, ⟨.nil, by simp, by simp⟩, ⟨rfl, .inl ⟨rfl, rfl⟩⟩⟩⟩
  case round =>
    obtain ⟨wa, rfl⟩ : ∃ wa, wa = wr := ⟨_, rfl⟩
    obtain ⟨k, hk, hk2, rfl, HK⟩ := hrel
    obtain ⟨l, rfl, rfl, hbw, hO, hw⟩ := HK.out
    by_cases hlt : k < L.length
    · have hlt' : (k : Int) < (L.length : Int) := by omega
      by_cases hlt2 : k < 150
      · have hlt2' : (k : Int) < 150 := by omega
        have hSw := Sees.of_own hw
        obtain ⟨bw, cw, rfl⟩ := hSw.shape
        obtain ⟨c, hcc⟩ : ∃ c, L[k]'hlt = c := ⟨_, rfl⟩
        have hcok : CmdOk c := HV.out.2.1 c (by rw [← hcc]; exact List.getElem_mem hlt)
        obtain ⟨a, cap2, he, c0, c1, c2, c3, c4, c5⟩ := Sees.at6 (HV.out.1.below hbw) k hlt
        simp only [Value.slice.injEq, true_and] at he
        obtain ⟨rfl, rfl⟩ := he
        rw [hcc] at c0 c1 c2 c3 c4 c5
        obtain ⟨⟨l', a1, a2, a3⟩, hq⟩ : ∃ q, stepF l c = q := ⟨_, rfl⟩
        have hSt := step_at hq (4 * k) (.slice bw l.length cw) wa hSw (HV.out.2.2.below hbw) hO (by omega) hcok
        have hO2 : Ok (4 * (k + 1)) l' := by
          have := stepF_ok hO c
          rw [hq] at this
          exact this.mono (by omega)
        unfold cmv at hSt
        dsimp only at hSt
        have hN := stepF_numbers hq
        have om := numF_ok l kM
        have ol := numF_ok l kL
        obtain ⟨m, hm⟩ : ∃ m, numF l kM = m := ⟨_, rfl⟩
        obtain ⟨n, hn⟩ : ∃ n, numF l kL = n := ⟨_, rfl⟩
        rw [hm] at hN om
        rw [hn] at hN ol
        have s1 : IntKind.i64.wrap (m + 1) = m + 1 := IntWalk.i64_in _ (by omega)
        have s2 : IntKind.i64.wrap (n + 1) = n + 1 := IntWalk.i64_in _ (by omega)
        have HB := Lib.hid (And.intro hbw hO2)
        have HL := Lib.hid hcc
        have HN := Lib.hid hN
        have KS := Lib.hid hSt
        rw [hm, hn]
        clear hbw hO hw hSw hcc hcok HK hq hSt hO2 om ol hm hn hN
        go_wp2_with fail
        refine KS.out.mono ?_
        rintro e V2 ⟨x, rfl, hx, hb⟩
        have hSx := Sees.of_own hx
        obtain ⟨bx, cx, rfl⟩ := hSx.shape
        have hbv : Below w.heap.size w V2 := HB.out.1.trans (hb.mono HB.out.1.size)
        have HX := Lib.hid (And.intro (ownsRow_base hx HB.out.1.size) hbv)
        obtain ⟨a', cap3, he, d0, _⟩ := Sees.at6 (HV.out.1.below (hbv.alloc hbv.size (.cells #[.int .i64 a1, .int .i64 a2, .int .i64 a3] 31))) k hlt
        simp only [Value.slice.injEq, Option.some.injEq, true_and] at he
        obtain ⟨rfl, rfl⟩ := he
        rw [HL.out] at d0
        have HF := Lib.hid (And.intro (own_read HX.out.1 ((Below.refl _ V2).alloc (Nat.le_refl _) (.cells #[.int .i64 a1, .int .i64 a2, .int .i64 a3] 31))) (hbv.alloc hbv.size (.cells #[.int .i64 a1, .int .i64 a2, .int .i64 a3] 31)))
        clear hx hb hSx c0 c1 c2 c3 c4 c5 hbv
        have hN := HN.out
        rcases ha : (a1 == 0) with _ | _
        · have ha' : ¬ a1 = 0 := by simpa using ha
          simp only [ha', false_and, if_false, false_implies, and_true, Int.add_zero] at hN
          have HM := Lib.hid hN
          clear hN
          go_wp2
          exact ⟨⟨k + 1, by omega, by omega, by go_num, Lib.hid ⟨l', by rw [HM.out.1], by rw [HM.out.2], HF.out.2, HB.out.2, HF.out.1⟩⟩, by simp [intOf]; omega⟩
        · have ha' : a1 = 0 := by simpa using ha
          subst ha'
          simp only [true_and] at hN
          rcases h10 : (c.op == 10) with _ | _
          · have h10' : ¬ c.op = 10 := by simpa using h10
            simp only [h10', if_false, false_implies, and_true, Int.add_zero] at hN
            rcases h13 : (c.op == 13) with _ | _
            · have h13' : ¬ c.op = 13 := by simpa using h13
              simp only [h13', if_false, false_implies, and_true, Int.add_zero] at hN
              have HM := Lib.hid hN
              clear hN
              go_wp2
              exact ⟨⟨k + 1, by omega, by omega, by go_num, Lib.hid ⟨l', by rw [HM.out.1], by rw [HM.out.2], HF.out.2, HB.out.2, HF.out.1⟩⟩, by simp [intOf]; omega⟩
            · have h13' : c.op = 13 := by simpa using h13
              simp only [h13', if_true, true_implies] at hN
              obtain ⟨hN1, hN2, hN3⟩ := hN
              subst hN3
              have HM := Lib.hid (And.intro hN1 hN2)
              have hne : (n + 1 != n + 1) = false := by simp
              clear hN1 hN2
              go_wp2
              exact ⟨⟨k + 1, by omega, by omega, by go_num, Lib.hid ⟨l', by rw [HM.out.1], by rw [HM.out.2], HF.out.2, HB.out.2, HF.out.1⟩⟩, by simp [intOf]; omega⟩
          · have h10' : c.op = 10 := by simpa using h10
            have h13 : (c.op == 13) = false := by rw [h10']; rfl
            have h13' : ¬ c.op = 13 := by simpa using h13
            simp only [h10', h13', if_true, true_implies] at hN
            obtain ⟨⟨hN1, hN2⟩, hN3⟩ := hN
            subst hN2
            have hN4 : numF l' kL = n := by simpa using hN3
            have HM := Lib.hid (And.intro hN1 hN4)
            have hne : (m + 1 != m + 1) = false := by simp
            clear hN1 hN3 hN4
            go_wp2
            exact ⟨⟨k + 1, by omega, by omega, by go_num, Lib.hid ⟨l', by rw [HM.out.1], by rw [HM.out.2], HF.out.2, HB.out.2, HF.out.1⟩⟩, by simp [intOf]; omega⟩
      · have hlt2' : ¬ (k : Int) < 150 := by omega
        go_wp2
        go_ret
        exact ⟨rfl, hbw⟩
    · have hlt' : ¬ (k : Int) < (L.length : Int) := by omega
      go_wp2
      go_ret
      exact ⟨rfl, hbw⟩
end Go.Proofs.YtmkcbkdbdcnoiaaGreatDoor
