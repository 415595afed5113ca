/- bazaarlaw16.WorldBanks: the walk. -/
import Derived.Test.YtmkcbkdbdcnoiaaGreatDoorYc
namespace Go.Proofs.YtmkcbkdbdcnoiaaGreatDoor
open Go.RowKit
set_option linter.unusedVariables false
set_option linter.unusedSimpArgs false

set_option maxHeartbeats 8000000 in
set_option maxRecDepth 100000 in
theorem banks_any (L : List Cmd) (v : Value) (x : Int) (w : World) (hv : Sees w v L.length 6 (cmds L)) (hc : ∀ c ∈ L, CmdOk c) (hx : 0 ≤ x ∧ x < 4294967296) (hG : Glob w) :
    Calls Tryz.prog 6 #[v, .int .u32 x] w fun e w' => e = .returned (.bool true) ∧ Below w.heap.size w w' := by
  have HV := Lib.hid (And.intro hv (And.intro hc (And.intro hG hx)))
  obtain ⟨base, cap, rfl⟩ := hv.shape
  have hqc : CmdOk ⟨16, x, 0, 0, 0, 0⟩ := ⟨hx, ⟨Int.le_refl 0, by show (0 : Int) < 4294967296; omega⟩, ⟨Int.le_refl 0, by show (0 : Int) < 65536; omega⟩⟩
  have HQ := Lib.hid hqc
  clear hv hc hG hx hqc
  go_enter Tryz.func6, Tryz.ntmps6
  go_wp2_with fail
  refine (shown_any w HV.out.2.2.1).mono ?_
  rintro e W0 ⟨rfl, hb⟩
  have H0 := Lib.hid hb
  clear hb
  go_wp2_with fail
  obtain ⟨b7, hb7⟩ : ∃ b7, W0.heap.size = b7 := ⟨_, rfl⟩
  obtain ⟨W1, hW1⟩ : ∃ W1, W0.alloc (.cells #[.int .i64 16, .int .u32 x, .int .u32 0, .int .u16 0, .int .i64 0, .int .i64 0] 28) = W1 := ⟨_, rfl⟩
  have H1 : Hid (Below w.heap.size w W1 ∧ W1.heap[b7]? = some (.cells #[.int .i64 16, .int .u32 x, .int .u32 0, .int .u16 0, .int .i64 0, .int .i64 0] 28 (0, 0))) := Lib.hid (by
    rw [← hW1, ← hb7]; exact ⟨H0.out.alloc H0.out.size _, heap_alloc_new W0 _⟩)
  rw [hW1, hb7]
  clear hW1 hb7
  go_loopw [6, 8] (fun vw i wr => ∃ k : Nat, k ≤ L.length ∧ k ≤ 150 ∧ i = .int .i64 (k : Int) ∧ Hid (∃ l, Below w.heap.size w wr ∧ Ok (4 * k) l ∧ wr.ownsRow w.heap.size 44 2 vw l.length (prows l) ∧ wr.heap[b7]? = some (.cells #[.int .i64 16, .int .u32 x, .int .u32 0, .int .u16 0, .int .i64 0, .int .i64 0] 28 (0, 0)))) (fun _ i _ => 150 - (intOf i).toNat)
  case atStart => exact ⟨0, Nat.zero_le _, Nat.zero_le _, rfl, Lib.hid ⟨[], H1.out.1, ⟨.nil, by simp, by simp⟩, ⟨rfl, .inl ⟨rfl, rfl⟩⟩, H1.out.2⟩⟩
  case round =>
    obtain ⟨wa, rfl⟩ : ∃ wa, wa = wr := ⟨_, rfl⟩
    obtain ⟨k, hk, hk2, rfl, HK⟩ := hrel
    obtain ⟨l, hbw, hO, hw, hb7⟩ := HK.out
    by_cases hlt : k < L.length
    · have hlt' : (k : Int) < (L.length : Int) := by omega
      by_cases hlt2 : k < 150
      · have hlt2' : (k : Int) < 150 := by omega
        have hSw := Sees.of_own hw
        obtain ⟨bw, cw, rfl⟩ := hSw.shape
        obtain ⟨c, hcc⟩ : ∃ c, L[k]'hlt = c := ⟨_, rfl⟩
        have hcok : CmdOk c := HV.out.2.1 c (by rw [← hcc]; exact List.getElem_mem hlt)
        -- the three steps
        obtain ⟨⟨q1, q2, q3⟩, hqa⟩ : ∃ q : Ans, (if (acF l x).2 = 0 then (0, (acF l x).1.1, (acF l x).1.2) else ((acF l x).2, 0, 0)) = q := ⟨_, rfl⟩
        have e1 := stepF_account l x
        rw [hqa] at e1
        obtain ⟨⟨l', a1, a2, a3⟩, hq⟩ : ∃ q, stepF l c = q := ⟨_, rfl⟩
        obtain ⟨⟨r1, r2, r3⟩, hqb⟩ : ∃ q : Ans, (if (acF l' x).2 = 0 then (0, (acF l' x).1.1, (acF l' x).1.2) else ((acF l' x).2, 0, 0)) = q := ⟨_, rfl⟩
        have e3 := stepF_account l' x
        rw [hqb] at e3
        have hO2 : Ok (4 * (k + 1)) l' := by
          have := stepF_ok hO c
          rw [hq] at this
          exact this.mono (by omega)
        have hS1 := fun V hs hg => step_at e1 (4 * k) (.slice bw l.length cw) V hs hg hO (by omega) HQ.out
        have hS2 := fun V hs hg => step_at hq (4 * k) (.slice bw l.length cw) V hs hg hO (by omega) hcok
        have hS3 := fun u V hs hg => step_at e3 (4 * (k + 1)) u V hs hg hO2 (by omega) HQ.out
        have hP : ((q1 == 0) = false ∨ ((q1 == 0) = true ∧ (q3 != r3) = false)) ∨ ((q1 == 0) = true ∧ (q3 != r3) = true ∧ (c.a != x) = false ∧ ((c.op != 7) = false ∨ ((c.op != 7) = true ∧ (c.op != 8) = false))) := by
          by_cases hex : (acF l x).2 = 0
          · rw [if_pos hex] at hqa
            simp only [Prod.mk.injEq] at hqa
            obtain ⟨rfl, rfl, rfl⟩ := hqa
            by_cases hown : c.a ≠ x ∨ c.op ≠ 7 ∧ c.op ≠ 8
            · have hb := stepF_bank hq hcok HV.out.2.2.2 (b := (acF l x).1.2) ⟨hex, rfl⟩ hown
              rw [if_pos hb.1] at hqb
              simp only [Prod.mk.injEq] at hqb
              obtain ⟨rfl, rfl, rfl⟩ := hqb
              refine .inl (.inr ⟨rfl, ?_⟩)
              rw [hb.2]; simp
            · cases hne : ((acF l x).1.2 != r3) with
              | false => exact .inl (.inr ⟨rfl, rfl⟩)
              | true =>
                refine .inr ⟨rfl, rfl, ?_⟩
                have h1 : c.a = x := Classical.byContradiction fun h => hown (.inl h)
                have h2 : c.op = 7 ∨ c.op = 8 := by omega
                rcases h2 with h2 | h2 <;> simp [h1, h2]
          · rw [if_neg hex] at hqa
            simp only [Prod.mk.injEq] at hqa
            obtain ⟨rfl, rfl, rfl⟩ := hqa
            exact .inl (.inl (by simpa using hex))
        unfold cmv at hS1 hS2 hS3
        dsimp only at hS1 hS2 hS3
        have HB := Lib.hid (And.intro hbw (And.intro hSw (And.intro hb7 (And.intro hO2 hcc))))
        have HP := Lib.hid hP
        have K1 := Lib.hid hS1
        have K2 := Lib.hid hS2
        have K3 := Lib.hid hS3
        have p7 : ∀ j, wa.cell? ⟨b7, j, none⟩ = (#[.int .i64 16, .int .u32 x, .int .u32 0, .int .u16 0, .int .i64 0, .int .i64 0] : Array Value)[j]? := blk_cell hb7
        clear hbw hO hw hSw hcc hcok HK hq hqa hqb e1 e3 hO2 hS1 hS2 hS3 hP hb7
        go_wp2_with fail
        refine (K1.out _ HB.out.2.1 (HV.out.2.2.1.below HB.out.1)).mono ?_
        rintro e V1 ⟨u1, rfl, _, hb⟩
        have HX1 := Lib.hid hb
        have d := Sees.at6 (HV.out.1.below ((HB.out.1.trans (hb.mono HB.out.1.size)).alloc (Nat.le_trans HB.out.1.size hb.size) (.cells #[.int .i64 q1, .int .i64 q2, .int .i64 q3] 31))) k hlt
        rw [HB.out.2.2.2.2] at d
        obtain ⟨a, cap2, he, c0, c1, c2, c3, c4, c5⟩ := d
        simp only [Value.slice.injEq, true_and] at he
        obtain ⟨rfl, rfl⟩ := he
        clear hb p7
        go_wp2_with fail
        obtain ⟨b10, hb10⟩ : ∃ b10, V1.heap.size = b10 := ⟨_, rfl⟩
        obtain ⟨A1, hA1⟩ : ∃ A1, V1.alloc (.cells #[.int .i64 q1, .int .i64 q2, .int .i64 q3] 31) = A1 := ⟨_, rfl⟩
        have HA1 : Hid (Below wa.heap.size wa A1 ∧ A1.heap[b10]? = some (.cells #[.int .i64 q1, .int .i64 q2, .int .i64 q3] 31 (0, 0))) := Lib.hid (by
          rw [← hA1, ← hb10]; exact ⟨HX1.out.alloc HX1.out.size _, heap_alloc_new V1 _⟩)
        rw [hA1, hb10]
        clear hA1 hb10 c0 c1 c2 c3 c4 c5
        refine (K2.out _ (HB.out.2.1.below HA1.out.1) (HV.out.2.2.1.below (HB.out.1.trans (HA1.out.1.mono HB.out.1.size)))).mono ?_
        rintro e V2 ⟨u2, rfl, hu2, hb⟩
        obtain ⟨bx, cx, rfl⟩ := (Sees.of_own hu2).shape
        have HX2 := Lib.hid (And.intro hu2 hb)
        have p7 : ∀ j, (V2.alloc (.cells #[.int .i64 a1, .int .i64 a2, .int .i64 a3] 31)).cell? ⟨b7, j, none⟩ = (#[.int .i64 16, .int .u32 x, .int .u32 0, .int .u16 0, .int .i64 0, .int .i64 0] : Array Value)[j]? := blk_cell (keep_a _ (keep_b (keep_b HB.out.2.2.1 HA1.out.1) hb))
        clear hb hu2
        go_wp2_with fail
        obtain ⟨b12, hb12⟩ : ∃ b12, V2.heap.size = b12 := ⟨_, rfl⟩
        obtain ⟨A2, hA2⟩ : ∃ A2, V2.alloc (.cells #[.int .i64 a1, .int .i64 a2, .int .i64 a3] 31) = A2 := ⟨_, rfl⟩
        have HA2 : Hid (Below A1.heap.size A1 A2 ∧ A2.ownsRow w.heap.size 44 2 (.slice bx l'.length cx) l'.length (prows l') ∧ Below w.heap.size w A2) := Lib.hid (by
          have h1 : Below A1.heap.size A1 A2 := by rw [← hA2]; exact HX2.out.2.alloc HX2.out.2.size _
          have h2 : Below w.heap.size w A1 := HB.out.1.trans (HA1.out.1.mono HB.out.1.size)
          refine ⟨h1, ?_, h2.trans (h1.mono h2.size)⟩
          rw [← hA2]
          exact own_read (ownsRow_base HX2.out.1 h2.size) ((Below.refl _ V2).alloc (Nat.le_refl _) _))
        rw [hA2, hb12]
        clear hA2 hb12 p7
        refine (K3.out _ _ (Sees.of_own HA2.out.2.1) (HV.out.2.2.1.below HA2.out.2.2)).mono ?_
        rintro e V3 ⟨u3, rfl, _, hb⟩
        have hf : Below A2.heap.size A2 (V3.alloc (.cells #[.int .i64 r1, .int .i64 r2, .int .i64 r3] 31)) := hb.alloc hb.size _
        have hfw : Below w.heap.size w (V3.alloc (.cells #[.int .i64 r1, .int .i64 r2, .int .i64 r3] 31)) := HA2.out.2.2.trans (hf.mono HA2.out.2.2.size)
        have HX3 := Lib.hid (And.intro hf hfw)
        have d := Sees.at6 (HV.out.1.below hfw) k hlt
        rw [HB.out.2.2.2.2] at d
        obtain ⟨a', cap3, he, c0, c1, c2, c3, c4, c5⟩ := d
        simp only [Value.slice.injEq, Option.some.injEq, true_and] at he
        obtain ⟨rfl, rfl⟩ := he
        obtain ⟨W9, hW9⟩ : ∃ W9, (V3.alloc (.cells #[.int .i64 r1, .int .i64 r2, .int .i64 r3] 31)).alloc (.cells #[.int .i64 c.op, .int .u32 c.a, .int .u32 c.b, .int .u16 c.item, .int .i64 c.n, .int .i64 c.m] 28) = W9 := ⟨_, rfl⟩
        have H9 : Hid (Below w.heap.size w W9 ∧ Below A2.heap.size A2 W9 ∧ W9.heap[b10]? = some (.cells #[.int .i64 q1, .int .i64 q2, .int .i64 q3] 31 (0, 0)) ∧ W9.heap[V3.heap.size]? = some (.cells #[.int .i64 r1, .int .i64 r2, .int .i64 r3] 31 (0, 0)) ∧ W9.heap[V3.heap.size + 1]? = some (.cells #[.int .i64 c.op, .int .u32 c.a, .int .u32 c.b, .int .u16 c.item, .int .i64 c.n, .int .i64 c.m] 28 (0, 0))) := Lib.hid (by
          rw [← hW9]
          have h2 := hf.alloc hf.size (.cells #[.int .i64 c.op, .int .u32 c.a, .int .u32 c.b, .int .u16 c.item, .int .i64 c.n, .int .i64 c.m] 28)
          refine ⟨hfw.alloc hfw.size _, h2, keep_b (keep_b HA1.out.2 HA2.out.1) h2, keep_a _ (heap_alloc_new V3 _), ?_⟩
          have := heap_alloc_new (V3.alloc (.cells #[.int .i64 r1, .int .i64 r2, .int .i64 r3] 31)) (.cells #[.int .i64 c.op, .int .u32 c.a, .int .u32 c.b, .int .u16 c.item, .int .i64 c.n, .int .i64 c.m] 28)
          rwa [World.size_alloc] at this)
        have z0 : ∀ j, W9.cell? ⟨b10, j, none⟩ = (#[.int .i64 q1, .int .i64 q2, .int .i64 q3] : Array Value)[j]? := blk_cell H9.out.2.2.1
        have z1 : ∀ j, W9.cell? ⟨V3.heap.size, j, none⟩ = (#[.int .i64 r1, .int .i64 r2, .int .i64 r3] : Array Value)[j]? := blk_cell H9.out.2.2.2.1
        have z2 : ∀ j, W9.cell? ⟨V3.heap.size + 1, j, none⟩ = (#[.int .i64 c.op, .int .u32 c.a, .int .u32 c.b, .int .u16 c.item, .int .i64 c.n, .int .i64 c.m] : Array Value)[j]? := blk_cell H9.out.2.2.2.2
        clear hf hfw hb
        have HF : Hid (∃ l, Below w.heap.size w W9 ∧ Ok (4 * (k + 1)) l ∧ W9.ownsRow w.heap.size 44 2 (.slice bx l'.length cx) l.length (prows l) ∧ W9.heap[b7]? = some (.cells #[.int .i64 16, .int .u32 x, .int .u32 0, .int .u16 0, .int .i64 0, .int .i64 0] 28 (0, 0))) := Lib.hid ⟨l', H9.out.1, HB.out.2.2.2.1, own_read HA2.out.2.1 H9.out.2.1, keep_b (keep_b (keep_b HB.out.2.2.1 HA1.out.1) HA2.out.1) H9.out.2.1⟩
        rcases HP.out with (h1 | ⟨h1, h2⟩) | ⟨h1, h2, h3, h4 | ⟨h4, h5⟩⟩
        all_goals
          go_wp2
          exact ⟨⟨k + 1, by omega, by omega, by go_num, HF⟩, by simp [intOf]; omega⟩
      · have hlt2' : ¬ (k : Int) < 150 := by omega
        go_wp2
        go_ret
        exact ⟨rfl, hbw⟩
    · have hlt' : ¬ (k : Int) < (L.length : Int) := by omega
      go_wp2
      go_ret
      exact ⟨rfl, hbw⟩
end Go.Proofs.YtmkcbkdbdcnoiaaGreatDoor
