/- bazaarlaw16.WorldErrors: the walk. -/
import Derived.Test.YtmkcbkdbdcnoiaaGreatDoorG23
namespace Go.Proofs.YtmkcbkdbdcnoiaaGreatDoor
open Go.RowKit
set_option linter.unusedVariables false
set_option linter.unusedSimpArgs false

/-- A row whose values turn, all else as it was. -/
def XW (A : World) (bx : Option Addr) (n : Nat) (W : World) : Prop := (n = 0 ∧ W = A) ∨ ∃ g cur, bx = some ⟨g, 0, none⟩ ∧ Same (fun k => k ≠ g) A W ∧ W.heap[g]? = some (.cells cur 44 (0, 0)) ∧ n * 2 ≤ cur.size
theorem XW.keep {A W : World} {bx : Option Addr} {n k : Nat} (h : XW A bx n W) (hk : ∀ g, bx = some ⟨g, 0, none⟩ → k ≠ g) (hlt : k < A.heap.size) : W.heap[k]? = A.heap[k]? := by
  rcases h with ⟨_, rfl⟩ | ⟨g, cur, h1, h2, _⟩
  · rfl
  · exact h2.same k hlt (hk g h1)
theorem XW.below {A W : World} {bx : Option Addr} {n B : Nat} (h : XW A bx n W) (hk : ∀ g, bx = some ⟨g, 0, none⟩ → B ≤ g) (hB : B ≤ A.heap.size) : Below B A W := by
  rcases h with ⟨_, rfl⟩ | ⟨g, cur, h1, h2, _⟩
  · exact Below.refl _ _
  · exact h2.below hB fun k hlt => by have := hk g h1; omega
theorem XW.start {A V : World} {bx : Option Addr} {n c B : Nat} {xs : List Value} (h : V.ownsRow B 44 2 (.slice bx n c) n xs) (hb : Below V.heap.size V A) : XW A bx n A := by
  rcases h.2 with ⟨h1, h2⟩ | ⟨g, cap, cur, h1, h2, h3, h4, h5, h6, h7⟩
  · exact .inl ⟨h2, rfl⟩
  · simp only [Value.slice.injEq] at h1
    exact .inr ⟨g, cur, h1.1, Same.refl _ _, keep_b h3 hb, by rw [h6]; exact Nat.mul_le_mul_right _ h4⟩
theorem own_rng {V : World} {bx : Option Addr} {n c B : Nat} {xs : List Value} (h : V.ownsRow B 44 2 (.slice bx n c) n xs) : ∀ g, bx = some ⟨g, 0, none⟩ → B ≤ g ∧ g < V.heap.size := by
  intro g hg
  rcases h.2 with ⟨h1, h2⟩ | ⟨g', cap, cur, h1, h2, h3, _⟩
  · simp only [Value.slice.injEq] at h1
    rw [hg] at h1
    cases h1.1
  · simp only [Value.slice.injEq] at h1
    rw [hg] at h1
    obtain rfl : g = g' := by simpa using h1.1
    exact ⟨h2, (Array.getElem?_eq_some_iff.1 h3).1⟩

set_option maxHeartbeats 8000000 in
set_option maxRecDepth 100000 in
theorem errors_any (L : List Cmd) (v : Value) (w : World) (hv : Sees w v L.length 6 (cmds L)) (hc : ∀ c ∈ L, CmdOk c) (hG : Glob w) :
    Calls Tryz.prog 8 #[v] w fun e w' => e = .returned (.bool true) ∧ Below w.heap.size w w' := by
  have HV := Lib.hid (And.intro hv (And.intro hc hG))
  obtain ⟨base, cap, rfl⟩ := hv.shape
  clear hv hc hG
  go_enter Tryz.func8, Tryz.ntmps8
  go_wp2_with fail
  refine (shown_any w HV.out.2.2).mono ?_
  rintro e W0 ⟨rfl, hb⟩
  have H0 := Lib.hid hb
  clear hb
  go_wp2_with fail
  go_loopw [4, 5] (fun vw i wr => ∃ k : Nat, k ≤ L.length ∧ k ≤ 150 ∧ i = .int .i64 (k : Int) ∧ Hid (Below w.heap.size w wr ∧ ∃ l, Ok (4 * k) l ∧ wr.ownsRow w.heap.size 44 2 vw l.length (prows l))) (fun _ i _ => 150 - (intOf i).toNat)
  case atStart => exact ⟨0, Nat.zero_le _, Nat.zero_le _, rfl, Lib.hid ⟨H0.out, [], ⟨.nil, by simp, by simp⟩, ⟨rfl, .inl ⟨rfl, rfl⟩⟩⟩⟩
  case round =>
    obtain ⟨wa, rfl⟩ : ∃ wa, wa = wr := ⟨_, rfl⟩
    obtain ⟨k, hk, hk2, rfl, HK⟩ := hrel
    by_cases hlt : k < L.length
    · have hlt' : (k : Int) < (L.length : Int) := by omega
      by_cases hlt2 : k < 150
      · have hlt2' : (k : Int) < 150 := by omega
        obtain ⟨hbw, l, hO, hw⟩ := HK.out
        have hlen : l.length ≤ 100000 := by have := hO.len; omega
        have hSw := Sees.of_own hw
        obtain ⟨bw, cw, rfl⟩ := hSw.shape
        obtain ⟨c, hcc⟩ : ∃ c, L[k]'hlt = c := ⟨_, rfl⟩
        have hcok : CmdOk c := HV.out.2.1 c (by rw [← hcc]; exact List.getElem_mem hlt)
        have hmk : ∀ W : World, (Instr.makeSlice 25 (.int .i64 0) (.int .i64 (l.length : Int))).run Tryz.prog W = .ok (.slice (some ⟨W.heap.size, 0, none⟩) 0 l.length) (W.alloc (.cells (mkp l.length) 44)) := fun W => make_pairs 0 l.length (Nat.zero_le _) (by omega) W
        have HA := Lib.hid (And.intro hbw (And.intro hSw (And.intro hO (And.intro hlen hcok))))
        have HL := Lib.hid hcc
        have HS0 := Lib.hid hlen
        clear hbw hw hSw hO hcc hcok hlen HK
        go_wp2_with (at_builtin; refine append_copy rfl _ _ rfl w.heap.size wa.heap.size l.length (.slice bw l.length cw) (prows l) (mkp l.length) rfl rfl (heap_alloc_new wa _) (mkp_size _) HA.out.1.size (by have := HA.out.1.size; simp; omega) (HA.out.2.1.alloc _) (one_prows2 l) (by have := HS0.out; omega) ?_)
        intro v1 W1 hown hgrow
        have hb1 : Below wa.heap.size wa W1 := ((Below.refl _ wa).alloc (Nat.le_refl _) _).grown hgrow (by simp) (fun g hg => by simp only [Option.some.injEq] at hg; omega)
        have hbw1 : Below w.heap.size w W1 := HA.out.1.trans (hb1.mono HA.out.1.size)
        have hS1 := Sees.of_own hown
        obtain ⟨bs, cs, rfl⟩ := hS1.shape
        obtain ⟨a, cap2, he, c0, c1, c2, c3, c4, c5⟩ := Sees.at6 (HV.out.1.below hbw1) k hlt
        simp only [Value.slice.injEq, true_and] at he
        obtain ⟨rfl, rfl⟩ := he
        have hcc := HL.out
        rw [hcc] at c0 c1 c2 c3 c4 c5
        obtain ⟨⟨l', a1, a2, a3⟩, hq⟩ : ∃ q, stepF l c = q := ⟨_, rfl⟩
        have hSt := step_at hq (4 * k) (.slice bw l.length cw) W1 (HA.out.2.1.below hb1) (HV.out.2.2.below hbw1) HA.out.2.2.1 (by omega) HA.out.2.2.2.2
        have hO2 : Ok (4 * (k + 1)) l' := by
          have := stepF_ok HA.out.2.2.1 c
          rw [hq] at this
          exact this.mono (by omega)
        unfold cmv at hSt
        dsimp only at hSt
        have HB := Lib.hid (And.intro hb1 (And.intro hbw1 (And.intro hS1 (And.intro hq hO2))))
        have KS := Lib.hid hSt
        clear hown hgrow hb1 hbw1 hS1 hcc hq hSt hO2 hmk
        go_wp2_with fail
        refine KS.out.mono ?_
        rintro e V2 ⟨x, rfl, hx, hb⟩
        have hSx := Sees.of_own hx
        obtain ⟨bx, cx, rfl⟩ := hSx.shape
        have HX := Lib.hid (And.intro hx (And.intro hb hSx))
        clear hx hb hSx c0 c1 c2 c3 c4 c5
        go_wp2_with fail
        obtain ⟨b8, hb8⟩ : ∃ b8, V2.heap.size = b8 := ⟨_, rfl⟩
        obtain ⟨W3, hW3⟩ : ∃ W3, V2.alloc (.cells #[.int .i64 a1, .int .i64 a2, .int .i64 a3] 31) = W3 := ⟨_, rfl⟩
        have H3 : Hid (Below V2.heap.size V2 W3 ∧ Below W1.heap.size W1 W3 ∧ W3.heap[b8]? = some (.cells #[.int .i64 a1, .int .i64 a2, .int .i64 a3] 31 (0, 0))) := Lib.hid (by
          have h : Below V2.heap.size V2 W3 := by rw [← hW3]; exact (Below.refl _ V2).alloc (Nat.le_refl _) _
          exact ⟨h, HX.out.2.1.trans (h.mono HX.out.2.1.size), by rw [← hW3, ← hb8]; exact heap_alloc_new V2 _⟩)
        rw [hW3, hb8]
        clear hW3 hb8
        have hE1 := same_any l l _ _ W3 ((HA.out.2.1.below HB.out.1).below H3.out.2.1) (HB.out.2.2.1.below H3.out.2.1) (by have := HS0.out; omega)
        simp only [decide_true] at hE1
        refine hE1.mono ?_
        clear hE1
        rintro e V4 ⟨rfl, hb⟩
        have H4 : Hid (Below W3.heap.size W3 V4 ∧ Below W1.heap.size W1 V4 ∧ Below V2.heap.size V2 V4 ∧ V4.heap[b8]? = some (.cells #[.int .i64 a1, .int .i64 a2, .int .i64 a3] 31 (0, 0))) := Lib.hid ⟨hb, H3.out.2.1.trans (hb.mono H3.out.2.1.size), H3.out.1.trans (hb.mono H3.out.1.size), keep_b H3.out.2.2 hb⟩
        clear hb
        have e0 : V4.cell? ⟨b8, 0, none⟩ = some (.int .i64 a1) := blk_cell H4.out.2.2.2 0
        have e1 : V4.cell? ⟨b8, 1, none⟩ = some (.int .i64 a2) := blk_cell H4.out.2.2.2 1
        have e2 : V4.cell? ⟨b8, 2, none⟩ = some (.int .i64 a3) := blk_cell H4.out.2.2.2 2
        by_cases ha : a1 = 0
        · subst ha
          have hIQ := isQuery_any c.op V4
          have KQ := Lib.hid hIQ
          have d0 : V4.cell? (a.add (k * 6)) = some (.int .i64 c.op) := by
            obtain ⟨a', cap3, he, d0, _⟩ := Sees.at6 (HV.out.1.below (HB.out.2.1.trans (H4.out.2.1.mono HB.out.2.1.size))) k hlt
            simp only [Value.slice.injEq, Option.some.injEq, true_and] at he
            rw [HL.out, ← he.1] at d0
            exact d0
          clear hIQ
          go_wp2_with fail
          refine KQ.out.mono ?_
          rintro e V5 ⟨rfl, rfl⟩
          rcases hqq : (decide (16 ≤ c.op) && decide (c.op ≤ 19)) with _ | _
          · have HV5 := Lib.hid (Below.refl V5.heap.size V5)
            have hlx : l'.length ≤ 100000 := by have := HB.out.2.2.2.2.len; omega
            have hbx : Below V2.heap.size V2 V5 := H4.out.2.2.1.trans (HV5.out.mono H4.out.2.2.1.size)
            have hb1v : Below W1.heap.size W1 V5 := H4.out.2.1.trans (HV5.out.mono H4.out.2.1.size)
            have hmk2 : ∀ W : World, (Instr.makeSlice 25 (.int .i64 0) (.int .i64 (l'.length : Int))).run Tryz.prog W = .ok (.slice (some ⟨W.heap.size, 0, none⟩) 0 l'.length) (W.alloc (.cells (mkp l'.length) 44)) := fun W => make_pairs 0 l'.length (Nat.zero_le _) (by omega) W
            have hwv : Below w.heap.size w V5 := HB.out.2.1.trans (hb1v.mono HB.out.2.1.size)
            have HC := Lib.hid (And.intro hbx (And.intro hb1v (And.intro hwv hlx)))
            clear hlx hbx hb1v hwv
            go_wp2_with (at_builtin; refine append_copy rfl _ _ rfl V5.heap.size V5.heap.size l'.length (.slice bx l'.length cx) (prows l') (mkp l'.length) rfl rfl (heap_alloc_new V5 _) (mkp_size _) (Nat.le_refl _) (by simp) ((HX.out.2.2.below HC.out.1).alloc _) (one_prows2 l') (by have := HC.out.2.2.2; omega) ?_)
            intro v9 W9 hown hgrow
            have hb9 : Below V5.heap.size V5 W9 := ((Below.refl _ V5).alloc (Nat.le_refl _) _).grown hgrow (by simp) (fun g hg => by simp only [Option.some.injEq] at hg; omega)
            have H9 : Hid (W9.ownsRow V5.heap.size 44 2 v9 l'.length (prows l') ∧ Below V5.heap.size V5 W9) := Lib.hid ⟨hown, hb9⟩
            clear hown hgrow hb9 hmk2
            have HXr := Lib.hid (own_rng HX.out.1)
            go_wp2_with fail
            go_loopw [10] (fun j wq => ∃ m : Nat, m ≤ l'.length ∧ j = .int .i64 (m : Int) ∧ Hid (XW W9 bx l'.length wq)) (fun j _ => l'.length - (intOf j).toNat)
            case atStart => exact ⟨0, Nat.zero_le _, rfl, Lib.hid (XW.start HX.out.1 (HC.out.1.trans (H9.out.2.mono HC.out.1.size)))⟩
            case round =>
              obtain ⟨m, hm, rfl, HM⟩ := hrel
              by_cases hlm : m < l'.length
              · have hlm' : (m : Int) < (l'.length : Int) := by omega
                have hl5 := HC.out.2.2.2
                rcases HM.out with ⟨h0, _⟩ | ⟨g, cur, rfl, hs, hg, hcur⟩
                · omega
                · obtain ⟨old, hold⟩ : ∃ old, cur[m * 2 + 1]? = some old := ⟨_, Array.getElem?_eq_getElem (by omega)⟩
                  have f0 : wr.cell? ⟨g, m * 2 + 1, none⟩ = some old := (blk_cell hg _).trans hold
                  have ff : ∀ j, wr.frozen? ⟨g, j, none⟩ = false := blk_frozen hg
                  have HN := Lib.hid (show XW W9 (some ⟨g, 0, none⟩) l'.length (wr.setCell ⟨g, m * 2 + 1, none⟩ (.string ⟨#[111, 116, 104, 101, 114]⟩)) from .inr ⟨g, _, rfl, hs.setCell (fun _ h => h rfl) _, blk_set hg _ _, by simpa using hcur⟩)
                  clear hs hg hcur hold
                  go_wp2
                  exact ⟨⟨m + 1, by omega, by go_num, HN⟩, by simp [intOf]; omega⟩
              · obtain rfl : m = l'.length := by omega
                have hnlt : ¬ ((l'.length : Int) < (l'.length : Int)) := by omega
                have hsw : ∀ k, k < W1.heap.size → wr.heap[k]? = W1.heap[k]? := fun k hk => (HM.out.keep (fun g hg => by have := HXr.out g hg; omega) (by have := HC.out.2.1.size; have := H9.out.2.size; omega)).trans ((H9.out.2.block k (by have := HC.out.2.1.size; omega)).trans (HC.out.2.1.block k hk))
                have hE5 := same_any l l _ _ wr (Sees.same (S := fun _ => True) (HA.out.2.1.below HB.out.1) fun k _ hk => hsw k hk) (Sees.same (S := fun _ => True) HB.out.2.2.1 fun k _ hk => hsw k hk) (by have := HS0.out; omega)
                simp only [decide_true] at hE5
                have KE5 := Lib.hid hE5
                clear hsw hE5
                go_wp2_with fail
                refine KE5.out.mono ?_
                rintro e V7 ⟨rfl, hb⟩
                have H7 := Lib.hid hb
                clear hb
                go_wp2
                have hbw9 : Below w.heap.size w wr := (HC.out.2.2.1.trans (H9.out.2.mono HC.out.2.2.1.size)).trans (HM.out.below (fun g hg => by have := HXr.out g hg; have := HB.out.2.1.size; omega) (by have := HC.out.2.2.1.size; have := H9.out.2.size; omega))
                refine ⟨⟨k + 1, by omega, by omega, by go_num, Lib.hid ⟨hbw9.trans (H7.out.mono hbw9.size), l', HB.out.2.2.2.2, own_read ?_ H7.out⟩⟩, by simp [intOf]; omega⟩
                have h9 := H9.out.1
                refine ⟨h9.1, h9.2.imp id ?_⟩
                rintro ⟨g9, cp, cu, e1, e2, e3, e4⟩
                have hg9 := (Array.getElem?_eq_some_iff.1 e3).1
                refine ⟨g9, cp, cu, e1, by have := HC.out.2.2.1.size; omega, ?_, e4⟩
                rw [HM.out.keep (fun g hg => by have := HXr.out g hg; have := HC.out.1.size; omega) hg9]
                exact e3
          · simp only [Bool.and_eq_true, decide_eq_true_eq] at hqq
            have hl' := stepF_query HB.out.2.2.2.1 hqq.1 hqq.2
            subst hl'
            have hE2 := same_any l' l' _ _ V5 ((HX.out.2.2.below H3.out.1).below H4.out.1) ((HB.out.2.2.1.below H3.out.2.1).below H4.out.1) (by have := HS0.out; omega)
            simp only [decide_true] at hE2
            have KE := Lib.hid hE2
            clear hE2
            go_wp2_with fail
            refine KE.out.mono ?_
            rintro e V6 ⟨rfl, hb⟩
            have HV5 := Lib.hid hb
            have e0 : V6.cell? ⟨b8, 0, none⟩ = some (.int .i64 0) := blk_cell (keep_b H4.out.2.2.2 hb) 0
            clear hb
            have hlx : l'.length ≤ 100000 := by have := HB.out.2.2.2.2.len; omega
            have hbx : Below V2.heap.size V2 V6 := H4.out.2.2.1.trans (HV5.out.mono H4.out.2.2.1.size)
            have hb1v : Below W1.heap.size W1 V6 := H4.out.2.1.trans (HV5.out.mono H4.out.2.1.size)
            have hmk2 : ∀ W : World, (Instr.makeSlice 25 (.int .i64 0) (.int .i64 (l'.length : Int))).run Tryz.prog W = .ok (.slice (some ⟨W.heap.size, 0, none⟩) 0 l'.length) (W.alloc (.cells (mkp l'.length) 44)) := fun W => make_pairs 0 l'.length (Nat.zero_le _) (by omega) W
            have hwv : Below w.heap.size w V6 := HB.out.2.1.trans (hb1v.mono HB.out.2.1.size)
            have HC := Lib.hid (And.intro hbx (And.intro hb1v (And.intro hwv hlx)))
            clear hlx hbx hb1v hwv
            go_wp2_with (at_builtin; refine append_copy rfl _ _ rfl V6.heap.size V6.heap.size l'.length (.slice bx l'.length cx) (prows l') (mkp l'.length) rfl rfl (heap_alloc_new V6 _) (mkp_size _) (Nat.le_refl _) (by simp) ((HX.out.2.2.below HC.out.1).alloc _) (one_prows2 l') (by have := HC.out.2.2.2; omega) ?_)
            intro v9 W9 hown hgrow
            have hb9 : Below V6.heap.size V6 W9 := ((Below.refl _ V6).alloc (Nat.le_refl _) _).grown hgrow (by simp) (fun g hg => by simp only [Option.some.injEq] at hg; omega)
            have H9 : Hid (W9.ownsRow V6.heap.size 44 2 v9 l'.length (prows l') ∧ Below V6.heap.size V6 W9) := Lib.hid ⟨hown, hb9⟩
            clear hown hgrow hb9 hmk2
            have HXr := Lib.hid (own_rng HX.out.1)
            go_wp2_with fail
            go_loopw [10] (fun j wq => ∃ m : Nat, m ≤ l'.length ∧ j = .int .i64 (m : Int) ∧ Hid (XW W9 bx l'.length wq)) (fun j _ => l'.length - (intOf j).toNat)
            case atStart => exact ⟨0, Nat.zero_le _, rfl, Lib.hid (XW.start HX.out.1 (HC.out.1.trans (H9.out.2.mono HC.out.1.size)))⟩
            case round =>
              obtain ⟨m, hm, rfl, HM⟩ := hrel
              by_cases hlm : m < l'.length
              · have hlm' : (m : Int) < (l'.length : Int) := by omega
                have hl5 := HC.out.2.2.2
                rcases HM.out with ⟨h0, _⟩ | ⟨g, cur, rfl, hs, hg, hcur⟩
                · omega
                · obtain ⟨old, hold⟩ : ∃ old, cur[m * 2 + 1]? = some old := ⟨_, Array.getElem?_eq_getElem (by omega)⟩
                  have f0 : wr.cell? ⟨g, m * 2 + 1, none⟩ = some old := (blk_cell hg _).trans hold
                  have ff : ∀ j, wr.frozen? ⟨g, j, none⟩ = false := blk_frozen hg
                  have HN := Lib.hid (show XW W9 (some ⟨g, 0, none⟩) l'.length (wr.setCell ⟨g, m * 2 + 1, none⟩ (.string ⟨#[111, 116, 104, 101, 114]⟩)) from .inr ⟨g, _, rfl, hs.setCell (fun _ h => h rfl) _, blk_set hg _ _, by simpa using hcur⟩)
                  clear hs hg hcur hold
                  go_wp2
                  exact ⟨⟨m + 1, by omega, by go_num, HN⟩, by simp [intOf]; omega⟩
              · obtain rfl : m = l'.length := by omega
                have hnlt : ¬ ((l'.length : Int) < (l'.length : Int)) := by omega
                have hsw : ∀ k, k < W1.heap.size → wr.heap[k]? = W1.heap[k]? := fun k hk => (HM.out.keep (fun g hg => by have := HXr.out g hg; omega) (by have := HC.out.2.1.size; have := H9.out.2.size; omega)).trans ((H9.out.2.block k (by have := HC.out.2.1.size; omega)).trans (HC.out.2.1.block k hk))
                have hE5 := same_any l' l' _ _ wr (Sees.same (S := fun _ => True) (HA.out.2.1.below HB.out.1) fun k _ hk => hsw k hk) (Sees.same (S := fun _ => True) HB.out.2.2.1 fun k _ hk => hsw k hk) (by have := HS0.out; omega)
                simp only [decide_true] at hE5
                have KE5 := Lib.hid hE5
                clear hsw hE5
                go_wp2_with fail
                refine KE5.out.mono ?_
                rintro e V7 ⟨rfl, hb⟩
                have H7 := Lib.hid hb
                clear hb
                go_wp2
                have hbw9 : Below w.heap.size w wr := (HC.out.2.2.1.trans (H9.out.2.mono HC.out.2.2.1.size)).trans (HM.out.below (fun g hg => by have := HXr.out g hg; have := HB.out.2.1.size; omega) (by have := HC.out.2.2.1.size; have := H9.out.2.size; omega))
                refine ⟨⟨k + 1, by omega, by omega, by go_num, Lib.hid ⟨hbw9.trans (H7.out.mono hbw9.size), l', HB.out.2.2.2.2, own_read ?_ H7.out⟩⟩, by simp [intOf]; omega⟩
                have h9 := H9.out.1
                refine ⟨h9.1, h9.2.imp id ?_⟩
                rintro ⟨g9, cp, cu, e1, e2, e3, e4⟩
                have hg9 := (Array.getElem?_eq_some_iff.1 e3).1
                refine ⟨g9, cp, cu, e1, by have := HC.out.2.2.1.size; omega, ?_, e4⟩
                rw [HM.out.keep (fun g hg => by have := HXr.out g hg; have := HC.out.1.size; omega) hg9]
                exact e3
        · have ha' : (a1 != 0) = true := by simpa using ha
          obtain ⟨hl', hz2, hz3⟩ := stepF_err HB.out.2.2.2.1 ha
          subst hl' hz2 hz3
          have hE2 := same_any l' l' _ _ V4 ((HX.out.2.2.below H3.out.1).below H4.out.1) ((HB.out.2.2.1.below H3.out.2.1).below H4.out.1) (by have := HS0.out; omega)
          simp only [decide_true] at hE2
          have KE := Lib.hid hE2
          have hnq := neq31 a1 0 0 a1 0 0
          simp only [BEq.rfl, Bool.and_self, Bool.not_true] at hnq
          clear hE2
          go_wp2_with fail
          refine KE.out.mono ?_
          rintro e V5 ⟨rfl, hb⟩
          have HV5 := Lib.hid hb
          have e0 : V5.cell? ⟨b8, 0, none⟩ = some (.int .i64 a1) := blk_cell (keep_b H4.out.2.2.2 hb) 0
          have e1 : V5.cell? ⟨b8, 1, none⟩ = some (.int .i64 0) := blk_cell (keep_b H4.out.2.2.2 hb) 1
          have e2 : V5.cell? ⟨b8, 2, none⟩ = some (.int .i64 0) := blk_cell (keep_b H4.out.2.2.2 hb) 2
          clear hb
          have hlx : l'.length ≤ 100000 := by have := HB.out.2.2.2.2.len; omega
          have hbx : Below V2.heap.size V2 V5 := H4.out.2.2.1.trans (HV5.out.mono H4.out.2.2.1.size)
          have hb1v : Below W1.heap.size W1 V5 := H4.out.2.1.trans (HV5.out.mono H4.out.2.1.size)
          have hmk2 : ∀ W : World, (Instr.makeSlice 25 (.int .i64 0) (.int .i64 (l'.length : Int))).run Tryz.prog W = .ok (.slice (some ⟨W.heap.size, 0, none⟩) 0 l'.length) (W.alloc (.cells (mkp l'.length) 44)) := fun W => make_pairs 0 l'.length (Nat.zero_le _) (by omega) W
          have hwv : Below w.heap.size w V5 := HB.out.2.1.trans (hb1v.mono HB.out.2.1.size)
          have HC := Lib.hid (And.intro hbx (And.intro hb1v (And.intro hwv hlx)))
          clear hlx hbx hb1v hwv
          go_wp2_with (at_builtin; refine append_copy rfl _ _ rfl V5.heap.size V5.heap.size l'.length (.slice bx l'.length cx) (prows l') (mkp l'.length) rfl rfl (heap_alloc_new V5 _) (mkp_size _) (Nat.le_refl _) (by simp) ((HX.out.2.2.below HC.out.1).alloc _) (one_prows2 l') (by have := HC.out.2.2.2; omega) ?_)
          intro v9 W9 hown hgrow
          have hb9 : Below V5.heap.size V5 W9 := ((Below.refl _ V5).alloc (Nat.le_refl _) _).grown hgrow (by simp) (fun g hg => by simp only [Option.some.injEq] at hg; omega)
          have H9 : Hid (W9.ownsRow V5.heap.size 44 2 v9 l'.length (prows l') ∧ Below V5.heap.size V5 W9) := Lib.hid ⟨hown, hb9⟩
          clear hown hgrow hb9 hmk2
          have HXr := Lib.hid (own_rng HX.out.1)
          go_wp2_with fail
          go_loopw [10] (fun j wq => ∃ m : Nat, m ≤ l'.length ∧ j = .int .i64 (m : Int) ∧ Hid (XW W9 bx l'.length wq)) (fun j _ => l'.length - (intOf j).toNat)
          case atStart => exact ⟨0, Nat.zero_le _, rfl, Lib.hid (XW.start HX.out.1 (HC.out.1.trans (H9.out.2.mono HC.out.1.size)))⟩
          case round =>
            obtain ⟨m, hm, rfl, HM⟩ := hrel
            by_cases hlm : m < l'.length
            · have hlm' : (m : Int) < (l'.length : Int) := by omega
              have hl5 := HC.out.2.2.2
              rcases HM.out with ⟨h0, _⟩ | ⟨g, cur, rfl, hs, hg, hcur⟩
              · omega
              · obtain ⟨old, hold⟩ : ∃ old, cur[m * 2 + 1]? = some old := ⟨_, Array.getElem?_eq_getElem (by omega)⟩
                have f0 : wr.cell? ⟨g, m * 2 + 1, none⟩ = some old := (blk_cell hg _).trans hold
                have ff : ∀ j, wr.frozen? ⟨g, j, none⟩ = false := blk_frozen hg
                have HN := Lib.hid (show XW W9 (some ⟨g, 0, none⟩) l'.length (wr.setCell ⟨g, m * 2 + 1, none⟩ (.string ⟨#[111, 116, 104, 101, 114]⟩)) from .inr ⟨g, _, rfl, hs.setCell (fun _ h => h rfl) _, blk_set hg _ _, by simpa using hcur⟩)
                clear hs hg hcur hold
                go_wp2
                exact ⟨⟨m + 1, by omega, by go_num, HN⟩, by simp [intOf]; omega⟩
            · obtain rfl : m = l'.length := by omega
              have hnlt : ¬ ((l'.length : Int) < (l'.length : Int)) := by omega
              have hsw : ∀ k, k < W1.heap.size → wr.heap[k]? = W1.heap[k]? := fun k hk => (HM.out.keep (fun g hg => by have := HXr.out g hg; omega) (by have := HC.out.2.1.size; have := H9.out.2.size; omega)).trans ((H9.out.2.block k (by have := HC.out.2.1.size; omega)).trans (HC.out.2.1.block k hk))
              have hE5 := same_any l' l' _ _ wr (Sees.same (S := fun _ => True) (HA.out.2.1.below HB.out.1) fun k _ hk => hsw k hk) (Sees.same (S := fun _ => True) HB.out.2.2.1 fun k _ hk => hsw k hk) (by have := HS0.out; omega)
              simp only [decide_true] at hE5
              have KE5 := Lib.hid hE5
              clear hsw hE5
              go_wp2_with fail
              refine KE5.out.mono ?_
              rintro e V7 ⟨rfl, hb⟩
              have H7 := Lib.hid hb
              clear hb
              go_wp2
              have hbw9 : Below w.heap.size w wr := (HC.out.2.2.1.trans (H9.out.2.mono HC.out.2.2.1.size)).trans (HM.out.below (fun g hg => by have := HXr.out g hg; have := HB.out.2.1.size; omega) (by have := HC.out.2.2.1.size; have := H9.out.2.size; omega))
              refine ⟨⟨k + 1, by omega, by omega, by go_num, Lib.hid ⟨hbw9.trans (H7.out.mono hbw9.size), l', HB.out.2.2.2.2, own_read ?_ H7.out⟩⟩, by simp [intOf]; omega⟩
              have h9 := H9.out.1
              refine ⟨h9.1, h9.2.imp id ?_⟩
              rintro ⟨g9, cp, cu, e1, e2, e3, e4⟩
              have hg9 := (Array.getElem?_eq_some_iff.1 e3).1
              refine ⟨g9, cp, cu, e1, by have := HC.out.2.2.1.size; omega, ?_, e4⟩
              rw [HM.out.keep (fun g hg => by have := HXr.out g hg; have := HC.out.1.size; omega) hg9]
              exact e3
      · have hlt2' : ¬ (k : Int) < 150 := by omega
        go_wp2
        go_ret
        exact ⟨rfl, HK.out.1⟩
    · have hlt' : ¬ (k : Int) < (L.length : Int) := by omega
      go_wp2
      go_ret
      exact ⟨rfl, HK.out.1⟩
end Go.Proofs.YtmkcbkdbdcnoiaaGreatDoor
