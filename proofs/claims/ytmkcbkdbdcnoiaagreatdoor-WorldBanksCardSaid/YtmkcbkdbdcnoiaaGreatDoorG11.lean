/- Package shop: are, Right, done, List, Cancel. The iterator of shop.fields: where a listing's fields are, and how many bytes they have. Package shop: Bytes. -/
import Derived.Test.YtmkcbkdbdcnoiaaGreatDoorG05
import Derived.Test.YtmkcbkdbdcnoiaaGreatDoorG07
import Derived.Test.YtmkcbkdbdcnoiaaGreatDoorG10
namespace Go.Proofs.YtmkcbkdbdcnoiaaGreatDoor
open Go.RowKit
set_option linter.unusedVariables false
set_option linter.unusedSimpArgs false

set_option maxHeartbeats 400000 in
set_option maxRecDepth 100000 in
theorem sare_any (l : List Int) (n : Nat) (v : Value) (w : World) (hn : l.length = n) (hv : Sees w v n 1 (ints l)) (hl : n ≤ 1000000) : Calls Tryz.prog 194 #[v] w fun e w' => e = .returned (.bool (l.all okA)) ∧ w' = w := by
  obtain ⟨_, base, cap, rfl, hcap, hr⟩ := hv
  have HR := Lib.hid hr
  have HN := Lib.hid hn
  clear hr hn
  go_enter Tryz.func194, Tryz.ntmps194
  go_wp2
  go_loop [7] (fun i => ∃ k : Nat, k ≤ n ∧ i = .int .i64 (k : Int) ∧ Hid ((l.take k).all okA = true)) (fun i => n - (intOf i).toNat)
  case atStart => exact ⟨0, Nat.zero_le _, rfl, Lib.hid rfl⟩
  case round =>
    obtain ⟨k, hk, rfl, HA⟩ := hrel
    by_cases hlt : k < n
    · obtain ⟨a, rfl, hcs⟩ := HR.out.resolve_left (by omega)
      have hkl : k < l.length := by have := HN.out; omega
      obtain ⟨x, hx⟩ : ∃ x, l[k]'hkl = x := ⟨_, rfl⟩
      have c0 : w.cell? (a.add k) = some (.int .i64 x) := hcs k _ (by simp [ints, hkl, hx])
      have hlt' : (k : Int) < (n : Int) := by omega
      have HX := Lib.hid hx
      clear hcs hx
      rcases hok : okA x with _ | _
      · have hok' : (!okA x) = true := by rw [hok]; rfl
        go_wp2_with (go_at_call 105; with_reducible refine (right_any x _).mono ?_; rintro e w' ⟨rfl, rfl⟩)
        go_ret
        refine ⟨?_, rfl⟩
        have : l.all okA = false := by
          rw [List.all_eq_false]
          exact ⟨x, by rw [← HX.out]; exact List.getElem_mem hkl, by simp [hok]⟩
        rw [this]; rfl
      · have hok' : (!okA x) = false := by rw [hok]; rfl
        go_wp2_with (go_at_call 105; with_reducible refine (right_any x _).mono ?_; rintro e w' ⟨rfl, rfl⟩)
        refine ⟨⟨k + 1, by omega, by go_num, Lib.hid ?_⟩, by simp [intOf]; omega⟩
        rw [List.take_succ_eq_append_getElem hkl, List.all_append, HA.out, HX.out]
        simp [hok]
    · obtain rfl : k = n := by omega
      go_wp2
      go_ret
      refine ⟨?_, rfl⟩
      have h := HA.out
      rw [List.take_of_length_le (by have := HN.out; omega)] at h
      rw [h]; rfl

/-- A listing: who sells, an item, how many, the price. -/
abbrev Sl := Int × Int × Int × Int
def slv (m : Sl) : Value := .agg #[.int .u32 m.1, .int .u16 m.2.1, .int .i64 m.2.2.1, .int .i64 m.2.2.2]
def slc (m : Sl) : Array Value := #[.int .u32 m.1, .int .u16 m.2.1, .int .i64 m.2.2.1, .int .i64 m.2.2.2]
def slRight (m : Sl) : Bool := (decide (1 ≤ m.1) && decide (m.1 ≤ 1000000)) && [m.2.2.1, m.2.2.2].all okA && decide (0 < m.2.2.1)

set_option maxHeartbeats 2000000 in
set_option maxRecDepth 100000 in
theorem slright_any (m : Sl) (w : World) : Calls Tryz.prog 169 #[slv m] w fun e w' => e = .returned (.bool (slRight m)) ∧ Below w.heap.size w w' := by
  obtain ⟨f, i, c, p⟩ := m
  obtain ⟨W, hW⟩ : ∃ W, w.alloc (.cells #[.int .u32 f, .int .u16 i, .int .i64 c, .int .i64 p] 68) = W := ⟨_, rfl⟩
  have hb0 : Below w.heap.size w W := by rw [← hW]; exact (Below.refl _ w).alloc (Nat.le_refl _) _
  have c0 : ∀ j, W.cell? ⟨w.heap.size, j, none⟩ = (#[.int .u32 f, .int .u16 i, .int .i64 c, .int .i64 p] : Array Value)[j]? := by rw [← hW]; exact blk_cell (heap_alloc_new w _)
  have HB := Lib.hid hb0
  have hS : Sees (W.alloc (.cells #[.int .i64 c, .int .i64 p] 2)) (.slice (some ⟨W.heap.size, 0, none⟩) 2 2) 2 1 (ints [c, p]) := Sees.of_blk (heap_alloc_new W _) rfl
  have hA := sare_any [c, p] 2 _ (W.alloc (.cells #[.int .i64 c, .int .i64 p] 2)) rfl hS (by omega)
  have c1 : ∀ j, (W.alloc (.cells #[.int .i64 c, .int .i64 p] 2)).cell? ⟨w.heap.size, j, none⟩ = (#[.int .u32 f, .int .u16 i, .int .i64 c, .int .i64 p] : Array Value)[j]? := blk_cell (keep_a _ (by rw [← hW]; exact heap_alloc_new w _))
  generalize hR : slRight (f, i, c, p) = R
  simp only [slRight] at hR
  have HR := Lib.hid hR
  unfold slv
  dsimp only
  clear hb0 hR hS
  rcases h1 : decide (1 ≤ f) with _ | _
  · go_enter Tryz.func169, Tryz.ntmps169
    go_wp2
    go_ret
    have hR := HR.out
    simp only [h1, Bool.false_and] at hR
    exact ⟨by rw [← hR]; try rfl, HB.out⟩
  · rcases h2 : decide (f ≤ 1000000) with _ | _
    · go_enter Tryz.func169, Tryz.ntmps169
      go_wp2
      go_ret
      have hR := HR.out
      simp only [h1, h2, Bool.true_and, Bool.false_and] at hR
      exact ⟨by rw [← hR]; try rfl, HB.out⟩
    · generalize [c, p].all okA = A at hA HR
      rcases A with _ | _
      · go_enter Tryz.func169, Tryz.ntmps169
        go_wp2_with (go_at_call 194; (with_reducible refine hA.mono ?_); rintro e w' ⟨rfl, rfl⟩)
        go_ret
        have hR := HR.out
        simp only [h1, h2, Bool.true_and, Bool.false_and] at hR
        exact ⟨by rw [← hR]; try rfl, HB.out.alloc HB.out.size _⟩
      · rcases h3 : decide (0 < c) with _ | _
        all_goals
          go_enter Tryz.func169, Tryz.ntmps169
          go_wp2_with (go_at_call 194; (with_reducible refine hA.mono ?_); rintro e w' ⟨rfl, rfl⟩)
          go_ret
          have hR := HR.out
          simp only [h1, h2, h3, Bool.true_and, Bool.false_and] at hR
          exact ⟨by rw [← hR]; try rfl, HB.out.alloc HB.out.size _⟩
theorem slRight_ok {m : Sl} (h : slRight m = true) : (1 ≤ m.1 ∧ m.1 ≤ 1000000) ∧ (0 < m.2.2.1 ∧ m.2.2.1 ≤ 1152921504606846976) ∧ (0 ≤ m.2.2.2 ∧ m.2.2.2 ≤ 1152921504606846976) := by
  unfold slRight at h
  simp only [Bool.and_eq_true, decide_eq_true_eq, List.all_cons, List.all_nil, okA_iff] at h
  omega

/-- What List answers. -/
def sList (l : List Stk) (m : Sl) : List Stk × Int := if slRight m = true then gTake l (m.2.1, m.2.2.1) else ([], 150)
set_option maxHeartbeats 1000000 in
set_option maxRecDepth 100000 in
theorem sdone_110 (l : List Stk) (m : Sl) (v : Value) (w : World) (hv : Sees w v l.length 2 (stks l)) (hl : l.length ≤ 1000) (hG : Glob w) :
    Calls Tryz.prog 168 #[v, slv m, .func (.func 110) #[] #[]] w fun e w' => OwnEPost (sList l m) w e w' := by
  obtain ⟨W, hW⟩ : ∃ W, w.alloc (.cells (slc m) 68) = W := ⟨_, rfl⟩
  have hb0 : Below w.heap.size w W := hW ▸ (Below.refl _ w).alloc (Nat.le_refl _) _
  have HB := Lib.hid (show Hs w [(w.heap.size, .cells (slc m) 68 (0, 0))] W from ⟨hb0, fun x hx => by simp only [List.mem_cons, List.not_mem_nil, or_false] at hx; subst hx; rw [← hW]; exact heap_alloc_new w _⟩)
  have hA := slright_any m W
  have hD := fun V h1 h2 => take_any l (m.2.1, m.2.2.1) v V h1 hl h2
  have HS := Lib.hid (And.intro (hv.below hb0) (hG.below hb0))
  obtain ⟨base, cap, rfl⟩ := hv.shape
  generalize hL : sList l m = L
  unfold sList at hL
  obtain ⟨f, i, c, p⟩ := m
  unfold slv slc stkv at *
  dsimp only at hD hL hW HB ⊢
  have c0 : ∀ j, W.cell? ⟨w.heap.size, j, none⟩ = (#[.int .u32 f, .int .u16 i, .int .i64 c, .int .i64 p] : Array Value)[j]? := blk_cell (HB.out.at _ _ (by (first | exact hs_mem0 | exact hs_mem1 | exact hs_mem2 | exact hs_mem3 | exact hs_mem4)))
  generalize gTake l (i, c) = X at hL hD
  obtain ⟨x, xe⟩ := X
  have HD := Lib.hid hD
  clear hD hv hG hb0
  rcases hr : slRight (f, i, c, p) with _ | _
  · rw [hr] at hA hL
    simp only [Bool.false_eq_true, if_false] at hL
    subst hL
    have HA := Lib.hid hA
    clear hA
    go_enter Tryz.func168, Tryz.ntmps168
    go_wp2_with fail
    refine HA.out.mono ?_
    rintro e W2 ⟨rfl, hb⟩
    have H2 := Lib.hid (HB.out.below hb)
    clear hb c0
    go_wp2
    go_ret2
    exact ⟨_, rfl, own_nil _ _ _, H2.out.1⟩
  · rw [hr] at hA hL
    simp only [if_true] at hL
    subst hL
    have HA := Lib.hid hA
    clear hA
    go_enter Tryz.func168, Tryz.ntmps168
    go_wp2_with fail
    refine HA.out.mono ?_
    rintro e W2 ⟨rfl, hb⟩
    have H2 := Lib.hid (And.intro (HB.out.below hb) (And.intro (HS.out.1.below hb) (HS.out.2.below hb)))
    clear hb c0
    have c0 : ∀ j, W2.cell? ⟨w.heap.size, j, none⟩ = (#[.int .u32 f, .int .u16 i, .int .i64 c, .int .i64 p] : Array Value)[j]? := blk_cell (H2.out.1.at _ _ (by (first | exact hs_mem0 | exact hs_mem1 | exact hs_mem2 | exact hs_mem3 | exact hs_mem4)))
    go_wp2_with fail
    refine (HD.out W2 H2.out.2.1 H2.out.2.2).mono ?_
    rintro e W3 ⟨u, rfl, hu, hb⟩
    have HU := Lib.hid (And.intro (ownsRow_base hu H2.out.1.1.size) (H2.out.1.below hb))
    clear hb c0 hu
    go_wp2
    go_ret2
    exact ⟨_, rfl, HU.out.1, HU.out.2.1⟩

set_option maxHeartbeats 1000000 in
set_option maxRecDepth 100000 in
theorem shopList_any (l : List Stk) (m : Sl) (v : Value) (w : World) (hv : Sees w v l.length 2 (stks l)) (hl : l.length ≤ 1000) (hG : Glob w) :
    Calls Tryz.prog 121 #[v, slv m] w fun e w' => OwnEPost (sList l m) w e w' := by
  obtain ⟨W, hW⟩ : ∃ W, w.alloc (.cells (slc m) 68) = W := ⟨_, rfl⟩
  have hb0 : Below w.heap.size w W := hW ▸ (Below.refl _ w).alloc (Nat.le_refl _) _
  have h0 : W.heap[w.heap.size]? = some (.cells (slc m) 68 (0, 0)) := by rw [← hW]; exact heap_alloc_new w _
  have hD := sdone_110 l m v W (hv.below hb0) hl (hG.below hb0)
  obtain ⟨base, cap, rfl⟩ := hv.shape
  generalize sList l m = L at hD ⊢
  obtain ⟨L, Le⟩ := L
  obtain ⟨f, i, c, p⟩ := m
  unfold slv slc at *
  dsimp only at hD h0 hW ⊢
  have c0 : ∀ j, W.cell? ⟨w.heap.size, j, none⟩ = (#[.int .u32 f, .int .u16 i, .int .i64 c, .int .i64 p] : Array Value)[j]? := blk_cell h0
  have HD := Lib.hid (And.intro hD hb0)
  clear hD hb0 hv hG h0
  go_enter Tryz.func121, Tryz.ntmps121
  go_wp2_with fail
  refine HD.out.1.mono ?_
  rintro e W3 ⟨u, rfl, hu, hb⟩
  have HU := Lib.hid (And.intro (ownsRow_base hu HD.out.2.size) (HD.out.2.trans (hb.mono HD.out.2.size)))
  clear hb c0 hu
  go_wp2
  go_ret2
  exact ⟨_, rfl, HU.out.1, HU.out.2⟩

/-- What Cancel answers. -/
def sCancel (l : List Stk) (m : Sl) : List Stk × Int := if slRight m = true then gGive l (m.2.1, m.2.2.1) else ([], 150)
set_option maxHeartbeats 1000000 in
set_option maxRecDepth 100000 in
theorem sdone_107 (l : List Stk) (m : Sl) (v : Value) (w : World) (hv : Sees w v l.length 2 (stks l)) (hl : l.length ≤ 1000) (hG : Glob w) :
    Calls Tryz.prog 168 #[v, slv m, .func (.func 107) #[] #[]] w fun e w' => OwnEPost (sCancel l m) w e w' := by
  obtain ⟨W, hW⟩ : ∃ W, w.alloc (.cells (slc m) 68) = W := ⟨_, rfl⟩
  have hb0 : Below w.heap.size w W := hW ▸ (Below.refl _ w).alloc (Nat.le_refl _) _
  have HB := Lib.hid (show Hs w [(w.heap.size, .cells (slc m) 68 (0, 0))] W from ⟨hb0, fun x hx => by simp only [List.mem_cons, List.not_mem_nil, or_false] at hx; subst hx; rw [← hW]; exact heap_alloc_new w _⟩)
  have hA := slright_any m W
  have hD := fun V h1 h2 => give_any l (m.2.1, m.2.2.1) v V h1 hl h2
  have HS := Lib.hid (And.intro (hv.below hb0) (hG.below hb0))
  obtain ⟨base, cap, rfl⟩ := hv.shape
  generalize hL : sCancel l m = L
  unfold sCancel at hL
  obtain ⟨f, i, c, p⟩ := m
  unfold slv slc stkv at *
  dsimp only at hD hL hW HB ⊢
  have c0 : ∀ j, W.cell? ⟨w.heap.size, j, none⟩ = (#[.int .u32 f, .int .u16 i, .int .i64 c, .int .i64 p] : Array Value)[j]? := blk_cell (HB.out.at _ _ (by (first | exact hs_mem0 | exact hs_mem1 | exact hs_mem2 | exact hs_mem3 | exact hs_mem4)))
  generalize gGive l (i, c) = X at hL hD
  obtain ⟨x, xe⟩ := X
  have HD := Lib.hid hD
  clear hD hv hG hb0
  rcases hr : slRight (f, i, c, p) with _ | _
  · rw [hr] at hA hL
    simp only [Bool.false_eq_true, if_false] at hL
    subst hL
    have HA := Lib.hid hA
    clear hA
    go_enter Tryz.func168, Tryz.ntmps168
    go_wp2_with fail
    refine HA.out.mono ?_
    rintro e W2 ⟨rfl, hb⟩
    have H2 := Lib.hid (HB.out.below hb)
    clear hb c0
    go_wp2
    go_ret2
    exact ⟨_, rfl, own_nil _ _ _, H2.out.1⟩
  · rw [hr] at hA hL
    simp only [if_true] at hL
    subst hL
    have HA := Lib.hid hA
    clear hA
    go_enter Tryz.func168, Tryz.ntmps168
    go_wp2_with fail
    refine HA.out.mono ?_
    rintro e W2 ⟨rfl, hb⟩
    have H2 := Lib.hid (And.intro (HB.out.below hb) (And.intro (HS.out.1.below hb) (HS.out.2.below hb)))
    clear hb c0
    have c0 : ∀ j, W2.cell? ⟨w.heap.size, j, none⟩ = (#[.int .u32 f, .int .u16 i, .int .i64 c, .int .i64 p] : Array Value)[j]? := blk_cell (H2.out.1.at _ _ (by (first | exact hs_mem0 | exact hs_mem1 | exact hs_mem2 | exact hs_mem3 | exact hs_mem4)))
    go_wp2_with fail
    refine (HD.out W2 H2.out.2.1 H2.out.2.2).mono ?_
    rintro e W3 ⟨u, rfl, hu, hb⟩
    have HU := Lib.hid (And.intro (ownsRow_base hu H2.out.1.1.size) (H2.out.1.below hb))
    clear hb c0 hu
    go_wp2
    go_ret2
    exact ⟨_, rfl, HU.out.1, HU.out.2.1⟩

set_option maxHeartbeats 1000000 in
set_option maxRecDepth 100000 in
theorem shopCancel_any (l : List Stk) (m : Sl) (v : Value) (w : World) (hv : Sees w v l.length 2 (stks l)) (hl : l.length ≤ 1000) (hG : Glob w) :
    Calls Tryz.prog 125 #[v, slv m] w fun e w' => OwnEPost (sCancel l m) w e w' := by
  obtain ⟨W, hW⟩ : ∃ W, w.alloc (.cells (slc m) 68) = W := ⟨_, rfl⟩
  have hb0 : Below w.heap.size w W := hW ▸ (Below.refl _ w).alloc (Nat.le_refl _) _
  have h0 : W.heap[w.heap.size]? = some (.cells (slc m) 68 (0, 0)) := by rw [← hW]; exact heap_alloc_new w _
  have hD := sdone_107 l m v W (hv.below hb0) hl (hG.below hb0)
  obtain ⟨base, cap, rfl⟩ := hv.shape
  generalize sCancel l m = L at hD ⊢
  obtain ⟨L, Le⟩ := L
  obtain ⟨f, i, c, p⟩ := m
  unfold slv slc at *
  dsimp only at hD h0 hW ⊢
  have c0 : ∀ j, W.cell? ⟨w.heap.size, j, none⟩ = (#[.int .u32 f, .int .u16 i, .int .i64 c, .int .i64 p] : Array Value)[j]? := blk_cell h0
  have HD := Lib.hid (And.intro hD hb0)
  clear hD hb0 hv hG h0
  go_enter Tryz.func125, Tryz.ntmps125
  go_wp2_with fail
  refine HD.out.1.mono ?_
  rintro e W3 ⟨u, rfl, hu, hb⟩
  have HU := Lib.hid (And.intro (ownsRow_base hu HD.out.2.size) (HD.out.2.trans (hb.mono HD.out.2.size)))
  clear hb c0 hu
  go_wp2
  go_ret2
  exact ⟨_, rfl, HU.out.1, HU.out.2⟩

end Go.Proofs.YtmkcbkdbdcnoiaaGreatDoor
namespace Go.Proofs.YtmkcbkdbdcnoiaaGreatDoor
open Go.RowKit
set_option linter.unusedVariables false
set_option linter.unusedSimpArgs false
attribute [local go_sem] Oper.semAt_some

def encF (x : Nat × Nat) : Array Value := #[.int .i64 (x.1 : Int), .int .i64 (x.2 : Int)]
def offs (at_ : Nat) : List Nat → List (Nat × Nat)
  | [] => []
  | z :: l => (at_, z) :: offs (at_ + z) l

set_option maxHeartbeats 1000000 in
set_option maxRecDepth 100000 in
theorem fields_iter (n : Nat) (w : World) (h1 : 1 ≤ n) : Iter n Tryz.prog 195 #[] encF (offs 0 [4, 2, 8, 8]) (fun _ => False) (fun _ => False) 1 w := by
  intro lp J Jx W hW hsame hJ hJx hY h0
  have HY := Lib.hid hY
  have HJ := Lib.hid hJ
  have H0 := Lib.hid h0
  clear hY hJ hJx h0 hsame
  refine callsIn_of_wp Tryz.func195 rfl trivial ?_ rfl
  simp only [Tryz.ntmps195, List.size_toArray, List.length_cons, List.length_nil, Nat.reduceAdd, Nat.reduceSub, Array.replicate_succ, Array.replicate_zero, List.push_toArray, List.append_toArray, List.nil_append, List.cons_append]
  gi_wp2
  gi_loopw [2, 7] (fun a i wr => ∃ (j at_ : Nat) (pre : List (Nat × Nat)), j ≤ 4 ∧ i = .int .i64 (j : Int) ∧ a = .int .i64 (at_ : Int) ∧ at_ ≤ 8 * j ∧ Hid (offs 0 [4, 2, 8, 8] = pre ++ offs at_ ([4, 2, 8, 8].drop j)) ∧
      Hid (wr.heap[W.heap.size]? = some (.cells #[.int .i64 4, .int .i64 2, .int .i64 8, .int .i64 8] 3 (0, 0))) ∧ Hid (J pre wr) ∧ W.heap.size + 1 ≤ wr.heap.size) (fun _ i _ => 4 - (intOf i).toNat)
  case atStart =>
    refine ⟨0, 0, [], Nat.zero_le _, rfl, rfl, by omega, Lib.hid rfl, Lib.hid (heap_alloc_new W _), Lib.hid ?_, by simp⟩
    exact HJ.out _ _ _ H0.out (Nat.le_refl _) ((Same.refl _ W).alloc _)
  case round =>
    obtain ⟨j, at_, pre, hj, rfl, rfl, hat, HP, HB, HJp, hsz⟩ := hrel
    by_cases hlt : j < 4
    · have hlen : j < ([4, 2, 8, 8] : List Nat).length := hlt
      obtain ⟨z, hz⟩ : ∃ z, ([4, 2, 8, 8] : List Nat)[j]'hlen = z := ⟨_, rfl⟩
      have hz8 : z ≤ 8 := by
        have : j = 0 ∨ j = 1 ∨ j = 2 ∨ j = 3 := by omega
        rcases this with rfl | rfl | rfl | rfl <;> (rw [← hz]; simp)
      have hdrop : ([4, 2, 8, 8] : List Nat).drop j = z :: ([4, 2, 8, 8] : List Nat).drop (j + 1) := by rw [← hz]; exact List.drop_eq_getElem_cons hlen
      have HX := Lib.hid (HP.out.trans (by rw [hdrop]; rfl : pre ++ offs at_ (([4, 2, 8, 8] : List Nat).drop j) = pre ++ (at_, z) :: offs (at_ + z) (([4, 2, 8, 8] : List Nat).drop (j + 1))))
      have hca : wr.cell? ⟨W.heap.size, j, none⟩ = some (.int .i64 (z : Int)) := by
        rw [blk_cell HB.out]
        have : j = 0 ∨ j = 1 ∨ j = 2 ∨ j = 3 := by omega
        rcases this with rfl | rfl | rfl | rfl <;> (rw [← hz]; rfl)
      obtain ⟨fn, tmps, assign, body, hy, hR⟩ := HY.out pre _ _ wr wr HX.out HJp.out (by simpa using hsz) (Same.refl _ _)
      dsimp only [encF] at hy
      have HRR := Lib.hid hR
      have hlt' : (j : Int) < 4 := by omega
      have hws : IntKind.i64.wrap ((at_ : Int) + (z : Int)) = (at_ : Int) + (z : Int) := IntWalk.i64_in _ (by omega)
      clear hR hdrop hz hlen
      gi_wp2
      refine HRR.out.mono ?_
      rintro e W3 (⟨rfl, hJ3, hk3⟩ | ⟨rfl, hJx3⟩)
      · have hq := hk3.size
        have g0 := hk3.at_ HB.out (.inr (.inr (.inl ⟨Nat.le_refl _, by omega⟩)))
        have HQ := Lib.hid (And.intro hJ3 g0)
        clear hJ3 hk3 hca g0
        gi_wp2
        go_roundw
        case rel =>
          exact ⟨j + 1, at_ + z, pre ++ [(at_, z)], by omega, by go_num, by push_cast; rfl, by omega, Lib.hid (by rw [HX.out, List.append_assoc]; rfl), Lib.hid HQ.out.2, Lib.hid HQ.out.1, by omega⟩
        case measure => simp [intOf]; omega
      · have H3 := Lib.hid hJx3
        clear hJx3
        gi_wp2
        refine bodyPost_ret (results_none rfl _ _ _) rfl ?_
        exact ⟨⟨_, rfl⟩, .inr ⟨pre ++ [(at_, z)], ⟨_, by rw [List.append_assoc]; exact HX.out.symm⟩, H3.out⟩⟩
    · obtain rfl : j = 4 := by omega
      have hX := HP.out
      rw [show ([4, 2, 8, 8] : List Nat).drop 4 = [] from rfl, offs, List.append_nil] at hX
      have HX2 := Lib.hid hX
      clear hX hlt
      gi_wp2
      go_end0
      exact ⟨⟨_, rfl⟩, .inl ⟨by omega, by have := HJp.out; rwa [← HX2.out] at this⟩⟩

set_option maxHeartbeats 400000 in
set_option maxRecDepth 100000 in
theorem sfields_any (w : World) : Calls Tryz.prog 170 #[] w fun e w' => e = .returned (.func (.func 195) #[] #[]) ∧ w' = w := by
  go_enter Tryz.func170, Tryz.ntmps170
  go_wp2
  go_ret
  exact ⟨rfl, rfl⟩
end Go.Proofs.YtmkcbkdbdcnoiaaGreatDoor
namespace Go.Proofs.YtmkcbkdbdcnoiaaGreatDoor
open Go.RowKit
set_option linter.unusedVariables false
set_option linter.unusedSimpArgs false
attribute [local go_sem] Oper.semAt_some

def slBytes (m : Sl) : List UInt8 × Int := if slRight m = true then (fieldBytes [(m.1.toNat, 4), (m.2.1.toNat, 2), (m.2.2.1.toNat, 8), (m.2.2.2.toNat, 8)], 0) else ([], 150)

/-- The first so many bytes of a field, written. -/
def stamp (L : List UInt8) (at_ v size : Nat) : Nat → List UInt8
  | 0 => L
  | i + 1 => (stamp L at_ v size i).set (at_ + i) (UInt8.ofNat (v >>> (8 * (size - 1 - i))))
theorem stamp_length (L : List UInt8) (at_ v size i : Nat) : (stamp L at_ v size i).length = L.length := by
  induction i with
  | zero => rfl
  | succ i ih => rw [stamp, List.length_set, ih]

def stamps : List UInt8 → List Nat → List (Nat × Nat) → List UInt8
  | L, v :: vs, x :: xs => stamps (stamp L x.1 v x.2 x.2) vs xs
  | L, _, _ => L
theorem stamps_length (xs : List (Nat × Nat)) : ∀ (L : List UInt8) (vs : List Nat), (stamps L vs xs).length = L.length := by
  induction xs with
  | nil => intro L vs; cases vs <;> rfl
  | cons x xs ih => intro L vs; cases vs with
    | nil => rfl
    | cons v vs => rw [stamps, ih, stamp_length]
theorem stamps_step {pre rest : List (Nat × Nat)} {x : Nat × Nat} (h : offs 0 [4, 2, 8, 8] = pre ++ x :: rest) (L : List UInt8) (a b c d : Nat) :
    ∃ v, [a, b, c, d][pre.length]? = some v ∧ pre.length < 4 ∧ x.1 + x.2 ≤ 22 ∧ 1 ≤ x.2 ∧ x.2 ≤ 8 ∧ stamps L [a, b, c, d] (pre ++ [x]) = stamp (stamps L [a, b, c, d] pre) x.1 v x.2 x.2 := by
  simp only [offs, Nat.zero_add, Nat.reduceAdd] at h
  rcases pre with _ | ⟨p0, _ | ⟨p1, _ | ⟨p2, _ | ⟨p3, pre⟩⟩⟩⟩
  · simp only [List.nil_append, List.cons.injEq] at h
    obtain ⟨rfl, _⟩ := h
    exact ⟨a, rfl, by simp, by simp, by simp, by simp, rfl⟩
  · simp only [List.cons_append, List.nil_append, List.cons.injEq] at h
    obtain ⟨rfl, rfl, _⟩ := h
    exact ⟨b, rfl, by simp, by simp, by simp, by simp, rfl⟩
  · simp only [List.cons_append, List.nil_append, List.cons.injEq] at h
    obtain ⟨rfl, rfl, rfl, _⟩ := h
    exact ⟨c, rfl, by simp, by simp, by simp, by simp, rfl⟩
  · simp only [List.cons_append, List.nil_append, List.cons.injEq] at h
    obtain ⟨rfl, rfl, rfl, rfl, _⟩ := h
    exact ⟨d, rfl, by simp, by simp, by simp, by simp, rfl⟩
  · have := congrArg List.length h
    simp at this
theorem stamps_all (a b c d : Nat) : stamps (List.replicate 22 0) [a, b, c, d] (offs 0 [4, 2, 8, 8]) = fieldBytes [(a, 4), (b, 2), (c, 8), (d, 8)] := by simp [stamps, offs, stamp, fieldBytes, be, List.replicate]
theorem blk_text {w : World} {g n cap : Nat} {l : List UInt8} {t : TypeId} {fr : Nat × Nat} (h : w.heap[g]? = some (.cells (Lib.byteCells l).toArray t fr)) (hl : l.length = n) : (convert 197 9 (.slice (some ⟨g, 0, none⟩) n cap)).run Tryz.prog w = .ok (.string ⟨l.toArray⟩) w := by
  have e : strOfNums (l.map fun b => (b.toNat : Int)) = ⟨l.toArray⟩ := by
    apply ByteArray.ext
    apply Array.toList_inj.1
    rw [strOfNums_data, List.map_map]
    conv => rhs; rw [← List.map_id l]
    apply List.map_congr_left
    intro b _
    simp
  rw [← e]
  refine run_convert_bytes_arg w 197 5 Tryz.underlying197 Tryz.underlying5 g 0 n cap _ (by simpa using hl) (fun i hi => ?_) 9 Tryz.underlying9
  rw [Nat.zero_add, blk_cell h]
  simp [Lib.byteCells, List.getElem?_eq_getElem (show i < l.length by omega)]
/-- What Bytes' rounds keep. -/
def SlI (w : World) (g a b c d : Nat) (pre : List (Nat × Nat)) (nb : Nat) (W : World) : Prop :=
  W.heap[g]? = some (.cells (Lib.byteCells (stamps (List.replicate 22 0) [a, b, c, d] pre)).toArray 192 (0, 0)) ∧ W.heap[g + 1]? = some (.cells #[.int .u64 (a : Int), .int .u64 (b : Int), .int .u64 (c : Int), .int .u64 (d : Int)] 88 (0, 0)) ∧
  W.heap[g + 2]? = some (.cells #[.slice (some ⟨g + 1, min pre.length 3, none⟩) (4 - pre.length) (4 - pre.length)] 193 (0, 0)) ∧ Below w.heap.size w W
theorem set_byteCells (L : List UInt8) (k : Nat) (b : UInt8) : ((Lib.byteCells L).toArray).setIfInBounds k (.int .u8 (b.toNat : Int)) = (Lib.byteCells (L.set k b)).toArray := by
  simp [Lib.byteCells, List.map_set]

/-- A record that is zero. -/
def zr : Array Value := #[.int .u8 0, .int .u8 0, .int .u8 0, .int .u8 0, .int .u8 0, .int .u8 0, .int .u8 0, .int .u8 0, .int .u8 0, .int .u8 0, .int .u8 0, .int .u8 0, .int .u8 0, .int .u8 0, .int .u8 0, .int .u8 0, .int .u8 0, .int .u8 0, .int .u8 0, .int .u8 0, .int .u8 0, .int .u8 0]

set_option maxHeartbeats 2000000 in
set_option maxRecDepth 100000 in
theorem slBytes_any (m : Sl) (w : World) (h1 : 0 ≤ m.2.1) (h2 : m.2.1 < 65536) : Calls Tryz.prog 122 #[slv m] w fun e w' => e = .returned (.tuple #[.string ⟨(slBytes m).1.toArray⟩, .int .i64 (slBytes m).2]) ∧ Below w.heap.size w w' := by
  obtain ⟨W, hW⟩ : ∃ W, w.alloc (.cells (slc m) 68) = W := ⟨_, rfl⟩
  have HK : Hid (Kp w w.heap.size (.cells (slc m) 68 (0, 0)) W) := Lib.hid (by rw [← hW]; exact ⟨(Below.refl _ w).alloc (Nat.le_refl _) _, heap_alloc_new w _⟩)
  have hA := slright_any m W
  obtain ⟨R, hR⟩ : ∃ R, slBytes m = R := ⟨_, rfl⟩
  rw [hR]
  unfold slBytes at hR
  have hok := fun h => slRight_ok (m := m) h
  obtain ⟨f, i, c, p⟩ := m
  unfold slv slc at *
  dsimp only at *
  have c0 := HK.out.cell
  rcases hr : slRight (f, i, c, p) with _ | _
  · rw [hr] at hA hR
    simp only [Bool.false_eq_true, if_false] at hR
    subst hR
    have HA := Lib.hid hA
    clear hA hok
    go_enter Tryz.func122, Tryz.ntmps122
    go_wp2_with fail
    refine HA.out.mono ?_
    rintro e W2 ⟨rfl, hb⟩
    have HB := Lib.hid (HK.out.below hb)
    clear hb
    go_wp2
    go_ret2
    exact ⟨rfl, HB.out.1⟩
  · obtain ⟨⟨f1, f2⟩, ⟨c1, c2⟩, p1, p2⟩ := hok hr
    rw [hr] at hA hR
    simp only [if_true] at hR
    obtain ⟨f, rfl⟩ := Int.eq_ofNat_of_zero_le (show 0 ≤ f by omega)
    obtain ⟨c, rfl⟩ := Int.eq_ofNat_of_zero_le (show 0 ≤ c by omega)
    obtain ⟨i, rfl⟩ := Int.eq_ofNat_of_zero_le h1
    obtain ⟨p, rfl⟩ := Int.eq_ofNat_of_zero_le p1
    simp only [Int.toNat_natCast] at hR
    have HR := Lib.hid hR
    have HA := Lib.hid hA
    clear hA hok hR hr
    have x1 : IntKind.u64.wrap (f : Int) = (f : Int) := IntWalk.u64_in _ (by omega)
    have x2 : IntKind.u64.wrap (p : Int) = (p : Int) := IntWalk.u64_in _ (by omega)
    have x3 : IntKind.u64.wrap (i : Int) = (i : Int) := IntWalk.u64_in _ (by omega)
    have x4 : IntKind.u64.wrap (c : Int) = (c : Int) := IntWalk.u64_in _ (by omega)
    have HF := Lib.hid (And.intro f2 (And.intro c2 (And.intro p2 h2)))
    clear f1 f2 c1 c2 p1 p2 h1 h2
    refine (callsIn_wide (n := 9)).1 ?_
    refine callsIn_of_wp_marks Tryz.func122 rfl trivial ?_ rfl
    simp only [Tryz.ntmps122, List.size_toArray, List.length_cons, List.length_nil, Nat.reduceAdd, Nat.reduceSub, Array.replicate_succ, Array.replicate_zero, List.push_toArray, List.append_toArray, List.nil_append, List.cons_append]
    refine wpIn_wide.2 ?_
    go_wp2_with fail
    refine HA.out.mono ?_
    rintro e W2 ⟨rfl, hb⟩
    have HB := Lib.hid (HK.out.below hb)
    clear hb c0 hW
    have c0 := HB.out.cell
    obtain ⟨g, hg⟩ : ∃ g, W2.heap.size = g := ⟨_, rfl⟩
    obtain ⟨W3, hW3⟩ : ∃ W3, W2.alloc (.cells #[.int .u8 0, .int .u8 0, .int .u8 0, .int .u8 0, .int .u8 0, .int .u8 0, .int .u8 0, .int .u8 0, .int .u8 0, .int .u8 0, .int .u8 0, .int .u8 0, .int .u8 0, .int .u8 0, .int .u8 0, .int .u8 0, .int .u8 0, .int .u8 0, .int .u8 0, .int .u8 0, .int .u8 0, .int .u8 0] 192) = W3 := ⟨_, rfl⟩
    have H3 : Hid (Below w.heap.size w W3 ∧ W3.heap[w.heap.size]? = some (.cells #[.int .u32 f, .int .u16 i, .int .i64 c, .int .i64 p] 68 (0, 0)) ∧ W3.heap[g]? = some (.cells zr 192 (0, 0)) ∧ w.heap.size < g ∧ W3.heap.size = g + 1) := Lib.hid (by
      rw [← hW3, ← hg]
      exact ⟨HB.out.1.alloc HB.out.1.size _, keep_a _ HB.out.2, heap_alloc_new W2 _, (Array.getElem?_eq_some_iff.1 HB.out.2).1, by simp⟩)
    have c3 : ∀ j, W3.cell? ⟨w.heap.size, j, none⟩ = (#[.int .u32 f, .int .u16 i, .int .i64 c, .int .i64 p] : Array Value)[j]? := blk_cell H3.out.2.1
    clear c0
    have hz3 : W3.heap.size = g + 1 := H3.out.2.2.2.2
    go_wp2_with (go_at_call 170; refine (sfields_any _).mono ?_; rintro e w' ⟨rfl, rfl⟩)
    obtain ⟨W0, hW0⟩ : ∃ W0, (W3.alloc (.cells #[.int .u64 (f : Int), .int .u64 (i : Int), .int .u64 (c : Int), .int .u64 (p : Int)] 88)).alloc (.cells #[.slice (some ⟨g + 1, 0, none⟩) 4 4] 193) = W0 := ⟨_, rfl⟩
    have Z : Hid (W0.heap.size = g + 3 ∧ SlI w g f i c p [] W0.heap.size W0 ∧ w.heap.size < g) := Lib.hid (by
      obtain ⟨h1, h2, h3, h4, h5⟩ := H3.out
      have e1 := heap_alloc_new W3 (.cells #[.int .u64 (f : Int), .int .u64 (i : Int), .int .u64 (c : Int), .int .u64 (p : Int)] 88)
      have e2 := alloc_new2 W3 (.cells #[.int .u64 (f : Int), .int .u64 (i : Int), .int .u64 (c : Int), .int .u64 (p : Int)] 88) (.cells #[.slice (some ⟨g + 1, 0, none⟩) 4 4] 193)
      rw [h5] at e1 e2
      rw [← hW0]
      exact ⟨by simp [h5], ⟨keep_a _ (keep_a _ h3), keep_a _ e1, e2, (h1.alloc h1.size _).alloc (by have := h1.size; simp; omega) _⟩, h4⟩)
    rw [hW0]
    clear hW0 c3 hz3 hW3 hg
    refine (wpIn_wide (n := 9)).1 ?_
    have hit := fields_iter 8 W0 (by omega)
    have HIT := Lib.hid hit
    clear hit
    refine wp_range (gf := 195) (lb := #[]) rfl (enters_of Tryz.func195 (by kernel_rfl) rfl)
      HIT.out (by rintro k h; exact h.elim) (by rintro k h; exact h.elim) (fun x => rfl)
      (SlI w g f i c p) (fun _ _ _ => False) ?hI ?hm ?hIx ?h0
      (fun x a' W => a' = { tmps := #[.agg #[.int .u32 f, .int .u16 i, .int .i64 c, .int .i64 p], .pointer (some ⟨w.heap.size, 0, none⟩), .string ⟨#[]⟩, .int .i64 0, .pointer (some ⟨g, 0, none⟩), .pointer (some ⟨g + 1 + 1, 0, none⟩), .int .i64 (x.1 : Int), .int .i64 (x.2 : Int), undef,
        .agg #[.int .u32 f, .int .u16 i, .int .i64 c, .int .i64 p], .bool true, .bool false, .pointer (some ⟨w.heap.size, 0, none⟩), .int .u32 f, .int .u64 f, .pointer (some ⟨w.heap.size, 1, none⟩), .pointer (some ⟨w.heap.size, 1, none⟩), .int .u16 i, .int .u64 i, .pointer (some ⟨w.heap.size, 1, none⟩), .pointer (some ⟨w.heap.size, 2, none⟩), .int .i64 c, .int .u64 c,
        .pointer (some ⟨w.heap.size, 3, none⟩), .int .i64 p, .int .u64 p, .slice (some ⟨g + 1, 0, none⟩) 4 4, .func (.func 195) #[] #[], .int .i64 (x.1 : Int), .int .i64 (x.2 : Int), undef, undef, undef, undef, undef, undef, undef, undef, undef, undef, undef, undef, undef, undef, undef, undef, undef, undef, undef, undef, undef, undef, undef], defers := [] }) (fun _ _ _ _ h _ _ => h) ?assign ?body ?done ?stop
    case hm => intro pre nb nb' A' h hle; exact h
    case hI =>
      rintro pre nb A' B ⟨h1, h2, h3, h4⟩ hA hS
      have z0 := Z.out.1
      have z1 := Z.out.2.2
      exact ⟨hS.at_ h1 ⟨by simp, by omega⟩, hS.at_ h2 ⟨by simp, by omega⟩, hS.at_ h3 ⟨by simp, by omega⟩, h4.trans (hS.below (by omega) (fun k hk => ⟨by simp, by omega⟩))⟩
    case hIx => intro q pre A' B h; exact h.elim
    case h0 => exact Z.out.2.1
    case stop => intro q pre W _ h; exact h.elim
    case assign =>
      intro l pre x rest nb W K _ hi _ _ hK
      dsimp only [encF]
      gi_wp2
      exact hK _ _ (Same.refl _ _) hi rfl
    case body =>
      rintro lp pre x rest nb a' W hxs ⟨h1, h2, h3, h4⟩ rfl hn hlen
      have z0 := Z.out.1
      have z1 := Z.out.2.2
      obtain ⟨v, hv, hp4, h22, hs1, hs8, hst⟩ := stamps_step hxs (List.replicate 22 0) f i c p
      obtain ⟨L, hL⟩ : ∃ L, stamps (List.replicate 22 0) [f, i, c, p] pre = L := ⟨_, rfl⟩
      have hLl : L.length = 22 := by rw [← hL, stamps_length]; rfl
      rw [hL] at h1 hst
      obtain ⟨at_, sz⟩ := x
      dsimp only at h22 hs1 hs8 hst ⊢
      have cv : ∀ V : World, V.heap[g + 1]? = W.heap[g + 1]? → V.cell? ⟨g + 1, min pre.length 3, none⟩ = some (.int .u64 (v : Int)) := by
        intro V hV
        rw [h2] at hV
        rw [blk_cell hV]
        have : pre.length = 0 ∨ pre.length = 1 ∨ pre.length = 2 ∨ pre.length = 3 := by omega
        rcases this with h | h | h | h <;> rw [h] at hv ⊢ <;> simp at hv ⊢ <;> omega
      have HH := Lib.hid (And.intro h1 (And.intro h2 (And.intro h3 (And.intro h4 (And.intro cv (And.intro hst (And.intro hv hxs)))))))
      clear h1 h2 h3 h4 cv hst hxs hL hv
      gi_wp2
      gi_loopw [31] (fun q wr => ∃ k : Nat, k ≤ sz ∧ q = .int .i64 (k : Int) ∧ Hid (wr.heap[g]? = some (.cells (Lib.byteCells (stamp L at_ v sz k)).toArray 192 (0, 0)) ∧ Same (fun k => k ≠ g) W wr)) (fun q _ => sz - (intOf q).toNat)
      case atStart => exact ⟨0, Nat.zero_le _, rfl, Lib.hid ⟨HH.out.1, Same.refl _ _⟩⟩
      case round =>
        obtain ⟨k, hk, rfl, HW⟩ := hrel
        have hb3 : wr.heap[g + 2]? = W.heap[g + 2]? := (HW.out.2.same (g + 2) (Array.getElem?_eq_some_iff.1 HH.out.2.2.1).1 (by omega))
        have hb2 : wr.heap[g + 1]? = W.heap[g + 1]? := (HW.out.2.same (g + 1) (Array.getElem?_eq_some_iff.1 HH.out.2.1).1 (by omega))
        have c3 : wr.cell? ⟨g + 1 + 1, 0, none⟩ = some (.slice (some ⟨g + 1, min pre.length 3, none⟩) (4 - pre.length) (4 - pre.length)) := blk_cell (hb3.trans HH.out.2.2.1) 0
        have c4 := HH.out.2.2.2.2.1 wr hb2
        have f3 : ∀ i, wr.frozen? ⟨g + 1 + 1, i, none⟩ = false := blk_frozen (hb3.trans HH.out.2.2.1)
        by_cases hlt : k < sz
        · obtain ⟨r, hr⟩ : ∃ r, sz = k + 1 + r := ⟨sz - (k + 1), by omega⟩
          have hlt' : (k : Int) < (sz : Int) := by omega
          have s1 : IntKind.i64.wrap ((at_ : Int) + (k : Int)) = ((at_ + k : Nat) : Int) := by rw [IntWalk.i64_in _ (by omega)]; push_cast; rfl
          have s2 : IntKind.i64.wrap ((sz : Int) - 1) = (sz : Int) - 1 := IntWalk.i64_in _ (by omega)
          have s3 : IntKind.i64.wrap ((sz : Int) - 1 - (k : Int)) = (r : Int) := by rw [IntWalk.i64_in _ (by omega)]; omega
          have s4 : IntKind.i64.wrap (8 * (r : Int)) = 8 * (r : Int) := IntWalk.i64_in _ (by omega)
          have s5 : (0 : Int) ≤ 8 * (r : Int) := by omega
          have s6 : min (8 * r) 64 = 8 * r := by omega
          have s7 : (0 : Int) < (4 : Int) - (pre.length : Int) := by omega
          have fg : ∀ i, wr.frozen? ⟨g, i, none⟩ = false := blk_frozen HW.out.1
          have cg : ∃ u, wr.cell? ⟨g, at_ + k, none⟩ = some u := by
            rw [blk_cell HW.out.1]
            have : at_ + k < (Lib.byteCells (stamp L at_ v sz k)).length := by rw [Lib.byteCells_length, stamp_length]; omega
            exact ⟨_, (List.getElem?_toArray ..).trans (List.getElem?_eq_getElem this)⟩
          obtain ⟨u, cg⟩ := cg
          gi_wp2
          refine ⟨⟨k + 1, by omega, by push_cast; rfl, Lib.hid ⟨?_, HW.out.2.setCell (p := ⟨g, at_ + k, none⟩) (fun _ h => h rfl) _⟩⟩, by simp [intOf]; omega⟩
          have h9 := blk_set HW.out.1 (at_ + k) (.int .u8 ((UInt8.ofNat (v >>> (8 * r))).toNat : Int))
          rw [set_byteCells] at h9
          rw [byte_of, stamp, show sz - 1 - k = r by omega]
          exact h9
        · obtain rfl : k = sz := by omega
          have hend : ∀ u, u = Value.slice (some ⟨g + 1, min (pre.length + 1) 3, none⟩) (4 - (pre.length + 1)) (4 - (pre.length + 1)) → Same (Theirs W0 (fun x => False) (fun x => False) 1 nb) W (wr.setCell ⟨g + 1 + 1, 0, none⟩ u) ∧ SlI w g f i c p (pre ++ [(at_, k)]) (wr.setCell ⟨g + 1 + 1, 0, none⟩ u).heap.size (wr.setCell ⟨g + 1 + 1, 0, none⟩ u) := by
            rintro u rfl
            obtain ⟨h1, h2, h3, h4, _, hst, _⟩ := HH.out
            obtain ⟨q1, q2⟩ := HW.out
            have hs : Same (fun k => k ≠ g ∧ k ≠ g + 1 + 1) W (wr.setCell ⟨g + 1 + 1, 0, none⟩ (Value.slice (some ⟨g + 1, min (pre.length + 1) 3, none⟩) (4 - (pre.length + 1)) (4 - (pre.length + 1)))) := (q2.mono fun k _ h => h.1).setCell (fun _ h => h.2 rfl) _
            refine ⟨hs.mono fun k hk h => ?_, ?_, ?_, ?_, h4.trans (hs.below h4.size fun k hk => ⟨by omega, by omega⟩)⟩
            · rcases h with h | h | h | h
              · exact h.elim
              · exact h.elim
              · exact ⟨by omega, by omega⟩
              · exact ⟨by omega, by omega⟩
            · rw [hst, Below.heap_setCell _ _ _ _ (by simp; omega)]; exact q1
            · exact hs.at_ h2 ⟨by omega, by omega⟩
            · have := blk_set (hb3.trans h3) 0 (Value.slice (some ⟨g + 1, min (pre.length + 1) 3, none⟩) (4 - (pre.length + 1)) (4 - (pre.length + 1)))
              rw [List.length_append]
              simpa using this
          have HEND := Lib.hid hend
          clear hend
          gi_wp2
          · refine HEND.out _ ?_
            rw [show min (pre.length + 1) 3 = min pre.length 3 by omega, show 4 - (pre.length + 1) = 0 by omega]
          · refine HEND.out _ ?_
            rw [show min (pre.length + 1) 3 = min pre.length 3 + 1 by omega, show 4 - (pre.length + 1) = 4 - pre.length - 1 by omega]
    case done =>
      rintro W ⟨h1, h2, h3, h4⟩ hsz hD
      have z0 := Z.out.1
      rw [stamps_all] at h1
      have hR := HR.out
      have hl : (fieldBytes [(f, 4), (i, 2), (c, 8), (p, 8)]).length = 22 := by
        rw [← stamps_all, stamps_length]; rfl
      have hT := blk_text (n := 22) (cap := 22) h1 hl
      generalize fieldBytes [(f, 4), (i, 2), (c, 8), (p, 8)] = B at *
      subst hR
      have HH := Lib.hid (And.intro h4 hD)
      clear h1 h2 h3 h4 hD
      go_wp2
      obtain ⟨h4, hD⟩ := HH.out
      rw [z0] at hD
      refine ⟨by simp, .inl ⟨_, _, rfl, run_takeDeferred hD, ?_⟩⟩
      refine ⟨_, results_tmp2 rfl _ _ _, ?_⟩
      refine ⟨rfl, ?_⟩
      exact h4.trans (((Same.refl (fun k => k < w.heap.size) W).putObj _ (fun _ h => by have := Z.out.2.2; omega)).below (by have := h4.size; omega) fun k hk => hk)
end Go.Proofs.YtmkcbkdbdcnoiaaGreatDoor
