/- The iterator of accounts.purses: it hands over each account. The iterator of goods.pairs: it hands over each stack with the one ahead of it. goods.are. goods.are, goods.pairs. What accounts.are answers. '==' of structs whose fields are whole numbers. What money.Parse answers. goods.Right. -/
import Derived.WalkSpells
import Derived.WalkLawsBesides
import Derived.RangeFuncBox
import Derived.Laws.StructEq
import Derived.Test.YtmkcbkdbdcnoiaaGreatDoorG01
import Derived.Test.YtmkcbkdbdcnoiaaGreatDoorG04
namespace Go.Proofs.YtmkcbkdbdcnoiaaGreatDoor
open Go.RowKit
set_option linter.unusedVariables false
set_option linter.unusedSimpArgs false
attribute [local go_sem] Oper.semAt_some

/-- An account: its wallet, its bank. -/
abbrev Acc := Int × Int
def accs (l : List Acc) : List Value := cat2 (fun a => .int .i64 a.1) (fun a => .int .i64 a.2) l
def accv (a : Acc) : Value := .agg #[.int .i64 a.1, .int .i64 a.2]
def encA (a : Acc) : Array Value := #[accv a]

/-- What an iterator over a row reads: the variable, and the row's block. -/
def RowRd (Bl n : Nat) (v : Value) (k : Nat) : Prop := k = Bl ∨ (0 < n ∧ v.ownBlock = some k)

set_option maxHeartbeats 1000000 in
set_option maxRecDepth 100000 in
theorem purses_iter (n Bl : Nat) (v : Value) (l : List Acc) (w : World) (hl : l.length ≤ 1000000) (hr : w.heap[Bl]? = some (.cells #[v] 220 (0, 0))) (hv : Sees w v l.length 2 (accs l)) (h1 : 1 ≤ n) :
    Iter n Tryz.prog 201 #[.pointer (some ⟨Bl, 0, none⟩)] encA l (fun _ => False) (RowRd Bl l.length v) 0 w := by
  intro lp J Jx W hW hsame hJ hJx hY h0
  have HY := Lib.hid hY
  have HJ := Lib.hid hJ
  have H0 := Lib.hid h0
  clear hY hJ hJx h0
  have hB := (hsame Bl (Array.getElem?_eq_some_iff.1 hr).1 (.inr (.inl rfl))).trans hr
  have hv1 : Sees W v l.length 2 (accs l) := by
    rcases Nat.eq_zero_or_pos l.length with h | h
    · exact ⟨hv.1, hv.2.imp fun b ⟨c, e, hc, _⟩ => ⟨c, e, hc, .inl h⟩⟩
    · exact hv.same (S := fun _ => True) (fun k hk hlt => hsame k hlt (.inr (.inr ⟨h, hk⟩)))
  have HR : Hid (W.heap[Bl]? = some (.cells #[v] 220 (0, 0)) ∧ Sees W v l.length 2 (accs l)) := Lib.hid ⟨hB, hv1⟩
  clear hsame hr hv hB hv1
  have hc1 : W.cell? ⟨Bl, 0, none⟩ = some v := blk_cell HR.out.1 0
  obtain ⟨base, cap, rfl⟩ := HR.out.2.shape
  refine callsIn_of_wp Tryz.func201 rfl trivial ?_ rfl
  simp only [Tryz.ntmps201, List.size_toArray, List.length_cons, List.length_nil, Nat.reduceAdd, Nat.reduceSub, Array.replicate_succ, Array.replicate_zero, List.push_toArray, List.append_toArray, List.nil_append, List.cons_append]
  gi_wp2
  gi_loopw [7] (fun i wr => ∃ (j : Nat) (pre : List Acc), j ≤ l.length ∧ i = .int .i64 (j : Int) ∧ Hid (l = pre ++ l.drop j) ∧ Hid (wr.heap[Bl]? = some (.cells #[.slice base l.length cap] 220 (0, 0)) ∧ Sees wr (.slice base l.length cap) l.length 2 (accs l)) ∧ Hid (J pre wr) ∧ W.heap.size ≤ wr.heap.size) (fun i _ => l.length - (intOf i).toNat)
  case atStart => exact ⟨0, [], Nat.zero_le _, rfl, Lib.hid rfl, HR, H0, Nat.le_refl _⟩
  case round =>
    obtain ⟨j, pre, hj, rfl, HP, HB, HJp, hsz⟩ := hrel
    by_cases hlt : j < l.length
    · obtain ⟨s, hs⟩ : ∃ s, l[j]'hlt = s := ⟨_, rfl⟩
      have hdrop : l.drop j = s :: l.drop (j + 1) := by rw [← hs]; exact List.drop_eq_getElem_cons hlt
      have HX := Lib.hid (HP.out.trans (by rw [hdrop] : pre ++ l.drop j = pre ++ s :: l.drop (j + 1)))
      obtain ⟨a, cap2, he, h2, h3, h4⟩ := Sees.at2 (f := fun a : Acc => .int .i64 a.1) (g := fun a : Acc => .int .i64 a.2) HB.out.2 j hlt
      simp only [Value.slice.injEq, true_and] at he
      obtain ⟨rfl, rfl⟩ := he
      rw [hs] at h2 h3 h4
      have hlt' : (j : Int) < (l.length : Int) := by omega
      obtain ⟨W1, hW1'⟩ : ∃ W1, wr.alloc (.cells #[.int .i64 s.1, .int .i64 s.2] 55) = W1 := ⟨_, rfl⟩
      obtain ⟨b1, hb1⟩ : ∃ b1, wr.heap.size = b1 := ⟨_, rfl⟩
      have hS : Same (fun _ => True) wr W1 := by rw [← hW1']; exact (Same.refl _ wr).alloc _
      have k1 : W1.heap[b1]? = some (.cells #[.int .i64 s.1, .int .i64 s.2] 55 (0, 0)) := by rw [← hW1', ← hb1]; exact heap_alloc_new wr _
      obtain ⟨fn, tmps, assign, body, hy, hR⟩ := HY.out pre _ _ wr W1 HX.out HJp.out (by simpa using hsz) hS
      dsimp only [encA, accv] at hy
      obtain ⟨d0, d1⟩ := cells2 k1
      have HRR := Lib.hid hR
      have HS := Lib.hid hS
      clear hR hdrop hs hS h3
      gi_wp2
      refine HRR.out.mono ?_
      rintro e W3 (⟨rfl, hJ3, hk3⟩ | ⟨rfl, hJx3⟩)
      · have q : Same (fun k => RowRd Bl l.length (.slice (some a) l.length cap) k) wr W3 := (HS.out.mono fun _ _ _ => trivial).trans (hk3.mono fun k _ h => .inr (.inl h))
        have hq := q.size
        have HQ := Lib.hid (And.intro q hJ3)
        clear q hJ3 hk3 d0 d1 h2 h4
        gi_wp2
        go_roundw
        case rel =>
          exact ⟨j + 1, pre ++ [s], by omega, by go_num, Lib.hid (by rw [List.append_assoc]; exact HX.out), Lib.hid ⟨HQ.out.1.at_ HB.out.1 (.inl rfl), HB.out.2.same (S := fun _ => True) (fun k hk hlt => HQ.out.1.same k hlt (.inr ⟨by omega, hk⟩))⟩, Lib.hid HQ.out.2, by omega⟩
        case measure => simp [intOf]; omega
      · have H3 := Lib.hid hJx3
        clear hJx3
        gi_wp2
        refine bodyPost_ret (results_none rfl _ _ _) rfl ?_
        exact ⟨⟨_, rfl⟩, .inr ⟨pre ++ [s], ⟨l.drop (j + 1), by rw [List.append_assoc]; exact HX.out.symm⟩, H3.out⟩⟩
    · obtain rfl : j = l.length := by omega
      have hX := HP.out
      rw [List.drop_length, List.append_nil] at hX
      have HX2 := Lib.hid hX
      clear hX hlt
      gi_wp2
      go_end0
      exact ⟨⟨_, rfl⟩, .inl ⟨by omega, by have := HJp.out; rwa [← HX2.out] at this⟩⟩

set_option maxHeartbeats 400000 in
set_option maxRecDepth 100000 in
theorem purses_any (v : Value) (w : World) (hv : ∃ a n c, v = .slice a n c) :
    Calls Tryz.prog 181 #[v] w fun e w' => e = .returned (.func (.func 201) #[] #[.pointer (some ⟨w.heap.size, 0, none⟩)]) ∧ w.alloc (.cells #[v] 220) = w' := by
  obtain ⟨a, n, c, rfl⟩ := hv
  have hmf : ∀ (fn : Fn) (first cap : Array Value) (w : World), (Instr.makeFunc fn first cap).run Tryz.prog w = .ok (.func fn first cap) w := fun _ _ _ _ => rfl
  go_enter Tryz.func181, Tryz.ntmps181
  go_wp2
  go_ret
  exact ⟨rfl, rfl⟩

/-- Is an account right? -/
def okAcc (a : Acc) : Bool := decide ((addF a.1 a.2).2 = 0)

set_option maxHeartbeats 400000 in
set_option maxRecDepth 100000 in
theorem isRight_any (a : Acc) (w : World) (hG : Glob w) : Calls Tryz.prog 182 #[accv a] w fun e w' => e = .returned (.bool (okAcc a)) ∧ Below w.heap.size w w' := by
  obtain ⟨W, hW⟩ : ∃ W, w.alloc (.cells #[.int .i64 a.1, .int .i64 a.2] 176) = W := ⟨_, rfl⟩
  have hb : Below w.heap.size w W := by rw [← hW]; exact (Below.refl _ w).alloc (Nat.le_refl _) _
  obtain ⟨c0, c1⟩ := cells2 (by rw [← hW]; exact heap_alloc_new w _ : W.heap[w.heap.size]? = some (.cells #[.int .i64 a.1, .int .i64 a.2] 176 (0, 0)))
  unfold accv
  go_enter Tryz.func182, Tryz.ntmps182
  go_wp2_with fail
  refine (add_any a.1 a.2 W (hG.below hb)).mono ?_
  rintro e W3 ⟨rfl, hb3⟩
  have hbb := Lib.hid (hb.trans (hb3.mono hb.size))
  clear hb hb3 c0 c1
  go_wp2
  go_ret
  exact ⟨rfl, hbb.out⟩
end Go.Proofs.YtmkcbkdbdcnoiaaGreatDoor
namespace Go.Proofs.YtmkcbkdbdcnoiaaGreatDoor
open Go.RowKit
set_option linter.unusedVariables false
set_option linter.unusedSimpArgs false
attribute [local go_sem] Oper.semAt_some

/-- A stack: its item, how many. -/
abbrev Stk := Int × Int
def stks (l : List Stk) : List Value := cat2 (fun a => .int .u16 a.1) (fun a => .int .i64 a.2) l
def stkv (a : Stk) : Value := .agg #[.int .u16 a.1, .int .i64 a.2]
def encS (x : Stk × Stk) : Array Value := #[stkv x.1, stkv x.2]
def prs (old : Stk) : List Stk → List (Stk × Stk)
  | [] => []
  | s :: l => (old, s) :: prs s l

set_option maxHeartbeats 1000000 in
set_option maxRecDepth 100000 in
theorem pairs_iter (n Bl : Nat) (v : Value) (l : List Stk) (w : World) (hl : l.length ≤ 1000000) (hr : w.heap[Bl]? = some (.cells #[v] 119 (0, 0))) (hv : Sees w v l.length 2 (stks l)) (h1 : 1 ≤ n) :
    Iter n Tryz.prog 196 #[.pointer (some ⟨Bl, 0, none⟩)] encS (prs (0, 0) l) (fun _ => False) (RowRd Bl l.length v) 1 w := by
  intro lp J Jx W hW hsame hJ hJx hY h0
  have HY := Lib.hid hY
  have HJ := Lib.hid hJ
  have H0 := Lib.hid h0
  clear hY hJ hJx h0
  have hB := (hsame Bl (Array.getElem?_eq_some_iff.1 hr).1 (.inr (.inl rfl))).trans hr
  have hv1 : Sees W v l.length 2 (stks l) := by
    rcases Nat.eq_zero_or_pos l.length with h | h
    · exact ⟨hv.1, hv.2.imp fun b ⟨c, e, hc, _⟩ => ⟨c, e, hc, .inl h⟩⟩
    · exact hv.same (S := fun _ => True) (fun k hk hlt => hsame k hlt (.inr (.inr ⟨h, hk⟩)))
  have HR : Hid (W.heap[Bl]? = some (.cells #[v] 119 (0, 0)) ∧ Sees W v l.length 2 (stks l)) := Lib.hid ⟨hB, hv1⟩
  clear hsame hr hv hB hv1
  have hW1 : Bl < W.heap.size := (Array.getElem?_eq_some_iff.1 HR.out.1).1
  have hc1 : (W.alloc (.cells #[.int .u16 0, .int .i64 0] 62)).cell? ⟨Bl, 0, none⟩ = some v := blk_cell (keep_a _ HR.out.1) 0
  obtain ⟨base, cap, rfl⟩ := HR.out.2.shape
  refine callsIn_of_wp Tryz.func196 rfl trivial ?_ rfl
  simp only [Tryz.ntmps196, List.size_toArray, List.length_cons, List.length_nil, Nat.reduceAdd, Nat.reduceSub, Array.replicate_succ, Array.replicate_zero, List.push_toArray, List.append_toArray, List.nil_append, List.cons_append]
  gi_wp2
  gi_loopw [8] (fun i wr => ∃ (j : Nat) (pre : List (Stk × Stk)) (old : Stk), j ≤ l.length ∧ i = .int .i64 (j : Int) ∧ Hid (prs (0, 0) l = pre ++ prs old (l.drop j)) ∧ Hid (wr.heap[Bl]? = some (.cells #[.slice base l.length cap] 119 (0, 0)) ∧ Sees wr (.slice base l.length cap) l.length 2 (stks l)) ∧
      Hid (wr.heap[W.heap.size]? = some (.cells #[.int .u16 old.1, .int .i64 old.2] 62 (0, 0))) ∧ Hid (J pre wr) ∧ W.heap.size + 1 ≤ wr.heap.size) (fun i _ => l.length - (intOf i).toNat)
  case atStart =>
    refine ⟨0, [], (0, 0), Nat.zero_le _, rfl, Lib.hid rfl, Lib.hid ⟨keep_a _ HR.out.1, HR.out.2.alloc _⟩, Lib.hid (heap_alloc_new W _), Lib.hid ?_, by simp⟩
    exact HJ.out _ _ _ H0.out (Nat.le_refl _) ((Same.refl _ W).alloc _)
  case round =>
    obtain ⟨j, pre, old, hj, rfl, HP, HB, HO, HJp, hsz⟩ := hrel
    by_cases hlt : j < l.length
    · obtain ⟨s, hs⟩ : ∃ s, l[j]'hlt = s := ⟨_, rfl⟩
      have hdrop : l.drop j = s :: l.drop (j + 1) := by rw [← hs]; exact List.drop_eq_getElem_cons hlt
      have HX := Lib.hid (HP.out.trans (by rw [hdrop]; rfl : pre ++ prs old (l.drop j) = pre ++ (old, s) :: prs s (l.drop (j + 1))))
      obtain ⟨a, cap2, he, h2, h3, h4⟩ := Sees.at2 (f := fun a : Stk => .int .u16 a.1) (g := fun a : Stk => .int .i64 a.2) HB.out.2 j hlt
      simp only [Value.slice.injEq, true_and] at he
      obtain ⟨rfl, rfl⟩ := he
      rw [hs] at h2 h3 h4
      have hlt' : (j : Int) < (l.length : Int) := by omega
      obtain ⟨W1, hW1'⟩ : ∃ W1, wr.alloc (.cells #[.int .u16 s.1, .int .i64 s.2] 62) = W1 := ⟨_, rfl⟩
      obtain ⟨b1, hb1⟩ : ∃ b1, wr.heap.size = b1 := ⟨_, rfl⟩
      have hS : Same (fun _ => True) wr W1 := by rw [← hW1']; exact (Same.refl _ wr).alloc _
      have k1 : W1.heap[b1]? = some (.cells #[.int .u16 s.1, .int .i64 s.2] 62 (0, 0)) := by rw [← hW1', ← hb1]; exact heap_alloc_new wr _
      have k0 := hS.at_ HO.out trivial
      obtain ⟨fn, tmps, assign, body, hy, hR⟩ := HY.out pre _ _ wr W1 HX.out HJp.out (by simpa using hsz) hS
      dsimp only [encS, stkv] at hy
      obtain ⟨d0, d1⟩ := cells2 k1
      obtain ⟨c0, c1⟩ := cells2 k0
      have HRR := Lib.hid hR
      have HS := Lib.hid (And.intro hS (And.intro k0 k1))
      have hbz : W.heap.size + 1 ≤ b1 ∧ wr.heap.size = b1 := by rw [← hb1]; exact ⟨hsz, rfl⟩
      clear hR hdrop hs hS h3 k0 k1
      gi_wp2
      refine HRR.out.mono ?_
      rintro e W3 (⟨rfl, hJ3, hk3⟩ | ⟨rfl, hJx3⟩)
      · have q : Same (fun k => RowRd Bl l.length (.slice (some a) l.length cap) k) wr W3 := (HS.out.1.mono fun _ _ _ => trivial).trans (hk3.mono fun k _ h => .inr (.inl h))
        have g0 := hk3.at_ HS.out.2.1 (.inr (.inr (.inl ⟨Nat.le_refl _, by omega⟩)))
        have g1 := hk3.at_ HS.out.2.2 (.inr (.inr (.inr (by omega))))
        have hq := q.size
        obtain ⟨e0, e1⟩ := cells2 g1
        obtain ⟨f0, f1⟩ := cells2 g0
        have ff : ∀ i, W3.frozen? ⟨W.heap.size, i, none⟩ = false := blk_frozen g0
        have HQ := Lib.hid (And.intro q (And.intro hJ3 g0))
        clear q hJ3 hk3 d0 d1 h2 h4 g0 g1 c0 c1
        gi_wp2
        go_roundw
        case rel =>
          refine ⟨j + 1, pre ++ [(old, s)], s, by omega, by go_num, Lib.hid (by rw [HX.out, List.append_assoc]; rfl), Lib.hid ⟨?_, ?_⟩, Lib.hid ?_, Lib.hid ?_, by simp [World.setCell]; omega⟩
          · rw [Below.heap_setCell _ _ _ _ (by simp; omega), Below.heap_setCell _ _ _ _ (by simp; omega)]; exact HQ.out.1.at_ HB.out.1 (.inl rfl)
          · refine HB.out.2.same (S := fun _ => True) (fun k hk hlt2 => ?_)
            have := HR.out.2.own_lt (by omega) (by omega) hk
            rw [Below.heap_setCell _ _ _ _ (by simp; omega), Below.heap_setCell _ _ _ _ (by simp; omega)]
            exact HQ.out.1.same k hlt2 (.inr ⟨by omega, hk⟩)
          · have := blk_set (blk_set HQ.out.2.2 0 (.int .u16 s.1)) 1 (.int .i64 s.2)
            simpa using this
          · exact HJ.out _ _ _ HQ.out.2.1 (by omega) (((Same.refl _ W3).setCell (p := ⟨W.heap.size, 0, none⟩) (fun _ h => h.2 ⟨Nat.le_refl _, by simp⟩) _).setCell (p := ⟨W.heap.size, 1, none⟩) (fun _ h => h.2 ⟨Nat.le_refl _, by simp⟩) _)
        case measure => simp [intOf]; omega
      · have H3 := Lib.hid hJx3
        clear hJx3
        gi_wp2
        refine bodyPost_ret (results_none rfl _ _ _) rfl ?_
        exact ⟨⟨_, rfl⟩, .inr ⟨pre ++ [(old, s)], ⟨prs s (l.drop (j + 1)), by rw [HX.out, List.append_assoc]; rfl⟩, H3.out⟩⟩
    · obtain rfl : j = l.length := by omega
      have hX := HP.out
      rw [List.drop_length, prs, List.append_nil] at hX
      have HX2 := Lib.hid hX
      clear hX hlt
      gi_wp2
      go_end0
      exact ⟨⟨_, rfl⟩, .inl ⟨by omega, by rw [HX2.out]; exact HJp.out⟩⟩
end Go.Proofs.YtmkcbkdbdcnoiaaGreatDoor
namespace Go.Proofs.YtmkcbkdbdcnoiaaGreatDoor
open Go.RowKit
set_option linter.unusedVariables false
set_option linter.unusedSimpArgs false

/-- An amount, and not none. -/
def okN (n : Int) : Bool := !(n == 0) && okA n

set_option maxHeartbeats 400000 in
set_option maxRecDepth 100000 in
theorem gare_any (l : List Int) (n : Nat) (v : Value) (w : World) (hn : l.length = n) (hv : Sees w v n 1 (ints l)) (hl : n ≤ 1000000) : Calls Tryz.prog 153 #[v] w fun e w' => e = .returned (.bool (l.all okN)) ∧ w' = w := by
  obtain ⟨_, base, cap, rfl, hcap, hr⟩ := hv
  have HR := Lib.hid hr
  have HN := Lib.hid hn
  clear hr hn
  go_enter Tryz.func153, Tryz.ntmps153
  go_wp2
  go_loop [7] (fun i => ∃ k : Nat, k ≤ n ∧ i = .int .i64 (k : Int) ∧ Hid ((l.take k).all okN = true)) (fun i => n - (intOf i).toNat)
  case atStart => exact ⟨0, Nat.zero_le _, rfl, Lib.hid rfl⟩
  case round =>
    obtain ⟨k, hk, rfl, HA⟩ := hrel
    by_cases hlt : k < n
    · obtain ⟨a, rfl, hcs⟩ := HR.out.resolve_left (by omega)
      have hkl : k < l.length := by have := HN.out; omega
      obtain ⟨x, hx⟩ : ∃ x, l[k]'hkl = x := ⟨_, rfl⟩
      have c0 : w.cell? (a.add k) = some (.int .i64 x) := hcs k _ (by simp [ints, hkl, hx])
      have hlt' : (k : Int) < (n : Int) := by omega
      have HX := Lib.hid hx
      clear hcs hx
      rcases hz : (x == 0) with _ | _
      · rcases hok : okA x with _ | _
        · have hok' : (!okA x) = true := by rw [hok]; rfl
          go_wp2_with (go_at_call 105; with_reducible refine (right_any x _).mono ?_; rintro e w' ⟨rfl, rfl⟩)
          go_ret
          refine ⟨?_, rfl⟩
          have : l.all okN = false := by
            rw [List.all_eq_false]
            exact ⟨x, by rw [← HX.out]; exact List.getElem_mem hkl, by simp [okN, hok]⟩
          rw [this]; rfl
        · have hok' : (!okA x) = false := by rw [hok]; rfl
          go_wp2_with (go_at_call 105; with_reducible refine (right_any x _).mono ?_; rintro e w' ⟨rfl, rfl⟩)
          refine ⟨⟨k + 1, by omega, by go_num, Lib.hid ?_⟩, by simp [intOf]; omega⟩
          rw [List.take_succ_eq_append_getElem hkl, List.all_append, HA.out, HX.out]
          simp [okN, hok, hz]
      · go_wp2
        go_ret
        refine ⟨?_, rfl⟩
        have : l.all okN = false := by
          rw [List.all_eq_false]
          exact ⟨x, by rw [← HX.out]; exact List.getElem_mem hkl, by simp [okN, hz]⟩
        rw [this]; rfl
    · obtain rfl : k = n := by omega
      go_wp2
      go_ret
      refine ⟨?_, rfl⟩
      have h := HA.out
      rw [List.take_of_length_le (by have := HN.out; omega)] at h
      rw [h]; rfl

set_option maxHeartbeats 400000 in
set_option maxRecDepth 100000 in
theorem pairs_any (v : Value) (w : World) (hv : ∃ a n c, v = .slice a n c) :
    Calls Tryz.prog 172 #[v] w fun e w' => e = .returned (.func (.func 196) #[] #[.pointer (some ⟨w.heap.size, 0, none⟩)]) ∧ w.alloc (.cells #[v] 119) = w' := by
  obtain ⟨a, n, c, rfl⟩ := hv
  have hmf : ∀ (fn : Fn) (first cap : Array Value) (w : World), (Instr.makeFunc fn first cap).run Tryz.prog w = .ok (.func fn first cap) w := fun _ _ _ _ => rfl
  go_enter Tryz.func172, Tryz.ntmps172
  go_wp2
  go_ret
  exact ⟨rfl, rfl⟩
end Go.Proofs.YtmkcbkdbdcnoiaaGreatDoor
namespace Go.Proofs.YtmkcbkdbdcnoiaaGreatDoor
open Go.RowKit
set_option linter.unusedVariables false
set_option linter.unusedSimpArgs false
attribute [local go_sem] Oper.semAt_some

def AaI (w : World) (pre : List Acc) (nb : Nat) (W : World) : Prop :=
  W.heap[w.heap.size]? = some (.cells #[.bool true] 4 (0, 0)) ∧ pre.all okAcc = true ∧ Below w.heap.size w W
def AaX (w : World) (q : Code) (pre : List Acc) (W : World) : Prop :=
  q = .exit 0 ∧ W.heap[w.heap.size]? = some (.cells #[.bool false] 4 (0, 0)) ∧ pre.all okAcc = false ∧ Below w.heap.size w W

set_option maxHeartbeats 2000000 in
set_option maxRecDepth 100000 in
theorem aare_any (l : List Acc) (n : Nat) (v : Value) (w : World) (hn : l.length = n) (hv : Sees w v n 2 (accs l)) (hl : n ≤ 1000000) (hG : Glob w) :
    Calls Tryz.prog 131 #[v] w fun e w' => e = .returned (.bool (l.all okAcc)) ∧ Below w.heap.size w w' := by
  subst hn
  refine (callsIn_wide (n := 9)).1 ?_
  refine callsIn_of_wp_marks Tryz.func131 rfl trivial ?_ rfl
  simp only [Tryz.ntmps131, List.size_toArray, List.length_cons, List.length_nil, Nat.reduceAdd, Nat.reduceSub, Array.replicate_succ, Array.replicate_zero, List.push_toArray, List.append_toArray, List.nil_append, List.cons_append]
  have HG := Lib.hid hG
  have HV := Lib.hid hv
  obtain ⟨base, cap, rfl⟩ := hv.shape
  clear hG hv
  gi_wp2
  refine wpIn_scope ?_
  gi_wp2
  apply wpIn_label
  gi_wp2_with (refine ⟨trivial, ?_⟩; gi_at_call 181; refine (callsIn_wide.2 (purses_any _ _ ⟨_, _, _, rfl⟩)).mono ?_; rintro e w' ⟨rfl, rfl⟩)
  obtain ⟨W0, hW0⟩ : ∃ W0, ((w.alloc (.cells #[.bool true] 4)).alloc (.cells #[.slice base l.length cap] 220)) = W0 := ⟨_, rfl⟩
  have z0 : W0.heap.size = w.heap.size + 2 := by rw [← hW0]; simp
  have z1 : W0.heap[w.heap.size]? = some (.cells #[.bool true] 4 (0, 0)) := by rw [← hW0]; exact keep_a _ (heap_alloc_new w _)
  have z2 : W0.heap[w.heap.size + 1]? = some (.cells #[.slice base l.length cap] 220 (0, 0)) := by
    rw [← hW0]; have := heap_alloc_new (w.alloc (.cells #[.bool true] 4)) (.cells #[.slice base l.length cap] 220); rwa [World.size_alloc] at this
  have z3 : Below w.heap.size w W0 := by rw [← hW0]; exact ((Below.refl _ w).alloc (Nat.le_refl _) _).alloc (by simp) _
  rw [hW0]
  have Z := Lib.hid (And.intro z0 (And.intro z1 (And.intro z2 z3)))
  clear z0 z1 z2 z3 hW0
  refine wp_range (gf := 201) (lb := #[.pointer (some ⟨w.heap.size + 1, 0, none⟩)]) rfl (enters_of Tryz.func201 (by kernel_rfl) rfl)
    (purses_iter 8 (w.heap.size + 1) (.slice base l.length cap) l W0 hl Z.out.2.2.1 (HV.out.below Z.out.2.2.2) (by omega)) (fun k h => h.elim)
    (by rintro k (rfl | ⟨h, hk⟩); · have := Z.out.1; omega
        · have := HV.out.own_lt h (by omega) hk; have := Z.out.1; omega) (fun x => rfl)
    (AaI w) (AaX w) ?hI ?hm ?hIx ?h0
    (fun x a' W => ∃ b, a' = { tmps := #[.slice base l.length cap, undef, .bool false, .pointer (some ⟨w.heap.size, 0, none⟩), .pointer (some ⟨b, 0, none⟩), .slice base l.length cap, .func (.func 201) #[] #[.pointer (some ⟨w.heap.size + 1, 0, none⟩)], accv x, undef, undef, undef, undef, undef], defers := [] } ∧ W0.heap.size + 2 ≤ b ∧ W.heap[b]? = some (.cells #[.int .i64 x.1, .int .i64 x.2] 176 (0, 0))) ?hAx ?assign ?body ?done ?stop
  case hm =>
    rintro pre nb nb' A' h hle
    exact h
  case hI =>
    rintro pre nb A' B ⟨h1, h2, hb⟩ hA hS
    have z0 := Z.out.1
    exact ⟨hS.at_ h1 ⟨id, by omega⟩, h2, hb.trans (hS.below (by omega) (fun k hk => ⟨id, by omega⟩))⟩
  case hIx =>
    rintro q pre A' B ⟨h1, h2, h3, hb⟩ hA hS
    have z0 := Z.out.1
    exact ⟨h1, hS.at_ h2 ⟨id, by omega⟩, h3, hb.trans (hS.below (by omega) (fun k hk => ⟨id, by omega⟩))⟩
  case h0 => exact ⟨Z.out.2.1, rfl, Z.out.2.2.2⟩
  case hAx =>
    rintro x a' A' B ⟨b, ha, hb, hc⟩ hA hS
    exact ⟨b, ha, hb, hS.at_ hc (by omega)⟩
  case assign =>
    intro lp pre x rest nb W K hxs ⟨h1, h2, hb⟩ hnb hW hK
    clear hxs
    dsimp only [encA, accv]
    gi_wp2
    exact hK _ _ ((Same.refl _ W).alloc _) ⟨keep_a _ h1, h2, hb.alloc hb.size _⟩ ⟨W.heap.size, rfl, by omega, heap_alloc_new W _⟩
  case body =>
    rintro lp pre x rest nb a' W hxs ⟨h1, h2, hb⟩ ⟨b, rfl, hb4, hc4⟩ hn hlen
    have z0 := Z.out.1
    obtain ⟨c0, c1⟩ := cells2 hc4
    have hGl := HG.out.below hb
    have HH := Lib.hid (And.intro h1 (And.intro h2 hb))
    have hnot : ¬ Theirs W0 (fun _ => False) (RowRd (w.heap.size + 1) l.length (.slice base l.length cap)) 0 nb w.heap.size := by
      rintro (h | (h | ⟨h, hk⟩) | h | h)
      · exact h
      · omega
      · have := HV.out.own_lt h (by omega) hk; omega
      · omega
      · omega
    have hall : (pre ++ [x]).all okAcc = okAcc x := by simp [List.all_append, h2]
    have HL := Lib.hid hall
    clear h1 h2 hb hxs hall
    have hi := isRight_any x W hGl
    unfold accv at hi
    rcases hx : okAcc x with _ | _
    all_goals
      rw [hx] at hi
      gi_wp2_with fail
      refine ⟨trivial, ?_⟩
      refine (CallsIn.inRound lp (callsIn_wide.2 hi)).mono ?_
      rintro e W3 ⟨rfl, hb3⟩
      have h3 := keep_b HH.out.1 hb3
      have d0 := blk_cell h3 0
      have f0 : ∀ i, W3.frozen? ⟨w.heap.size, i, none⟩ = false := blk_frozen h3
      have hs3 : ∀ u, Same (Theirs W0 (fun _ => False) (RowRd (w.heap.size + 1) l.length (.slice base l.length cap)) 0 nb) W (W3.setCell ⟨w.heap.size, 0, none⟩ u) := fun u =>
        (Same.of_below hb3 (fun k hk _ => hk)).setCell (p := ⟨w.heap.size, 0, none⟩) (fun _ => hnot) u
      have hb5 : ∀ u, Below w.heap.size w (W3.setCell ⟨w.heap.size, 0, none⟩ u) := fun u => (HH.out.2.2.trans (hb3.mono HH.out.2.2.size)).setCell (p := ⟨w.heap.size, 0, none⟩) (Nat.le_refl _) u
      have hc5 : ∀ u, (W3.setCell ⟨w.heap.size, 0, none⟩ u).heap[w.heap.size]? = some (.cells #[u] 4 (0, 0)) := fun u => by have := blk_set h3 0 u; simpa using this
      have H3 := Lib.hid (And.intro hs3 (And.intro hb5 hc5))
      clear hb3 h3 hs3 hb5 hc5
      simp only [List.getElem?_toArray, List.getElem?_cons_zero] at d0
      gi_wp2
    · exact ⟨H3.out.1 _, rfl, H3.out.2.2 _, by rw [HL.out, hx], H3.out.2.1 _⟩
    · exact ⟨H3.out.1 _, H3.out.2.2 _, by rw [HL.out, hx], H3.out.2.1 _⟩
  case done =>
    rintro W ⟨h1, h2, hb⟩ hsz hD
    have c1 := blk_cell h1 0
    simp only [List.getElem?_toArray, List.getElem?_cons_zero] at c1
    have HH := Lib.hid (And.intro h2 (And.intro hb hD))
    clear h1 h2 hb hD
    gi_wp2
    obtain ⟨h2, hb, hD⟩ := HH.out
    refine ⟨by simp, .inl ⟨_, _, rfl, run_takeDeferred hD, ?_⟩⟩
    refine ⟨_, results_tmp rfl _ _ _, ?_⟩
    refine ⟨by rw [h2]; rfl, ?_⟩
    exact hb.trans (((Same.refl (fun k => k < w.heap.size) W).putObj _ (fun _ h => by have := Z.out.1; omega)).below (by have := hb.size; omega) fun k hk => hk)
  case stop =>
    rintro q pre W ⟨r, hr⟩ ⟨rfl, h1, h2, hb⟩ hsz hD
    have c1 := blk_cell h1 0
    simp only [List.getElem?_toArray, List.getElem?_cons_zero] at c1
    have hall : l.all okAcc = false := by rw [← hr, List.all_append, h2, Bool.false_and]
    have HH := Lib.hid (And.intro hall (And.intro hb hD))
    clear h1 h2 hb hD hr hall
    gi_wp2
    obtain ⟨h2, hb, hD⟩ := HH.out
    refine ⟨by simp, .inl ⟨_, _, rfl, run_takeDeferred hD, ?_⟩⟩
    refine ⟨_, results_tmp rfl _ _ _, ?_⟩
    refine ⟨by rw [h2]; rfl, ?_⟩
    exact hb.trans (((Same.refl (fun k => k < w.heap.size) W).putObj _ (fun _ h => by have := Z.out.1; omega)).below (by have := hb.size; omega) fun k hk => hk)
end Go.Proofs.YtmkcbkdbdcnoiaaGreatDoor
namespace Go.Proofs.YtmkcbkdbdcnoiaaGreatDoor
open Go.RowKit
set_option linter.unusedVariables false
set_option linter.unusedSimpArgs false
section
variable {P : Program} {d : Nat} {xs ys : Array Value} {f : Field} {fs : List Field} {a b : Value} {r s : Bool} {w : World}
theorem eqf_cons (hn : (f.name == "_") = false) (ha : (part f.type xs f.offset).run P w = .ok a w) (hb : (part f.type ys f.offset).run P w = .ok b w) (he : (Op.equalIn d f.type a b).run P w = .ok r w) (hr : (Op.eqFields d xs ys fs).run P w = .ok s w) : (Op.eqFields d xs ys (f :: fs)).run P w = .ok (r && s) w := by
  have hn' : f.name ≠ "_" := by simpa using hn
  rw [Op.eqFields]
  simp only [if_pos hn', Sem.run_bind, ha, hb, he, Result.andThen_ok]
  cases r
  · simp
  · simpa using hr
theorem eqf_nil : (Op.eqFields d xs ys []).run P w = .ok true w := by simp [Op.eqFields]
theorem eqA_of {t : TypeId} {fs : Array Field} (hu : P.underlying t = some (.struct fs)) (hp : P.stoodInHeld t = false) (h : (Op.eqFields d xs ys fs.toList).run P w = .ok r w) : (Op.equalIn (d + 1) t (.agg xs) (.agg ys)).run P w = .ok r w := by
  have hf : P.fieldsOf t = fs := by simp [Program.fieldsOf, hu]
  rw [run_equalIn_struct (P := P) w d t xs ys (by rw [hf]; exact hu) hp, hf]
  exact h
end
theorem eq_i64 (d : Nat) (x y : Int) (w : World) : (Op.equalIn (d + 1) 2 (.int .i64 x) (.int .i64 y)).run Tryz.prog w = .ok (x == y) w := by
  simp [Op.equalIn, underlying, Tryz.underlying2]
theorem eq55 (d : Nat) (x1 x2 y1 y2 : Int) (w : World) : (Op.equalIn (d + 2) 55 (.agg #[.int .i64 x1, .int .i64 x2]) (.agg #[.int .i64 y1, .int .i64 y2])).run Tryz.prog w = .ok ((x1 == y1) && ((x2 == y2) && true)) w := by
  refine eqA_of Tryz.underlying55 (by kernel_rfl) ?_
  exact eqf_cons (by rfl) (by kernel_rfl) (by kernel_rfl) (eq_i64 _ _ _ _) (eqf_cons (by rfl) (by kernel_rfl) (by kernel_rfl) (eq_i64 _ _ _ _) eqf_nil)
theorem neq55 (x1 x2 y1 y2 : Int) (w : World) : (binOp .neq 55 (.agg #[.int .i64 x1, .int .i64 x2]) (.agg #[.int .i64 y1, .int .i64 y2])).run Tryz.prog w = .ok (.bool (!((x1 == y1) && (x2 == y2)))) w := by
  simp only [binOp]
  simp [Op.equal, Op.maxDepth, eq55 9998]
end Go.Proofs.YtmkcbkdbdcnoiaaGreatDoor
namespace Go.Proofs.YtmkcbkdbdcnoiaaGreatDoor
open Go.RowKit
set_option linter.unusedVariables false
set_option linter.unusedSimpArgs false
attribute [local go_sem] Oper.semAt_some

theorem infoI64 : (Tryz.prog.info? 2).map (fun i => (i.zero, i.size, i.bytes)) = some (some (.int .i64 0), 1, 8) := by kernel_rfl

set_option maxHeartbeats 400000 in
set_option maxRecDepth 100000 in
theorem eights_any (s : ByteArray) (w : World) :
    Calls Tryz.prog 179 #[.string s] w fun e w' => e = .returned (.func (.func 199) #[] #[.pointer (some ⟨w.heap.size, 0, none⟩)]) ∧ w.alloc (.cells #[.string s] 9) = w' := by
  have hmf : ∀ (fn : Fn) (first cap : Array Value) (w : World), (Instr.makeFunc fn first cap).run Tryz.prog w = .ok (.func fn first cap) w := fun _ _ _ _ => rfl
  go_enter Tryz.func179, Tryz.ntmps179
  go_wp2
  go_ret
  exact ⟨rfl, rfl⟩

theorem three_new (w : World) (A B C : Obj) : (((w.alloc A).alloc B).alloc C).heap.size = w.heap.size + 3 ∧ (((w.alloc A).alloc B).alloc C).heap[w.heap.size]? = some A ∧
    (((w.alloc A).alloc B).alloc C).heap[w.heap.size + 1]? = some B ∧ (((w.alloc A).alloc B).alloc C).heap[w.heap.size + 1 + 1]? = some C ∧ Below w.heap.size w (((w.alloc A).alloc B).alloc C) := by
  refine ⟨by simp, ?_, ?_, ?_, (((Below.refl _ w).alloc (Nat.le_refl _) _).alloc (by simp) _).alloc (by simp; omega) _⟩
  all_goals
    simp only [alloc_at, World.size_alloc]
    repeat (first | rw [if_pos trivial] | rw [if_pos (by omega)] | rw [if_neg (by omega)])

/-- What Parse tells. -/
def mParse (s : List UInt8) : Option (List Int) := if decide (s.length % 8 = 0) && (oct s).all okA then some (oct s) else none

/-- What the loop keeps, and how it is left early. -/
def MpI (w : World) (A : Bool) (pre : List Int) (nb : Nat) (W : World) : Prop :=
  W.heap[w.heap.size]? = some (.cells #[.bool (A && pre.all okA)] 4 (0, 0)) ∧ (pre = [] ∨ (A && pre.all okA) = true) ∧ (∃ v, W.heap[w.heap.size + 1]? = some (.cells #[v] 58 (0, 0)) ∧ W.ownsRow (w.heap.size + 5) 2 1 v pre.length (ints pre) ∧ (∀ g, v.ownBlock = some g → g < nb)) ∧ Below w.heap.size w W
def MpX (w : World) (A : Bool) (q : Code) (pre : List Int) (W : World) : Prop :=
  q = .exit 0 ∧ W.heap[w.heap.size]? = some (.cells #[.bool false] 4 (0, 0)) ∧ (A && pre.all okA) = false ∧ Below w.heap.size w W

def MpPost (s : ByteArray) (w : World) (e : Ending) (w' : World) : Prop :=
  (match mParse s.data.toList with
    | some l => ∃ v, e = .returned (.tuple #[v, .int .i64 0]) ∧ w'.ownsRow w.heap.size 2 1 v l.length (ints l)
    | none => e = .returned (.tuple #[.slice none 0 0, .int .i64 110])) ∧ Below w.heap.size w w'

set_option maxHeartbeats 2000000 in
set_option maxRecDepth 100000 in
theorem parse_any (s : ByteArray) (w : World) (hs : s.size ≤ 1000000) (hG : Glob w) : Calls Tryz.prog 130 #[.string s] w (MpPost s w) := by
  refine (callsIn_wide (n := 9)).1 ?_
  refine callsIn_of_wp_marks Tryz.func130 rfl trivial ?_ rfl
  simp only [Tryz.ntmps130, List.size_toArray, List.length_cons, List.length_nil, Nat.reduceAdd, Nat.reduceSub, Array.replicate_succ, Array.replicate_zero, List.push_toArray, List.append_toArray, List.nil_append, List.cons_append]
  have HG := Lib.hid hG
  clear hG
  have hmod : wrap64 (Int.tmod (s.size : Int) 8) = ((s.size % 8 : Nat) : Int) := by rw [Int.tmod_eq_emod_of_nonneg (by omega)]; unfold wrap64; omega
  gi_wp2
  refine wpIn_scope ?_
  gi_wp2
  obtain ⟨A, hA⟩ : ∃ A, (((s.size : Int) % 8) == 0) = A := ⟨_, rfl⟩
  simp only [hA]
  have HA : Hid (decide (s.data.toList.length % 8 = 0) = A) := Lib.hid (by
    rw [← hA, show s.data.toList.length = s.size from rfl, Bool.eq_iff_iff]
    simp only [decide_eq_true_eq, beq_iff_eq]
    omega)
  clear hA hmod
  apply wpIn_label
  gi_wp2_with (refine ⟨trivial, ?_⟩; gi_at_call 179; refine (callsIn_wide.2 (eights_any _ _)).mono ?_; rintro e w' ⟨rfl, rfl⟩)
  obtain ⟨W0, hW0⟩ : ∃ W0, (((w.alloc (.cells #[.bool A] 4)).alloc (.cells #[.slice none 0 0] 58)).alloc (.cells #[.string s] 9)) = W0 := ⟨_, rfl⟩
  obtain ⟨z0, z1, z2, z3, z4⟩ := three_new w (.cells #[.bool A] 4) (.cells #[.slice none 0 0] 58) (.cells #[.string s] 9)
  rw [hW0] at z0 z1 z2 z3 z4 ⊢
  have Z := Lib.hid (And.intro z0 (And.intro z1 (And.intro z2 (And.intro z3 z4))))
  clear z0 z1 z2 z3 z4 hW0
  refine wp_range (gf := 199) (lb := #[.pointer (some ⟨w.heap.size + 1 + 1, 0, none⟩)]) rfl (enters_of Tryz.func199 (by kernel_rfl) rfl)
    (eights_iter 8 (w.heap.size + 1 + 1) s W0 Z.out.2.2.2.1 (by omega)) (by rintro k rfl; have := Z.out.1; omega) (fun k h => h.elim) (fun x => rfl)
    (MpI w A) (MpX w A) ?hI ?hm ?hIx ?h0
    (fun x a' _ => a' = { tmps := #[.string s, undef, .slice none 0 0, .int .i64 0, .pointer (some ⟨w.heap.size, 0, none⟩), .pointer (some ⟨w.heap.size + 1, 0, none⟩), .int .i64 x, .string s, .int .i64 s.size, .int .i64 ((s.size : Int) % 8), .bool A, .string s, .func (.func 199) #[] #[.pointer (some ⟨w.heap.size + 1 + 1, 0, none⟩)], .int .i64 x, undef, undef, undef, undef, undef, undef, undef, undef, undef, undef, undef, undef, undef, undef, undef, undef], defers := [] }) (fun _ _ _ _ h _ _ => h) ?assign ?body ?done ?stop
  case hm =>
    rintro pre nb nb' A' ⟨h1, h2, ⟨v, hv, hr, hg⟩, hb⟩ hle
    exact ⟨h1, h2, ⟨v, hv, hr, fun g h => Nat.lt_of_lt_of_le (hg g h) hle⟩, hb⟩
  case hI =>
    rintro pre nb A' B ⟨h1, h2, ⟨v, hv, hr, hg⟩, hb⟩ hA hS
    have z0 := Z.out.1
    exact ⟨hS.at_ h1 ⟨by simp <;> omega, by omega⟩, h2, ⟨v, hS.at_ hv ⟨by simp, by omega⟩, ownsRow_same hr hS (fun k hk _ => ⟨by simp; omega, by omega⟩), hg⟩, hb.trans (hS.below (by omega) (fun k hk => ⟨by simp; omega, by omega⟩))⟩
  case hIx =>
    rintro q pre A' B ⟨h1, h2, h3, hb⟩ hA hS
    have z0 := Z.out.1
    exact ⟨h1, hS.at_ h2 ⟨by simp <;> omega, by omega⟩, h3, hb.trans (hS.below (by omega) (fun k hk => ⟨by simp; omega, by omega⟩))⟩
  case h0 => exact ⟨by simpa using Z.out.2.1, .inl rfl, ⟨_, Z.out.2.2.1, ⟨by simp [ints], .inl ⟨rfl, rfl⟩⟩, by simp [Value.ownBlock]⟩, Z.out.2.2.2.2⟩
  case assign =>
    intro l pre x rest nb W K _ hi _ _ hK
    dsimp only [encI]
    gi_wp2
    exact hK _ _ (Same.refl _ _) hi rfl
  case body =>
    rintro l pre x rest nb a' W hxs ⟨h1, h2, ⟨v, hv, hr, hg⟩, hb⟩ rfl hn hlen
    have z0 := Z.out.1
    have c1 := blk_cell h1 0
    have f1 : ∀ i, W.frozen? ⟨w.heap.size, i, none⟩ = false := blk_frozen h1
    have c2 := blk_cell hv 0
    simp only [List.getElem?_toArray, List.getElem?_cons_zero] at c1 c2
    have HH := Lib.hid (And.intro h1 (And.intro h2 (And.intro hv (And.intro hr (And.intro hg hb)))))
    have hplen : pre.length ≤ 1000000 := by
      have h1 := congrArg List.length hxs
      have h2 : ∀ (k : Nat) (l : List UInt8), (octN k l).length = k := fun k => by induction k with | zero => intro l; rfl | succ k ih => intro l; rw [octN, List.length_cons, ih]
      rw [oct, h2, List.length_append] at h1
      have : s.data.toList.length = s.size := rfl
      omega
    clear h1 h2 hv hr hg hb hxs
    have hnot : ∀ nb', nb' = nb → ¬ Theirs W0 (fun k => k = w.heap.size + 1 + 1) (fun _ => False) 0 nb' w.heap.size := by
      rintro _ rfl (h | h | h | h) <;> omega
    have hall : (A && (pre ++ [x]).all okA) = ((A && pre.all okA) && okA x) := by simp [List.all_append, Bool.and_assoc]
    have hsS : ∀ b, Same (Theirs W0 (fun k => k = w.heap.size + 1 + 1) (fun _ => False) 0 nb) W (W.setCell ⟨w.heap.size, 0, none⟩ b) := fun b => (Same.refl _ W).setCell (p := ⟨w.heap.size, 0, none⟩) (fun _ => hnot nb rfl) _
    have hbS : ∀ b, Below w.heap.size w (W.setCell ⟨w.heap.size, 0, none⟩ b) := fun b => HH.out.2.2.2.2.2.setCell (p := ⟨w.heap.size, 0, none⟩) (Nat.le_refl _) _
    have hcS : ∀ b, (W.setCell ⟨w.heap.size, 0, none⟩ b).heap[w.heap.size]? = some (.cells #[b] 4 (0, 0)) := fun b => by have := blk_set HH.out.1 0 b; simpa using this
    have HZ := Lib.hid (And.intro hsS (And.intro hbS hcS))
    clear hsS hbS hcS
    rcases hA1 : (A && pre.all okA) with _ | _
    · simp only [hA1] at c1
      gi_wp2
      refine ⟨trivial, ?_⟩
      gi_wp2
      exact ⟨HZ.out.1 _, rfl, HZ.out.2.2 _, by rw [hall, hA1]; rfl, HZ.out.2.1 _⟩
    · simp only [hA1] at c1
      rcases hx : okA x with _ | _
      · gi_wp2_with (refine ⟨trivial, ?_⟩; gi_at_call 105; refine (CallsIn.inRound l (callsIn_wide.2 (right_any x _))).mono ?_; rintro e w' ⟨rfl, hw⟩; obtain rfl := hw.symm)
        exact ⟨HZ.out.1 _, rfl, HZ.out.2.2 _, by rw [hall, hx, Bool.and_false], HZ.out.2.1 _⟩
      · have hr1 : (W.setCell ⟨w.heap.size, 0, none⟩ (.bool true)).ownsRow (w.heap.size + 5) 2 1 v pre.length (ints pre) :=
          ownsRow_same HH.out.2.2.2.1 ((Same.refl (fun k => k ≠ w.heap.size) W).setCell (p := ⟨w.heap.size, 0, none⟩) (fun _ h => h rfl) _) (fun k hk _ => by omega)
        have hb1 : (W.setCell ⟨w.heap.size, 0, none⟩ (.bool true)).heap[w.heap.size + 1]? = some (.cells #[v] 58 (0, 0)) := by
          rw [Below.heap_setCell _ _ _ _ (by simp)]; exact HH.out.2.2.1
        have HR := Lib.hid (And.intro hr1 hb1)
        have hsz : (W.setCell ⟨w.heap.size, 0, none⟩ (.bool true)).heap.size = W.heap.size := by simp [World.setCell]
        have hnew := cell_one_new (W.setCell ⟨w.heap.size, 0, none⟩ (.bool true)) (.int .i64 x) 2
        rw [hsz] at hnew
        have HN := Lib.hid hnew
        clear hnew
        obtain ⟨i0, hi, hi0, hi1, hi2⟩ := info_parts infoI64
        have hpl : pre.length ≤ 1000000 := hplen
        clear hr1 hb1
        gi_wp2_with (first | (refine ⟨trivial, ?_⟩; gi_at_call 105; refine (CallsIn.inRound l (callsIn_wide.2 (right_any x _))).mono ?_; rintro e w' ⟨rfl, hw⟩; obtain rfl := hw.symm) | (gi_at_builtin; refine wpListIn_append_own _ rfl _ _ 58 rfl (w.heap.size + 5) 2 i0 (.int .i64 0) 1 8 Tryz.underlying58 hi hi0 hi1 hi2 rfl (by decide) _ _ _ rfl (HR.out.1.alloc _) ⟨W.heap.size, 0, none⟩ 1 1 [.int .i64 x] rfl rfl HN.out (by simp [Value.oneCell']) ?b1 ?b2 ?b3 ?_))
        case b1 => unfold maxLen; omega
        case b2 => omega
        case b3 => simp [World.setCell]; omega
        intro v' w1 hown' hgrow _
        obtain ⟨g', cap', rfl⟩ := ownsRow_succ hown'
        have hgb : w.heap.size + 5 ≤ g' := by
          rcases hown'.2 with ⟨h, _⟩ | ⟨g, cap, cur, h, hg, _⟩
          · cases h
          · simp only [Value.slice.injEq, Option.some.injEq, Addr.mk.injEq] at h
            rw [h.1.1]; exact hg
        have hgl : g' < w1.heap.size := by
          rcases hown'.2 with ⟨h, _⟩ | ⟨g, cap, cur, h, _, hh, _⟩
          · cases h
          · simp only [Value.slice.injEq, Option.some.injEq, Addr.mk.injEq] at h
            rw [h.1.1]; exact (Array.getElem?_eq_some_iff.1 hh).1
        have hrow : ∀ k, v.ownBlock = some k → w.heap.size + 5 ≤ k ∧ k < nb := fun k hk => ⟨own_base HH.out.2.2.2.1 k hk, HH.out.2.2.2.2.1 k hk⟩
        have s1 : Same (fun k => k < w.heap.size + 5 ∨ nb ≤ k) (W.setCell ⟨w.heap.size, 0, none⟩ (.bool true)) w1 :=
          ((Same.refl _ _).alloc _).grown hgrow (fun k hk _ h => by have := hrow k hk; omega)
        have hv2 : w1.heap[w.heap.size + 1]? = some (.cells #[v] 58 (0, 0)) := s1.at_ HR.out.2 (.inl (by omega))
        have hb2 : w1.heap[w.heap.size]? = some (.cells #[.bool true] 4 (0, 0)) := s1.at_ (HZ.out.2.2 _) (.inl (by omega))
        have c3 := blk_cell hv2 0
        have f3 : ∀ i, w1.frozen? ⟨w.heap.size + 1, i, none⟩ = false := blk_frozen hv2
        simp only [List.getElem?_toArray, List.getElem?_cons_zero] at c3
        have HG := Lib.hid (And.intro hown' (And.intro hgb (And.intro hgl (And.intro s1 (And.intro hv2 hb2)))))
        clear hown' hgrow hgb hgl hrow s1 hv2 hb2
        gi_wp2
        obtain ⟨ho, hgb, hgl, s1, hv2, hb2⟩ := HG.out
        have s2 : Same (fun k => (k < w.heap.size + 5 ∧ k ≠ w.heap.size + 1) ∨ nb ≤ k) (W.setCell ⟨w.heap.size, 0, none⟩ (.bool true)) (w1.setCell ⟨w.heap.size + 1, 0, none⟩ (.slice (some ⟨g', 0, none⟩) (pre.length + 1) cap')) :=
          (s1.mono fun k _ h => by omega).setCell (fun _ h => by simp at h; omega) _
        refine ⟨(HZ.out.1 _).trans (s2.mono fun k _ h => ?_), ?_, .inr ?_, ⟨_, by have := blk_set hv2 0 (.slice (some ⟨g', 0, none⟩) (pre.length + 1) cap'); simpa using this, ?_, ?_⟩, (HZ.out.2.1 _).trans (s2.below (by have := (HZ.out.2.1 (.bool true)).size; omega) fun k hk => .inl ⟨by omega, by omega⟩)⟩
        · rcases h with h | h | h | h
          · left; omega
          · exact h.elim
          · left; omega
          · right; exact h
        · rw [hall, hA1, hx]
          exact s2.at_ (HZ.out.2.2 _) (.inl ⟨by omega, by omega⟩)
        · rw [hall, hA1, hx]; rfl
        · rw [List.length_append]
          refine ownsRow_same (S := fun k => k ≠ w.heap.size + 1) (by simpa [ints] using ho) ((Same.refl _ _).setCell (fun _ h => h rfl) _) (fun k hk _ => by omega)
        · intro g hg
          obtain rfl : g' = g := by simpa [Value.ownBlock] using hg
          simpa [World.setCell] using hgl
  case done =>
    rintro W ⟨h1, h2, ⟨v, hv, hr, hg⟩, hb⟩ hsz hD
    have c1 := blk_cell h1 0
    have c2 := blk_cell hv 0
    simp only [List.getElem?_toArray, List.getElem?_cons_zero] at c1 c2
    have hP : mParse s.data.toList = if (A && (oct s.data.toList).all okA) = true then some (oct s.data.toList) else none := by rw [mParse, HA.out]
    obtain ⟨ao, aa, af, hGl⟩ := HG.out.below hb
    have ha := hGl.a
    have HH := Lib.hid (And.intro hr (And.intro hb (And.intro hD hP)))
    clear hr hb hD hP h1 h2 hv hg
    rcases hA1 : (A && (oct s.data.toList).all okA) with _ | _
    · simp only [hA1] at c1
      gi_wp2_with (refine ⟨trivial, ?_⟩; gi_at_call 180; refine (callsIn_wide.2 (told_a hGl)).mono ?_; rintro e w' ⟨rfl, hw⟩; obtain rfl := hw.symm)
      obtain ⟨hr, hb, hD, hP⟩ := HH.out
      rw [hA1, if_neg (by simp)] at hP
      refine ⟨by simp, .inl ⟨_, _, rfl, run_takeDeferred hD, ?_⟩⟩
      refine ⟨_, results_tmp2 rfl _ _ _, ?_⟩
      refine ⟨by rw [hP]; rfl, ?_⟩
      exact hb.trans (((Same.refl (fun k => k < w.heap.size) W).putObj _ (fun _ h => by have := Z.out.1; omega)).below (by have := hb.size; omega) fun k hk => hk)
    · simp only [hA1] at c1
      gi_wp2
      obtain ⟨hr, hb, hD, hP⟩ := HH.out
      rw [hA1, if_pos rfl] at hP
      refine ⟨by simp, .inl ⟨_, _, rfl, run_takeDeferred hD, ?_⟩⟩
      refine ⟨_, results_tmp2 rfl _ _ _, ?_⟩
      refine ⟨?_, ?_⟩
      · rw [hP]
        exact ⟨v, rfl, ownsRow_base (ownsRow_same (S := fun k => w.heap.size + 5 ≤ k) hr ((Same.refl _ _).putObj _ (fun _ h => by have := Z.out.1; omega)) (fun k hk _ => hk)) (by omega)⟩
      · exact hb.trans (((Same.refl (fun k => k < w.heap.size) W).putObj _ (fun _ h => by have := Z.out.1; omega)).below (by have := hb.size; omega) fun k hk => hk)
  case stop =>
    rintro q pre W hp ⟨rfl, h1, h2, hb⟩ hsz hD
    have c1 := blk_cell h1 0
    simp only [List.getElem?_toArray, List.getElem?_cons_zero] at c1
    have hP : mParse s.data.toList = none := by
      obtain ⟨r, hr⟩ := hp
      rw [mParse, HA.out, if_neg]
      rw [← hr, List.all_append, ← Bool.and_assoc, h2]
      simp
    obtain ⟨ao, aa, af, hGl⟩ := HG.out.below hb
    have ha := hGl.a
    have HH := Lib.hid (And.intro hb (And.intro hD hP))
    clear hb hD hP h1 h2
    gi_wp2_with (refine ⟨trivial, ?_⟩; gi_at_call 180; refine (callsIn_wide.2 (told_a hGl)).mono ?_; rintro e w' ⟨rfl, hw⟩; obtain rfl := hw.symm)
    obtain ⟨hb, hD, hP⟩ := HH.out
    refine ⟨by simp, .inl ⟨_, _, rfl, run_takeDeferred hD, ?_⟩⟩
    refine ⟨_, results_tmp2 rfl _ _ _, ?_⟩
    refine ⟨by rw [hP]; rfl, ?_⟩
    exact hb.trans (((Same.refl (fun k => k < w.heap.size) W).putObj _ (fun _ h => by have := Z.out.1; omega)).below (by have := hb.size; omega) fun k hk => hk)
end Go.Proofs.YtmkcbkdbdcnoiaaGreatDoor
namespace Go.Proofs.YtmkcbkdbdcnoiaaGreatDoor
open Go.RowKit
set_option linter.unusedVariables false
set_option linter.unusedSimpArgs false
attribute [local go_sem] Oper.semAt_some

theorem eq_u16 (d : Nat) (x y : Int) (w : World) : (Op.equalIn (d + 1) 23 (.int .u16 x) (.int .u16 y)).run Tryz.prog w = .ok (x == y) w := by
  simp [Op.equalIn, underlying, Tryz.underlying23]
theorem eq62 (d : Nat) (x1 x2 y1 y2 : Int) (w : World) : (Op.equalIn (d + 2) 62 (.agg #[.int .u16 x1, .int .i64 x2]) (.agg #[.int .u16 y1, .int .i64 y2])).run Tryz.prog w = .ok ((x1 == y1) && ((x2 == y2) && true)) w := by
  refine eqA_of Tryz.underlying62 (by kernel_rfl) ?_
  exact eqf_cons (by rfl) (by kernel_rfl) (by kernel_rfl) (eq_u16 _ _ _ _) (eqf_cons (by rfl) (by kernel_rfl) (by kernel_rfl) (eq_i64 _ _ _ _) eqf_nil)
theorem neq62 (x1 x2 y1 y2 : Int) (w : World) : (binOp .neq 62 (.agg #[.int .u16 x1, .int .i64 x2]) (.agg #[.int .u16 y1, .int .i64 y2])).run Tryz.prog w = .ok (.bool (!((x1 == y1) && (x2 == y2)))) w := by
  simp only [binOp]
  simp [Op.equal, Op.maxDepth, eq62 9998]

/-- Is a stack right behind another one? -/
def okPr (x : Stk × Stk) : Bool := okN x.2.2 && !((!((x.1.1 == 0) && (x.1.2 == 0))) && decide (x.1.1 ≥ x.2.1))
def gRight (l : List Stk) : Bool := decide (l.length ≤ 20) && (prs (0, 0) l).all okPr

def GrI (w : World) (A : Bool) (pre : List (Stk × Stk)) (nb : Nat) (W : World) : Prop :=
  W.heap[w.heap.size]? = some (.cells #[.bool A] 4 (0, 0)) ∧ W.heap[w.heap.size + 1]? = some (.cells #[.int .u16 0, .int .i64 0] 62 (0, 0)) ∧ pre.all okPr = true ∧ Below w.heap.size w W
def GrX (w : World) (q : Code) (pre : List (Stk × Stk)) (W : World) : Prop :=
  q = .exit 0 ∧ W.heap[w.heap.size]? = some (.cells #[.bool false] 4 (0, 0)) ∧ pre.all okPr = false ∧ Below w.heap.size w W

set_option maxHeartbeats 2000000 in
set_option maxRecDepth 100000 in
theorem gright_any (l : List Stk) (n : Nat) (v : Value) (w : World) (hn : l.length = n) (hv : Sees w v n 2 (stks l)) (hl : n ≤ 1000000) :
    Calls Tryz.prog 152 #[v] w fun e w' => e = .returned (.bool (gRight l)) ∧ Below w.heap.size w w' := by
  subst hn
  refine (callsIn_wide (n := 9)).1 ?_
  refine callsIn_of_wp_marks Tryz.func152 rfl trivial ?_ rfl
  simp only [Tryz.ntmps152, List.size_toArray, List.length_cons, List.length_nil, Nat.reduceAdd, Nat.reduceSub, Array.replicate_succ, Array.replicate_zero, List.push_toArray, List.append_toArray, List.nil_append, List.cons_append]
  have HV := Lib.hid hv
  obtain ⟨base, cap, rfl⟩ := hv.shape
  clear hv
  gi_wp2
  refine wpIn_scope ?_
  gi_wp2
  obtain ⟨A, hA⟩ : ∃ A, decide ((l.length : Int) ≤ 20) = A := ⟨_, rfl⟩
  simp only [hA]
  have HA : Hid (decide (l.length ≤ 20) = A) := Lib.hid (by rw [← hA]; congr 1; exact propext ⟨fun h => by omega, fun h => by omega⟩)
  clear hA
  apply wpIn_label
  gi_wp2_with (refine ⟨trivial, ?_⟩; gi_at_call 172; refine (callsIn_wide.2 (pairs_any _ _ ⟨_, _, _, rfl⟩)).mono ?_; rintro e w' ⟨rfl, rfl⟩)
  obtain ⟨W0, hW0⟩ : ∃ W0, (((w.alloc (.cells #[.bool A] 4)).alloc (.cells #[.int .u16 0, .int .i64 0] 62)).alloc (.cells #[.slice base l.length cap] 119)) = W0 := ⟨_, rfl⟩
  obtain ⟨z0, z1, z2, z3, z4⟩ := three_new w (.cells #[.bool A] 4) (.cells #[.int .u16 0, .int .i64 0] 62) (.cells #[.slice base l.length cap] 119)
  rw [hW0] at z0 z1 z2 z3 z4 ⊢
  have Z := Lib.hid (And.intro z0 (And.intro z1 (And.intro z2 (And.intro z3 z4))))
  clear z0 z1 z2 z3 z4 hW0
  refine wp_range (gf := 196) (lb := #[.pointer (some ⟨w.heap.size + 1 + 1, 0, none⟩)]) rfl (enters_of Tryz.func196 (by kernel_rfl) rfl)
    (pairs_iter 8 (w.heap.size + 1 + 1) (.slice base l.length cap) l W0 hl Z.out.2.2.2.1 (HV.out.below Z.out.2.2.2.2) (by omega)) (fun k h => h.elim)
    (by rintro k (rfl | ⟨h, hk⟩); · have := Z.out.1; omega
        · have := HV.out.own_lt h (by omega) hk; have := Z.out.1; omega) (fun x => rfl)
    (GrI w A) (GrX w) ?hI ?hm ?hIx ?h0
    (fun x a' W => ∃ b, a' = { tmps := #[.slice base l.length cap, undef, .bool false, .pointer (some ⟨w.heap.size, 0, none⟩), .pointer (some ⟨w.heap.size + 1, 0, none⟩), .pointer (some ⟨b, 0, none⟩), .pointer (some ⟨b + 1, 0, none⟩), .slice base l.length cap, .int .i64 l.length, .bool A, .agg #[.int .u16 0, .int .i64 0], .slice base l.length cap, .func (.func 196) #[] #[.pointer (some ⟨w.heap.size + 1 + 1, 0, none⟩)], .agg #[.int .u16 x.1.1, .int .i64 x.1.2], .agg #[.int .u16 x.2.1, .int .i64 x.2.2], undef, undef, undef, undef, undef, undef, undef, undef, undef, undef, undef, undef, undef, undef, undef, undef, undef, undef], defers := [] } ∧ W0.heap.size + 2 ≤ b ∧ W.heap[b]? = some (.cells #[.int .u16 x.1.1, .int .i64 x.1.2] 62 (0, 0)) ∧ W.heap[b + 1]? = some (.cells #[.int .u16 x.2.1, .int .i64 x.2.2] 62 (0, 0))) ?hAx ?assign ?body ?done ?stop
  case hm =>
    rintro pre nb nb' A' h hle
    exact h
  case hI =>
    rintro pre nb A' B ⟨h1, h1', h2, hb⟩ hA hS
    have z0 := Z.out.1
    exact ⟨hS.at_ h1 ⟨id, by omega⟩, hS.at_ h1' ⟨id, by omega⟩, h2, hb.trans (hS.below (by omega) (fun k hk => ⟨id, by omega⟩))⟩
  case hIx =>
    rintro q pre A' B ⟨h1, h2, h3, hb⟩ hA hS
    have z0 := Z.out.1
    exact ⟨h1, hS.at_ h2 ⟨id, by omega⟩, h3, hb.trans (hS.below (by omega) (fun k hk => ⟨id, by omega⟩))⟩
  case h0 => exact ⟨Z.out.2.1, Z.out.2.2.1, rfl, Z.out.2.2.2.2⟩
  case hAx =>
    rintro x a' A' B ⟨b, ha, hb, hc, hc'⟩ hA hS
    exact ⟨b, ha, hb, hS.at_ hc (by omega), hS.at_ hc' (by omega)⟩
  case assign =>
    intro lp pre x rest nb W K hxs ⟨h1, h1', h2, hb⟩ hnb hW hK
    clear hxs
    dsimp only [encS, stkv]
    gi_wp2
    refine hK _ _ (((Same.refl _ W).alloc _).alloc _) ⟨keep_a _ (keep_a _ h1), keep_a _ (keep_a _ h1'), h2, (hb.alloc hb.size _).alloc (by have := hb.size; simp; omega) _⟩ ⟨W.heap.size, rfl, by omega, keep_a _ (heap_alloc_new W _), ?_⟩
    have := heap_alloc_new (W.alloc (.cells #[.int .u16 x.1.1, .int .i64 x.1.2] 62)) (.cells #[.int .u16 x.2.1, .int .i64 x.2.2] 62)
    rwa [World.size_alloc] at this
  case body =>
    rintro lp pre ⟨⟨p0, p1⟩, q0, q1⟩ rest nb a' W hxs ⟨h1, h1', h2, hb⟩ ⟨b, rfl, hb4, hc4, hc5⟩ hn hlen
    have z0 := Z.out.1
    dsimp only at hc4 hc5 ⊢
    obtain ⟨W1, hW1⟩ : ∃ W1, W.alloc (.cells #[.int .i64 q1] 2) = W1 := ⟨_, rfl⟩
    have hw1 : Below W.heap.size W W1 := by rw [← hW1]; exact (Below.refl _ W).alloc (Nat.le_refl _) _
    have hA := gare_any [q1] 1 (.slice (some ⟨W.heap.size, 0, none⟩) 1 1) W1 rfl (Sees.of_blk (by rw [← hW1]; exact heap_alloc_new W _) (by simp)) (by omega)
    have hall : (pre ++ [((p0, p1), (q0, q1))]).all okPr = okPr ((p0, p1), (q0, q1)) := by simp [List.all_append, h2]
    simp only [List.all_cons, List.all_nil, Bool.and_true] at hA
    have hneq := neq62 p0 p1 0 0
    have hnot : ¬ Theirs W0 (fun _ => False) (RowRd (w.heap.size + 1 + 1) l.length (.slice base l.length cap)) 1 nb w.heap.size := by
      rintro (h | (h | ⟨h, hk⟩) | h | h)
      · exact h
      · omega
      · have := HV.out.own_lt h (by omega) hk; omega
      · omega
      · omega
    have g1 := keep_b h1 hw1
    have hc : ∀ i, W1.cell? ⟨b, i, none⟩ = (#[.int .u16 p0, .int .i64 p1] : Array Value)[i]? := blk_cell (keep_b hc4 hw1)
    have hd : ∀ i, W1.cell? ⟨b + 1, i, none⟩ = (#[.int .u16 q0, .int .i64 q1] : Array Value)[i]? := blk_cell (keep_b hc5 hw1)
    have hd0 : W.cell? ⟨b + 1, 1, none⟩ = some (.int .i64 q1) := blk_cell hc5 1
    have he : ∀ i, W1.cell? ⟨w.heap.size + 1, i, none⟩ = (#[.int .u16 0, .int .i64 0] : Array Value)[i]? := blk_cell (keep_b h1' hw1)
    have f0 : ∀ i, W1.frozen? ⟨w.heap.size, i, none⟩ = false := blk_frozen g1
    have c0 : W1.cell? ⟨w.heap.size, 0, none⟩ = some (.bool A) := blk_cell g1 0
    have hs3 : ∀ u, Same (Theirs W0 (fun _ => False) (RowRd (w.heap.size + 1 + 1) l.length (.slice base l.length cap)) 1 nb) W (W1.setCell ⟨w.heap.size, 0, none⟩ u) := fun u =>
      (Same.of_below hw1 (fun k hk _ => hk)).setCell (p := ⟨w.heap.size, 0, none⟩) (fun _ => hnot) u
    have hs4 : Same (Theirs W0 (fun _ => False) (RowRd (w.heap.size + 1 + 1) l.length (.slice base l.length cap)) 1 nb) W W1 := Same.of_below hw1 (fun k hk _ => hk)
    have hb4 : Below w.heap.size w W1 := hb.trans (hw1.mono hb.size)
    have hb5 : ∀ u, Below w.heap.size w (W1.setCell ⟨w.heap.size, 0, none⟩ u) := fun u => hb4.setCell (p := ⟨w.heap.size, 0, none⟩) (Nat.le_refl _) u
    have hc5' : ∀ u, (W1.setCell ⟨w.heap.size, 0, none⟩ u).heap[w.heap.size]? = some (.cells #[u] 4 (0, 0)) := fun u => by have := blk_set g1 0 u; simpa using this
    have H3 := Lib.hid (And.intro hs3 (And.intro hb5 (And.intro hc5' (And.intro hs4 (And.intro hb4 (And.intro g1 (And.intro (keep_b h1' hw1) hall)))))))
    clear hs3 hb5 hc5' hs4 hb4 g1 h1 h1' h2 hb hxs hall hc4 hc5
    rcases hx : okN q1 with _ | _
    · simp only [hx] at hA
      gi_wp2_with (refine ⟨trivial, ?_⟩; gi_at_call 153; refine (CallsIn.inRound lp (callsIn_wide.2 hA)).mono ?_; rintro e w' ⟨rfl, hw⟩; obtain rfl := hw.symm)
      obtain ⟨hs3, hb5, hc5, -, -, -, -, hall⟩ := H3.out
      exact ⟨hs3 _, rfl, hc5 _, by rw [hall, okPr]; simp [hx], hb5 _⟩
    · simp only [hx] at hA
      rcases hq : ((p0 == 0) && (p1 == 0)) with _ | _
      · simp only [hq] at hneq
        by_cases hge : p0 ≥ q0
        · have hge' : decide (q0 ≤ p0) = true := by simpa using hge
          gi_wp2_with (refine ⟨trivial, ?_⟩; gi_at_call 153; refine (CallsIn.inRound lp (callsIn_wide.2 hA)).mono ?_; rintro e w' ⟨rfl, hw⟩; obtain rfl := hw.symm)
          obtain ⟨hs3, hb5, hc5, -, -, -, -, hall⟩ := H3.out
          exact ⟨hs3 _, rfl, hc5 _, by rw [hall, okPr]; simp only [hx, hq]; simp [hge], hb5 _⟩
        · have hge' : decide (q0 ≤ p0) = false := by simpa using hge
          gi_wp2_with (refine ⟨trivial, ?_⟩; gi_at_call 153; refine (CallsIn.inRound lp (callsIn_wide.2 hA)).mono ?_; rintro e w' ⟨rfl, hw⟩; obtain rfl := hw.symm)
          obtain ⟨-, -, -, hs4, hb4, g1, g2, hall⟩ := H3.out
          exact ⟨hs4, g1, g2, by rw [hall, okPr]; simp only [hx, hq]; simp [hge], hb4⟩
      · simp only [hq] at hneq
        gi_wp2_with (refine ⟨trivial, ?_⟩; gi_at_call 153; refine (CallsIn.inRound lp (callsIn_wide.2 hA)).mono ?_; rintro e w' ⟨rfl, hw⟩; obtain rfl := hw.symm)
        obtain ⟨-, -, -, hs4, hb4, g1, g2, hall⟩ := H3.out
        exact ⟨hs4, g1, g2, by rw [hall, okPr]; simp only [hx, hq]; simp, hb4⟩
  case done =>
    rintro W ⟨h1, h1', h2, hb⟩ hsz hD
    have c1 := blk_cell h1 0
    simp only [List.getElem?_toArray, List.getElem?_cons_zero] at c1
    have HH := Lib.hid (And.intro h2 (And.intro hb hD))
    clear h1 h1' h2 hb hD
    gi_wp2
    obtain ⟨h2, hb, hD⟩ := HH.out
    refine ⟨by simp, .inl ⟨_, _, rfl, run_takeDeferred hD, ?_⟩⟩
    refine ⟨_, results_tmp rfl _ _ _, ?_⟩
    refine ⟨by rw [gRight, h2, HA.out, Bool.and_true]; rfl, ?_⟩
    exact hb.trans (((Same.refl (fun k => k < w.heap.size) W).putObj _ (fun _ h => by have := Z.out.1; omega)).below (by have := hb.size; omega) fun k hk => hk)
  case stop =>
    rintro q pre W ⟨r, hr⟩ ⟨rfl, h1, h2, hb⟩ hsz hD
    have c1 := blk_cell h1 0
    simp only [List.getElem?_toArray, List.getElem?_cons_zero] at c1
    have hall : gRight l = false := by rw [gRight, ← hr, List.all_append, h2, Bool.false_and, Bool.and_false]
    have HH := Lib.hid (And.intro hall (And.intro hb hD))
    clear h1 h2 hb hD hr hall
    gi_wp2
    obtain ⟨h2, hb, hD⟩ := HH.out
    refine ⟨by simp, .inl ⟨_, _, rfl, run_takeDeferred hD, ?_⟩⟩
    refine ⟨_, results_tmp rfl _ _ _, ?_⟩
    refine ⟨by rw [h2]; rfl, ?_⟩
    exact hb.trans (((Same.refl (fun k => k < w.heap.size) W).putObj _ (fun _ h => by have := Z.out.1; omega)).below (by have := hb.size; omega) fun k hk => hk)
end Go.Proofs.YtmkcbkdbdcnoiaaGreatDoor
