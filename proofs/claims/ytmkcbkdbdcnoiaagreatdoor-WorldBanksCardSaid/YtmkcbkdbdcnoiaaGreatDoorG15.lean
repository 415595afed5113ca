/- Package world: the iterator of an account's stacks. Package world: goods, setGoods. Package world: of, next. -/
import Derived.BigQuiet
import Derived.Stop.RegionWithIn
import Derived.Test.YtmkcbkdbdcnoiaaGreatDoorG14
namespace Go.Proofs.YtmkcbkdbdcnoiaaGreatDoor
open Go.RowKit
set_option linter.unusedVariables false
set_option linter.unusedSimpArgs false
attribute [local go_sem] Oper.semAt_some

/-- The stacks of pairs, up to the first that has no number. -/
def stF : List Par → List Stk
  | [] => []
  | p :: r => match mParse p.2 with
    | some [n] => ((kParse p.1).1.2.2.1, n) :: stF r
    | _ => []
def encSt (s : Stk) : Array Value := #[stkv s]

theorem Wk.globBut {B pl pw bo : Nat} {l : List Par} {c : Cmd} {a : Ans} {w W : World} (h : Wk B pl pw l c a w) (hB : B ≤ bo) (hs : w.heap.size ≤ W.heap.size) (hk : ∀ k, k < w.heap.size → k ≠ bo → W.heap[k]? = w.heap[k]?) : Glob W := by
  obtain ⟨W0, h1, h2, h3, h4⟩ := h.gl
  have hb : Below W0.heap.size W0 { W0 with heap := W.heap } := ⟨rfl, rfl, rfl, Nat.le_trans h3 hs, fun k hk' => (hk k (by omega) (by omega)).trans (h4 k hk')⟩
  obtain ⟨ao, aa, af, g⟩ := h1.below hb
  exact ⟨ao, aa, af, ⟨g.ty, g.o, g.a, g.f, g.ho, g.ha, g.hf, g.oa, g.of, g.af⟩⟩

set_option maxHeartbeats 1000000 in
set_option maxRecDepth 100000 in
theorem stacks_iter (n B pl pw N bo b1 b2 : Nat) (l : List Par) (c : Cmd) (a : Ans) (x : Int) (o : Obj) (w : World) (hW : Wk B pl pw l c a w) (hO : Ok N l) (hN : N ≤ 100000) (hx : 0 ≤ x ∧ x < 4294967296) (h1 : 1 ≤ n)
    (e1 : w.heap[b1]? = some (.cells #[.pointer (some ⟨pw, 0, none⟩)] 78 (0, 0))) (e2 : w.heap[b2]? = some (.cells #[.int .u32 x] 26 (0, 0))) (ho : w.heap[bo]? = some o) (ho4 : is44 o = false) (hB : B ≤ bo) (n1 : bo ≠ pl) (n2 : bo ≠ pw) (n3 : bo ≠ b1) (n4 : bo ≠ b2) :
    Iter n Tryz.prog 190 #[.pointer (some ⟨b1, 0, none⟩), .pointer (some ⟨b2, 0, none⟩)] encSt (stF (unF l 2 x)) (fun _ => False) (fun k => k ≠ bo ∧ k < w.heap.size) 0 w := by
  intro lp J Jx W hsz hsame hJ hJx hY h0
  have HY := Lib.hid hY
  have HJ := Lib.hid hJ
  have H0 := Lib.hid h0
  have hk : ∀ k, k < w.heap.size → k ≠ bo → W.heap[k]? = w.heap[k]? := fun k hk hne => hsame k hk (.inr ⟨hne, hk⟩)
  have hW2 := hW.but ho ho4 hB n1 n2 hsz hk
  have f1 := (hk b1 (Array.getElem?_eq_some_iff.1 e1).1 (Ne.symm n3)).trans e1
  have f2 := (hk b2 (Array.getElem?_eq_some_iff.1 e2).1 (Ne.symm n4)).trans e2
  have c1 : W.cell? ⟨b1, 0, none⟩ = some (.pointer (some ⟨pw, 0, none⟩)) := blk_cell f1 0
  have c2 : W.cell? ⟨b2, 0, none⟩ = some (.int .u32 x) := blk_cell f2 0
  have hbo : bo < w.heap.size := (Array.getElem?_eq_some_iff.1 ho).1
  have hU := wunder_any B pl pw N l c a 2 x W hW2 hO hN (.inl rfl) hx
  have hUO : ∀ p ∈ unF l 2 x, p.1.length ≤ 100 ∧ p.2.length ≤ 1000 := fun p hp => hO.small p (mem_betw hp)
  have hrow : ∀ v0, W.heap[pl]? = some (.cells #[v0] 48 (0, 0)) → ∀ g, v0.ownBlock = some g → g ≠ bo ∧ g < w.heap.size := by
    intro v0 hv0 g e
    obtain ⟨u, hu, hr⟩ := hW.lst
    rw [hk pl (Array.getElem?_eq_some_iff.1 hu).1 (Ne.symm n1), hu] at hv0
    have : u = v0 := by simpa using hv0
    subst this
    refine ⟨fun h => own44 hr ho ho4 (by rw [← h]; exact e), ?_⟩
    rcases hr.2 with ⟨rfl, _⟩ | ⟨g', cap, cur, rfl, _, hg, _⟩
    · simp [Value.ownBlock] at e
    · simp [Value.ownBlock] at e
      subst e
      exact (Array.getElem?_eq_some_iff.1 hg).1
  have hUl : (unF l 2 x).length ≤ 100000 := Nat.le_trans (betw_length _ _ _) (Nat.le_trans hO.len hN)
  generalize unF l 2 x = M at hU hUO hUl HY HJ ⊢
  have HU := Lib.hid (And.intro hU (And.intro hW2 (And.intro hUO (And.intro hrow (And.intro hW hk)))))
  clear hY hJ hJx h0 hsame f1 f2 hU hUO e1 e2 ho hW hO hrow hW2 hk
  refine callsIn_of_wp Tryz.func190 rfl trivial ?_ rfl
  simp only [Tryz.ntmps190, List.size_toArray, List.length_cons, List.length_nil, Nat.reduceAdd, Nat.reduceSub, Array.replicate_succ, Array.replicate_zero, List.push_toArray, List.append_toArray, List.nil_append, List.cons_append]
  gi_wp2_with (refine ⟨trivial, ?_⟩; gi_at_call 127; refine (callsIn_wide.2 HU.out.1).mono ?_; rintro e W2 ⟨⟨v, rfl, hv, v0, hv0, hob⟩, hb⟩; obtain ⟨base, cap, rfl⟩ := hv.shape)
  have hvb : ∀ g, (Value.slice base M.length cap).ownBlock = some g → g ≠ bo ∧ g < w.heap.size := by rw [hob]; exact HU.out.2.2.2.1 v0 hv0
  have H2 := Lib.hid (And.intro hv (And.intro hvb (And.intro hb (HU.out.2.1.glob.below hb))))
  have hle2 := hb.size
  clear hv hvb hb hob hv0
  gi_wp2
  gi_loopw [14] (fun i wr => ∃ (j : Nat) (pre : List Stk), j ≤ M.length ∧ i = .int .i64 (j : Int) ∧ Hid (stF M = pre ++ stF (M.drop j)) ∧ Hid (Sees wr (.slice base M.length cap) M.length 2 (prows M)) ∧ Hid (∀ k, k < w.heap.size → k ≠ bo → wr.heap[k]? = w.heap[k]?) ∧ Hid (J pre wr) ∧ W2.heap.size ≤ wr.heap.size) (fun i _ => M.length - (intOf i).toNat)
  case atStart => exact ⟨0, [], Nat.zero_le _, rfl, Lib.hid rfl, Lib.hid H2.out.1, Lib.hid (fun k hk hne => (H2.out.2.2.1.block k (by omega)).trans (HU.out.2.2.2.2.2 k hk hne)), Lib.hid (HJ.out _ _ _ H0.out (Nat.le_refl _) (Same.of_below H2.out.2.2.1 fun k hk _ => hk)), Nat.le_refl _⟩
  case round =>
    obtain ⟨j, pre, hj, rfl, HP, HS, HX, HJp, hle⟩ := hrel
    by_cases hlt : j < M.length
    · obtain ⟨p, hp⟩ : ∃ p, M[j]'hlt = p := ⟨_, rfl⟩
      have hdrop : M.drop j = p :: M.drop (j + 1) := by rw [← hp]; exact List.drop_eq_getElem_cons hlt
      obtain ⟨ad, cap2, he, h2, h3, h4⟩ := Sees.at2 (f := fun p : Par => .string ⟨p.1.toArray⟩) (g := fun p : Par => .string ⟨p.2.toArray⟩) HS.out j hlt
      simp only [Value.slice.injEq, true_and] at he
      obtain ⟨rfl, rfl⟩ := he
      rw [hp] at h2 h3 h4
      have hsm := HU.out.2.2.1 p (by rw [← hp]; exact List.getElem_mem hlt)
      have hlt' : (j : Int) < (M.length : Int) := by omega
      obtain ⟨p1, p2⟩ := p
      dsimp only at h2 h3 h4 hsm
      have HD := Lib.hid hdrop
      clear hp hdrop
      obtain ⟨w1, hw1⟩ : ∃ w1, wr.alloc (.cells #[.string ⟨p1.toArray⟩, .string ⟨p2.toArray⟩] 44) = w1 := ⟨_, rfl⟩
      obtain ⟨bp, hbp⟩ : ∃ bp, wr.heap.size = bp := ⟨_, rfl⟩
      have hb1 : Below wr.heap.size wr w1 := by rw [← hw1]; exact (Below.refl _ wr).alloc (Nat.le_refl _) _
      have k1 : w1.heap[bp]? = some (.cells #[.string ⟨p1.toArray⟩, .string ⟨p2.toArray⟩] 44 (0, 0)) := by rw [← hw1, ← hbp]; exact heap_alloc_new wr _
      have d1 : ∀ i, w1.cell? ⟨bp, i, none⟩ = (#[.string ⟨p1.toArray⟩, .string ⟨p2.toArray⟩] : Array Value)[i]? := blk_cell k1
      have hK := kparse_any ⟨p1.toArray⟩ w1 (by simp [ByteArray.size]; omega)
      have HA := Lib.hid (And.intro hb1 k1)
      obtain ⟨q, hq⟩ : ∃ q, (kParse p1).1 = q := ⟨_, rfl⟩
      obtain ⟨qe, hqe⟩ : ∃ q, (kParse p1).2 = q := ⟨_, rfl⟩
      obtain ⟨qk, qa, qi, qm⟩ := q
      simp only [hq, hqe] at hK
      unfold plv at hK
      have HKK := Lib.hid (And.intro hK hq)
      clear hK hb1 k1 hq hqe
      gi_wp2_with fail
      refine ⟨trivial, ?_⟩
      refine (callsIn_wide.2 HKK.out.1).mono ?_
      rintro e W3 ⟨rfl, hb3⟩
      obtain ⟨b6, hb6⟩ : ∃ b6, W3.heap.size = b6 := ⟨_, rfl⟩
      obtain ⟨W4, hW4⟩ : ∃ W4, W3.alloc (.cells #[.int .i64 qk, .int .u32 qa, .int .u16 qi, .int .u32 qm] 51) = W4 := ⟨_, rfl⟩
      have hb4 : Below wr.heap.size wr W4 := by rw [← hW4]; exact (HA.out.1.trans (hb3.mono HA.out.1.size)).alloc (Nat.le_trans HA.out.1.size hb3.size) _
      have k4 : W4.heap[bp]? = some (.cells #[.string ⟨p1.toArray⟩, .string ⟨p2.toArray⟩] 44 (0, 0)) := by rw [← hW4]; exact keep_a _ (keep_b HA.out.2 hb3)
      have k6 : W4.heap[b6]? = some (.cells #[.int .i64 qk, .int .u32 qa, .int .u16 qi, .int .u32 qm] 51 (0, 0)) := by rw [← hW4, ← hb6]; exact heap_alloc_new W3 _
      have d4 : ∀ i, W4.cell? ⟨bp, i, none⟩ = (#[.string ⟨p1.toArray⟩, .string ⟨p2.toArray⟩] : Array Value)[i]? := blk_cell k4
      have hG4 := HU.out.2.2.2.2.1.globBut hB (W := wr) (by omega) HX.out
      have hP := parse_any ⟨p2.toArray⟩ W4 (by simp [ByteArray.size]; omega) (hG4.below hb4)
      unfold MpPost at hP
      simp only at hP
      have H4 := Lib.hid (And.intro hb4 k6)
      clear hb3 hb4 k4 k6 d1 hw1 hG4
      gi_wp2_with fail
      refine ⟨trivial, ?_⟩
      refine (callsIn_wide.2 hP).mono ?_
      clear hP
      rintro e W5 ⟨hr, hb5⟩
      have d6 : ∀ i, W5.cell? ⟨b6, i, none⟩ = (#[.int .i64 qk, .int .u32 qa, .int .u16 qi, .int .u32 qm] : Array Value)[i]? := blk_cell (keep_b H4.out.2 hb5)
      have H5 := Lib.hid (And.intro (H4.out.1.trans (hb5.mono H4.out.1.size)) (keep_b H4.out.2 hb5))
      have hle5 : wr.heap.size ≤ W5.heap.size := H5.out.1.size
      clear hb5 d4 hW4
      have hst : stF M = pre ++ (match mParse p2 with | some [n] => (qi, n) :: stF (M.drop (j + 1)) | _ => []) := by
        rw [HP.out, HD.out, stF]
        dsimp only
        rw [HKK.out.2]
      have hbad : (∀ y, mParse p2 ≠ some [y]) → stF M = pre := by
        intro h
        rw [hst]
        split
        · rename_i y hy; exact absurd hy (h y)
        · exact List.append_nil _
      have hJ5 : J pre W5 := HJ.out _ _ _ HJp.out (by omega) (Same.of_below H5.out.1 fun k hk _ => hk)
      have HF := Lib.hid (And.intro hst (And.intro hbad hJ5))
      clear hst hbad hJ5
      rcases hp : mParse p2 with _ | L
      · rw [hp] at hr
        simp only at hr
        subst hr
        have HB := Lib.hid (HF.out.2.1 (fun y hy => by rw [hp] at hy; cases hy))
        gi_wp2
        refine wpIn_wide.2 ?_
        go_quiet (fail)
        gi_wp2
        refine bodyPost_ret (results_none rfl _ _ _) rfl ?_
        exact ⟨⟨_, rfl⟩, .inl ⟨by show W.heap.size ≤ W5.heap.size; omega, by rw [HB.out]; exact HJ.out _ _ _ HF.out.2.2 (by omega) ((Same.refl _ W5).drewN nq)⟩⟩
      · rw [hp] at hr
        simp only at hr
        obtain ⟨v, rfl, hv⟩ := hr
        have hS := Sees.of_own hv
        obtain ⟨bs, cp, rfl⟩ := hS.shape
        by_cases hL : L.length = 1
        · obtain ⟨y, rfl⟩ : ∃ y, L = [y] := List.length_eq_one_iff.1 hL
          have hst2 : stF M = pre ++ (qi, y) :: stF (M.drop (j + 1)) := by rw [HF.out.1, hp]
          obtain ⟨_, b', c', he, _, hc⟩ := hS
          simp only [Value.slice.injEq] at he
          obtain ⟨rfl, _, rfl⟩ := he
          obtain ⟨ad2, rfl, hcs⟩ := hc.resolve_left (by simp)
          have c0 : W5.cell? (ad2.add 0) = some (.int .i64 y) := hcs 0 _ rfl
          have c7 : W5.cell? ad2 = some (.int .i64 y) := by rwa [show ad2.add 0 = ad2 by unfold Addr.add; simp] at c0
          have c8 : W5.cell? ⟨b6, 2, none⟩ = some (.int .u16 qi) := d6 2
          have hne : ((([y] : List Int).length : Int) != 1) = false := rfl
          obtain ⟨fn, tmps, assign, body, hy, hR⟩ := HY.out pre _ _ wr W5.drew hst2 HJp.out (by omega) ((Same.of_below H5.out.1 fun k hk _ => hk).drew)
          dsimp only [encSt, stkv] at hy
          have HRR := Lib.hid (hR.mono (R' := fun e W' => ∃ t : Bool, e = .returned (.bool t) ∧ ((t = true ∧ J (pre ++ [(qi, y)]) W' ∧ Same (fun k => False ∨ (k ≠ bo ∧ k < w.heap.size) ∨ (W.heap.size ≤ k ∧ k < W.heap.size + 0) ∨ wr.heap.size ≤ k) W5.drew W') ∨ (t = false ∧ Jx (pre ++ [(qi, y)]) W'))) (fun e W' h => by
            rcases h with ⟨h1, h2, h3⟩ | ⟨h1, h2⟩
            · exact ⟨true, h1, .inl ⟨rfl, h2, h3⟩⟩
            · exact ⟨false, h1, .inr ⟨rfl, h2⟩⟩))
          have HST := Lib.hid hst2
          clear hR hv hcs hc c0 hst2 d6
          gi_wp2
          gi_region_with (refine HRR.out.mono ?_; rintro e W6 ⟨t, rfl, ht⟩)
          all_goals
            rcases ht with ⟨rfl, hJ6, hk6⟩ | ⟨rfl, hJx6⟩
            · have hsz6 : wr.heap.size ≤ W6.heap.size := Nat.le_trans hle5 hk6.size
              have hS6 : Sees W6 (.slice (some ad) M.length cap) M.length 2 (prows M) :=
                Sees.same (S := fun _ => True) (HS.out.below H5.out.1) (fun k hk hlt => hk6.same k (by simpa using hlt) (.inr (.inl (H2.out.2.1 k hk))))
              have hX6 : ∀ k, k < w.heap.size → k ≠ bo → W6.heap[k]? = w.heap[k]? := fun k hk hne =>
                (hk6.same k (by show k < W5.heap.size; omega) (.inr (.inl ⟨hne, hk⟩))).trans ((H5.out.1.block k (by omega)).trans (HX.out k hk hne))
              have HQ := Lib.hid (And.intro hJ6 (And.intro hS6 hX6))
              clear hJ6 hk6 hS6 hX6
              gi_wp2
              refine ⟨⟨j + 1, pre ++ [(qi, y)], by omega, by push_cast; rfl, Lib.hid (by rw [HST.out, List.append_assoc]; rfl), Lib.hid HQ.out.2.1, Lib.hid HQ.out.2.2, Lib.hid HQ.out.1, by omega⟩, by simp [intOf]; omega⟩
            · have H3 := Lib.hid hJx6
              clear hJx6
              gi_wp2
              refine bodyPost_ret (results_none rfl _ _ _) rfl ?_
              exact ⟨⟨_, rfl⟩, .inr ⟨pre ++ [(qi, y)], ⟨_, by rw [List.append_assoc]; exact HST.out.symm⟩, H3.out⟩⟩
        · have hne : ((L.length : Int) != 1) = true := by simp; omega
          have HB := Lib.hid (HF.out.2.1 (fun y hy => by rw [hp] at hy; cases hy; exact hL rfl))
          clear hv hS
          gi_wp2
          refine wpIn_wide.2 ?_
          go_quiet (fail)
          gi_wp2
          refine bodyPost_ret (results_none rfl _ _ _) rfl ?_
          exact ⟨⟨_, rfl⟩, .inl ⟨by show W.heap.size ≤ W5.heap.size; omega, by rw [HB.out]; exact HJ.out _ _ _ HF.out.2.2 (by omega) ((Same.refl _ W5).drewN nq)⟩⟩
    · obtain rfl : j = M.length := by omega
      have hX := HP.out
      rw [List.drop_length, stF, List.append_nil] at hX
      have HX2 := Lib.hid hX
      clear hX hlt
      gi_wp2
      go_end0
      exact ⟨⟨_, rfl⟩, .inl ⟨by omega, by have := HJp.out; rwa [← HX2.out] at this⟩⟩
end Go.Proofs.YtmkcbkdbdcnoiaaGreatDoor
namespace Go.Proofs.YtmkcbkdbdcnoiaaGreatDoor
open Go.RowKit
set_option linter.unusedVariables false
set_option linter.unusedSimpArgs false
attribute [local go_sem] Oper.semAt_some

/-- An account's goods: twenty-one stacks at the most. -/
def goF (l : List Par) (x : Int) : List Stk := (stF (unF l 2 x)).take 21

set_option maxHeartbeats 400000 in
set_option maxRecDepth 100000 in
theorem wstacks_any (pw : Nat) (x : Int) (w : World) : Calls Tryz.prog 156 #[.pointer (some ⟨pw, 0, none⟩), .int .u32 x] w fun e w' => e = .returned (.func (.func 190) #[] #[.pointer (some ⟨w.heap.size, 0, none⟩), .pointer (some ⟨w.heap.size + 1, 0, none⟩)]) ∧ (w.alloc (.cells #[.pointer (some ⟨pw, 0, none⟩)] 78)).alloc (.cells #[.int .u32 x] 26) = w' := by
  have hmf : ∀ (fn : Fn) (first cap : Array Value) (w : World), (Instr.makeFunc fn first cap).run Tryz.prog w = .ok (.func fn first cap) w := fun _ _ _ _ => rfl
  go_enter Tryz.func156, Tryz.ntmps156
  go_wp2
  go_ret
  exact ⟨rfl, rfl⟩

def GoI (w : World) (pre : List Stk) (nb : Nat) (W : World) : Prop :=
  pre.length ≤ 20 ∧ (∃ v, W.heap[w.heap.size]? = some (.cells #[v] 119 (0, 0)) ∧ W.ownsRow (w.heap.size + 5) 62 2 v pre.length (stks pre) ∧ (∀ g, v.ownBlock = some g → g < nb)) ∧ Below w.heap.size w W
def GoX (w : World) (q : Code) (pre : List Stk) (W : World) : Prop :=
  q = .exit 0 ∧ pre.length = 21 ∧ (∃ v, W.heap[w.heap.size]? = some (.cells #[v] 119 (0, 0)) ∧ W.ownsRow (w.heap.size + 5) 62 2 v pre.length (stks pre)) ∧ Below w.heap.size w W

set_option maxHeartbeats 2000000 in
set_option maxRecDepth 100000 in
theorem wgoods_any (B pl pw N : Nat) (l : List Par) (c : Cmd) (a : Ans) (x : Int) (w : World) (hW : Wk B pl pw l c a w) (hO : Ok N l) (hN : N ≤ 100000) (hx : 0 ≤ x ∧ x < 4294967296) :
    Calls Tryz.prog 108 #[.pointer (some ⟨pw, 0, none⟩), .int .u32 x] w fun e w' => OwnPost (goF l x) w e w' := by
  obtain ⟨R, hR⟩ : ∃ R, goF l x = R := ⟨_, rfl⟩
  rw [hR]
  unfold goF at hR
  have HR := Lib.hid hR
  have HW := Lib.hid (And.intro hW hO)
  clear hR hW hO
  refine (callsIn_wide (n := 9)).1 ?_
  refine callsIn_of_wp_marks Tryz.func108 rfl trivial ?_ rfl
  simp only [Tryz.ntmps108, List.size_toArray, List.length_cons, List.length_nil, Nat.reduceAdd, Nat.reduceSub, Array.replicate_succ, Array.replicate_zero, List.push_toArray, List.append_toArray, List.nil_append, List.cons_append]
  refine wpIn_wide.2 ?_
  go_wp2_with fail
  refine wp_scope_straight ?_
  go_wp2_with fail
  go_step3
  go_wp2_with (go_at_call 156; refine (wstacks_any pw x _).mono ?_; rintro e w' ⟨rfl, rfl⟩)
  obtain ⟨W1, hW1⟩ : ∃ W1, w.alloc (.cells #[.slice none 0 0] 119) = W1 := ⟨_, rfl⟩
  obtain ⟨W0, hW0⟩ : ∃ W0, (W1.alloc (.cells #[.pointer (some ⟨pw, 0, none⟩)] 78)).alloc (.cells #[.int .u32 x] 26) = W0 := ⟨_, rfl⟩
  have Z : Hid (W0.heap.size = w.heap.size + 3 ∧ GoI w [] W0.heap.size W0 ∧ W0.heap[w.heap.size + 1]? = some (.cells #[.pointer (some ⟨pw, 0, none⟩)] 78 (0, 0)) ∧ W0.heap[w.heap.size + 1 + 1]? = some (.cells #[.int .u32 x] 26 (0, 0)) ∧ Below w.heap.size w W0) := Lib.hid (by
    obtain ⟨z0, z1, z2, z3, z4⟩ := three_new w (.cells #[.slice none 0 0] 119) (.cells #[.pointer (some ⟨pw, 0, none⟩)] 78) (.cells #[.int .u32 x] 26)
    rw [hW1, hW0] at z0 z1 z2 z3 z4
    exact ⟨z0, ⟨by simp, ⟨_, z1, ⟨by simp [stks, cat2], .inl ⟨rfl, rfl⟩⟩, by simp [Value.ownBlock]⟩, z4⟩, z2, z3, z4⟩)
  try simp only [hW1]
  try simp only [hW0]
  clear hW1 hW0
  refine (wpIn_wide (n := 9)).1 ?_
  have hit := stacks_iter 8 B pl pw N w.heap.size (w.heap.size + 1) (w.heap.size + 1 + 1) l c a x _ W0 (HW.out.1.below Z.out.2.2.2.2) HW.out.2 hN hx (by omega) Z.out.2.2.1 Z.out.2.2.2.1 (Z.out.2.1.2.1.choose_spec.1) rfl HW.out.1.size.1 (by have := HW.out.1.size.2.1; omega) (by have := HW.out.1.size.2.2; omega) (by omega) (by omega)
  have HIT := Lib.hid hit
  clear hit
  generalize stF (unF l 2 x) = S at HR HIT
  refine wp_range (gf := 190) (lb := #[.pointer (some ⟨w.heap.size + 1, 0, none⟩), .pointer (some ⟨w.heap.size + 1 + 1, 0, none⟩)]) rfl (enters_of Tryz.func190 (by kernel_rfl) rfl)
    HIT.out (by rintro k h; exact h.elim) (by rintro k h; exact h.2) (fun x => rfl)
    (GoI w) (GoX w) ?hI ?hm ?hIx ?h0
    (fun s a' W => ∃ b, a' = { tmps := #[.pointer (some ⟨pw, 0, none⟩), .int .u32 x, undef, undef, .slice none 0 0, .pointer (some ⟨w.heap.size, 0, none⟩), .pointer (some ⟨b, 0, none⟩), .pointer (some ⟨pw, 0, none⟩), .int .u32 x, .func (.func 190) #[] #[.pointer (some ⟨w.heap.size + 1, 0, none⟩), .pointer (some ⟨w.heap.size + 1 + 1, 0, none⟩)], stkv s, undef, undef, undef, undef, undef, undef, undef, undef], defers := [] } ∧ W0.heap.size + 2 ≤ b ∧ W.heap[b]? = some (.cells #[.int .u16 s.1, .int .i64 s.2] 62 (0, 0))) ?hAx ?assign ?body ?done ?stop
  case hm =>
    rintro pre nb nb' A' ⟨h0, ⟨v, h1, h2, h3⟩, h4⟩ hle
    exact ⟨h0, ⟨v, h1, h2, fun g h => Nat.lt_of_lt_of_le (h3 g h) hle⟩, h4⟩
  case hI =>
    rintro pre nb A' B ⟨h0, ⟨v, h1, h2, h3⟩, h4⟩ hA hS
    have z0 := Z.out.1
    exact ⟨h0, ⟨v, hS.at_ h1 ⟨by simp, by omega⟩, ownsRow_same h2 hS (fun k hk _ => ⟨by simp, by omega⟩), h3⟩, h4.trans (hS.below (by omega) (fun k hk => ⟨by simp, by omega⟩))⟩
  case hIx =>
    rintro q pre A' B ⟨h0, h0', ⟨v, h1, h2⟩, h4⟩ hA hS
    have z0 := Z.out.1
    exact ⟨h0, h0', ⟨v, hS.at_ h1 ⟨by simp, by omega⟩, ownsRow_same h2 hS (fun k hk _ => ⟨by simp, by omega⟩)⟩, h4.trans (hS.below (by omega) (fun k hk => ⟨by simp, by omega⟩))⟩
  case h0 => exact Z.out.2.1
  case hAx =>
    rintro x a' A' B ⟨b, ha, hb, hc⟩ hA hS
    exact ⟨b, ha, hb, hS.at_ hc (by omega)⟩
  case assign =>
    intro lp pre s rest nb W K hxs ⟨h0, ⟨v, h1, h2, h3⟩, h4⟩ hnb hW hK
    clear hxs
    obtain ⟨s1, s2⟩ := s
    dsimp only [encSt, stkv]
    gi_wp2
    exact hK _ _ ((Same.refl _ W).alloc _) ⟨h0, ⟨v, keep_a _ h1, h2.alloc _, h3⟩, h4.alloc h4.size _⟩ ⟨W.heap.size, rfl, by omega, heap_alloc_new W _⟩
  case body =>
    rintro lp pre s rest nb a' W hxs ⟨h0, ⟨v, h1, h2, h3⟩, h4⟩ ⟨b, rfl, hb4, hc4⟩ hn hlen
    have z0 := Z.out.1
    have c2 : W.cell? ⟨w.heap.size, 0, none⟩ = some v := blk_cell h1 0
    obtain ⟨c0, c1⟩ := cells2 hc4
    obtain ⟨s1, s2⟩ := s
    dsimp only at c0 c1 hc4
    have hnew : ∀ j u, (stks [(s1, s2)])[j]? = some u → (W.alloc (.cells #[.int .u16 s1, .int .i64 s2] 62)).cell? ((⟨W.heap.size, 0, none⟩ : Addr).add j) = some u := by
      intro j u hj
      rw [add_plain, blk_cell (heap_alloc_new W _)]
      simpa [stks, cat2] using hj
    have HH := Lib.hid (And.intro h0 (And.intro h1 (And.intro h2 (And.intro h3 (And.intro h4 hnew)))))
    have hW5 : w.heap.size + 5 ≤ W.heap.size := by omega
    clear h1 h2 h3 h4 hxs hnew hc4
    unfold stkv
    obtain ⟨i0, hi, hi0, hi1, hi2⟩ := info_parts infoStack
    gi_wp2_with (gi_at_builtin; refine wpListIn_append_own _ rfl _ _ 119 rfl (w.heap.size + 5) 62 i0 (.agg #[.int .u16 0, .int .i64 0]) 2 16 Tryz.underlying119 hi hi0 hi1 hi2 rfl (by decide) _ _ _ rfl (HH.out.2.2.1.alloc _) ⟨W.heap.size, 0, none⟩ 1 1 (stks [(s1, s2)]) rfl rfl HH.out.2.2.2.2.2 (one_stks _) ?b1 ?b2 ?b3 ?_)
    case b1 => unfold maxLen; omega
    case b2 => omega
    case b3 => first | omega | (simp [World.size_alloc]; omega)
    intro v' w1 hown' hgrow _
    obtain ⟨g', cap', rfl⟩ := ownsRow_succ hown'
    have hgb : w.heap.size + 5 ≤ g' ∧ g' < w1.heap.size := by
      rcases hown'.2 with ⟨h, _⟩ | ⟨g, cap, cur, h, hg, hh, _⟩
      · cases h
      · simp only [Value.slice.injEq, Option.some.injEq, Addr.mk.injEq] at h
        rw [h.1.1]; exact ⟨hg, (Array.getElem?_eq_some_iff.1 hh).1⟩
    have hrow : ∀ k, v.ownBlock = some k → w.heap.size + 5 ≤ k ∧ k < nb := fun k hk => ⟨own_base HH.out.2.2.1 k hk, HH.out.2.2.2.1 k hk⟩
    have s1' : Same (fun k => k < w.heap.size + 5 ∨ nb ≤ k) W w1 := ((Same.refl _ _).alloc _).grown hgrow (fun k hk _ h => by have := hrow k hk; omega)
    have hv2 : w1.heap[w.heap.size]? = some (.cells #[v] 119 (0, 0)) := s1'.at_ HH.out.2.1 (.inl (by omega))
    have c3 : w1.cell? ⟨w.heap.size, 0, none⟩ = some v := blk_cell hv2 0
    have f3 : ∀ i, w1.frozen? ⟨w.heap.size, i, none⟩ = false := blk_frozen hv2
    have HG := Lib.hid (And.intro hown' (And.intro hgb (And.intro s1' hv2)))
    clear hown' hgrow hgb hrow s1' hv2
    have s2' : Same (fun k => (k < w.heap.size + 5 ∧ k ≠ w.heap.size) ∨ nb ≤ k) W (w1.setCell ⟨w.heap.size, 0, none⟩ (.slice (some ⟨g', 0, none⟩) (pre.length + 1) cap')) :=
      (HG.out.2.2.1.mono fun k _ h => by omega).setCell (fun _ h => by simp at h; omega) _
    have hthe : Same (Theirs W0 (fun _ => False) (fun k => k ≠ w.heap.size ∧ k < W0.heap.size) 0 nb) W (w1.setCell ⟨w.heap.size, 0, none⟩ (.slice (some ⟨g', 0, none⟩) (pre.length + 1) cap')) := s2'.mono fun k _ h => by
      rcases h with h | h | h | h
      · exact h.elim
      · left; exact ⟨by omega, h.1⟩
      · left; omega
      · right; exact h
    have hrow2 : (w1.setCell ⟨w.heap.size, 0, none⟩ (.slice (some ⟨g', 0, none⟩) (pre.length + 1) cap')).ownsRow (w.heap.size + 5) 62 2 (.slice (some ⟨g', 0, none⟩) (pre.length + 1) cap') (pre.length + 1) (stks (pre ++ [(s1, s2)])) :=
      ownsRow_same (S := fun k => k ≠ w.heap.size) (by simpa [stks, cat2_append] using HG.out.1) ((Same.refl _ _).setCell (fun _ h => h rfl) _) (fun k hk _ => by omega)
    have hbox : (w1.setCell ⟨w.heap.size, 0, none⟩ (.slice (some ⟨g', 0, none⟩) (pre.length + 1) cap')).heap[w.heap.size]? = some (.cells #[.slice (some ⟨g', 0, none⟩) (pre.length + 1) cap'] 119 (0, 0)) := by have := blk_set HG.out.2.2.2 0 (.slice (some ⟨g', 0, none⟩) (pre.length + 1) cap'); simpa using this
    have hbel : Below w.heap.size w (w1.setCell ⟨w.heap.size, 0, none⟩ (.slice (some ⟨g', 0, none⟩) (pre.length + 1) cap')) := HH.out.2.2.2.2.1.trans (s2'.below HH.out.2.2.2.2.1.size fun k hk => .inl ⟨by omega, by omega⟩)
    have hsz : g' < (w1.setCell ⟨w.heap.size, 0, none⟩ (.slice (some ⟨g', 0, none⟩) (pre.length + 1) cap')).heap.size := by simpa [World.setCell] using HG.out.2.1.2
    have HX := Lib.hid (And.intro hthe (And.intro hrow2 (And.intro hbox (And.intro hbel hsz))))
    clear s2' hthe hrow2 hbox hbel hsz
    have hpl : (pre ++ [(s1, s2)]).length = pre.length + 1 := by simp
    have HPL := Lib.hid hpl
    clear hpl
    rcases Nat.lt_or_ge (pre.length + 1) 21 with h3 | h3
    · have hne : decide (((20 : Int)) < (pre.length : Int) + 1) = false := by simp; omega
      have HP3 := Lib.hid h3
      clear h3
      gi_wp2
      obtain ⟨e1, e2, e3, e4, e5⟩ := HX.out
      exact ⟨e1, by rw [HPL.out]; have := HP3.out; omega, ⟨_, e3, by rw [HPL.out]; exact e2, fun g hg => by
        obtain rfl : g' = g := by simpa [Value.ownBlock] using hg
        exact e5⟩, e4⟩
    · have hne : decide (((20 : Int)) < (pre.length : Int) + 1) = true := by simp; omega
      have HP3 := Lib.hid h3
      clear h3
      gi_wp2
      obtain ⟨e1, e2, e3, e4, e5⟩ := HX.out
      exact ⟨e1, rfl, by rw [HPL.out]; have := HP3.out; have := HH.out.1; omega, ⟨_, e3, by rw [HPL.out]; exact e2⟩, e4⟩
  case done =>
    rintro W ⟨h0, ⟨v, h1, h2, h3⟩, h4⟩ hsz hD
    have z0 := Z.out.1
    have c2 : W.cell? ⟨w.heap.size, 0, none⟩ = some v := blk_cell h1 0
    obtain ⟨base, cap, rfl⟩ := (Sees.of_own h2).shape
    have HH := Lib.hid (And.intro h2 (And.intro h4 hD))
    have hRR : R = S := by rw [← HR.out, List.take_of_length_le (by omega)]
    subst hRR
    clear h1 h2 h3 h4 hD
    go_wp2
    obtain ⟨h2, h4, hD⟩ := HH.out
    refine ⟨by simp, .inl ⟨_, _, rfl, run_takeDeferred hD, ?_⟩⟩
    refine ⟨_, results_tmp rfl _ _ _, ?_⟩
    refine ⟨_, rfl, ?_, h4.trans (((Same.refl (fun k => k < w.heap.size) W).putObj _ (fun _ h => by omega)).below (by have := h4.size; omega) fun k hk => hk)⟩
    exact ownsRow_base (ownsRow_same (base := w.heap.size + 5) (S := fun k => k ≠ W0.heap.size) h2 ((Same.refl _ W).putObj _ (fun _ h => h rfl)) (fun k hk _ => by omega)) (by omega)
  case stop =>
    rintro q pre W ⟨r, hr⟩ ⟨rfl, h0, ⟨v, h1, h2⟩, h4⟩ hsz hD
    have z0 := Z.out.1
    have c2 : W.cell? ⟨w.heap.size, 0, none⟩ = some v := blk_cell h1 0
    obtain ⟨base, cap, rfl⟩ := (Sees.of_own h2).shape
    have HH := Lib.hid (And.intro h2 (And.intro h4 hD))
    have hRR : R = pre := by rw [← HR.out, ← hr, List.take_left' h0]
    subst hRR
    clear h1 h2 h4 hD hr
    refine wpIn_wide.2 ?_
    go_wp2
    obtain ⟨h2, h4, hD⟩ := HH.out
    refine ⟨by simp, .inl ⟨_, _, rfl, run_takeDeferred hD, ?_⟩⟩
    refine ⟨_, results_tmp rfl _ _ _, ?_⟩
    refine ⟨_, rfl, ?_, h4.trans (((Same.refl (fun k => k < w.heap.size) W).putObj _ (fun _ h => by omega)).below (by have := h4.size; omega) fun k hk => hk)⟩
    rw [h0] at h2 ⊢
    exact ownsRow_base (ownsRow_same (base := w.heap.size + 5) (S := fun k => k ≠ W0.heap.size) h2 ((Same.refl _ W).putObj _ (fun _ h => h rfl)) (fun k hk _ => by omega)) (by omega)

set_option maxHeartbeats 1000000 in
set_option maxRecDepth 100000 in
/-- setGoods: the item's number, or none. -/
theorem wsetGoods_any (B pl pw n : Nat) (l : List Par) (c : Cmd) (a : Ans) (x it : Int) (g : List Stk) (v : Value) (w : World) (hW : Wk B pl pw l c a w) (hO : Ok n l) (hn : n < 100000) (hx : 0 ≤ x ∧ x < 4294967296) (hi : 0 ≤ it ∧ it < 65536) (hv : Sees w v g.length 2 (stks g)) (hg : g.length ≤ 1000) :
    Calls Tryz.prog 109 #[.pointer (some ⟨pw, 0, none⟩), .int .u32 x, v, .int .u16 it] w fun e w' => e = .returned (.tuple #[]) ∧
      WP B pl pw (if 0 < gCount g it then put l (kKey 2 x it 0).1 (mBytesF [gCount g it]).1 else del l (kKey 2 x it 0).1) c a w w' := by
  have hK := wkey_any 2 x it 0 w ⟨hx.1, hx.2, hi.1, hi.2, by omega, by omega⟩
  have hC := fun V h => gcount_any g g.length v it V rfl h (by omega)
  obtain ⟨base, cap, rfl⟩ := hv.shape
  generalize (kKey 2 x it 0).1 = k at hK ⊢
  generalize gCount g it = y at hC ⊢
  have hN := fun V (h : Wk B pl pw l c a V) => wsetNumber_any B pl pw n l c a k y V h hO hn
  have hD := fun V (h : Wk B pl pw l c a V) => wdel_call (k := k) h hO (by omega)
  generalize (mBytesF [y]).1 = r at hN ⊢
  obtain ⟨L, hL⟩ : ∃ L, (if 0 < y then put l k r else del l k) = L := ⟨_, rfl⟩
  rw [hL]
  unfold sv at hK hN hD
  have HK := Lib.hid (And.intro hK (And.intro hC (And.intro hN (And.intro hD (And.intro hW (And.intro hv hL))))))
  have hm := m_del
  clear hK hC hN hD hW hv hL hO
  go_enter Tryz.func109, Tryz.ntmps109
  go_wp2_with fail
  refine HK.out.1.mono ?_
  rintro e W2 ⟨rfl, hb⟩
  have H2 := Lib.hid hb
  clear hb
  go_wp2_with fail
  refine (HK.out.2.1 W2 (HK.out.2.2.2.2.2.1.below H2.out)).mono ?_
  rintro e W3 ⟨rfl, hb⟩
  have hb3 := H2.out.trans (hb.mono H2.out.size)
  have H3 := Lib.hid (And.intro hb3 (HK.out.2.2.2.2.1.below hb3))
  have hc : ∀ j, W3.cell? ⟨pw, j, none⟩ = (wc pl c a)[j]? := H3.out.2.cell
  unfold wc at hc
  clear hb hb3
  by_cases hy : 0 < y
  · have hy' : decide (0 < y) = true := by simpa using hy
    go_wp2_with fail
    refine (HK.out.2.2.1 W3 H3.out.2).mono ?_
    rintro e W4 ⟨rfl, h⟩
    have H4 := Lib.hid h
    clear h hc
    go_wp2
    refine bodyPost_ret (results_none rfl _ _ _) rfl ?_
    have hL := HK.out.2.2.2.2.2.2
    rw [if_pos hy] at hL
    subst hL
    exact ⟨rfl, WP.from H3.out.1 HK.out.2.2.2.2.1.size.1 H4.out⟩
  · have hy' : decide (0 < y) = false := by simpa using hy
    go_wp2_with fail
    refine (HK.out.2.2.2.1 W3 H3.out.2).mono ?_
    rintro e W4 ⟨rfl, h⟩
    have H4 := Lib.hid h
    clear h hc
    go_wp2
    go_end0
    have hL := HK.out.2.2.2.2.2.2
    rw [if_neg (by omega)] at hL
    subst hL
    exact ⟨rfl, WP.from H3.out.1 HK.out.2.2.2.2.1.size.1 H4.out⟩
end Go.Proofs.YtmkcbkdbdcnoiaaGreatDoor
namespace Go.Proofs.YtmkcbkdbdcnoiaaGreatDoor
open Go.RowKit
set_option linter.unusedVariables false
set_option linter.unusedSimpArgs false

/-- A refusal for a number: none, or a variable of the call's own that holds it. -/
def Ref (B : Nat) (e : Int) (v : Value) (W : World) : Prop := (e = 0 ∧ v = .nilIface) ∨ (e ≠ 0 ∧ ∃ b, v = .iface 104 (.pointer (some ⟨b, 0, none⟩)) ∧ B ≤ b ∧ W.heap[b]? = some (.cells #[.int .i64 e] 108 (0, 0)))
theorem Ref.mono {B B' : Nat} {e : Int} {v : Value} {W : World} (h : Ref B e v W) (hB : B' ≤ B) : Ref B' e v W := h.imp id fun ⟨h1, b, h2, h3, h4⟩ => ⟨h1, b, h2, Nat.le_trans hB h3, h4⟩

set_option maxHeartbeats 1000000 in
set_option maxRecDepth 100000 in
theorem wof_any (x : Int) (g : Nat) (w : World) (hg : w.heap[g]? = some (.cells #[.int .i64 x] 29 (0, 0))) :
    Calls Tryz.prog 96 #[.slice (some ⟨g, 0, none⟩) 1 1] w fun e w' => ∃ v, e = .returned v ∧ Ref w.heap.size x v w' ∧ Below w.heap.size w w' := by
  have c0 : w.cell? ⟨g, 0, none⟩ = some (.int .i64 x) := blk_cell hg 0
  clear hg
  by_cases hx : x = 0
  · subst hx
    go_enter Tryz.func96, Tryz.ntmps96
    go_wp2_with fail
    go_loop [7] (fun i => i = .int .i64 0 ∨ i = .int .i64 1) (fun i => 1 - (intOf i).toNat)
    case atStart => exact .inl rfl
    case round =>
      rcases hrel with rfl | rfl
      · go_wp2
        refine ⟨.inr rfl, by simp [intOf]⟩
      · go_wp2
        go_ret
        exact ⟨_, rfl, .inl ⟨rfl, rfl⟩, Below.refl _ _⟩
  · have hx' : (x != 0) = true := by simpa using hx
    go_enter Tryz.func96, Tryz.ntmps96
    go_wp2_with fail
    go_loop [7] (fun i => i = .int .i64 0) (fun i => 1 - (intOf i).toNat)
    case atStart => rfl
    case round =>
      obtain rfl := hrel
      go_wp2
      go_ret
      exact ⟨_, rfl, .inr ⟨hx, _, rfl, Nat.le_refl _, heap_alloc_new w _⟩, (Below.refl _ w).alloc (Nat.le_refl _) _⟩
/-- The same where the list has just been made. -/
theorem wof_new (x : Int) (w : World) : Calls Tryz.prog 96 #[.slice (some ⟨w.heap.size, 0, none⟩) 1 1] (w.alloc (.cells #[.int .i64 x] 29)) fun e w' => ∃ v, e = .returned v ∧ Ref w.heap.size x v w' ∧ Below w.heap.size w w' := by
  refine (wof_any x w.heap.size _ (heap_alloc_new w _)).mono ?_
  rintro e w' ⟨v, rfl, h, hb⟩
  have hb0 : Below w.heap.size w (w.alloc (.cells #[.int .i64 x] 29)) := (Below.refl _ w).alloc (Nat.le_refl _) _
  exact ⟨v, rfl, h.mono hb0.size, hb0.trans (hb.mono hb0.size)⟩

/-- The next number of mails, or listings. -/
def nxF (l : List Par) (k : Int) : Int × Int := if 1073741824 < numF l (kKey 5 k 0 0).1 + 1 then (0, 111) else (numF l (kKey 5 k 0 0).1 + 1, 0)
theorem okA_oct {s : List UInt8} {x : Int} (h : mParse s = some [x]) : 0 ≤ x ∧ x ≤ 1152921504606846976 := by
  unfold mParse at h
  split at h
  · rename_i h1
    simp only [Bool.and_eq_true, Option.some.injEq] at h1 h
    rw [h] at h1
    simpa [okA] using h1.2
  · cases h
theorem numF_ok (l : List Par) (k : Str) : 0 ≤ numF l k ∧ numF l k ≤ 1152921504606846976 := by
  unfold numF
  split
  · rename_i h; exact okA_oct h
  · omega

set_option maxHeartbeats 1000000 in
set_option maxRecDepth 100000 in
theorem wnext_any (B pl pw n : Nat) (l : List Par) (c : Cmd) (a : Ans) (k : Int) (w : World) (hW : Wk B pl pw l c a w) (hO : Ok n l) (hn : n ≤ 100000) (hk : 0 ≤ k ∧ k < 4294967296) :
    Calls Tryz.prog 117 #[.pointer (some ⟨pw, 0, none⟩), .int .u32 k] w fun e w' => e = .returned (.tuple #[.int .i64 (nxF l k).1, .int .i64 (nxF l k).2]) ∧ Below w.heap.size w w' := by
  have hK := wkey_any 5 k 0 0 w ⟨hk.1, hk.2, by omega, by omega, by omega, by omega⟩
  obtain ⟨R, hR⟩ : ∃ R, nxF l k = R := ⟨_, rfl⟩
  rw [hR]
  unfold nxF at hR
  generalize (kKey 5 k 0 0).1 = s at hK hR
  have hN := fun V (h : Wk B pl pw l c a V) => wnumber_any B pl pw n l c a s V h hO hn
  have hok := numF_ok l s
  generalize numF l s = y at hN hR hok
  unfold sv at hK hN
  have HK := Lib.hid (And.intro hK (And.intro hN (And.intro hW hR)))
  have s1 : IntKind.i64.wrap (y + 1) = y + 1 := IntWalk.i64_in _ (by omega)
  clear hK hN hW hR hO hok
  go_enter Tryz.func117, Tryz.ntmps117
  go_wp2_with fail
  refine HK.out.1.mono ?_
  rintro e W2 ⟨rfl, hb⟩
  have H2 := Lib.hid hb
  clear hb
  go_wp2_with fail
  refine (HK.out.2.1 W2 (HK.out.2.2.1.below H2.out)).mono ?_
  rintro e W3 ⟨rfl, hb⟩
  have H3 := Lib.hid (H2.out.trans (hb.mono H2.out.size))
  clear hb
  have hR := HK.out.2.2.2
  by_cases hy : 1073741824 < y + 1
  · have hy' : decide (1073741824 < y + 1) = true := by simpa using hy
    rw [if_pos hy] at hR
    subst hR
    go_wp2
    go_ret2
    exact ⟨rfl, H3.out⟩
  · have hy' : decide (1073741824 < y + 1) = false := by simpa using hy
    rw [if_neg hy] at hR
    subst hR
    go_wp2
    go_ret2
    exact ⟨rfl, H3.out⟩
end Go.Proofs.YtmkcbkdbdcnoiaaGreatDoor
