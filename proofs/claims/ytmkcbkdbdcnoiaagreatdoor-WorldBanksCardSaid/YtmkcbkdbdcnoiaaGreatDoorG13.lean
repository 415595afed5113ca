/- Package world: slices.Insert and slices.Delete over a list of pairs. Package world: slices.Insert with room, slices.Delete. -/
import Derived.Laws.Append
import Derived.Laws.CopyOwn
import Derived.Laws.OwnMore
import Derived.Laws.MakeOwn
import Derived.StillTailTactics
import Derived.Deep.RegionLaw
import Derived.Lib.Overlaps
import Derived.Test.YtmkcbkdbdcnoiaaGreatDoorG12
namespace Go.Proofs.YtmkcbkdbdcnoiaaGreatDoor
open Go.RowKit
set_option linter.unusedVariables false
set_option linter.unusedSimpArgs false

theorem infoPair : (Tryz.prog.info? 44).map (fun i => (i.zero, i.size, i.bytes)) = some (some (.agg #[.string ⟨#[]⟩, .string ⟨#[]⟩]), 2, 32) := by kernel_rfl
theorem one_pr (l : List Par) : ∀ u ∈ prows l, u.oneCell' = true := one_cat2 (fun _ => rfl) (fun _ => rfl) l
theorem prows_length (l : List Par) : (prows l).length = l.length * 2 := cat2_length l
theorem prows_append (a b : List Par) : prows (a ++ b) = prows a ++ prows b := cat2_append a b
theorem prows_take (l : List Par) (i : Nat) : prows (l.take i) = (prows l).take (i * 2) := cat2_take l i
theorem prows_drop (l : List Par) (i : Nat) : prows (l.drop i) = (prows l).drop (i * 2) := cat2_drop l i

/-- 'copy' of elements of k cells each. -/
theorem run_copy_rowk {P : Program} (w : World) (dT sT ty elem : TypeId) (k g o dLen dCap : Nat) (a : Addr) (sLen sCap : Nat) (cur : Array Value) (t : TypeId) (cs : List Value)
    (hu : P.underlying dT = some (.slice elem)) (hs : (P.info? elem).map (·.size) = some k)
    (hg : w.heap[g]? = some (.cells cur t (0, 0))) (hn : cs.length = Nat.min sLen dLen * k)
    (hsrc : ∀ j v, cs[j]? = some v → w.cell? (a.add j) = some v) (hfit : o + cs.length ≤ cur.size) (h1 : ∀ v ∈ cs, v.oneCell' = true) :
    (Builtin.copy_ #[dT, sT] ty #[.slice (some ⟨g, o, none⟩) dLen dCap, .slice (some a) sLen sCap]).run P w =
      .ok (goInt (Nat.min sLen dLen)) (w.setRow g (cur.toList.take o ++ cs ++ cur.toList.drop (o + cs.length)).toArray) := by
  have hl := run_loadCells_list (P := P) w a cs hsrc
  have hst := run_storeCells_at P g o t cs 0 cur w hg (by simpa using hfit) h1
  cases hq : P.info? elem with
  | none => simp [hq] at hs
  | some i =>
    have hi : i.size = k := by simpa [hq] using hs
    rw [hn] at hl
    simp [Builtin.copy_, run_underlying hu, Builtin.lenOf, Builtin.firstCells, sizeOf, typeInfo, hq, hi, hl, hst]

theorem add_off (g o j : Nat) : (⟨g, o, none⟩ : Addr).add j = ⟨g, o + j, none⟩ := by unfold Addr.add; split <;> simp_all
/-- A block whose first cells are those of spares. -/
def Row44 (w : World) (g c : Nat) (l : List Par) : Prop := ∃ cur : Array Value, w.heap[g]? = some (.cells cur 44 (0, 0)) ∧ cur.size = c * 2 ∧ cur.toList.take (l.length * 2) = prows l

theorem run_zeros_grow (w : World) (ty : TypeId) (g i n : Nat) (l : List Par) (hn : l.length = n) (hl : n ≤ 1000000) (hi : i ≤ n) (hg : w.heap[g]? = some (.cells (prows l).toArray 44 (0, 0))) :
    (Builtin.append_ #[25, 3] ty #[.slice (some ⟨g, 0, none⟩) i n, .int .i64 ((n + 1 - i : Nat) : Int)]).run Tryz.prog w =
      .ok (.slice (some ⟨w.heap.size, 0, none⟩) (n + 1) (grownCap w (n + 1) n 44))
        (w.drew.alloc (.cells ((prows (l.take i)).toArray ++ Builtin.zeroCells #[.string ⟨#[]⟩, .string ⟨#[]⟩] (n + 1 - i) ++ Builtin.zeroCells #[.string ⟨#[]⟩, .string ⟨#[]⟩] (grownCap w (n + 1) n 44 - (n + 1))) 44)) := by
  obtain ⟨i0, hi', hi0, hi1, hi2⟩ := info_parts infoPair
  obtain ⟨m, hm⟩ : ∃ m, n + 1 - i = m := ⟨_, rfl⟩
  have him : i + m = n + 1 := by omega
  rw [hm]
  have hw : IntKind.i64.wrap (m : Int) = m := by rw [IntKind.wrap_i64]; omega
  have hneg : ¬ ((m : Int) < 0) := by omega
  have hbig : ¬ (281474976710656 < (m : Int) * (i0.bytes : Int)) := by rw [hi2]; omega
  have hroom : ¬ (i + m ≤ n) := by omega
  have h63' : ¬ (9223372036854775807 < ((i : Int) + (m : Int))) := by omega
  have hfit : Builtin.nextslicecap (n + 1) n * i0.bytes ≤ 281474976710656 := growslice_fits (by omega) (by rw [hi2]; omega)
  have h48' : ¬ (281474976710656 < Builtin.nextslicecap (i + m) n * i0.bytes) := by rw [him]; omega
  have hfo := run_firstCells_some (P := Tryz.prog) w.drew i0.size i ⟨g, 0, none⟩ i n (prows (l.take i)) (by rw [hi1, prows_length, List.length_take]; omega) (fun j v hv => by
    rw [add_plain, blk_cell (blk_drew hg)]
    have h1 := prows_append (l.take i) (l.drop i)
    rw [List.take_append_drop] at h1
    rw [h1]
    have := (List.getElem?_eq_some_iff.1 hv).1
    simpa [List.getElem?_append_left this] using hv)
  have hmz : ¬ (m * i0.size = 0) := by rw [hi1]; omega
  have hroom' : ¬ (n + 1 ≤ n) := by omega
  have h48'' : ¬ (281474976710656 < Builtin.nextslicecap (n + 1) n * i0.bytes) := by omega
  simp [Builtin.append_, run_underlying Tryz.underlying25, run_underlying Tryz.underlying3, sizeOf, typeInfo, zeroValue, hi', hi0, asInt, asIntOf, hw, hneg, hbig, hroom, h63', h48', Question.forced, hfo, newRow, grownCap, hmz, him, Value.cells, hroom', h48'']
  try (congr 2; apply Array.ext'; simp [List.append_assoc])

theorem zeros_grow_pr {ops : Array Oper} {rest : List Oper} {o : Oper} {a : Act} {Q : Exit → Act → World → Prop} {w : World} (hgd : o.guard = none) (s x : Operand)
    (ho : o.op = .call { callee := .builtin .append, args := #[s, x], argTypes := #[25, 3] }) (g i n : Nat) (l : List Par) (hn : l.length = n) (hl : n ≤ 1000000) (hi : i ≤ n) (hs : a.eval s = .slice (some ⟨g, 0, none⟩) i n) (hg : w.heap[g]? = some (.cells (prows l).toArray 44 (0, 0)))
    (m : Int) (hm : m = ((n + 1 - i : Nat) : Int)) (hx : a.eval x = .int .i64 m)
    (h : ∀ c w', n + 1 ≤ c → c ≤ maxLen → Row44 w' w.heap.size c (l.take i) → Below w.heap.size w w' → wpList Tryz.prog ops Q rest (a.put o.dst (.slice (some ⟨w.heap.size, 0, none⟩) (n + 1) c)) w') : wpList Tryz.prog ops Q (o :: rest) a w := by
  subst hm
  refine wpList_plain hgd fun K hK => ?_
  have hrun := run_zeros_grow w o.type g i n l hn hl hi hg
  have hge := grownCap_ge w (n + 1) n 44
  have hcm := grownCap_le_maxLen w (n + 1) n 44 (by simp only [maxLen]; omega)
  unfold Oper.wp
  simp only [execOp, ho, resolve, invoke, builtin, Sem.run_bind, Sem.run_pure, Result.andThen_ok, List.map_toArray, List.map_cons, List.map_nil, hs, hx, hrun]
  refine hK _ _ (h _ _ hge hcm ⟨_, heap_alloc_new w.drew _, ?_, ?_⟩ ?_)
  · simp only [Array.size_append, List.size_toArray, size_zeroCells, prows_length, List.length_take]
    show min i l.length * 2 + (n + 1 - i) * 2 + (grownCap w (n + 1) n 44 - (n + 1)) * 2 = _
    omega
  · simp only [Array.toList_append, List.append_assoc]
    exact List.take_left' (by rw [prows_length])
  · exact (Below.drew (Below.refl _ w)).alloc (Nat.le_refl _) _

/-- 'copy' into a row, anywhere. -/
theorem copy_at {ops : Array Oper} {rest : List Oper} {o : Oper} {a : Act} {Q : Exit → Act → World → Prop} {w : World} (hgd : o.guard = none) (d s : Operand)
    (ho : o.op = .call { callee := .builtin .copy, args := #[d, s], argTypes := #[25, 25] }) (g off dLen dCap : Nat) (ad : Addr) (sLen sCap : Nat) (cs : List Value)
    (hd : a.eval d = .slice (some ⟨g, off, none⟩) dLen dCap) (hs : a.eval s = .slice (some ad) sLen sCap) (cur : Array Value) (hg : w.heap[g]? = some (.cells cur 44 (0, 0))) (hn : cs.length = Nat.min sLen dLen * 2)
    (hc : ∀ j u, cs[j]? = some u → w.cell? (ad.add j) = some u) (h1 : ∀ u ∈ cs, u.oneCell' = true) (hfit : off + cs.length ≤ cur.size)
    (h : ∀ w', w'.heap[g]? = some (.cells (cur.toList.take off ++ cs ++ cur.toList.drop (off + cs.length)).toArray 44 (0, 0)) → (∀ B a, Below B a w → B ≤ g → Below B a w') → (∀ k, k ≠ g → w'.heap[k]? = w.heap[k]?) → ∀ r, wpList Tryz.prog ops Q rest (a.put o.dst r) w') :
    wpList Tryz.prog ops Q (o :: rest) a w := by
  have hsz : (Tryz.prog.info? 44).map (·.size) = some 2 := by kernel_rfl
  refine wpList_plain hgd fun K hK => ?_
  have hrun := run_copy_rowk (P := Tryz.prog) w 25 25 o.type 44 2 g off dLen dCap ad sLen sCap cur 44 cs Tryz.underlying25 hsz hg hn hc hfit h1
  unfold Oper.wp
  simp [execOp, ho, resolve, invoke, builtin, hd, hs, hrun, Result.andThen]
  refine hK _ _ (h _ ?_ (fun B a hb hle => below_setRow hb hle _) (fun k hk => setRow_other w g k _ hk) _)
  rw [setRow_heap w g _ _ 44 _ hg]
  simp

theorem zero_prare : ∀ w : World, (zeroValue 44).run Tryz.prog w = .ok (.agg #[.string ⟨#[]⟩, .string ⟨#[]⟩]) w := by
  intro w
  obtain ⟨i0, hi, hi0, hi1, hi2⟩ := info_parts infoPair
  simp [zeroValue, typeInfo, hi, hi0]

/-- 'clear' of one spare of a row. -/
theorem run_clear_prare (w : World) (ty : TypeId) (g o c : Nat) (cur : Array Value) (hg : w.heap[g]? = some (.cells cur 44 (0, 0))) (ho : o + 2 ≤ cur.size) :
    (Builtin.clear_ #[25] ty #[.slice (some ⟨g, o, none⟩) 1 c]).run Tryz.prog w = .ok (.tuple #[]) (w.setRow g (cur.toList.take o ++ [Value.string ⟨#[]⟩, Value.string ⟨#[]⟩] ++ cur.toList.drop (o + 2)).toArray) := by
  have hst := run_storeCells_at Tryz.prog g o 44 [.string ⟨#[]⟩, .string ⟨#[]⟩] 0 cur w hg (by simpa using ho) (by intro v hv; simp at hv; rcases hv with rfl | rfl <;> rfl)
  have hzc : (Builtin.zeroCells #[.string ⟨#[]⟩, .string ⟨#[]⟩] 1).toList = [.string ⟨#[]⟩, .string ⟨#[]⟩] := by kernel_rfl
  simp only [Nat.add_zero] at hst
  simp [Builtin.clear_, run_underlying Tryz.underlying25, zero_prare, Value.cells, hzc, hst]

theorem setCells_mid {g : Nat} {t : TypeId} (vs : List Value) : ∀ (o : Nat) (w : World) (pre mid post : List Value), o = pre.length → vs.length = mid.length → w.heap[g]? = some (.cells (pre ++ (mid ++ post)).toArray t (0, 0)) →
    (w.setCells g o vs).heap[g]? = some (.cells (pre ++ (vs ++ post)).toArray t (0, 0)) := by
  induction vs with
  | nil =>
    intro o w pre mid post _ hl h
    obtain rfl : mid = [] := List.eq_nil_of_length_eq_zero hl.symm
    exact h
  | cons v vs ih =>
    intro o w pre mid post ho hl h
    obtain ⟨m, mid, rfl⟩ : ∃ m r, mid = m :: r := by
      cases mid with
      | nil => simp at hl
      | cons m r => exact ⟨m, r, rfl⟩
    rw [World.setCells]
    have h2 := ih (o + 1) (w.setCell ⟨g, o, none⟩ v) (pre ++ [v]) mid post (by simp [ho]) (by simpa using hl) (by
      rw [blk_set h o v]
      congr 2
      subst ho
      simp)
    simpa using h2

theorem append_room_pr {ops : Array Oper} {rest : List Oper} {o : Oper} {a : Act} {Q : Exit → Act → World → Prop} {w : World} (hgd : o.guard = none) (s x : Operand)
    (ho : o.op = .call { callee := .builtin .append, args := #[s, x], argTypes := #[25, 25] }) (g n cap : Nat) (hs : a.eval s = .slice (some ⟨g, 0, none⟩) n cap) (ad : Addr) (m c : Nat) (news : List Value) (hx : a.eval x = .slice (some ad) m c)
    (hn : news.length = m * 2) (hc : ∀ j u, news[j]? = some u → w.cell? (ad.add j) = some u) (h1 : ∀ u ∈ news, u.oneCell' = true) (N : Nat) (hN : n + m = N) (hroom : N ≤ cap)
    (pre mid post : List Value) (hg : w.heap[g]? = some (.cells (pre ++ (mid ++ post)).toArray 44 (0, 0))) (hp : pre.length = n * 2) (hm : mid.length = news.length)
    (h : ∀ w', w'.heap[g]? = some (.cells (pre ++ (news ++ post)).toArray 44 (0, 0)) → (∀ B a, Below B a w → B ≤ g → Below B a w') → wpList Tryz.prog ops Q rest (a.put o.dst (.slice (some ⟨g, 0, none⟩) N cap)) w') : wpList Tryz.prog ops Q (o :: rest) a w := by
  obtain ⟨i0, hi, hi0, hi1, hi2⟩ := info_parts infoPair
  subst hN
  refine wpList_plain hgd fun K hK => ?_
  have hrun := run_append_room_cells (P := Tryz.prog) w 25 o.type 44 i0 Tryz.underlying25 hi g 0 n cap ad m c news (by rw [hi1]; exact hn) hc h1 hroom
    (fun j hj => by
      rw [hi1, Nat.zero_add, blk_cell hg, Array.getElem?_eq_getElem (by simp; omega)]; rfl)
    (fun j hj => blk_frozen hg _)
  rw [hi1] at hrun
  unfold Oper.wp
  simp [execOp, ho, resolve, invoke, builtin, hs, hx, hrun, Result.andThen]
  refine hK _ _ (h _ ?_ (fun B a hB hle => below_setCells hle _ _ _ hB))
  exact setCells_mid news (n * 2) w pre mid post hp.symm hm.symm hg

theorem clear_pr {ops : Array Oper} {rest : List Oper} {o : Oper} {a : Act} {Q : Exit → Act → World → Prop} {w : World} (hgd : o.guard = none) (x : Operand)
    (ho : o.op = .call { callee := .builtin .clear, args := #[x], argTypes := #[25] }) (g off c : Nat) (hx : a.eval x = .slice (some ⟨g, off, none⟩) 1 c) (pre : List Value) (u v : Value)
    (hg : w.heap[g]? = some (.cells (pre ++ [u, v]).toArray 44 (0, 0))) (hp : pre.length = off)
    (h : ∀ w', w'.heap[g]? = some (.cells (pre ++ [Value.string ⟨#[]⟩, Value.string ⟨#[]⟩]).toArray 44 (0, 0)) → (∀ B a, Below B a w → B ≤ g → Below B a w') → ∀ r, wpList Tryz.prog ops Q rest (a.put o.dst r) w') : wpList Tryz.prog ops Q (o :: rest) a w := by
  refine wpList_plain hgd fun K hK => ?_
  have hrun := run_clear_prare w o.type g off c _ hg (by simp; omega)
  unfold Oper.wp
  simp [execOp, ho, resolve, invoke, builtin, hx, hrun, Result.andThen]
  refine hK _ _ (h _ ?_ (fun B a hb hle => below_setRow hb hle _) _)
  rw [setRow_heap w g _ _ 44 _ hg]
  subst hp
  simp

/-- The row that slices.Delete leaves: the spares without one, and one empty spare. -/
def gone (l : List Par) (k : Nat) : List Value := prows (l.eraseIdx k) ++ [Value.string ⟨#[]⟩, .string ⟨#[]⟩]

/-- What slices.Insert leaves. -/
def InsPost (B : Nat) (l : List Par) (i : Nat) (p : Par) (v : Value) (w : World) (e : Ending) (w' : World) : Prop :=
  ∃ v', e = .returned v' ∧ w'.ownsRow B 44 2 v' (l.length + 1) (prows (l.take i ++ p :: l.drop i)) ∧ Same (fun k => v.ownBlock ≠ some k) w w'
theorem prows_mid (l : List Par) (i : Nat) (p : Par) : prows (l.take i ++ p :: l.drop i) = prows (l.take i) ++ (prows [p] ++ prows (l.drop i)) := by
  rw [prows_append, show p :: l.drop i = [p] ++ l.drop i from rfl, prows_append]

set_option maxHeartbeats 1000000 in
set_option maxRecDepth 100000 in
theorem insert_end (B b n : Nat) (p : Par) (l : List Par) (v : Value) (w : World) (hn : l.length = n) (hl : n ≤ 1000000) (hB : B ≤ w.heap.size) (hv : w.ownsRow B 44 2 v n (prows l)) (hb : w.heap[b]? = some (.cells #[.string ⟨p.1.toArray⟩, .string ⟨p.2.toArray⟩] 44 (0, 0))) :
    Calls Tryz.prog 231 #[v, .int .i64 (n : Int), .slice (some ⟨b, 0, none⟩) 1 1] w fun e w' => InsPost B l n p v w e w' := by
  obtain ⟨i0, hi, hi0, hi1, hi2⟩ := info_parts infoPair
  have hc : ∀ j u, (prows [p])[j]? = some u → w.cell? ((⟨b, 0, none⟩ : Addr).add j) = some u := by
    intro j u hj
    rw [add_plain, blk_cell hb]
    simpa [prows, cat2] using hj
  obtain ⟨base, cap, rfl⟩ := (Sees.of_own hv).shape
  have HV := Lib.hid (And.intro hv (And.intro hc hn))
  clear hv hc hn hb
  rcases Decidable.em (cap = n) with hcn | hcn
  all_goals
    go_enter Tryz.func231, Tryz.ntmps231
    go_wp2_with (at_builtin; refine wpList_append_own _ rfl _ _ 25 rfl B 44 i0 (.agg #[.string ⟨#[]⟩, .string ⟨#[]⟩]) 2 32 Tryz.underlying25 hi hi0 hi1 hi2 rfl (by decide) _ _ _ rfl (by first | exact HV.out.1 | (have h9 := HV.out.1; rw [hcn] at h9; exact h9)) ⟨b, 0, none⟩ 1 1 (prows [p]) rfl rfl HV.out.2.1 (one_pr _) ?b1 ?b2 ?b3 ?_)
    case b1 => unfold maxLen; omega
    case b2 => omega
    case b3 => exact hB
    intro v' w1 hown hgrow _
    have HO := Lib.hid (And.intro hown hgrow)
    clear hown hgrow
    go_wp2
    go_ret
    refine ⟨_, rfl, ?_, (Same.refl _ _).grown HO.out.2 (fun k hk _ h => h ?_)⟩
    · have h1 := HO.out.1
      have hn := HV.out.2.2
      rw [prows_mid, List.take_of_length_le (by omega), List.drop_of_length_le (by omega), hn]
      simpa [prows, cat2] using h1
    · first | exact hk | (rw [hcn]; exact hk)

/-- What a row's block holds. -/
theorem own_blk {B : Nat} {l : List Par} {n cap : Nat} {base : Option Addr} {w : World} (hv : w.ownsRow B 44 2 (.slice base n cap) n (prows l)) (h0 : 0 < n) :
    ∃ g cur, base = some ⟨g, 0, none⟩ ∧ B ≤ g ∧ w.heap[g]? = some (.cells cur 44 (0, 0)) ∧ n ≤ cap ∧ cap ≤ maxLen ∧ cur.size = cap * 2 ∧ cur.toList.take (n * 2) = prows l := by
  rcases hv.2 with ⟨h, _⟩ | ⟨g, cap', cur, h, h1, h2, h3, h4, h5, h6⟩
  · simp only [Value.slice.injEq] at h; omega
  · simp only [Value.slice.injEq, true_and] at h
    obtain ⟨rfl, rfl⟩ := h
    exact ⟨g, cur, rfl, h1, h2, h3, h4, h5, h6⟩
theorem own_row {B g cap n : Nat} {l : List Par} {w : World} {cur : Array Value} (hB : B ≤ g) (hg : w.heap[g]? = some (.cells cur 44 (0, 0))) (hc : n ≤ cap) (hm : cap ≤ maxLen) (hs : cur.size = cap * 2) (hl : l.length = n) (ht : cur.toList.take (n * 2) = prows l) :
    w.ownsRow B 44 2 (.slice (some ⟨g, 0, none⟩) n cap) n (prows l) :=
  ⟨by rw [prows_length, hl], .inr ⟨g, cap, cur, rfl, hB, hg, hc, hm, hs, ht⟩⟩
def InsP0 (n : Nat) (l : List Par) (i : Nat) (q : Par) (w : World) (e : Ending) (w' : World) : Prop :=
  ∃ g c, e = .returned (.slice (some ⟨g, 0, none⟩) (n + 1) c) ∧ w.heap.size ≤ g ∧ n + 1 ≤ c ∧ c ≤ maxLen ∧ Row44 w' g c (l.take i ++ q :: l.drop i) ∧ Below w.heap.size w w'

set_option maxHeartbeats 1000000 in
set_option maxRecDepth 100000 in
theorem insert_mid0 (g i n : Nat) (ad : Addr) (q : Par) (l : List Par) (w : World) (hn : l.length = n) (hi : i < n) (hl : n ≤ 1000000) (hg : w.heap[g]? = some (.cells (prows l).toArray 44 (0, 0))) (hc : ∀ j u, (prows [q])[j]? = some u → w.cell? (ad.add j) = some u) :
    Calls Tryz.prog 231 #[.slice (some ⟨g, 0, none⟩) n n, .int .i64 (i : Int), .slice (some ad) 1 1] w (InsP0 n l i q w) := by
  have HG := Lib.hid (And.intro hg hc)
  have HN := Lib.hid hn
  have h1 : (i : Int) ≤ (n : Int) := by omega
  have h2 : ((i : Int) == (n : Int)) = false := by simp; omega
  have h3 : (i : Int) < (n : Int) := by omega
  have h4 : i ≤ n := by omega
  clear hg hc hn
  go_enter Tryz.func231, Tryz.ntmps231
  go_wp2_with (at_builtin; refine zeros_grow_pr rfl _ _ rfl g i n l HN.out hl h4 rfl HG.out.1 _ (by omega) rfl ?_)
  intro c w1 g1 g2 g3 g4
  obtain ⟨cur, hcur, hcs, hct⟩ := g3
  have hsrc : ∀ j u, (prows [q])[j]? = some u → w1.cell? (ad.add j) = some u := fun j u hj => (g4.cell (p := ad.add j) (cell_lt (HG.out.2 j u hj))).trans (HG.out.2 j u hj)
  have hgl : g < w.heap.size := (Array.getElem?_eq_some_iff.1 HG.out.1).1
  have hg1 : w1.heap[g]? = some (.cells (prows l).toArray 44 (0, 0)) := (g4.block g hgl).trans HG.out.1
  have H := Lib.hid (And.intro hcur (And.intro hcs (And.intro hct (And.intro hsrc (And.intro hg1 (And.intro hgl g4))))))
  clear hcur hcs hct hsrc hg1 hgl g4
  have h5 : (i : Int) ≤ (n : Int) + 1 := by omega
  have h6 : ¬ c = i := by omega
  have h7 : i ≤ n + 1 := by omega
  have h8 : n + 1 ≤ c := g1
  clear g1
  go_wp2_with ((with_reducible show wpList _ _ _ _ _ _); refine copy_at (o := ⟨some 45, _, _, _, _, _⟩) rfl _ _ rfl w.heap.size (i * 2) (n + 1 - i) (c - i) ad 1 1 (prows [q]) rfl rfl cur H.out.1 (by rw [show Nat.min 1 (n + 1 - i) = 1 from Nat.min_eq_left (by omega)]; rfl) H.out.2.2.2.1 (one_pr _) (by rw [H.out.2.1, prows_length]; simp; omega) ?_)
  intro w2 k1 k2 k3 r
  obtain ⟨cur2, hcur2⟩ : ∃ cur2, (cur.toList.take (i * 2) ++ (prows [q] ++ cur.toList.drop (i * 2 + (prows [q]).length))).toArray = cur2 := ⟨_, rfl⟩
  rw [hcur2] at k1
  have hs2 : cur2.size = c * 2 := by
    rw [← hcur2]
    have := H.out.2.1
    simp [prows_length]
    omega
  have ht2 : cur2.toList.take ((i + 1) * 2) = prows (l.take i ++ [q]) := by
    have := H.out.2.2.1
    rw [List.length_take, HN.out, Nat.min_eq_left (by omega)] at this
    rw [← hcur2, this, prows_append, ← List.append_assoc]
    exact List.take_left' (by rw [List.length_append, prows_length, prows_length, List.length_take, HN.out]; simp; omega)
  have hg2 := (k3 g (by have := H.out.2.2.2.2.2.1; omega)).trans H.out.2.2.2.2.1
  have hb2 := k2 w.heap.size w H.out.2.2.2.2.2.2 (Nat.le_refl _)
  have H2 := Lib.hid (And.intro k1 (And.intro hs2 (And.intro ht2 (And.intro hg2 hb2))))
  clear k1 k2 k3 hs2 ht2 hg2 hb2 hcur2 H
  have h9 : (i : Int) + 1 ≤ (n : Int) + 1 := by omega
  have h10 : ¬ c = i + 1 := by omega
  have h11 : ¬ n = i := by omega
  have h12 : i + 1 ≤ n + 1 := by omega
  have h13 : IntKind.i64.wrap ((i : Int) + 1) = (i : Int) + 1 := IntWalk.i64_in _ (by omega)
  have h14 : (0 : Int) ≤ (i : Int) + 1 := by omega
  have h15 : ((i : Int) + 1).toNat = i + 1 := by omega
  go_wp2_with fail
  go_still_tail 8, (by kernel_rfl)
  change wpList _ _ _ _ _ w2.drew
  clear h13 h14 h15
  refine copy_at rfl _ _ rfl w.heap.size ((i + 1) * 2) (n - i) (c - (i + 1)) ⟨g, i * 2, none⟩ (n - i) (n - i) (prows (l.drop i)) (by simp [go_sem]) rfl cur2 (blk_drew H2.out.1) (by rw [show (n - i).min (n - i) = n - i from Nat.min_self _, prows_length, List.length_drop, HN.out]) ?_ (one_pr _) (by rw [H2.out.2.1, prows_length, List.length_drop, HN.out]; omega) ?_
  · intro j u hj
    rw [add_off, blk_cell (blk_drew H2.out.2.2.2.1)]
    rw [prows_drop, List.getElem?_drop] at hj
    simpa using hj
  intro w3 k1 k2 k3 r2
  have H3 := Lib.hid (And.intro k1 (k2 w.heap.size w (Below.drew H2.out.2.2.2.2) (Nat.le_refl _)))
  clear k1 k2 k3
  go_wp2
  go_ret
  refine ⟨_, c, rfl, Nat.le_refl _, h8, g2, ⟨_, H3.out.1, ?_, ?_⟩, H3.out.2⟩
  · have := H2.out.2.1
    have := HN.out
    simp [prows_length]
    omega
  · have h1 := H2.out.2.2.1
    have h2 := HN.out
    have h3 : (l.take i ++ q :: l.drop i).length * 2 = (prows (l.take i ++ [q]) ++ prows (l.drop i)).length := by
      simp only [List.length_append, prows_length, List.length_cons, List.length_nil]; omega
    have h4 : prows (l.take i ++ q :: l.drop i) = prows (l.take i ++ [q]) ++ prows (l.drop i) := by rw [← prows_append]; simp
    rw [h4, h3]
    show List.take _ (List.take ((i + 1) * 2) cur2.toList ++ _ ++ _) = _
    rw [h1]
    exact List.take_left

end Go.Proofs.YtmkcbkdbdcnoiaaGreatDoor
namespace Go.Proofs.YtmkcbkdbdcnoiaaGreatDoor
open Go.RowKit
set_option linter.unusedVariables false
set_option linter.unusedSimpArgs false

theorem cell_same {w w' : World} {b i : Nat} (h : w'.heap[b]? = w.heap[b]?) : w'.cell? ⟨b, i, none⟩ = w.cell? ⟨b, i, none⟩ := by
  unfold World.cell?
  simp [h]

set_option maxHeartbeats 1000000 in
set_option maxRecDepth 100000 in
theorem insert_room (g i n cap b : Nat) (p : Par) (l : List Par) (w : World) (cur : Array Value) (hn : l.length = n) (hi : i < n) (hl : n ≤ 1000000) (hg : w.heap[g]? = some (.cells cur 44 (0, 0))) (hnc : n + 1 ≤ cap) (hcm : cap ≤ maxLen) (hcs : cur.size = cap * 2) (hct : cur.toList.take (n * 2) = prows l)
    (hb : w.heap[b]? = some (.cells #[.string ⟨p.1.toArray⟩, .string ⟨p.2.toArray⟩] 44 (0, 0))) (hbg : b ≠ g) :
    Calls Tryz.prog 231 #[.slice (some ⟨g, 0, none⟩) n cap, .int .i64 (i : Int), .slice (some ⟨b, 0, none⟩) 1 1] w fun e w' => e = .returned (.slice (some ⟨g, 0, none⟩) (n + 1) cap) ∧
      (∃ cur', w'.heap[g]? = some (.cells cur' 44 (0, 0)) ∧ cur'.size = cap * 2 ∧ cur'.toList.take ((n + 1) * 2) = prows (l.take i ++ p :: l.drop i)) ∧ Same (fun k => k ≠ g) w w' := by
  have hc : ∀ j u, (prows [p])[j]? = some u → w.cell? ((⟨b, 0, none⟩ : Addr).add j) = some u := by
    intro j u hj
    rw [add_plain, blk_cell hb]
    simpa [prows, cat2] using hj
  have hsz2 : ∀ w : World, (Go.sizeOf 44).run Tryz.prog w = .ok 2 w := by
    intro w
    obtain ⟨i0, hi, hi0, hi1, hi2⟩ := info_parts infoPair
    simp [sizeOf, typeInfo, hi, hi1]
  have hov : ∀ lb cb, (callFunc 235 #[.slice (some ⟨b, 0, none⟩) 1 1, .slice (some ⟨g, (i + 1) * 2, none⟩) lb cb]).run Tryz.prog w = .ok (.value (.bool false)) w := fun lb cb => by
    rw [run_callFunc_extern Tryz.func235 (by kernel_rfl) (by kernel_rfl) (by kernel_rfl) (e := Extern.SlicesOverlaps.overlaps #[25, 25] #[4]) (by kernel_rfl),
      Lib.run_overlaps_apart w 25 4 44 Tryz.underlying25 2 hsz2 ⟨b, 0, none⟩ ⟨g, (i + 1) * 2, none⟩ 1 1 lb cb hbg 44 44 2 (cap * 2) (by simp [World.shape?, hb]) (by simp [World.shape?, hg, hcs]) (by omega) (blk_frozen hb 0) (blk_frozen hb 2)]
    rfl
  have HG := Lib.hid (And.intro hg (And.intro hc (And.intro hcs (And.intro hct hov))))
  have HN := Lib.hid hn
  have h1 : (i : Int) ≤ (n : Int) := by omega
  have h2 : ((i : Int) == (n : Int)) = false := by simp; omega
  have h3 : (i : Int) < (n : Int) := by omega
  have h4 : i ≤ n := by omega
  have h5 : ¬ ((cap : Int) < (n : Int) + 1) := by omega
  have h6 : (n : Int) + 1 ≤ (cap : Int) := by omega
  have h7 : (i : Int) + 1 ≤ (n : Int) + 1 := by omega
  have h8 : ¬ (cap = i + 1) := by omega
  have h9 : ¬ (cap = i) := by omega
  have h13 : IntKind.i64.wrap ((i : Int) + 1) = (i : Int) + 1 := IntWalk.i64_in _ (by omega)
  have h14 : (0 : Int) ≤ (i : Int) + 1 := by omega
  have h15 : ((i : Int) + 1).toNat = i + 1 := by omega
  have h16 : IntKind.i64.wrap ((n : Int) + 1) = (n : Int) + 1 := IntWalk.i64_in _ (by omega)
  clear hg hc hn hb hcs hct hov
  go_enter Tryz.func231, Tryz.ntmps231
  have hov := HG.out.2.2.2.2
  go_wp2_with (simp only [hov])
  have a1 : i ≤ n + 1 := by omega
  have a2 : i + 1 ≤ n + 1 := by omega
  have a3 : (i : Int) ≤ (n : Int) + 1 := by omega
  go_still_tail 8, (by kernel_rfl)
  change wpList _ _ _ _ _ w.drew
  clear h13 h14 h15 h16 hov
  have hpre : cur.toList.take (i * 2) = prows (l.take i) := by
    rw [prows_take, ← HG.out.2.2.2.1, List.take_take, Nat.min_eq_left (by omega)]
  have hmid : ∀ j u, (prows (l.drop i))[j]? = some u → cur[i * 2 + j]? = some u := by
    intro j u hj
    rw [prows_drop, List.getElem?_drop] at hj
    have hlt := (List.getElem?_eq_some_iff.1 hj).1
    rw [prows_length, HN.out] at hlt
    rw [← HG.out.2.2.2.1, List.getElem?_take, if_pos hlt] at hj
    simpa using hj
  have HPM := Lib.hid (And.intro hpre hmid)
  clear hpre hmid
  refine copy_at rfl _ _ rfl g ((i + 1) * 2) (n - i) (cap - (i + 1)) ⟨g, i * 2, none⟩ (n + 1 - i) (cap - i) (prows (l.drop i)) (by simp [go_sem]) rfl cur (blk_drew HG.out.1) (by rw [show (n + 1 - i).min (n - i) = n - i from Nat.min_eq_right (by omega), prows_length, List.length_drop, HN.out]) ?_ (one_pr _) (by rw [HG.out.2.2.1, prows_length, List.length_drop, HN.out]; omega) ?_
  · intro j u hj
    rw [add_off, blk_cell (blk_drew HG.out.1)]
    exact HPM.out.2 j u hj
  intro w1 k1 k2 k3 r
  obtain ⟨cur2, hcur2⟩ : ∃ cur2, (cur.toList.take ((i + 1) * 2) ++ prows (l.drop i) ++ cur.toList.drop ((i + 1) * 2 + (prows (l.drop i)).length)).toArray = cur2 := ⟨_, rfl⟩
  rw [hcur2] at k1
  have hdl : (prows (l.drop i)).length = (n - i) * 2 := by rw [prows_length, List.length_drop, HN.out]
  have hs2 : cur2.size = cap * 2 := by
    rw [← hcur2]
    have := HG.out.2.2.1
    simp [hdl]
    omega
  have ht2 : cur2.toList.take (i * 2) = prows (l.take i) := by
    rw [← hcur2, ← HPM.out.1]
    have := HG.out.2.2.1
    rw [show ((i + 1) * 2) = i * 2 + 2 by omega]
    simp [List.take_append, List.take_take]
    rw [show i * 2 - min (i * 2 + 2) cur.size = 0 by omega]
    simp
  have ht3 : (cur2.toList.drop (i * 2 + 2)).take ((n - i) * 2) = prows (l.drop i) := by
    rw [← hcur2, show i * 2 + 2 = (i + 1) * 2 by omega, List.append_assoc, List.drop_left' (by have := HG.out.2.2.1; simp; omega)]
    rw [← hdl]
    exact List.take_left
  have hc2 : ∀ j u, (prows [p])[j]? = some u → w1.cell? ((⟨b, 0, none⟩ : Addr).add j) = some u := by
    intro j u hj
    have := HG.out.2.1 j u hj
    rw [add_plain] at this ⊢
    rw [cell_same (k3 b hbg)]
    exact this
  have hz := k2 0 w (Below.drew (Below.refl 0 w)) (Nat.zero_le _)
  have hS : Same (fun k => k ≠ g) w w1 := ⟨hz.os, hz.tape, hz.output, hz.size, fun k _ h => k3 k h⟩
  have H2 := Lib.hid (And.intro k1 (And.intro hs2 (And.intro ht2 (And.intro ht3 (And.intro hc2 hS)))))
  clear hz hS
  clear k1 k2 k3 hs2 ht2 ht3 hc2 hcur2
  go_wp2_with ((with_reducible show wpList _ _ _ _ _ _); refine copy_at rfl _ _ rfl g (i * 2) (n + 1 - i) (cap - i) ⟨b, 0, none⟩ 1 1 (prows [p]) rfl rfl cur2 H2.out.1 (by rw [show Nat.min 1 (n + 1 - i) = 1 from Nat.min_eq_left (by omega)]; rfl) H2.out.2.2.2.2.1 (one_pr _) (by rw [H2.out.2.1, prows_length]; simp; omega) ?_)
  intro w2 k1 k2 k3 r2
  have hz := k2 0 w1 (Below.refl 0 w1) (Nat.zero_le _)
  have hS : Same (fun k => k ≠ g) w1 w2 := ⟨hz.os, hz.tape, hz.output, hz.size, fun k _ h => k3 k h⟩
  have H3 := Lib.hid (And.intro k1 hS)
  clear hz hS
  clear k1 k2 k3
  go_wp2
  go_ret
  have hpl : (prows [p]).length = 2 := rfl
  refine ⟨rfl, ⟨_, H3.out.1, ?_, ?_⟩, H2.out.2.2.2.2.2.trans H3.out.2⟩
  · have := H2.out.2.1
    simp [hpl]
    omega
  · have h1 := H2.out.2.2.1
    have h2 := H2.out.2.2.2.1
    rw [prows_mid, h1, hpl]
    have h3 : (prows (l.take i)).length = i * 2 := by rw [prows_length, List.length_take, HN.out]; omega
    rw [← h2]
    show List.take ((n + 1) * 2) (prows (List.take i l) ++ (prows [p] ++ List.drop (i * 2 + 2) cur2.toList)) = _
    have h4 : (n + 1) * 2 = (prows (l.take i)).length + (2 + (n - i) * 2) := by rw [h3]; omega
    rw [h4, List.take_append, List.take_of_length_le (by omega), Nat.add_sub_cancel_left, List.take_append, List.take_of_length_le (l := prows [p]) (by omega), hpl, Nat.add_sub_cancel_left]

theorem insert_any (B i n b : Nat) (p : Par) (l : List Par) (v : Value) (w : World) (hn : l.length = n) (hi : i ≤ n) (hl : n ≤ 1000000) (hB : B ≤ w.heap.size) (hv : w.ownsRow B 44 2 v n (prows l)) (hb : w.heap[b]? = some (.cells #[.string ⟨p.1.toArray⟩, .string ⟨p.2.toArray⟩] 44 (0, 0))) (hbv : v.ownBlock ≠ some b) :
    Calls Tryz.prog 231 #[v, .int .i64 (i : Int), .slice (some ⟨b, 0, none⟩) 1 1] w fun e w' => InsPost B l i p v w e w' := by
  rcases Nat.lt_or_ge i n with hlt | hge
  · obtain ⟨base, cap, rfl⟩ := (Sees.of_own hv).shape
    obtain ⟨g, cur, rfl, h1, h2, h3, h4, h5, h6⟩ := own_blk hv (by omega)
    have hgb : b ≠ g := by rintro rfl; exact hbv rfl
    have hll : (l.take i ++ p :: l.drop i).length = n + 1 := by simp; omega
    rcases Nat.lt_or_ge n cap with hr | hr
    · refine (insert_room g i n cap b p l w cur hn hlt hl h2 (by omega) h4 h5 h6 hb hgb).mono ?_
      rintro e w' ⟨rfl, ⟨cur', k1, k2, k3⟩, k4⟩
      refine ⟨_, rfl, ?_, k4.mono fun k _ h hk => h (by rw [hk]; rfl)⟩
      rw [hn]
      exact own_row h1 k1 hr h4 k2 hll k3
    · obtain rfl : n = cap := by omega
      have hcur : cur = (prows l).toArray := by
        rw [← h6, List.take_of_length_le (by simp [h5])]
      rw [hcur] at h2
      refine (insert_mid0 g i n ⟨b, 0, none⟩ p l w hn hlt hl h2 ?_).mono ?_
      · intro j u hj
        rw [add_plain, blk_cell hb]
        simpa [prows, cat2] using hj
      · rintro e w' ⟨g', c, rfl, k1, k2, k3, ⟨cur', k4, k5, k6⟩, k7⟩
        refine ⟨_, rfl, ?_, Same.of_below k7 (fun k hk _ => hk)⟩
        rw [hn]
        rw [hll] at k6
        exact own_row (Nat.le_trans hB k1) k4 k2 k3 k5 hll k6
  · obtain rfl : i = n := by omega
    exact insert_end B b i p l v w hn hl hB hv hb

/-- 'clear' of one pair in a row. -/
theorem clear_mid {ops : Array Oper} {rest : List Oper} {o : Oper} {a : Act} {Q : Exit → Act → World → Prop} {w : World} (hgd : o.guard = none) (x : Operand)
    (ho : o.op = .call { callee := .builtin .clear, args := #[x], argTypes := #[25] }) (g off c : Nat) (hx : a.eval x = .slice (some ⟨g, off, none⟩) 1 c) (pre post : List Value) (u v : Value)
    (hg : w.heap[g]? = some (.cells (pre ++ (u :: v :: post)).toArray 44 (0, 0))) (hp : pre.length = off)
    (h : ∀ w', w'.heap[g]? = some (.cells (pre ++ (Value.string ⟨#[]⟩ :: Value.string ⟨#[]⟩ :: post)).toArray 44 (0, 0)) → Same (fun k => k ≠ g) w w' → ∀ r, wpList Tryz.prog ops Q rest (a.put o.dst r) w') : wpList Tryz.prog ops Q (o :: rest) a w := by
  refine wpList_plain hgd fun K hK => ?_
  have hrun := run_clear_prare w o.type g off c _ hg (by simp; omega)
  unfold Oper.wp
  simp only [execOp, ho, resolve, invoke, builtin, Sem.run_bind, Sem.run_pure, Result.andThen_ok, List.map_toArray, List.map_cons, List.map_nil, hx, hrun]
  have hz := below_setRow (Below.refl 0 w) (Nat.zero_le g) (cs := ((pre ++ (u :: v :: post)).toArray.toList.take off ++ [Value.string ⟨#[]⟩, Value.string ⟨#[]⟩] ++ (pre ++ (u :: v :: post)).toArray.toList.drop (off + 2)).toArray)
  refine hK _ _ (h _ ?_ ⟨hz.os, hz.tape, hz.output, hz.size, fun k _ hk => setRow_other w g k _ hk⟩ _)
  rw [setRow_heap w g _ _ 44 _ hg]
  subst hp
  simp

theorem append_room_same {ops : Array Oper} {rest : List Oper} {o : Oper} {a : Act} {Q : Exit → Act → World → Prop} {w : World} (hgd : o.guard = none) (s x : Operand)
    (ho : o.op = .call { callee := .builtin .append, args := #[s, x], argTypes := #[25, 25] }) (g n cap : Nat) (hs : a.eval s = .slice (some ⟨g, 0, none⟩) n cap) (ad : Addr) (m c : Nat) (news : List Value) (hx : a.eval x = .slice (some ad) m c)
    (hn : news.length = m * 2) (hc : ∀ j u, news[j]? = some u → w.cell? (ad.add j) = some u) (h1 : ∀ u ∈ news, u.oneCell' = true) (N : Nat) (hN : n + m = N) (hroom : N ≤ cap)
    (pre mid post : List Value) (hg : w.heap[g]? = some (.cells (pre ++ (mid ++ post)).toArray 44 (0, 0))) (hp : pre.length = n * 2) (hm : mid.length = news.length)
    (h : ∀ w', w'.heap[g]? = some (.cells (pre ++ (news ++ post)).toArray 44 (0, 0)) → Same (fun k => k ≠ g) w w' → wpList Tryz.prog ops Q rest (a.put o.dst (.slice (some ⟨g, 0, none⟩) N cap)) w') : wpList Tryz.prog ops Q (o :: rest) a w := by
  obtain ⟨i0, hi, hi0, hi1, hi2⟩ := info_parts infoPair
  subst hN
  refine wpList_plain hgd fun K hK => ?_
  have hrun := run_append_room_cells (P := Tryz.prog) w 25 o.type 44 i0 Tryz.underlying25 hi g 0 n cap ad m c news (by rw [hi1]; exact hn) hc h1 hroom
    (fun j hj => by
      rw [hi1, Nat.zero_add, blk_cell hg, Array.getElem?_eq_getElem (by simp; omega)]; rfl)
    (fun j hj => blk_frozen hg _)
  rw [hi1] at hrun
  unfold Oper.wp
  simp [execOp, ho, resolve, invoke, builtin, hs, hx, hrun, Result.andThen]
  have hz := below_setCells (Nat.zero_le g) news (n * 2) w (Below.refl 0 w)
  refine hK _ _ (h _ ?_ ⟨hz.os, hz.tape, hz.output, hz.size, fun k _ hk => setCells_other news (n * 2) w k hk⟩)
  exact setCells_mid news (n * 2) w pre mid post hp.symm hm.symm hg

theorem row_parts (l : List Par) (k k2 n : Nat) (hn : l.length = n) (hk : k < n) (hk2 : k2 = k + 1) : ∃ u v, prows l = prows (l.take k) ++ ((prows (l.drop k)).take ((n - k2) * 2) ++ [u, v]) := by
  have h1 := prows_append (l.take k) (l.drop k)
  rw [List.take_append_drop] at h1
  have hlen : (prows (l.drop k)).length = (n - k2) * 2 + 2 := by rw [prows_length, List.length_drop]; omega
  have h2 := (List.take_append_drop ((n - k2) * 2) (prows (l.drop k))).symm
  obtain ⟨u, v, h3⟩ : ∃ u v, (prows (l.drop k)).drop ((n - k2) * 2) = [u, v] := by
    have : ((prows (l.drop k)).drop ((n - k2) * 2)).length = 2 := by rw [List.length_drop, hlen]; omega
    match (prows (l.drop k)).drop ((n - k2) * 2), this with
    | [u, v], _ => exact ⟨u, v, rfl⟩
  exact ⟨u, v, by rw [h1]; conv => lhs; rw [h2, h3]⟩

set_option maxHeartbeats 1000000 in
set_option maxRecDepth 100000 in
theorem ldelete_any (B k k2 n : Nat) (i2 : Int) (hi2 : i2 = (k2 : Int)) (hk2 : k2 = k + 1) (l : List Par) (v : Value) (w : World) (hn : l.length = n) (hk : k < n) (hl : n ≤ 1000000) (hv : w.ownsRow B 44 2 v n (prows l)) :
    Calls Tryz.prog 230 #[v, .int .i64 (k : Int), .int .i64 i2] w fun e w' => ∃ v', e = .returned v' ∧ w'.ownsRow B 44 2 v' (n - 1) (prows (l.eraseIdx k)) ∧ Same (fun k => v.ownBlock ≠ some k) w w' := by
  subst hi2
  obtain ⟨base, cap, rfl⟩ := (Sees.of_own hv).shape
  obtain ⟨g, cur, rfl, hBg, hg, hnc, hcm, hcs, hct⟩ := own_blk hv (by omega)
  have h1 : (k2 : Int) ≤ (n : Int) := by omega
  have h2 : (k : Int) ≤ (n : Int) := by omega
  have h4 : (k : Int) ≤ (k2 : Int) := by omega
  have h5 : k2 ≤ n := by omega
  have h6 : k ≤ k2 := by omega
  have h7 : k ≤ n := by omega
  have h3 : ((k : Int) == (k2 : Int)) = false := by simp; omega
  have h8 : (k2 : Int) ≤ (cap : Int) := by omega
  have h9 : (n : Int) ≤ (cap : Int) := by omega
  have h10 : k2 ≤ cap := by omega
  have h11 : k ≤ cap := by omega
  have HG := Lib.hid (And.intro hg (And.intro hcs (And.intro hct (And.intro hn hBg))))
  have HK2 := Lib.hid hk2
  clear hk2 hg hcs hct hn hv hBg
  go_enter Tryz.func230, Tryz.ntmps230
  go_wp2
  go_still_tail 6, (by kernel_rfl)
  change wpList _ _ _ _ _ w.drew
  have hl2 := HG.out.2.2.2.1
  obtain ⟨u, x, hparts⟩ := row_parts l k k2 n hl2 hk HK2.out
  obtain ⟨post, hpost⟩ : ∃ post, cur.toList.drop (n * 2) = post := ⟨_, rfl⟩
  have hcur : cur = (prows (l.take k) ++ ((prows (l.drop k)).take ((n - k2) * 2) ++ (u :: x :: post))).toArray := by
    have h := List.take_append_drop (n * 2) cur.toList
    rw [HG.out.2.2.1, hparts, hpost] at h
    apply Array.ext'
    rw [← h]
    simp
  have hgd : w.drew.heap[g]? = some (.cells (prows (l.take k) ++ ((prows (l.drop k)).take ((n - k2) * 2) ++ (u :: x :: post))).toArray 44 (0, 0)) := by rw [← hcur]; exact blk_drew HG.out.1
  obtain ⟨A, hA, hsrc⟩ : ∃ A, (if cap = k2 then some (⟨g, 0, none⟩ : Addr) else some ⟨g, k2 * 2, none⟩) = some A ∧ ∀ j u, (prows (l.drop k2))[j]? = some u → w.drew.cell? (A.add j) = some u := by
    by_cases h : cap = k2
    · refine ⟨_, by rw [if_pos h], fun j u hj => ?_⟩
      rw [List.drop_of_length_le (by omega)] at hj
      simp [prows, cat2] at hj
    · refine ⟨_, by rw [if_neg h], fun j u hj => ?_⟩
      rw [add_off, blk_cell (blk_drew HG.out.1)]
      rw [prows_drop, List.getElem?_drop, ← HG.out.2.2.1, List.getElem?_take] at hj
      split at hj
      · simpa using hj
      · cases hj
  rw [hA]
  refine append_room_same rfl _ _ rfl g k cap rfl A (n - k2) (cap - k2) (prows (l.drop k2)) rfl (by rw [prows_length, List.length_drop]; omega) hsrc (one_pr _) (n - 1) (by have := HK2.out; omega) (by omega) _ _ _ hgd
    (by rw [prows_length, List.length_take]; omega) (by have := HK2.out; simp [prows_length]; omega) ?_
  intro W1 hg1 hB1
  have hS1 : Same (fun k => k ≠ g) w W1 := ⟨hB1.os, hB1.tape, hB1.output, hB1.size, fun k hk h => hB1.same k hk h⟩
  have hlen : (prows (l.eraseIdx k)).length = (n - 1) * 2 := by rw [prows_length, List.length_eraseIdx, if_pos (by omega)]; omega
  have hg3 : W1.heap[g]? = some (.cells (prows (l.eraseIdx k) ++ (u :: x :: post)).toArray 44 (0, 0)) := by
    rw [hg1, List.eraseIdx_eq_take_drop_succ, prows_append, ← HK2.out, List.append_assoc]
  have hsz : (n * 2) + post.length = cap * 2 := by
    rw [← hpost, List.length_drop]
    have := HG.out.2.1
    simp only [Array.length_toList]
    omega
  have H1 := Lib.hid (And.intro hg3 (And.intro hS1 (And.intro hlen hsz)))
  clear hg1 hg3 hS1 hB1 hlen hsz hparts hcur hgd hsrc hA hpost
  have hN : n - 1 ≤ n := by omega
  have hN1 : ((n - 1 : Nat) : Int) ≤ (n : Int) := by omega
  have hN2 : ¬ cap = n - 1 := by omega
  have hN3 : n - (n - 1) = 1 := by omega
  have hN4 : n - 1 ≤ cap := by omega
  have hN5 : ((n - 1 : Nat) : Int) ≤ (cap : Int) := by omega
  generalize hm1 : n - 1 = m1 at *
  have HM1 := Lib.hid hm1
  clear hm1
  go_wp2_with ((with_reducible show wpList _ _ _ _ _ _); refine clear_mid (o := ⟨none, _, _, _, _, _⟩) rfl _ rfl g (m1 * 2) (cap - m1) rfl _ post u x H1.out.1 H1.out.2.2.1 ?_)
  intro W2 hg2 hS2
  have H2 := Lib.hid (And.intro hg2 hS2)
  clear hg2 hS2
  go_wp2
  go_ret
  have hel : (l.eraseIdx k).length = m1 := by rw [List.length_eraseIdx, if_pos (by omega)]; have := HM1.out; omega
  rw [HM1.out]
  refine ⟨.slice (some ⟨g, 0, none⟩) m1 cap, rfl, own_row HG.out.2.2.2.2 H2.out.1 (by omega) hcm ?_ hel ?_, (H1.out.2.1.trans H2.out.2).mono fun k _ h e => h (by rw [e]; rfl)⟩
  · have h1 := H1.out.2.2.1
    have h2 := H1.out.2.2.2
    have := HM1.out
    simp [h1]
    omega
  · rw [← H1.out.2.2.1]
    exact List.take_left
end Go.Proofs.YtmkcbkdbdcnoiaaGreatDoor
