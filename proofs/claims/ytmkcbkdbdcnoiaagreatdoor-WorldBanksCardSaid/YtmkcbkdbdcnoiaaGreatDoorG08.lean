/- slices.Clone of stacks; goods.Give, Take, Move. The methods of accounts.purse: what they do to the purse. -/
import Derived.Lib.SliceRun
import Derived.Deep.RegionHeld3
import Derived.Test.YtmkcbkdbdcnoiaaGreatDoorG04
import Derived.Test.YtmkcbkdbdcnoiaaGreatDoorG05
import Derived.Test.YtmkcbkdbdcnoiaaGreatDoorG07
namespace Go.Proofs.YtmkcbkdbdcnoiaaGreatDoor
open Go.RowKit
set_option linter.unusedVariables false
set_option linter.unusedSimpArgs false

/-- A row of stacks of the call's own is answered. -/
def OwnPost (l : List Stk) (w : World) (e : Ending) (w' : World) : Prop := ∃ u, e = .returned u ∧ w'.ownsRow w.heap.size 62 2 u l.length (stks l) ∧ Below w.heap.size w w'

set_option maxHeartbeats 1000000 in
set_option maxRecDepth 100000 in
theorem gclone_any (l : List Stk) (n : Nat) (v : Value) (w : World) (hn : l.length = n) (hv : Sees w v n 2 (stks l)) (hl : n ≤ 100000) :
    Calls Tryz.prog 154 #[v] w fun e w' => OwnPost l w e w' := by
  obtain ⟨base, cap, rfl⟩ := hv.shape
  cases base with
  | none =>
    have h0 : n = 0 := by
      obtain ⟨_, b, c, he, _, h⟩ := hv
      simp only [Value.slice.injEq, true_and] at he
      obtain ⟨rfl, rfl⟩ := he
      rcases h with h | ⟨a, ha, _⟩
      · exact h
      · cases ha
    subst h0
    have hl0 : l = [] := List.eq_nil_of_length_eq_zero hn
    subst hl0
    have he := fun w => Lib.run_eql_slice_nil (P := Tryz.prog) w 119 62 none 0 cap 0 0 Tryz.underlying119
    go_enter Tryz.func154, Tryz.ntmps154
    go_wp2
    go_ret
    exact ⟨_, rfl, ⟨rfl, .inl ⟨rfl, rfl⟩⟩, Below.refl _ _⟩
  | some ad =>
    have HV := Lib.hid (And.intro hv hn)
    clear hv hn
    have he := fun w => Lib.run_eql_slice_nil (P := Tryz.prog) w 119 62 (some ad) n cap 0 0 Tryz.underlying119
    obtain ⟨i0, hi, hi0, hi1, hi2⟩ := info_parts infoStack
    go_enter Tryz.func154, Tryz.ntmps154
    go_wp2_with (at_builtin; refine append_full rfl _ _ 119 rfl Tryz.underlying119 hi hi0 hi1 hi2 rfl (some ⟨w.heap.size, 0, none⟩) 0 n _ [] (stks l) rfl rfl ⟨by simp, _, _, rfl, Nat.le_refl _, .inl rfl⟩ (HV.out.1.alloc _) (one_stks _) (by omega) (by omega) ?_)
    intro v' w' hf
    have HF := Lib.hid hf
    clear hf
    go_wp2
    go_ret
    refine ⟨v', rfl, ?_, ((Below.refl _ w).alloc (Nat.le_refl _) _).trans (HF.out.below.mono (by simp))⟩
    obtain ⟨hv, hn⟩ := HV.out
    rcases Nat.eq_zero_or_pos n with h0 | h0
    · obtain ⟨rfl, rfl⟩ := HF.out.none h0
      subst h0
      have hl0 : l = [] := List.eq_nil_of_length_eq_zero hn
      subst hl0
      exact ⟨rfl, .inr ⟨w.heap.size, 0, #[], rfl, Nat.le_refl _, heap_alloc_new w _, Nat.le_refl _, Nat.zero_le _, rfl, rfl⟩⟩
    · have := HF.out.some h0
      rw [Nat.zero_add] at this
      rw [hn]
      exact ownsRow_base this (by simp)

theorem prs_get (o : Stk) (l : List Stk) : ∀ j (h : j + 1 < l.length), (l[j]'(by omega), l[j + 1]'h) ∈ prs o l := by
  induction l generalizing o with
  | nil => intro j h; simp at h
  | cons a l ih =>
    intro j h
    rw [prs]
    cases j with
    | zero =>
      cases l with
      | nil => simp at h
      | cons b l => simp [prs]
    | succ j => exact List.mem_cons_of_mem _ (by simpa using ih a j (by simpa using h))
theorem prs_mem (o : Stk) (l : List Stk) {s : Stk} (h : s ∈ l) : ∃ p, (p, s) ∈ prs o l := by
  induction l generalizing o with
  | nil => cases h
  | cons a l ih =>
    rcases List.mem_cons.1 h with rfl | h
    · exact ⟨o, by simp [prs]⟩
    · obtain ⟨p, hp⟩ := ih a h
      exact ⟨p, List.mem_cons_of_mem _ hp⟩
theorem okN_iff (n : Int) : okN n = true ↔ 0 < n ∧ n ≤ 1152921504606846976 := by
  simp only [okN, okA, Bool.and_eq_true, decide_eq_true_eq, Bool.not_eq_true', beq_eq_false_iff_ne]
  omega
theorem gRight_ok {l : List Stk} (h : gRight l = true) : l.length ≤ 20 ∧ (∀ s ∈ l, okN s.2 = true) ∧ OrdS l := by
  simp only [gRight, Bool.and_eq_true, decide_eq_true_eq, List.all_eq_true] at h
  have h2 : ∀ s ∈ l, okN s.2 = true := fun s hs => by
    obtain ⟨p, hp⟩ := prs_mem (0, 0) l hs
    have := h.2 _ hp
    simp only [okPr, Bool.and_eq_true] at this
    exact this.1
  refine ⟨h.1, h2, ?_⟩
  have hs : ∀ j (hj : j + 1 < l.length), (l[j]'(by omega)).1 < (l[j + 1]'hj).1 := fun j hj => by
    have := h.2 _ (prs_get (0, 0) l j hj)
    have hp := (okN_iff _).1 (h2 _ (List.getElem_mem (show j < l.length by omega)))
    simp only [okPr, Bool.and_eq_true, Bool.not_eq_true', Bool.and_eq_false_iff, Bool.not_eq_false', beq_iff_eq, decide_eq_false_iff_not] at this
    rcases this.2 with h | h
    · omega
    · omega
  intro i j hi hj hij
  induction j with
  | zero => omega
  | succ j ih =>
    rcases Nat.lt_or_ge i j with h1 | h1
    · have := ih (by omega) h1
      have := hs j hj
      omega
    · obtain rfl : i = j := by omega
      exact hs i hj

theorem gWith_length (l : List Stk) (s : Stk) : (gWith l s).length ≤ l.length + 1 := by
  have h : gAt l s.1 ≤ l.length := lbG_le _ _
  unfold gWith
  simp only [List.length_append, List.length_take, List.length_drop]
  split <;> split <;> simp <;> omega

def gGive (l : List Stk) (s : Stk) : List Stk × Int :=
  if gRight l && okN s.2 then
    if (addF (gCount l s.1) s.2).2 = 0 then
      if gCount l s.1 = 0 ∧ l.length = 20 then ([], 121) else (gWith l (s.1, (addF (gCount l s.1) s.2).1), 0)
    else ([], (addF (gCount l s.1) s.2).2)
  else ([], 120)
def gTake (l : List Stk) (s : Stk) : List Stk × Int :=
  if gRight l && okN s.2 then
    if (subF (gCount l s.1) s.2).2 = 0 then (gWith l (s.1, (subF (gCount l s.1) s.2).1), 0) else ([], 122)
  else ([], 120)

/-- A row of stacks of the call's own, and a number. -/
def OwnEPost (r : List Stk × Int) (w : World) (e : Ending) (w' : World) : Prop := ∃ u, e = .returned (.tuple #[u, .int .i64 r.2]) ∧ w'.ownsRow w.heap.size 62 2 u r.1.length (stks r.1) ∧ Below w.heap.size w w'
theorem own_nil (w : World) (B : Nat) (t : TypeId) : w.ownsRow B t 2 (.slice none 0 0) ([] : List Stk).length (stks []) := ⟨rfl, .inl ⟨rfl, rfl⟩⟩

/-- What such a function has at hand: its stack in a block of its own, the row. -/
structure GC (w : World) (v : Value) (l : List Stk) (s : Stk) (W : World) : Prop where
  box : W.heap[w.heap.size]? = some (.cells #[.int .u16 s.1, .int .i64 s.2] 62 (0, 0))
  row : Sees W v l.length 2 (stks l)
  bel : Below w.heap.size w W
  glob : Glob W
theorem GC.below {w W W' : World} {v : Value} {l : List Stk} {s : Stk} (h : GC w v l s W) (hb : Below W.heap.size W W') : GC w v l s W' := ⟨keep_b h.box hb, h.row.below hb, h.bel.trans (hb.mono h.bel.size), h.glob.below hb⟩
theorem GC.cell {w W : World} {v : Value} {l : List Stk} {s : Stk} (h : GC w v l s W) (i : Nat) : W.cell? ⟨w.heap.size, i, none⟩ = (#[.int .u16 s.1, .int .i64 s.2] : Array Value)[i]? := blk_cell h.box i
theorem GC.alloc {w W : World} {v : Value} {l : List Stk} {s : Stk} (h : GC w v l s W) (o : Obj) : GC w v l s (W.alloc o) := h.below ((Below.refl _ W).alloc (Nat.le_refl _) _)
theorem GC.drew {w W : World} {v : Value} {l : List Stk} {s : Stk} (h : GC w v l s W) : GC w v l s W.drew := h.below (Below.drew (Below.refl _ W))
theorem GC.start {w : World} {v : Value} {l : List Stk} (s : Stk) (hv : Sees w v l.length 2 (stks l)) (hG : Glob w) : GC w v l s (w.alloc (.cells #[.int .u16 s.1, .int .i64 s.2] 62)) :=
  ⟨heap_alloc_new w _, hv.alloc _, (Below.refl _ w).alloc (Nat.le_refl _) _, hG.alloc _⟩

set_option maxHeartbeats 1000000 in
set_option maxRecDepth 100000 in
theorem give_any (l : List Stk) (s : Stk) (v : Value) (w : World) (hv : Sees w v l.length 2 (stks l)) (hl : l.length ≤ 1000) (hG : Glob w) :
    Calls Tryz.prog 107 #[v, stkv s] w fun e w' => OwnEPost (gGive l s) w e w' := by
  obtain ⟨W, hW⟩ : ∃ W, w.alloc (.cells #[.int .u16 s.1, .int .i64 s.2] 62) = W := ⟨_, rfl⟩
  have HC : Hid (GC w v l s W) := Lib.hid (hW ▸ GC.start s hv hG)
  have hL : gGive l s = gGive l s := rfl
  generalize hL : gGive l s = L
  unfold gGive at hL
  obtain ⟨base, cap, rfl⟩ := hv.shape
  clear hv hG
  have hA := gright_any l l.length _ W rfl HC.out.row (by omega)
  have c0 := HC.out.cell
  unfold stkv
  rcases hr : gRight l with _ | _
  · rw [hr] at hL hA
    simp only [Bool.false_and, Bool.false_eq_true, if_false] at hL
    subst hL
    go_enter Tryz.func107, Tryz.ntmps107
    go_wp2_with fail
    refine hA.mono ?_
    rintro e W2 ⟨rfl, hb⟩
    have HC2 := Lib.hid (HC.out.below hb)
    clear hb
    go_wp2
    go_ret2
    exact ⟨_, rfl, own_nil _ _ _, HC2.out.bel⟩
  · rw [hr] at hL hA
    have hord := (gRight_ok hr).2.2
    have hN := fun W : World => gare_any [s.2] 1 (.slice (some ⟨W.heap.size, 0, none⟩) 1 1) (W.alloc (.cells #[.int .i64 s.2] 2)) rfl (Sees.of_blk (heap_alloc_new W _) (by simp)) (by omega)
    simp only [List.all_cons, List.all_nil, Bool.and_true, Bool.true_and] at hN hL
    rcases ho : okN s.2 with _ | _
    · rw [ho] at hL
      simp only [ho] at hN
      simp only [Bool.false_eq_true, if_false] at hL
      subst hL
      go_enter Tryz.func107, Tryz.ntmps107
      go_wp2_with fail
      refine hA.mono ?_
      rintro e W2 ⟨rfl, hb⟩
      have HC2 := Lib.hid (HC.out.below hb)
      have c2 := HC2.out.cell
      clear hb c0
      go_wp2_with fail
      refine (hN _).mono ?_
      rintro e W3 ⟨rfl, rfl⟩
      have HC3 := Lib.hid (HC2.out.alloc (.cells #[.int .i64 s.2] 2))
      go_wp2
      go_ret2
      exact ⟨_, rfl, own_nil _ _ _, HC3.out.bel⟩
    · rw [ho] at hL
      simp only [ho] at hN
      rw [if_pos rfl] at hL
      have hCt := fun W h => gcount_any l l.length (.slice base l.length cap) s.1 W rfl h (by omega)
      have hAd := fun W h => add_any (gCount l s.1) s.2 W h
      obtain ⟨m, hm⟩ : ∃ m, gCount l s.1 = m := ⟨_, rfl⟩
      obtain ⟨x, hx⟩ : ∃ x, addF m s.2 = x := ⟨_, rfl⟩
      obtain ⟨x, xe⟩ := x
      simp only [hm, hx] at hCt hAd hL
      have hW := fun W h => with_any l (s.1, x) l.length (.slice base l.length cap) W rfl h (by omega) hord
      have hCl := fun u W h => gclone_any (gWith l (s.1, x)) (gWith l (s.1, x)).length u W rfl h (by have := gWith_length l (s.1, x); omega)
      have HK := Lib.hid (And.intro hCt (And.intro hAd (And.intro hW hCl)))
      clear hCt hAd hW hCl hord hm hx
      unfold stkv at HK
      have HL := Lib.hid hL
      clear hL
      go_enter Tryz.func107, Tryz.ntmps107
      go_wp2_with fail
      refine hA.mono ?_
      rintro e W2 ⟨rfl, hb⟩
      have HC2 := Lib.hid (HC.out.below hb)
      have c2 := HC2.out.cell
      clear hb c0
      go_wp2_with fail
      refine (hN _).mono ?_
      rintro e W3 ⟨rfl, rfl⟩
      have HC3 := Lib.hid (HC2.out.alloc (.cells #[.int .i64 s.2] 2))
      obtain ⟨W3, hW3⟩ : ∃ W3, W2.alloc (.cells #[.int .i64 s.2] 2) = W3 := ⟨_, rfl⟩
      rw [hW3] at HC3 ⊢
      clear hW3 c2
      have c2 := HC3.out.cell
      go_wp2_with fail
      refine (HK.out.1 _ HC3.out.row).mono ?_
      rintro e W4 ⟨rfl, hb⟩
      have HC4 := Lib.hid (HC3.out.below hb)
      clear hb c2
      have c2 := HC4.out.cell
      go_wp2_with fail
      refine (HK.out.2.1 _ HC4.out.glob).mono ?_
      rintro e W5 ⟨rfl, hb⟩
      have HC5 := Lib.hid (HC4.out.below hb)
      clear hb c2
      have c2 := HC5.out.cell
      by_cases h0 : xe = 0
      · subst h0
        have hE := HL.out
        rw [if_pos rfl] at hE
        by_cases h3 : m = 0 ∧ l.length = 20
        · have h1 : (m == 0) = true := by simpa using h3.1
          have h2 : ((l.length : Int) == 20) = true := by have := h3.2; simp; omega
          rw [if_pos h3] at hE
          clear h3
          have HE := Lib.hid hE
          clear hE
          go_wp2
          go_ret2
          have hE := HE.out
          subst hE
          exact ⟨_, rfl, own_nil _ _ _, HC5.out.bel⟩
        · rw [if_neg h3] at hE
          have HE := Lib.hid hE
          clear hE
          have hcase : (m == 0) = false ∨ ((m == 0) = true ∧ ((l.length : Int) == 20) = false) := by
            rcases Decidable.not_and_iff_not_or_not.1 h3 with h | h
            · exact .inl (by simpa using h)
            · by_cases hm0 : m = 0
              · exact .inr ⟨by simpa using hm0, by simp; omega⟩
              · exact .inl (by simpa using hm0)
          clear h3
          rcases hcase with h1 | ⟨h1, h2⟩
          all_goals
            go_wp2_with fail
            refine (HK.out.2.2.1 _ HC5.out.row).mono ?_
            rintro e W6 ⟨u, rfl, hu, hb⟩
            have HU := Lib.hid hu
            have HC6 := Lib.hid (HC5.out.below hb)
            clear hb c2 hu
            go_wp2_with fail
            refine (HK.out.2.2.2 u _ HU.out).mono ?_
            rintro e W7 ⟨u2, rfl, hu, hb⟩
            have HU2 := Lib.hid (And.intro hu hb)
            clear hb hu
            go_wp2
            go_ret2
            have hE := HE.out
            subst hE
            refine ⟨_, rfl, ownsRow_base HU2.out.1 HC6.out.bel.size, HC6.out.bel.trans (HU2.out.2.mono HC6.out.bel.size)⟩
      · have h0' : (xe != 0) = true := by simpa using h0
        go_wp2
        go_ret2
        have hE := HL.out
        rw [if_neg h0] at hE
        subst hE
        exact ⟨_, rfl, own_nil _ _ _, HC5.out.bel⟩

set_option maxHeartbeats 1000000 in
set_option maxRecDepth 100000 in
theorem take_any (l : List Stk) (s : Stk) (v : Value) (w : World) (hv : Sees w v l.length 2 (stks l)) (hl : l.length ≤ 1000) (hG : Glob w) :
    Calls Tryz.prog 110 #[v, stkv s] w fun e w' => OwnEPost (gTake l s) w e w' := by
  obtain ⟨W, hW⟩ : ∃ W, w.alloc (.cells #[.int .u16 s.1, .int .i64 s.2] 62) = W := ⟨_, rfl⟩
  have HC : Hid (GC w v l s W) := Lib.hid (hW ▸ GC.start s hv hG)
  generalize hL : gTake l s = L
  unfold gTake at hL
  obtain ⟨base, cap, rfl⟩ := hv.shape
  clear hv hG
  have hA := gright_any l l.length _ W rfl HC.out.row (by omega)
  have c0 := HC.out.cell
  unfold stkv
  rcases hr : gRight l with _ | _
  · rw [hr] at hL hA
    simp only [Bool.false_and, Bool.false_eq_true, if_false] at hL
    subst hL
    go_enter Tryz.func110, Tryz.ntmps110
    go_wp2_with fail
    refine hA.mono ?_
    rintro e W2 ⟨rfl, hb⟩
    have HC2 := Lib.hid (HC.out.below hb)
    clear hb
    go_wp2
    go_ret2
    exact ⟨_, rfl, own_nil _ _ _, HC2.out.bel⟩
  · rw [hr] at hL hA
    have hord := (gRight_ok hr).2.2
    have hN := fun W : World => gare_any [s.2] 1 (.slice (some ⟨W.heap.size, 0, none⟩) 1 1) (W.alloc (.cells #[.int .i64 s.2] 2)) rfl (Sees.of_blk (heap_alloc_new W _) (by simp)) (by omega)
    simp only [List.all_cons, List.all_nil, Bool.and_true, Bool.true_and] at hN hL
    rcases ho : okN s.2 with _ | _
    · rw [ho] at hL
      simp only [ho] at hN
      simp only [Bool.false_eq_true, if_false] at hL
      subst hL
      go_enter Tryz.func110, Tryz.ntmps110
      go_wp2_with fail
      refine hA.mono ?_
      rintro e W2 ⟨rfl, hb⟩
      have HC2 := Lib.hid (HC.out.below hb)
      have c2 := HC2.out.cell
      clear hb c0
      go_wp2_with fail
      refine (hN _).mono ?_
      rintro e W3 ⟨rfl, rfl⟩
      have HC3 := Lib.hid (HC2.out.alloc (.cells #[.int .i64 s.2] 2))
      go_wp2
      go_ret2
      exact ⟨_, rfl, own_nil _ _ _, HC3.out.bel⟩
    · rw [ho] at hL
      simp only [ho] at hN
      rw [if_pos rfl] at hL
      have hCt := fun W h => gcount_any l l.length (.slice base l.length cap) s.1 W rfl h (by omega)
      have hAd := fun W h => sub_any (gCount l s.1) s.2 W h
      obtain ⟨m, hm⟩ : ∃ m, gCount l s.1 = m := ⟨_, rfl⟩
      obtain ⟨x, hx⟩ : ∃ x, subF m s.2 = x := ⟨_, rfl⟩
      obtain ⟨x, xe⟩ := x
      simp only [hm, hx] at hCt hAd hL
      have hW := fun W h => with_any l (s.1, x) l.length (.slice base l.length cap) W rfl h (by omega) hord
      have hCl := fun u W h => gclone_any (gWith l (s.1, x)) (gWith l (s.1, x)).length u W rfl h (by have := gWith_length l (s.1, x); omega)
      have HK := Lib.hid (And.intro hCt (And.intro hAd (And.intro hW hCl)))
      clear hCt hAd hW hCl hord hm hx
      unfold stkv at HK
      have HL := Lib.hid hL
      clear hL
      go_enter Tryz.func110, Tryz.ntmps110
      go_wp2_with fail
      refine hA.mono ?_
      rintro e W2 ⟨rfl, hb⟩
      have HC2 := Lib.hid (HC.out.below hb)
      have c2 := HC2.out.cell
      clear hb c0
      go_wp2_with fail
      refine (hN _).mono ?_
      rintro e W3 ⟨rfl, rfl⟩
      have HC3 := Lib.hid (HC2.out.alloc (.cells #[.int .i64 s.2] 2))
      obtain ⟨W3, hW3⟩ : ∃ W3, W2.alloc (.cells #[.int .i64 s.2] 2) = W3 := ⟨_, rfl⟩
      rw [hW3] at HC3 ⊢
      clear hW3 c2
      have c2 := HC3.out.cell
      go_wp2_with fail
      go_region_held3 (fun W' => W'.cell? ⟨w.heap.size, 0, none⟩ = some (.int .u16 s.1) ∧ W'.cell? ⟨w.heap.size, 1, none⟩ = some (.int .i64 s.2)) (first | exact ⟨HC5.out.cell 0, HC5.out.cell 1⟩ | exact ⟨HC4.out.cell 0, HC4.out.cell 1⟩ | exact ⟨HC3.out.cell 0, HC3.out.cell 1⟩)
        (first | (go_at_call 126; refine (HK.out.1 _ (by exact HC3.out.drew.row)).mono ?_; rintro e W4 ⟨rfl, hb⟩; have HC4 := Lib.hid (HC3.out.drew.below hb); clear hb) | (go_at_call 157; refine (HK.out.2.1 _ (by exact HC4.out.glob)).mono ?_; rintro e W5 ⟨rfl, hb⟩; have HC5 := Lib.hid (HC4.out.below hb); clear hb))
      clear c2
      have c2 := HC5.out.cell
      have hE := HL.out
      by_cases h0 : xe = 0
      · subst h0
        rw [if_pos rfl] at hE
        have HE := Lib.hid hE
        clear hE
        go_wp2_with fail
        refine (HK.out.2.2.1 _ HC5.out.row).mono ?_
        rintro e W6 ⟨u, rfl, hu, hb⟩
        have HU := Lib.hid hu
        have HC6 := Lib.hid (HC5.out.below hb)
        clear hb c2 hu
        go_wp2_with fail
        refine (HK.out.2.2.2 u _ HU.out).mono ?_
        rintro e W7 ⟨u2, rfl, hu, hb⟩
        have HU2 := Lib.hid (And.intro hu hb)
        clear hb hu
        go_wp2
        go_ret2
        have hE := HE.out
        subst hE
        refine ⟨_, rfl, ownsRow_base HU2.out.1 HC6.out.bel.size, HC6.out.bel.trans (HU2.out.2.mono HC6.out.bel.size)⟩
      · have h0' : (xe != 0) = true := by simpa using h0
        rw [if_neg h0] at hE
        have HE := Lib.hid hE
        clear hE
        go_wp2
        go_ret2
        have hE := HE.out
        subst hE
        exact ⟨_, rfl, own_nil _ _ _, HC5.out.bel⟩

def gMove (a b : List Stk) (s : Stk) : List Stk × List Stk × Int :=
  if (gTake a s).2 = 0 then if (gGive b s).2 = 0 then ((gTake a s).1, (gGive b s).1, 0) else ([], [], (gGive b s).2) else ([], [], (gTake a s).2)
/-- Two rows of stacks of the call's own, and a number. -/
def OwnE2Post (r : List Stk × List Stk × Int) (w : World) (e : Ending) (w' : World) : Prop :=
  ∃ u v, e = .returned (.tuple #[u, v, .int .i64 r.2.2]) ∧ w'.ownsRow w.heap.size 62 2 u r.1.length (stks r.1) ∧ w'.ownsRow w.heap.size 62 2 v r.2.1.length (stks r.2.1) ∧ Below w.heap.size w w'

set_option maxHeartbeats 1000000 in
set_option maxRecDepth 100000 in
theorem gmove_any (a b : List Stk) (s : Stk) (va vb : Value) (w : World) (hva : Sees w va a.length 2 (stks a)) (hvb : Sees w vb b.length 2 (stks b)) (hla : a.length ≤ 1000) (hlb : b.length ≤ 1000) (hG : Glob w) :
    Calls Tryz.prog 115 #[va, vb, stkv s] w fun e w' => OwnE2Post (gMove a b s) w e w' := by
  obtain ⟨W, hW⟩ : ∃ W, w.alloc (.cells #[.int .u16 s.1, .int .i64 s.2] 62) = W := ⟨_, rfl⟩
  have HC : Hid (GC w va a s W) := Lib.hid (hW ▸ GC.start s hva hG)
  have HD : Hid (GC w vb b s W) := Lib.hid (hW ▸ GC.start s hvb hG)
  generalize hL : gMove a b s = L
  unfold gMove at hL
  obtain ⟨base, cap, rfl⟩ := hva.shape
  obtain ⟨base2, cap2, rfl⟩ := hvb.shape
  clear hva hvb hG
  have c0 := HC.out.cell
  have hT := fun W h h' => take_any a s (.slice base a.length cap) W h hla h'
  have hV := fun W h h' => give_any b s (.slice base2 b.length cap2) W h hlb h'
  generalize gTake a s = X at hL hT
  generalize gGive b s = Y at hL hV
  obtain ⟨x, xe⟩ := X
  obtain ⟨y, ye⟩ := Y
  unfold stkv at *
  have HK := Lib.hid (And.intro hT hV)
  have HL := Lib.hid hL
  clear hT hV hL
  go_enter Tryz.func115, Tryz.ntmps115
  go_wp2_with fail
  refine (HK.out.1 _ HC.out.row HC.out.glob).mono ?_
  rintro e W2 ⟨u, rfl, hu, hb⟩
  have HC2 := Lib.hid (And.intro (HC.out.below hb) (And.intro (HD.out.below hb) hu))
  clear hb c0 hu
  have c0 := HC2.out.1.cell
  have hE := HL.out
  by_cases h0 : xe = 0
  · subst h0
    rw [if_pos rfl] at hE
    have HE := Lib.hid hE
    clear hE
    go_wp2_with fail
    refine (HK.out.2 _ HC2.out.2.1.row HC2.out.2.1.glob).mono ?_
    rintro e W3 ⟨u2, rfl, hu, hb⟩
    have HC3 := Lib.hid (And.intro (HC2.out.1.below hb) (And.intro (own_below HC2.out.2.2 hb) hu))
    clear hb c0 hu
    have c0 := HC3.out.1.cell
    have hE := HE.out
    by_cases h0 : ye = 0
    · subst h0
      rw [if_pos rfl] at hE
      have HE := Lib.hid hE
      clear hE
      go_wp2
      refine bodyPost_ret (results_tmp3 rfl _ _ _) rfl ?_
      have hE := HE.out
      subst hE
      exact ⟨_, _, rfl, ownsRow_base HC3.out.2.1 HC.out.bel.size, ownsRow_base HC3.out.2.2 HC2.out.1.bel.size, HC3.out.1.bel⟩
    · have h0' : (ye != 0) = true := by simpa using h0
      rw [if_neg h0] at hE
      have HE := Lib.hid hE
      clear hE
      go_wp2
      refine bodyPost_ret (results_tmp3 rfl _ _ _) rfl ?_
      have hE := HE.out
      subst hE
      exact ⟨_, _, rfl, own_nil _ _ _, own_nil _ _ _, HC3.out.1.bel⟩
  · have h0' : (xe != 0) = true := by simpa using h0
    rw [if_neg h0] at hE
    have HE := Lib.hid hE
    clear hE
    go_wp2
    refine bodyPost_ret (results_tmp3 rfl _ _ _) rfl ?_
    have hE := HE.out
    subst hE
    exact ⟨_, _, rfl, own_nil _ _ _, own_nil _ _ _, HC2.out.1.bel⟩
end Go.Proofs.YtmkcbkdbdcnoiaaGreatDoor
namespace Go.Proofs.YtmkcbkdbdcnoiaaGreatDoor
open Go.RowKit
set_option linter.unusedVariables false
set_option linter.unusedSimpArgs false

/-- A purse in memory. -/
def Pur (w : World) (b : Nat) (a : Acc) : Prop := w.heap[b]? = some (.cells #[.int .i64 a.1, .int .i64 a.2] 176 (0, 0))
theorem Pur.set0 {w : World} {b : Nat} {a : Acc} (h : Pur w b a) (x : Int) : Pur (w.setCell ⟨b, 0, none⟩ (.int .i64 x)) b (x, a.2) := by have := blk_set h 0 (.int .i64 x); simpa [Pur] using this
theorem Pur.set1 {w : World} {b : Nat} {a : Acc} (h : Pur w b a) (x : Int) : Pur (w.setCell ⟨b, 1, none⟩ (.int .i64 x)) b (a.1, x) := by have := blk_set h 1 (.int .i64 x); simpa [Pur] using this
theorem Pur.below {w w' : World} {b : Nat} {a : Acc} (h : Pur w b a) (hb : Below w.heap.size w w') : Pur w' b a := keep_b h hb
theorem Pur.cells {w : World} {b : Nat} {a : Acc} (h : Pur w b a) : w.cell? ⟨b, 0, none⟩ = some (.int .i64 a.1) ∧ w.cell? ⟨b, 1, none⟩ = some (.int .i64 a.2) := cells2 h
theorem Pur.step {w W W' : World} {b : Nat} {a : Acc} (h : Pur W b a ∧ Same (fun k => k ≠ b) w W) (hb : Below W.heap.size W W') : Pur W' b a ∧ Same (fun k => k ≠ b) w W' := ⟨h.1.below hb, h.2.then_below hb (fun i hi _ => Nat.lt_of_lt_of_le hi h.2.size)⟩
theorem Pur.frozen {w : World} {b : Nat} {a : Acc} (h : Pur w b a) (i : Nat) : w.frozen? ⟨b, i, none⟩ = false := blk_frozen h i
theorem Pur.lt {w : World} {b : Nat} {a : Acc} (h : Pur w b a) : b < w.heap.size := (Array.getElem?_eq_some_iff.1 h).1

def spendsF (a : Acc) (n : Int) : Acc × Int := (((subF a.1 n).1, a.2), (subF a.1 n).2)
def earnsF (a : Acc) (n : Int) : Acc × Int := (((addF a.1 n).1, a.2), if (addF a.1 n).2 = 0 then (addF (addF a.1 n).1 a.2).2 else (addF a.1 n).2)
def depositsF (a : Acc) (n : Int) : Acc × Int := (((moveF a.1 a.2 n).1, (moveF a.1 a.2 n).2.1), (moveF a.1 a.2 n).2.2)
def withdrawsF (a : Acc) (n : Int) : Acc × Int := (((moveF a.2 a.1 n).2.1, (moveF a.2 a.1 n).1), (moveF a.2 a.1 n).2.2)

/-- What a method of purses does. -/
def DoesOk (k : Nat) (F : Acc → Int → Acc × Int) : Prop := ∀ (a : Acc) (n : Int) (b : Nat) (w : World), Pur w b a → (∀ W, Same (fun k => k ≠ b) w W → Glob W) →
  Calls Tryz.prog k #[.pointer (some ⟨b, 0, none⟩), .int .i64 n] w fun e w' => e = .returned (.int .i64 (F a n).2) ∧ Pur w' b (F a n).1 ∧ Same (fun k => k ≠ b) w w'

set_option maxHeartbeats 400000 in
set_option maxRecDepth 100000 in
theorem spends_ok : DoesOk 151 spendsF := by
  intro a n b w hp hG
  obtain ⟨c0, c1⟩ := cells2 hp
  have hS := sub_any a.1 n w (hG w (Same.refl _ _))
  go_enter Tryz.func151, Tryz.ntmps151
  go_wp2_with fail
  refine hS.mono ?_
  rintro e W ⟨rfl, hb⟩
  have h2 := hp.below hb
  obtain ⟨d0, d1⟩ := cells2 h2
  have ff : ∀ i, W.frozen? ⟨b, i, none⟩ = false := blk_frozen h2
  have HB := Lib.hid (And.intro (Same.of_below (S := fun k => k ≠ b) hb (fun k hk _ => hk)) h2)
  clear hb h2 hp hG hS c0 c1
  go_wp2
  go_ret
  exact ⟨rfl, HB.out.2.set0 _, HB.out.1.setCell (p := ⟨b, 0, none⟩) (fun _ h => h rfl) _⟩

set_option maxHeartbeats 1000000 in
set_option maxRecDepth 100000 in
theorem earns_ok : DoesOk 149 earnsF := by
  intro a n b w hp hG
  obtain ⟨c0, c1⟩ := cells2 hp
  have hS := add_any a.1 n w (hG w (Same.refl _ _))
  obtain ⟨x, hx⟩ : ∃ x, addF a.1 n = x := ⟨_, rfl⟩
  obtain ⟨x1, x2⟩ := x
  rw [hx] at hS
  simp only [earnsF, hx]
  clear hx
  by_cases h0 : x2 = 0
  · subst h0
    obtain ⟨y, hy⟩ : ∃ y, addF x1 a.2 = y := ⟨_, rfl⟩
    have hA := fun W h => add_any x1 a.2 W h
    simp only [hy] at hA
    simp only [hy, if_pos]
    clear hy
    go_enter Tryz.func149, Tryz.ntmps149
    go_wp2_with fail
    refine hS.mono ?_
    rintro e W ⟨rfl, hb⟩
    have h2 := hp.below hb
    obtain ⟨d0, d1⟩ := cells2 h2
    have ff : ∀ i, W.frozen? ⟨b, i, none⟩ = false := blk_frozen h2
    have HB := Lib.hid (And.intro (Same.of_below (S := fun k => k ≠ b) hb (fun k hk _ => hk)) h2)
    have HG := Lib.hid hG
    have HA := Lib.hid hA
    clear hb h2 hp hG hS c0 c1 hA
    go_wp2_with fail
    obtain ⟨W2, hW2⟩ : ∃ W2, W.setCell ⟨b, 0, none⟩ (.int .i64 x1) = W2 := ⟨_, rfl⟩
    have HB2 : Hid (Pur W2.drew b (x1, a.2) ∧ Same (fun k => k ≠ b) w W2.drew) := by rw [← hW2]; exact Lib.hid ⟨HB.out.2.set0 x1, Same.drew (HB.out.1.setCell (p := ⟨b, 0, none⟩) (fun _ h => h rfl) _)⟩
    rw [hW2]
    clear hW2 HB d0 d1 ff
    have HB := HB2
    clear HB2
    go_region_held3 (fun W => W.cell? ⟨b, 0, none⟩ = some (.int .i64 x1) ∧ W.cell? ⟨b, 1, none⟩ = some (.int .i64 a.2)) (exact HB.out.1.cells)
      (first | (go_at_call 98; with_reducible refine (HA.out _ (HG.out _ HB.out.2)).mono ?_; rintro e w' ⟨rfl, hb⟩; have HB' := Lib.hid (Pur.step HB.out hb); clear HB hb; have HB := HB'; clear HB'))
    all_goals (
      go_wp2
      go_ret
      exact ⟨rfl, HB.out⟩)
  · have h0' : (x2 != 0) = true := by simpa using h0
    simp only [if_neg h0]
    go_enter Tryz.func149, Tryz.ntmps149
    go_wp2_with fail
    refine hS.mono ?_
    rintro e W ⟨rfl, hb⟩
    have h2 := hp.below hb
    obtain ⟨d0, d1⟩ := cells2 h2
    have ff : ∀ i, W.frozen? ⟨b, i, none⟩ = false := blk_frozen h2
    have HB := Lib.hid (And.intro (Same.of_below (S := fun k => k ≠ b) hb (fun k hk _ => hk)) h2)
    clear hb h2 hp hG hS c0 c1
    go_wp2
    go_ret
    exact ⟨rfl, HB.out.2.set0 _, HB.out.1.setCell (p := ⟨b, 0, none⟩) (fun _ h => h rfl) _⟩

set_option maxHeartbeats 1000000 in
set_option maxRecDepth 100000 in
theorem deposits_ok : DoesOk 158 depositsF := by
  intro a n b w hp hG
  obtain ⟨x, hx⟩ : ∃ x, moveF a.1 a.2 n = x := ⟨_, rfl⟩
  obtain ⟨x1, x2, x3⟩ := x
  have hA := fun W h => move_any a.1 a.2 n W h
  simp only [hx] at hA
  simp only [depositsF, hx]
  clear hx
  have HB : Hid (Pur w.drew b a ∧ Same (fun k => k ≠ b) w w.drew) := Lib.hid ⟨hp, Same.drew (Same.refl _ _)⟩
  have HG := Lib.hid hG
  have HA := Lib.hid hA
  clear hG hp hA
  go_enter Tryz.func158, Tryz.ntmps158
  go_wp2_with fail
  obtain ⟨d0, d1⟩ := HB.out.1.cells
  go_region_with ((first | (go_at_call 192; go_loud (with_reducible refine (HA.out _ (HG.out _ HB.out.2)).mono ?_; rintro e w' ⟨rfl, hb⟩; have HB' := Lib.hid (Pur.step HB.out hb); clear HB hb d0 d1; have HB := HB'; clear HB'; obtain ⟨d0, d1⟩ := HB.out.1.cells; have ff := HB.out.1.frozen)))
    )
  all_goals
    have HE := Lib.hid (And.intro ((HB.out.1.set0 x1).set1 x2) (((HB.out.2.setCell (p := ⟨b, 0, none⟩) (fun _ h => h rfl) (.int .i64 x1))).setCell (p := ⟨b, 1, none⟩) (fun _ h => h rfl) (.int .i64 x2)))
    have HE2 := Lib.hid (And.intro ((HB.out.1.set1 x2).set0 x1) (((HB.out.2.setCell (p := ⟨b, 1, none⟩) (fun _ h => h rfl) (.int .i64 x2))).setCell (p := ⟨b, 0, none⟩) (fun _ h => h rfl) (.int .i64 x1)))
    clear HB d0 d1 ff
    go_wp2
    go_ret
    first | exact ⟨rfl, HE.out⟩ | exact ⟨rfl, HE2.out⟩

set_option maxHeartbeats 1000000 in
set_option maxRecDepth 100000 in
theorem withdraws_ok : DoesOk 159 withdrawsF := by
  intro a n b w hp hG
  obtain ⟨x, hx⟩ : ∃ x, moveF a.2 a.1 n = x := ⟨_, rfl⟩
  obtain ⟨x1, x2, x3⟩ := x
  have hA := fun W h => move_any a.2 a.1 n W h
  simp only [hx] at hA
  simp only [withdrawsF, hx]
  clear hx
  have HB : Hid (Pur w.drew b a ∧ Same (fun k => k ≠ b) w w.drew) := Lib.hid ⟨hp, Same.drew (Same.refl _ _)⟩
  have HG := Lib.hid hG
  have HA := Lib.hid hA
  clear hG hp hA
  go_enter Tryz.func159, Tryz.ntmps159
  go_wp2_with fail
  obtain ⟨d0, d1⟩ := HB.out.1.cells
  go_region_with ((first | (go_at_call 192; go_loud (with_reducible refine (HA.out _ (HG.out _ HB.out.2)).mono ?_; rintro e w' ⟨rfl, hb⟩; have HB' := Lib.hid (Pur.step HB.out hb); clear HB hb d0 d1; have HB := HB'; clear HB'; obtain ⟨d0, d1⟩ := HB.out.1.cells; have ff := HB.out.1.frozen)))
    )
  all_goals
    have HE := Lib.hid (And.intro ((HB.out.1.set1 x1).set0 x2) (((HB.out.2.setCell (p := ⟨b, 1, none⟩) (fun _ h => h rfl) (.int .i64 x1))).setCell (p := ⟨b, 0, none⟩) (fun _ h => h rfl) (.int .i64 x2)))
    have HE2 := Lib.hid (And.intro ((HB.out.1.set0 x2).set1 x1) (((HB.out.2.setCell (p := ⟨b, 0, none⟩) (fun _ h => h rfl) (.int .i64 x2))).setCell (p := ⟨b, 1, none⟩) (fun _ h => h rfl) (.int .i64 x1)))
    clear HB d0 d1 ff
    go_wp2
    go_ret
    first | exact ⟨rfl, HE.out⟩ | exact ⟨rfl, HE2.out⟩

end Go.Proofs.YtmkcbkdbdcnoiaaGreatDoor
