/- Package world: the list's put, del, between. Package world: what work reads and writes: key, text, number, setNumber, account, setAccount. Plain: the order of keys is that of their numbers. Package world: setNumber, account, setAccount, coinsKey, thingsKey. -/
import Derived.Test.YtmkcbkdbdcnoiaaGreatDoorG02
import Derived.Test.YtmkcbkdbdcnoiaaGreatDoorG12
import Derived.Test.YtmkcbkdbdcnoiaaGreatDoorG13
namespace Go.Proofs.YtmkcbkdbdcnoiaaGreatDoor
open Go.RowKit
set_option linter.unusedVariables false
set_option linter.unusedSimpArgs false

/-- Is it a block of pairs? -/
def is44 : Obj → Bool
  | .cells _ t _ => t == 44
  | _ => false
/-- What lay there lies there as it was, but for one block and blocks of pairs. -/
structure Kept (pl : Nat) (W W' : World) : Prop where
  os : W'.os = W.os
  tape : W'.tape = W.tape
  output : W'.output = W.output
  size : W.heap.size ≤ W'.heap.size
  keep : ∀ k o, W.heap[k]? = some o → k ≠ pl → is44 o = false → W'.heap[k]? = some o
theorem Kept.refl (pl : Nat) (W : World) : Kept pl W W := ⟨rfl, rfl, rfl, Nat.le_refl _, fun _ _ h _ _ => h⟩
theorem Kept.trans {pl : Nat} {A B C : World} (h : Kept pl A B) (k : Kept pl B C) : Kept pl A C :=
  ⟨k.os.trans h.os, k.tape.trans h.tape, k.output.trans h.output, Nat.le_trans h.size k.size, fun j o h1 h2 h3 => k.keep j o (h.keep j o h1 h2 h3) h2 h3⟩
theorem Kept.of_below {pl : Nat} {A B : World} (h : Below A.heap.size A B) : Kept pl A B := ⟨h.os, h.tape, h.output, h.size, fun _ _ h1 _ _ => keep_b h1 h⟩
theorem Kept.of_same {pl : Nat} {A B : World} {S : Nat → Prop} (h : Same S A B) (hs : ∀ k o, A.heap[k]? = some o → k ≠ pl → is44 o = false → S k) : Kept pl A B :=
  ⟨h.os, h.tape, h.output, h.size, fun k o h1 h2 h3 => h.at_ h1 (hs k o h1 h2 h3)⟩
/-- What a change of the list leaves. -/
def LP (B pl : Nat) (l : List Par) (w w' : World) : Prop := Lst B pl l w' ∧ Kept pl w w' ∧ Below B w w'
theorem LP.trans {B pl : Nat} {l : List Par} {a b c : World} (h : Kept pl a b) (hb : Below B a b) (k : LP B pl l b c) : LP B pl l a c := ⟨k.1, h.trans k.2.1, hb.trans k.2.2⟩
theorem own44 {W : World} {B n k : Nat} {v : Value} {xs : List Value} {o : Obj} (h : W.ownsRow B 44 2 v n xs) (hk : W.heap[k]? = some o) (ho : is44 o = false) : v.ownBlock ≠ some k := by
  intro e
  rcases h.2 with ⟨rfl, _⟩ | ⟨g, cap, cur, rfl, _, hg, _⟩
  · simp [Value.ownBlock] at e
  · simp [Value.ownBlock] at e
    subst e
    rw [hg] at hk
    cases hk
    simp [is44] at ho
theorem own_one {W : World} {B : Nat} {t t' : TypeId} {v : Value} {n : Nat} {xs : List Value} {g : Nat} {cs : Array Value} (h : W.ownsRow B t 2 v n xs) (hg : W.heap[g]? = some (.cells cs t' (0, 0))) (hne : t ≠ t') (j : Nat) (x : Value) :
    (W.setCell ⟨g, j, none⟩ x).ownsRow B t 2 v n xs := by
  refine ⟨h.1, h.2.imp id ?_⟩
  rintro ⟨g', cap, cur, hv, hb, hh, r⟩
  have hgg : g' ≠ g := by
    rintro rfl
    rw [hg] at hh
    cases hh
    exact hne rfl
  exact ⟨g', cap, cur, hv, hb, by rw [Below.heap_setCell _ _ _ _ hgg]; exact hh, r⟩
theorem prows_set (l : List Par) (i : Nat) (p : Par) (h : i < l.length) : prows (l.set i p) = ((prows l).set (i * 2) (.string ⟨p.1.toArray⟩)).set (i * 2 + 1) (.string ⟨p.2.toArray⟩) := by
  induction l generalizing i with
  | nil => simp at h
  | cons q l ih =>
    cases i with
    | zero => rfl
    | succ i =>
      have := ih i (by simpa using h)
      simp only [prows, List.set_cons_succ, cat2_cons] at this ⊢
      rw [this, show (i + 1) * 2 = i * 2 + 1 + 1 by omega]
      rfl

set_option maxHeartbeats 2000000 in
set_option maxRecDepth 100000 in
theorem lput_any (B pl b : Nat) (l : List Par) (p : Par) (w : World) (hL : Lst B pl l w) (hl : l.length < 100000) (hs : Srt l) (hB : B ≤ pl) (hb : w.heap[b]? = some (.cells #[.string ⟨p.1.toArray⟩, .string ⟨p.2.toArray⟩] 44 (0, 0))) (hbl : ∀ v n xs, w.heap[pl]? = some (.cells #[v] 48 (0, 0)) → w.ownsRow B 44 2 v n xs → v.ownBlock ≠ some b) :
    Calls Tryz.prog 228 #[.pointer (some ⟨pl, 0, none⟩), .slice (some ⟨b, 0, none⟩) 1 1] w fun e w' => e = .returned (.tuple #[]) ∧ LP B pl (put l p.1 p.2) w w' := by
  obtain ⟨v, hv1, hv2⟩ := hL
  have hbl := hbl v _ _ hv1 hv2
  have hpl : pl < w.heap.size := (Array.getElem?_eq_some_iff.1 hv1).1
  have hbb : b < w.heap.size := (Array.getElem?_eq_some_iff.1 hb).1
  obtain ⟨bx, hbx⟩ : ∃ bx, w.heap.size = bx := ⟨_, rfl⟩
  obtain ⟨w1, hw1⟩ : ∃ w1, w.alloc (.cells #[.string ⟨p.1.toArray⟩, .string ⟨p.2.toArray⟩] 44) = w1 := ⟨_, rfl⟩
  have hb1 : Below w.heap.size w w1 := by rw [← hw1]; exact (Below.refl _ w).alloc (Nat.le_refl _) _
  have h2 : w1.heap[bx]? = some (.cells #[.string ⟨p.1.toArray⟩, .string ⟨p.2.toArray⟩] 44 (0, 0)) := by rw [← hw1, ← hbx]; exact heap_alloc_new w _
  have hA := lat_any B pl l p.1 w1 ⟨v, keep_b hv1 hb1, own_below hv2 hb1⟩ (by omega) hs
  have hf := lb_found hs p.1
  obtain ⟨i, hi⟩ : ∃ i, lb l p.1 = i := ⟨_, rfl⟩
  have hil := lb_le l p.1
  have hpf := fun h e => put_found hs (k := p.1) (v := p.2) h e
  have hpn := fun h => put_new hs (k := p.1) (v := p.2) h
  rw [hi] at hA hf hil hpf hpn
  have c0 : ∀ j, w.cell? ⟨b, j, none⟩ = (#[.string ⟨p.1.toArray⟩, .string ⟨p.2.toArray⟩] : Array Value)[j]? := blk_cell hb
  have c1 : ∀ j, w1.cell? ⟨bx, j, none⟩ = (#[.string ⟨p.1.toArray⟩, .string ⟨p.2.toArray⟩] : Array Value)[j]? := blk_cell h2
  obtain ⟨p1, p2⟩ := p
  dsimp only at *
  obtain ⟨L, hLL⟩ : ∃ L, put l p1 p2 = L := ⟨_, rfl⟩
  rw [hLL] at hpf hpn ⊢
  have HK := Lib.hid (And.intro hv1 (And.intro hv2 (And.intro hb1 (And.intro h2 (And.intro hbl (And.intro hpl hbx))))))
  unfold sv at hA
  clear hv1 hv2 hb1 h2 hbl hi hLL hs hb
  rcases hf with ⟨hlt, e1, e2⟩ | ⟨e1, e2⟩
  · have hh : has l p1 = true := by unfold has; rw [e2]; rfl
    rw [hh] at hA
    have hL := hpf hlt e1
    have HA := Lib.hid (And.intro hA hL)
    clear hA hL hpf hpn e2 hh e1
    go_enter Tryz.func228, Tryz.ntmps228
    go_wp2_with fail
    go_loopw [10] (fun i wr => (i = .int .i64 0 ∧ w = wr) ∨ (i = .int .i64 1 ∧ Hid (LP B pl L w wr))) (fun i _ => 1 - (intOf i).toNat)
    case atStart => exact .inl ⟨rfl, rfl⟩
    case round =>
      rcases hrel with ⟨rfl, rfl⟩ | ⟨rfl, HP⟩
      · go_wp2_with fail
        refine HA.out.1.mono ?_
        rintro e W2 ⟨rfl, hb⟩
        have hlen : 0 < l.length := by omega
        obtain ⟨base, cap, rfl⟩ := (Sees.of_own HK.out.2.1).shape
        obtain ⟨g, cur, rfl, k1, k2, k3, k4, k5, k6⟩ := own_blk (own_below (own_below HK.out.2.1 HK.out.2.2.1) hb) (by omega)
        have hg0 : pl ≠ g := by
          rintro rfl
          have := keep_b (keep_b HK.out.1 HK.out.2.2.1) hb
          rw [this] at k2; cases k2
        have hgx : bx ≠ g := by
          rintro rfl
          have h := HK.out.2.1
          rcases h.2 with ⟨h, _⟩ | ⟨g', cap', cur', h, _, hh, _⟩
          · cases h
          · simp only [Value.slice.injEq, Option.some.injEq, Addr.mk.injEq] at h
            have := (Array.getElem?_eq_some_iff.1 hh).1
            have := HK.out.2.2.2.2.2.2
            omega
        have d0 : W2.cell? ⟨pl, 0, none⟩ = some (.slice (some ⟨g, 0, none⟩) l.length cap) := blk_cell (keep_b (keep_b HK.out.1 HK.out.2.2.1) hb) 0
        have d1 : W2.cell? ⟨bx, 0, none⟩ = some (.string ⟨p1.toArray⟩) := blk_cell (keep_b HK.out.2.2.2.1 hb) 0
        have d2 : W2.cell? ⟨bx, 1, none⟩ = some (.string ⟨p2.toArray⟩) := blk_cell (keep_b HK.out.2.2.2.1 hb) 1
        have fg : ∀ j, W2.frozen? ⟨g, j, none⟩ = false := blk_frozen k2
        have hcur : (l.length * 2) ≤ cur.size := by omega
        have e1 : ∃ u, W2.cell? ⟨g, i * 2, none⟩ = some u := by rw [blk_cell k2]; exact ⟨_, Array.getElem?_eq_getElem (by omega)⟩
        have e2 : ∃ u, W2.cell? ⟨g, i * 2 + 1, none⟩ = some u := by rw [blk_cell k2]; exact ⟨_, Array.getElem?_eq_getElem (by omega)⟩
        obtain ⟨u1, e1⟩ := e1
        obtain ⟨u2, e2⟩ := e2
        have H2 := Lib.hid (And.intro hb (And.intro k1 (And.intro k2 (And.intro k3 (And.intro k4 (And.intro k5 k6))))))
        have hlt' : (i : Int) < (l.length : Int) := by omega
        clear hb k1 k2 k3 k4 k5 k6 c0 c1
        have hfin : LP B pl L w ((W2.setCell ⟨g, i * 2, none⟩ (.string ⟨p1.toArray⟩)).setCell ⟨g, i * 2 + 1, none⟩ (.string ⟨p2.toArray⟩)).drew := by
          obtain ⟨hb, k1, k2, k3, k4, k5, k6⟩ := H2.out
          have hbw : Below w.heap.size w W2 := HK.out.2.2.1.trans (hb.mono HK.out.2.2.1.size)
          have hs : Same (fun k => k ≠ g) W2 ((W2.setCell ⟨g, i * 2, none⟩ (.string ⟨p1.toArray⟩)).setCell ⟨g, i * 2 + 1, none⟩ (.string ⟨p2.toArray⟩)).drew := (((Same.refl _ W2).setCell (fun _ h => h rfl) _).setCell (fun _ h => h rfl) _).drew
          refine ⟨⟨_, blk_drew (hs.at_ (keep_b HK.out.1 hbw) hg0), ?_⟩, (Kept.of_below hbw).trans (Kept.of_same hs ?_), ?_⟩
          · rw [HA.out.2]
            have hset := blk_set (blk_set k2 (i * 2) (.string ⟨p1.toArray⟩)) (i * 2 + 1) (.string ⟨p2.toArray⟩)
            rw [List.length_set]
            refine own_row (n := l.length) k1 (blk_drew hset) k3 k4 (by simpa using k5) (by simp) ?_
            rw [prows_set _ _ _ hlt, ← k6]
            simp only [Array.toList_setIfInBounds]
            rw [List.take_set, List.take_set]
          · intro k o h1 h2 h3 e
            rw [e, k2] at h1
            cases h1
            simp [is44] at h3
          · exact (hbw.mono (by omega)).trans (hs.below (by have := hbw.size; omega) (fun k hk => by omega))
        have HF := Lib.hid hfin
        clear hfin
        go_wp2_with fail
        go_region
        all_goals
          go_wp2
          go_roundw
          case rel => exact .inr ⟨rfl, HF⟩
          case measure => simp [intOf]
      · go_wp2
        go_end0
        exact ⟨rfl, HP.out⟩
  · have hh : has l p1 = false := by unfold has; rw [e2]; rfl
    rw [hh] at hA
    have hL := hpn e1
    have HA := Lib.hid (And.intro hA hL)
    clear hA hL hpf hpn e2 hh e1
    go_enter Tryz.func228, Tryz.ntmps228
    go_wp2_with fail
    go_loopw [10] (fun i wr => (i = .int .i64 0 ∧ w = wr) ∨ (i = .int .i64 1 ∧ Hid (LP B pl L w wr))) (fun i _ => 1 - (intOf i).toNat)
    case atStart => exact .inl ⟨rfl, rfl⟩
    case round =>
      rcases hrel with ⟨rfl, rfl⟩ | ⟨rfl, HP⟩
      · go_wp2_with fail
        refine HA.out.1.mono ?_
        rintro e W2 ⟨rfl, hb⟩
        obtain ⟨base, cap, rfl⟩ := (Sees.of_own HK.out.2.1).shape
        have hbw : Below w.heap.size w W2 := HK.out.2.2.1.trans (hb.mono HK.out.2.2.1.size)
        have d0 : W2.cell? ⟨pl, 0, none⟩ = some (.slice base l.length cap) := blk_cell (keep_b HK.out.1 hbw) 0
        have d1 : W2.cell? ⟨bx, 0, none⟩ = some (.string ⟨p1.toArray⟩) := blk_cell (keep_b HK.out.2.2.2.1 hb) 0
        have d2 : W2.cell? ⟨bx, 1, none⟩ = some (.string ⟨p2.toArray⟩) := blk_cell (keep_b HK.out.2.2.2.1 hb) 1
        obtain ⟨bs, hbs⟩ : ∃ bs, W2.heap.size = bs := ⟨_, rfl⟩
        have hIns : ∀ V, Below W2.heap.size W2 V → V.heap[bs]? = some (.cells #[.string ⟨p1.toArray⟩, .string ⟨p2.toArray⟩] 44 (0, 0)) → Calls Tryz.prog 231 #[.slice base l.length cap, .int .i64 (i : Int), .slice (some ⟨bs, 0, none⟩) 1 1] V fun e w' => InsPost B l i (p1, p2) (.slice base l.length cap) V e w' := by
          intro V h1 h2
          refine insert_any B i l.length bs (p1, p2) l (.slice base l.length cap) V rfl hil (by omega) (by have := hbw.size; have := h1.size; omega) (own_below (own_below HK.out.2.1 hbw) h1) h2 ?_
          intro e
          rcases HK.out.2.1.2 with ⟨h, _⟩ | ⟨g', cap', cur', h, _, hh, _⟩
          · simp only [Value.slice.injEq] at h
            rw [h.1] at e; simp [Value.ownBlock] at e
          · rw [h] at e
            simp [Value.ownBlock] at e
            have := (Array.getElem?_eq_some_iff.1 hh).1
            have := hbw.size
            omega
        have hbs2 : ((W2.alloc (.cells #[.string ⟨p1.toArray⟩, .string ⟨p2.toArray⟩] 44)).drew).heap[bs]? = some (.cells #[.string ⟨p1.toArray⟩, .string ⟨p2.toArray⟩] 44 (0, 0)) := by rw [← hbs]; exact blk_drew (heap_alloc_new W2 _)
        have hplk : ∀ W3, Same (fun k => (Value.slice base l.length cap).ownBlock ≠ some k) ((W2.alloc (.cells #[.string ⟨p1.toArray⟩, .string ⟨p2.toArray⟩] 44)).drew) W3 → W3.heap[pl]? = some (.cells #[.slice base l.length cap] 48 (0, 0)) := by
          intro W3 hs
          exact hs.at_ (blk_drew (keep_a _ (keep_b HK.out.1 hbw))) (own44 HK.out.2.1 HK.out.1 rfl)
        have hbxk : ∀ W3, Same (fun k => (Value.slice base l.length cap).ownBlock ≠ some k) ((W2.alloc (.cells #[.string ⟨p1.toArray⟩, .string ⟨p2.toArray⟩] 44)).drew) W3 → W3.heap[bx]? = some (.cells #[.string ⟨p1.toArray⟩, .string ⟨p2.toArray⟩] 44 (0, 0)) := by
          intro W3 hs
          refine hs.at_ (blk_drew (keep_a _ (keep_b HK.out.2.2.2.1 hb))) ?_
          intro e
          have := HK.out.2.2.2.2.2.2
          rcases HK.out.2.1.2 with ⟨h, _⟩ | ⟨g', cap', cur', h, _, hh, _⟩
          · simp only [Value.slice.injEq] at h
            rw [h.1] at e; simp [Value.ownBlock] at e
          · rw [h] at e
            simp [Value.ownBlock] at e
            have := (Array.getElem?_eq_some_iff.1 hh).1
            omega
        have H2 := Lib.hid (And.intro hbw (And.intro hIns (And.intro hbs2 (And.intro hplk hbxk))))
        clear hb hbw hIns c0 c1 hbs2 hplk hbxk
        go_wp2_with fail
        have q0 := cell_alloc d0 (.cells #[.string ⟨p1.toArray⟩, .string ⟨p2.toArray⟩] 44)
        have q1 := cell_alloc d1 (.cells #[.string ⟨p1.toArray⟩, .string ⟨p2.toArray⟩] 44)
        have q2 := cell_alloc d2 (.cells #[.string ⟨p1.toArray⟩, .string ⟨p2.toArray⟩] 44)
        go_region_with ((go_at_call 231; (with_reducible refine (H2.out.2.1 _ (Below.drew (Below.alloc (Below.refl _ W2) (Nat.le_refl _) _)) H2.out.2.2.1).mono ?_); rintro e W3 ⟨v', rfl, hv', hs'⟩; obtain ⟨g', cap', rfl⟩ := ownsRow_succ hv'; have hp3 := H2.out.2.2.2.1 _ hs'; have hp4 := H2.out.2.2.2.2 _ hs'; have c51 : W3.cell? ⟨bx, 0, none⟩ = some (.string ⟨p1.toArray⟩) := blk_cell hp4 0; have c52 : W3.cell? ⟨bx, 1, none⟩ = some (.string ⟨p2.toArray⟩) := blk_cell hp4 1; clear hp4; have c5 : W3.cell? ⟨pl, 0, none⟩ = some (.slice base l.length cap) := blk_cell hp3 0; have f5 : ∀ j, W3.frozen? ⟨pl, j, none⟩ = false := blk_frozen hp3; have H3 := Lib.hid (And.intro hv' (And.intro hs' hp3)); clear hv' hs' hp3))
        all_goals
          have hF : LP B pl L w (W3.setCell ⟨pl, 0, none⟩ (.slice (some ⟨g', 0, none⟩) (l.length + 1) cap')) := by
            obtain ⟨h1, h2, h3⟩ := H3.out
            have hs3 : Same (fun k => k ≠ pl) W3 (W3.setCell ⟨pl, 0, none⟩ (.slice (some ⟨g', 0, none⟩) (l.length + 1) cap')) := (Same.refl _ W3).setCell (fun _ h => h rfl) _
            have hbx : Below w.heap.size w ((W2.alloc (.cells #[.string ⟨p1.toArray⟩, .string ⟨p2.toArray⟩] 44)).drew) := (H2.out.1.alloc H2.out.1.size _).drew
            refine ⟨⟨_, by have := blk_set h3 0 (.slice (some ⟨g', 0, none⟩) (l.length + 1) cap'); simpa using this, ?_⟩, ((Kept.of_below hbx).trans (Kept.of_same h2 ?_)).trans (Kept.of_same hs3 fun k o _ h _ => h), ?_⟩
            · rw [HA.out.2]
              have hll : (l.take i ++ (p1, p2) :: l.drop i).length = l.length + 1 := by simp; omega
              rw [hll]
              exact own_one h1 h3 (by decide) _ _
            · intro k o hk hk2 hk3
              rcases Nat.lt_or_ge k w.heap.size with hlt | hge
              · refine own44 HK.out.2.1 (o := o) ?_ hk3
                rw [← hbx.block k hlt]; exact hk
              · intro e
                rcases HK.out.2.1.2 with ⟨h, _⟩ | ⟨g2, cap2, cur2, h, _, hh, _⟩
                · simp only [Value.slice.injEq] at h
                  rw [h.1] at e; simp [Value.ownBlock] at e
                · rw [h] at e
                  simp [Value.ownBlock] at e
                  have := (Array.getElem?_eq_some_iff.1 hh).1
                  omega
            · have e1 : Below B w ((W2.alloc (.cells #[.string ⟨p1.toArray⟩, .string ⟨p2.toArray⟩] 44)).drew) := hbx.mono (by omega)
              refine e1.trans ((h2.below (by have := hbx.size; omega) fun k hk e => ?_).trans (hs3.below (by have := h2.size; have := hbx.size; omega) fun k hk => by omega))
              have := own_base HK.out.2.1 k e
              omega
          have HF := Lib.hid hF
          clear hF
          go_wp2
          go_roundw
          case rel => exact .inr ⟨rfl, HF⟩
          case measure => simp [intOf]
      · go_wp2
        go_end0
        exact ⟨rfl, HP.out⟩

set_option maxHeartbeats 1000000 in
set_option maxRecDepth 100000 in
theorem ldel_any (B pl : Nat) (l : List Par) (k : Str) (w : World) (hL : Lst B pl l w) (hl : l.length ≤ 100000) (hs : Srt l) (hB : B ≤ pl) :
    Calls Tryz.prog 226 #[.pointer (some ⟨pl, 0, none⟩), sv k] w fun e w' => e = .returned (.tuple #[]) ∧ LP B pl (del l k) w w' := by
  have hA := lat_any B pl l k w hL (by omega) hs
  have hf := lb_found hs k
  obtain ⟨v, hv1, hv2⟩ := hL
  obtain ⟨i, hi⟩ : ∃ i, lb l k = i := ⟨_, rfl⟩
  have hdf := fun h e => del_found hs (k := k) h e
  have hdn := fun h => del_none (l := l) (k := k) h
  rw [hi] at hA hf hdf
  unfold sv at hA ⊢
  have HK := Lib.hid (And.intro hv1 hv2)
  obtain ⟨L, hLL⟩ : ∃ L, del l k = L := ⟨_, rfl⟩
  rw [hLL] at hdf hdn ⊢
  clear hv1 hv2 hi hs hLL
  rcases hf with ⟨hlt, e1, e2⟩ | ⟨e1, e2⟩
  · have hh : has l k = true := by unfold has; rw [e2]; rfl
    rw [hh] at hA
    have hL := hdf hlt e1
    have HA := Lib.hid (And.intro hA hL)
    clear hA hL hdf hdn e2 hh e1
    go_enter Tryz.func226, Tryz.ntmps226
    go_wp2_with fail
    refine HA.out.1.mono ?_
    rintro e W2 ⟨rfl, hb⟩
    obtain ⟨base, cap, rfl⟩ := (Sees.of_own HK.out.2).shape
    have d0 : W2.cell? ⟨pl, 0, none⟩ = some (.slice base l.length cap) := blk_cell (keep_b HK.out.1 hb) 0
    have hD := ldelete_any B i (i + 1) l.length ((i : Int) + 1) (by push_cast; rfl) rfl l _ W2 rfl hlt (by omega) (own_below HK.out.2 hb)
    have s1 : IntKind.i64.wrap ((i : Int) + 1) = (i : Int) + 1 := IntWalk.i64_in _ (by omega)
    have HD := Lib.hid (And.intro hD hb)
    clear hD hb
    go_wp2_with fail
    refine HD.out.1.mono ?_
    rintro e W3 ⟨v', rfl, hv', hs'⟩
    have hp3 : W3.heap[pl]? = some (.cells #[.slice base l.length cap] 48 (0, 0)) := hs'.at_ (keep_b HK.out.1 HD.out.2) (own44 (own_below HK.out.2 HD.out.2) (keep_b HK.out.1 HD.out.2) rfl)
    have c5 : W3.cell? ⟨pl, 0, none⟩ = some (.slice base l.length cap) := blk_cell hp3 0
    have f5 : ∀ j, W3.frozen? ⟨pl, j, none⟩ = false := blk_frozen hp3
    obtain ⟨b', cap', rfl⟩ := (Sees.of_own hv').shape
    have hel : (l.eraseIdx i).length = l.length - 1 := by rw [List.length_eraseIdx, if_pos hlt]
    have hF : LP B pl L w (W3.setCell ⟨pl, 0, none⟩ (.slice b' (l.length - 1) cap')) := by
      have hs3 : Same (fun k => k ≠ pl) W3 (W3.setCell ⟨pl, 0, none⟩ (.slice b' (l.length - 1) cap')) := (Same.refl _ W3).setCell (fun _ h => h rfl) _
      refine ⟨⟨_, by have := blk_set hp3 0 (.slice b' (l.length - 1) cap'); simpa using this, ?_⟩, ((Kept.of_below HD.out.2).trans (Kept.of_same hs' fun k o hk _ hk3 => own44 (own_below HK.out.2 HD.out.2) hk hk3)).trans (Kept.of_same hs3 fun k o _ h _ => h), ?_⟩
      · rw [HA.out.2, hel]
        exact own_one hv' hp3 (by decide) _ _
      · have hpl : pl < w.heap.size := (Array.getElem?_eq_some_iff.1 HK.out.1).1
        have hsz := HD.out.2.size
        refine (HD.out.2.mono (by omega)).trans ((hs'.below (by omega) fun k hk e => ?_).trans (hs3.below (by have := hs'.size; omega) fun k hk => by omega))
        have := own_base HK.out.2 k e
        omega
    have HF := Lib.hid hF
    clear hF hv' hs' hp3 hel
    go_wp2
    go_end0
    exact ⟨rfl, HF.out⟩
  · have hh : has l k = false := by unfold has; rw [e2]; rfl
    rw [hh] at hA
    have hL := hdn e2
    have HA := Lib.hid (And.intro hA hL)
    clear hA hL hdf hdn e2 hh e1
    go_enter Tryz.func226, Tryz.ntmps226
    go_wp2_with fail
    refine HA.out.1.mono ?_
    rintro e W2 ⟨rfl, hb⟩
    have hpl : pl < w.heap.size := (Array.getElem?_eq_some_iff.1 HK.out.1).1
    have HF := Lib.hid (show LP B pl L w W2 from ⟨by rw [HA.out.2]; exact ⟨v, keep_b HK.out.1 hb, own_below HK.out.2 hb⟩, Kept.of_below hb, hb.mono (by omega)⟩)
    clear hb
    go_wp2
    go_end0
    exact ⟨rfl, HF.out⟩

set_option maxHeartbeats 1000000 in
set_option maxRecDepth 100000 in
theorem lbetween_any (B pl : Nat) (l : List Par) (x y : Str) (w : World) (hL : Lst B pl l w) (hl : l.length ≤ 100000) (hs : Srt l) (hxy : slt y x = false) :
    Calls Tryz.prog 225 #[.pointer (some ⟨pl, 0, none⟩), sv x, sv y] w fun e w' => (∃ v, e = .returned v ∧ Sees w' v (betw l x y).length 2 (prows (betw l x y)) ∧ ∃ v0, w.heap[pl]? = some (.cells #[v0] 48 (0, 0)) ∧ v.ownBlock = v0.ownBlock) ∧ Below w.heap.size w w' := by
  have hA := lat_any B pl l x w hL (by omega) hs
  have hA2 := fun W (h : Below w.heap.size w W) => lat_any B pl l y W (hL.below h) (by omega) hs
  obtain ⟨v, hv1, hv2⟩ := hL
  have hbe := betw_eq hs hxy
  have hmono := lb_mono hs hxy
  have hle := lb_le l y
  rw [← hbe]
  obtain ⟨i, hi⟩ : ∃ i, lb l x = i := ⟨_, rfl⟩
  obtain ⟨j, hj⟩ : ∃ j, lb l y = j := ⟨_, rfl⟩
  simp only [hi, hj] at hA hA2 hmono hle ⊢
  generalize has l x = hx at hA
  generalize has l y = hy at hA2
  unfold sv at hA hA2 ⊢
  obtain ⟨M, hM⟩ : ∃ M, (l.take j).drop i = M := ⟨_, rfl⟩
  rw [hM]
  have HK := Lib.hid (And.intro hv1 (And.intro hv2 (And.intro hA hA2)))
  have HM := Lib.hid hM
  clear hv1 hv2 hA hA2 hs hbe hM
  go_enter Tryz.func225, Tryz.ntmps225
  go_wp2_with fail
  refine HK.out.2.2.1.mono ?_
  rintro e W2 ⟨rfl, hb⟩
  have HB := Lib.hid hb
  clear hb
  go_wp2_with fail
  refine (HK.out.2.2.2 W2 HB.out).mono ?_
  rintro e W3 ⟨rfl, hb⟩
  have HB2 := Lib.hid (HB.out.trans (hb.mono HB.out.size))
  clear hb
  obtain ⟨base, cap, rfl⟩ := (Sees.of_own HK.out.2.1).shape
  have hv3 := own_below HK.out.2.1 HB2.out
  have hcap : l.length ≤ cap := (Sees.of_own hv3).cap_le
  have d0 : W3.cell? ⟨pl, 0, none⟩ = some (.slice base l.length cap) := blk_cell (keep_b HK.out.1 HB2.out) 0
  have h1 : (j : Int) ≤ (cap : Int) := by omega
  have h2 : (i : Int) ≤ (j : Int) := by omega
  have h3 : j ≤ cap := by omega
  have hS : Sees W3 (.slice (if j = i then base else base.map fun x => x.add (i * 2)) (j - i) (j - i)) M.length 2 (prows M) := by
    rw [← HM.out]
    have h := ((Sees.of_own hv3).front j j hle (Nat.le_refl _)).cut i hmono
    rw [prows_drop, prows_take, List.length_drop, List.length_take, Nat.min_eq_left hle]
    exact h
  have HS := Lib.hid hS
  clear hS hv3
  go_wp2
  all_goals
    go_ret
    have h9 := HS.out
  · subst h
    exact ⟨⟨.slice base 0 0, rfl, by simpa using h9, _, HK.out.1, by cases base <;> rfl⟩, HB2.out⟩
  · rw [if_neg h] at h9
    refine ⟨⟨.slice (base.map fun x => x.add (i * 2)) (j - i) (j - i), rfl, h9, _, HK.out.1, ?_⟩, HB2.out⟩
    cases base with
    | none => rfl
    | some a =>
      show some (a.add (i * 2)).block = some a.block
      unfold Addr.add
      split <;> rfl
end Go.Proofs.YtmkcbkdbdcnoiaaGreatDoor
namespace Go.Proofs.YtmkcbkdbdcnoiaaGreatDoor
open Go.RowKit
set_option linter.unusedVariables false
set_option linter.unusedSimpArgs false

/-- A command. -/
structure Cmd where
  op : Int
  a : Int
  b : Int
  item : Int
  n : Int
  m : Int
abbrev Ans := Int × Int × Int
def wc (pl : Nat) (c : Cmd) (a : Ans) : Array Value :=
  #[.iface 45 (.pointer (some ⟨pl, 0, none⟩)), .int .i64 c.op, .int .u32 c.a, .int .u32 c.b, .int .u16 c.item, .int .i64 c.n, .int .i64 c.m, .int .i64 a.1, .int .i64 a.2.1, .int .i64 a.2.2]
/-- A world at work: its list, its variable. -/
structure Wk (B pl pw : Nat) (l : List Par) (c : Cmd) (a : Ans) (W : World) : Prop where
  lst : Lst B pl l W
  box : W.heap[pw]? = some (.cells (wc pl c a) 80 (0, 0))
  ne : pl ≠ pw
  bl : B ≤ pl
  bw : B ≤ pw
  gl : ∃ W0, Glob W0 ∧ W0.heap.size ≤ B ∧ W0.heap.size ≤ W.heap.size ∧ ∀ k, k < W0.heap.size → W.heap[k]? = W0.heap[k]?
theorem Wk.glob {B pl pw : Nat} {l : List Par} {c : Cmd} {a : Ans} {W : World} (h : Wk B pl pw l c a W) : Glob W := by
  obtain ⟨W0, h1, _, h3, h4⟩ := h.gl
  have hb : Below W0.heap.size W0 { W0 with heap := W.heap } := ⟨rfl, rfl, rfl, h3, h4⟩
  obtain ⟨ao, aa, af, g⟩ := h1.below hb
  exact ⟨ao, aa, af, ⟨g.ty, g.o, g.a, g.f, g.ho, g.ha, g.hf, g.oa, g.of, g.af⟩⟩
theorem Wk.below {B pl pw : Nat} {l : List Par} {c : Cmd} {a : Ans} {W W' : World} (h : Wk B pl pw l c a W) (hb : Below W.heap.size W W') : Wk B pl pw l c a W' := by
  obtain ⟨W0, h1, h2, h3, h4⟩ := h.gl
  exact ⟨h.lst.below hb, keep_b h.box hb, h.ne, h.bl, h.bw, W0, h1, h2, Nat.le_trans h3 hb.size, fun k hk => (hb.block k (by omega)).trans (h4 k hk)⟩
theorem Wk.alloc {B pl pw : Nat} {l : List Par} {c : Cmd} {a : Ans} {W : World} (h : Wk B pl pw l c a W) (o : Obj) : Wk B pl pw l c a (W.alloc o) := h.below ((Below.refl _ W).alloc (Nat.le_refl _) _)
theorem Wk.size {B pl pw : Nat} {l : List Par} {c : Cmd} {a : Ans} {W : World} (h : Wk B pl pw l c a W) : B ≤ W.heap.size ∧ pl < W.heap.size ∧ pw < W.heap.size := by
  have h1 := (Array.getElem?_eq_some_iff.1 h.box).1
  obtain ⟨v, h2, _⟩ := h.lst
  have h3 := (Array.getElem?_eq_some_iff.1 h2).1
  have := h.bl
  exact ⟨by omega, h3, h1⟩
theorem Wk.cell {B pl pw : Nat} {l : List Par} {c : Cmd} {a : Ans} {W : World} (h : Wk B pl pw l c a W) (j : Nat) : W.cell? ⟨pw, j, none⟩ = (wc pl c a)[j]? := blk_cell h.box j
/-- What a write leaves. -/
def WP (B pl pw : Nat) (l : List Par) (c : Cmd) (a : Ans) (w w' : World) : Prop := Wk B pl pw l c a w' ∧ Kept pl w w' ∧ Below B w w'
theorem Wk.put {B pl pw : Nat} {l l' : List Par} {c : Cmd} {a : Ans} {w w' : World} (h : Wk B pl pw l c a w) (hp : LP B pl l' w w') : WP B pl pw l' c a w w' := by
  obtain ⟨W0, h1, h2, h3, h4⟩ := h.gl
  exact ⟨⟨hp.1, hp.2.1.keep _ _ h.box (Ne.symm h.ne) rfl, h.ne, h.bl, h.bw, W0, h1, h2, Nat.le_trans h3 hp.2.2.size, fun k hk => (hp.2.2.block k (by omega)).trans (h4 k hk)⟩, hp.2.1, hp.2.2⟩
/-- Nothing but one block of another kind has turned. -/
theorem Wk.but {B pl pw bo : Nat} {l : List Par} {c : Cmd} {a : Ans} {w W : World} {o : Obj} (h : Wk B pl pw l c a w) (ho : w.heap[bo]? = some o) (ho4 : is44 o = false) (hB : B ≤ bo) (h1 : bo ≠ pl) (h2 : bo ≠ pw) (hs : w.heap.size ≤ W.heap.size) (hk : ∀ k, k < w.heap.size → k ≠ bo → W.heap[k]? = w.heap[k]?) : Wk B pl pw l c a W := by
  obtain ⟨W0, g1, g2, g3, g4⟩ := h.gl
  have hsz := h.size
  obtain ⟨v, e1, e2⟩ := h.lst
  refine ⟨⟨v, (hk pl hsz.2.1 (Ne.symm h1)).trans e1, ?_⟩, (hk pw hsz.2.2 (Ne.symm h2)).trans h.box, h.ne, h.bl, h.bw, W0, g1, g2, by omega, fun k hk' => (hk k (by omega) (by omega)).trans (g4 k hk')⟩
  refine ⟨e2.1, e2.2.imp id ?_⟩
  rintro ⟨g, cap, cur, rfl, hb, hh, r⟩
  have hlt := (Array.getElem?_eq_some_iff.1 hh).1
  refine ⟨g, cap, cur, rfl, hb, (hk g hlt ?_).trans hh, r⟩
  rintro rfl
  rw [hh] at ho
  cases ho
  simp [is44] at ho4
theorem WP.trans {B pl pw : Nat} {l l' : List Par} {c : Cmd} {a : Ans} {x y z : World} (h : WP B pl pw l c a x y) (k : WP B pl pw l' c a y z) : WP B pl pw l' c a x z := ⟨k.1, h.2.1.trans k.2.1, h.2.2.trans k.2.2⟩
theorem WP.from {B pl pw : Nat} {l' : List Par} {c : Cmd} {a : Ans} {x y z : World} (h : Below x.heap.size x y) (hB : B ≤ x.heap.size) (k : WP B pl pw l' c a y z) : WP B pl pw l' c a x z := ⟨k.1, (Kept.of_below h).trans k.2.1, (h.mono hB).trans k.2.2⟩
/-- The list is in order, and not too long. -/
structure Ok (n : Nat) (l : List Par) : Prop where
  srt : Srt l
  len : l.length ≤ n
  small : ∀ p ∈ l, p.1.length ≤ 100 ∧ p.2.length ≤ 1000
theorem Ok.get {n : Nat} {l : List Par} {k v : Str} (h : Ok n l) (hg : get l k = some v) : v.length ≤ 1000 := (h.small _ (mem_of_get hg)).2
theorem Ok.put {n : Nat} {l : List Par} {k v : Str} (h : Ok n l) (hk : k.length ≤ 100) (hv : v.length ≤ 1000) : Ok (n + 1) (put l k v) :=
  ⟨srt_put h.srt k v, by have := put_length l k v; have := h.len; omega, fun p hp => by
    rcases mem_put hp with rfl | hp
    · exact ⟨hk, hv⟩
    · exact h.small p hp⟩
theorem Ok.del {n : Nat} {l : List Par} {k : Str} (h : Ok n l) : Ok n (del l k) :=
  ⟨srt_del h.srt k, by have := del_length l k; have := h.len; omega, fun p hp => h.small p (mem_del hp)⟩
theorem Ok.mono {n m : Nat} {l : List Par} (h : Ok n l) (hm : n ≤ m) : Ok m l := ⟨h.srt, Nat.le_trans h.len hm, h.small⟩

set_option maxHeartbeats 1000000 in
set_option maxRecDepth 100000 in
theorem wkey_any (k a i m : Int) (w : World) (hp : PlOk k a i m) : Calls Tryz.prog 66 #[.int .i64 k, .int .u32 a, .int .u16 i, .int .u32 m] w fun e w' => e = .returned (sv (kKey k a i m).1) ∧ Below w.heap.size w w' := by
  have hK := key_any k a i m w hp
  generalize kKey k a i m = R at hK ⊢
  obtain ⟨r, re⟩ := R
  unfold plv at hK
  unfold sv
  have HK := Lib.hid hK
  clear hK hp
  go_enter Tryz.func66, Tryz.ntmps66
  go_wp2_with fail
  refine HK.out.mono ?_
  rintro e W2 ⟨rfl, hb⟩
  have HB := Lib.hid hb
  clear hb
  go_wp2
  go_ret
  exact ⟨rfl, HB.out⟩

/-- What stands under a key. -/
def tget (l : List Par) (k : Str) : Option Str := if k = [] then none else get l k
theorem isEmpty_ne {s : Str} (h : s ≠ []) : List.isEmpty s = false := by cases s with | nil => exact absurd rfl h | cons a l => rfl

theorem m_get (v : Value) (w : World) : (Go.method 407 45 v "bazaar/world.get").run Tryz.prog w = .ok (227, v) w := by kernel_rfl
theorem m_put (v : Value) (w : World) : (Go.method 407 45 v "bazaar/world.put").run Tryz.prog w = .ok (228, v) w := by kernel_rfl
theorem m_del (v : Value) (w : World) : (Go.method 407 45 v "bazaar/world.del").run Tryz.prog w = .ok (226, v) w := by kernel_rfl
theorem m_between (v : Value) (w : World) : (Go.method 407 45 v "bazaar/world.between").run Tryz.prog w = .ok (225, v) w := by kernel_rfl

set_option maxHeartbeats 1000000 in
set_option maxRecDepth 100000 in
theorem wtext_any (B pl pw n : Nat) (l : List Par) (c : Cmd) (a : Ans) (k : Str) (w : World) (hW : Wk B pl pw l c a w) (hO : Ok n l) (hn : n ≤ 100000) :
    Calls Tryz.prog 65 #[.pointer (some ⟨pw, 0, none⟩), sv k] w fun e w' => e = .returned (.tuple #[sv ((tget l k).getD []), .bool (tget l k).isSome]) ∧ Below w.heap.size w w' := by
  by_cases hk : k = []
  · subst hk
    unfold tget sv
    rw [if_pos rfl]
    go_enter Tryz.func65, Tryz.ntmps65
    go_wp2
    go_ret2
    exact ⟨rfl, Below.refl _ _⟩
  · have hk' := isEmpty_ne hk
    unfold tget
    rw [if_neg hk]
    have hG := lget_any B pl l k w hW.lst (by have := hO.len; omega) hO.srt
    have hc : ∀ j, w.cell? ⟨pw, j, none⟩ = (wc pl c a)[j]? := hW.cell
    unfold wc at hc
    unfold has at hG
    generalize get l k = G at hG ⊢
    unfold sv at hG ⊢
    have HG := Lib.hid hG
    clear hG hW hO
    go_enter Tryz.func65, Tryz.ntmps65
    have hm := m_get
    go_wp2_with fail
    refine HG.out.mono ?_
    rintro e W2 ⟨rfl, hb⟩
    have HB := Lib.hid hb
    clear hb hc
    go_wp2
    go_ret2
    exact ⟨rfl, HB.out⟩

/-- What stands under a key, as a number. -/
def numF (l : List Par) (k : Str) : Int := match mParse ((tget l k).getD []) with
  | some [n] => n
  | _ => 0
theorem tget_len {n : Nat} {l : List Par} {k : Str} (hO : Ok n l) : ((tget l k).getD []).length ≤ 1000 := by
  unfold tget
  split
  · simp
  · cases h : get l k with
    | none => simp
    | some v => exact hO.get h

set_option maxHeartbeats 1000000 in
set_option maxRecDepth 100000 in
theorem wnumber_any (B pl pw n : Nat) (l : List Par) (c : Cmd) (a : Ans) (k : Str) (w : World) (hW : Wk B pl pw l c a w) (hO : Ok n l) (hn : n ≤ 100000) :
    Calls Tryz.prog 99 #[.pointer (some ⟨pw, 0, none⟩), sv k] w fun e w' => e = .returned (.int .i64 (numF l k)) ∧ Below w.heap.size w w' := by
  have hT := wtext_any B pl pw n l c a k w hW hO hn
  have hlen := tget_len (k := k) hO
  generalize hF : numF l k = F
  unfold numF at hF
  generalize (tget l k).isSome = b at hT
  generalize (tget l k).getD [] = s at hT hlen hF
  unfold sv at hT ⊢
  have HT := Lib.hid (And.intro hT hW)
  have HF := Lib.hid hF
  clear hT hW hO hF
  go_enter Tryz.func99, Tryz.ntmps99
  go_wp2_with fail
  refine HT.out.1.mono ?_
  rintro e W2 ⟨rfl, hb⟩
  have hG2 := HT.out.2.glob.below hb
  have HB := Lib.hid hb
  clear hb
  have hP := parse_any ⟨s.toArray⟩ W2 (by simp [ByteArray.size]; omega) hG2
  unfold MpPost at hP
  have hF := HF.out
  simp only at hP
  go_wp2_with fail
  refine hP.mono ?_
  clear hP
  rintro e W3 ⟨hr, hb⟩
  have HB3 := Lib.hid (HB.out.trans (hb.mono HB.out.size))
  clear hb
  rcases hp : mParse s with _ | L
  · rw [hp] at hr hF
    simp only at hr hF
    subst hr hF
    go_wp2
    go_ret
    exact ⟨rfl, HB3.out⟩
  · rw [hp] at hr hF
    simp only at hr
    obtain ⟨v, rfl, hv⟩ := hr
    have hS := Sees.of_own hv
    obtain ⟨base, cap, rfl⟩ := hS.shape
    match L, hF, hS with
    | [], hF, hS =>
      simp only at hF
      subst hF
      have hne : ((([] : List Int).length : Int) == 1) = false := rfl
      clear hv
      go_wp2
      go_ret
      exact ⟨rfl, HB3.out⟩
    | [x], hF, hS =>
      simp only at hF
      subst hF
      have hne : ((([x] : List Int).length : Int) == 1) = true := rfl
      obtain ⟨_, b', c', he, _, hc⟩ := hS
      simp only [Value.slice.injEq, true_and] at he
      obtain ⟨rfl, rfl⟩ := he
      obtain ⟨ad, rfl, hcs⟩ := hc.resolve_left (by simp)
      have c0 : W3.cell? (ad.add 0) = some (.int .i64 x) := hcs 0 _ rfl
      have c1 : W3.cell? ad = some (.int .i64 x) := by rwa [show ad.add 0 = ad by unfold Addr.add; simp] at c0
      clear hcs hv
      go_wp2
      go_ret
      exact ⟨rfl, HB3.out⟩
    | x :: y :: L, hF, hS =>
      simp only at hF
      subst hF
      have hne : (((x :: y :: L).length : Int) == 1) = false := by simp; omega
      clear hv
      go_wp2
      go_ret
      exact ⟨rfl, HB3.out⟩
end Go.Proofs.YtmkcbkdbdcnoiaaGreatDoor
namespace Go.Proofs.YtmkcbkdbdcnoiaaGreatDoor
set_option linter.unusedVariables false

theorem slt_cons (a b : UInt8) (x y : Str) : slt (a :: x) (b :: y) = if a < b then true else if b < a then false else slt x y := by
  unfold slt
  rw [Lib.compareBytes]
  split
  · rfl
  · split
    · rfl
    · rfl
/-- Texts of one length: the order is that of the numbers. -/
theorem slt_num : ∀ (x y : Str), x.length = y.length → slt x y = decide (num x < num y) := by
  intro x
  induction x with
  | nil =>
    intro y h
    cases y with
    | nil => rfl
    | cons b y => simp at h
  | cons a x ih =>
    intro y h
    cases y with
    | nil => simp at h
    | cons b y =>
      have hl : x.length = y.length := by simpa using h
      rw [slt_cons, num_cons, num_cons, ← hl, ih y hl]
      have h1 := num_lt x
      have h2 := num_lt y
      rw [← hl] at h2
      generalize 256 ^ x.length = q at *
      rcases Nat.lt_trichotomy a.toNat b.toNat with h3 | h3 | h3
      · rw [if_pos (UInt8.lt_iff_toNat_lt.2 h3)]
        symm
        rw [decide_eq_true_eq]
        have : (a.toNat + 1) * q ≤ b.toNat * q := Nat.mul_le_mul_right _ h3
        rw [Nat.add_mul] at this
        omega
      · rw [if_neg (by rw [UInt8.lt_iff_toNat_lt]; omega), if_neg (by rw [UInt8.lt_iff_toNat_lt]; omega), h3]
        simp
      · rw [if_neg (by rw [UInt8.lt_iff_toNat_lt]; omega), if_pos (UInt8.lt_iff_toNat_lt.2 h3)]
        symm
        rw [decide_eq_false_iff_not]
        have : (b.toNat + 1) * q ≤ a.toNat * q := Nat.mul_le_mul_right _ h3
        rw [Nat.add_mul] at this
        omega
theorem slt_be (a b k : Nat) (ha : a < 256 ^ k) (hb : b < 256 ^ k) : slt (be a k) (be b k) = decide (a < b) := by
  rw [slt_num _ _ (by rw [be_length, be_length]), num_be, num_be, Nat.mod_eq_of_lt ha, Nat.mod_eq_of_lt hb]
theorem slt_same (a : UInt8) (x y : Str) : slt (a :: x) (a :: y) = slt x y := by
  rw [slt_cons, if_neg (by rw [UInt8.lt_iff_toNat_lt]; omega), if_neg (by rw [UInt8.lt_iff_toNat_lt]; omega)]
end Go.Proofs.YtmkcbkdbdcnoiaaGreatDoor
namespace Go.Proofs.YtmkcbkdbdcnoiaaGreatDoor
open Go.RowKit
set_option linter.unusedVariables false
set_option linter.unusedSimpArgs false

theorem wput_call {B pl pw n : Nat} {l : List Par} {c : Cmd} {a : Ans} {W V : World} {k v : Str} {b : Nat} (hW : Wk B pl pw l c a W) (hO : Ok n l) (hn : n < 100000) (hV : Below W.heap.size W V) (hb : V.heap[b]? = some (.cells #[.string ⟨k.toArray⟩, .string ⟨v.toArray⟩] 44 (0, 0))) (hbW : W.heap.size ≤ b) :
    Calls Tryz.prog 228 #[.pointer (some ⟨pl, 0, none⟩), .slice (some ⟨b, 0, none⟩) 1 1] V fun e w' => e = .returned (.tuple #[]) ∧ WP B pl pw (put l k v) c a W w' := by
  have hV2 := hW.below hV
  refine (lput_any B pl b l (k, v) V hV2.lst (by have := hO.len; omega) hO.srt hW.bl hb ?_).mono ?_
  · intro v' m xs h1 h2 e
    obtain ⟨v0, h3, h4⟩ := hW.lst
    rw [keep_b h3 hV] at h1
    simp only [Option.some.injEq, Obj.cells.injEq, true_and, and_true, Array.mk.injEq, List.cons.injEq] at h1
    have h1 : v0 = v' := by simpa using h1
    subst h1
    rcases h4.2 with ⟨h, _⟩ | ⟨g', cap', cur', h, _, hh, _⟩
    · rw [h] at e; simp [Value.ownBlock] at e
    · rw [h] at e
      simp [Value.ownBlock] at e
      have := (Array.getElem?_eq_some_iff.1 hh).1
      omega
  · rintro e w' ⟨rfl, h⟩
    exact ⟨rfl, WP.from hV hW.size.1 (hV2.put h)⟩
/-- The same, right behind the pair's making, in a world that has drawn or not. -/
theorem wput_a {B pl pw n : Nat} {l : List Par} {c : Cmd} {a : Ans} {W V : World} {k v : Str} (hW : Wk B pl pw l c a W) (hO : Ok n l) (hn : n < 100000) (hV : Below W.heap.size W V) :
    Calls Tryz.prog 228 #[.pointer (some ⟨pl, 0, none⟩), .slice (some ⟨V.heap.size, 0, none⟩) 1 1] (V.alloc (.cells #[.string ⟨k.toArray⟩, .string ⟨v.toArray⟩] 44)) fun e w' => e = .returned (.tuple #[]) ∧ WP B pl pw (put l k v) c a W w' :=
  wput_call hW hO hn (hV.alloc hV.size _) (heap_alloc_new V _) hV.size
theorem wput_d {B pl pw n : Nat} {l : List Par} {c : Cmd} {a : Ans} {W V : World} {k v : Str} (hW : Wk B pl pw l c a W) (hO : Ok n l) (hn : n < 100000) (hV : Below W.heap.size W V) :
    Calls Tryz.prog 228 #[.pointer (some ⟨pl, 0, none⟩), .slice (some ⟨V.heap.size, 0, none⟩) 1 1] ((V.alloc (.cells #[.string ⟨k.toArray⟩, .string ⟨v.toArray⟩] 44)).drew) fun e w' => e = .returned (.tuple #[]) ∧ WP B pl pw (put l k v) c a W w' :=
  wput_call hW hO hn (hV.alloc hV.size _).drew (blk_drew (heap_alloc_new V _)) hV.size
theorem wdel_call {B pl pw n : Nat} {l : List Par} {c : Cmd} {a : Ans} {W : World} {k : Str} (hW : Wk B pl pw l c a W) (hO : Ok n l) (hn : n ≤ 100000) :
    Calls Tryz.prog 226 #[.pointer (some ⟨pl, 0, none⟩), sv k] W fun e w' => e = .returned (.tuple #[]) ∧ WP B pl pw (del l k) c a W w' := by
  refine (ldel_any B pl l k W hW.lst (by have := hO.len; omega) hO.srt hW.bl).mono ?_
  rintro e w' ⟨rfl, h⟩
  exact ⟨rfl, hW.put h⟩

set_option maxHeartbeats 1000000 in
set_option maxRecDepth 100000 in
theorem wsetNumber_any (B pl pw n : Nat) (l : List Par) (c : Cmd) (a : Ans) (k : Str) (x : Int) (w : World) (hW : Wk B pl pw l c a w) (hO : Ok n l) (hn : n < 100000) :
    Calls Tryz.prog 102 #[.pointer (some ⟨pw, 0, none⟩), sv k, .int .i64 x] w fun e w' => e = .returned (.tuple #[]) ∧ WP B pl pw (put l k (mBytesF [x]).1) c a w w' := by
  have hb0 : Below w.heap.size w (w.alloc (.cells #[.int .i64 x] 2)) := (Below.refl _ w).alloc (Nat.le_refl _) _
  have hS : Sees (w.alloc (.cells #[.int .i64 x] 2)) (.slice (some ⟨w.heap.size, 0, none⟩) 1 1) 1 1 (ints [x]) := Sees.of_blk (heap_alloc_new w _) rfl
  have hM := bytes_any [x] 1 _ _ rfl hS (by omega) (hW.glob.below hb0)
  generalize mBytesF [x] = R at hM ⊢
  obtain ⟨r, re⟩ := R
  dsimp only at hM ⊢
  unfold sv
  have HM := Lib.hid (And.intro hM (And.intro hW hO))
  clear hM hS hW hO
  have hm := m_put
  go_enter Tryz.func102, Tryz.ntmps102
  go_wp2_with fail
  refine HM.out.1.mono ?_
  rintro e W2 ⟨rfl, hb⟩
  have hb2 := hb0.trans (hb.mono hb0.size)
  have hW2 := HM.out.2.1.below hb2
  have hc : ∀ j, W2.cell? ⟨pw, j, none⟩ = (wc pl c a)[j]? := hW2.cell
  unfold wc at hc
  have hP := wput_call (k := k) (v := r) hW2 HM.out.2.2 hn ((Below.refl _ W2).alloc (Nat.le_refl _) (.cells #[.string ⟨k.toArray⟩, .string ⟨r.toArray⟩] 44)) (heap_alloc_new W2 _) (Nat.le_refl _)
  have HP := Lib.hid (And.intro hP (And.intro hb2 HM.out.2.1.size.1))
  clear hb hb0 hb2 hW2 hP
  go_wp2_with fail
  refine HP.out.1.mono ?_
  rintro e W3 ⟨rfl, h⟩
  have H := Lib.hid h
  clear h hc
  go_wp2
  go_end0
  exact ⟨rfl, WP.from HP.out.2.1 HP.out.2.2 H.out⟩

/-- An account of the list's. -/
def acF (l : List Par) (a : Int) : Acc × Int := match tget l (kKey 1 a 0 0).1 with
  | none => ((0, 0), 161)
  | some s => ((aParseF s).1, 0)

set_option maxHeartbeats 1000000 in
set_option maxRecDepth 100000 in
theorem waccount_any (B pl pw n : Nat) (l : List Par) (c : Cmd) (a : Ans) (x : Int) (w : World) (hW : Wk B pl pw l c a w) (hO : Ok n l) (hn : n ≤ 100000) (hx : 0 ≤ x ∧ x < 4294967296) :
    Calls Tryz.prog 27 #[.pointer (some ⟨pw, 0, none⟩), .int .u32 x] w fun e w' => e = .returned (.tuple #[accv (acF l x).1, .int .i64 (acF l x).2]) ∧ Below w.heap.size w w' := by
  obtain ⟨W, hWW⟩ : ∃ W, w.alloc (.cells #[.int .i64 0, .int .i64 0] 55) = W := ⟨_, rfl⟩
  have HB := Lib.hid (show Hs w [(w.heap.size, .cells #[.int .i64 0, .int .i64 0] 55 (0, 0))] W from ⟨hWW ▸ (Below.refl _ w).alloc (Nat.le_refl _) _, fun x hx => by simp only [List.mem_cons, List.not_mem_nil, or_false] at hx; subst hx; rw [← hWW]; exact heap_alloc_new w _⟩)
  have hK := wkey_any 1 x 0 0 W ⟨hx.1, hx.2, by omega, by omega, by omega, by omega⟩
  obtain ⟨F, hF⟩ : ∃ F, acF l x = F := ⟨_, rfl⟩
  rw [hF]
  obtain ⟨⟨f1, f2⟩, f3⟩ := F
  unfold acF at hF
  unfold accv
  dsimp only
  generalize (kKey 1 x 0 0).1 = k at hK hF
  have hT := fun V (h : Wk B pl pw l c a V) => wtext_any B pl pw n l c a k V h hO hn
  have hlen := tget_len (k := k) hO
  have HW := Lib.hid (And.intro hW hF)
  unfold sv at hK hT
  have HK := Lib.hid (And.intro hK hT)
  clear hK hT hW hO hF
  go_enter Tryz.func27, Tryz.ntmps27
  go_wp2_with fail
  refine HK.out.1.mono ?_
  rintro e W2 ⟨rfl, hb⟩
  have H2 := Lib.hid (HB.out.below hb)
  clear hb hWW
  go_wp2_with fail
  refine (HK.out.2 W2 (HW.out.1.below H2.out.1)).mono ?_
  rintro e W3 ⟨rfl, hb⟩
  have H3 := Lib.hid (H2.out.below hb)
  clear hb
  have d1 : ∀ j, W3.cell? ⟨w.heap.size, j, none⟩ = (#[.int .i64 0, .int .i64 0] : Array Value)[j]? := blk_cell (H3.out.at _ _ (by (first | exact hs_mem0 | exact hs_mem1 | exact hs_mem2 | exact hs_mem3 | exact hs_mem4)))
  have e1 : ∀ j, W3.frozen? ⟨w.heap.size, j, none⟩ = false := blk_frozen (H3.out.at _ _ (by (first | exact hs_mem0 | exact hs_mem1 | exact hs_mem2 | exact hs_mem3 | exact hs_mem4)))
  rcases ht : tget l k with _ | s
  · have hF := HW.out.2
    rw [ht] at hF
    simp only [Prod.mk.injEq] at hF
    obtain ⟨⟨rfl, rfl⟩, rfl⟩ := hF
    go_wp2
    refine bodyPost_ret (res_cell_tmp rfl rfl (two_set (H3.out.at _ _ (by (first | exact hs_mem0 | exact hs_mem1 | exact hs_mem2 | exact hs_mem3 | exact hs_mem4))) _ _) Tryz.underlying55 rfl (by kernel_rfl)) rfl ⟨rfl, ?_⟩
    exact (H3.out.1.setCell (p := ⟨w.heap.size, 0, none⟩) (by simp) _).setCell (p := ⟨w.heap.size, 1, none⟩) (by simp) _
  · have hF := HW.out.2
    rw [ht] at hF hlen
    simp only [Option.getD_some] at hF hlen
    have hP := aparse_any ⟨s.toArray⟩ W3 (by simp [ByteArray.size]; omega) (HW.out.1.below H3.out.1).glob
    simp only at hP
    obtain ⟨P, hPP⟩ : ∃ P, aParseF s = P := ⟨_, rfl⟩
    obtain ⟨⟨p1, p2⟩, pe⟩ := P
    rw [hPP] at hP hF
    simp only [Prod.mk.injEq] at hF
    obtain ⟨⟨rfl, rfl⟩, rfl⟩ := hF
    unfold accv at hP
    dsimp only at hP
    have HP := Lib.hid hP
    clear hP hPP d1 e1
    go_wp2_with fail
    refine HP.out.mono ?_
    rintro e W4 ⟨rfl, hb⟩
    obtain ⟨g, hg⟩ : ∃ g, W4.heap.size = g := ⟨_, rfl⟩
    obtain ⟨W5, hW5⟩ : ∃ W5, W4.alloc (.cells #[.int .i64 p1, .int .i64 p2] 55) = W5 := ⟨_, rfl⟩
    have H4 := Lib.hid (show Hs w [(g, .cells #[.int .i64 p1, .int .i64 p2] 55 (0, 0)), (w.heap.size, .cells #[.int .i64 0, .int .i64 0] 55 (0, 0))] W5 by
      rw [← hW5, ← hg]
      exact ((H3.out.below hb).alloc _).cons (heap_alloc_new W4 _))
    clear hb
    have d1 : ∀ j, W5.cell? ⟨w.heap.size, j, none⟩ = (#[.int .i64 0, .int .i64 0] : Array Value)[j]? := blk_cell (H4.out.at w.heap.size _ (by (first | exact hs_mem0 | exact hs_mem1 | exact hs_mem2 | exact hs_mem3 | exact hs_mem4)))
    have e1 : ∀ j, W5.frozen? ⟨w.heap.size, j, none⟩ = false := blk_frozen (H4.out.at w.heap.size _ (by (first | exact hs_mem0 | exact hs_mem1 | exact hs_mem2 | exact hs_mem3 | exact hs_mem4)))
    have d2 : ∀ j, W5.cell? ⟨g, j, none⟩ = (#[.int .i64 p1, .int .i64 p2] : Array Value)[j]? := blk_cell (H4.out.at g _ (by (first | exact hs_mem0 | exact hs_mem1 | exact hs_mem2 | exact hs_mem3 | exact hs_mem4)))
    go_wp2
    refine bodyPost_ret (res_cell_tmp rfl rfl (two_set (H4.out.at w.heap.size _ (by (first | exact hs_mem0 | exact hs_mem1 | exact hs_mem2 | exact hs_mem3 | exact hs_mem4))) _ _) Tryz.underlying55 rfl (by kernel_rfl)) rfl ⟨rfl, ?_⟩
    exact (H4.out.1.setCell (p := ⟨w.heap.size, 0, none⟩) (by simp) _).setCell (p := ⟨w.heap.size, 1, none⟩) (by simp) _

set_option maxHeartbeats 1000000 in
set_option maxRecDepth 100000 in
theorem wsetAccount_any (B pl pw n : Nat) (l : List Par) (c : Cmd) (a : Ans) (x : Int) (y : Acc) (w : World) (hW : Wk B pl pw l c a w) (hO : Ok n l) (hn : n < 100000) (hx : 0 ≤ x ∧ x < 4294967296) :
    Calls Tryz.prog 97 #[.pointer (some ⟨pw, 0, none⟩), .int .u32 x, accv y] w fun e w' => e = .returned (.tuple #[]) ∧ WP B pl pw (put l (kKey 1 x 0 0).1 (aBytesF y).1) c a w w' := by
  obtain ⟨W, hWW⟩ : ∃ W, w.alloc (.cells #[.int .i64 y.1, .int .i64 y.2] 55) = W := ⟨_, rfl⟩
  have hb0 : Below w.heap.size w W := hWW ▸ (Below.refl _ w).alloc (Nat.le_refl _) _
  have c0 : ∀ j, W.cell? ⟨w.heap.size, j, none⟩ = (#[.int .i64 y.1, .int .i64 y.2] : Array Value)[j]? := by rw [← hWW]; exact blk_cell (heap_alloc_new w _)
  have hA := abytes_any y W (hW.glob.below hb0)
  have hK := fun V => wkey_any 1 x 0 0 V ⟨hx.1, hx.2, by omega, by omega, by omega, by omega⟩
  obtain ⟨y1, y2⟩ := y
  generalize (kKey 1 x 0 0).1 = k at hK ⊢
  generalize aBytesF (y1, y2) = R at hA ⊢
  obtain ⟨r, re⟩ := R
  unfold accv at hA ⊢
  dsimp only at hA c0 hWW ⊢
  unfold sv at hK
  have HM := Lib.hid (And.intro hA (And.intro hK (And.intro hW (And.intro hO hb0))))
  clear hA hK hW hO hb0
  have hm := m_put
  go_enter Tryz.func97, Tryz.ntmps97
  go_wp2_with fail
  refine HM.out.1.mono ?_
  rintro e W2 ⟨rfl, hb⟩
  have hb2 := HM.out.2.2.2.2.trans (hb.mono HM.out.2.2.2.2.size)
  have hW2 := HM.out.2.2.1.below hb2
  have hc : ∀ j, W2.cell? ⟨pw, j, none⟩ = (wc pl c a)[j]? := hW2.cell
  unfold wc at hc
  have H2 := Lib.hid (And.intro hb2 hW2)
  clear hb hb2 hW2 c0 hWW
  have hd : ∀ V, Below W2.heap.size W2 V → V.cell? ⟨pw, 0, none⟩ = some (.iface 45 (.pointer (some ⟨pl, 0, none⟩))) := fun V h => (H2.out.2.below h).cell 0
  have HD := Lib.hid hd
  clear hd
  have c0 : W2.cell? ⟨pw, 0, none⟩ = some (.iface 45 (.pointer (some ⟨pl, 0, none⟩))) := hc 0
  have HN := Lib.hid hn
  clear hc
  go_wp2_with fail
  go_region_held3 (fun W' => W'.cell? ⟨pw, 0, none⟩ = some (.iface 45 (.pointer (some ⟨pl, 0, none⟩))))
    (first | with_reducible exact c0 | with_reducible exact cell_drew c0 | with_reducible exact c3 | with_reducible exact cell_alloc c3 _ | with_reducible exact cell_drew (cell_alloc c3 _) | with_reducible exact c4 | with_reducible exact cell_drew c4)
    (first | (go_at_call 66; (with_reducible refine (HM.out.2.1 _).mono ?_); rintro e W3 ⟨rfl, hb3⟩; (first | (have H3 := Lib.hid (show Below W2.heap.size W2 W3 from hb3)) | (have H3 := Lib.hid (show Below W2.heap.size W2 W3 from (Below.drew (Below.refl _ W2)).trans hb3))); clear hb3; have c3 := HD.out _ H3.out) | (go_at_call 228; (first | (with_reducible refine (wput_a H2.out.2 HM.out.2.2.2.1 HN.out H3.out).mono ?_) | (with_reducible refine (wput_d H2.out.2 HM.out.2.2.2.1 HN.out H3.out).mono ?_)); rintro e W4 ⟨rfl, h4⟩; have c4 : W4.cell? ⟨pw, 0, none⟩ = some (.iface 45 (.pointer (some ⟨pl, 0, none⟩))) := h4.1.cell 0; have H4 := Lib.hid h4; clear h4))
  go_wp2
  go_end0
  exact ⟨rfl, WP.from H2.out.1 HM.out.2.2.1.size.1 H4.out⟩

set_option maxHeartbeats 1000000 in
set_option maxRecDepth 100000 in
theorem wcoinsKey_any (w : World) : Calls Tryz.prog 100 #[] w fun e w' => e = .returned (sv (kKey 6 0 0 0).1) ∧ Below w.heap.size w w' := by
  have hK := fun V => wkey_any 6 0 0 0 V ⟨by omega, by omega, by omega, by omega, by omega, by omega⟩
  generalize (kKey 6 0 0 0).1 = k at hK ⊢
  unfold sv at hK ⊢
  go_enter Tryz.func100, Tryz.ntmps100
  go_wp2_with fail
  refine (hK _).mono ?_
  rintro e W3 ⟨rfl, hb⟩
  have HB := Lib.hid hb
  clear hb
  go_wp2
  go_ret
  exact ⟨rfl, HB.out⟩
set_option maxHeartbeats 1000000 in
set_option maxRecDepth 100000 in
theorem wthingsKey_any (B pl pw : Nat) (l : List Par) (c : Cmd) (a : Ans) (w : World) (hW : Wk B pl pw l c a w) (hi : 0 ≤ c.item ∧ c.item < 65536) : Calls Tryz.prog 106 #[.pointer (some ⟨pw, 0, none⟩)] w fun e w' => e = .returned (sv (kKey 6 1 c.item 0).1) ∧ Below w.heap.size w w' := by
  have hK := fun V => wkey_any 6 1 c.item 0 V ⟨by omega, by omega, hi.1, hi.2, by omega, by omega⟩
  have hc : ∀ j, w.cell? ⟨pw, j, none⟩ = (wc pl c a)[j]? := hW.cell
  unfold wc at hc
  generalize (kKey 6 1 c.item 0).1 = k at hK ⊢
  unfold sv at hK ⊢
  clear hW
  go_enter Tryz.func106, Tryz.ntmps106
  go_wp2_with fail
  refine (hK _).mono ?_
  rintro e W3 ⟨rfl, hb⟩
  have HB := Lib.hid hb
  clear hb hc
  go_wp2
  go_ret
  exact ⟨rfl, HB.out⟩

/-- An account's pairs of a kind. -/
def unF (l : List Par) (k a : Int) : List Par := betw l (kOf k a).1 (kOf k a).2.1
theorem kOf_le (k a : Int) (h0 : 0 ≤ a) : slt (kOf k a).2.1 (kOf k a).1 = false := by
  unfold kOf
  split
  · rename_i h
    obtain ⟨a, rfl⟩ := Int.eq_ofNat_of_zero_le h0
    simp only [wthn, Bool.and_eq_true, decide_eq_true_eq] at h
    dsimp only
    rw [slt_same, Int.toNat_natCast]
    simp only [fieldBytes, List.flatMap_cons, List.flatMap_nil, List.append_nil]
    rw [slt_be _ _ _ (by omega) (by omega)]
    simp
  · rfl

set_option maxHeartbeats 1000000 in
set_option maxRecDepth 100000 in
theorem wunder_any (B pl pw n : Nat) (l : List Par) (c : Cmd) (a : Ans) (k x : Int) (w : World) (hW : Wk B pl pw l c a w) (hO : Ok n l) (hn : n ≤ 100000) (hk : k = 2 ∨ k = 3) (hx : 0 ≤ x ∧ x < 4294967296) :
    Calls Tryz.prog 127 #[.pointer (some ⟨pw, 0, none⟩), .int .i64 k, .int .u32 x] w fun e w' => (∃ v, e = .returned v ∧ Sees w' v (unF l k x).length 2 (prows (unF l k x)) ∧ ∃ v0, w.heap[pl]? = some (.cells #[v0] 48 (0, 0)) ∧ v.ownBlock = v0.ownBlock) ∧ Below w.heap.size w w' := by
  have hF := of_any k x w hk hx.1 hx.2
  have hle := kOf_le k x hx.1
  unfold unF
  generalize kOf k x = R at hF hle ⊢
  obtain ⟨r1, r2, re⟩ := R
  dsimp only at hF hle ⊢
  have hB := fun V (h : Wk B pl pw l c a V) => lbetween_any B pl l r1 r2 V h.lst (by have := hO.len; omega) hO.srt hle
  generalize betw l r1 r2 = M at hB ⊢
  unfold sv at hB
  have HF := Lib.hid (And.intro hF (And.intro hW hB))
  clear hF hW hB hO hle
  have hm := m_between
  go_enter Tryz.func127, Tryz.ntmps127
  go_wp2_with fail
  refine HF.out.1.mono ?_
  rintro e W2 ⟨rfl, hb⟩
  have HB := Lib.hid (And.intro hb (HF.out.2.1.below hb))
  have hc : ∀ j, W2.cell? ⟨pw, j, none⟩ = (wc pl c a)[j]? := HB.out.2.cell
  unfold wc at hc
  clear hb
  go_wp2_with fail
  refine (HF.out.2.2 W2 HB.out.2).mono ?_
  rintro e W3 ⟨⟨v, rfl, hv, v0, hv0, hob⟩, hb⟩
  have hv1 : w.heap[pl]? = some (.cells #[v0] 48 (0, 0)) := by
    obtain ⟨u, hu, _⟩ := HF.out.2.1.lst
    have := keep_b hu HB.out.1
    rw [hv0] at this
    rw [hu, this]
  have H3 := Lib.hid (And.intro hv (And.intro (HB.out.1.trans (hb.mono HB.out.1.size)) (And.intro hv1 hob)))
  obtain ⟨base, cap, rfl⟩ := hv.shape
  clear hb hc hv hv0 hv1 hob
  go_wp2
  go_ret
  exact ⟨⟨_, rfl, H3.out.1, _, H3.out.2.2.1, H3.out.2.2.2⟩, H3.out.2.1⟩
end Go.Proofs.YtmkcbkdbdcnoiaaGreatDoor
