/- What alloc.Take answers. -/
import Derived.Test.YtnbmpcdomdaimaaDel
import Derived.Test.YtnbmpcdomdaimaaRt
import Derived.Deep.RegionHeld3
namespace Go.Proofs.Ytnbmpcdomdaimaa
open Go.RowKit
set_option linter.unusedVariables false
set_option linter.unusedSimpArgs false

theorem spRow_blk {w : World} {g : Nat} {l : List Sp} {c : Nat} (h : w.heap[g]? = some (.cells (sp l).toArray 44 (0, 0))) : SpRow w (.slice (some ⟨g, 0, none⟩) l.length c) l :=
  ⟨_, _, rfl, .inr ⟨⟨g, 0, none⟩, rfl, fun i hi => ⟨by rw [add_plain, blk_cell h]; simpa using (sp_get l i hi).1, by rw [add_plain, blk_cell h]; simpa using (sp_get l i hi).2⟩⟩⟩

/-- The worlds' three blocks of Take: the alloc, oldest, the answer. -/
structure TkW (w W : World) (a0 a1 a2 o r0 r1 r2 : Value) : Prop where
  b0 : W.heap[w.heap.size]? = some (.cells #[a0, a1, a2] 25 (0, 0))
  b1 : W.heap[w.heap.size + 1]? = some (.cells #[o] 26 (0, 0))
  b2 : W.heap[w.heap.size + 2]? = some (.cells #[r0, r1, r2] 25 (0, 0))
  bel : Below w.heap.size w W

theorem TkW.size {w W : World} {a0 a1 a2 o r0 r1 r2 : Value} (h : TkW w W a0 a1 a2 o r0 r1 r2) : w.heap.size + 2 < W.heap.size := (Array.getElem?_eq_some_iff.1 h.b2).1
theorem TkW.below {w W W' : World} {a0 a1 a2 o r0 r1 r2 : Value} (h : TkW w W a0 a1 a2 o r0 r1 r2) (hb : Below W.heap.size W W') : TkW w W' a0 a1 a2 o r0 r1 r2 :=
  ⟨keep_b h.b0 hb, keep_b h.b1 hb, keep_b h.b2 hb, h.bel.trans (hb.mono h.bel.size)⟩

theorem TkW.put {w W : World} {a0 a1 a2 o r0 r1 r2 : Value} (h : TkW w W a0 a1 a2 o r0 r1 r2) (i : Nat) (u : Value) : ∀ x0 x1 x2, (#[a0, a1, a2] : Array Value).setIfInBounds i u = #[x0, x1, x2] → TkW w (W.setCell ⟨w.heap.size, i, none⟩ u) x0 x1 x2 o r0 r1 r2 :=
  fun x0 x1 x2 hx => ⟨by rw [blk_set h.b0 i u, hx], (Below.heap_setCell _ _ _ _ (by simp)).trans h.b1, (Below.heap_setCell _ _ _ _ (by simp)).trans h.b2, h.bel.setCell (p := ⟨w.heap.size, i, none⟩) (Nat.le_refl _) u⟩
theorem TkW.res {w W : World} {a0 a1 a2 o r0 r1 r2 : Value} (h : TkW w W a0 a1 a2 o r0 r1 r2) (i : Nat) (u : Value) : ∀ x0 x1 x2, (#[r0, r1, r2] : Array Value).setIfInBounds i u = #[x0, x1, x2] → TkW w (W.setCell ⟨w.heap.size + 2, i, none⟩ u) a0 a1 a2 o x0 x1 x2 :=
  fun x0 x1 x2 hx => ⟨(Below.heap_setCell _ _ _ _ (by simp)).trans h.b0, (Below.heap_setCell _ _ _ _ (by simp)).trans h.b1, by rw [blk_set h.b2 i u, hx], h.bel.setCell (p := ⟨w.heap.size + 2, i, none⟩) (by simp) u⟩
theorem far_set {W : World} {g b i : Nat} {o : Obj} (h : W.heap[g]? = some o) (hne : g ≠ b) (u : Value) : (W.setCell ⟨b, i, none⟩ u).heap[g]? = some o := (Below.heap_setCell _ _ _ _ hne).trans h

set_option maxHeartbeats 1000000 in
set_option maxRecDepth 100000 in
theorem take_bad (hi ca o : Nat) (v : Value) (l : List Sp) (w : World) (hv : SpRow w v l) (hl : l.length ≤ 1000000) (hhi : hi < 4294967296) (hca : ca < 4294967296) (hp : ∀ s ∈ l, s.1 < 4294967296) (hR : right hi ca l = false) :
    Calls Try.prog 13 #[.agg #[.int .u32 (hi : Int), .int .u32 (ca : Int), v], .int .u64 (o : Int)] w fun e w' => e = .returned (.tuple #[.agg #[.int .u32 0, .int .u32 0, .slice none 0 0], .int .u32 0, .int .i64 50]) ∧ Below w.heap.size w w' := by
  obtain ⟨base, cap, rfl, hr⟩ := hv
  obtain ⟨W0, hW0⟩ : ∃ W0, ((w.alloc (.cells #[.int .u32 (hi : Int), .int .u32 (ca : Int), .slice base l.length cap] 25)).alloc (.cells #[.int .u64 (o : Int)] 26)).alloc (.cells #[.int .u32 0, .int .u32 0, .slice none 0 0] 25) = W0 := ⟨_, rfl⟩
  have T0 : TkW w W0 (.int .u32 (hi : Int)) (.int .u32 (ca : Int)) (.slice base l.length cap) (.int .u64 (o : Int)) (.int .u32 0) (.int .u32 0) (.slice none 0 0) := by
    rw [← hW0]
    have h1 := heap_alloc_new (w.alloc (.cells #[.int .u32 (hi : Int), .int .u32 (ca : Int), .slice base l.length cap] 25)) (.cells #[.int .u64 (o : Int)] 26)
    have h2 := heap_alloc_new ((w.alloc (.cells #[.int .u32 (hi : Int), .int .u32 (ca : Int), .slice base l.length cap] 25)).alloc (.cells #[.int .u64 (o : Int)] 26)) (.cells #[.int .u32 0, .int .u32 0, .slice none 0 0] 25)
    simp only [World.size_alloc] at h1 h2
    exact ⟨keep_a _ (keep_a _ (heap_alloc_new w _)), keep_a _ h1, h2, (((Below.refl _ w).alloc (Nat.le_refl _) _).alloc (by simp) _).alloc (by simp; omega) _⟩
  have HV0 : Hid (SpRow W0 (.slice base l.length cap) l) := Lib.hid ((show SpRow w _ l from ⟨_, _, rfl, hr⟩).below T0.bel)
  have HP := Lib.hid hp
  have HR := Lib.hid hR
  obtain ⟨c0, c1, c2⟩ := cells3 T0.b0
  clear hr hp hR
  have HT0 := Lib.hid T0
  clear T0
  go_enter Try.func13, Try.ntmps13
  go_wp2_with fail
  refine (right_any hi ca _ l _ HV0.out hl hhi hca HP.out).mono ?_
  rintro e W1 ⟨rfl, hb⟩
  rw [HR.out]
  have HT1 := Lib.hid (HT0.out.below hb)
  clear hb c0 c1 c2
  obtain ⟨d0, d1, d2⟩ := cells3 HT1.out.b2
  have f0 : ∀ i, W1.frozen? ⟨w.heap.size + 2, i, none⟩ = false := blk_frozen HT1.out.b2
  go_wp2
  have hB := blk_set (blk_set (blk_set HT1.out.b2 0 (.int .u32 0)) 1 (.int .u32 0)) 2 (.slice none 0 0)
  refine bodyPost_ret (res_cell_tmp2 rfl rfl hB Try.underlying25 rfl (by kernel_rfl)) rfl ⟨rfl, ?_⟩
  exact ((HT1.out.bel.setCell (p := ⟨w.heap.size + 2, 0, none⟩) (by simp) _).setCell (p := ⟨w.heap.size + 2, 1, none⟩) (by simp) _).setCell (p := ⟨w.heap.size + 2, 2, none⟩) (by simp) _

def TkPost (hi ca o : Nat) (l : List Sp) (w : World) (e : Ending) (w' : World) : Prop :=
  (∃ (k : Nat) (h : k < l.length) (g : Nat), (l[k]'h).2 ≤ o ∧ (∀ j (h : j < k), o < (l[j]'(by omega)).2) ∧ e = .returned (.tuple #[.agg #[.int .u32 (hi : Int), .int .u32 (ca : Int), .slice (some ⟨g, 0, none⟩) (l.length - 1) l.length], .int .u32 ((l[k]'h).1 : Int), .int .i64 0]) ∧ w.heap.size ≤ g ∧ w'.heap[g]? = some (.cells (gone l k).toArray 44 (0, 0)) ∧ Below w.heap.size w w') ∨
  ((∀ s ∈ l, o < s.2) ∧ ∃ g, w.heap.size ≤ g ∧ w'.heap[g]? = some (.cells (sp l).toArray 44 (0, 0)) ∧ Below w.heap.size w w' ∧
    ((hi = ca ∧ e = .returned (.tuple #[.agg #[.int .u32 (hi : Int), .int .u32 (ca : Int), .slice (some ⟨g, 0, none⟩) l.length l.length], .int .u32 0, .int .i64 51])) ∨
     (hi ≠ ca ∧ e = .returned (.tuple #[.agg #[.int .u32 ((hi : Int) + 1), .int .u32 (ca : Int), .slice (some ⟨g, 0, none⟩) l.length l.length], .int .u32 (hi : Int), .int .i64 0]))))

set_option maxHeartbeats 1000000 in
set_option maxRecDepth 100000 in
theorem take_ok (hi ca o : Nat) (v : Value) (l : List Sp) (w : World) (hv : SpRow w v l) (hl : l.length ≤ 1000000) (hhi : hi < 4294967296) (hca : ca < 4294967296) (hp : ∀ s ∈ l, s.1 < 4294967296) (hR : right hi ca l = true) :
    Calls Try.prog 13 #[.agg #[.int .u32 (hi : Int), .int .u32 (ca : Int), v], .int .u64 (o : Int)] w (TkPost hi ca o l w) := by
  obtain ⟨base, cap, rfl, hr⟩ := hv
  obtain ⟨W0, hW0⟩ : ∃ W0, ((w.alloc (.cells #[.int .u32 (hi : Int), .int .u32 (ca : Int), .slice base l.length cap] 25)).alloc (.cells #[.int .u64 (o : Int)] 26)).alloc (.cells #[.int .u32 0, .int .u32 0, .slice none 0 0] 25) = W0 := ⟨_, rfl⟩
  have T0 : TkW w W0 (.int .u32 (hi : Int)) (.int .u32 (ca : Int)) (.slice base l.length cap) (.int .u64 (o : Int)) (.int .u32 0) (.int .u32 0) (.slice none 0 0) := by
    rw [← hW0]
    have h1 := heap_alloc_new (w.alloc (.cells #[.int .u32 (hi : Int), .int .u32 (ca : Int), .slice base l.length cap] 25)) (.cells #[.int .u64 (o : Int)] 26)
    have h2 := heap_alloc_new ((w.alloc (.cells #[.int .u32 (hi : Int), .int .u32 (ca : Int), .slice base l.length cap] 25)).alloc (.cells #[.int .u64 (o : Int)] 26)) (.cells #[.int .u32 0, .int .u32 0, .slice none 0 0] 25)
    simp only [World.size_alloc] at h1 h2
    exact ⟨keep_a _ (keep_a _ (heap_alloc_new w _)), keep_a _ h1, h2, (((Below.refl _ w).alloc (Nat.le_refl _) _).alloc (by simp) _).alloc (by simp; omega) _⟩
  have HV0 : Hid (SpRow W0 (.slice base l.length cap) l) := Lib.hid ((show SpRow w _ l from ⟨_, _, rfl, hr⟩).below T0.bel)
  have HP := Lib.hid hp
  have HR := Lib.hid hR
  obtain ⟨c0, c1, c2⟩ := cells3 T0.b0
  clear hr hp hR
  have HT0 := Lib.hid T0
  clear T0
  go_enter Try.func13, Try.ntmps13
  go_wp2_with fail
  refine (right_any hi ca _ l _ HV0.out hl hhi hca HP.out).mono ?_
  rintro e W1 ⟨rfl, hb⟩
  rw [HR.out]
  have HT1 := Lib.hid (HT0.out.below hb)
  have HV1 := Lib.hid (HV0.out.below (hb.mono (by have := HT0.out.bel.size; omega)))
  clear hb c0 c1 c2
  obtain ⟨c0, c1, c2⟩ := cells3 HT1.out.b0
  go_wp2_with fail
  refine (copied_any _ _ _ l _ HV1.out hl).mono ?_
  rintro e W2 ⟨g, rfl, hg, hgb, hb⟩
  have HG2 := Lib.hid hgb
  have HT2 := Lib.hid (HT1.out.below hb)
  have HGl := Lib.hid (Nat.lt_of_lt_of_le HT1.out.size hg)
  clear hb c0 c1 c2 hg hgb
  obtain ⟨d0, d1, d2⟩ := cells3 HT2.out.b0
  have f0 : ∀ i, W2.frozen? ⟨w.heap.size, i, none⟩ = false := blk_frozen HT2.out.b0
  go_wp2_with fail
  have HNE : Hid (g ≠ w.heap.size ∧ g ≠ w.heap.size + 2) := Lib.hid (by have := HGl.out; omega)
  have HT3 := Lib.hid (((HT2.out.put 0 (.int .u32 (hi : Int)) _ _ _ rfl).put 1 (.int .u32 (ca : Int)) _ _ _ rfl).put 2 (.slice (some ⟨g, 0, none⟩) l.length l.length) _ _ _ rfl)
  have HG3 := Lib.hid (far_set (i := 2) (far_set (i := 1) (far_set (i := 0) HG2.out HNE.out.1 (.int .u32 (hi : Int))) HNE.out.1 (.int .u32 (ca : Int))) HNE.out.1 (.slice (some ⟨g, 0, none⟩) l.length l.length))
  refine (index_any _ l (w.heap.size + 1) o _ (spRow_blk HG3.out) hl (blk_cell HT3.out.b1 0)).mono ?_
  rintro e W4 ⟨⟨i, rfl, hi4⟩, hb⟩
  have HT4 := Lib.hid (HT3.out.below hb)
  have HG4 := Lib.hid (keep_b HG3.out hb)
  clear hb d0 d1 d2 f0 HT2 HT3 HG2 HG3 HT1 HT0 HV1 HV0
  rcases hi4 with ⟨rfl, hall⟩ | ⟨k, hk, rfl, hko, hkj⟩
  · obtain ⟨d0, d1, d2⟩ := cells3 HT4.out.b0
    obtain ⟨e0, e1, e2⟩ := cells3 HT4.out.b2
    have f0 : ∀ i, W4.frozen? ⟨w.heap.size, i, none⟩ = false := blk_frozen HT4.out.b0
    have f2 : ∀ i, W4.frozen? ⟨w.heap.size + 2, i, none⟩ = false := blk_frozen HT4.out.b2
    have HA := Lib.hid hall
    clear hall
    by_cases hf : hi = ca
    · have hf' : ((hi : Int) == (ca : Int)) = true := by simp [hf]
      have HF := Lib.hid hf
      clear hf
      go_wp2
      have HE := ((HT4.out.res 0 (.int .u32 (hi : Int)) _ _ _ rfl).res 1 (.int .u32 (ca : Int)) _ _ _ rfl).res 2 (.slice (some ⟨g, 0, none⟩) l.length l.length) _ _ _ rfl
      refine bodyPost_ret (res_cell_tmp2 rfl rfl HE.b2 Try.underlying25 rfl (by kernel_rfl)) rfl (.inr ⟨HA.out, g, by have := HGl.out; omega, ?_, HE.bel, .inl ⟨HF.out, rfl⟩⟩)
      exact far_set (i := 2) (far_set (i := 1) (far_set (i := 0) HG4.out HNE.out.2 _) HNE.out.2 _) HNE.out.2 _
    · have hlt : hi < ca := by
        have := ((right_iff hi ca l).1 HR.out).2.2.2.1
        omega
      have hf' : ((hi : Int) == (ca : Int)) = false := by simp; omega
      have hw : IntKind.u32.wrap ((hi : Int) + 1) = (hi : Int) + 1 := by rw [IntKind.wrap_u32]; omega
      have hw2 : IntKind.u32.wrap ((hi : Int) + 1 - 1) = (hi : Int) := by rw [IntKind.wrap_u32]; omega
      have HF := Lib.hid hf
      clear hf
      go_wp2
      have HT5 := Lib.hid (HT4.out.put 0 (.int .u32 ((hi : Int) + 1)) _ _ _ rfl)
      have HG5 := Lib.hid (far_set (b := w.heap.size) (i := 0) HG4.out HNE.out.1 (.int .u32 ((hi : Int) + 1)))
      obtain ⟨W5, hW5⟩ : ∃ W5, W4.setCell ⟨w.heap.size, 0, none⟩ (.int .u32 ((hi : Int) + 1)) = W5 := ⟨_, rfl⟩
      rw [hW5] at HT5 HG5 ⊢
      clear d0 d1 d2 e0 e1 e2 f0 f2 hW5
      obtain ⟨d0, d1, d2⟩ := cells3 HT5.out.b0
      obtain ⟨e0, e1, e2⟩ := cells3 HT5.out.b2
      have f2 : ∀ i, W5.frozen? ⟨w.heap.size + 2, i, none⟩ = false := blk_frozen HT5.out.b2
      have HE := ((HT5.out.res 0 (.int .u32 ((hi : Int) + 1)) _ _ _ rfl).res 1 (.int .u32 (ca : Int)) _ _ _ rfl).res 2 (.slice (some ⟨g, 0, none⟩) l.length l.length) _ _ _ rfl
      have HC := Lib.hid (cells3 HE.b0)
      have HEH := Lib.hid HE
      have hw3 : IntKind.u32.wrap (hi : Int) = (hi : Int) := by rw [IntKind.wrap_u32]; omega
      clear HE
      go_region_held3 (fun W => W.cell? ⟨w.heap.size, 0, none⟩ = some (.int .u32 ((hi : Int) + 1)) ∧ W.cell? ⟨w.heap.size, 1, none⟩ = some (.int .u32 (ca : Int)) ∧ W.cell? ⟨w.heap.size, 2, none⟩ = some (.slice (some ⟨g, 0, none⟩) l.length l.length)) (first | exact ⟨d0, d1, d2⟩ | exact HC.out) (fail)
      all_goals (
        go_wp2
        refine bodyPost_ret (res_cell_tmp2 rfl rfl (blk_drew HEH.out.b2) Try.underlying25 rfl (by kernel_rfl)) rfl (.inr ⟨HA.out, g, by have := HGl.out; omega, ?_, Below.drew HEH.out.bel, .inr ⟨HF.out, rfl⟩⟩)
        exact blk_drew (far_set (i := 2) (far_set (i := 1) (far_set (i := 0) HG5.out HNE.out.2 _) HNE.out.2 _) HNE.out.2 _))
  · have hlt' : (k : Int) < (l.length : Int) := by omega
    obtain ⟨d0, d1, d2⟩ := cells3 HT4.out.b0
    obtain ⟨e0, e1, e2⟩ := cells3 HT4.out.b2
    have f0 : ∀ i, W4.frozen? ⟨w.heap.size, i, none⟩ = false := blk_frozen HT4.out.b0
    have f2 : ∀ i, W4.frozen? ⟨w.heap.size + 2, i, none⟩ = false := blk_frozen HT4.out.b2
    obtain ⟨p, hpk⟩ : ∃ p, (l[k]'hk).1 = p := ⟨_, rfl⟩
    have g0 : W4.cell? ⟨g, k * 2, none⟩ = some (.int .u32 (p : Int)) := by
      rw [blk_cell HG4.out, ← hpk]
      simpa using (sp_get l k hk).1
    have HX := Lib.hid (And.intro hpk (And.intro hko hkj))
    clear hpk hko hkj
    go_wp2_with fail
    refine (delete_one g k (k + 1) l.length _ (by push_cast; rfl) rfl l _ rfl hk hl HG4.out).mono ?_
    rintro e W5 ⟨rfl, hg5, hb5⟩
    have hbg := hb5 g W4 (Below.refl _ _) (Nat.le_refl _)
    have HT5 : Hid (TkW w W5 (.int .u32 (hi : Int)) (.int .u32 (ca : Int)) (.slice (some ⟨g, 0, none⟩) l.length l.length) (.int .u64 (o : Int)) (.int .u32 0) (.int .u32 0) (.slice none 0 0)) := Lib.hid (by
      have hz := HGl.out
      exact ⟨(hbg.block _ (by omega)).trans HT4.out.b0, (hbg.block _ (by omega)).trans HT4.out.b1, (hbg.block _ (by omega)).trans HT4.out.b2, hb5 _ _ HT4.out.bel (by omega)⟩)
    have HG5 := Lib.hid hg5
    clear hg5 hb5 hbg d0 d1 d2 e0 e1 e2 f0 f2 g0
    obtain ⟨d0, d1, d2⟩ := cells3 HT5.out.b0
    obtain ⟨e0, e1, e2⟩ := cells3 HT5.out.b2
    have f0 : ∀ i, W5.frozen? ⟨w.heap.size, i, none⟩ = false := blk_frozen HT5.out.b0
    have f2 : ∀ i, W5.frozen? ⟨w.heap.size + 2, i, none⟩ = false := blk_frozen HT5.out.b2
    go_wp2
    have HE := (((HT5.out.put 2 (.slice (some ⟨g, 0, none⟩) (l.length - 1) l.length) _ _ _ rfl).res 0 (.int .u32 (hi : Int)) _ _ _ rfl).res 1 (.int .u32 (ca : Int)) _ _ _ rfl).res 2 (.slice (some ⟨g, 0, none⟩) (l.length - 1) l.length) _ _ _ rfl
    refine bodyPost_ret (res_cell_tmp2 rfl rfl HE.b2 Try.underlying25 rfl (by kernel_rfl)) rfl (.inl ⟨k, hk, g, HX.out.2.1, HX.out.2.2, by rw [HX.out.1]; rfl, by have := HGl.out; omega, ?_, HE.bel⟩)
    exact far_set (i := 2) (far_set (i := 1) (far_set (i := 0) (far_set (i := 2) HG5.out HNE.out.1 _) HNE.out.2 _) HNE.out.2 _) HNE.out.2 _
end Go.Proofs.Ytnbmpcdomdaimaa
