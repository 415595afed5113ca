/- What alloc.Give answers. -/
import Derived.Test.YtnbmpcdomdaimaaTk
import Derived.Test.YtnbmpcdomdaimaaIns
import Derived.Test.YtnbmpcdomdaimaaBs
namespace Go.Proofs.Ytnbmpcdomdaimaa
open Go.RowKit
set_option linter.unusedVariables false
set_option linter.unusedSimpArgs false

/-- The two blocks of Give: the alloc, the answer. -/
structure GvW (w W : World) (a0 a1 a2 r0 r1 r2 : Value) : Prop where
  b0 : W.heap[w.heap.size]? = some (.cells #[a0, a1, a2] 25 (0, 0))
  b1 : W.heap[w.heap.size + 1]? = some (.cells #[r0, r1, r2] 25 (0, 0))
  bel : Below w.heap.size w W
section
variable {w W W' : World} {a0 a1 a2 r0 r1 r2 : Value}
theorem GvW.size (h : GvW w W a0 a1 a2 r0 r1 r2) : w.heap.size + 1 < W.heap.size := (Array.getElem?_eq_some_iff.1 h.b1).1
theorem GvW.below (h : GvW w W a0 a1 a2 r0 r1 r2) (hb : Below W.heap.size W W') : GvW w W' a0 a1 a2 r0 r1 r2 :=
  ⟨keep_b h.b0 hb, keep_b h.b1 hb, h.bel.trans (hb.mono h.bel.size)⟩
theorem GvW.alloc (h : GvW w W a0 a1 a2 r0 r1 r2) (o : Obj) : GvW w (W.alloc o) a0 a1 a2 r0 r1 r2 := h.below ((Below.refl _ W).alloc (Nat.le_refl _) _)
theorem GvW.put (h : GvW w W a0 a1 a2 r0 r1 r2) (i : Nat) (u : Value) : ∀ x0 x1 x2, (#[a0, a1, a2] : Array Value).setIfInBounds i u = #[x0, x1, x2] → GvW w (W.setCell ⟨w.heap.size, i, none⟩ u) x0 x1 x2 r0 r1 r2 :=
  fun x0 x1 x2 hx => ⟨by rw [blk_set h.b0 i u, hx], (Below.heap_setCell _ _ _ _ (by simp)).trans h.b1, h.bel.setCell (p := ⟨w.heap.size, i, none⟩) (Nat.le_refl _) u⟩
theorem GvW.res (h : GvW w W a0 a1 a2 r0 r1 r2) (i : Nat) (u : Value) : ∀ x0 x1 x2, (#[r0, r1, r2] : Array Value).setIfInBounds i u = #[x0, x1, x2] → GvW w (W.setCell ⟨w.heap.size + 1, i, none⟩ u) a0 a1 a2 x0 x1 x2 :=
  fun x0 x1 x2 hx => ⟨(Below.heap_setCell _ _ _ _ (by simp)).trans h.b0, by rw [blk_set h.b1 i u, hx], h.bel.setCell (p := ⟨w.heap.size + 1, i, none⟩) (by simp) u⟩
theorem GvW.bad (h : GvW w W a0 a1 a2 r0 r1 r2) : GvW w (((W.setCell ⟨w.heap.size + 1, 0, none⟩ (.int .u32 0)).setCell ⟨w.heap.size + 1, 1, none⟩ (.int .u32 0)).setCell ⟨w.heap.size + 1, 2, none⟩ (.slice none 0 0)) a0 a1 a2 (.int .u32 0) (.int .u32 0) (.slice none 0 0) :=
  ((h.res 0 (.int .u32 0) _ _ _ rfl).res 1 (.int .u32 0) _ _ _ rfl).res 2 (.slice none 0 0) _ _ _ rfl
end
theorem gvW_new (w : World) (a0 a1 a2 : Value) : GvW w ((w.alloc (.cells #[a0, a1, a2] 25)).alloc (.cells #[.int .u32 0, .int .u32 0, .slice none 0 0] 25)) a0 a1 a2 (.int .u32 0) (.int .u32 0) (.slice none 0 0) := by
  have h1 := heap_alloc_new (w.alloc (.cells #[a0, a1, a2] 25)) (.cells #[.int .u32 0, .int .u32 0, .slice none 0 0] 25)
  simp only [World.size_alloc] at h1
  exact ⟨keep_a _ (heap_alloc_new w _), h1, ((Below.refl _ w).alloc (Nat.le_refl _) _).alloc (by simp) _⟩

theorem Row44.far {w : World} {g c b : Nat} {l : List Sp} (h : Row44 w g c l) (hne : g ≠ b) (i : Nat) (u : Value) : Row44 (w.setCell ⟨b, i, none⟩ u) g c l := by
  obtain ⟨cur, h1, h2⟩ := h
  exact ⟨cur, far_set h1 hne u, h2⟩
def gOk (hi ca : Nat) (l : List Sp) (pg tx : Nat) : Bool := right hi ca l && (decide (2 ≤ pg) && decide (pg < hi)) && decide (tx ≠ 0) && decide (l.length ≠ 4096) && !(l.any fun s => s.1 == pg)

def GvPost (hi ca : Nat) (l : List Sp) (pg tx : Nat) (w : World) (e : Ending) (w' : World) : Prop :=
  (gOk hi ca l pg tx = false ∧ e = .returned (.tuple #[.agg #[.int .u32 0, .int .u32 0, .slice none 0 0], .int .i64 50]) ∧ Below w.heap.size w w') ∨
  (gOk hi ca l pg tx = true ∧ ∃ g c k, e = .returned (.tuple #[.agg #[.int .u32 (hi : Int), .int .u32 (ca : Int), .slice (some ⟨g, 0, none⟩) (l.length + 1) c], .int .i64 0]) ∧ w.heap.size ≤ g ∧ l.length + 1 ≤ c ∧ c ≤ maxLen ∧
    Row44 w' g c (l.take k ++ (pg, tx) :: l.drop k) ∧ k ≤ l.length ∧ (∀ j (h : j < l.length), j < k → (l[j]'h).1 < pg) ∧ (∀ j (h : j < l.length), k ≤ j → pg < (l[j]'h).1) ∧ Below w.heap.size w w')

theorem good_ord {m : Nat} : ∀ {l : List Sp} {b : Nat}, Good m b l → Ord l := by
  intro l
  induction l with
  | nil => intro b h i j hi; simp at hi
  | cons x l ih =>
    intro b h i j hi hj hij
    cases j with
    | zero => omega
    | succ j =>
      cases i with
      | zero => exact (h.2.2.2.mem _ (List.getElem_mem (by simpa using hj))).1
      | succ i => exact ih h.2.2.2 i j (by simpa using hi) (by simpa using hj) (by omega)

set_option maxHeartbeats 2000000 in
set_option maxRecDepth 100000 in
theorem give_any (hi ca pg tx : Nat) (v : Value) (l : List Sp) (w : World) (hv : SpRow w v l) (hl : l.length ≤ 1000000) (hhi : hi < 4294967296) (hca : ca < 4294967296) (hpg : pg < 4294967296) (hp : ∀ s ∈ l, s.1 < 4294967296) :
    Calls Try.prog 15 #[.agg #[.int .u32 (hi : Int), .int .u32 (ca : Int), v], .int .u32 (pg : Int), .int .u64 (tx : Int)] w (GvPost hi ca l pg tx w) := by
  obtain ⟨base, cap, rfl, hr⟩ := hv
  obtain ⟨W0, hW0⟩ : ∃ W0, (w.alloc (.cells #[.int .u32 (hi : Int), .int .u32 (ca : Int), .slice base l.length cap] 25)).alloc (.cells #[.int .u32 0, .int .u32 0, .slice none 0 0] 25) = W0 := ⟨_, rfl⟩
  have T0 : GvW w W0 (.int .u32 (hi : Int)) (.int .u32 (ca : Int)) (.slice base l.length cap) (.int .u32 0) (.int .u32 0) (.slice none 0 0) := by rw [← hW0]; exact gvW_new w _ _ _
  have HV0 : Hid (SpRow W0 (.slice base l.length cap) l) := Lib.hid ((show SpRow w _ l from ⟨_, _, rfl, hr⟩).below T0.bel)
  have HP := Lib.hid hp
  obtain ⟨c0, c1, c2⟩ := cells3 T0.b0
  clear hr hp
  have HT0 := Lib.hid T0
  clear T0
  cases hR : right hi ca l with
  | false =>
    have HR := Lib.hid hR
    clear hR
    go_enter Try.func15, Try.ntmps15
    go_wp2_with fail
    refine (right_any hi ca _ l _ HV0.out hl hhi hca HP.out).mono ?_
    rintro e W1 ⟨rfl, hb⟩
    rw [HR.out]
    have HT1 := Lib.hid (HT0.out.below hb)
    clear hb c0 c1 c2
    obtain ⟨d0, d1, d2⟩ := cells3 HT1.out.b1
    have f0 : ∀ i, W1.frozen? ⟨w.heap.size + 1, i, none⟩ = false := blk_frozen HT1.out.b1
    go_wp2
    refine bodyPost_ret (res_cell_tmp rfl rfl HT1.out.bad.b1 Try.underlying25 rfl (by kernel_rfl)) rfl (.inl ⟨by simp [gOk, HR.out], rfl, HT1.out.bad.bel⟩)
  | true =>
    have HR := Lib.hid hR
    have h2 : 2 ≤ hi := ((right_iff hi ca l).1 hR).2.2.1
    have hw : IntKind.u32.wrap ((hi : Int) - 1) = (hi : Int) - 1 := by rw [IntKind.wrap_u32]; omega
    clear hR
    go_enter Try.func15, Try.ntmps15
    go_wp2_with fail
    refine (right_any hi ca _ l _ HV0.out hl hhi hca HP.out).mono ?_
    rintro e W1 ⟨rfl, hb⟩
    rw [HR.out]
    have HT1 := Lib.hid (HT0.out.below hb)
    have HV1 := Lib.hid (HV0.out.below (hb.mono (by have := HT0.out.bel.size; omega)))
    clear hb c0 c1 c2
    obtain ⟨c0, c1, c2⟩ := cells3 HT1.out.b0
    go_wp2_with fail
    have hfc : (W1.alloc (.cells #[.int .u32 (pg : Int)] 22)).cell? ⟨W1.heap.size, 0, none⟩ = some (.int .u32 (pg : Int)) := blk_cell (heap_alloc_new W1 _) 0
    refine (within_one 2 ((hi : Int) - 1) (pg : Int) W1.heap.size _ hfc).mono ?_
    rintro e W2' ⟨rfl, rfl⟩
    clear hfc
    have HT2 := Lib.hid (HT1.out.alloc (.cells #[.int .u32 (pg : Int)] 22))
    have HV2 := Lib.hid (HV1.out.below ((Below.refl _ W1).alloc (Nat.le_refl _) (.cells #[.int .u32 (pg : Int)] 22)))
    obtain ⟨W2, hW2⟩ : ∃ W2, W1.alloc (.cells #[.int .u32 (pg : Int)] 22) = W2 := ⟨_, rfl⟩
    rw [hW2] at HT2 HV2 ⊢
    clear hW2 c0 c1 c2
    obtain ⟨c0, c1, c2⟩ := cells3 HT2.out.b0
    obtain ⟨d0, d1, d2⟩ := cells3 HT2.out.b1
    have f0 : ∀ i, W2.frozen? ⟨w.heap.size, i, none⟩ = false := blk_frozen HT2.out.b0
    have f1 : ∀ i, W2.frozen? ⟨w.heap.size + 1, i, none⟩ = false := blk_frozen HT2.out.b1
    obtain ⟨wi, hwi⟩ : ∃ wi, (decide ((2 : Int) ≤ (pg : Int)) && decide ((pg : Int) ≤ (hi : Int) - 1)) = wi := ⟨_, rfl⟩
    rw [hwi]
    have hwi2 : (decide (2 ≤ pg) && decide (pg < hi)) = wi := by
      rw [← hwi, Bool.eq_iff_iff]; simp; omega
    have HWI := Lib.hid hwi2
    clear hwi hwi2
    cases wi with
    | false =>
      go_wp2
      refine bodyPost_ret (res_cell_tmp rfl rfl HT2.out.bad.b1 Try.underlying25 rfl (by kernel_rfl)) rfl (.inl ⟨by simp only [gOk, HWI.out]; simp, rfl, HT2.out.bad.bel⟩)
    | true =>
      by_cases htx : tx = 0
      · subst htx
        go_wp2
        refine bodyPost_ret (res_cell_tmp rfl rfl HT2.out.bad.b1 Try.underlying25 rfl (by kernel_rfl)) rfl (.inl ⟨by simp [gOk], rfl, HT2.out.bad.bel⟩)
      · have htx' : ((tx : Int) == 0) = false := by simp; omega
        have HTX := Lib.hid htx
        clear htx
        by_cases hln : l.length = 4096
        · have hln' : ((l.length : Int) == 4096) = true := by simp; omega
          have HLN := Lib.hid hln
          clear hln
          go_wp2
          refine bodyPost_ret (res_cell_tmp rfl rfl HT2.out.bad.b1 Try.underlying25 rfl (by kernel_rfl)) rfl (.inl ⟨by simp [gOk, HLN.out], rfl, HT2.out.bad.bel⟩)
        · have hln' : ((l.length : Int) == 4096) = false := by simp; omega
          have HLN := Lib.hid hln
          clear hln
          go_wp2_with fail
          have hord : Ord l := good_ord ((right_iff hi ca l).1 HR.out).2.2.2.2.2
          refine (search_any l.length pg _ l _ HV2.out rfl hl hpg HP.out hord).mono ?_
          rintro e W3 ⟨k, hk, hlo, hup, rfl, hb⟩
          have HT3 := Lib.hid (HT2.out.below hb)
          have HV3 := Lib.hid (HV2.out.below hb)
          have HK := Lib.hid (And.intro hk (And.intro hlo (And.intro hup hord)))
          clear hb hk hlo hup hord c0 c1 c2 d0 d1 d2 f0 f1
          obtain ⟨fd, hfd⟩ : ∃ fd, decide (∃ h : k < l.length, (l[k]'h).1 = pg) = fd := ⟨_, rfl⟩
          rw [hfd]
          have HFD := Lib.hid hfd
          clear hfd
          cases fd with
          | true =>
            obtain ⟨d0, d1, d2⟩ := cells3 HT3.out.b1
            have f1 : ∀ i, W3.frozen? ⟨w.heap.size + 1, i, none⟩ = false := blk_frozen HT3.out.b1
            go_wp2
            refine bodyPost_ret (res_cell_tmp rfl rfl HT3.out.bad.b1 Try.underlying25 rfl (by kernel_rfl)) rfl (.inl ⟨?_, rfl, HT3.out.bad.bel⟩)
            obtain ⟨h, hh⟩ := of_decide_eq_true HFD.out
            have : (l.any fun s => s.1 == pg) = true := List.any_eq_true.2 ⟨_, List.getElem_mem h, by simpa using hh⟩
            simp [gOk, this]
          | false =>
            have hOk : gOk hi ca l pg tx = true := by
              have hno : (l.any fun s => s.1 == pg) = false := by
                rw [List.any_eq_false]
                intro s hs
                obtain ⟨j, hj, rfl⟩ := List.getElem_of_mem hs
                have hx := of_decide_eq_false HFD.out
                have k0 := HK.out
                simp only [beq_iff_eq]
                intro he
                rcases Nat.lt_trichotomy j k with h | h | h
                · have := k0.2.1 j hj h; omega
                · subst h; exact hx ⟨hj, he⟩
                · have h1 := k0.2.2.2 k j (by omega) hj h
                  have h2 := k0.2.2.1 k (by omega) (Nat.le_refl _)
                  omega
              simp only [gOk, HR.out, HWI.out, hno]
              simp [HTX.out, HLN.out]
            have hup2 : ∀ j (h : j < l.length), k ≤ j → pg < (l[j]'h).1 := by
              intro j hj hkj
              have hx := of_decide_eq_false HFD.out
              have k0 := HK.out
              rcases Nat.lt_or_ge k j with h | h
              · have h1 := k0.2.2.2 k j (by omega) hj h
                have h2 := k0.2.2.1 k (by omega) (Nat.le_refl _)
                omega
              · obtain rfl : k = j := by omega
                have h2 := k0.2.2.1 k hj (Nat.le_refl _)
                rcases Nat.lt_or_ge pg (l[k]'hj).1 with h | h
                · exact h
                · exact absurd ⟨hj, by omega⟩ hx
            have HE := Lib.hid (And.intro hOk hup2)
            clear hOk hup2
            obtain ⟨c0, c1, c2⟩ := cells3 HT3.out.b0
            have f0 : ∀ i, W3.frozen? ⟨w.heap.size, i, none⟩ = false := blk_frozen HT3.out.b0
            go_wp2_with fail
            refine (copied_any _ _ _ l _ HV3.out hl).mono ?_
            rintro e W4 ⟨g, rfl, hg, hgb, hb⟩
            have HGl := Lib.hid (Nat.lt_of_lt_of_le HT3.out.size hg)
            have HT4 := Lib.hid ((((HT3.out.below hb).put 0 (.int .u32 (hi : Int)) _ _ _ rfl).put 1 (.int .u32 (ca : Int)) _ _ _ rfl).put 2 (.slice (some ⟨g, 0, none⟩) l.length l.length) _ _ _ rfl)
            have hne : g ≠ w.heap.size := by have := HGl.out; omega
            have HG4 := Lib.hid (far_set (i := 2) (far_set (i := 1) (far_set (i := 0) hgb hne (.int .u32 (hi : Int))) hne (.int .u32 (ca : Int))) hne (.slice (some ⟨g, 0, none⟩) l.length l.length))
            have HT3' := Lib.hid (HT3.out.below hb)
            clear hb hg hgb hne c0 c1 c2 f0
            obtain ⟨c0, c1, c2⟩ := cells3 HT3'.out.b0
            have f0 : ∀ i, W4.frozen? ⟨w.heap.size, i, none⟩ = false := blk_frozen HT3'.out.b0
            go_wp2_with fail
            obtain ⟨W5, hW5⟩ : ∃ W5, ((W4.setCell ⟨w.heap.size, 0, none⟩ (.int .u32 (hi : Int))).setCell ⟨w.heap.size, 1, none⟩ (.int .u32 (ca : Int))).setCell ⟨w.heap.size, 2, none⟩ (.slice (some ⟨g, 0, none⟩) l.length l.length) = W5 := ⟨_, rfl⟩
            have hz : W4.heap.size = W5.heap.size := by rw [← hW5]; simp [World.setCell]
            rw [hW5] at HT4 HG4 ⊢
            rw [hz]
            clear hW5 hz c0 c1 c2 f0 HT3'
            have hsrc : ∀ j u, (sp [(pg, tx)])[j]? = some u → (W5.alloc (.cells #[.int .u32 (pg : Int), .int .u64 (tx : Int)] 44)).cell? ((⟨W5.heap.size, 0, none⟩ : Addr).add j) = some u := by
              intro j u hj
              rw [add_plain, blk_cell (heap_alloc_new W5 _)]
              simpa [sp] using hj
            have hins : Calls Try.prog 32 #[.slice (some ⟨g, 0, none⟩) l.length l.length, .int .i64 (k : Int), .slice (some ⟨W5.heap.size, 0, none⟩) 1 1] (W5.alloc (.cells #[.int .u32 (pg : Int), .int .u64 (tx : Int)] 44)) (InsPost l.length l k (pg, tx) (W5.alloc (.cells #[.int .u32 (pg : Int), .int .u64 (tx : Int)] 44))) := by
              rcases Nat.lt_or_ge k l.length with h | h
              · exact insert_mid g k l.length _ (pg, tx) l _ rfl h hl (keep_a _ HG4.out) hsrc
              · obtain rfl : k = l.length := by have := HK.out.1; omega
                exact insert_end g l.length _ (pg, tx) l _ rfl hl (keep_a _ HG4.out) hsrc
            clear hsrc
            refine hins.mono ?_
            clear hins
            rintro e W7 ⟨g7, c7, rfl, hg7, hc7, hcm, hrow, hb⟩
            have HT6 := Lib.hid (HT4.out.alloc (.cells #[.int .u32 (pg : Int), .int .u64 (tx : Int)] 44))
            have HT7 := Lib.hid (HT6.out.below hb)
            have HH := Lib.hid (And.intro hcm hrow)
            have hne : g7 ≠ w.heap.size ∧ g7 ≠ w.heap.size + 1 ∧ w.heap.size ≤ g7 := by have := HT6.out.size; omega
            have HNE := Lib.hid hne
            clear hb hcm hrow hne hg7
            obtain ⟨c0, c1, c2⟩ := cells3 HT7.out.b0
            obtain ⟨d0, d1, d2⟩ := cells3 HT7.out.b1
            have f0 : ∀ i, W7.frozen? ⟨w.heap.size, i, none⟩ = false := blk_frozen HT7.out.b0
            have f1 : ∀ i, W7.frozen? ⟨w.heap.size + 1, i, none⟩ = false := blk_frozen HT7.out.b1
            go_wp2
            have HX := (((HT7.out.put 2 (.slice (some ⟨g7, 0, none⟩) (l.length + 1) c7) _ _ _ rfl).res 0 (.int .u32 (hi : Int)) _ _ _ rfl).res 1 (.int .u32 (ca : Int)) _ _ _ rfl).res 2 (.slice (some ⟨g7, 0, none⟩) (l.length + 1) c7) _ _ _ rfl
            refine bodyPost_ret (res_cell_tmp rfl rfl HX.b1 Try.underlying25 rfl (by kernel_rfl)) rfl (.inr ⟨HE.out.1, g7, c7, k, rfl, HNE.out.2.2, hc7, HH.out.1, ?_, HK.out.1, HK.out.2.1, HE.out.2, HX.bel⟩)
            exact (((HH.out.2.far HNE.out.1 _ _).far HNE.out.2.1 _ _).far HNE.out.2.1 _ _).far HNE.out.2.1 _ _
end Go.Proofs.Ytnbmpcdomdaimaa
