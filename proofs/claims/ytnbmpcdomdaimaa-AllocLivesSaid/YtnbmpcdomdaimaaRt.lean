/- What alloc.Right answers. -/
import Derived.Test.YtnbmpcdomdaimaaPi
import Derived.Test.YtnbmpcdomdaimaaWi
namespace Go.Proofs.Ytnbmpcdomdaimaa
open Go.RowKit
set_option linter.unusedVariables false
set_option linter.unusedSimpArgs false
attribute [local go_sem] Oper.semAt_some

set_option maxHeartbeats 1000000 in
set_option maxRecDepth 100000 in
theorem pairs_any (v : Value) (w : World) (hv : ∃ a n c, v = .slice a n c) :
    Calls Try.prog 33 #[v] w fun e w' => e = .returned (.func (.func 40) #[] #[.pointer (some ⟨w.heap.size, 0, none⟩)]) ∧ w.alloc (.cells #[v] 23) = w' := by
  obtain ⟨a, n, c, rfl⟩ := hv
  have hmf : ∀ (fn : Fn) (first cap : Array Value) (w : World), (Instr.makeFunc fn first cap).run Try.prog w = .ok (.func fn first cap) w := fun _ _ _ _ => rfl
  go_enter Try.func33, Try.ntmps33
  go_wp2
  go_ret
  exact ⟨rfl, rfl⟩

theorem fresh_cell (W : World) (x : Value) (t : TypeId) : (W.alloc (.cells #[x] t)).cell? ⟨W.heap.size, 0, none⟩ = some x := blk_cell (heap_alloc_new W _) 0

/-- One spare behind the one ahead of it: is it right? -/
def okP (m : Nat) (x : Sp × Sp) : Bool := decide (2 ≤ x.2.1) && decide (x.2.1 ≤ m) && decide (x.2.2 ≠ 0) && (decide (x.1 = (0, 0)) || decide (x.1.1 < x.2.1))
theorem okFrom_prs (m : Nat) : ∀ (l : List Sp) (old : Sp), okFrom m old l = (prs old l).all (okP m) := by
  intro l
  induction l with
  | nil => intro old; rfl
  | cons s l ih => intro old; rw [prs, List.all_cons, okFrom, ih s]; rfl

/-- What the loop keeps. -/
def RI (w : World) (m bq bn b0 : Nat) (A : Value) (box : Array Value) (pre : List (Sp × Sp)) (W : World) : Prop :=
  W.heap[bq]? = some (.cells #[A] 4 (0, 0)) ∧ W.heap[bn]? = some (.cells #[.int .u32 0, .int .u64 0] 44 (0, 0)) ∧ W.heap[b0]? = some (.cells box 25 (0, 0)) ∧ Below b0 w W ∧ pre.all (okP m) = true
/-- How it is left early. -/
def RX (w : World) (m bq b0 : Nat) (q : Code) (pre : List (Sp × Sp)) (W : World) : Prop :=
  q = .exit 0 ∧ W.heap[bq]? = some (.cells #[.bool false] 4 (0, 0)) ∧ Below b0 w W ∧ pre.all (okP m) = false

theorem own_lt {w : World} {v : Value} {l : List Sp} (h : SpRow w v l) (hne : l ≠ []) {k : Nat} (hk : v.ownBlock = some k) : k < w.heap.size := by
  obtain ⟨base, cap, rfl, h⟩ := h
  obtain ⟨a, rfl, hc⟩ := h.resolve_left hne
  obtain rfl : a.block = k := by simpa [Value.ownBlock] using hk
  have := cell_lt (hc 0 (List.length_pos_iff.2 hne)).1
  have e : (a.add (0 * 2)).block = a.block := by unfold Addr.add; split <;> rfl
  rwa [e] at this
theorem okP_low {m o1 o2 s1 s2 : Nat} (h : (decide ((2 : Int) ≤ (s1 : Int)) && decide ((s1 : Int) ≤ (m : Int))) = false) : okP m ((o1, o2), (s1, s2)) = false := by
  have e1 : decide ((2 : Int) ≤ (s1 : Int)) = decide (2 ≤ s1) := by rw [decide_eq_decide]; omega
  have e2 : decide ((s1 : Int) ≤ (m : Int)) = decide (s1 ≤ m) := by rw [decide_eq_decide]; omega
  rw [e1, e2] at h
  simp only [okP, h, Bool.false_and]
theorem okP_high {m o1 o2 s1 s2 : Nat} (h : (decide ((2 : Int) ≤ (s1 : Int)) && decide ((s1 : Int) ≤ (m : Int))) = true) (h2 : s2 ≠ 0) : okP m ((o1, o2), (s1, s2)) = (decide (((o1, o2) : Sp) = (0, 0)) || decide (o1 < s1)) := by
  have e1 : decide ((2 : Int) ≤ (s1 : Int)) = decide (2 ≤ s1) := by rw [decide_eq_decide]; omega
  have e2 : decide ((s1 : Int) ≤ (m : Int)) = decide (s1 ≤ m) := by rw [decide_eq_decide]; omega
  rw [e1, e2] at h
  simp only [okP, h, Bool.true_and, show decide (s2 ≠ 0) = true by simpa using h2]
theorem all_prefix {m : Nat} {pre xs : List (Sp × Sp)} (h : pre <+: xs) (hp : pre.all (okP m) = false) : xs.all (okP m) = false := by
  obtain ⟨r, rfl⟩ := h
  rw [List.all_append, hp, Bool.false_and]
theorem right_eq (hi ca m : Nat) (l : List Sp) (hm : IntKind.u32.wrap ((hi : Int) - 1) = (m : Int)) (hhi : hi < 4294967296) :
    right hi ca l = ((decide ((2 : Int) ≤ (ca : Int)) && decide ((ca : Int) ≤ 16384)) && (decide ((2 : Int) ≤ (hi : Int)) && decide ((hi : Int) ≤ (ca : Int))) && decide ((l.length : Int) ≤ 4096) && (prs (0, 0) l).all (okP m)) := by
  rw [IntKind.wrap_u32] at hm
  by_cases h2 : 2 ≤ hi
  · obtain rfl : m = hi - 1 := by omega
    rw [← okFrom_prs, Bool.eq_iff_iff]
    simp only [right, Bool.and_eq_true, decide_eq_true_eq]
    constructor
    · rintro ⟨⟨⟨⟨⟨a, b⟩, c⟩, d⟩, e⟩, f⟩; exact ⟨⟨⟨⟨by omega, by omega⟩, by omega, by omega⟩, by omega⟩, f⟩
    · rintro ⟨⟨⟨⟨a, b⟩, c, d⟩, e⟩, f⟩; exact ⟨⟨⟨⟨⟨by omega, by omega⟩, by omega⟩, by omega⟩, by omega⟩, f⟩
  · have e1 : decide (2 ≤ hi) = false := by simpa using h2
    have e2 : decide ((2 : Int) ≤ (hi : Int)) = false := by simp; omega
    simp [right, e1, e2]

set_option maxHeartbeats 2000000 in
set_option maxRecDepth 100000 in
theorem right_any (hi ca : Nat) (v : Value) (l : List Sp) (w : World) (hv : SpRow w v l) (hl : l.length ≤ 1000000) (hhi : hi < 4294967296) (hca : ca < 4294967296) (hp : ∀ s ∈ l, s.1 < 4294967296) :
    Calls Try.prog 17 #[.agg #[.int .u32 (hi : Int), .int .u32 (ca : Int), v]] w fun e w' => e = .returned (.bool (right hi ca l)) ∧ Below w.heap.size w w' := by
  refine (callsIn_wide (n := 9)).1 ?_
  refine callsIn_of_wp_marks Try.func17 rfl trivial ?_ rfl
  simp only [Try.ntmps17, List.size_toArray, List.length_cons, List.length_nil, Nat.reduceAdd, Nat.reduceSub, Array.replicate_succ, Array.replicate_zero, List.push_toArray, List.append_toArray, List.nil_append, List.cons_append]
  obtain ⟨base, cap, rfl, hr⟩ := hv
  have HV : Hid (SpRow w (.slice base l.length cap) l) := Lib.hid ⟨_, _, rfl, hr⟩
  clear hr
  obtain ⟨W0, hW0⟩ : ∃ W0, w.alloc (.cells #[.int .u32 (hi : Int), .int .u32 (ca : Int), .slice base l.length cap] 25) = W0 := ⟨_, rfl⟩
  have k0 : W0.heap[w.heap.size]? = some (.cells #[.int .u32 (hi : Int), .int .u32 (ca : Int), .slice base l.length cap] 25 (0, 0)) := by rw [← hW0]; exact heap_alloc_new w _
  have hb0 : Below w.heap.size w W0 := by rw [← hW0]; exact (Below.refl _ w).alloc (Nat.le_refl _) _
  obtain ⟨c0, c1, c2⟩ := cells3 k0
  have k1 := keep_a (.cells #[.int .u32 (ca : Int)] 22) k0
  obtain ⟨d0, d1, d2⟩ := cells3 k1
  have k2 := keep_a (.cells #[.int .u32 (hi : Int)] 22) k1
  obtain ⟨e0, e1, e2⟩ := cells3 k2
  have HK := Lib.hid (And.intro k0 hb0)
  clear k0 k1 k2 hb0
  gi_wp2
  refine wpIn_scope ?_
  gi_wp2_with fail
  refine ⟨trivial, ?_⟩
  refine (callsIn_wide.2 (within_one 2 16384 (ca : Int) W0.heap.size _ (fresh_cell W0 _ 22))).mono ?_
  rintro e w' ⟨rfl, rfl⟩
  obtain ⟨m, hm⟩ : ∃ m : Nat, IntKind.u32.wrap ((hi : Int) - 1) = (m : Int) := ⟨(IntKind.u32.wrap ((hi : Int) - 1)).toNat, by rw [IntKind.wrap_u32]; omega⟩
  by_cases b1 : (decide ((2 : Int) ≤ (ca : Int)) && decide ((ca : Int) ≤ 16384)) = true
  · simp only [b1]
    gi_wp2_with fail
    refine ⟨trivial, ?_⟩
    refine (callsIn_wide.2 (within_one 2 (ca : Int) (hi : Int) (W0.heap.size + 1) _ (by have := fresh_cell (W0.alloc (.cells #[.int .u32 (ca : Int)] 22)) (.int .u32 (hi : Int)) 22; rwa [World.size_alloc] at this))).mono ?_
    rintro e w' ⟨rfl, rfl⟩
    by_cases b2 : (decide ((2 : Int) ≤ (hi : Int)) && decide ((hi : Int) ≤ (ca : Int))) = true
    · simp only [b2]
      gi_wp2_with fail
      obtain ⟨Wp, hWp⟩ : ∃ Wp, ((W0.alloc (.cells #[.int .u32 (ca : Int)] 22)).alloc (.cells #[.int .u32 (hi : Int)] 22)) = Wp := ⟨_, rfl⟩
      have kp : Wp.heap[w.heap.size]? = some (.cells #[.int .u32 (hi : Int), .int .u32 (ca : Int), .slice base l.length cap] 25 (0, 0)) := by rw [← hWp]; first | exact keep_a _ (keep_a _ HK.out.1) | exact keep_a _ HK.out.1
      have bp : Below w.heap.size w Wp := by rw [← hWp]; first | exact (HK.out.2.alloc HK.out.2.size _).alloc (by have := HK.out.2.size; simp; omega) _ | exact HK.out.2.alloc HK.out.2.size _
      have hz : W0.heap.size + 1 + 1 = Wp.heap.size := by rw [← hWp]; simp
      have hlt := (Array.getElem?_eq_some_iff.1 kp).1
      obtain ⟨A, hA⟩ : ∃ A : Bool, decide ((l.length : Int) ≤ 4096) = A := ⟨_, rfl⟩
      rw [hWp, hz, hA]
      have HA := Lib.hid hA
      obtain ⟨W1, hW1⟩ : ∃ W1, (Wp.alloc (.cells #[.bool A] 4)).alloc (.cells #[.int .u32 0, .int .u64 0] 44) = W1 := ⟨_, rfl⟩
      obtain ⟨bq, hbq⟩ : ∃ bq, Wp.heap.size = bq := ⟨_, rfl⟩
      obtain ⟨bn, hbn⟩ : ∃ bn, bq + 1 = bn := ⟨_, rfl⟩
      have H1 : Hid (W1.heap[bq]? = some (.cells #[.bool A] 4 (0, 0)) ∧ W1.heap[bn]? = some (.cells #[.int .u32 0, .int .u64 0] 44 (0, 0)) ∧ W1.heap[w.heap.size]? = some (.cells #[.int .u32 (hi : Int), .int .u32 (ca : Int), .slice base l.length cap] 25 (0, 0)) ∧ Below w.heap.size w W1 ∧ w.heap.size < bq ∧ w.heap.size < bn ∧ bq ≠ bn) := Lib.hid (by
        have hn := heap_alloc_new (Wp.alloc (.cells #[.bool A] 4)) (.cells #[.int .u32 0, .int .u64 0] 44)
        rw [World.size_alloc] at hn
        rw [← hW1, ← hbn, ← hbq]
        exact ⟨keep_a _ (heap_alloc_new Wp _), hn, keep_a _ (keep_a _ kp), (bp.alloc bp.size _).alloc (by have := bp.size; simp; omega) _, hlt, by omega, by omega⟩)
      rw [hW1, hbq, hbn]
      clear hW1 hbq hbn hA hz hlt bp kp hWp
      apply wpIn_label
      have c2' : W1.cell? ⟨w.heap.size, 2, none⟩ = some (.slice base l.length cap) := blk_cell H1.out.2.2.1 2
      gi_wp2_with fail
      refine ⟨trivial, ?_⟩
      refine (callsIn_wide.2 (pairs_any _ _ ⟨_, _, _, rfl⟩)).mono ?_
      rintro e w' ⟨rfl, rfl⟩
      obtain ⟨Bl, hBl⟩ : ∃ Bl, W1.heap.size = Bl := ⟨_, rfl⟩
      obtain ⟨WR, hWR⟩ : ∃ WR, W1.alloc (.cells #[.slice base l.length cap] 23) = WR := ⟨_, rfl⟩
      have Z : Hid (WR.heap[Bl]? = some (.cells #[.slice base l.length cap] 23 (0, 0)) ∧ SpRow WR (.slice base l.length cap) l ∧ WR.heap[bq]? = some (.cells #[.bool A] 4 (0, 0)) ∧ WR.heap[bn]? = some (.cells #[.int .u32 0, .int .u64 0] 44 (0, 0)) ∧ WR.heap[w.heap.size]? = some (.cells #[.int .u32 (hi : Int), .int .u32 (ca : Int), .slice base l.length cap] 25 (0, 0)) ∧ Below w.heap.size w WR ∧ Bl < WR.heap.size ∧ bq < Bl ∧ bn < Bl ∧ w.heap.size < bq ∧ w.heap.size < bn ∧ bq ≠ bn) := Lib.hid (by
        have e := H1.out
        rw [← hWR, ← hBl]
        refine ⟨heap_alloc_new W1 _, HV.out.below (e.2.2.2.1.alloc e.2.2.2.1.size _), keep_a _ e.1, keep_a _ e.2.1, keep_a _ e.2.2.1, e.2.2.2.1.alloc e.2.2.2.1.size _, by simp, (Array.getElem?_eq_some_iff.1 e.1).1, (Array.getElem?_eq_some_iff.1 e.2.1).1, e.2.2.2.2.1, e.2.2.2.2.2.1, e.2.2.2.2.2.2⟩)
      rw [hBl, hWR]
      clear hWR hBl c2' H1
      gi_wp2_with fail
      refine wp_range (gf := 40) (lb := #[.pointer (some ⟨Bl, 0, none⟩)]) rfl (enters_of Try.func40 (by kernel_rfl) rfl)
        (pairs_iter 8 Bl (.slice base l.length cap) l WR hl Z.out.1 Z.out.2.1 (by omega)) (fun k h => h.elim) ?hRd (fun x => rfl)
        (RI w m bq bn w.heap.size (.bool A) #[.int .u32 (hi : Int), .int .u32 (ca : Int), .slice base l.length cap]) (RX w m bq w.heap.size) ?hI ?hIx ?h0
        (fun x a' W => ∃ b5 b6 u7 u8 u9 u10 u11 u12 u13 u14 u15 u16 u17 u18 u19 u20 u21 u22 u23 u24 u25 u26 u27 x31 x32 x33 x34 x35 x36 x37 x38 x39 x40 x41 x42 x43 x44 x45 x46 x47 x48 x49 x50 x51 x52 x53 x54 x55 x56, a' = { tmps := #[.agg #[.int .u32 (hi : Int), .int .u32 (ca : Int), .slice base l.length cap], .pointer (some ⟨w.heap.size, 0, none⟩), .bool false, .pointer (some ⟨bq, 0, none⟩), .pointer (some ⟨bn, 0, none⟩), .pointer (some ⟨b5, 0, none⟩), .pointer (some ⟨b6, 0, none⟩), u7, u8, u9, u10, u11, u12, u13, u14, u15, u16, u17, u18, u19, u20, u21, u22, u23, u24, u25, u26, u27, (.func (.func 40) #[] #[.pointer (some ⟨Bl, 0, none⟩)]), (spv x.1), (spv x.2), x31, x32, x33, x34, x35, x36, x37, x38, x39, x40, x41, x42, x43, x44, x45, x46, x47, x48, x49, x50, x51, x52, x53, x54, x55, x56], defers := [] } ∧ WR.heap.size + 2 ≤ b5 ∧ WR.heap.size + 2 ≤ b6 ∧ W.heap[b5]? = some (.cells #[.int .u32 (x.1.1 : Int), .int .u64 (x.1.2 : Int)] 44 (0, 0)) ∧ W.heap[b6]? = some (.cells #[.int .u32 (x.2.1 : Int), .int .u64 (x.2.2 : Int)] 44 (0, 0)))
        ?hAx ?assign ?body ?done ?stop
      case hRd =>
        rintro k (rfl | ⟨hne, hk⟩)
        · exact Z.out.2.2.2.2.2.2.1
        · have := own_lt HV.out hne hk
          have := Z.out.2.2.2.2.2.1.size
          omega
      case hI =>
        rintro pre A' B ⟨iq, inn, ib, ibel, iall⟩ hA hS
        have z := Z.out
        exact ⟨hS.at_ iq ⟨id, by omega⟩, hS.at_ inn ⟨id, by omega⟩, hS.at_ ib ⟨id, by omega⟩, ibel.trans (hS.below (by have := ibel.size; omega) (fun k hk => ⟨id, by have := z.2.2.2.2.2.1.size; omega⟩)), iall⟩
      case hIx =>
        rintro q pre A' B ⟨hq, iq, ibel, iall⟩ hA hS
        have z := Z.out
        exact ⟨hq, hS.at_ iq ⟨id, by omega⟩, ibel.trans (hS.below (by have := ibel.size; omega) (fun k hk => ⟨id, by have := z.2.2.2.2.2.1.size; omega⟩)), iall⟩
      case h0 => exact ⟨Z.out.2.2.1, Z.out.2.2.2.1, Z.out.2.2.2.2.1, Z.out.2.2.2.2.2.1, rfl⟩
      case hAx =>
        rintro x a' A' B ⟨b5, b6, u7, u8, u9, u10, u11, u12, u13, u14, u15, u16, u17, u18, u19, u20, u21, u22, u23, u24, u25, u26, u27, x31, x32, x33, x34, x35, x36, x37, x38, x39, x40, x41, x42, x43, x44, x45, x46, x47, x48, x49, x50, x51, x52, x53, x54, x55, x56, ha, h5, h6, k5, k6⟩ hA hS
        exact ⟨b5, b6, _, _, _, _, _, _, _, _, _, _, _, _, _, _, _, _, _, _, _, _, _, _, _, _, _, _, _, _, _, _, _, _, _, _, _, _, _, _, _, _, _, _, _, _, _, _, _, ha, h5, h6, hS.at_ k5 (by omega), hS.at_ k6 (by omega)⟩
      case assign =>
        intro lp pre x rest W K hxs hi' hlen hK
        dsimp only [encP, spv]
        gi_wp2
        obtain ⟨iq, inn, ib, ibel, iall⟩ := hi'
        have hn := heap_alloc_new (W.alloc (.cells #[.int .u32 (x.1.1 : Int), .int .u64 (x.1.2 : Int)] 44)) (.cells #[.int .u32 (x.2.1 : Int), .int .u64 (x.2.2 : Int)] 44)
        rw [World.size_alloc] at hn
        exact hK _ _ (((Same.refl _ W).alloc _).alloc _) ⟨keep_a _ (keep_a _ iq), keep_a _ (keep_a _ inn), keep_a _ (keep_a _ ib), (ibel.alloc ibel.size _).alloc (by have := ibel.size; simp; omega) _, iall⟩ ⟨W.heap.size, W.heap.size + 1, _, _, _, _, _, _, _, _, _, _, _, _, _, _, _, _, _, _, _, _, _, _, _, _, _, _, _, _, _, _, _, _, _, _, _, _, _, _, _, _, _, _, _, _, _, _, _, rfl, hlen, by omega, keep_a _ (heap_alloc_new W _), hn⟩
      case body =>
        rintro lp pre x rest a' W hxs ⟨iq, inn, ib, ibel, iall⟩ ⟨b5, b6, u7, u8, u9, u10, u11, u12, u13, u14, u15, u16, u17, u18, u19, u20, u21, u22, u23, u24, u25, u26, u27, x31, x32, x33, x34, x35, x36, x37, x38, x39, x40, x41, x42, x43, x44, x45, x46, x47, x48, x49, x50, x51, x52, x53, x54, x55, x56, rfl, h5, h6, k5, k6⟩ hlen
        have cb := blk_cell ib 0
        have c6 := blk_cell k6 0
        simp only [List.getElem?_toArray, List.getElem?_cons_zero] at cb c6
        have hne : w.heap.size < bq ∧ bq < WR.heap.size := ⟨Z.out.2.2.2.2.2.2.2.2.2.1, by have := Z.out; omega⟩
        obtain ⟨W', hW'⟩ : ∃ W', W.alloc (.cells #[.int .u32 (x.2.1 : Int)] 22) = W' := ⟨_, rfl⟩
        have hfc : W'.cell? ⟨W.heap.size, 0, none⟩ = some (.int .u32 (x.2.1 : Int)) := by rw [← hW']; exact fresh_cell W _ 22
        have q := And.intro (keep_a (.cells #[.int .u32 (x.2.1 : Int)] 22) iq) (And.intro (keep_a (.cells #[.int .u32 (x.2.1 : Int)] 22) inn) (And.intro (keep_a (.cells #[.int .u32 (x.2.1 : Int)] 22) ib) (And.intro (ibel.alloc ibel.size (.cells #[.int .u32 (x.2.1 : Int)] 22)) (And.intro (keep_a (.cells #[.int .u32 (x.2.1 : Int)] 22) k5) (And.intro (keep_a (.cells #[.int .u32 (x.2.1 : Int)] 22) k6) ((Same.refl (fun k => k ≠ bq) W).alloc (.cells #[.int .u32 (x.2.1 : Int)] 22)))))))
        rw [hW'] at q
        obtain ⟨qq, qn, qb, qbel, q5, q6, qs⟩ := q
        obtain ⟨n0, n1⟩ := cells2 qn
        obtain ⟨g0, g1⟩ := cells2 q5
        obtain ⟨g2, g3⟩ := cells2 q6
        have fq : ∀ i, W'.frozen? ⟨bq, i, none⟩ = false := blk_frozen qq
        have cq := blk_cell qq 0
        have QQ := Lib.hid (And.intro qq (And.intro qn (And.intro qb (And.intro qbel qs))))
        have IA := Lib.hid iall
        clear iq inn ib ibel iall k5 k6 qq qn qb qbel q5 q6 qs
        gi_wp2_with fail
        refine ⟨trivial, ?_⟩
        refine (CallsIn.inRound lp (callsIn_wide.2 (within_one 2 (m : Int) (x.2.1 : Int) W.heap.size _ hfc))).mono ?_
        rintro e w'' ⟨rfl, rfl⟩
        have hth : ∀ k, k < W.heap.size → Theirs WR (fun _ => False) (PRd Bl (.slice base l.length cap) l) 0 k → k ≠ bq := by
          rintro k _ (h | (rfl | ⟨hne', hk⟩) | h)
          · exact h.elim
          · have := Z.out; omega
          · have := own_lt HV.out hne' hk; omega
          · omega
        have hbad : okP m x = false → Same (Theirs WR (fun _ => False) (PRd Bl (.slice base l.length cap) l) 0) W (W'.setCell ⟨bq, 0, none⟩ (.bool false)) ∧ RX w m bq w.heap.size (.exit 0) (pre ++ [x]) (W'.setCell ⟨bq, 0, none⟩ (.bool false)) := fun hx =>
          ⟨(QQ.out.2.2.2.2.setCell (fun _ h => h rfl) _).mono hth, rfl, by simpa using blk_set QQ.out.1 0 (.bool false), QQ.out.2.2.2.1.setCell (by have := hne.1; simp; omega) _, by rw [List.all_append, List.all_cons, hx]; simp⟩
        have hgood : okP m x = true → Same (Theirs WR (fun _ => False) (PRd Bl (.slice base l.length cap) l) 0) W W' ∧ RI w m bq bn w.heap.size (.bool A) #[.int .u32 (hi : Int), .int .u32 (ca : Int), .slice base l.length cap] (pre ++ [x]) W' := fun hx =>
          ⟨QQ.out.2.2.2.2.mono hth, QQ.out.1, QQ.out.2.1, QQ.out.2.2.1, QQ.out.2.2.2.1, by rw [List.all_append, List.all_cons, IA.out, hx]; rfl⟩
        have HBad := Lib.hid hbad
        have HGood := Lib.hid hgood
        clear hbad hgood hth
        obtain ⟨⟨o1, o2⟩, ⟨s1, s2⟩⟩ := x
        dsimp only at *
        by_cases p1 : (decide ((2 : Int) ≤ (s1 : Int)) && decide ((s1 : Int) ≤ (m : Int))) = true
        · simp only [p1]
          by_cases p2 : s2 = 0
          · subst p2
            gi_wp2
            exact HBad.out (by simp [okP])
          · have p2' : ((s2 : Int) == 0) = false := by simp; omega
            have hk := okP_high (o1 := o1) (o2 := o2) p1 p2
            by_cases p3 : ((o1, o2) : Sp) = (0, 0)
            · obtain ⟨rfl, rfl⟩ : o1 = 0 ∧ o2 = 0 := by simpa using p3
              gi_wp2
              exact HGood.out (by rw [hk]; rfl)
            · have q3 : ((o1 : Int) == 0 && (o2 : Int) == 0) = false := by
                by_cases h1 : o1 = 0
                · by_cases h2 : o2 = 0
                  · exact absurd (by rw [h1, h2]) p3
                  · simp; omega
                · simp; omega
              have hkk : okP m ((o1, o2), (s1, s2)) = decide (o1 < s1) := by rw [hk, show decide (((o1, o2) : Sp) = (0, 0)) = false by simpa using p3]; rfl
              have HN : Hid (¬ (o1 = 0 ∧ o2 = 0)) := Lib.hid (fun h => p3 (by rw [h.1, h.2]))
              clear p3 q3
              by_cases z1 : o1 = 0
              · subst z1
                have z2 : ¬ o2 = 0 := fun h => HN.out ⟨rfl, h⟩
                have z3 : 2 ≤ s1 := by simp at p1; omega
                gi_wp2
                all_goals exact HGood.out (by rw [hkk]; simp; omega)
              · by_cases p4 : (s1 : Int) ≤ (o1 : Int)
                · gi_wp2
                  all_goals exact HBad.out (by rw [hkk]; simp; omega)
                · gi_wp2
                  all_goals exact HGood.out (by rw [hkk]; simp; omega)
        · simp only [Bool.not_eq_true] at p1
          simp only [p1]
          gi_wp2
          exact HBad.out (okP_low p1)
      case done =>
        rintro W ⟨iq, inn, ib, ibel, iall⟩ hsz hD
        have hq := blk_cell iq 0
        have HH := Lib.hid (And.intro iq (And.intro ibel (And.intro iall hD)))
        clear iq inn ib ibel iall hD
        gi_wp2
        rw [Exit.noGoto_ret]
        refine ⟨by simp, .inl ⟨_, _, rfl, run_takeDeferred HH.out.2.2.2, ?_⟩⟩
        refine ⟨_, results_tmp rfl _ _ _, ?_, ?_⟩
        · have hr := right_eq hi ca m l hm hhi
          rw [b1, b2, HA.out, HH.out.2.2.1] at hr
          rw [hr]
          simp
        · exact HH.out.2.1.trans (((Same.refl (fun k => k < w.heap.size) W).putObj _ (fun _ h => by have := Z.out.2.2.2.2.2.1.size; omega)).below (by have := HH.out.2.1.size; omega) fun k hk => hk)
      case stop =>
        rintro q pre W hpre ⟨rfl, iq, ibel, iall⟩ hsz hD
        have hq := blk_cell iq 0
        have HH := Lib.hid (And.intro iq (And.intro ibel (And.intro iall hD)))
        clear iq ibel iall hD
        gi_wp2
        rw [Exit.noGoto_ret]
        refine ⟨by simp, .inl ⟨_, _, rfl, run_takeDeferred HH.out.2.2.2, ?_⟩⟩
        refine ⟨_, results_tmp rfl _ _ _, ?_, ?_⟩
        · have hr := right_eq hi ca m l hm hhi
          rw [b1, b2, HA.out, all_prefix hpre HH.out.2.2.1] at hr
          rw [hr]
          simp
        · exact HH.out.2.1.trans (((Same.refl (fun k => k < w.heap.size) W).putObj _ (fun _ h => by have := Z.out.2.2.2.2.2.1.size; omega)).below (by have := HH.out.2.1.size; omega) fun k hk => hk)
    · simp only [Bool.not_eq_true] at b2
      simp only [b2]
      gi_wp2_with fail
      obtain ⟨Wp, hWp⟩ : ∃ Wp, ((W0.alloc (.cells #[.int .u32 (ca : Int)] 22)).alloc (.cells #[.int .u32 (hi : Int)] 22)) = Wp := ⟨_, rfl⟩
      have kp : Wp.heap[w.heap.size]? = some (.cells #[.int .u32 (hi : Int), .int .u32 (ca : Int), .slice base l.length cap] 25 (0, 0)) := by rw [← hWp]; first | exact keep_a _ (keep_a _ HK.out.1) | exact keep_a _ HK.out.1
      have bp : Below w.heap.size w Wp := by rw [← hWp]; first | exact (HK.out.2.alloc HK.out.2.size _).alloc (by have := HK.out.2.size; simp; omega) _ | exact HK.out.2.alloc HK.out.2.size _
      have hz : W0.heap.size + 1 + 1 = Wp.heap.size := by rw [← hWp]; simp
      have hlt := (Array.getElem?_eq_some_iff.1 kp).1
      obtain ⟨A, hA⟩ : ∃ A : Bool, false = A := ⟨_, rfl⟩
      rw [hWp, hz]
      subst hA
      obtain ⟨W1, hW1⟩ : ∃ W1, (Wp.alloc (.cells #[.bool false] 4)).alloc (.cells #[.int .u32 0, .int .u64 0] 44) = W1 := ⟨_, rfl⟩
      obtain ⟨bq, hbq⟩ : ∃ bq, Wp.heap.size = bq := ⟨_, rfl⟩
      obtain ⟨bn, hbn⟩ : ∃ bn, bq + 1 = bn := ⟨_, rfl⟩
      have H1 : Hid (W1.heap[bq]? = some (.cells #[.bool false] 4 (0, 0)) ∧ W1.heap[bn]? = some (.cells #[.int .u32 0, .int .u64 0] 44 (0, 0)) ∧ W1.heap[w.heap.size]? = some (.cells #[.int .u32 (hi : Int), .int .u32 (ca : Int), .slice base l.length cap] 25 (0, 0)) ∧ Below w.heap.size w W1 ∧ w.heap.size < bq ∧ w.heap.size < bn ∧ bq ≠ bn) := Lib.hid (by
        have hn := heap_alloc_new (Wp.alloc (.cells #[.bool false] 4)) (.cells #[.int .u32 0, .int .u64 0] 44)
        rw [World.size_alloc] at hn
        rw [← hW1, ← hbn, ← hbq]
        exact ⟨keep_a _ (heap_alloc_new Wp _), hn, keep_a _ (keep_a _ kp), (bp.alloc bp.size _).alloc (by have := bp.size; simp; omega) _, hlt, by omega, by omega⟩)
      rw [hW1, hbq, hbn]
      clear hW1 hbq hbn hz hlt bp kp hWp
      apply wpIn_label
      have c2' : W1.cell? ⟨w.heap.size, 2, none⟩ = some (.slice base l.length cap) := blk_cell H1.out.2.2.1 2
      gi_wp2_with fail
      refine ⟨trivial, ?_⟩
      refine (callsIn_wide.2 (pairs_any _ _ ⟨_, _, _, rfl⟩)).mono ?_
      rintro e w' ⟨rfl, rfl⟩
      obtain ⟨Bl, hBl⟩ : ∃ Bl, W1.heap.size = Bl := ⟨_, rfl⟩
      obtain ⟨WR, hWR⟩ : ∃ WR, W1.alloc (.cells #[.slice base l.length cap] 23) = WR := ⟨_, rfl⟩
      have Z : Hid (WR.heap[Bl]? = some (.cells #[.slice base l.length cap] 23 (0, 0)) ∧ SpRow WR (.slice base l.length cap) l ∧ WR.heap[bq]? = some (.cells #[.bool false] 4 (0, 0)) ∧ WR.heap[bn]? = some (.cells #[.int .u32 0, .int .u64 0] 44 (0, 0)) ∧ WR.heap[w.heap.size]? = some (.cells #[.int .u32 (hi : Int), .int .u32 (ca : Int), .slice base l.length cap] 25 (0, 0)) ∧ Below w.heap.size w WR ∧ Bl < WR.heap.size ∧ bq < Bl ∧ bn < Bl ∧ w.heap.size < bq ∧ w.heap.size < bn ∧ bq ≠ bn) := Lib.hid (by
        have e := H1.out
        rw [← hWR, ← hBl]
        refine ⟨heap_alloc_new W1 _, HV.out.below (e.2.2.2.1.alloc e.2.2.2.1.size _), keep_a _ e.1, keep_a _ e.2.1, keep_a _ e.2.2.1, e.2.2.2.1.alloc e.2.2.2.1.size _, by simp, (Array.getElem?_eq_some_iff.1 e.1).1, (Array.getElem?_eq_some_iff.1 e.2.1).1, e.2.2.2.2.1, e.2.2.2.2.2.1, e.2.2.2.2.2.2⟩)
      rw [hBl, hWR]
      clear hWR hBl c2' H1
      gi_wp2_with fail
      refine wp_range (gf := 40) (lb := #[.pointer (some ⟨Bl, 0, none⟩)]) rfl (enters_of Try.func40 (by kernel_rfl) rfl)
        (pairs_iter 8 Bl (.slice base l.length cap) l WR hl Z.out.1 Z.out.2.1 (by omega)) (fun k h => h.elim) ?hRd (fun x => rfl)
        (RI w m bq bn w.heap.size (.bool false) #[.int .u32 (hi : Int), .int .u32 (ca : Int), .slice base l.length cap]) (RX w m bq w.heap.size) ?hI ?hIx ?h0
        (fun x a' W => ∃ b5 b6 u7 u8 u9 u10 u11 u12 u13 u14 u15 u16 u17 u18 u19 u20 u21 u22 u23 u24 u25 u26 u27 x31 x32 x33 x34 x35 x36 x37 x38 x39 x40 x41 x42 x43 x44 x45 x46 x47 x48 x49 x50 x51 x52 x53 x54 x55 x56, a' = { tmps := #[.agg #[.int .u32 (hi : Int), .int .u32 (ca : Int), .slice base l.length cap], .pointer (some ⟨w.heap.size, 0, none⟩), .bool false, .pointer (some ⟨bq, 0, none⟩), .pointer (some ⟨bn, 0, none⟩), .pointer (some ⟨b5, 0, none⟩), .pointer (some ⟨b6, 0, none⟩), u7, u8, u9, u10, u11, u12, u13, u14, u15, u16, u17, u18, u19, u20, u21, u22, u23, u24, u25, u26, u27, (.func (.func 40) #[] #[.pointer (some ⟨Bl, 0, none⟩)]), (spv x.1), (spv x.2), x31, x32, x33, x34, x35, x36, x37, x38, x39, x40, x41, x42, x43, x44, x45, x46, x47, x48, x49, x50, x51, x52, x53, x54, x55, x56], defers := [] } ∧ WR.heap.size + 2 ≤ b5 ∧ WR.heap.size + 2 ≤ b6 ∧ W.heap[b5]? = some (.cells #[.int .u32 (x.1.1 : Int), .int .u64 (x.1.2 : Int)] 44 (0, 0)) ∧ W.heap[b6]? = some (.cells #[.int .u32 (x.2.1 : Int), .int .u64 (x.2.2 : Int)] 44 (0, 0)))
        ?hAx ?assign ?body ?done ?stop
      case hRd =>
        rintro k (rfl | ⟨hne, hk⟩)
        · exact Z.out.2.2.2.2.2.2.1
        · have := own_lt HV.out hne hk
          have := Z.out.2.2.2.2.2.1.size
          omega
      case hI =>
        rintro pre A' B ⟨iq, inn, ib, ibel, iall⟩ hA hS
        have z := Z.out
        exact ⟨hS.at_ iq ⟨id, by omega⟩, hS.at_ inn ⟨id, by omega⟩, hS.at_ ib ⟨id, by omega⟩, ibel.trans (hS.below (by have := ibel.size; omega) (fun k hk => ⟨id, by have := z.2.2.2.2.2.1.size; omega⟩)), iall⟩
      case hIx =>
        rintro q pre A' B ⟨hq, iq, ibel, iall⟩ hA hS
        have z := Z.out
        exact ⟨hq, hS.at_ iq ⟨id, by omega⟩, ibel.trans (hS.below (by have := ibel.size; omega) (fun k hk => ⟨id, by have := z.2.2.2.2.2.1.size; omega⟩)), iall⟩
      case h0 => exact ⟨Z.out.2.2.1, Z.out.2.2.2.1, Z.out.2.2.2.2.1, Z.out.2.2.2.2.2.1, rfl⟩
      case hAx =>
        rintro x a' A' B ⟨b5, b6, u7, u8, u9, u10, u11, u12, u13, u14, u15, u16, u17, u18, u19, u20, u21, u22, u23, u24, u25, u26, u27, x31, x32, x33, x34, x35, x36, x37, x38, x39, x40, x41, x42, x43, x44, x45, x46, x47, x48, x49, x50, x51, x52, x53, x54, x55, x56, ha, h5, h6, k5, k6⟩ hA hS
        exact ⟨b5, b6, _, _, _, _, _, _, _, _, _, _, _, _, _, _, _, _, _, _, _, _, _, _, _, _, _, _, _, _, _, _, _, _, _, _, _, _, _, _, _, _, _, _, _, _, _, _, _, ha, h5, h6, hS.at_ k5 (by omega), hS.at_ k6 (by omega)⟩
      case assign =>
        intro lp pre x rest W K hxs hi' hlen hK
        dsimp only [encP, spv]
        gi_wp2
        obtain ⟨iq, inn, ib, ibel, iall⟩ := hi'
        have hn := heap_alloc_new (W.alloc (.cells #[.int .u32 (x.1.1 : Int), .int .u64 (x.1.2 : Int)] 44)) (.cells #[.int .u32 (x.2.1 : Int), .int .u64 (x.2.2 : Int)] 44)
        rw [World.size_alloc] at hn
        exact hK _ _ (((Same.refl _ W).alloc _).alloc _) ⟨keep_a _ (keep_a _ iq), keep_a _ (keep_a _ inn), keep_a _ (keep_a _ ib), (ibel.alloc ibel.size _).alloc (by have := ibel.size; simp; omega) _, iall⟩ ⟨W.heap.size, W.heap.size + 1, _, _, _, _, _, _, _, _, _, _, _, _, _, _, _, _, _, _, _, _, _, _, _, _, _, _, _, _, _, _, _, _, _, _, _, _, _, _, _, _, _, _, _, _, _, _, _, rfl, hlen, by omega, keep_a _ (heap_alloc_new W _), hn⟩
      case body =>
        rintro lp pre x rest a' W hxs ⟨iq, inn, ib, ibel, iall⟩ ⟨b5, b6, u7, u8, u9, u10, u11, u12, u13, u14, u15, u16, u17, u18, u19, u20, u21, u22, u23, u24, u25, u26, u27, x31, x32, x33, x34, x35, x36, x37, x38, x39, x40, x41, x42, x43, x44, x45, x46, x47, x48, x49, x50, x51, x52, x53, x54, x55, x56, rfl, h5, h6, k5, k6⟩ hlen
        have cb := blk_cell ib 0
        have c6 := blk_cell k6 0
        simp only [List.getElem?_toArray, List.getElem?_cons_zero] at cb c6
        have hne : w.heap.size < bq ∧ bq < WR.heap.size := ⟨Z.out.2.2.2.2.2.2.2.2.2.1, by have := Z.out; omega⟩
        obtain ⟨W', hW'⟩ : ∃ W', W.alloc (.cells #[.int .u32 (x.2.1 : Int)] 22) = W' := ⟨_, rfl⟩
        have hfc : W'.cell? ⟨W.heap.size, 0, none⟩ = some (.int .u32 (x.2.1 : Int)) := by rw [← hW']; exact fresh_cell W _ 22
        have q := And.intro (keep_a (.cells #[.int .u32 (x.2.1 : Int)] 22) iq) (And.intro (keep_a (.cells #[.int .u32 (x.2.1 : Int)] 22) inn) (And.intro (keep_a (.cells #[.int .u32 (x.2.1 : Int)] 22) ib) (And.intro (ibel.alloc ibel.size (.cells #[.int .u32 (x.2.1 : Int)] 22)) (And.intro (keep_a (.cells #[.int .u32 (x.2.1 : Int)] 22) k5) (And.intro (keep_a (.cells #[.int .u32 (x.2.1 : Int)] 22) k6) ((Same.refl (fun k => k ≠ bq) W).alloc (.cells #[.int .u32 (x.2.1 : Int)] 22)))))))
        rw [hW'] at q
        obtain ⟨qq, qn, qb, qbel, q5, q6, qs⟩ := q
        obtain ⟨n0, n1⟩ := cells2 qn
        obtain ⟨g0, g1⟩ := cells2 q5
        obtain ⟨g2, g3⟩ := cells2 q6
        have fq : ∀ i, W'.frozen? ⟨bq, i, none⟩ = false := blk_frozen qq
        have cq := blk_cell qq 0
        have QQ := Lib.hid (And.intro qq (And.intro qn (And.intro qb (And.intro qbel qs))))
        have IA := Lib.hid iall
        clear iq inn ib ibel iall k5 k6 qq qn qb qbel q5 q6 qs
        gi_wp2_with fail
        refine ⟨trivial, ?_⟩
        refine (CallsIn.inRound lp (callsIn_wide.2 (within_one 2 (m : Int) (x.2.1 : Int) W.heap.size _ hfc))).mono ?_
        rintro e w'' ⟨rfl, rfl⟩
        have hth : ∀ k, k < W.heap.size → Theirs WR (fun _ => False) (PRd Bl (.slice base l.length cap) l) 0 k → k ≠ bq := by
          rintro k _ (h | (rfl | ⟨hne', hk⟩) | h)
          · exact h.elim
          · have := Z.out; omega
          · have := own_lt HV.out hne' hk; omega
          · omega
        have hbad : okP m x = false → Same (Theirs WR (fun _ => False) (PRd Bl (.slice base l.length cap) l) 0) W (W'.setCell ⟨bq, 0, none⟩ (.bool false)) ∧ RX w m bq w.heap.size (.exit 0) (pre ++ [x]) (W'.setCell ⟨bq, 0, none⟩ (.bool false)) := fun hx =>
          ⟨(QQ.out.2.2.2.2.setCell (fun _ h => h rfl) _).mono hth, rfl, by simpa using blk_set QQ.out.1 0 (.bool false), QQ.out.2.2.2.1.setCell (by have := hne.1; simp; omega) _, by rw [List.all_append, List.all_cons, hx]; simp⟩
        have hgood : okP m x = true → Same (Theirs WR (fun _ => False) (PRd Bl (.slice base l.length cap) l) 0) W W' ∧ RI w m bq bn w.heap.size (.bool false) #[.int .u32 (hi : Int), .int .u32 (ca : Int), .slice base l.length cap] (pre ++ [x]) W' := fun hx =>
          ⟨QQ.out.2.2.2.2.mono hth, QQ.out.1, QQ.out.2.1, QQ.out.2.2.1, QQ.out.2.2.2.1, by rw [List.all_append, List.all_cons, IA.out, hx]; rfl⟩
        have HBad := Lib.hid hbad
        have HGood := Lib.hid hgood
        clear hbad hgood hth
        obtain ⟨⟨o1, o2⟩, ⟨s1, s2⟩⟩ := x
        dsimp only at *
        by_cases p1 : (decide ((2 : Int) ≤ (s1 : Int)) && decide ((s1 : Int) ≤ (m : Int))) = true
        · simp only [p1]
          by_cases p2 : s2 = 0
          · subst p2
            gi_wp2
            exact HBad.out (by simp [okP])
          · have p2' : ((s2 : Int) == 0) = false := by simp; omega
            have hk := okP_high (o1 := o1) (o2 := o2) p1 p2
            by_cases p3 : ((o1, o2) : Sp) = (0, 0)
            · obtain ⟨rfl, rfl⟩ : o1 = 0 ∧ o2 = 0 := by simpa using p3
              gi_wp2
              exact HGood.out (by rw [hk]; rfl)
            · have q3 : ((o1 : Int) == 0 && (o2 : Int) == 0) = false := by
                by_cases h1 : o1 = 0
                · by_cases h2 : o2 = 0
                  · exact absurd (by rw [h1, h2]) p3
                  · simp; omega
                · simp; omega
              have hkk : okP m ((o1, o2), (s1, s2)) = decide (o1 < s1) := by rw [hk, show decide (((o1, o2) : Sp) = (0, 0)) = false by simpa using p3]; rfl
              have HN : Hid (¬ (o1 = 0 ∧ o2 = 0)) := Lib.hid (fun h => p3 (by rw [h.1, h.2]))
              clear p3 q3
              by_cases z1 : o1 = 0
              · subst z1
                have z2 : ¬ o2 = 0 := fun h => HN.out ⟨rfl, h⟩
                have z3 : 2 ≤ s1 := by simp at p1; omega
                gi_wp2
                all_goals exact HGood.out (by rw [hkk]; simp; omega)
              · by_cases p4 : (s1 : Int) ≤ (o1 : Int)
                · gi_wp2
                  all_goals exact HBad.out (by rw [hkk]; simp; omega)
                · gi_wp2
                  all_goals exact HGood.out (by rw [hkk]; simp; omega)
        · simp only [Bool.not_eq_true] at p1
          simp only [p1]
          gi_wp2
          exact HBad.out (okP_low p1)
      case done =>
        rintro W ⟨iq, inn, ib, ibel, iall⟩ hsz hD
        have hq := blk_cell iq 0
        have HH := Lib.hid (And.intro iq (And.intro ibel (And.intro iall hD)))
        clear iq inn ib ibel iall hD
        gi_wp2
        rw [Exit.noGoto_ret]
        refine ⟨by simp, .inl ⟨_, _, rfl, run_takeDeferred HH.out.2.2.2, ?_⟩⟩
        refine ⟨_, results_tmp rfl _ _ _, ?_, ?_⟩
        · have hr := right_eq hi ca m l hm hhi
          rw [b1, b2] at hr
          rw [hr]
          simp
        · exact HH.out.2.1.trans (((Same.refl (fun k => k < w.heap.size) W).putObj _ (fun _ h => by have := Z.out.2.2.2.2.2.1.size; omega)).below (by have := HH.out.2.1.size; omega) fun k hk => hk)
      case stop =>
        rintro q pre W hpre ⟨rfl, iq, ibel, iall⟩ hsz hD
        have hq := blk_cell iq 0
        have HH := Lib.hid (And.intro iq (And.intro ibel (And.intro iall hD)))
        clear iq ibel iall hD
        gi_wp2
        rw [Exit.noGoto_ret]
        refine ⟨by simp, .inl ⟨_, _, rfl, run_takeDeferred HH.out.2.2.2, ?_⟩⟩
        refine ⟨_, results_tmp rfl _ _ _, ?_, ?_⟩
        · have hr := right_eq hi ca m l hm hhi
          rw [b1, b2] at hr
          rw [hr]
          simp
        · exact HH.out.2.1.trans (((Same.refl (fun k => k < w.heap.size) W).putObj _ (fun _ h => by have := Z.out.2.2.2.2.2.1.size; omega)).below (by have := HH.out.2.1.size; omega) fun k hk => hk)
  · simp only [Bool.not_eq_true] at b1
    simp only [b1]
    gi_wp2_with fail
    refine ⟨trivial, ?_⟩
    gi_wp2_with fail
    obtain ⟨Wp, hWp⟩ : ∃ Wp, (W0.alloc (.cells #[.int .u32 (ca : Int)] 22)) = Wp := ⟨_, rfl⟩
    have kp : Wp.heap[w.heap.size]? = some (.cells #[.int .u32 (hi : Int), .int .u32 (ca : Int), .slice base l.length cap] 25 (0, 0)) := by rw [← hWp]; first | exact keep_a _ (keep_a _ HK.out.1) | exact keep_a _ HK.out.1
    have bp : Below w.heap.size w Wp := by rw [← hWp]; first | exact (HK.out.2.alloc HK.out.2.size _).alloc (by have := HK.out.2.size; simp; omega) _ | exact HK.out.2.alloc HK.out.2.size _
    have hz : W0.heap.size + 1 = Wp.heap.size := by rw [← hWp]; simp
    have hlt := (Array.getElem?_eq_some_iff.1 kp).1
    obtain ⟨A, hA⟩ : ∃ A : Bool, false = A := ⟨_, rfl⟩
    rw [hWp, hz]
    subst hA
    obtain ⟨W1, hW1⟩ : ∃ W1, (Wp.alloc (.cells #[.bool false] 4)).alloc (.cells #[.int .u32 0, .int .u64 0] 44) = W1 := ⟨_, rfl⟩
    obtain ⟨bq, hbq⟩ : ∃ bq, Wp.heap.size = bq := ⟨_, rfl⟩
    obtain ⟨bn, hbn⟩ : ∃ bn, bq + 1 = bn := ⟨_, rfl⟩
    have H1 : Hid (W1.heap[bq]? = some (.cells #[.bool false] 4 (0, 0)) ∧ W1.heap[bn]? = some (.cells #[.int .u32 0, .int .u64 0] 44 (0, 0)) ∧ W1.heap[w.heap.size]? = some (.cells #[.int .u32 (hi : Int), .int .u32 (ca : Int), .slice base l.length cap] 25 (0, 0)) ∧ Below w.heap.size w W1 ∧ w.heap.size < bq ∧ w.heap.size < bn ∧ bq ≠ bn) := Lib.hid (by
      have hn := heap_alloc_new (Wp.alloc (.cells #[.bool false] 4)) (.cells #[.int .u32 0, .int .u64 0] 44)
      rw [World.size_alloc] at hn
      rw [← hW1, ← hbn, ← hbq]
      exact ⟨keep_a _ (heap_alloc_new Wp _), hn, keep_a _ (keep_a _ kp), (bp.alloc bp.size _).alloc (by have := bp.size; simp; omega) _, hlt, by omega, by omega⟩)
    rw [hW1, hbq, hbn]
    clear hW1 hbq hbn hz hlt bp kp hWp
    apply wpIn_label
    have c2' : W1.cell? ⟨w.heap.size, 2, none⟩ = some (.slice base l.length cap) := blk_cell H1.out.2.2.1 2
    gi_wp2_with fail
    refine ⟨trivial, ?_⟩
    refine (callsIn_wide.2 (pairs_any _ _ ⟨_, _, _, rfl⟩)).mono ?_
    rintro e w' ⟨rfl, rfl⟩
    obtain ⟨Bl, hBl⟩ : ∃ Bl, W1.heap.size = Bl := ⟨_, rfl⟩
    obtain ⟨WR, hWR⟩ : ∃ WR, W1.alloc (.cells #[.slice base l.length cap] 23) = WR := ⟨_, rfl⟩
    have Z : Hid (WR.heap[Bl]? = some (.cells #[.slice base l.length cap] 23 (0, 0)) ∧ SpRow WR (.slice base l.length cap) l ∧ WR.heap[bq]? = some (.cells #[.bool false] 4 (0, 0)) ∧ WR.heap[bn]? = some (.cells #[.int .u32 0, .int .u64 0] 44 (0, 0)) ∧ WR.heap[w.heap.size]? = some (.cells #[.int .u32 (hi : Int), .int .u32 (ca : Int), .slice base l.length cap] 25 (0, 0)) ∧ Below w.heap.size w WR ∧ Bl < WR.heap.size ∧ bq < Bl ∧ bn < Bl ∧ w.heap.size < bq ∧ w.heap.size < bn ∧ bq ≠ bn) := Lib.hid (by
      have e := H1.out
      rw [← hWR, ← hBl]
      refine ⟨heap_alloc_new W1 _, HV.out.below (e.2.2.2.1.alloc e.2.2.2.1.size _), keep_a _ e.1, keep_a _ e.2.1, keep_a _ e.2.2.1, e.2.2.2.1.alloc e.2.2.2.1.size _, by simp, (Array.getElem?_eq_some_iff.1 e.1).1, (Array.getElem?_eq_some_iff.1 e.2.1).1, e.2.2.2.2.1, e.2.2.2.2.2.1, e.2.2.2.2.2.2⟩)
    rw [hBl, hWR]
    clear hWR hBl c2' H1
    gi_wp2_with fail
    refine wp_range (gf := 40) (lb := #[.pointer (some ⟨Bl, 0, none⟩)]) rfl (enters_of Try.func40 (by kernel_rfl) rfl)
      (pairs_iter 8 Bl (.slice base l.length cap) l WR hl Z.out.1 Z.out.2.1 (by omega)) (fun k h => h.elim) ?hRd (fun x => rfl)
      (RI w m bq bn w.heap.size (.bool false) #[.int .u32 (hi : Int), .int .u32 (ca : Int), .slice base l.length cap]) (RX w m bq w.heap.size) ?hI ?hIx ?h0
      (fun x a' W => ∃ b5 b6 u7 u8 u9 u10 u11 u12 u13 u14 u15 u16 u17 u18 u19 u20 u21 u22 u23 u24 u25 u26 u27 x31 x32 x33 x34 x35 x36 x37 x38 x39 x40 x41 x42 x43 x44 x45 x46 x47 x48 x49 x50 x51 x52 x53 x54 x55 x56, a' = { tmps := #[.agg #[.int .u32 (hi : Int), .int .u32 (ca : Int), .slice base l.length cap], .pointer (some ⟨w.heap.size, 0, none⟩), .bool false, .pointer (some ⟨bq, 0, none⟩), .pointer (some ⟨bn, 0, none⟩), .pointer (some ⟨b5, 0, none⟩), .pointer (some ⟨b6, 0, none⟩), u7, u8, u9, u10, u11, u12, u13, u14, u15, u16, u17, u18, u19, u20, u21, u22, u23, u24, u25, u26, u27, (.func (.func 40) #[] #[.pointer (some ⟨Bl, 0, none⟩)]), (spv x.1), (spv x.2), x31, x32, x33, x34, x35, x36, x37, x38, x39, x40, x41, x42, x43, x44, x45, x46, x47, x48, x49, x50, x51, x52, x53, x54, x55, x56], defers := [] } ∧ WR.heap.size + 2 ≤ b5 ∧ WR.heap.size + 2 ≤ b6 ∧ W.heap[b5]? = some (.cells #[.int .u32 (x.1.1 : Int), .int .u64 (x.1.2 : Int)] 44 (0, 0)) ∧ W.heap[b6]? = some (.cells #[.int .u32 (x.2.1 : Int), .int .u64 (x.2.2 : Int)] 44 (0, 0)))
      ?hAx ?assign ?body ?done ?stop
    case hRd =>
      rintro k (rfl | ⟨hne, hk⟩)
      · exact Z.out.2.2.2.2.2.2.1
      · have := own_lt HV.out hne hk
        have := Z.out.2.2.2.2.2.1.size
        omega
    case hI =>
      rintro pre A' B ⟨iq, inn, ib, ibel, iall⟩ hA hS
      have z := Z.out
      exact ⟨hS.at_ iq ⟨id, by omega⟩, hS.at_ inn ⟨id, by omega⟩, hS.at_ ib ⟨id, by omega⟩, ibel.trans (hS.below (by have := ibel.size; omega) (fun k hk => ⟨id, by have := z.2.2.2.2.2.1.size; omega⟩)), iall⟩
    case hIx =>
      rintro q pre A' B ⟨hq, iq, ibel, iall⟩ hA hS
      have z := Z.out
      exact ⟨hq, hS.at_ iq ⟨id, by omega⟩, ibel.trans (hS.below (by have := ibel.size; omega) (fun k hk => ⟨id, by have := z.2.2.2.2.2.1.size; omega⟩)), iall⟩
    case h0 => exact ⟨Z.out.2.2.1, Z.out.2.2.2.1, Z.out.2.2.2.2.1, Z.out.2.2.2.2.2.1, rfl⟩
    case hAx =>
      rintro x a' A' B ⟨b5, b6, u7, u8, u9, u10, u11, u12, u13, u14, u15, u16, u17, u18, u19, u20, u21, u22, u23, u24, u25, u26, u27, x31, x32, x33, x34, x35, x36, x37, x38, x39, x40, x41, x42, x43, x44, x45, x46, x47, x48, x49, x50, x51, x52, x53, x54, x55, x56, ha, h5, h6, k5, k6⟩ hA hS
      exact ⟨b5, b6, _, _, _, _, _, _, _, _, _, _, _, _, _, _, _, _, _, _, _, _, _, _, _, _, _, _, _, _, _, _, _, _, _, _, _, _, _, _, _, _, _, _, _, _, _, _, _, ha, h5, h6, hS.at_ k5 (by omega), hS.at_ k6 (by omega)⟩
    case assign =>
      intro lp pre x rest W K hxs hi' hlen hK
      dsimp only [encP, spv]
      gi_wp2
      obtain ⟨iq, inn, ib, ibel, iall⟩ := hi'
      have hn := heap_alloc_new (W.alloc (.cells #[.int .u32 (x.1.1 : Int), .int .u64 (x.1.2 : Int)] 44)) (.cells #[.int .u32 (x.2.1 : Int), .int .u64 (x.2.2 : Int)] 44)
      rw [World.size_alloc] at hn
      exact hK _ _ (((Same.refl _ W).alloc _).alloc _) ⟨keep_a _ (keep_a _ iq), keep_a _ (keep_a _ inn), keep_a _ (keep_a _ ib), (ibel.alloc ibel.size _).alloc (by have := ibel.size; simp; omega) _, iall⟩ ⟨W.heap.size, W.heap.size + 1, _, _, _, _, _, _, _, _, _, _, _, _, _, _, _, _, _, _, _, _, _, _, _, _, _, _, _, _, _, _, _, _, _, _, _, _, _, _, _, _, _, _, _, _, _, _, _, rfl, hlen, by omega, keep_a _ (heap_alloc_new W _), hn⟩
    case body =>
      rintro lp pre x rest a' W hxs ⟨iq, inn, ib, ibel, iall⟩ ⟨b5, b6, u7, u8, u9, u10, u11, u12, u13, u14, u15, u16, u17, u18, u19, u20, u21, u22, u23, u24, u25, u26, u27, x31, x32, x33, x34, x35, x36, x37, x38, x39, x40, x41, x42, x43, x44, x45, x46, x47, x48, x49, x50, x51, x52, x53, x54, x55, x56, rfl, h5, h6, k5, k6⟩ hlen
      have cb := blk_cell ib 0
      have c6 := blk_cell k6 0
      simp only [List.getElem?_toArray, List.getElem?_cons_zero] at cb c6
      have hne : w.heap.size < bq ∧ bq < WR.heap.size := ⟨Z.out.2.2.2.2.2.2.2.2.2.1, by have := Z.out; omega⟩
      obtain ⟨W', hW'⟩ : ∃ W', W.alloc (.cells #[.int .u32 (x.2.1 : Int)] 22) = W' := ⟨_, rfl⟩
      have hfc : W'.cell? ⟨W.heap.size, 0, none⟩ = some (.int .u32 (x.2.1 : Int)) := by rw [← hW']; exact fresh_cell W _ 22
      have q := And.intro (keep_a (.cells #[.int .u32 (x.2.1 : Int)] 22) iq) (And.intro (keep_a (.cells #[.int .u32 (x.2.1 : Int)] 22) inn) (And.intro (keep_a (.cells #[.int .u32 (x.2.1 : Int)] 22) ib) (And.intro (ibel.alloc ibel.size (.cells #[.int .u32 (x.2.1 : Int)] 22)) (And.intro (keep_a (.cells #[.int .u32 (x.2.1 : Int)] 22) k5) (And.intro (keep_a (.cells #[.int .u32 (x.2.1 : Int)] 22) k6) ((Same.refl (fun k => k ≠ bq) W).alloc (.cells #[.int .u32 (x.2.1 : Int)] 22)))))))
      rw [hW'] at q
      obtain ⟨qq, qn, qb, qbel, q5, q6, qs⟩ := q
      obtain ⟨n0, n1⟩ := cells2 qn
      obtain ⟨g0, g1⟩ := cells2 q5
      obtain ⟨g2, g3⟩ := cells2 q6
      have fq : ∀ i, W'.frozen? ⟨bq, i, none⟩ = false := blk_frozen qq
      have cq := blk_cell qq 0
      have QQ := Lib.hid (And.intro qq (And.intro qn (And.intro qb (And.intro qbel qs))))
      have IA := Lib.hid iall
      clear iq inn ib ibel iall k5 k6 qq qn qb qbel q5 q6 qs
      gi_wp2_with fail
      refine ⟨trivial, ?_⟩
      refine (CallsIn.inRound lp (callsIn_wide.2 (within_one 2 (m : Int) (x.2.1 : Int) W.heap.size _ hfc))).mono ?_
      rintro e w'' ⟨rfl, rfl⟩
      have hth : ∀ k, k < W.heap.size → Theirs WR (fun _ => False) (PRd Bl (.slice base l.length cap) l) 0 k → k ≠ bq := by
        rintro k _ (h | (rfl | ⟨hne', hk⟩) | h)
        · exact h.elim
        · have := Z.out; omega
        · have := own_lt HV.out hne' hk; omega
        · omega
      have hbad : okP m x = false → Same (Theirs WR (fun _ => False) (PRd Bl (.slice base l.length cap) l) 0) W (W'.setCell ⟨bq, 0, none⟩ (.bool false)) ∧ RX w m bq w.heap.size (.exit 0) (pre ++ [x]) (W'.setCell ⟨bq, 0, none⟩ (.bool false)) := fun hx =>
        ⟨(QQ.out.2.2.2.2.setCell (fun _ h => h rfl) _).mono hth, rfl, by simpa using blk_set QQ.out.1 0 (.bool false), QQ.out.2.2.2.1.setCell (by have := hne.1; simp; omega) _, by rw [List.all_append, List.all_cons, hx]; simp⟩
      have hgood : okP m x = true → Same (Theirs WR (fun _ => False) (PRd Bl (.slice base l.length cap) l) 0) W W' ∧ RI w m bq bn w.heap.size (.bool false) #[.int .u32 (hi : Int), .int .u32 (ca : Int), .slice base l.length cap] (pre ++ [x]) W' := fun hx =>
        ⟨QQ.out.2.2.2.2.mono hth, QQ.out.1, QQ.out.2.1, QQ.out.2.2.1, QQ.out.2.2.2.1, by rw [List.all_append, List.all_cons, IA.out, hx]; rfl⟩
      have HBad := Lib.hid hbad
      have HGood := Lib.hid hgood
      clear hbad hgood hth
      obtain ⟨⟨o1, o2⟩, ⟨s1, s2⟩⟩ := x
      dsimp only at *
      by_cases p1 : (decide ((2 : Int) ≤ (s1 : Int)) && decide ((s1 : Int) ≤ (m : Int))) = true
      · simp only [p1]
        by_cases p2 : s2 = 0
        · subst p2
          gi_wp2
          exact HBad.out (by simp [okP])
        · have p2' : ((s2 : Int) == 0) = false := by simp; omega
          have hk := okP_high (o1 := o1) (o2 := o2) p1 p2
          by_cases p3 : ((o1, o2) : Sp) = (0, 0)
          · obtain ⟨rfl, rfl⟩ : o1 = 0 ∧ o2 = 0 := by simpa using p3
            gi_wp2
            exact HGood.out (by rw [hk]; rfl)
          · have q3 : ((o1 : Int) == 0 && (o2 : Int) == 0) = false := by
              by_cases h1 : o1 = 0
              · by_cases h2 : o2 = 0
                · exact absurd (by rw [h1, h2]) p3
                · simp; omega
              · simp; omega
            have hkk : okP m ((o1, o2), (s1, s2)) = decide (o1 < s1) := by rw [hk, show decide (((o1, o2) : Sp) = (0, 0)) = false by simpa using p3]; rfl
            have HN : Hid (¬ (o1 = 0 ∧ o2 = 0)) := Lib.hid (fun h => p3 (by rw [h.1, h.2]))
            clear p3 q3
            by_cases z1 : o1 = 0
            · subst z1
              have z2 : ¬ o2 = 0 := fun h => HN.out ⟨rfl, h⟩
              have z3 : 2 ≤ s1 := by simp at p1; omega
              gi_wp2
              all_goals exact HGood.out (by rw [hkk]; simp; omega)
            · by_cases p4 : (s1 : Int) ≤ (o1 : Int)
              · gi_wp2
                all_goals exact HBad.out (by rw [hkk]; simp; omega)
              · gi_wp2
                all_goals exact HGood.out (by rw [hkk]; simp; omega)
      · simp only [Bool.not_eq_true] at p1
        simp only [p1]
        gi_wp2
        exact HBad.out (okP_low p1)
    case done =>
      rintro W ⟨iq, inn, ib, ibel, iall⟩ hsz hD
      have hq := blk_cell iq 0
      have HH := Lib.hid (And.intro iq (And.intro ibel (And.intro iall hD)))
      clear iq inn ib ibel iall hD
      gi_wp2
      rw [Exit.noGoto_ret]
      refine ⟨by simp, .inl ⟨_, _, rfl, run_takeDeferred HH.out.2.2.2, ?_⟩⟩
      refine ⟨_, results_tmp rfl _ _ _, ?_, ?_⟩
      · have hr := right_eq hi ca m l hm hhi
        rw [b1] at hr
        rw [hr]
        simp
      · exact HH.out.2.1.trans (((Same.refl (fun k => k < w.heap.size) W).putObj _ (fun _ h => by have := Z.out.2.2.2.2.2.1.size; omega)).below (by have := HH.out.2.1.size; omega) fun k hk => hk)
    case stop =>
      rintro q pre W hpre ⟨rfl, iq, ibel, iall⟩ hsz hD
      have hq := blk_cell iq 0
      have HH := Lib.hid (And.intro iq (And.intro ibel (And.intro iall hD)))
      clear iq ibel iall hD
      gi_wp2
      rw [Exit.noGoto_ret]
      refine ⟨by simp, .inl ⟨_, _, rfl, run_takeDeferred HH.out.2.2.2, ?_⟩⟩
      refine ⟨_, results_tmp rfl _ _ _, ?_, ?_⟩
      · have hr := right_eq hi ca m l hm hhi
        rw [b1] at hr
        rw [hr]
        simp
      · exact HH.out.2.1.trans (((Same.refl (fun k => k < w.heap.size) W).putObj _ (fun _ h => by have := Z.out.2.2.2.2.2.1.size; omega)).below (by have := HH.out.2.1.size; omega) fun k hk => hk)
end Go.Proofs.Ytnbmpcdomdaimaa
