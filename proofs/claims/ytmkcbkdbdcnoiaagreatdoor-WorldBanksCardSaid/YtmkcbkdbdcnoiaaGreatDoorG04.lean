/- Package keys: kindOf. Package money: Move, Bytes. The iterator of money.eights: it hands over the numbers of the bytes, eight each. The iterator of keys.numbers: it hands over the numbers of the bytes, one by one. The iterator of mail.numbers: it hands over the numbers of the bytes, one by one, each with its place. -/
import Derived.Maps.RangeRun
import Derived.Deep.QuietTactic
import Derived.BigQuiet
import Derived.WalkSpells
import Derived.WalkLawsBesides
import Derived.Lib.IndexBytes
import Derived.Test.YtmkcbkdbdcnoiaaGreatDoorG02
import Derived.Test.YtmkcbkdbdcnoiaaGreatDoorG03
namespace Go.Proofs.YtmkcbkdbdcnoiaaGreatDoor
open Go.RowKit
open Go.ChangeMaps (setBlock)
set_option linter.unusedVariables false
set_option linter.unusedSimpArgs false

/-- Has a key that kind's form? -/
def mt (k : Int) (s : List UInt8) : Bool := (s.head? == some (kForm k).1) && decide (s.length = 1 + (kForm k).2.1 + (kForm k).2.2.1 + (kForm k).2.2.2)
def kOfS (s : List UInt8) : Int := if mt 1 s then 1 else if mt 2 s then 2 else if mt 3 s then 3 else if mt 4 s then 4 else if mt 5 s then 5 else if mt 6 s then 6 else 0
def kFormV (k : Int) : Value := if k = 0 then fmv 0 0 0 0 else fmv ((kForm k).1.toNat : Int) ((kForm k).2.1 : Int) ((kForm k).2.2.1 : Int) ((kForm k).2.2.2 : Int)
theorem mt_head {k : Int} {s : List UInt8} (h : mt k s = true) : s.head? = some (kForm k).1 := by
  simp only [mt, Bool.and_eq_true, beq_iff_eq] at h
  exact h.1
theorem mark_inj {k k' : Int} (hk : isKind k) (hk' : isKind k') (h : (kForm k).1 = (kForm k').1) : k = k' := by
  rcases hk with rfl | rfl | rfl | rfl | rfl | rfl <;> rcases hk' with rfl | rfl | rfl | rfl | rfl | rfl <;> first | rfl | (exfalso; revert h; decide)
theorem mt_inj {k k' : Int} {s : List UInt8} (hk : isKind k) (hk' : isKind k') (h : mt k s = true) (h' : mt k' s = true) : k = k' := by
  refine mark_inj hk hk' ?_
  have := (mt_head h).symm.trans (mt_head h')
  simpa using this
theorem kOfS_cases (s : List UInt8) : (isKind (kOfS s) ∧ mt (kOfS s) s = true) ∨ (kOfS s = 0 ∧ ∀ k, isKind k → mt k s = false) := by
  unfold kOfS
  by_cases h1 : mt 1 s = true
  · rw [if_pos h1]; exact .inl ⟨by unfold isKind; omega, h1⟩
  by_cases h2 : mt 2 s = true
  · rw [if_neg h1, if_pos h2]; exact .inl ⟨by unfold isKind; omega, h2⟩
  by_cases h3 : mt 3 s = true
  · rw [if_neg h1, if_neg h2, if_pos h3]; exact .inl ⟨by unfold isKind; omega, h3⟩
  by_cases h4 : mt 4 s = true
  · rw [if_neg h1, if_neg h2, if_neg h3, if_pos h4]; exact .inl ⟨by unfold isKind; omega, h4⟩
  by_cases h5 : mt 5 s = true
  · rw [if_neg h1, if_neg h2, if_neg h3, if_neg h4, if_pos h5]; exact .inl ⟨by unfold isKind; omega, h5⟩
  by_cases h6 : mt 6 s = true
  · rw [if_neg h1, if_neg h2, if_neg h3, if_neg h4, if_neg h5, if_pos h6]; exact .inl ⟨by unfold isKind; omega, h6⟩
  rw [if_neg h1, if_neg h2, if_neg h3, if_neg h4, if_neg h5, if_neg h6]
  refine .inr ⟨rfl, ?_⟩
  intro k hk
  rcases hk with rfl | rfl | rfl | rfl | rfl | rfl
  · simpa using h1
  · simpa using h2
  · simpa using h3
  · simpa using h4
  · simpa using h5
  · simpa using h6
theorem kOfS_of {k : Int} {s : List UInt8} (hk : isKind k) (h : mt k s = true) : kOfS s = k := by
  rcases kOfS_cases s with ⟨h1, h2⟩ | ⟨_, h2⟩
  · exact mt_inj h1 hk h2 h
  · rw [h2 k hk] at h; cases h
theorem kOfS_none {s : List UInt8} (h : ∀ k, isKind k → mt k s = false) : kOfS s = 0 := by
  rcases kOfS_cases s with ⟨h1, h2⟩ | ⟨h1, _⟩
  · rw [h _ h1] at h2; cases h2
  · exact h1

theorem forms_entry {e : MapEntry} (he : e ∈ (formsE 6).toList) : ∃ k, isKind k ∧ e.key = .int .i64 k ∧ e.val = fmv ((kForm k).1.toNat : Int) ((kForm k).2.1 : Int) ((kForm k).2.2.1 : Int) ((kForm k).2.2.2 : Int) ∧ e.born < 6 := by
  have h : e = ⟨.int .i64 1, fmv 97 4 0 0, 0⟩ ∨ e = ⟨.int .i64 2, fmv 105 4 2 0, 1⟩ ∨ e = ⟨.int .i64 3, fmv 109 4 0 4, 2⟩ ∨ e = ⟨.int .i64 4, fmv 115 4 0 0, 3⟩ ∨ e = ⟨.int .i64 5, fmv 110 1 0 0, 4⟩ ∨ e = ⟨.int .i64 6, fmv 116 1 2 0, 5⟩ := by
    simpa [formsE, formsL] using he
  rcases h with rfl | rfl | rfl | rfl | rfl | rfl
  · exact ⟨1, by unfold isKind; omega, rfl, rfl, by simp⟩
  · exact ⟨2, by unfold isKind; omega, rfl, rfl, by simp⟩
  · exact ⟨3, by unfold isKind; omega, rfl, rfl, by simp⟩
  · exact ⟨4, by unfold isKind; omega, rfl, rfl, by simp⟩
  · exact ⟨5, by unfold isKind; omega, rfl, rfl, by simp⟩
  · exact ⟨6, by unfold isKind; omega, rfl, rfl, by simp⟩
theorem forms_all {k : Int} (hk : isKind k) : ∃ e ∈ (formsE 6).toList, e.key = .int .i64 k := by
  rcases hk with rfl | rfl | rfl | rfl | rfl | rfl
  · exact ⟨⟨.int .i64 1, fmv 97 4 0 0, 0⟩, by simp [formsE, formsL], rfl⟩
  · exact ⟨⟨.int .i64 2, fmv 105 4 2 0, 1⟩, by simp [formsE, formsL], rfl⟩
  · exact ⟨⟨.int .i64 3, fmv 109 4 0 4, 2⟩, by simp [formsE, formsL], rfl⟩
  · exact ⟨⟨.int .i64 4, fmv 115 4 0 0, 3⟩, by simp [formsE, formsL], rfl⟩
  · exact ⟨⟨.int .i64 5, fmv 110 1 0 0, 4⟩, by simp [formsE, formsL], rfl⟩
  · exact ⟨⟨.int .i64 6, fmv 116 1 2 0, 5⟩, by simp [formsE, formsL], rfl⟩
theorem forms_nodup : ((formsE 6).toList.map (·.born)).Nodup := by decide

/-- What the loop keeps: the iterator has handed out those of seen, none of which fits. -/
structure Kd (w : World) (s : List UInt8) (bm r : Nat) (seen : Array Nat) (W : World) : Prop where
  it : W.heap[r]? = some (.mapIter (some bm) 6 seen 6)
  mp : W.heap[bm]? = some (.map (formsE 6) 6)
  bel : Below w.heap.size w W
  rs : W.heap[w.heap.size]? = some (.cells #[.int .u8 0, .int .i64 0, .int .i64 0, .int .i64 0] 205 (0, 0))
  no : ∀ e ∈ (formsE 6).toList, seen.contains e.born = true → ∀ k, e.key = .int .i64 k → mt k s = false
  ord : w.heap.size < bm ∧ bm < r
theorem Kd.drewN {w W : World} {s : List UInt8} {bm r : Nat} {seen : Array Nat} (h : Kd w s bm r seen W) (n : Nat) : Kd w s bm r seen (W.drewN n) :=
  ⟨h.it, h.mp, h.bel.trans ((below_drewN W n).mono h.bel.size), h.rs, h.no, h.ord⟩

theorem four_set {w : World} {g : Nat} {t : TypeId} {a b c d : Value} (h : w.heap[g]? = some (.cells #[a, b, c, d] t (0, 0))) (a' b' c' d' : Value) :
    ((((w.setCell ⟨g, 0, none⟩ a').setCell ⟨g, 1, none⟩ b').setCell ⟨g, 2, none⟩ c').setCell ⟨g, 3, none⟩ d').heap[g]? = some (.cells #[a', b', c', d'] t (0, 0)) := by
  have := blk_set (blk_set (blk_set (blk_set h 0 a') 1 b') 2 c') 3 d'
  simpa using this
theorem four_below {B : Nat} {a w : World} {g : Nat} (h : Below B a w) (hg : B ≤ g) (a' b' c' d' : Value) :
    Below B a ((((w.setCell ⟨g, 0, none⟩ a').setCell ⟨g, 1, none⟩ b').setCell ⟨g, 2, none⟩ c').setCell ⟨g, 3, none⟩ d') :=
  (((h.setCell (p := ⟨g, 0, none⟩) hg _).setCell (p := ⟨g, 1, none⟩) hg _).setCell (p := ⟨g, 2, none⟩) hg _).setCell (p := ⟨g, 3, none⟩) hg _
theorem res_tmp_cell {P : Program} {fn : Func} {p u : Tmp} {ty t : TypeId} {tmps : Array Value} {w : World} {g : Nat} {cs : Array Value} {fr : Nat × Nat} {d : TypeDesc} (h : fn.results = #[.tmp u, .cell p ty])
    (hp : tmps.getD p undef = .pointer (some ⟨g, 0, none⟩)) (hb : w.heap[g]? = some (.cells cs t fr)) (hu : P.underlying ty = some d) (hd : d.isRow = true) (hi : (P.info? ty).map (·.size) = some cs.size) :
    (results fn tmps).run P w = .ok (.tuple #[tmps.getD u undef, .agg cs]) w := by
  have hp' : tmps[p]?.getD undef = .pointer (some ⟨g, 0, none⟩) := by simpa using hp
  simp only [results, h]
  simp [Sem.run_bind, Result.andThen, hp', asAddr, load_blk hb hu hd hi]

set_option maxHeartbeats 2000000 in
set_option maxRecDepth 100000 in
theorem kindOf_any (s : ByteArray) (w : World) (hs : s.size ≤ 1000000) : Calls Tryz.prog 174 #[.string s] w fun e w' => e = .returned (.tuple #[.int .i64 (kOfS s.data.toList), kFormV (kOfS s.data.toList)]) ∧ Below w.heap.size w w' := by
  obtain ⟨W, hW⟩ : ∃ W, w.alloc (.cells #[.int .u8 0, .int .i64 0, .int .i64 0, .int .i64 0] 205) = W := ⟨_, rfl⟩
  have k0 : W.heap[w.heap.size]? = some (.cells #[.int .u8 0, .int .i64 0, .int .i64 0, .int .i64 0] 205 (0, 0)) := by rw [← hW]; exact heap_alloc_new w _
  have hb0 : Below w.heap.size w W := by rw [← hW]; exact (Below.refl _ w).alloc (Nat.le_refl _) _
  have hlt0 : w.heap.size < W.heap.size := (Array.getElem?_eq_some_iff.1 k0).1
  obtain ⟨bm, hbm⟩ : ∃ bm, W.heap.size = bm := ⟨_, rfl⟩
  have HK := Lib.hid (And.intro k0 (And.intro hb0 (And.intro hlt0 hbm)))
  obtain ⟨R, hR⟩ : ∃ R, kOfS s.data.toList = R := ⟨_, rfl⟩
  rw [hR]
  have HR := Lib.hid hR
  clear k0 hb0 hlt0 hR hbm
  go_enter Tryz.func174, Tryz.ntmps174
  go_wp2_with fail
  refine (forms_any W).mono ?_
  rintro e W2 ⟨rfl, hm, hb⟩
  rw [HK.out.2.2.2] at hm ⊢
  obtain ⟨r, hr⟩ : ∃ r, W2.heap.size = r := ⟨_, rfl⟩
  have hrg := run_range_map W2 212 3 205 bm (formsE 6) 6 Tryz.underlying212 hm
  obtain ⟨W3, hW3⟩ : ∃ W3, W2.alloc (.mapIter (some bm) 6 #[] 6) = W3 := ⟨_, rfl⟩
  have hbmr : bm < r := by rw [← hr]; exact (Array.getElem?_eq_some_iff.1 hm).1
  have H3 : Hid (Kd w s.data.toList bm r #[] W3) := Lib.hid (by
    obtain ⟨k0, hb0, hlt, hbm⟩ := HK.out
    rw [← hW3, ← hr]
    have hbb := hb0.trans (hb.mono hb0.size)
    exact ⟨heap_alloc_new W2 _, keep_a _ hm, hbb.alloc hbb.size _, keep_a _ (keep_b k0 hb), fun e _ h => by simp at h, by omega, by omega⟩)
  rw [hW3, hr] at hrg
  clear hb hm hW3 hr
  go_wp2
  go_loopw [] (fun wr => ∃ seen, Hid (Kd w s.data.toList bm r seen wr)) (fun wr => (leftOf (formsE 6) (wr.iterSeen r)).size)
  case atStart => exact ⟨_, H3⟩
  case round =>
    obtain ⟨seen, HS⟩ := hrel
    have hold : ∀ x ∈ (formsE 6).toList, x.born < 6 := fun x hx => by obtain ⟨k, _, _, _, h⟩ := forms_entry hx; exact h
    rcases run_next_at (P := Tryz.prog) wr 0 r bm 6 6 seen (formsE 6) 6 HS.out.it HS.out.mp hold (Nat.le_refl _) with ⟨hz, hrun⟩ | ⟨e, he, w1, hw1, hrun⟩
    · have hno : Hid (R = 0) := Lib.hid (by
        rw [← HR.out]
        refine kOfS_none fun k hk => ?_
        obtain ⟨e, he, hek⟩ := forms_all hk
        exact HS.out.no e he (all_seen _ _ hz e he) k hek)
      have c0 : ∀ j, wr.cell? ⟨w.heap.size, j, none⟩ = (#[.int .u8 0, .int .i64 0, .int .i64 0, .int .i64 0] : Array Value)[j]? := blk_cell HS.out.rs
      have f0 : ∀ j, wr.frozen? ⟨w.heap.size, j, none⟩ = false := blk_frozen HS.out.rs
      clear hz hold
      go_wp2
      have hR := hno.out
      subst hR
      refine bodyPost_ret (res_tmp_cell rfl rfl (four_set HS.out.rs _ _ _ _) Tryz.underlying205 rfl (by kernel_rfl)) rfl ⟨rfl, four_below HS.out.bel (Nat.le_refl _) _ _ _ _⟩
    · obtain ⟨hem, hes⟩ := mem_left he
      obtain ⟨k, hk, hek, hev, _⟩ := forms_entry hem
      have hsh := left_shrinks _ _ _ he
      obtain ⟨W1, hW1⟩ : ∃ W1, setBlock w1 r (.mapIter (some bm) 6 (seen.push e.born) 6) = W1 := ⟨_, rfl⟩
      have hor := HS.out.ord
      have H1 : Hid (W1.heap[r]? = some (.mapIter (some bm) 6 (seen.push e.born) 6) ∧ W1.heap[bm]? = some (.map (formsE 6) 6) ∧ W1.heap[w.heap.size]? = some (.cells #[.int .u8 0, .int .i64 0, .int .i64 0, .int .i64 0] 205 (0, 0)) ∧ Below w.heap.size w W1) := Lib.hid (by
        have hw : w1.heap = wr.heap := by rcases hw1 with rfl | rfl <;> rfl
        have hlt : r < w1.heap.size := by rw [hw]; exact (Array.getElem?_eq_some_iff.1 HS.out.it).1
        have hB : Below w.heap.size w w1 := by rcases hw1 with rfl | rfl; exact HS.out.bel; exact HS.out.bel.drew
        rw [← hW1]
        refine ⟨World.putObj_heap_same hlt, ?_, ?_, ?_⟩
        · exact (World.putObj_heap_other (w := w1) (by omega)).trans (by rw [hw]; exact HS.out.mp)
        · exact (World.putObj_heap_other (w := w1) (by omega)).trans (by rw [hw]; exact HS.out.rs)
        · exact hB.trans (((Same.refl (fun k => k < w.heap.size) w1).putObj (l := r) _ (fun _ h => by omega)).below hB.size fun k hk => hk))
      have hent := run_entry_at (P := Tryz.prog) W1 r bm 6 seen (formsE 6) 6 e H1.out.1 H1.out.2.1 hem forms_nodup
      rw [hek, hev] at hrun hent
      rw [hW1] at hrun
      have HE := Lib.hid (And.intro hem (And.intro hes (And.intro hek hsh)))
      clear hW1 hw1 hem hes hek hev hsh he hold
      have hmt : Hid (mt k s.data.toList = ((s.data.toList.head? == some (kForm k).1) && decide (s.data.toList.length = 1 + (kForm k).2.1 + (kForm k).2.2.1 + (kForm k).2.2.2))) := Lib.hid rfl
      have hle : (kForm k).2.1 ≤ 4 ∧ (kForm k).2.2.1 ≤ 4 ∧ (kForm k).2.2.2 ≤ 4 := by
        rcases hk with rfl | rfl | rfl | rfl | rfl | rfl <;> decide
      have HV : Hid (mt k s.data.toList = true → R = k ∧ kFormV R = fmv ((kForm k).1.toNat : Int) ((kForm k).2.1 : Int) ((kForm k).2.2.1 : Int) ((kForm k).2.2.2 : Int)) := Lib.hid (fun h => by
        have := HR.out
        rw [kOfS_of hk h] at this
        subst this
        refine ⟨rfl, ?_⟩
        rw [kFormV, if_neg (by rcases hk with rfl | rfl | rfl | rfl | rfl | rfl <;> decide)])
      have hk' : 1 ≤ k ∧ k ≤ 6 := by rcases hk with rfl | rfl | rfl | rfl | rfl | rfl <;> omega
      clear hk
      generalize kForm k = F at *
      obtain ⟨g0, g1, g2, g3⟩ := F
      unfold fmv at *
      simp only at *
      obtain ⟨W2', hW2'⟩ : ∃ W2', W1.alloc (.cells #[.int .u8 (g0.toNat : Int), .int .i64 (g1 : Int), .int .i64 (g2 : Int), .int .i64 (g3 : Int)] 205) = W2' := ⟨_, rfl⟩
      obtain ⟨b5, hb5⟩ : ∃ b5, W1.heap.size = b5 := ⟨_, rfl⟩
      have H2 : Hid (Kd w s.data.toList bm r (seen.push e.born) W2' ∨ mt k s.data.toList = true) := Lib.hid (by
        cases hm : mt k s.data.toList with
        | true => exact .inr rfl
        | false =>
          refine .inl ?_
          obtain ⟨a1, a2, a3, a4⟩ := H1.out
          rw [← hW2']
          refine ⟨keep_a _ a1, keep_a _ a2, a4.alloc a4.size _, keep_a _ a3, fun x hx hc k' hk' => ?_, hor⟩
          rw [contains_push] at hc
          rcases Bool.or_eq_true _ _ ▸ hc with h | h
          · exact HS.out.no x hx h k' hk'
          · have : x = e := born_inj forms_nodup hx HE.out.1 (by simpa using h)
            rw [this, HE.out.2.2.1] at hk'
            injection hk' with _ hk'
            rw [← hk']; exact hm)
      have H3 : Hid (Below w.heap.size w W2' ∧ W2'.heap[w.heap.size]? = some (.cells #[.int .u8 0, .int .i64 0, .int .i64 0, .int .i64 0] 205 (0, 0)) ∧ W2'.heap[b5]? = some (.cells #[.int .u8 (g0.toNat : Int), .int .i64 (g1 : Int), .int .i64 (g2 : Int), .int .i64 (g3 : Int)] 205 (0, 0))) := Lib.hid (by
        obtain ⟨a1, a2, a3, a4⟩ := H1.out
        rw [← hW2', ← hb5]
        exact ⟨a4.alloc a4.size _, keep_a _ a3, heap_alloc_new W1 _⟩)
      have c5 : ∀ j, W2'.cell? ⟨b5, j, none⟩ = (#[.int .u8 (g0.toNat : Int), .int .i64 (g1 : Int), .int .i64 (g2 : Int), .int .i64 (g3 : Int)] : Array Value)[j]? := blk_cell H3.out.2.2
      have hne5 : b5 ≠ w.heap.size := by
        have := (Array.getElem?_eq_some_iff.1 H1.out.1).1
        rw [← hb5]; omega
      have HN5 := Lib.hid hne5
      clear hne5
      have x1 : IntKind.i64.wrap (1 + (g1 : Int)) = 1 + (g1 : Int) := IntWalk.i64_in _ (by omega)
      have x2 : IntKind.i64.wrap (1 + (g1 : Int) + (g2 : Int)) = 1 + (g1 : Int) + (g2 : Int) := IntWalk.i64_in _ (by omega)
      have x3 : IntKind.i64.wrap (1 + (g1 : Int) + (g2 : Int) + (g3 : Int)) = 1 + (g1 : Int) + (g2 : Int) + (g3 : Int) := IntWalk.i64_in _ (by omega)
      rcases Nat.eq_zero_or_pos s.size with h0 | h0
      · have hse : s = ⟨#[]⟩ := by
          apply ByteArray.ext
          exact Array.eq_empty_of_size_eq_zero h0
        have hmf : Hid (mt k s.data.toList = false) := Lib.hid (by rw [hmt.out, hse]; simp)
        have HK2 : Hid (Kd w s.data.toList bm r (seen.push e.born) W2') := Lib.hid (by
          rcases H2.out with h | h
          · exact h
          · rw [hmf.out] at h; cases h)
        have hse' : s.toList.isEmpty = true := by rw [hse, ByteArray.toList_eq]; rfl
        clear hse h0 hmf
        go_wp2_with fail
        go_quiet (fail)
        clear hb5 c5 x1 x2 x3 hrun hent
        go_wp2
        go_roundw
        case rel => exact ⟨_, Lib.hid (HK2.out.drewN nq)⟩
        case measure =>
          have e1 : (W2'.drewN nq).iterSeen r = seen.push e.born := by unfold World.iterSeen; rw [(HK2.out.drewN nq).it]
          have e2 : wr.iterSeen r = seen := by unfold World.iterSeen; rw [HS.out.it]
          rw [e1, e2]; exact HE.out.2.2.2
      · have hz : (0 : Int) < (s.size : Int) := by omega
        have hne : s.toList.isEmpty = false := by
          rw [ByteArray.toList_eq]
          cases hl : s.data.toList with
          | nil => have h2 : s.data.toList.length = s.size := rfl; rw [hl, List.length_nil] at h2; omega
          | cons _ _ => rfl
        obtain ⟨c, hc⟩ : ∃ c, s[0]'h0 = c := ⟨_, rfl⟩
        have hhd : s.data.toList.head? = some c := by
          rw [← hc]
          cases hl : s.data.toList with
          | nil => have h2 : s.data.toList.length = s.size := rfl; rw [hl, List.length_nil] at h2; omega
          | cons a l =>
            have : s.data.toList[0]'(by simp; omega) = s[0]'h0 := rfl
            rw [← this]; simp [hl]
        have hln : s.data.toList.length = s.size := rfl
        rw [hhd, hln] at hmt
        have HMT := Lib.hid hmt
        clear hhd hln hmt
        rcases hb1 : ((c.toNat : Int) == (g0.toNat : Int)) with _ | _
        · have HK2 : Hid (Kd w s.data.toList bm r (seen.push e.born) W2') := Lib.hid (by
            rcases H2.out with h | h
            · exact h
            · rw [HMT.out.out] at h
              simp only [Bool.and_eq_true, beq_iff_eq, Option.some.injEq] at h
              rw [h.1] at hb1; simp at hb1)
          go_wp2_with fail
          go_quiet (fail)
          clear hb5 c5 x1 x2 x3 hrun hent
          go_wp2
          go_roundw
          case rel => exact ⟨_, Lib.hid (HK2.out.drewN nq)⟩
          case measure =>
            have e1 : (W2'.drewN nq).iterSeen r = seen.push e.born := by unfold World.iterSeen; rw [(HK2.out.drewN nq).it]
            have e2 : wr.iterSeen r = seen := by unfold World.iterSeen; rw [HS.out.it]
            rw [e1, e2]; exact HE.out.2.2.2
        · rcases hb2 : ((s.size : Int) == 1 + (g1 : Int) + (g2 : Int) + (g3 : Int)) with _ | _
          · have HK2 : Hid (Kd w s.data.toList bm r (seen.push e.born) W2') := Lib.hid (by
              rcases H2.out with h | h
              · exact h
              · rw [HMT.out.out] at h
                simp only [Bool.and_eq_true, decide_eq_true_eq] at h
                have : (s.size : Int) = 1 + (g1 : Int) + (g2 : Int) + (g3 : Int) := by omega
                simp [this] at hb2)
            go_wp2_with fail
            go_quiet (fail)
            clear hb5 c5 x1 x2 x3 hrun hent
            go_wp2
            go_roundw
            case rel => exact ⟨_, Lib.hid (HK2.out.drewN nq)⟩
            case measure =>
              have e1 : (W2'.drewN nq).iterSeen r = seen.push e.born := by unfold World.iterSeen; rw [(HK2.out.drewN nq).it]
              have e2 : wr.iterSeen r = seen := by unfold World.iterSeen; rw [HS.out.it]
              rw [e1, e2]; exact HE.out.2.2.2
          · have HM : Hid (R = k ∧ kFormV R = .agg #[.int .u8 (g0.toNat : Int), .int .i64 (g1 : Int), .int .i64 (g2 : Int), .int .i64 (g3 : Int)]) := Lib.hid (by
              refine HV.out ?_
              rw [HMT.out.out]
              simp only [Bool.and_eq_true, decide_eq_true_eq, beq_iff_eq, Option.some.injEq] at hb1 hb2 ⊢
              exact ⟨UInt8.toNat_inj.1 (by omega), by omega⟩)
            go_wp2_with fail
            go_quiet (fail)
            clear hb5 c5 hrun hent x1 x2 x3
            obtain ⟨W5, hW5⟩ : ∃ W5, W2'.drewN nq = W5 := ⟨_, rfl⟩
            have H5 : Hid (Below w.heap.size w W5 ∧ W5.heap[w.heap.size]? = some (.cells #[.int .u8 0, .int .i64 0, .int .i64 0, .int .i64 0] 205 (0, 0)) ∧ W5.heap[b5]? = some (.cells #[.int .u8 (g0.toNat : Int), .int .i64 (g1 : Int), .int .i64 (g2 : Int), .int .i64 (g3 : Int)] 205 (0, 0))) := Lib.hid (by
              rw [← hW5]; exact ⟨H3.out.1.trans ((below_drewN _ _).mono H3.out.1.size), H3.out.2.1, H3.out.2.2⟩)
            rw [hW5]
            clear hW5
            have c5 : ∀ j, W5.cell? ⟨b5, j, none⟩ = (#[.int .u8 (g0.toNat : Int), .int .i64 (g1 : Int), .int .i64 (g2 : Int), .int .i64 (g3 : Int)] : Array Value)[j]? := blk_cell H5.out.2.2
            have c6 : ∀ j, W5.cell? ⟨w.heap.size, j, none⟩ = (#[.int .u8 0, .int .i64 0, .int .i64 0, .int .i64 0] : Array Value)[j]? := blk_cell H5.out.2.1
            have f6 : ∀ j, W5.frozen? ⟨w.heap.size, j, none⟩ = false := blk_frozen H5.out.2.1
            go_wp2_with fail
            go_region
            all_goals (
              go_wp2
              obtain ⟨hR1, hR2⟩ := HM.out
              rw [hR2]
              subst hR1
              exact bodyPost_ret (res_tmp_cell rfl rfl (blk_drew (four_set H5.out.2.1 _ _ _ _)) Tryz.underlying205 rfl (by kernel_rfl)) rfl ⟨rfl, Below.drew (four_below H5.out.1 (Nat.le_refl _) _ _ _ _)⟩)
end Go.Proofs.YtmkcbkdbdcnoiaaGreatDoor
namespace Go.Proofs.YtmkcbkdbdcnoiaaGreatDoor
open Go.RowKit
set_option linter.unusedVariables false
set_option linter.unusedSimpArgs false

def moveF (a b n : Int) : Int × Int × Int :=
  if (subF a n).2 = 0 then if (addF b n).2 = 0 then ((subF a n).1, (addF b n).1, 0) else (0, 0, (addF b n).2) else (0, 0, (subF a n).2)

set_option maxHeartbeats 1000000 in
set_option maxRecDepth 100000 in
theorem move_any (a b n : Int) (w : World) (hG : Glob w) :
    Calls Tryz.prog 192 #[.int .i64 a, .int .i64 b, .int .i64 n] w fun e w' => e = .returned (.tuple #[.int .i64 (moveF a b n).1, .int .i64 (moveF a b n).2.1, .int .i64 (moveF a b n).2.2]) ∧ Below w.heap.size w w' := by
  obtain ⟨x, hx⟩ : ∃ x, subF a n = x := ⟨_, rfl⟩
  obtain ⟨x1, x2⟩ := x
  obtain ⟨y, hy⟩ : ∃ y, addF b n = y := ⟨_, rfl⟩
  obtain ⟨y1, y2⟩ := y
  have hS := sub_any a n w hG
  rw [hx] at hS
  have hA := fun W h => add_any b n W h
  simp only [hy] at hA
  simp only [moveF, hx, hy]
  clear hx hy
  by_cases h0 : x2 = 0
  · subst h0
    by_cases h1 : y2 = 0
    · subst h1
      simp only [if_pos]
      go_enter Tryz.func192, Tryz.ntmps192
      go_wp2
      refine wp_scope_straight ?_
      go_wp2_with fail
      refine hS.mono ?_
      rintro e W ⟨rfl, hb⟩
      have hG2 := hG.below hb
      have HB := Lib.hid hb
      clear hb
      go_wp2_with fail
      refine (hA _ hG2).mono ?_
      rintro e W2 ⟨rfl, hb⟩
      have HB2 := Lib.hid (HB.out.trans (hb.mono HB.out.size))
      clear hb
      go_wp2
      dsimp only [Exit.noGoto]
      refine bodyPost_ret (results_tmp3 rfl _ _ _) rfl ?_
      exact ⟨rfl, HB2.out⟩
    · have h1' : (y2 == 0) = false := by simpa using h1
      simp only [if_pos, if_neg h1]
      go_enter Tryz.func192, Tryz.ntmps192
      go_wp2
      refine wp_scope_straight ?_
      go_wp2_with fail
      refine hS.mono ?_
      rintro e W ⟨rfl, hb⟩
      have hG2 := hG.below hb
      have HB := Lib.hid hb
      clear hb
      go_wp2_with fail
      refine (hA _ hG2).mono ?_
      rintro e W2 ⟨rfl, hb⟩
      have HB2 := Lib.hid (HB.out.trans (hb.mono HB.out.size))
      clear hb
      go_wp2
      go_step3
      go_wp2
      dsimp only [Exit.noGoto]
      refine bodyPost_ret (results_tmp3 rfl _ _ _) rfl ?_
      exact ⟨rfl, HB2.out⟩
  · have h0' : (x2 != 0) = true := by simpa using h0
    simp only [if_neg h0]
    go_enter Tryz.func192, Tryz.ntmps192
    go_wp2
    refine wp_scope_goto 0 rfl ?_
    go_wp2_with fail
    refine hS.mono ?_
    rintro e W ⟨rfl, hb⟩
    have HB := Lib.hid hb
    clear hb
    go_wp2
    go_step3
    refine ⟨rfl, ?_⟩
    go_wp2
    dsimp only [Exit.noGoto]
    refine bodyPost_ret (results_tmp3 rfl _ _ _) rfl ?_
    exact ⟨rfl, HB.out⟩

/-- The bytes of amounts. -/
def mbytes (l : List Int) : List UInt8 := l.flatMap fun n => be n.toNat 8
set_option maxHeartbeats 1000000 in
set_option maxRecDepth 100000 in
theorem bytes_bad (l : List Int) (n : Nat) (v : Value) (w : World) (hn : l.length = n) (hv : Sees w v n 1 (ints l)) (hl : n ≤ 1000) (hG : Glob w) (hA : l.all okA = false) :
    Calls Tryz.prog 150 #[v] w fun e w' => e = .returned (.tuple #[.string ⟨#[]⟩, .int .i64 110]) ∧ Below w.heap.size w w' := by
  have h := are_any l n v w hn hv (by omega)
  rw [hA] at h
  obtain ⟨ao, aa, af, hG⟩ := hG
  obtain ⟨_, base, cap, rfl, _⟩ := hv
  have ha := hG.a
  go_enter Tryz.func150, Tryz.ntmps150
  go_wp2_with (first | (go_at_call 186; with_reducible refine h.mono ?_; rintro e w' ⟨rfl, rfl⟩) | (go_at_call 180; with_reducible refine (told_a hG).mono ?_; rintro e w' ⟨rfl, rfl⟩))
  go_ret2
  exact ⟨rfl, Below.refl _ _⟩

theorem mbytes_snoc (l : List Int) (k : Nat) (h : k < l.length) : mbytes (l.take (k + 1)) = mbytes (l.take k) ++ be (l[k]'h).toNat 8 := by
  unfold mbytes
  rw [List.take_succ_eq_append_getElem h, List.flatMap_append]
  simp
theorem mbytes_length (l : List Int) : (mbytes l).length = 8 * l.length := by
  induction l with
  | nil => rfl
  | cons x l ih => simp only [mbytes, List.flatMap_cons, List.length_append, be_length, List.length_cons] at ih ⊢; omega
theorem be_take_succ (n i : Nat) (h : i < 8) : (be n 8).take (i + 1) = (be n 8).take i ++ [UInt8.ofNat (n >>> (8 * (7 - i)))] := by
  have : i = 0 ∨ i = 1 ∨ i = 2 ∨ i = 3 ∨ i = 4 ∨ i = 5 ∨ i = 6 ∨ i = 7 := by omega
  rcases this with rfl | rfl | rfl | rfl | rfl | rfl | rfl | rfl <;> rfl

set_option maxHeartbeats 1000000 in
set_option maxRecDepth 100000 in
theorem bytes_ok (l : List Int) (n : Nat) (v : Value) (w : World) (hn : l.length = n) (hv : Sees w v n 1 (ints l)) (hl : n ≤ 1000) (hA : l.all okA = true) :
    Calls Tryz.prog 150 #[v] w fun e w' => e = .returned (.tuple #[.string ⟨(mbytes l).toArray⟩, .int .i64 0]) ∧ Below w.heap.size w w' := by
  have h := are_any l n v w hn hv (by omega)
  rw [hA] at h
  have HV := Lib.hid hv
  have HA := Lib.hid hA
  have HN := Lib.hid hn
  clear hA hn
  obtain ⟨_, base, cap, rfl, _⟩ := hv
  go_enter Tryz.func150, Tryz.ntmps150
  go_wp2_with (first | (go_at_call 186; with_reducible refine h.mono ?_; rintro e w' ⟨rfl, hw⟩))
  obtain rfl : w = w' := hw.symm
  go_loopw [4, 15] (fun v i wr => ∃ k : Nat, k ≤ n ∧ i = .int .i64 (k : Int) ∧ Hid (Bld w v (mbytes (l.take k)) wr)) (fun _ i _ => n - (intOf i).toNat)
  case atStart => exact ⟨0, Nat.zero_le _, rfl, Lib.hid (Bld.start w)⟩
  case round =>
    obtain ⟨k, hk, rfl, HK⟩ := hrel
    by_cases hlt : k < n
    · have hkl : k < l.length := by have := HN.out; omega
      obtain ⟨x, hx⟩ : ∃ x, l[k]'hkl = x := ⟨_, rfl⟩
      have hv2 := HV.out.below HK.out.2
      obtain ⟨_, base2, cap2, he, _, hr⟩ := hv2
      simp only [Value.slice.injEq, true_and] at he
      obtain ⟨rfl, rfl⟩ := he
      obtain ⟨a, rfl, hcs⟩ := hr.resolve_left (by omega)
      have c0 : wr.cell? (a.add k) = some (.int .i64 x) := hcs k _ (by simp [ints, hkl, hx])
      have hxa : 0 ≤ x ∧ x ≤ 1152921504606846976 := (okA_iff x).1 (by rw [← hx]; exact List.all_eq_true.1 HA.out _ (List.getElem_mem hkl))
      obtain ⟨y, rfl⟩ := Int.eq_ofNat_of_zero_le hxa.1
      have hyb : y ≤ 1152921504606846976 := by omega
      have hu : IntKind.u64.wrap (y : Int) = (y : Int) := IntWalk.u64_in _ (by omega)
      have hlt' : (k : Int) < (n : Int) := by omega
      have HX : Hid (mbytes (l.take (k + 1)) = mbytes (l.take k) ++ be y 8) := Lib.hid (by rw [mbytes_snoc l k hkl, hx]; rfl)
      have HL : Hid ((mbytes (l.take k)).length ≤ 8 * k) := Lib.hid (by rw [mbytes_length, List.length_take]; omega)
      clear hcs hx hr hxa
      go_wp2
      go_loopw [4, 19] (fun v i wr => ∃ j : Nat, j ≤ 8 ∧ i = .int .i64 (j : Int) ∧ Hid (Bld w v (mbytes (l.take k) ++ (be y 8).take j) wr)) (fun _ i _ => 8 - (intOf i).toNat)
      case atStart => exact ⟨0, Nat.zero_le _, rfl, Lib.hid (by simpa using HK.out)⟩
      case round =>
        obtain ⟨j, hj, rfl, HJ⟩ := hrel
        by_cases hlt2 : j < 8
        · have hw1 : IntKind.i64.wrap (8 * (j : Int)) = 8 * (j : Int) := IntWalk.i64_in _ (by omega)
          have hw2 : IntKind.i64.wrap (56 - 8 * (j : Int)) = 56 - 8 * (j : Int) := IntWalk.i64_in _ (by omega)
          have hp : (0 : Int) ≤ 56 - 8 * (j : Int) := by omega
          have hlt2' : (j : Int) < 8 := by omega
          obtain ⟨i0, hi, hi0, hi1, hi2⟩ := info_parts infoU8
          have hbl : (mbytes (l.take k) ++ (be y 8).take j).length ≤ 8 * k + 8 := by
            have := HL.out
            rw [List.length_append, List.length_take, be_length]; omega
          go_wp2_with (at_builtin; refine wpList_append_own _ rfl _ _ 197 rfl w.heap.size 5 i0 (.int .u8 0) 1 1 Tryz.underlying197 hi hi0 hi1 hi2 rfl (by decide) _ _ _ rfl (HJ.out.1.alloc _) ⟨wr.heap.size, 0, none⟩ 1 1 [.int .u8 ((y : Int) / 2 ^ (56 - 8 * j) % 256)] rfl rfl (cell_one_new _ _ _) (by simp [Value.oneCell']) ?b1 ?b2 ?b3 ?_)
          case b1 => unfold maxLen; omega
          case b2 => omega
          case b3 => have := HJ.out.2.size; simp; omega
          intro v' w1 hown hgrow _
          have HO := Lib.hid (And.intro hown hgrow)
          clear hown hgrow
          go_wp2
          go_roundw
          case rel =>
            refine ⟨j + 1, by omega, by go_num, Lib.hid ?_⟩
            rw [be_take_succ y j hlt2, ← List.append_assoc]
            refine HJ.out.next (n := (y : Int) / 2 ^ (56 - 8 * j) % 256) ?_ (by simpa [List.length_append] using HO.out.1) HO.out.2
            rw [show 56 - 8 * j = 8 * (7 - j) by omega]
            exact byte_of y (7 - j)
          case measure => simp [intOf]; omega
        · obtain rfl : j = 8 := by omega
          have hw1 : IntKind.i64.wrap ((k : Int) + 1) = (k : Int) + 1 := IntWalk.i64_in _ (by omega)
          go_wp2
          go_roundw
          case rel =>
            refine ⟨k + 1, by omega, by go_num, Lib.hid ?_⟩
            rw [HX.out]
            have := HJ.out
            rwa [List.take_of_length_le (l := be y 8) (by rw [be_length]; omega)] at this
          case measure => simp [intOf]; omega
    · obtain rfl : k = n := by omega
      have HC := own_text HK.out.1
      go_wp2
      go_ret2
      rw [List.take_of_length_le (by have := HN.out; omega)]
      exact ⟨rfl, HK.out.2⟩

/-- What Bytes answers. -/
def mBytesF (l : List Int) : List UInt8 × Int := if l.all okA = true then (mbytes l, 0) else ([], 110)
theorem bytes_any (l : List Int) (n : Nat) (v : Value) (w : World) (hn : l.length = n) (hv : Sees w v n 1 (ints l)) (hl : n ≤ 1000) (hG : Glob w) :
    Calls Tryz.prog 150 #[v] w fun e w' => e = .returned (.tuple #[.string ⟨(mBytesF l).1.toArray⟩, .int .i64 (mBytesF l).2]) ∧ Below w.heap.size w w' := by
  cases hA : l.all okA with
  | true => simpa [mBytesF, hA] using bytes_ok l n v w hn hv hl hA
  | false => simpa [mBytesF, hA] using bytes_bad l n v w hn hv hl hG hA
end Go.Proofs.YtmkcbkdbdcnoiaaGreatDoor
namespace Go.Proofs.YtmkcbkdbdcnoiaaGreatDoor
open Go.RowKit
set_option linter.unusedVariables false
set_option linter.unusedSimpArgs false
attribute [local go_sem] Oper.semAt_some

theorem wraps_u64 (n : Int) (h₀ : 0 ≤ n) (h₁ : n < 2 ^ 64) : IntKind.u64.wrap n = n := IntWalk.u64_in n ⟨h₀, by omega⟩
theorem or_byte (a : Nat) (b : UInt8) (h : a < 72057594037927936) : bits .or .u64 (IntKind.u64.wrap ((a : Int) * 256)) (IntKind.u64.wrap (b.toNat : Int)) = ((a * 256 + b.toNat : Nat) : Int) := by
  have hb := b.toNat_lt
  rw [IntWalk.u64_in _ (by omega), IntWalk.u64_in _ (by omega), bits_join .u64 64 (by decide) wraps_u64 8 _ _ (by omega) (by omega) (by omega) (by omega) (by omega) (by omega)]
  omega

/-- A number of eight bytes as an int64. -/
def sx (n : Nat) : Int := wrap64 (n : Int)
def octN : Nat → List UInt8 → List Int
  | 0, _ => []
  | k + 1, l => sx (num (l.take 8)) :: octN k (l.drop 8)
def oct (l : List UInt8) : List Int := octN (l.length / 8) l
theorem oct_short (l : List UInt8) (h : l.length < 8) : oct l = [] := by rw [oct, Nat.div_eq_of_lt h]; rfl
theorem oct_long (l : List UInt8) (h : 8 ≤ l.length) : oct l = sx (num (l.take 8)) :: oct (l.drop 8) := by
  rw [oct, oct, show l.length / 8 = (l.drop 8).length / 8 + 1 by rw [List.length_drop]; omega]; rfl

def encI (x : Int) : Array Value := #[.int .i64 x]
/-- How long the string in a box is. -/
def boxLen (w : World) (b : Nat) : Nat := match w.cell? ⟨b, 0, none⟩ with | some (.string s) => s.size | _ => 0
theorem boxLen_of {w : World} {b : Nat} {s : ByteArray} {t : TypeId} (h : w.heap[b]? = some (.cells #[.string s] t (0, 0))) : boxLen w b = s.size := by
  simp only [boxLen, blk_cell h]; rfl

set_option maxHeartbeats 1000000 in
set_option maxRecDepth 100000 in
theorem eights_iter (n Bs : Nat) (s : ByteArray) (w : World) (hs : w.heap[Bs]? = some (.cells #[.string s] 9 (0, 0))) (h1 : 1 ≤ n) :
    Iter n Tryz.prog 199 #[.pointer (some ⟨Bs, 0, none⟩)] encI (oct s.data.toList) (fun k => k = Bs) (fun _ => False) 0 w := by
  intro l J Jx W hW hsame hJ hJx hY h0
  have HY := Lib.hid hY
  have HJ := Lib.hid hJ
  have H0 := Lib.hid h0
  have HS := Lib.hid ((hsame Bs (Array.getElem?_eq_some_iff.1 hs).1 (.inl rfl)).trans hs)
  clear hY hJ hJx h0 hsame hs
  refine callsIn_of_wp Tryz.func199 rfl trivial ?_ rfl
  simp only [Tryz.ntmps199, List.size_toArray, List.length_cons, List.length_nil, Nat.reduceAdd, Nat.reduceSub, Array.replicate_succ, Array.replicate_zero, List.push_toArray, List.append_toArray, List.nil_append, List.cons_append]
  gi_wp2
  gi_loopw [3] (fun i wr => ∃ (pre : List Int) (S : ByteArray), Hid (oct s.data.toList = pre ++ oct S.data.toList) ∧ Hid (wr.heap[Bs]? = some (.cells #[.string S] 9 (0, 0))) ∧ Hid (J pre wr) ∧ W.heap.size ≤ wr.heap.size) (fun _ wr => boxLen wr Bs)
  case atStart => exact ⟨[], s, Lib.hid rfl, HS, H0, Nat.le_refl _⟩
  case round =>
    obtain ⟨pre, S, HRow, HS, HP, hle⟩ := hrel
    have hcs : wr.cell? ⟨Bs, 0, none⟩ = some (.string S) := blk_cell HS.out 0
    have hfs : wr.frozen? ⟨Bs, 0, none⟩ = false := blk_frozen HS.out 0
    have hbl := boxLen_of HS.out
    by_cases h8 : 8 ≤ S.size
    · have h8' : (8 : Int) ≤ (S.size : Int) := by omega
      gi_wp2
      gi_loop [3, 8] (fun v i => ∃ j : Nat, j ≤ 8 ∧ i = .int .i64 j ∧ v = .int .u64 (num (S.data.toList.take j) : Int)) (fun _ i => 8 - (intOf i).toNat)
      case atStart => exact ⟨0, Nat.zero_le _, rfl, rfl⟩
      case round =>
        obtain ⟨j, hj, rfl, rfl⟩ := hrel
        by_cases hjz : j < 8
        · have hjs : j < S.size := by omega
          gi_wp2
          go_round
          case rel => exact ⟨j + 1, by omega, by go_num, by
            rw [or_byte _ _ (by
              have h1 := num_lt (S.data.toList.take j)
              have h2 : 256 ^ (S.data.toList.take j).length ≤ 256 ^ 7 := Nat.pow_le_pow_right (by omega) (by rw [List.length_take]; omega)
              have h3 : (256 : Nat) ^ 7 = 72057594037927936 := by decide
              omega), num_take_succ _ j (by simpa using hjs)]
            rfl⟩
          case measure => simp [intOf]; omega
        · obtain rfl : j = 8 := by omega
          have hst := (Same.refl (fun k => ¬ (k = Bs) ∧ ¬ (W.heap.size ≤ k ∧ k < W.heap.size + 0)) wr).setCell (p := ⟨Bs, 0, none⟩) (fun _ h => h.1 rfl) (.string (S.extract 8 S.size))
          have hrest : oct S.data.toList = sx (num (S.data.toList.take 8)) :: oct (S.extract 8 S.size).data.toList := by
            rw [oct_long _ (by simpa using h8), Lib.extract_to_end]
          have HX := Lib.hid (HRow.out.trans (congrArg (pre ++ ·) hrest))
          obtain ⟨fn, tmps, assign, body, hy, hR⟩ := HY.out pre _ _ _ _ HX.out (HJ.out _ _ _ HP.out hle hst) (by simpa [World.setCell] using hle) (Same.refl _ _)
          dsimp only [encI, sx] at hy
          have HRR := Lib.hid hR
          clear hR hst hrest
          gi_wp2
          refine HRR.out.mono ?_
          rintro e W3 (⟨rfl, hJ3, hk3⟩ | ⟨rfl, hJx3⟩)
          · have hle3 := hk3.size
            have hle4 : W.heap.size ≤ W3.heap.size := by simp [World.setCell] at hle3; omega
            have H3 := Lib.hid hJ3
            have HK3 := Lib.hid hk3
            clear hJ3 hk3 hle3
            gi_wp2
            go_roundw
            case rel =>
              refine ⟨pre ++ [sx (num (S.data.toList.take 8))], S.extract 8 S.size, Lib.hid (by rw [HX.out, List.append_assoc]; rfl), Lib.hid (HK3.out.at_ ?_ (.inl rfl)), H3, hle4⟩
              have := blk_set HS.out 0 (.string (S.extract 8 S.size))
              simpa using this
            case measure =>
              have := blk_set HS.out 0 (.string (S.extract 8 S.size))
              rw [boxLen_of (HK3.out.at_ (by simpa using this) (.inl rfl)), hbl]
              simp
              omega
          · have H3 := Lib.hid hJx3
            clear hJx3
            gi_wp2
            refine bodyPost_ret (results_none rfl _ _ _) rfl ?_
            exact ⟨⟨_, rfl⟩, .inr ⟨pre ++ [sx (num (S.data.toList.take 8))], ⟨oct (S.extract 8 S.size).data.toList, by rw [HX.out, List.append_assoc]; rfl⟩, H3.out⟩⟩
    · have h8' : ¬ (8 : Int) ≤ (S.size : Int) := by omega
      have HX := HRow.out
      rw [oct_short S.data.toList (by simpa using h8), List.append_nil] at HX
      have HX2 := Lib.hid HX
      clear HX
      gi_wp2
      go_end0
      exact ⟨⟨_, rfl⟩, .inl ⟨hle, by rw [HX2.out]; exact HP.out⟩⟩
end Go.Proofs.YtmkcbkdbdcnoiaaGreatDoor
namespace Go.Proofs.YtmkcbkdbdcnoiaaGreatDoor
open Go.RowKit
set_option linter.unusedVariables false
set_option linter.unusedSimpArgs false
attribute [local go_sem] Oper.semAt_some

theorem wraps_u32 (n : Int) (h₀ : 0 ≤ n) (h₁ : n < 2 ^ 32) : IntKind.u32.wrap n = n := IntWalk.u32_in n ⟨h₀, by omega⟩
theorem or_byte32 (a : Nat) (b : UInt8) (h : a < 16777216) : bits .or .u32 ((a : Int) * 256 % 4294967296) ((b.toNat : Int) % 4294967296) = ((a * 256 + b.toNat : Nat) : Int) := by
  have hb := b.toNat_lt
  rw [Int.emod_eq_of_lt (by omega) (by omega), Int.emod_eq_of_lt (by omega) (by omega), bits_join .u32 32 (by decide) wraps_u32 8 _ _ (by omega) (by omega) (by omega) (by omega) (by omega) (by omega)]
  omega

/-- What the iterator reads lies as it lay. -/
def ItReads (Bz Bs ba : Nat) (sizes : List Nat) (W : World) : Prop :=
  W.heap[Bz]? = some (.cells #[.slice (some ⟨ba, 0, none⟩) sizes.length sizes.length] 252 (0, 0)) ∧
  W.heap[ba]? = some (.cells (sizes.map fun k : Nat => Value.int .i64 (k : Int)).toArray 3 (0, 0))
/-- The numbers of bytes, of so many each. -/
def nums : List Nat → List UInt8 → List Nat
  | [], _ => []
  | k :: ks, l => num (l.take k) :: nums ks (l.drop k)
def encN (x : Nat) : Array Value := #[.int .u32 (x : Int)]

set_option maxHeartbeats 1000000 in
set_option maxRecDepth 100000 in
theorem knumbers_iter (n Bz Bs ba : Nat) (sizes : List Nat) (s : ByteArray) (w : World) (hsz : s.size = sizes.sum) (h8 : ∀ k ∈ sizes, k ≤ 4) (hn : sizes.length ≤ 100)
    (hr : ItReads Bz Bs ba sizes w) (hs : w.heap[Bs]? = some (.cells #[.string s] 9 (0, 0))) (hne : Bz ≠ Bs ∧ ba ≠ Bs) (h1 : 1 ≤ n) :
    Iter n Tryz.prog 198 #[.pointer (some ⟨Bz, 0, none⟩), .pointer (some ⟨Bs, 0, none⟩)] encN (nums sizes s.data.toList) (fun k => k = Bs) (fun k => k = Bz ∨ k = ba) 0 w := by
  intro l J Jx W hW hsame hJ hJx hY h0
  have HY := Lib.hid hY
  have HJ := Lib.hid hJ
  have H0 := Lib.hid h0
  clear hY hJ hJx h0
  have HR : Hid (ItReads Bz Bs ba sizes W) := Lib.hid ⟨(hsame Bz (Array.getElem?_eq_some_iff.1 hr.1).1 (.inr (.inl rfl))).trans hr.1, (hsame ba (Array.getElem?_eq_some_iff.1 hr.2).1 (.inr (.inr rfl))).trans hr.2⟩
  have HS := Lib.hid ((hsame Bs (Array.getElem?_eq_some_iff.1 hs).1 (.inl rfl)).trans hs)
  clear hsame hr hs
  have hc1 : W.cell? ⟨Bz, 0, none⟩ = some (.slice (some ⟨ba, 0, none⟩) sizes.length sizes.length) := blk_cell HR.out.1 0
  refine callsIn_of_wp Tryz.func198 rfl trivial ?_ rfl
  simp only [Tryz.ntmps198, List.size_toArray, List.length_cons, List.length_nil, Nat.reduceAdd, Nat.reduceSub, Array.replicate_succ, Array.replicate_zero, List.push_toArray, List.append_toArray, List.nil_append, List.cons_append]
  gi_wp2
  gi_loopw [10] (fun i wr => ∃ (k : Nat) (pre : List Nat) (S : ByteArray), k ≤ sizes.length ∧ i = .int .i64 k ∧ Hid (nums sizes s.data.toList = pre ++ nums (sizes.drop k) S.data.toList) ∧ Hid (S.size = (sizes.drop k).sum) ∧
      Hid (ItReads Bz Bs ba sizes wr) ∧ Hid (wr.heap[Bs]? = some (.cells #[.string S] 9 (0, 0))) ∧ Hid (J pre wr) ∧ W.heap.size ≤ wr.heap.size) (fun i _ => sizes.length - (intOf i).toNat)
  case atStart => exact ⟨0, [], s, Nat.zero_le _, rfl, Lib.hid rfl, Lib.hid hsz, HR, HS, H0, Nat.le_refl _⟩
  case round =>
    obtain ⟨k, pre, S, hk, rfl, HRow, HSz, HR, HS, HP, hle⟩ := hrel
    by_cases hlt : k < sizes.length
    · obtain ⟨z, hz⟩ : ∃ z, sizes[k]'hlt = z := ⟨_, rfl⟩
      have hz8 := h8 _ (List.getElem_mem hlt)
      have hdrop : sizes.drop k = z :: sizes.drop (k + 1) := by rw [← hz]; exact List.drop_eq_getElem_cons hlt
      have HD := Lib.hid hdrop
      have hzs : z ≤ S.size := by have := HSz.out; rw [hdrop, List.sum_cons] at this; omega
      have hca : wr.cell? ⟨ba, k, none⟩ = some (.int .i64 (z : Int)) := by
        rw [blk_cell HR.out.2]
        simp [List.getElem?_eq_getElem hlt, hz]
      have hcs : wr.cell? ⟨Bs, 0, none⟩ = some (.string S) := blk_cell HS.out 0
      have hfs : wr.frozen? ⟨Bs, 0, none⟩ = false := blk_frozen HS.out 0
      rw [hz] at hz8
      clear hz hdrop
      gi_wp2
      gi_loop [6, 15] (fun v i => ∃ j : Nat, j ≤ z ∧ i = .int .i64 j ∧ v = .int .u32 (num (S.data.toList.take j) : Int)) (fun _ i => z - (intOf i).toNat)
      case atStart => exact ⟨0, Nat.zero_le _, rfl, rfl⟩
      case round =>
        obtain ⟨j, hj, rfl, rfl⟩ := hrel
        by_cases hjz : j < z
        · have hjs : j < S.size := by omega
          gi_wp2
          go_round
          case rel => exact ⟨j + 1, by omega, by go_num, by
            rw [or_byte32 _ _ (by
              have h1 := num_lt (S.data.toList.take j)
              have h2 : 256 ^ (S.data.toList.take j).length ≤ 256 ^ 3 := Nat.pow_le_pow_right (by omega) (by rw [List.length_take]; omega)
              have h3 : (256 : Nat) ^ 3 = 16777216 := by decide
              omega), num_take_succ _ j (by simpa using hjs)]
            rfl⟩
          case measure => simp [intOf]; omega
        · obtain rfl : j = z := by omega
          have hst := (Same.refl (fun k => ¬ (k = Bs) ∧ ¬ (W.heap.size ≤ k ∧ k < W.heap.size + 0)) wr).setCell (p := ⟨Bs, 0, none⟩) (fun _ h => h.1 rfl) (.string (S.extract j S.size))
          have hrest : nums (sizes.drop k) S.data.toList = num (S.data.toList.take j) :: nums (sizes.drop (k + 1)) (S.extract j S.size).data.toList := by
            rw [HD.out, nums, Lib.extract_to_end]
          have HX := Lib.hid (HRow.out.trans (congrArg (pre ++ ·) hrest))
          obtain ⟨fn, tmps, assign, body, hy, hR⟩ := HY.out pre _ _ _ _ HX.out (HJ.out _ _ _ HP.out hle hst) (by simpa [World.setCell] using hle) (Same.refl _ _)
          dsimp only [encN] at hy
          have HRR := Lib.hid hR
          clear hR hst hrest
          gi_wp2
          refine HRR.out.mono ?_
          rintro e W3 (⟨rfl, hJ3, hk3⟩ | ⟨rfl, hJx3⟩)
          · have hle3 := hk3.size
            have hle4 : W.heap.size ≤ W3.heap.size := by simp [World.setCell] at hle3; omega
            have H3 := Lib.hid hJ3
            have HK3 := Lib.hid hk3
            clear hJ3 hk3 hle3
            gi_wp2
            go_roundw
            case rel =>
              refine ⟨k + 1, pre ++ [num (S.data.toList.take j)], S.extract j S.size, by omega, by go_num, Lib.hid (by rw [HX.out, List.append_assoc]; rfl), ?_, ?_, ?_, H3, hle4⟩
              · have h2 := HSz.out
                rw [HD.out, List.sum_cons] at h2
                exact Lib.hid (by simp; omega)
              · have hb : ∀ k, k ≠ Bs → (wr.setCell ⟨Bs, 0, none⟩ (.string (S.extract j S.size))).heap[k]? = wr.heap[k]? := fun k hk => Below.heap_setCell _ _ _ k hk
                exact Lib.hid ⟨HK3.out.at_ ((hb Bz hne.1).trans HR.out.1) (.inr (.inl (.inl rfl))), HK3.out.at_ ((hb ba hne.2).trans HR.out.2) (.inr (.inl (.inr rfl)))⟩
              · refine Lib.hid (HK3.out.at_ ?_ (.inl rfl))
                have := blk_set HS.out 0 (.string (S.extract j S.size))
                simpa using this
            case measure => simp [intOf]; omega
          · have H3 := Lib.hid hJx3
            clear hJx3
            gi_wp2
            refine bodyPost_ret (results_none rfl _ _ _) rfl ?_
            exact ⟨⟨_, rfl⟩, .inr ⟨pre ++ [num (S.data.toList.take j)], ⟨nums (sizes.drop (k + 1)) (S.extract j S.size).data.toList, by rw [HX.out, List.append_assoc]; rfl⟩, H3.out⟩⟩
    · obtain rfl : k = sizes.length := by omega
      have HX := HRow.out
      rw [List.drop_length, nums, List.append_nil] at HX
      have HX2 := Lib.hid HX
      clear HX hlt
      gi_wp2
      go_end0
      exact ⟨⟨_, rfl⟩, .inl ⟨hle, by rw [HX2.out]; exact HP.out⟩⟩

set_option maxHeartbeats 400000 in
set_option maxRecDepth 100000 in
theorem knumbers_any (s : ByteArray) (v : Value) (w : World) (hv : ∃ a n c, v = .slice a n c) :
    Calls Tryz.prog 175 #[.string s, v] w fun e w' => e = .returned (.func (.func 198) #[] #[.pointer (some ⟨w.heap.size + 1, 0, none⟩), .pointer (some ⟨w.heap.size, 0, none⟩)]) ∧ (w.alloc (.cells #[.string s] 9)).alloc (.cells #[v] 252) = w' := by
  obtain ⟨a, n, c, rfl⟩ := hv
  have hmf : ∀ (fn : Fn) (first cap : Array Value) (w : World), (Instr.makeFunc fn first cap).run Tryz.prog w = .ok (.func fn first cap) w := fun _ _ _ _ => rfl
  go_enter Tryz.func175, Tryz.ntmps175
  go_wp2
  go_ret
  exact ⟨rfl, rfl⟩
end Go.Proofs.YtmkcbkdbdcnoiaaGreatDoor
namespace Go.Proofs.YtmkcbkdbdcnoiaaGreatDoor
open Go.RowKit
set_option linter.unusedVariables false
set_option linter.unusedSimpArgs false
attribute [local go_sem] Oper.semAt_some

def encRow (x : Nat × Nat) : Array Value := #[.int .i64 (x.1 : Int), .int .u64 (x.2 : Int)]

set_option maxHeartbeats 1000000 in
set_option maxRecDepth 100000 in
theorem mnumbers_iter (n Bz Bs ba : Nat) (sizes : List Nat) (s : ByteArray) (w : World) (hsz : s.size = sizes.sum) (h8 : ∀ k ∈ sizes, k ≤ 8) (hn : sizes.length ≤ 100)
    (hr : ItReads Bz Bs ba sizes w) (hs : w.heap[Bs]? = some (.cells #[.string s] 9 (0, 0))) (hne : Bz ≠ Bs ∧ ba ≠ Bs) (h1 : 1 ≤ n) :
    Iter n Tryz.prog 205 #[.pointer (some ⟨Bz, 0, none⟩), .pointer (some ⟨Bs, 0, none⟩)] encRow (rows 0 sizes s.data.toList) (fun k => k = Bs) (fun k => k = Bz ∨ k = ba) 0 w := by
  intro l J Jx W hW hsame hJ hJx hY h0
  have HY := Lib.hid hY
  have HJ := Lib.hid hJ
  have H0 := Lib.hid h0
  clear hY hJ hJx h0
  have HR : Hid (ItReads Bz Bs ba sizes W) := Lib.hid ⟨(hsame Bz (Array.getElem?_eq_some_iff.1 hr.1).1 (.inr (.inl rfl))).trans hr.1, (hsame ba (Array.getElem?_eq_some_iff.1 hr.2).1 (.inr (.inr rfl))).trans hr.2⟩
  have HS := Lib.hid ((hsame Bs (Array.getElem?_eq_some_iff.1 hs).1 (.inl rfl)).trans hs)
  clear hsame hr hs
  have hc1 : W.cell? ⟨Bz, 0, none⟩ = some (.slice (some ⟨ba, 0, none⟩) sizes.length sizes.length) := blk_cell HR.out.1 0
  refine callsIn_of_wp Tryz.func205 rfl trivial ?_ rfl
  simp only [Tryz.ntmps205, List.size_toArray, List.length_cons, List.length_nil, Nat.reduceAdd, Nat.reduceSub, Array.replicate_succ, Array.replicate_zero, List.push_toArray, List.append_toArray, List.nil_append, List.cons_append]
  gi_wp2
  gi_loopw [10] (fun i wr => ∃ (k : Nat) (pre : List (Nat × Nat)) (S : ByteArray), k ≤ sizes.length ∧ i = .int .i64 k ∧ Hid (rows 0 sizes s.data.toList = pre ++ rows k (sizes.drop k) S.data.toList) ∧ Hid (S.size = (sizes.drop k).sum) ∧
      Hid (ItReads Bz Bs ba sizes wr) ∧ Hid (wr.heap[Bs]? = some (.cells #[.string S] 9 (0, 0))) ∧ Hid (J pre wr) ∧ W.heap.size ≤ wr.heap.size) (fun i _ => sizes.length - (intOf i).toNat)
  case atStart => exact ⟨0, [], s, Nat.zero_le _, rfl, Lib.hid rfl, Lib.hid hsz, HR, HS, H0, Nat.le_refl _⟩
  case round =>
    obtain ⟨k, pre, S, hk, rfl, HRow, HSz, HR, HS, HP, hle⟩ := hrel
    by_cases hlt : k < sizes.length
    · obtain ⟨z, hz⟩ : ∃ z, sizes[k]'hlt = z := ⟨_, rfl⟩
      have hz8 := h8 _ (List.getElem_mem hlt)
      have hdrop : sizes.drop k = z :: sizes.drop (k + 1) := by rw [← hz]; exact List.drop_eq_getElem_cons hlt
      have HD := Lib.hid hdrop
      have hzs : z ≤ S.size := by have := HSz.out; rw [hdrop, List.sum_cons] at this; omega
      have hca : wr.cell? ⟨ba, k, none⟩ = some (.int .i64 (z : Int)) := by
        rw [blk_cell HR.out.2]
        simp [List.getElem?_eq_getElem hlt, hz]
      have hcs : wr.cell? ⟨Bs, 0, none⟩ = some (.string S) := blk_cell HS.out 0
      have hfs : wr.frozen? ⟨Bs, 0, none⟩ = false := blk_frozen HS.out 0
      rw [hz] at hz8
      clear hz hdrop
      gi_wp2
      gi_loop [6, 16] (fun v i => ∃ j : Nat, j ≤ z ∧ i = .int .i64 j ∧ v = .int .u64 (num (S.data.toList.take j) : Int)) (fun _ i => z - (intOf i).toNat)
      case atStart => exact ⟨0, Nat.zero_le _, rfl, rfl⟩
      case round =>
        obtain ⟨j, hj, rfl, rfl⟩ := hrel
        by_cases hjz : j < z
        · have hjs : j < S.size := by omega
          gi_wp2
          go_round
          case rel => exact ⟨j + 1, by omega, by go_num, by
            rw [or_byte _ _ (by
              have h1 := num_lt (S.data.toList.take j)
              have h2 : 256 ^ (S.data.toList.take j).length ≤ 256 ^ 7 := Nat.pow_le_pow_right (by omega) (by rw [List.length_take]; omega)
              have h3 : (256 : Nat) ^ 7 = 72057594037927936 := by decide
              omega), num_take_succ _ j (by simpa using hjs)]
            rfl⟩
          case measure => simp [intOf]; omega
        · obtain rfl : j = z := by omega
          have hst := (Same.refl (fun k => ¬ (k = Bs) ∧ ¬ (W.heap.size ≤ k ∧ k < W.heap.size + 0)) wr).setCell (p := ⟨Bs, 0, none⟩) (fun _ h => h.1 rfl) (.string (S.extract j S.size))
          have hrest : rows k (sizes.drop k) S.data.toList = (k, num (S.data.toList.take j)) :: rows (k + 1) (sizes.drop (k + 1)) (S.extract j S.size).data.toList := by
            rw [HD.out, rows, Lib.extract_to_end]
          have HX := Lib.hid (HRow.out.trans (congrArg (pre ++ ·) hrest))
          obtain ⟨fn, tmps, assign, body, hy, hR⟩ := HY.out pre _ _ _ _ HX.out (HJ.out _ _ _ HP.out hle hst) (by simpa [World.setCell] using hle) (Same.refl _ _)
          dsimp only [encRow] at hy
          have HRR := Lib.hid hR
          clear hR hst hrest
          gi_wp2
          refine HRR.out.mono ?_
          rintro e W3 (⟨rfl, hJ3, hk3⟩ | ⟨rfl, hJx3⟩)
          · have hle3 := hk3.size
            have hle4 : W.heap.size ≤ W3.heap.size := by simp [World.setCell] at hle3; omega
            have H3 := Lib.hid hJ3
            have HK3 := Lib.hid hk3
            clear hJ3 hk3 hle3
            gi_wp2
            go_roundw
            case rel =>
              refine ⟨k + 1, pre ++ [(k, num (S.data.toList.take j))], S.extract j S.size, by omega, by go_num, Lib.hid (by rw [HX.out, List.append_assoc]; rfl), ?_, ?_, ?_, H3, hle4⟩
              · have h2 := HSz.out
                rw [HD.out, List.sum_cons] at h2
                exact Lib.hid (by simp; omega)
              · have hb : ∀ k, k ≠ Bs → (wr.setCell ⟨Bs, 0, none⟩ (.string (S.extract j S.size))).heap[k]? = wr.heap[k]? := fun k hk => Below.heap_setCell _ _ _ k hk
                exact Lib.hid ⟨HK3.out.at_ ((hb Bz hne.1).trans HR.out.1) (.inr (.inl (.inl rfl))), HK3.out.at_ ((hb ba hne.2).trans HR.out.2) (.inr (.inl (.inr rfl)))⟩
              · refine Lib.hid (HK3.out.at_ ?_ (.inl rfl))
                have := blk_set HS.out 0 (.string (S.extract j S.size))
                simpa using this
            case measure => simp [intOf]; omega
          · have H3 := Lib.hid hJx3
            clear hJx3
            gi_wp2
            refine bodyPost_ret (results_none rfl _ _ _) rfl ?_
            exact ⟨⟨_, rfl⟩, .inr ⟨pre ++ [(k, num (S.data.toList.take j))], ⟨rows (k + 1) (sizes.drop (k + 1)) (S.extract j S.size).data.toList, by rw [HX.out, List.append_assoc]; rfl⟩, H3.out⟩⟩
    · obtain rfl : k = sizes.length := by omega
      have HX := HRow.out
      rw [List.drop_length, rows, List.append_nil] at HX
      have HX2 := Lib.hid HX
      clear HX hlt
      gi_wp2
      go_end0
      exact ⟨⟨_, rfl⟩, .inl ⟨hle, by rw [HX2.out]; exact HP.out⟩⟩

set_option maxHeartbeats 400000 in
set_option maxRecDepth 100000 in
theorem mnumbers_any (s : ByteArray) (v : Value) (w : World) (hv : ∃ a n c, v = .slice a n c) :
    Calls Tryz.prog 193 #[.string s, v] w fun e w' => e = .returned (.func (.func 205) #[] #[.pointer (some ⟨w.heap.size + 1, 0, none⟩), .pointer (some ⟨w.heap.size, 0, none⟩)]) ∧ (w.alloc (.cells #[.string s] 9)).alloc (.cells #[v] 252) = w' := by
  obtain ⟨a, n, c, rfl⟩ := hv
  have hmf : ∀ (fn : Fn) (first cap : Array Value) (w : World), (Instr.makeFunc fn first cap).run Tryz.prog w = .ok (.func fn first cap) w := fun _ _ _ _ => rfl
  go_enter Tryz.func193, Tryz.ntmps193
  go_wp2
  go_ret
  exact ⟨rfl, rfl⟩
end Go.Proofs.YtmkcbkdbdcnoiaaGreatDoor
