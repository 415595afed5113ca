/- The walk of AllocLives. -/
import Derived.Test.YtnbmpcdomdaimaaTks
import Derived.Test.YtnbmpcdomdaimaaLvp
import Derived.LoopTactic
import Derived.IntWalk
namespace Go.Proofs.YtnbmpcdomdaimaaQ.PA
open Go.RowKit Go.Proofs.YtnbmpcdomdaimaaW.PrintWords Go.Proofs.YtnbmpcdomdaimaaW.PrintLast Go.Proofs.YtnbmpcdomdaimaaW.PrintMore
open Go.Proofs.Ytnbmpcdomdaimaa (cells3 keep_a keep_b far_set cell_lt)
set_option linter.unusedVariables false
set_option linter.unusedSimpArgs false

theorem own_reads2 {W w : World} {v : Value} {l : List S44} (h : Kd.R k44 44 W w.heap.size (fun _ => True) v l) : ∃ A c, v = .slice A l.length c ∧ l.length ≤ c ∧ Kd.C k44 W A l.length l ∧ ∀ W' : World, (∀ k, w.heap.size ≤ k → k < W.heap.size → W'.heap[k]? = W.heap[k]?) → Kd.C k44 W' A l.length l := by
  obtain ⟨A, c, rfl, hc, hC⟩ := Kd.R_reads h
  refine ⟨A, c, rfl, hc, hC, fun W' hb => ?_⟩
  have h2 := Kd.R_move (w1 := W') (Kd.R_bound h) (fun k hk => hb k hk.2.1 hk.2.2.1)
  obtain ⟨A', c', e, _, hC'⟩ := Kd.R_reads h2
  injection e with e
  rw [e]
  exact hC'

theorem zero38 : ∃ Z : Array Value, (∀ w : World, (zeroValue 38).run Try.prog w = .ok (.agg Z) w) ∧ Z.size = 200 ∧ ∀ p, p < 200 → Z[p]? = some (.bool false) := by
  have h : (Try.prog.info? 38).map (fun i => i.zero) = some (some (.agg (List.replicate 200 (Value.bool false)).toArray)) := by kernel_rfl
  obtain ⟨Z, hZ⟩ : ∃ Z, (List.replicate 200 (Value.bool false)).toArray = Z := ⟨_, rfl⟩
  rw [hZ] at h
  obtain ⟨i, hi, hz⟩ := Option.map_eq_some_iff.1 h
  refine ⟨Z, fun w => by simp [zeroValue, typeInfo, hi, hz], by rw [← hZ, List.size_toArray, List.length_replicate], fun p hp => ?_⟩
  rw [← hZ, List.getElem?_toArray, List.getElem?_replicate, if_pos hp]

/-- The acts as they came in. -/
def ActRow (w : World) (A : Option Addr) (n : Nat) : Prop :=
  n = 0 ∨ ∃ ad, A = some ad ∧ ∀ i, i < n → ∃ d u t : Int, w.cell? (ad.add (i * 3)) = some (.int .i64 d) ∧ w.cell? ⟨(ad.add (i * 3)).block, (ad.add (i * 3)).off + 1, none⟩ = some (.int .u64 u) ∧ w.cell? ⟨(ad.add (i * 3)).block, (ad.add (i * 3)).off + 2, none⟩ = some (.int .i64 t) ∧ 0 ≤ u

/-- The variables between the acts. -/
structure Lst (w W : World) (b6 b7 m : Nat) (a0 : Int) (A : Option Addr) (l : List S44) (c : Nat) (T : Nat → Bool) : Prop where
  var : Var W b6 a0 (m : Int) A l c
  arr : ∃ cells : Array Value, W.heap[b7]? = some (.cells cells 38 (0, 0)) ∧ cells.size = 200 ∧ ∀ p, p < 200 → cells[p]? = some (.bool (T p))
  bel : Below w.heap.size w W
  lo : w.heap.size ≤ b6 ∧ w.heap.size ≤ b7 ∧ b6 ≠ b7
section
variable {w W W' : World} {b6 b7 m : Nat} {a0 : Int} {A : Option Addr} {l : List S44} {c : Nat} {T : Nat → Bool}
theorem Lst.below (h : Lst w W b6 b7 m a0 A l c T) (hb : Below W.heap.size W W') : Lst w W' b6 b7 m a0 A l c T := by
  obtain ⟨cells, h1, h2, h3⟩ := h.arr
  exact ⟨h.var.below hb, ⟨cells, keep_b h1 hb, h2, h3⟩, h.bel.trans (hb.mono h.bel.size), h.lo⟩
theorem Lst.lt7 (h : Lst w W b6 b7 m a0 A l c T) : b7 < W.heap.size := by
  obtain ⟨cells, h1, h2, h3⟩ := h.arr
  exact (Array.getElem?_eq_some_iff.1 h1).1
theorem Lst.cell7 (h : Lst w W b6 b7 m a0 A l c T) (p : Nat) (hp : p < 200) : W.cell? ⟨b7, p, none⟩ = some (.bool (T p)) ∧ W.frozen? ⟨b7, p, none⟩ = false := by
  obtain ⟨cells, h1, h2, h3⟩ := h.arr
  exact ⟨(blk_cell h1 p).trans (h3 p hp), blk_frozen h1 p⟩
/-- A page's mark turned, and another alloc stored. -/
theorem Lst.step (h : Lst w W b6 b7 m a0 A l c T) (p : Nat) (b : Bool) (x0 : Int) (A' : Option Addr) (l' : List S44) (c' : Nat)
    (hC : ∀ W' : World, (∀ k, k ≠ b6 → k ≠ b7 → W'.heap[k]? = W.heap[k]?) → Kd.C k44 W' A' l'.length l') (hc : l'.length ≤ c') :
    Lst w ((((W.setCell ⟨b7, p, none⟩ (.bool b)).setCell ⟨b6, 0, none⟩ (.int .u32 x0)).setCell ⟨b6, 1, none⟩ (.int .u32 (m : Int))).setCell ⟨b6, 2, none⟩ (.slice A' l'.length c')) b6 b7 m x0 A' l' c' (upd T p b) := by
  obtain ⟨cells, h1, h2, h3⟩ := h.arr
  have hne := h.lo.2.2
  refine ⟨⟨?_, hC _ (fun k k6 k7 => ?_), hc⟩, ⟨cells.setIfInBounds p (.bool b), ?_, by simp [h2], fun q hq => ?_⟩, ?_, h.lo⟩
  · rw [blk_set (blk_set (blk_set (far_set h.var.blk hne (.bool b)) 0 (.int .u32 x0)) 1 (.int .u32 (m : Int))) 2 (.slice A' l'.length c')]
    simp
  · rw [Below.heap_setCell _ _ _ _ k6, Below.heap_setCell _ _ _ _ k6, Below.heap_setCell _ _ _ _ k6, Below.heap_setCell _ _ _ _ k7]
  · exact far_set (far_set (far_set (blk_set h1 p _) (Ne.symm hne) _) (Ne.symm hne) _) (Ne.symm hne) _
  · rw [Array.getElem?_setIfInBounds]
    by_cases e : p = q
    · subst e; rw [if_pos rfl, if_pos (by omega)]; simp [upd]
    · rw [if_neg e, h3 q hq]; simp [upd, Ne.symm e]
  · exact (((h.bel.setCell (p := ⟨b7, p, none⟩) h.lo.2.1 _).setCell (p := ⟨b6, 0, none⟩) h.lo.1 _).setCell (p := ⟨b6, 1, none⟩) h.lo.1 _).setCell (p := ⟨b6, 2, none⟩) h.lo.1 _
theorem Lst.marked (h : Lst w W b6 b7 m a0 A l c T) (p : Nat) (b : Bool) : (W.setCell ⟨b7, p, none⟩ (.bool b)).heap[b6]? = some (.cells #[.int .u32 a0, .int .u32 (m : Int), .slice A l.length c] 25 (0, 0)) := far_set h.var.blk h.lo.2.2 _
end

set_option maxHeartbeats 4000000 in
set_option maxRecDepth 100000 in
theorem lives_in (m : Nat) (A : Option Addr) (n c : Nat) (w : World) (h2 : 2 ≤ m) (h200 : m ≤ 200) (hacts : ActRow w A n) :
    Calls Try.prog 4 #[.int .u32 (m : Int), .slice A n c] w fun e w' => e = .returned (.bool true) ∧ Below w.heap.size w w' := by
  have HA := Lib.hid hacts
  clear hacts
  obtain ⟨Z, hZ, hZs, hZf⟩ := zero38
  have HZ := Lib.hid (And.intro hZs hZf)
  clear hZs hZf
  have d1 : decide ((m : Int) < 2) = false := by simp; omega
  have d2 : decide ((200 : Int) < (m : Int)) = false := by simp; omega
  go_enter Try.func4, Try.ntmps4
  go_wp2_with fail
  refine (bazaarlaw05_shown.calls true _ rfl).mono ?_
  rintro e W1 ⟨rfl, hb⟩
  have HB1 := Lib.hid hb
  clear hb
  go_wp2_with fail
  clear hZ d1 d2
  obtain ⟨b6, hb6⟩ : ∃ b6, W1.heap.size = b6 := ⟨_, rfl⟩
  obtain ⟨b7, hb7⟩ : ∃ b7, b6 + 1 = b7 := ⟨_, rfl⟩
  obtain ⟨W2, hW2⟩ : ∃ W2, (W1.alloc (.cells #[.int .u32 2, .int .u32 (m : Int), .slice none 0 0] 25)).alloc (.cells Z 38) = W2 := ⟨_, rfl⟩
  have HL0 : Hid (Lst w W2 b6 b7 m 2 none [] 0 (fun _ => false)) := Lib.hid (by
    have h1 := heap_alloc_new (W1.alloc (.cells #[.int .u32 2, .int .u32 (m : Int), .slice none 0 0] 25)) (.cells Z 38)
    rw [World.size_alloc] at h1
    rw [← hW2, ← hb7, ← hb6]
    refine ⟨⟨keep_a _ (heap_alloc_new W1 _), c_none _, Nat.le_refl _⟩, ⟨Z, h1, HZ.out.1, HZ.out.2⟩, (HB1.out.alloc HB1.out.size _).alloc (by have := HB1.out.size; simp; omega) _, HB1.out.size, by have := HB1.out.size; omega, by omega⟩)
  rw [hW2, hb6, hb7]
  clear hW2 hb6 hb7 HB1 HZ
  go_loopw [8, 9] (fun nn i wr => ∃ (j : Nat) (q a0 : Int) (A6 : Option Addr) (l : List S44) (c6 : Nat) (T : Nat → Bool), j ≤ 150 ∧ i = .int .i64 (j : Int) ∧ nn = .int .i64 q ∧ Hid (Inv m a0 l T q) ∧ Hid (Lst w wr b6 b7 m a0 A6 l c6 T)) (fun _ i _ => 150 - (intOf i).toNat)
  case atStart => exact ⟨0, 0, 2, none, [], 0, fun _ => false, Nat.zero_le _, rfl, rfl, Lib.hid (inv_first m h2 h200), HL0⟩
  case round =>
    obtain ⟨j, q, a0, A6, l, c6, T, hj, rfl, rfl, HI, HL⟩ := hrel
    have hn : 0 ≤ n := Nat.zero_le _
    by_cases hlt : j < n ∧ j < 150
    · obtain ⟨hjn, hj1⟩ := hlt
      have hd1 : decide ((j : Int) < (n : Int)) = true := by simp; omega
      have hd2 : decide ((j : Int) < 150) = true := by simp; omega
      have hjn' : (j : Int) < (n : Int) := by omega
      obtain ⟨ad, e, hrow⟩ := HA.out.resolve_left (by omega)
      subst e
      obtain ⟨d, u, t, k0, k1, k2, hu⟩ := hrow j hjn
      have HRW := Lib.hid hrow
      clear hrow
      have HK := Lib.hid (And.intro k0 (And.intro k1 k2))
      clear k0 k1 k2
      have r0 : wr.cell? (ad.add (j * 3)) = some (.int .i64 d) := (HL.out.bel.cell (p := ad.add (j * 3)) (cell_lt HK.out.1)).trans HK.out.1
      have r1 : wr.cell? ⟨(ad.add (j * 3)).block, (ad.add (j * 3)).off + 1, none⟩ = some (.int .u64 u) := (HL.out.bel.cell (p := ⟨(ad.add (j * 3)).block, (ad.add (j * 3)).off + 1, none⟩) (cell_lt HK.out.2.1)).trans HK.out.2.1
      have r2 : wr.cell? ⟨(ad.add (j * 3)).block, (ad.add (j * 3)).off + 2, none⟩ = some (.int .i64 t) := (HL.out.bel.cell (p := ⟨(ad.add (j * 3)).block, (ad.add (j * 3)).off + 2, none⟩) (cell_lt HK.out.2.2)).trans HK.out.2.2
      obtain ⟨bx, hbx⟩ : ∃ bx, wr.heap.size = bx := ⟨_, rfl⟩
      obtain ⟨Wx, hWx⟩ : ∃ Wx, wr.alloc (.cells #[.int .i64 d, .int .u64 u, .int .i64 t] 40) = Wx := ⟨_, rfl⟩
      have HLx := Lib.hid (HL.out.below ((Below.refl _ wr).alloc (Nat.le_refl _) (.cells #[.int .i64 d, .int .u64 u, .int .i64 t] 40)))
      have hxb : (wr.alloc (.cells #[.int .i64 d, .int .u64 u, .int .i64 t] 40)).heap[wr.heap.size]? = some (.cells #[.int .i64 d, .int .u64 u, .int .i64 t] 40 (0, 0)) := heap_alloc_new wr _
      rw [hWx] at HLx hxb
      rw [hbx] at hxb
      obtain ⟨x0, x1, x2⟩ := cells3 hxb
      have HX := Lib.hid hxb
      obtain ⟨c0, c1, c2⟩ := HLx.out.var.cells
      have f6 : ∀ i, Wx.frozen? ⟨b6, i, none⟩ = false := blk_frozen HLx.out.var.blk
      clear hxb
      have hut : 0 ≤ IntKind.u64.wrap t ∧ 0 ≤ IntKind.u64.wrap d := by rw [IntKind.wrap_u64, IntKind.wrap_u64]; omega
      obtain ⟨p, hp⟩ : ∃ p : Nat, (IntKind.u64.wrap t).tmod 200 % 4294967296 = (p : Int) ∧ p < 200 := by
        rw [Int.tmod_eq_emod_of_nonneg hut.1]
        exact ⟨((IntKind.u64.wrap t) % 200).toNat, by omega, by omega⟩
      obtain ⟨hp, hp200⟩ := hp
      by_cases hD : (IntKind.u64.wrap d).tmod 3 < 2
      · have hD' : decide ((IntKind.u64.wrap d).tmod 3 < 2) = true := by simpa using hD
        have HP := Lib.hid hp
        clear hD hp hut
        rcases inv_take HI.out hu with ⟨hfull, hT⟩ | ⟨b0, l', pg, hT, hpg2, hpgm, hTp, hRb, hinv⟩
        · have HT := Lib.hid hT
          have HF := Lib.hid hfull
          clear hT hfull
          obtain rfl : a0 = (m : Int) := HF.out
          go_wp2_with fail
          clear hWx hbx
          refine (alloc_Take.calls (m : Int) (m : Int) A6 c6 l u _ _ _ _ _ _ HLx.out.var.row HLx.out.var.cap HT.out).mono ?_
          rintro e W3 ⟨v3, rfl, hR3, hb⟩
          obtain ⟨A3, n3, rfl, hn3, hC3, _⟩ := own_reads2 hR3
          have HLy := Lib.hid (HLx.out.below (hb.trans ((Below.refl _ W3).alloc hb.size (.cells #[.int .u32 (m : Int), .int .u32 (m : Int), .slice A3 l.length n3] 25))))
          have HY := Lib.hid (Var.new (x0 := (m : Int)) (x1 := (m : Int)) hC3 hn3)
          obtain ⟨b11, hb11⟩ : ∃ b11, W3.heap.size = b11 := ⟨_, rfl⟩
          obtain ⟨W4, hW4⟩ : ∃ W4, W3.alloc (.cells #[.int .u32 (m : Int), .int .u32 (m : Int), .slice A3 l.length n3] 25) = W4 := ⟨_, rfl⟩
          rw [hW4] at HLy HY
          rw [hb11] at HY
          clear c0 c1 c2 f6 hb hR3 hC3 hn3
          obtain ⟨c0, c1, c2⟩ := HLy.out.var.cells
          obtain ⟨y0, y1, y2⟩ := HY.out.cells
          go_wp2_with fail
          clear hW4 hb11
          have hlb := HI.out.bounds
          obtain ⟨k, hk⟩ := (ev_lsame (m : Int) (m : Int) l (by omega)).rounds
          refine (bazaarlaw05_same.calls k m m A6 c6 l m m A3 n3 l true _ HLy.out.var.row HLy.out.var.cap HY.out.row HY.out.cap hk).mono ?_
          rintro e W5 ⟨rfl, hb⟩
          have HLz := Lib.hid (HLy.out.below hb)
          clear hb c0 c1 c2 y0 y1 y2 hk hlb
          obtain ⟨c0, c1, c2⟩ := HLz.out.var.cells
          go_wp2
          go_roundw
          case rel => exact ⟨j + 1, q, m, A6, l, c6, T, by omega, by go_num, rfl, HI, HLz⟩
          case measure => simp [intOf]; omega
        · have HT := Lib.hid hT
          have HRB := Lib.hid hRb
          have HINV := Lib.hid hinv
          have hqb : -5000 ≤ q ∧ q ≤ 200 := by have h1 := HI.out.cnt; have h2 := HI.out.bounds; omega
          have hg1 : decide ((pg : Int) < 2) = false := by simp; omega
          have hg2 : decide ((m : Int) ≤ (pg : Int)) = false := by simp; omega
          have hg3 : (pg : Int) < 200 := by omega
          have hg4 : (0 : Int) ≤ (pg : Int) := by omega
          have HTP := Lib.hid hTp
          clear hT hRb hinv hTp
          go_wp2_with fail
          clear hWx hbx
          refine (alloc_Take.calls a0 (m : Int) A6 c6 l u _ _ _ _ _ _ HLx.out.var.row HLx.out.var.cap HT.out).mono ?_
          rintro e W3 ⟨v3, rfl, hR3, hb⟩
          obtain ⟨A3, n3, rfl, hn3, hC3, hC3'⟩ := own_reads2 hR3
          have HLy := Lib.hid (HLx.out.below (hb.trans ((Below.refl _ W3).alloc hb.size (.cells #[.int .u32 b0, .int .u32 (m : Int), .slice A3 l'.length n3] 25))))
          have HY := Lib.hid (Var.new (x0 := b0) (x1 := (m : Int)) hC3 hn3)
          obtain ⟨b11, hb11⟩ : ∃ b11, W3.heap.size = b11 := ⟨_, rfl⟩
          obtain ⟨W4, hW4⟩ : ∃ W4, W3.alloc (.cells #[.int .u32 b0, .int .u32 (m : Int), .slice A3 l'.length n3] 25) = W4 := ⟨_, rfl⟩
          have HOW : Hid (∀ W' : World, Below W4.heap.size W4 W' → ∀ W'' : World, (∀ k, k ≠ b6 → k ≠ b7 → W''.heap[k]? = W'.heap[k]?) → Kd.C k44 W'' A3 l'.length l') := Lib.hid (fun W' hb1 W'' hh => hC3' W'' (fun k hk1 hk2 => by
            have h6 := HLx.out.var.lt
            have h7 := HLx.out.lt7
            rw [hh k (by omega) (by omega), hb1.block k (by rw [← hW4]; simp; omega), ← hW4, Below.heap_alloc _ _ _ hk2]))
          have hsz : Wx.heap.size ≤ b11 := by rw [← hb11]; exact hb.size
          rw [hW4] at HLy HY
          rw [hb11] at HY
          clear c0 c1 c2 f6 hb hR3 hC3 hn3 hC3'
          obtain ⟨c0, c1, c2⟩ := HLy.out.var.cells
          obtain ⟨y0, y1, y2⟩ := HY.out.cells
          obtain ⟨t7, f7⟩ := HLy.out.cell7 pg (by omega)
          rw [HTP.out] at t7
          go_wp2_with fail
          clear hW4 hb11
          refine (alloc_Right.calls b0 m A3 n3 l' true _ HY.out.row HY.out.cap HRB.out).mono ?_
          rintro e W5 ⟨rfl, hb⟩
          have HLz := Lib.hid (HLy.out.below hb)
          have HZ := Lib.hid (HY.out.below hb)
          have HBz := Lib.hid hb
          clear hb c0 c1 c2 y0 y1 y2 t7 f7
          obtain ⟨t7, f7⟩ := HLz.out.cell7 pg (by omega)
          obtain ⟨W6, hW6⟩ : ∃ W6, W5.setCell ⟨b7, pg, none⟩ (.bool true) = W6 := ⟨_, rfl⟩
          have hm6 := HLz.out.marked pg true
          have hm11 := far_set (b := b7) (i := pg) HZ.out.blk (by have := HLx.out.lt7; omega) (.bool true)
          have HS := Lib.hid (HLz.out.step pg true b0 A3 l' n3 (HOW.out W5 HBz.out) HY.out.cap)
          rw [hW6] at hm6 hm11 HS
          obtain ⟨c0, c1, c2⟩ := cells3 hm6
          obtain ⟨y0, y1, y2⟩ := cells3 hm11
          have f6 : ∀ i, W6.frozen? ⟨b6, i, none⟩ = false := blk_frozen hm6
          clear hm6 hm11
          go_wp2
          clear hW6
          go_roundw
          case rel => exact ⟨j + 1, q + 1, b0, A3, l', n3, upd T pg true, by omega, by go_num, by go_num, HINV, HS⟩
          case measure => simp [intOf]; omega
      · have hD' : decide ((IntKind.u64.wrap d).tmod 3 < 2) = false := by simpa using hD
        clear hD hut
        have hp0 : (0 : Int) ≤ (p : Int) := by omega
        have hp2 : (p : Int) < 200 := by omega
        rcases inv_give HI.out p hp200 u hu with ⟨hTp, hu0, l', hG, hinv⟩ | ⟨hno, hG⟩
        · have HG := Lib.hid hG
          have HINV := Lib.hid hinv
          have HTP := Lib.hid hTp
          have hqb : -5000 ≤ q ∧ q ≤ 200 := by have h1 := HI.out.cnt; have h2 := HI.out.bounds; omega
          have hu1 : decide ((0 : Int) < u) = true := by simpa using hu0
          clear hG hinv hTp
          go_wp2_with fail
          clear hWx hbx
          refine (alloc_Give.calls a0 (m : Int) A6 c6 l p u _ _ _ _ _ HLx.out.var.row HLx.out.var.cap HG.out).mono ?_
          rintro e W3 ⟨v3, rfl, hR3, hb⟩
          obtain ⟨A3, n3, rfl, hn3, hC3, hC3'⟩ := own_reads2 hR3
          have HLy := Lib.hid (HLx.out.below (hb.trans ((Below.refl _ W3).alloc hb.size (.cells #[.int .u32 a0, .int .u32 (m : Int), .slice A3 l'.length n3] 25))))
          have HY := Lib.hid (Var.new (x0 := a0) (x1 := (m : Int)) hC3 hn3)
          have hx4 := keep_a (.cells #[.int .u32 a0, .int .u32 (m : Int), .slice A3 l'.length n3] 25) (keep_b HX.out hb)
          obtain ⟨b15, hb15⟩ : ∃ b15, W3.heap.size = b15 := ⟨_, rfl⟩
          obtain ⟨W4, hW4⟩ : ∃ W4, W3.alloc (.cells #[.int .u32 a0, .int .u32 (m : Int), .slice A3 l'.length n3] 25) = W4 := ⟨_, rfl⟩
          have HOW : Hid (∀ W'' : World, (∀ k, k ≠ b6 → k ≠ b7 → W''.heap[k]? = W4.heap[k]?) → Kd.C k44 W'' A3 l'.length l') := Lib.hid (fun W'' hh => hC3' W'' (fun k hk1 hk2 => by
            have h6 := HLx.out.var.lt
            have h7 := HLx.out.lt7
            rw [hh k (by omega) (by omega), ← hW4, Below.heap_alloc _ _ _ hk2]))
          have hsz : Wx.heap.size ≤ b15 := by rw [← hb15]; exact hb.size
          rw [hW4] at HLy HY hx4
          rw [hb15] at HY
          clear c0 c1 c2 f6 hb hR3 hC3 hn3 hC3' x0 x1 x2
          obtain ⟨x0, x1, x2⟩ := cells3 hx4
          obtain ⟨t7, f7⟩ := HLy.out.cell7 p hp200
          rw [HTP.out] at t7
          obtain ⟨W6, hW6⟩ : ∃ W6, W4.setCell ⟨b7, p, none⟩ (.bool false) = W6 := ⟨_, rfl⟩
          have hm6 := HLy.out.marked p false
          have hm11 := far_set (b := b7) (i := p) HY.out.blk (by have := HLx.out.lt7; omega) (.bool false)
          have HS := Lib.hid (HLy.out.step p false a0 A3 l' n3 HOW.out HY.out.cap)
          rw [hW6] at hm6 hm11 HS
          obtain ⟨c0, c1, c2⟩ := cells3 hm6
          obtain ⟨y0, y1, y2⟩ := cells3 hm11
          have f6 : ∀ i, W6.frozen? ⟨b6, i, none⟩ = false := blk_frozen hm6
          clear hm6 hm11 hx4
          go_wp2
          clear hW6 hW4 hb15
          go_roundw
          case rel => exact ⟨j + 1, q - 1, a0, A3, l', n3, upd T p false, by omega, by go_num, by go_num, HINV, HS⟩
          case measure => simp [intOf]; omega
        · have HG := Lib.hid hG
          clear hG
          go_wp2_with fail
          clear hWx hbx
          refine (alloc_Give.calls a0 (m : Int) A6 c6 l p u _ _ _ _ _ HLx.out.var.row HLx.out.var.cap HG.out).mono ?_
          rintro e W3 ⟨v3, rfl, hR3, hb⟩
          obtain ⟨A3, n3, rfl, hn3, hC3, _⟩ := own_reads2 hR3
          have HLy := Lib.hid (HLx.out.below (hb.trans ((Below.refl _ W3).alloc hb.size (.cells #[.int .u32 0, .int .u32 0, .slice A3 0 n3] 25))))
          have hx4 := keep_a (.cells #[.int .u32 0, .int .u32 0, .slice A3 0 n3] 25) (keep_b HX.out hb)
          obtain ⟨W4, hW4⟩ : ∃ W4, W3.alloc (.cells #[.int .u32 0, .int .u32 0, .slice A3 0 n3] 25) = W4 := ⟨_, rfl⟩
          rw [hW4] at HLy hx4
          clear c0 c1 c2 f6 hb hR3 hC3 hn3 x0 x1 x2
          obtain ⟨x0, x1, x2⟩ := cells3 hx4
          obtain ⟨t7, f7⟩ := HLy.out.cell7 p hp200
          clear hx4
          by_cases hTp : T p = true
          · have hu0 : u = 0 := by
              rcases hno with h | h
              · rw [hTp] at h; cases h
              · exact h
            rw [hTp] at t7
            subst hu0
            clear hno hTp
            go_wp2
            go_roundw
            case rel => exact ⟨j + 1, q, a0, A6, l, c6, T, by omega, by go_num, rfl, HI, HLy⟩
            case measure => simp [intOf]; omega
          · rw [show T p = false by simpa using hTp] at t7
            clear hno hTp
            go_wp2
            go_roundw
            case rel => exact ⟨j + 1, q, a0, A6, l, c6, T, by omega, by go_num, rfl, HI, HLy⟩
            case measure => simp [intOf]; omega
    · have hqb : -5000 ≤ q ∧ q ≤ 200 := by have h1 := HI.out.cnt; have h2 := HI.out.bounds; omega
      have hab := HI.out.bounds
      have hcnt : ((q + (l.length : Int) + 2) == a0) = true := by have := HI.out.cnt; simp; omega
      have hw0 : IntKind.i64.wrap a0 = a0 := IntWalk.i64_in _ (by omega)
      obtain ⟨c0, c1, c2⟩ := HL.out.var.cells
      by_cases hjn : j < n
      · have hd1 : decide ((j : Int) < (n : Int)) = true := by simp; omega
        have hd2 : decide ((j : Int) < 150) = false := by simp; omega
        clear hlt
        go_wp2
        go_ret
        exact ⟨rfl, HL.out.bel⟩
      · have hd1 : decide ((j : Int) < (n : Int)) = false := by simp; omega
        clear hlt
        go_wp2
        go_ret
        exact ⟨rfl, HL.out.bel⟩

set_option maxHeartbeats 1000000 in
set_option maxRecDepth 100000 in
theorem lives_out (m : Int) (v : Value) (w : World) (h : m < 2 ∨ 200 < m) : Calls Try.prog 4 #[.int .u32 m, v] w fun e w' => e = .returned (.bool true) ∧ Below w.heap.size w w' := by
  by_cases h2 : m < 2
  · have d1 : decide (m < 2) = true := by simpa using h2
    clear h
    go_enter Try.func4, Try.ntmps4
    go_wp2_with fail
    refine (bazaarlaw05_shown.calls true _ rfl).mono ?_
    rintro e W1 ⟨rfl, hb⟩
    have HB1 := Lib.hid hb
    clear hb
    go_wp2
    go_ret
    exact ⟨rfl, HB1.out⟩
  · have d1 : decide (m < 2) = false := by simpa using h2
    have d2 : decide (200 < m) = true := by simp; omega
    clear h h2
    go_enter Try.func4, Try.ntmps4
    go_wp2_with fail
    refine (bazaarlaw05_shown.calls true _ rfl).mono ?_
    rintro e W1 ⟨rfl, hb⟩
    have HB1 := Lib.hid hb
    clear hb
    go_wp2
    go_ret
    exact ⟨rfl, HB1.out⟩
end Go.Proofs.YtnbmpcdomdaimaaQ.PA
