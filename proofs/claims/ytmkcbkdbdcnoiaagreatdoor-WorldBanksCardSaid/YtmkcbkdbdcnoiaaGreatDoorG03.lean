/- Package keys: bytes. Package keys: forms; a map's entry that is new, or looked up. Package keys: Key. Package keys: Of. -/
import Derived.Maps.Keyed
import Derived.Deep.RegionHeld3
import Derived.Test.YtmkcbkdbdcnoiaaGreatDoorG02
namespace Go.Proofs.YtmkcbkdbdcnoiaaGreatDoor
open Go.RowKit
set_option linter.unusedVariables false
set_option linter.unusedSimpArgs false

/-- The cells of fields: a number, and how many bytes it takes. -/
def fcs (k : IntKind) (fs : List (Nat × Nat)) : List Value := cat2 (fun f => .int k (f.1 : Int)) (fun f => .int .i64 (f.2 : Int)) fs

set_option maxHeartbeats 1000000 in
set_option maxRecDepth 100000 in
theorem kbytes_any (mark : UInt8) (x : Int) (hx : x = (mark.toNat : Int)) (fs : List (Nat × Nat)) (v : Value) (w : World) (hv : Sees w v fs.length 2 (fcs .u32 fs))
    (hn : fs.length ≤ 100) (hs : ∀ f ∈ fs, f.1 < 4294967296 ∧ f.2 ≤ 4) :
    Calls Tryz.prog 178 #[.int .u8 x, v] w fun e w' => e = .returned (.string ⟨(mark :: fieldBytes fs).toArray⟩) ∧ Below w.heap.size w w' := by
  have HS := Lib.hid hs
  have HV := Lib.hid hv
  obtain ⟨base, cap, rfl⟩ := hv.shape
  obtain ⟨R, hR⟩ : ∃ R, mark :: fieldBytes fs = R := ⟨_, rfl⟩
  have H0 : Hid (Bld w (.slice (some ⟨w.heap.size, 0, none⟩) 1 1) [mark] (w.alloc (.cells #[.int .u8 x] 5))) := Lib.hid (by
    subst hx
    exact ⟨⟨rfl, .inr ⟨w.heap.size, 1, #[.int .u8 mark.toNat], rfl, Nat.le_refl _, heap_alloc_new w _, Nat.le_refl _, by unfold maxLen; omega, rfl, rfl⟩⟩, (Below.refl _ w).alloc (Nat.le_refl _) _⟩)
  rw [hR]
  have HR := Lib.hid hR
  clear hs hv hR hx
  obtain ⟨i0, hi, hi0, hi1, hi2⟩ := info_parts infoU8
  go_enter Tryz.func178, Tryz.ntmps178
  go_wp2
  go_loopw [5, 13] (fun v i wr => ∃ k : Nat, k ≤ fs.length ∧ i = .int .i64 (k : Int) ∧ Hid (Bld w v (mark :: fieldBytes (fs.take k)) wr)) (fun _ i _ => fs.length - (intOf i).toNat)
  case atStart => exact ⟨0, Nat.zero_le _, rfl, H0⟩
  case round =>
    obtain ⟨k, hk, rfl, HK⟩ := hrel
    by_cases hlt : k < fs.length
    · have HS1 := Lib.hid (fieldBytes_snoc fs k hlt)
      have hq := HS.out _ (List.getElem_mem hlt)
      obtain ⟨a, cap2, he, h2, h3, h4⟩ := Sees.at2 (f := fun f : Nat × Nat => .int .u32 (f.1 : Int)) (g := fun f : Nat × Nat => .int .i64 (f.2 : Int)) (HV.out.below HK.out.2) k hlt
      simp only [Value.slice.injEq, true_and] at he
      obtain ⟨rfl, rfl⟩ := he
      obtain ⟨n, sz, hnsz⟩ : ∃ n sz, fs[k]'hlt = (n, sz) := ⟨_, _, rfl⟩
      rw [hnsz] at hq h2 h3 h4 HS1
      clear hnsz
      obtain ⟨hq1, hq2⟩ := hq
      simp only at hq1 hq2 h2 h3 h4 HS1
      have hlt' : (k : Int) < (fs.length : Int) := by omega
      have hle : (fieldBytes (fs.take k)).length ≤ 8 * k := by
        have := fieldBytes_length (fs.take k) (fun f hf => ⟨by have := (HS.out f (List.mem_of_mem_take hf)).1; omega, by have := (HS.out f (List.mem_of_mem_take hf)).2; omega⟩)
        rw [List.length_take] at this; omega
      have HQ1 := Lib.hid hq1
      clear hq1
      obtain ⟨wo, hwo⟩ : ∃ wo : World, wr.alloc (.cells #[.int .u32 (n : Int), .int .i64 (sz : Int)] 216) = wo := ⟨_, rfl⟩
      obtain ⟨bx, hbx⟩ : ∃ bx, wr.heap.size = bx := ⟨_, rfl⟩
      have HX : Hid (Bld w _ (mark :: fieldBytes (fs.take k)) wo ∧ wo.heap[bx]? = some (.cells #[.int .u32 (n : Int), .int .i64 (sz : Int)] 216 (0, 0))) := Lib.hid (by
        rw [← hwo, ← hbx]
        exact ⟨⟨HK.out.1.alloc _, HK.out.2.alloc HK.out.2.size _⟩, heap_alloc_new wr _⟩)
      have c0 : ∀ j, wo.cell? ⟨bx, j, none⟩ = (#[.int .u32 (n : Int), .int .i64 (sz : Int)] : Array Value)[j]? := blk_cell HX.out.2
      go_wp2
      clear c0 h2 h3 h4 hwo hbx
      go_loopw [5, 8] (fun v j wq => ∃ r : Nat, r ≤ sz ∧ j = .int .i64 ((r : Int) - 1) ∧ ∃ bs, Hid (bs ++ be n r = mark :: fieldBytes (fs.take (k + 1))) ∧ Hid (Bld w v bs wq ∧ wq.heap[bx]? = some (.cells #[.int .u32 (n : Int), .int .i64 (sz : Int)] 216 (0, 0)))) (fun _ j _ => ((intOf j) + 1).toNat)
      case atStart => exact ⟨sz, Nat.le_refl _, rfl, mark :: fieldBytes (fs.take k), Lib.hid (by rw [HS1.out]; rfl), HX⟩
      case round =>
        obtain ⟨r, hr, rfl, bs, HE, HI⟩ := hrel
        have hbs : bs.length ≤ 1000 := by
          have h1 := congrArg List.length HE.out
          rw [List.length_append, be_length, List.length_cons] at h1
          have h2 := congrArg List.length HS1.out
          rw [List.length_append, be_length] at h2
          omega
        cases r with
        | zero =>
          have HE2 := HE.out
          rw [be, List.append_nil] at HE2
          subst HE2
          go_wp2
          go_roundw
          case rel => exact ⟨k + 1, by omega, by go_num, Lib.hid HI.out.1⟩
          case measure => simp [intOf]; omega
        | succ r =>
          have c0 : ∀ j, wr.cell? ⟨bx, j, none⟩ = (#[.int .u32 (n : Int), .int .i64 (sz : Int)] : Array Value)[j]? := blk_cell HI.out.2
          have hw : IntKind.i64.wrap (8 * (r : Int)) = 8 * (r : Int) := IntWalk.i64_in _ (by omega)
          have hp : (0 : Int) ≤ 8 * (r : Int) := by omega
          have hmin : min (8 * r) 32 = 8 * r := by omega
          go_wp2_with (at_builtin; refine wpList_append_own _ rfl _ _ 197 rfl w.heap.size 5 i0 (.int .u8 0) 1 1 Tryz.underlying197 hi hi0 hi1 hi2 rfl (by decide) _ _ _ rfl (HI.out.1.1.alloc _) ⟨wr.heap.size, 0, none⟩ 1 1 [.int .u8 ((n : Int) / 2 ^ (8 * r) % 256)] rfl rfl (cell_one_new _ _ _) (by simp [Value.oneCell']) ?b1 ?b2 ?b3 ?_)
          case b1 => unfold maxLen; omega
          case b2 => omega
          case b3 => have := HI.out.1.2.size; simp; omega
          intro v' w1 hown hgrow _
          have hx2 : w1.heap[bx]? = some (.cells #[.int .u32 (n : Int), .int .i64 (sz : Int)] 216 (0, 0)) := by
            have hlt := (Array.getElem?_eq_some_iff.1 HI.out.2).1
            rw [hgrow.block bx (by simp; omega) (fun e => ?_), Below.heap_alloc _ _ _ hlt]
            · exact HI.out.2
            · rcases HI.out.1.1.2 with ⟨h, _⟩ | ⟨g, cap, cur, h, _, hh, _⟩
              · rw [h] at e; cases e
              · rw [h] at e
                simp only [Value.ownBlock, Option.some.injEq] at e
                rw [← e, HI.out.2] at hh
                cases hh
          have HO := Lib.hid (And.intro hown (And.intro hgrow hx2))
          clear hown hgrow hmin hx2 c0
          go_wp2
          go_roundw
          case rel =>
            refine ⟨r, by omega, by go_num, bs ++ [UInt8.ofNat (n >>> (8 * r))], Lib.hid (by have := HE.out; rw [be] at this; rw [List.append_assoc]; exact this), Lib.hid ⟨?_, HO.out.2.2⟩⟩
            exact HI.out.1.next (n := (n : Int) / 2 ^ (8 * r) % 256) (byte_of n r) HO.out.1 HO.out.2.1
          case measure => simp [intOf]
    · obtain rfl : k = fs.length := by omega
      have HK2 := HK.out
      rw [List.take_length] at HK2
      rw [HR.out] at HK2
      have HC := own_text HK2.1
      have HB := Lib.hid HK2.2
      clear HK2
      go_wp2
      go_ret
      exact ⟨rfl, HB.out⟩
end Go.Proofs.YtmkcbkdbdcnoiaaGreatDoor
namespace Go.Proofs.YtmkcbkdbdcnoiaaGreatDoor
open Go.RowKit
set_option linter.unusedVariables false
set_option linter.unusedSimpArgs false

section
variable {P : Program}
theorem run_check_int (w : World) {kt : TypeId} (hk : P.underlying kt = some (.int .i64)) (em : Bool) (k : Int) : (Instr.checkKey em 10000 kt (.int .i64 k)).run P w = .ok () w := by
  have hu := run_underlying hk
  have : ∀ n, (Instr.checkKey em (n + 1) kt (.int .i64 k)).run P w = .ok () w := fun n => by simp [Instr.checkKey, hu]
  exact this 9999
theorem run_insert_new (w : World) {t kt et : TypeId} (ht : P.underlying t = some (.map kt et)) (hk : P.underlying kt = some (.int .i64)) {r : Nat} {es : Array MapEntry} {c : Nat} (hg : w.heap[r]? = some (.map es c)) (k : Int) (v : Value)
    (hnew : Instr.findNow (.int .i64) (.int .i64 k) es.toList 0 = some none) :
    (Instr.mapUpdate t (.map (some r)) (.int .i64 k) v).run P w = .ok () (w.putObj r (.map (es.push ⟨.int .i64 k, v, c⟩) (c + 1))) := by
  have hu := run_underlying ht
  have hu2 := run_underlying hk
  have hc := run_check_int w hk false k
  simp [Instr.mapUpdate, hu, hc, hu2, Instr.findKey, hnew, MapKept.run_getObj_map hg, MapKept.run_setObj_map _ hg, Result.andThen]
  try rfl
theorem run_look (w : World) {t kt et : TypeId} (ht : P.underlying t = some (.map kt et)) (hk : P.underlying kt = some (.int .i64)) {r : Nat} {es : Array MapEntry} {c : Nat} (hg : w.heap[r]? = some (.map es c)) (k : Int) (i : Nat) (v : Value)
    (hf : Instr.findNow (.int .i64) (.int .i64 k) es.toList 0 = some (some (i, v))) :
    (Instr.lookup t (.map (some r)) (.int .i64 k) false).run P w = .ok v w := by
  have hu := run_underlying ht
  have hu2 := run_underlying hk
  have hc := run_check_int w hk es.isEmpty k
  simp [Instr.lookup, hu, hc, hu2, Instr.findKey, hf, MapKept.run_getObj_map hg, Result.andThen]
end

/-- A form's cells. -/
def fmv (mark a i m : Int) : Value := .agg #[.int .u8 mark, .int .i64 a, .int .i64 i, .int .i64 m]
def formsL : List (Int × Value) := [(1, fmv 97 4 0 0), (2, fmv 105 4 2 0), (3, fmv 109 4 0 4), (4, fmv 115 4 0 0), (5, fmv 110 1 0 0), (6, fmv 116 1 2 0)]
def formsE (n : Nat) : Array MapEntry := ((formsL.take n).zipIdx.map fun x => ⟨.int .i64 x.1.1, x.1.2, x.2⟩).toArray

set_option maxHeartbeats 1000000 in
set_option maxRecDepth 100000 in
theorem forms_any (w : World) : Calls Tryz.prog 177 #[] w fun e w' => e = .returned (.map (some w.heap.size)) ∧ w'.heap[w.heap.size]? = some (.map (formsE 6) 6) ∧ Below w.heap.size w w' := by
  have hmm := @run_makeMap Tryz.prog
  obtain ⟨r, hr⟩ : ∃ r, w.heap.size = r := ⟨_, rfl⟩
  obtain ⟨w0, h0⟩ : ∃ w0, w.alloc (.map #[] 0) = w0 := ⟨_, rfl⟩
  have g0 : w0.heap[r]? = some (.map (formsE 0) 0) := by rw [← h0, ← hr]; exact heap_alloc_new w _
  have b0 : Below r w w0 := by rw [← h0, ← hr]; exact (Below.refl _ w).alloc (Nat.le_refl _) _
  have l0 : r < w0.heap.size := (Array.getElem?_eq_some_iff.1 g0).1
  have s0 := run_insert_new w0 Tryz.underlying212 Tryz.underlying3 g0 1 (fmv 97 4 0 0) (by rfl)
  obtain ⟨w1, e0⟩ : ∃ w1, w0.putObj r (.map ((formsE 0).push ⟨.int .i64 1, fmv 97 4 0 0, 0⟩) (0 + 1)) = w1 := ⟨_, rfl⟩
  rw [e0] at s0
  have g1 : w1.heap[r]? = some (.map (formsE 1) 1) := by rw [← e0]; exact (World.putObj_heap_same l0)
  have b1 : Below r w w1 := by rw [← e0]; exact b0.trans (((Same.refl (fun k => k < r) w0).putObj _ (fun _ h => by omega)).below (by omega) fun k hk => hk)
  have l1 : r < w1.heap.size := (Array.getElem?_eq_some_iff.1 g1).1
  clear e0
  have s1 := run_insert_new w1 Tryz.underlying212 Tryz.underlying3 g1 2 (fmv 105 4 2 0) (by rfl)
  obtain ⟨w2, e1⟩ : ∃ w2, w1.putObj r (.map ((formsE 1).push ⟨.int .i64 2, fmv 105 4 2 0, 1⟩) (1 + 1)) = w2 := ⟨_, rfl⟩
  rw [e1] at s1
  have g2 : w2.heap[r]? = some (.map (formsE 2) 2) := by rw [← e1]; exact (World.putObj_heap_same l1)
  have b2 : Below r w w2 := by rw [← e1]; exact b1.trans (((Same.refl (fun k => k < r) w1).putObj _ (fun _ h => by omega)).below (by omega) fun k hk => hk)
  have l2 : r < w2.heap.size := (Array.getElem?_eq_some_iff.1 g2).1
  clear e1
  have s2 := run_insert_new w2 Tryz.underlying212 Tryz.underlying3 g2 3 (fmv 109 4 0 4) (by rfl)
  obtain ⟨w3, e2⟩ : ∃ w3, w2.putObj r (.map ((formsE 2).push ⟨.int .i64 3, fmv 109 4 0 4, 2⟩) (2 + 1)) = w3 := ⟨_, rfl⟩
  rw [e2] at s2
  have g3 : w3.heap[r]? = some (.map (formsE 3) 3) := by rw [← e2]; exact (World.putObj_heap_same l2)
  have b3 : Below r w w3 := by rw [← e2]; exact b2.trans (((Same.refl (fun k => k < r) w2).putObj _ (fun _ h => by omega)).below (by omega) fun k hk => hk)
  have l3 : r < w3.heap.size := (Array.getElem?_eq_some_iff.1 g3).1
  clear e2
  have s3 := run_insert_new w3 Tryz.underlying212 Tryz.underlying3 g3 4 (fmv 115 4 0 0) (by rfl)
  obtain ⟨w4, e3⟩ : ∃ w4, w3.putObj r (.map ((formsE 3).push ⟨.int .i64 4, fmv 115 4 0 0, 3⟩) (3 + 1)) = w4 := ⟨_, rfl⟩
  rw [e3] at s3
  have g4 : w4.heap[r]? = some (.map (formsE 4) 4) := by rw [← e3]; exact (World.putObj_heap_same l3)
  have b4 : Below r w w4 := by rw [← e3]; exact b3.trans (((Same.refl (fun k => k < r) w3).putObj _ (fun _ h => by omega)).below (by omega) fun k hk => hk)
  have l4 : r < w4.heap.size := (Array.getElem?_eq_some_iff.1 g4).1
  clear e3
  have s4 := run_insert_new w4 Tryz.underlying212 Tryz.underlying3 g4 5 (fmv 110 1 0 0) (by rfl)
  obtain ⟨w5, e4⟩ : ∃ w5, w4.putObj r (.map ((formsE 4).push ⟨.int .i64 5, fmv 110 1 0 0, 4⟩) (4 + 1)) = w5 := ⟨_, rfl⟩
  rw [e4] at s4
  have g5 : w5.heap[r]? = some (.map (formsE 5) 5) := by rw [← e4]; exact (World.putObj_heap_same l4)
  have b5 : Below r w w5 := by rw [← e4]; exact b4.trans (((Same.refl (fun k => k < r) w4).putObj _ (fun _ h => by omega)).below (by omega) fun k hk => hk)
  have l5 : r < w5.heap.size := (Array.getElem?_eq_some_iff.1 g5).1
  clear e4
  have s5 := run_insert_new w5 Tryz.underlying212 Tryz.underlying3 g5 6 (fmv 116 1 2 0) (by rfl)
  obtain ⟨w6, e5⟩ : ∃ w6, w5.putObj r (.map ((formsE 5).push ⟨.int .i64 6, fmv 116 1 2 0, 5⟩) (5 + 1)) = w6 := ⟨_, rfl⟩
  rw [e5] at s5
  have g6 : w6.heap[r]? = some (.map (formsE 6) 6) := by rw [← e5]; exact (World.putObj_heap_same l5)
  have b6 : Below r w w6 := by rw [← e5]; exact b5.trans (((Same.refl (fun k => k < r) w5).putObj _ (fun _ h => by omega)).below (by omega) fun k hk => hk)
  have l6 : r < w6.heap.size := (Array.getElem?_eq_some_iff.1 g6).1
  clear e5
  have HG := Lib.hid (And.intro g6 b6)
  have HS := Lib.hid (And.intro h0 hr)
  unfold fmv at s0 s1 s2 s3 s4 s5
  clear g0 g1 g2 g3 g4 g5 g6 b0 b1 b2 b3 b4 b5 b6 l0 l1 l2 l3 l4 l5 l6
  go_enter Tryz.func177, Tryz.ntmps177
  go_wp2
  go_ret
  obtain ⟨_, hh⟩ := HS.out
  rw [hh]
  exact ⟨rfl, HG.out⟩
end Go.Proofs.YtmkcbkdbdcnoiaaGreatDoor
namespace Go.Proofs.YtmkcbkdbdcnoiaaGreatDoor
open Go.RowKit
set_option linter.unusedVariables false
set_option linter.unusedSimpArgs false

/-- A kind's form: its mark, how many bytes each field has. -/
def kForm (k : Int) : UInt8 × Nat × Nat × Nat :=
  if k = 1 then (97, 4, 0, 0) else if k = 2 then (105, 4, 2, 0) else if k = 3 then (109, 4, 0, 4) else if k = 4 then (115, 4, 0, 0) else if k = 5 then (110, 1, 0, 0) else (116, 1, 2, 0)
def isKind (k : Int) : Prop := k = 1 ∨ k = 2 ∨ k = 3 ∨ k = 4 ∨ k = 5 ∨ k = 6
theorem kRight_kind {k a i m : Int} (h : kRight k a i m = true) : isKind k := by
  unfold isKind
  apply Classical.byContradiction
  intro hn
  rw [kRight, if_neg (by omega), if_neg (by omega), if_neg (by omega), if_neg (by omega), if_neg (by omega), if_neg (by omega)] at h
  cases h
theorem look_form (w : World) {r : Nat} (hg : w.heap[r]? = some (.map (formsE 6) 6)) {k : Int} (hk : isKind k) :
    (Instr.lookup 212 (.map (some r)) (.int .i64 k) false).run Tryz.prog w = .ok (fmv ((kForm k).1.toNat : Int) ((kForm k).2.1 : Int) ((kForm k).2.2.1 : Int) ((kForm k).2.2.2 : Int)) w := by
  rcases hk with rfl | rfl | rfl | rfl | rfl | rfl
  · exact run_look w Tryz.underlying212 Tryz.underlying3 hg 1 0 _ (by rfl)
  · exact run_look w Tryz.underlying212 Tryz.underlying3 hg 2 1 _ (by rfl)
  · exact run_look w Tryz.underlying212 Tryz.underlying3 hg 3 2 _ (by rfl)
  · exact run_look w Tryz.underlying212 Tryz.underlying3 hg 4 3 _ (by rfl)
  · exact run_look w Tryz.underlying212 Tryz.underlying3 hg 5 4 _ (by rfl)
  · exact run_look w Tryz.underlying212 Tryz.underlying3 hg 6 5 _ (by rfl)

/-- A place's key. -/
def kKey (k a i m : Int) : List UInt8 × Int := if kRight k a i m = true then ((kForm k).1 :: fieldBytes [(a.toNat, (kForm k).2.1), (i.toNat, (kForm k).2.2.1), (m.toNat, (kForm k).2.2.2)], 0) else ([], 100)

/-- The numbers of a place are those of its fields. -/
def PlOk (k a i m : Int) : Prop := 0 ≤ a ∧ a < 4294967296 ∧ 0 ≤ i ∧ i < 65536 ∧ 0 ≤ m ∧ m < 4294967296

theorem cell_alloc {w : World} {p : Addr} {v : Value} (h : w.cell? p = some v) (o : Obj) : (w.alloc o).cell? p = some v := cell_keep h ((Below.refl _ w).alloc (Nat.le_refl _) _)
theorem cell_drew {w : World} {p : Addr} {v : Value} (h : w.cell? p = some v) : w.drew.cell? p = some v := h
theorem cell_far {w : World} {p q : Addr} {v : Value} (h : w.cell? p = some v) (hn : p.block ≠ q.block) (u : Value) : (w.setCell q u).cell? p = some v := by
  rw [← h]; exact World.cell?_of_block (w := w) (Below.heap_setCell w q u p.block hn)
theorem two_ways {w W2 W3 : World} {Z M box : Obj} {b : Nat} (h1 : Below w.heap.size w W2) (h2 : W2.heap[b]? = some box) (hm : W3.heap[(W2.alloc Z).drew.heap.size]? = some M) (hb : Below (W2.alloc Z).drew.heap.size (W2.alloc Z).drew W3) :
    Below w.heap.size w W3 ∧ W3.heap[b]? = some box ∧ W3.heap[W2.heap.size + 1]? = some M ∧ W3.heap[W2.heap.size]? = some Z ∧ b < W2.heap.size := by
  have e : (W2.alloc Z).drew.heap.size = W2.heap.size + 1 := by simp
  refine ⟨(h1.alloc h1.size Z).drew.trans (hb.mono (by have := h1.size; omega)), keep_b (W := (W2.alloc Z).drew) (keep_a _ h2) hb, by rwa [e] at hm, keep_b (W := (W2.alloc Z).drew) (heap_alloc_new W2 _) hb, (Array.getElem?_eq_some_iff.1 h2).1⟩
set_option maxHeartbeats 2000000 in
set_option maxRecDepth 100000 in
theorem key_any (k a i m : Int) (w : World) (hp : PlOk k a i m) : Calls Tryz.prog 129 #[plv k a i m] w fun e w' => e = .returned (.tuple #[.string ⟨(kKey k a i m).1.toArray⟩, .int .i64 (kKey k a i m).2]) ∧ Below w.heap.size w w' := by
  obtain ⟨hp1, hp2, hp3, hp4, hp5, hp6⟩ := hp
  obtain ⟨a, rfl⟩ := Int.eq_ofNat_of_zero_le hp1
  obtain ⟨i, rfl⟩ := Int.eq_ofNat_of_zero_le hp3
  obtain ⟨m, rfl⟩ := Int.eq_ofNat_of_zero_le hp5
  obtain ⟨W, hW⟩ : ∃ W, w.alloc (.cells #[.int .i64 k, .int .u32 a, .int .u16 i, .int .u32 m] 51) = W := ⟨_, rfl⟩
  have hb0 : Below w.heap.size w W := by rw [← hW]; exact (Below.refl _ w).alloc (Nat.le_refl _) _
  have k0 : W.heap[w.heap.size]? = some (.cells #[.int .i64 k, .int .u32 a, .int .u16 i, .int .u32 m] 51 (0, 0)) := by rw [← hW]; exact heap_alloc_new w _
  have c0 : ∀ j, W.cell? ⟨w.heap.size, j, none⟩ = (#[.int .i64 k, .int .u32 a, .int .u16 i, .int .u32 m] : Array Value)[j]? := blk_cell k0
  have hR := kright_any k a i m W
  obtain ⟨R, hRR⟩ : ∃ R, kKey k a i m = R := ⟨_, rfl⟩
  rw [hRR]
  unfold kKey at hRR
  simp only [Int.toNat_natCast] at hRR
  unfold plv at *
  have HK := Lib.hid (And.intro hb0 k0)
  clear hb0 k0
  rcases hr : kRight k a i m with _ | _
  · rw [hr] at hR hRR
    rw [if_neg (by simp)] at hRR
    subst hRR
    go_enter Tryz.func129, Tryz.ntmps129
    go_wp2_with fail
    refine hR.mono ?_
    rintro e W2 ⟨rfl, hb⟩
    have HB := Lib.hid (HK.out.1.trans (hb.mono HK.out.1.size))
    clear hb
    go_wp2
    go_ret2
    exact ⟨rfl, HB.out⟩
  · have hkd := kRight_kind hr
    rw [hr] at hR hRR
    rw [if_pos rfl] at hRR
    have HR := Lib.hid hRR
    have HD := Lib.hid hkd
    clear hRR hkd
    have hlk := fun w r hg => look_form w (r := r) hg HD.out
    have hle : (kForm k).2.1 ≤ 4 ∧ (kForm k).2.2.1 ≤ 4 ∧ (kForm k).2.2.2 ≤ 4 := by
      rcases HD.out with rfl | rfl | rfl | rfl | rfl | rfl <;> decide
    generalize kForm k = F at hlk HR hle
    obtain ⟨f0, f1, f2, f3⟩ := F
    simp only at hlk hle
    unfold fmv at hlk
    have HL := Lib.hid hlk
    clear hlk
    go_enter Tryz.func129, Tryz.ntmps129
    go_wp2_with fail
    refine hR.mono ?_
    rintro e W2 ⟨rfl, hb⟩
    have HB := Lib.hid (And.intro (HK.out.1.trans (hb.mono HK.out.1.size)) (keep_b HK.out.2 hb))
    clear hb c0
    have c0 : ∀ j, W2.cell? ⟨w.heap.size, j, none⟩ = (#[.int .i64 k, .int .u32 a, .int .u16 i, .int .u32 m] : Array Value)[j]? := blk_cell HB.out.2
    go_wp2_with fail
    have c00 : W2.cell? ⟨w.heap.size, 0, none⟩ = some (.int .i64 k) := c0 0
    go_region_held3 (fun W' => W'.cell? ⟨w.heap.size, 0, none⟩ = some (.int .i64 k)) (first | with_reducible exact c00 | with_reducible exact cell_drew c00 | with_reducible exact cell_alloc c00 _ | with_reducible exact cell_drew (cell_alloc c00 _) | with_reducible exact q0 | with_reducible exact cell_alloc q0 _ | with_reducible exact cell_far (cell_far (cell_far (cell_far q0 qn _) qn _) qn _) qn _)
      (first | ((go_at_call 177; (with_reducible refine (forms_any W2.drew).mono ?_); rintro e W3 ⟨rfl, hm, hb⟩; have HB3 := Lib.hid (And.intro (HB.out.1.drew.trans (hb.mono (by exact HB.out.1.size))) (And.intro (keep_b (W := W2.drew) (by exact HB.out.2) hb) hm)); have q0 : W3.cell? ⟨w.heap.size, 0, none⟩ = some (.int .i64 k) := blk_cell HB3.out.2.1 0; have hl : (Instr.lookup 212 (.map (some W2.heap.size)) (.int .i64 k) false).run Tryz.prog W3 = _ := HL.out W3 _ hm; have hl2 : (Instr.lookup 212 (.map (some W2.heap.size)) (.int .i64 k) false).run Tryz.prog (W3.alloc (.cells #[.int .u8 0, .int .i64 0, .int .i64 0, .int .i64 0] 205)) = _ := HL.out _ _ (keep_a _ hm); clear hb hm)) | ((go_at_call 177; refine (forms_any (W2.alloc (.cells #[.int .u8 0, .int .i64 0, .int .i64 0, .int .i64 0] 205)).drew).mono ?_; rintro e W3 ⟨rfl, hm, hb⟩; have HB3 := Lib.hid (two_ways HB.out.1 HB.out.2 hm hb); have q0 : W3.cell? ⟨w.heap.size, 0, none⟩ = some (.int .i64 k) := blk_cell HB3.out.2.1 0; have qn : w.heap.size ≠ W2.heap.size := (Nat.ne_of_lt HB3.out.2.2.2.2); have hl : (Instr.lookup 212 (.map (some (W2.heap.size + 1))) (.int .i64 k) false).run Tryz.prog W3 = _ := HL.out W3 _ HB3.out.2.2.1; have z0 : ∀ j, W3.cell? ⟨W2.heap.size, j, none⟩ = (#[.int .u8 0, .int .i64 0, .int .i64 0, .int .i64 0] : Array Value)[j]? := blk_cell HB3.out.2.2.2.1; have z1 : ∀ j, W3.frozen? ⟨W2.heap.size, j, none⟩ = false := blk_frozen HB3.out.2.2.2.1; clear hb hm)))
    · obtain ⟨b4, hb4⟩ : ∃ b4, W3.heap.size = b4 := ⟨_, rfl⟩
      obtain ⟨W4, hW4⟩ : ∃ W4, W3.alloc (.cells #[.int .u8 (f0.toNat : Int), .int .i64 (f1 : Int), .int .i64 (f2 : Int), .int .i64 (f3 : Int)] 205) = W4 := ⟨_, rfl⟩
      have H4 : Hid (Below w.heap.size w W4 ∧ W4.heap[w.heap.size]? = some (.cells #[.int .i64 k, .int .u32 a, .int .u16 i, .int .u32 m] 51 (0, 0)) ∧ W4.heap[b4]? = some (.cells #[.int .u8 (f0.toNat : Int), .int .i64 (f1 : Int), .int .i64 (f2 : Int), .int .i64 (f3 : Int)] 205 (0, 0))) := Lib.hid (by
        rw [← hW4, ← hb4]; exact ⟨HB3.out.1.alloc HB3.out.1.size _, keep_a _ HB3.out.2.1, heap_alloc_new W3 _⟩)
      rw [hW4, hb4]
      clear hW4 hb4 hl hl2 q0
      clear HB3 HB c0 c00
      have c0 : ∀ j, W4.cell? ⟨w.heap.size, j, none⟩ = (#[.int .i64 k, .int .u32 a, .int .u16 i, .int .u32 m] : Array Value)[j]? := blk_cell H4.out.2.1
      have c1 : ∀ j, W4.cell? ⟨b4, j, none⟩ = (#[.int .u8 (f0.toNat : Int), .int .i64 (f1 : Int), .int .i64 (f2 : Int), .int .i64 (f3 : Int)] : Array Value)[j]? := blk_cell H4.out.2.2
      have hwr : IntKind.u32.wrap (i : Int) = (i : Int) := IntWalk.u32_in _ (by omega)
      have hB := kbytes_any f0 (f0.toNat : Int) rfl [(a, f1), (i, f2), (m, f3)] _ (W4.alloc (.cells #[.int .u32 a, .int .i64 f1, .int .u32 i, .int .i64 f2, .int .u32 m, .int .i64 f3] 216)) (Sees.of_blk (heap_alloc_new W4 _) rfl) (by simp) (by
        intro f hf
        simp only [List.mem_cons, List.not_mem_nil, or_false] at hf
        rcases hf with rfl | rfl | rfl <;> simp only <;> omega)
      have HBB := Lib.hid hB
      clear hB
      go_wp2_with fail
      refine HBB.out.mono ?_
      rintro e W5 ⟨rfl, hb⟩
      have H5 := Lib.hid ((H4.out.1.alloc H4.out.1.size _).trans (hb.mono (by have := H4.out.1.size; simp; omega)))
      clear hb c0 c1
      have hE := HR.out
      subst hE
      go_wp2
      go_ret2
      exact ⟨rfl, H5.out⟩
    · obtain ⟨b4, hb4⟩ : ∃ b4, W3.heap.size = b4 := ⟨_, rfl⟩
      obtain ⟨W4, hW4⟩ : ∃ W4, W3.alloc (.cells #[.int .u8 (f0.toNat : Int), .int .i64 (f1 : Int), .int .i64 (f2 : Int), .int .i64 (f3 : Int)] 205) = W4 := ⟨_, rfl⟩
      have H4 : Hid (Below w.heap.size w W4 ∧ W4.heap[w.heap.size]? = some (.cells #[.int .i64 k, .int .u32 a, .int .u16 i, .int .u32 m] 51 (0, 0)) ∧ W4.heap[b4]? = some (.cells #[.int .u8 (f0.toNat : Int), .int .i64 (f1 : Int), .int .i64 (f2 : Int), .int .i64 (f3 : Int)] 205 (0, 0))) := Lib.hid (by
        rw [← hW4, ← hb4]; exact ⟨HB3.out.1.alloc HB3.out.1.size _, keep_a _ HB3.out.2.1, heap_alloc_new W3 _⟩)
      rw [hW4, hb4]
      clear hW4 hb4 hl hl2 q0
      clear HB3 HB c0 c00
      have c0 : ∀ j, W4.cell? ⟨w.heap.size, j, none⟩ = (#[.int .i64 k, .int .u32 a, .int .u16 i, .int .u32 m] : Array Value)[j]? := blk_cell H4.out.2.1
      have c1 : ∀ j, W4.cell? ⟨b4, j, none⟩ = (#[.int .u8 (f0.toNat : Int), .int .i64 (f1 : Int), .int .i64 (f2 : Int), .int .i64 (f3 : Int)] : Array Value)[j]? := blk_cell H4.out.2.2
      have hwr : IntKind.u32.wrap (i : Int) = (i : Int) := IntWalk.u32_in _ (by omega)
      have hB := kbytes_any f0 (f0.toNat : Int) rfl [(a, f1), (i, f2), (m, f3)] _ (W4.alloc (.cells #[.int .u32 a, .int .i64 f1, .int .u32 i, .int .i64 f2, .int .u32 m, .int .i64 f3] 216)) (Sees.of_blk (heap_alloc_new W4 _) rfl) (by simp) (by
        intro f hf
        simp only [List.mem_cons, List.not_mem_nil, or_false] at hf
        rcases hf with rfl | rfl | rfl <;> simp only <;> omega)
      have HBB := Lib.hid hB
      clear hB
      go_wp2_with fail
      refine HBB.out.mono ?_
      rintro e W5 ⟨rfl, hb⟩
      have H5 := Lib.hid ((H4.out.1.alloc H4.out.1.size _).trans (hb.mono (by have := H4.out.1.size; simp; omega)))
      clear hb c0 c1
      have hE := HR.out
      subst hE
      go_wp2
      go_ret2
      exact ⟨rfl, H5.out⟩
    · obtain ⟨b4, hb4⟩ : ∃ b4, W2.heap.size = b4 := ⟨_, rfl⟩
      obtain ⟨W4, hW4⟩ : ∃ W4, (((W3.setCell ⟨W2.heap.size, 0, none⟩ (.int .u8 f0.toNat)).setCell ⟨W2.heap.size, 1, none⟩ (.int .i64 f1)).setCell ⟨W2.heap.size, 2, none⟩ (.int .i64 f2)).setCell ⟨W2.heap.size, 3, none⟩ (.int .i64 f3) = W4 := ⟨_, rfl⟩
      have H4 : Hid (Below w.heap.size w W4 ∧ W4.heap[w.heap.size]? = some (.cells #[.int .i64 k, .int .u32 a, .int .u16 i, .int .u32 m] 51 (0, 0)) ∧ W4.heap[b4]? = some (.cells #[.int .u8 (f0.toNat : Int), .int .i64 (f1 : Int), .int .i64 (f2 : Int), .int .i64 (f3 : Int)] 205 (0, 0))) := Lib.hid (by
        obtain ⟨e1, e2, e3, e4, e5⟩ := HB3.out
        rw [← hW4, ← hb4]
        refine ⟨(((e1.setCell (p := ⟨W2.heap.size, 0, none⟩) (Nat.le_of_lt e5) _).setCell (p := ⟨W2.heap.size, 1, none⟩) (Nat.le_of_lt e5) _).setCell (p := ⟨W2.heap.size, 2, none⟩) (Nat.le_of_lt e5) _).setCell (p := ⟨W2.heap.size, 3, none⟩) (Nat.le_of_lt e5) _, ?_, ?_⟩
        · rw [Below.heap_setCell _ _ _ _ qn, Below.heap_setCell _ _ _ _ qn, Below.heap_setCell _ _ _ _ qn, Below.heap_setCell _ _ _ _ qn]; exact e2
        · have := blk_set (blk_set (blk_set (blk_set e4 0 (.int .u8 f0.toNat)) 1 (.int .i64 f1)) 2 (.int .i64 f2)) 3 (.int .i64 f3)
          simpa using this)
      rw [hW4, hb4]
      clear hW4 hb4 hl q0 qn z0 z1
      clear HB3 HB c0 c00
      have c0 : ∀ j, W4.cell? ⟨w.heap.size, j, none⟩ = (#[.int .i64 k, .int .u32 a, .int .u16 i, .int .u32 m] : Array Value)[j]? := blk_cell H4.out.2.1
      have c1 : ∀ j, W4.cell? ⟨b4, j, none⟩ = (#[.int .u8 (f0.toNat : Int), .int .i64 (f1 : Int), .int .i64 (f2 : Int), .int .i64 (f3 : Int)] : Array Value)[j]? := blk_cell H4.out.2.2
      have hwr : IntKind.u32.wrap (i : Int) = (i : Int) := IntWalk.u32_in _ (by omega)
      have hB := kbytes_any f0 (f0.toNat : Int) rfl [(a, f1), (i, f2), (m, f3)] _ (W4.alloc (.cells #[.int .u32 a, .int .i64 f1, .int .u32 i, .int .i64 f2, .int .u32 m, .int .i64 f3] 216)) (Sees.of_blk (heap_alloc_new W4 _) rfl) (by simp) (by
        intro f hf
        simp only [List.mem_cons, List.not_mem_nil, or_false] at hf
        rcases hf with rfl | rfl | rfl <;> simp only <;> omega)
      have HBB := Lib.hid hB
      clear hB
      go_wp2_with fail
      refine HBB.out.mono ?_
      rintro e W5 ⟨rfl, hb⟩
      have H5 := Lib.hid ((H4.out.1.alloc H4.out.1.size _).trans (hb.mono (by have := H4.out.1.size; simp; omega)))
      clear hb c0 c1
      have hE := HR.out
      subst hE
      go_wp2
      go_ret2
      exact ⟨rfl, H5.out⟩
end Go.Proofs.YtmkcbkdbdcnoiaaGreatDoor
namespace Go.Proofs.YtmkcbkdbdcnoiaaGreatDoor
open Go.RowKit
set_option linter.unusedVariables false
set_option linter.unusedSimpArgs false

/-- The bounds of an account's keys of a kind. -/
def kOf (k a : Int) : List UInt8 × List UInt8 × Int :=
  if wthn 1 1000000 a = true then ((kForm k).1 :: fieldBytes [(a.toNat, 4)], (kForm k).1 :: fieldBytes [(a.toNat + 1, 4)], 0) else ([], [], 100)

/-- A block known whole, and what lay below as it was. -/
def Kp (w : World) (b : Nat) (o : Obj) (W : World) : Prop := Below w.heap.size w W ∧ W.heap[b]? = some o
theorem Kp.alloc {w W : World} {b : Nat} {o : Obj} (h : Kp w b o W) (x : Obj) : Kp w b o (W.alloc x) := ⟨h.1.alloc h.1.size _, keep_a _ h.2⟩
theorem Kp.drew {w W : World} {b : Nat} {o : Obj} (h : Kp w b o W) : Kp w b o W.drew := ⟨h.1.drew, h.2⟩
theorem Kp.below {w W W' : World} {b : Nat} {o : Obj} (h : Kp w b o W) (hb : Below W.heap.size W W') : Kp w b o W' := ⟨h.1.trans (hb.mono h.1.size), keep_b h.2 hb⟩
theorem Kp.cell {w W : World} {b : Nat} {cs : Array Value} {t : TypeId} (h : Kp w b (.cells cs t (0, 0)) W) (i : Nat) : W.cell? ⟨b, i, none⟩ = cs[i]? := blk_cell h.2 i

theorem kb_one (mark : UInt8) (n : Nat) (x : Int) (hx : x = (n : Int)) (hn : n < 4294967296) (g : Nat) (w : World) (h : w.heap[g]? = some (.cells #[.int .u32 x, .int .i64 4] 216 (0, 0))) :
    Calls Tryz.prog 178 #[.int .u8 mark.toNat, .slice (some ⟨g, 0, none⟩) 1 1] w fun e w' => e = .returned (.string ⟨(mark :: fieldBytes [(n, 4)]).toArray⟩) ∧ Below w.heap.size w w' := by
  subst hx
  exact kbytes_any mark _ rfl [(n, 4)] _ w (Sees.of_blk h rfl) (by simp) (by
    intro f hf
    simp only [List.mem_cons, List.not_mem_nil, or_false] at hf
    subst hf
    exact ⟨hn, by simp⟩)
theorem alloc_new2 (w : World) (x o : Obj) : ((w.alloc x).alloc o).heap[w.heap.size + 1]? = some o := by
  have := heap_alloc_new (w.alloc x) o
  rwa [World.size_alloc] at this
theorem keep_h {W W' : World} {g : Nat} {o : Obj} (h : W.heap[g]? = some o) (hb : Hid (Below W.heap.size W W')) : W'.heap[g]? = some o := keep_b h hb.out

set_option maxHeartbeats 2000000 in
set_option maxRecDepth 100000 in
theorem of_any (k a : Int) (w : World) (hk : k = 2 ∨ k = 3) (h0 : 0 ≤ a) (h1 : a < 4294967296) : Calls Tryz.prog 173 #[.int .i64 k, .int .u32 a] w fun e w' => e = .returned (.tuple #[.string ⟨(kOf k a).1.toArray⟩, .string ⟨(kOf k a).2.1.toArray⟩, .int .i64 (kOf k a).2.2]) ∧ Below w.heap.size w w' := by
  have hW := within_one 1 1000000 a w.heap.size (w.alloc (.cells #[.int .u32 a] 26)) (blk_cell (heap_alloc_new w _) 0)
  obtain ⟨a, rfl⟩ := Int.eq_ofNat_of_zero_le h0
  obtain ⟨R, hRR⟩ : ∃ R, kOf k a = R := ⟨_, rfl⟩
  rw [hRR]
  unfold kOf at hRR
  simp only [Int.toNat_natCast] at hRR
  rcases hr : wthn 1 1000000 a with _ | _
  · rw [hr] at hW hRR
    rw [if_neg (by simp)] at hRR
    subst hRR
    have HW := Lib.hid hW
    clear hW
    rcases hk with rfl | rfl
    all_goals
      go_enter Tryz.func173, Tryz.ntmps173
      go_wp2_with fail
      refine HW.out.mono ?_
      rintro e W2 ⟨rfl, rfl⟩
      go_wp2
      refine bodyPost_ret (results_tmp3 rfl _ _ _) rfl ?_
      exact ⟨rfl, (Below.refl _ w).alloc (Nat.le_refl _) _⟩
  · rw [hr] at hW hRR
    rw [if_pos rfl] at hRR
    have HR := Lib.hid hRR
    have HW := Lib.hid hW
    have ha : 1 ≤ a ∧ a ≤ 1000000 := by simp only [wthn, Bool.and_eq_true, decide_eq_true_eq] at hr; omega
    obtain ⟨ha1, ha2⟩ := ha
    clear hRR hW
    have hlk := fun w r hg => look_form w (r := r) hg (show isKind k by unfold isKind; omega)
    have hle : (kForm k).2.1 = 4 := by
      rcases hk with rfl | rfl <;> rfl
    generalize kForm k = F at hlk HR hle
    obtain ⟨f0, f1, f2, f3⟩ := F
    simp only at hlk hle
    subst hle
    unfold fmv at hlk
    have HL := Lib.hid hlk
    clear hlk
    have hk2 : (k != 2) = false ∨ ((k != 2) = true ∧ (k != 3) = false) := by
      rcases hk with rfl | rfl
      · exact .inl rfl
      · exact .inr ⟨rfl, rfl⟩
    clear hk
    rcases hk2 with e1 | ⟨e1, e2⟩
    all_goals
      go_enter Tryz.func173, Tryz.ntmps173
      go_wp2_with fail
      refine HW.out.mono ?_
      rintro e W2 ⟨rfl, rfl⟩
      obtain ⟨W2, hW2⟩ : ∃ W2, w.alloc (.cells #[.int .u32 a] 26) = W2 := ⟨_, rfl⟩
      have HB : Hid (Below w.heap.size w W2) := Lib.hid (by rw [← hW2]; exact (Below.refl _ w).alloc (Nat.le_refl _) _)
      rw [hW2]
      clear hW2
      go_wp2_with fail
      refine (forms_any W2).mono ?_
      rintro e W3 ⟨rfl, hm, hb⟩
      have hl : (Instr.lookup 212 (.map (some W2.heap.size)) (.int .i64 k) false).run Tryz.prog W3 = _ := HL.out W3 _ hm
      obtain ⟨b4, hb4⟩ : ∃ b4, W3.heap.size = b4 := ⟨_, rfl⟩
      obtain ⟨W4, hW4⟩ : ∃ W4, W3.alloc (.cells #[.int .u8 (f0.toNat : Int), .int .i64 4, .int .i64 (f2 : Int), .int .i64 (f3 : Int)] 205) = W4 := ⟨_, rfl⟩
      have H4 : Hid (Below w.heap.size w W4 ∧ W4.heap[b4]? = some (.cells #[.int .u8 (f0.toNat : Int), .int .i64 4, .int .i64 (f2 : Int), .int .i64 (f3 : Int)] 205 (0, 0))) := Lib.hid (by
        have h3 := HB.out.trans (hb.mono HB.out.size)
        rw [← hW4, ← hb4]; exact ⟨h3.alloc h3.size _, heap_alloc_new W3 _⟩)
      clear hb hm
      go_wp2_with fail
      try rw [hW4]
      clear hW4 hb4 hl
      obtain ⟨F4, hF4⟩ : ∃ F4, Obj.cells #[.int .u8 (f0.toNat : Int), .int .i64 4, .int .i64 (f2 : Int), .int .i64 (f3 : Int)] 205 (0, 0) = F4 := ⟨_, rfl⟩
      have HKp : Kp w b4 F4 W4 := by rw [← hF4]; exact H4.out
      have hS : ∀ W, Kp w b4 F4 W → W.cell? ⟨b4, 0, none⟩ = some (.int .u8 f0.toNat) ∧ W.cell? ⟨b4, 1, none⟩ = some (.int .i64 4) := fun W h => by
        rw [← hF4] at h; exact ⟨h.cell 0, h.cell 1⟩
      have HS := Lib.hid hS
      have x1 : IntKind.u32.wrap ((a : Int) + 1) = (a : Int) + 1 := IntWalk.u32_in _ (by omega)
      have HF := Lib.hid (And.intro (show a < 4294967296 by omega) (show a + 1 < 4294967296 by omega))
      clear hF4 hS H4
      go_region_held3 (fun W' => W'.cell? ⟨b4, 0, none⟩ = some (.int .u8 f0.toNat) ∧ W'.cell? ⟨b4, 1, none⟩ = some (.int .i64 4)) (first | with_reducible exact HS.out _ HKp | with_reducible exact HS.out _ (Kp.alloc HKp _) | with_reducible exact HS.out _ (Kp.alloc (Kp.alloc HKp _) _) | with_reducible exact HS.out _ (Kp.drew HKp) | with_reducible exact HS.out _ (Kp.drew (Kp.alloc HKp _)) | with_reducible exact HS.out _ (Kp.drew (Kp.alloc (Kp.alloc HKp _) _)))
        (first | ((go_at_call 178; (with_reducible refine (kb_one f0 a (a : Int) rfl HF.out.1 _ _ (heap_alloc_new _ _)).mono ?_); rintro e W5 ⟨rfl, hb⟩; have HBx := Lib.hid hb; (first | (with_reducible have HKx := Kp.below HKp hb) | (with_reducible have HKx := Kp.below (Kp.alloc HKp _) hb) | (with_reducible have HKx := Kp.below (Kp.alloc (Kp.alloc HKp _) _) hb) | (with_reducible have HKx := Kp.below (Kp.drew HKp) hb) | (with_reducible have HKx := Kp.below (Kp.drew (Kp.alloc HKp _)) hb) | (with_reducible have HKx := Kp.below (Kp.drew (Kp.alloc (Kp.alloc HKp _) _)) hb)); clear hb; clear HKp; have HKp := HKx; clear HKx)) | ((go_at_call 178; (with_reducible refine (kb_one f0 a (a : Int) rfl HF.out.1 _ _ (blk_drew (heap_alloc_new _ _))).mono ?_); rintro e W5 ⟨rfl, hb⟩; have HBx := Lib.hid hb; (first | (with_reducible have HKx := Kp.below HKp hb) | (with_reducible have HKx := Kp.below (Kp.alloc HKp _) hb) | (with_reducible have HKx := Kp.below (Kp.alloc (Kp.alloc HKp _) _) hb) | (with_reducible have HKx := Kp.below (Kp.drew HKp) hb) | (with_reducible have HKx := Kp.below (Kp.drew (Kp.alloc HKp _)) hb) | (with_reducible have HKx := Kp.below (Kp.drew (Kp.alloc (Kp.alloc HKp _) _)) hb)); clear hb; clear HKp; have HKp := HKx; clear HKx)) | ((go_at_call 178; (with_reducible refine (kb_one f0 a (a : Int) rfl HF.out.1 _ _ (keep_h (heap_alloc_new _ _) HBx)).mono ?_); rintro e W5 ⟨rfl, hb⟩; have HBx := Lib.hid hb; (first | (with_reducible have HKx := Kp.below HKp hb) | (with_reducible have HKx := Kp.below (Kp.alloc HKp _) hb) | (with_reducible have HKx := Kp.below (Kp.alloc (Kp.alloc HKp _) _) hb) | (with_reducible have HKx := Kp.below (Kp.drew HKp) hb) | (with_reducible have HKx := Kp.below (Kp.drew (Kp.alloc HKp _)) hb) | (with_reducible have HKx := Kp.below (Kp.drew (Kp.alloc (Kp.alloc HKp _) _)) hb)); clear hb; clear HKp; have HKp := HKx; clear HKx)) | ((go_at_call 178; (with_reducible refine (kb_one f0 a (a : Int) rfl HF.out.1 _ _ (keep_h (blk_drew (heap_alloc_new _ _)) HBx)).mono ?_); rintro e W5 ⟨rfl, hb⟩; have HBx := Lib.hid hb; (first | (with_reducible have HKx := Kp.below HKp hb) | (with_reducible have HKx := Kp.below (Kp.alloc HKp _) hb) | (with_reducible have HKx := Kp.below (Kp.alloc (Kp.alloc HKp _) _) hb) | (with_reducible have HKx := Kp.below (Kp.drew HKp) hb) | (with_reducible have HKx := Kp.below (Kp.drew (Kp.alloc HKp _)) hb) | (with_reducible have HKx := Kp.below (Kp.drew (Kp.alloc (Kp.alloc HKp _) _)) hb)); clear hb; clear HKp; have HKp := HKx; clear HKx)) | ((go_at_call 178; (with_reducible refine (kb_one f0 a (a : Int) rfl HF.out.1 _ _ (keep_a _ (heap_alloc_new _ _))).mono ?_); rintro e W5 ⟨rfl, hb⟩; have HBx := Lib.hid hb; (first | (with_reducible have HKx := Kp.below HKp hb) | (with_reducible have HKx := Kp.below (Kp.alloc HKp _) hb) | (with_reducible have HKx := Kp.below (Kp.alloc (Kp.alloc HKp _) _) hb) | (with_reducible have HKx := Kp.below (Kp.drew HKp) hb) | (with_reducible have HKx := Kp.below (Kp.drew (Kp.alloc HKp _)) hb) | (with_reducible have HKx := Kp.below (Kp.drew (Kp.alloc (Kp.alloc HKp _) _)) hb)); clear hb; clear HKp; have HKp := HKx; clear HKx)) | ((go_at_call 178; (with_reducible refine (kb_one f0 a (a : Int) rfl HF.out.1 _ _ (blk_drew (keep_a _ (heap_alloc_new _ _)))).mono ?_); rintro e W5 ⟨rfl, hb⟩; have HBx := Lib.hid hb; (first | (with_reducible have HKx := Kp.below HKp hb) | (with_reducible have HKx := Kp.below (Kp.alloc HKp _) hb) | (with_reducible have HKx := Kp.below (Kp.alloc (Kp.alloc HKp _) _) hb) | (with_reducible have HKx := Kp.below (Kp.drew HKp) hb) | (with_reducible have HKx := Kp.below (Kp.drew (Kp.alloc HKp _)) hb) | (with_reducible have HKx := Kp.below (Kp.drew (Kp.alloc (Kp.alloc HKp _) _)) hb)); clear hb; clear HKp; have HKp := HKx; clear HKx)) | ((go_at_call 178; (with_reducible refine (kb_one f0 a (a : Int) rfl HF.out.1 _ _ (keep_h (keep_a _ (heap_alloc_new _ _)) HBx)).mono ?_); rintro e W5 ⟨rfl, hb⟩; have HBx := Lib.hid hb; (first | (with_reducible have HKx := Kp.below HKp hb) | (with_reducible have HKx := Kp.below (Kp.alloc HKp _) hb) | (with_reducible have HKx := Kp.below (Kp.alloc (Kp.alloc HKp _) _) hb) | (with_reducible have HKx := Kp.below (Kp.drew HKp) hb) | (with_reducible have HKx := Kp.below (Kp.drew (Kp.alloc HKp _)) hb) | (with_reducible have HKx := Kp.below (Kp.drew (Kp.alloc (Kp.alloc HKp _) _)) hb)); clear hb; clear HKp; have HKp := HKx; clear HKx)) | ((go_at_call 178; (with_reducible refine (kb_one f0 a (a : Int) rfl HF.out.1 _ _ (keep_h (blk_drew (keep_a _ (heap_alloc_new _ _))) HBx)).mono ?_); rintro e W5 ⟨rfl, hb⟩; have HBx := Lib.hid hb; (first | (with_reducible have HKx := Kp.below HKp hb) | (with_reducible have HKx := Kp.below (Kp.alloc HKp _) hb) | (with_reducible have HKx := Kp.below (Kp.alloc (Kp.alloc HKp _) _) hb) | (with_reducible have HKx := Kp.below (Kp.drew HKp) hb) | (with_reducible have HKx := Kp.below (Kp.drew (Kp.alloc HKp _)) hb) | (with_reducible have HKx := Kp.below (Kp.drew (Kp.alloc (Kp.alloc HKp _) _)) hb)); clear hb; clear HKp; have HKp := HKx; clear HKx)) | ((go_at_call 178; (with_reducible refine (kb_one f0 a (a : Int) rfl HF.out.1 _ _ (alloc_new2 _ _ _)).mono ?_); rintro e W5 ⟨rfl, hb⟩; have HBx := Lib.hid hb; (first | (with_reducible have HKx := Kp.below HKp hb) | (with_reducible have HKx := Kp.below (Kp.alloc HKp _) hb) | (with_reducible have HKx := Kp.below (Kp.alloc (Kp.alloc HKp _) _) hb) | (with_reducible have HKx := Kp.below (Kp.drew HKp) hb) | (with_reducible have HKx := Kp.below (Kp.drew (Kp.alloc HKp _)) hb) | (with_reducible have HKx := Kp.below (Kp.drew (Kp.alloc (Kp.alloc HKp _) _)) hb)); clear hb; clear HKp; have HKp := HKx; clear HKx)) | ((go_at_call 178; (with_reducible refine (kb_one f0 a (a : Int) rfl HF.out.1 _ _ (blk_drew (alloc_new2 _ _ _))).mono ?_); rintro e W5 ⟨rfl, hb⟩; have HBx := Lib.hid hb; (first | (with_reducible have HKx := Kp.below HKp hb) | (with_reducible have HKx := Kp.below (Kp.alloc HKp _) hb) | (with_reducible have HKx := Kp.below (Kp.alloc (Kp.alloc HKp _) _) hb) | (with_reducible have HKx := Kp.below (Kp.drew HKp) hb) | (with_reducible have HKx := Kp.below (Kp.drew (Kp.alloc HKp _)) hb) | (with_reducible have HKx := Kp.below (Kp.drew (Kp.alloc (Kp.alloc HKp _) _)) hb)); clear hb; clear HKp; have HKp := HKx; clear HKx)) | ((go_at_call 178; (with_reducible refine (kb_one f0 a (a : Int) rfl HF.out.1 _ _ (keep_h (alloc_new2 _ _ _) HBx)).mono ?_); rintro e W5 ⟨rfl, hb⟩; have HBx := Lib.hid hb; (first | (with_reducible have HKx := Kp.below HKp hb) | (with_reducible have HKx := Kp.below (Kp.alloc HKp _) hb) | (with_reducible have HKx := Kp.below (Kp.alloc (Kp.alloc HKp _) _) hb) | (with_reducible have HKx := Kp.below (Kp.drew HKp) hb) | (with_reducible have HKx := Kp.below (Kp.drew (Kp.alloc HKp _)) hb) | (with_reducible have HKx := Kp.below (Kp.drew (Kp.alloc (Kp.alloc HKp _) _)) hb)); clear hb; clear HKp; have HKp := HKx; clear HKx)) | ((go_at_call 178; (with_reducible refine (kb_one f0 a (a : Int) rfl HF.out.1 _ _ (keep_h (blk_drew (alloc_new2 _ _ _)) HBx)).mono ?_); rintro e W5 ⟨rfl, hb⟩; have HBx := Lib.hid hb; (first | (with_reducible have HKx := Kp.below HKp hb) | (with_reducible have HKx := Kp.below (Kp.alloc HKp _) hb) | (with_reducible have HKx := Kp.below (Kp.alloc (Kp.alloc HKp _) _) hb) | (with_reducible have HKx := Kp.below (Kp.drew HKp) hb) | (with_reducible have HKx := Kp.below (Kp.drew (Kp.alloc HKp _)) hb) | (with_reducible have HKx := Kp.below (Kp.drew (Kp.alloc (Kp.alloc HKp _) _)) hb)); clear hb; clear HKp; have HKp := HKx; clear HKx)) | ((go_at_call 178; (with_reducible refine (kb_one f0 (a + 1) ((a : Int) + 1) (Int.natCast_succ a).symm HF.out.2 _ _ (heap_alloc_new _ _)).mono ?_); rintro e W5 ⟨rfl, hb⟩; have HBx := Lib.hid hb; (first | (with_reducible have HKx := Kp.below HKp hb) | (with_reducible have HKx := Kp.below (Kp.alloc HKp _) hb) | (with_reducible have HKx := Kp.below (Kp.alloc (Kp.alloc HKp _) _) hb) | (with_reducible have HKx := Kp.below (Kp.drew HKp) hb) | (with_reducible have HKx := Kp.below (Kp.drew (Kp.alloc HKp _)) hb) | (with_reducible have HKx := Kp.below (Kp.drew (Kp.alloc (Kp.alloc HKp _) _)) hb)); clear hb; clear HKp; have HKp := HKx; clear HKx)) | ((go_at_call 178; (with_reducible refine (kb_one f0 (a + 1) ((a : Int) + 1) (Int.natCast_succ a).symm HF.out.2 _ _ (blk_drew (heap_alloc_new _ _))).mono ?_); rintro e W5 ⟨rfl, hb⟩; have HBx := Lib.hid hb; (first | (with_reducible have HKx := Kp.below HKp hb) | (with_reducible have HKx := Kp.below (Kp.alloc HKp _) hb) | (with_reducible have HKx := Kp.below (Kp.alloc (Kp.alloc HKp _) _) hb) | (with_reducible have HKx := Kp.below (Kp.drew HKp) hb) | (with_reducible have HKx := Kp.below (Kp.drew (Kp.alloc HKp _)) hb) | (with_reducible have HKx := Kp.below (Kp.drew (Kp.alloc (Kp.alloc HKp _) _)) hb)); clear hb; clear HKp; have HKp := HKx; clear HKx)) | ((go_at_call 178; (with_reducible refine (kb_one f0 (a + 1) ((a : Int) + 1) (Int.natCast_succ a).symm HF.out.2 _ _ (keep_h (heap_alloc_new _ _) HBx)).mono ?_); rintro e W5 ⟨rfl, hb⟩; have HBx := Lib.hid hb; (first | (with_reducible have HKx := Kp.below HKp hb) | (with_reducible have HKx := Kp.below (Kp.alloc HKp _) hb) | (with_reducible have HKx := Kp.below (Kp.alloc (Kp.alloc HKp _) _) hb) | (with_reducible have HKx := Kp.below (Kp.drew HKp) hb) | (with_reducible have HKx := Kp.below (Kp.drew (Kp.alloc HKp _)) hb) | (with_reducible have HKx := Kp.below (Kp.drew (Kp.alloc (Kp.alloc HKp _) _)) hb)); clear hb; clear HKp; have HKp := HKx; clear HKx)) | ((go_at_call 178; (with_reducible refine (kb_one f0 (a + 1) ((a : Int) + 1) (Int.natCast_succ a).symm HF.out.2 _ _ (keep_h (blk_drew (heap_alloc_new _ _)) HBx)).mono ?_); rintro e W5 ⟨rfl, hb⟩; have HBx := Lib.hid hb; (first | (with_reducible have HKx := Kp.below HKp hb) | (with_reducible have HKx := Kp.below (Kp.alloc HKp _) hb) | (with_reducible have HKx := Kp.below (Kp.alloc (Kp.alloc HKp _) _) hb) | (with_reducible have HKx := Kp.below (Kp.drew HKp) hb) | (with_reducible have HKx := Kp.below (Kp.drew (Kp.alloc HKp _)) hb) | (with_reducible have HKx := Kp.below (Kp.drew (Kp.alloc (Kp.alloc HKp _) _)) hb)); clear hb; clear HKp; have HKp := HKx; clear HKx)) | ((go_at_call 178; (with_reducible refine (kb_one f0 (a + 1) ((a : Int) + 1) (Int.natCast_succ a).symm HF.out.2 _ _ (keep_a _ (heap_alloc_new _ _))).mono ?_); rintro e W5 ⟨rfl, hb⟩; have HBx := Lib.hid hb; (first | (with_reducible have HKx := Kp.below HKp hb) | (with_reducible have HKx := Kp.below (Kp.alloc HKp _) hb) | (with_reducible have HKx := Kp.below (Kp.alloc (Kp.alloc HKp _) _) hb) | (with_reducible have HKx := Kp.below (Kp.drew HKp) hb) | (with_reducible have HKx := Kp.below (Kp.drew (Kp.alloc HKp _)) hb) | (with_reducible have HKx := Kp.below (Kp.drew (Kp.alloc (Kp.alloc HKp _) _)) hb)); clear hb; clear HKp; have HKp := HKx; clear HKx)) | ((go_at_call 178; (with_reducible refine (kb_one f0 (a + 1) ((a : Int) + 1) (Int.natCast_succ a).symm HF.out.2 _ _ (blk_drew (keep_a _ (heap_alloc_new _ _)))).mono ?_); rintro e W5 ⟨rfl, hb⟩; have HBx := Lib.hid hb; (first | (with_reducible have HKx := Kp.below HKp hb) | (with_reducible have HKx := Kp.below (Kp.alloc HKp _) hb) | (with_reducible have HKx := Kp.below (Kp.alloc (Kp.alloc HKp _) _) hb) | (with_reducible have HKx := Kp.below (Kp.drew HKp) hb) | (with_reducible have HKx := Kp.below (Kp.drew (Kp.alloc HKp _)) hb) | (with_reducible have HKx := Kp.below (Kp.drew (Kp.alloc (Kp.alloc HKp _) _)) hb)); clear hb; clear HKp; have HKp := HKx; clear HKx)) | ((go_at_call 178; (with_reducible refine (kb_one f0 (a + 1) ((a : Int) + 1) (Int.natCast_succ a).symm HF.out.2 _ _ (keep_h (keep_a _ (heap_alloc_new _ _)) HBx)).mono ?_); rintro e W5 ⟨rfl, hb⟩; have HBx := Lib.hid hb; (first | (with_reducible have HKx := Kp.below HKp hb) | (with_reducible have HKx := Kp.below (Kp.alloc HKp _) hb) | (with_reducible have HKx := Kp.below (Kp.alloc (Kp.alloc HKp _) _) hb) | (with_reducible have HKx := Kp.below (Kp.drew HKp) hb) | (with_reducible have HKx := Kp.below (Kp.drew (Kp.alloc HKp _)) hb) | (with_reducible have HKx := Kp.below (Kp.drew (Kp.alloc (Kp.alloc HKp _) _)) hb)); clear hb; clear HKp; have HKp := HKx; clear HKx)) | ((go_at_call 178; (with_reducible refine (kb_one f0 (a + 1) ((a : Int) + 1) (Int.natCast_succ a).symm HF.out.2 _ _ (keep_h (blk_drew (keep_a _ (heap_alloc_new _ _))) HBx)).mono ?_); rintro e W5 ⟨rfl, hb⟩; have HBx := Lib.hid hb; (first | (with_reducible have HKx := Kp.below HKp hb) | (with_reducible have HKx := Kp.below (Kp.alloc HKp _) hb) | (with_reducible have HKx := Kp.below (Kp.alloc (Kp.alloc HKp _) _) hb) | (with_reducible have HKx := Kp.below (Kp.drew HKp) hb) | (with_reducible have HKx := Kp.below (Kp.drew (Kp.alloc HKp _)) hb) | (with_reducible have HKx := Kp.below (Kp.drew (Kp.alloc (Kp.alloc HKp _) _)) hb)); clear hb; clear HKp; have HKp := HKx; clear HKx)) | ((go_at_call 178; (with_reducible refine (kb_one f0 (a + 1) ((a : Int) + 1) (Int.natCast_succ a).symm HF.out.2 _ _ (alloc_new2 _ _ _)).mono ?_); rintro e W5 ⟨rfl, hb⟩; have HBx := Lib.hid hb; (first | (with_reducible have HKx := Kp.below HKp hb) | (with_reducible have HKx := Kp.below (Kp.alloc HKp _) hb) | (with_reducible have HKx := Kp.below (Kp.alloc (Kp.alloc HKp _) _) hb) | (with_reducible have HKx := Kp.below (Kp.drew HKp) hb) | (with_reducible have HKx := Kp.below (Kp.drew (Kp.alloc HKp _)) hb) | (with_reducible have HKx := Kp.below (Kp.drew (Kp.alloc (Kp.alloc HKp _) _)) hb)); clear hb; clear HKp; have HKp := HKx; clear HKx)) | ((go_at_call 178; (with_reducible refine (kb_one f0 (a + 1) ((a : Int) + 1) (Int.natCast_succ a).symm HF.out.2 _ _ (blk_drew (alloc_new2 _ _ _))).mono ?_); rintro e W5 ⟨rfl, hb⟩; have HBx := Lib.hid hb; (first | (with_reducible have HKx := Kp.below HKp hb) | (with_reducible have HKx := Kp.below (Kp.alloc HKp _) hb) | (with_reducible have HKx := Kp.below (Kp.alloc (Kp.alloc HKp _) _) hb) | (with_reducible have HKx := Kp.below (Kp.drew HKp) hb) | (with_reducible have HKx := Kp.below (Kp.drew (Kp.alloc HKp _)) hb) | (with_reducible have HKx := Kp.below (Kp.drew (Kp.alloc (Kp.alloc HKp _) _)) hb)); clear hb; clear HKp; have HKp := HKx; clear HKx)) | ((go_at_call 178; (with_reducible refine (kb_one f0 (a + 1) ((a : Int) + 1) (Int.natCast_succ a).symm HF.out.2 _ _ (keep_h (alloc_new2 _ _ _) HBx)).mono ?_); rintro e W5 ⟨rfl, hb⟩; have HBx := Lib.hid hb; (first | (with_reducible have HKx := Kp.below HKp hb) | (with_reducible have HKx := Kp.below (Kp.alloc HKp _) hb) | (with_reducible have HKx := Kp.below (Kp.alloc (Kp.alloc HKp _) _) hb) | (with_reducible have HKx := Kp.below (Kp.drew HKp) hb) | (with_reducible have HKx := Kp.below (Kp.drew (Kp.alloc HKp _)) hb) | (with_reducible have HKx := Kp.below (Kp.drew (Kp.alloc (Kp.alloc HKp _) _)) hb)); clear hb; clear HKp; have HKp := HKx; clear HKx)) | ((go_at_call 178; (with_reducible refine (kb_one f0 (a + 1) ((a : Int) + 1) (Int.natCast_succ a).symm HF.out.2 _ _ (keep_h (blk_drew (alloc_new2 _ _ _)) HBx)).mono ?_); rintro e W5 ⟨rfl, hb⟩; have HBx := Lib.hid hb; (first | (with_reducible have HKx := Kp.below HKp hb) | (with_reducible have HKx := Kp.below (Kp.alloc HKp _) hb) | (with_reducible have HKx := Kp.below (Kp.alloc (Kp.alloc HKp _) _) hb) | (with_reducible have HKx := Kp.below (Kp.drew HKp) hb) | (with_reducible have HKx := Kp.below (Kp.drew (Kp.alloc HKp _)) hb) | (with_reducible have HKx := Kp.below (Kp.drew (Kp.alloc (Kp.alloc HKp _) _)) hb)); clear hb; clear HKp; have HKp := HKx; clear HKx)))
      all_goals (
        have hE := HR.out
        subst hE
        go_wp2
        refine bodyPost_ret (results_tmp3 rfl _ _ _) rfl ?_
        refine ⟨rfl, ?_⟩
        exact HKp.1)
end Go.Proofs.YtmkcbkdbdcnoiaaGreatDoor
