/- What codec.read answers: the numbers of the bytes, if they are so many. -/
import Derived.Test.YtbjbadnkpeakcaaItr
import Derived.Maps.AppendAt
import Derived.RangeFuncBox
import Derived.Laws.OwnMore
set_option linter.unusedSimpArgs false
namespace Go.Proofs.Ytbjbadnkpeakcaa
open Go.RowKit
set_option linter.unusedVariables false
attribute [local go_sem] Oper.semAt_some

theorem infoU64 : (Try.prog.info? 56).map (fun i => (i.zero, i.size, i.bytes)) = some (some (.int .u64 0), 1, 8) := by kernel_rfl

def vals (l : List (Nat × Nat)) : List Value := l.map fun x => .int .u64 (x.2 : Int)

theorem take_sum_succ (l : List Nat) (k : Nat) (h : k < l.length) : (l.take (k + 1)).sum = (l.take k).sum + l[k]'h := by
  rw [List.take_succ_eq_append_getElem h, List.sum_append]; simp only [List.sum_cons, List.sum_nil, Nat.add_zero]
theorem take_sum_le (l : List Nat) (h8 : ∀ k ∈ l, k ≤ 8) (k : Nat) : (l.take k).sum ≤ 8 * l.length := by
  induction l generalizing k with
  | nil => simp
  | cons a l ih =>
    cases k with
    | zero => simp
    | succ k =>
      have := ih (fun x hx => h8 x (by simp [hx])) k
      have := h8 a (by simp)
      simp only [List.take_succ_cons, List.sum_cons, List.length_cons]
      omega

/-- The cells of sizes. -/
def szCells (sizes : List Nat) : Array Value := (sizes.map fun k : Nat => Value.int .i64 (k : Int)).toArray

set_option maxHeartbeats 400000 in
set_option maxRecDepth 100000 in
theorem numbers_any (s : ByteArray) (v : Value) (w : World) (hv : ∃ a n c, v = .slice a n c) :
    Calls Try.prog 31 #[.string s, v] w fun e w' => e = .returned (.func (.func 33) #[] #[.pointer (some ⟨w.heap.size + 1, 0, none⟩), .pointer (some ⟨w.heap.size, 0, none⟩)]) ∧
      (w.alloc (.cells #[.string s] 9)).alloc (.cells #[v] 71) = w' := by
  obtain ⟨a, n, c, rfl⟩ := hv
  have hmf : ∀ (fn : Fn) (first cap : Array Value) (w : World), (Instr.makeFunc fn first cap).run Try.prog w = .ok (.func fn first cap) w := fun _ _ _ _ => rfl
  go_enter Try.func31, Try.ntmps31
  go_wp2
  go_ret
  exact ⟨rfl, rfl⟩

theorem four_new (w : World) (A B C D : Obj) : ((((w.alloc A).alloc B).alloc C).alloc D).heap.size = w.heap.size + 4 ∧ ((((w.alloc A).alloc B).alloc C).alloc D).heap[w.heap.size]? = some A ∧
    ((((w.alloc A).alloc B).alloc C).alloc D).heap[w.heap.size + 1]? = some B ∧ ((((w.alloc A).alloc B).alloc C).alloc D).heap[w.heap.size + 1 + 1]? = some C ∧ ((((w.alloc A).alloc B).alloc C).alloc D).heap[w.heap.size + 1 + 1 + 1]? = some D ∧
    Below w.heap.size w ((((w.alloc A).alloc B).alloc C).alloc D) := by
  refine ⟨by simp, ?_, ?_, ?_, ?_, ((((Below.refl _ w).alloc (Nat.le_refl _) _).alloc (by simp) _).alloc (by simp; omega) _).alloc (by simp; omega) _⟩
  all_goals
    simp only [alloc_at, World.size_alloc]
    repeat (first | rw [if_pos trivial] | rw [if_pos (by omega)] | rw [if_neg (by omega)])

theorem rows_at (i : Nat) (ks : List Nat) (l : List UInt8) (pre rest : List (Nat × Nat)) (x : Nat × Nat) (h : rows i ks l = pre ++ x :: rest) : x.1 = i + pre.length ∧ pre.length < ks.length := by
  induction ks generalizing i l pre with
  | nil => simp [rows] at h
  | cons k ks ih =>
    rw [rows] at h
    cases pre with
    | nil => simp at h; simp [← h.1]
    | cons p pre =>
      simp only [List.cons_append, List.cons.injEq] at h
      have := ih (i + 1) (l.drop k) pre h.2
      simp only [List.length_cons]
      omega

/-- What the loop keeps. -/
def RdI (w : World) (ba n : Nat) (pre : List (Nat × Nat)) (W : World) : Prop :=
  (∃ v, Boxed W (w.heap.size + 1) 59 v ∧ W.ownsRow (w.heap.size + 6) 56 1 v pre.length (vals pre)) ∧ Boxed W w.heap.size 71 (.slice (some ⟨ba, 0, none⟩) n n) ∧ Below w.heap.size w W

set_option maxHeartbeats 400000 in
set_option maxRecDepth 100000 in
theorem read_ok (s : ByteArray) (ba : Nat) (sizes : List Nat) (w : World) (hsz : s.size = sizes.sum) (h8 : ∀ k ∈ sizes, k ≤ 8) (hn : sizes.length ≤ 100) (hba : w.heap[ba]? = some (.cells (szCells sizes) 3 (0, 0))) :
    Calls Try.prog 25 #[.string s, .slice (some ⟨ba, 0, none⟩) sizes.length sizes.length] w fun e w' => ∃ v, e = .returned (.tuple #[v, .bool true]) ∧
      w'.ownsRow w.heap.size 56 1 v sizes.length (vals (rows 0 sizes s.data.toList)) ∧ Below w.heap.size w w' := by
  refine (callsIn_wide (n := 9)).1 ?_
  refine callsIn_of_wp_marks Try.func25 rfl trivial ?_ rfl
  simp only [Try.ntmps25, List.size_toArray, List.length_cons, List.length_nil, Nat.reduceAdd, Nat.reduceSub, Array.replicate_succ, Array.replicate_zero, List.push_toArray, List.append_toArray, List.nil_append, List.cons_append]
  have HB := Lib.hid hba
  have HSZ := Lib.hid hsz
  have H8 := Lib.hid h8
  clear hba hsz h8
  gi_wp2
  refine wpIn_scope ?_
  gi_wp2
  gi_loop [6, 14] (fun t i => ∃ k : Nat, k ≤ sizes.length ∧ i = .int .i64 k ∧ t = .int .i64 (((sizes.take k).sum : Nat) : Int)) (fun _ i => sizes.length - (intOf i).toNat)
  case atStart => exact ⟨0, Nat.zero_le _, rfl, rfl⟩
  case round =>
    obtain ⟨k, hk, rfl, rfl⟩ := hrel
    by_cases hlt : k < sizes.length
    · obtain ⟨z, hz⟩ : ∃ z, sizes[k]'hlt = z := ⟨_, rfl⟩
      have hz8 := H8.out _ (List.getElem_mem hlt)
      have hca : ∀ o : Obj, (w.alloc o).cell? ⟨ba, k, none⟩ = some (.int .i64 (z : Int)) := fun o => by
        rw [Lib.cell_of_heap ((Below.heap_alloc w o ba (Array.getElem?_eq_some_iff.1 HB.out).1).trans HB.out)]
        simp [szCells, List.getElem?_eq_getElem hlt, hz]
      have hts := take_sum_le sizes H8.out k
      have HT := Lib.hid (take_sum_succ sizes k hlt)
      rw [hz] at hz8 HT
      clear hz
      gi_wp2
      go_round
      case rel => exact ⟨k + 1, by omega, by go_num, by rw [HT.out]; go_num⟩
      case measure => simp [intOf]; omega
    · obtain ⟨tot, htot⟩ : ∃ tot, (sizes.take k).sum = tot := ⟨_, rfl⟩
      rw [htot]
      obtain rfl : tot = s.size := by rw [← htot, HSZ.out, List.take_of_length_le (by omega)]
      clear htot
      obtain rfl : k = sizes.length := by omega
      gi_wp2
      apply wpIn_label
      gi_wp2_with (refine ⟨trivial, ?_⟩; gi_at_call 31; refine (callsIn_wide.2 (numbers_any _ _ _ ⟨_, _, _, rfl⟩)).mono ?_; rintro e w' ⟨rfl, rfl⟩)
      obtain ⟨W0, hW0⟩ : ∃ W0, ((((w.alloc (.cells #[.slice (some ⟨ba, 0, none⟩) sizes.length sizes.length] 71)).alloc (.cells #[.slice none 0 0] 59)).alloc (.cells #[.string s] 9)).alloc (.cells #[.slice (some ⟨ba, 0, none⟩) sizes.length sizes.length] 71)) = W0 := ⟨_, rfl⟩
      obtain ⟨z0, z1, z2, z3, z4, z5⟩ := four_new w (.cells #[.slice (some ⟨ba, 0, none⟩) sizes.length sizes.length] 71) (.cells #[.slice none 0 0] 59) (.cells #[.string s] 9) (.cells #[.slice (some ⟨ba, 0, none⟩) sizes.length sizes.length] 71)
      rw [hW0] at z0 z1 z2 z3 z4 z5 ⊢
      have hbl : ba < w.heap.size := (Array.getElem?_eq_some_iff.1 HB.out).1
      have z6 := (z5.block ba hbl).trans HB.out
      have Z := Lib.hid (And.intro z0 (And.intro z1 (And.intro z2 (And.intro z3 (And.intro z4 (And.intro z5 z6))))))
      clear z0 z1 z2 z3 z4 z5 z6 hW0
      refine wp_range (gf := 33) (lb := #[.pointer (some ⟨w.heap.size + 1 + 1 + 1, 0, none⟩), .pointer (some ⟨w.heap.size + 1 + 1, 0, none⟩)]) rfl (enters_of Try.func33 (by kernel_rfl) rfl)
        (numbers_iter 8 (w.heap.size + 1 + 1 + 1) (w.heap.size + 1 + 1) ba sizes s W0 HSZ.out H8.out hn ⟨Z.out.2.2.2.2.1, Z.out.2.2.2.2.2.2⟩ Z.out.2.2.2.1 ⟨by omega, by omega⟩ (by omega))
        (by rintro k rfl; have := Z.out.1; omega) (by have := Z.out.1; rintro k (rfl | rfl) <;> omega) (fun x => rfl)
        (RdI w ba sizes.length) (fun _ _ _ => False) ?hI (fun _ _ _ _ h _ _ => h) ?h0
        (fun x a' _ => a' = { tmps := #[Value.string s, Value.slice (some { block := ba, off := 0 }) sizes.length sizes.length, undef,
          Value.pointer (some { block := w.heap.size, off := 0 }), Value.slice none 0 0, Value.bool false,
          Value.int IntKind.i64 ↑s.size, undef, u8, Value.pointer (some { block := w.heap.size + 1, off := 0 }), .int .i64 (x.1 : Int),
          .int .u64 (x.2 : Int), Value.slice (some { block := ba, off := 0 }) sizes.length sizes.length,
          Value.int IntKind.i64 ↑sizes.length, Value.int IntKind.i64 ↑sizes.length, Value.bool false, u16, u17, u18,
          u19, u20, u21, Value.string s, Value.int IntKind.i64 ↑s.size, Value.int IntKind.i64 ↑s.size, Value.bool false,
          Value.string s, Value.slice (some { block := ba, off := 0 }) sizes.length sizes.length,
          Value.func (Fn.func 33) #[]
            #[Value.pointer (some { block := w.heap.size + 1 + 1 + 1, off := 0 }),
              Value.pointer (some { block := w.heap.size + 1 + 1, off := 0 })],
          .int .i64 (x.1 : Int), .int .u64 (x.2 : Int), undef, undef, undef, undef, undef, undef, undef, undef, undef], defers := [] }) (fun _ _ _ _ h _ _ => h) ?assign ?body ?done ?stop
      case hI =>
        rintro pre A B ⟨⟨v, hv, hr⟩, hz, hb⟩ hA hS
        have z0 := Z.out.1
        refine ⟨⟨v, box_same hv hS ⟨by simp, by omega⟩, ownsRow_same hr hS (fun k hk _ => ⟨by simp; omega, by omega⟩)⟩, box_same hz hS ⟨by simp <;> omega, by omega⟩, ?_⟩
        exact hb.trans (hS.below (by omega) (fun k hk => ⟨by simp; omega, by omega⟩))
      case h0 => exact ⟨⟨_, Z.out.2.2.1, by simp [vals], .inl ⟨rfl, rfl⟩⟩, Z.out.2.1, Z.out.2.2.2.2.2.1⟩
      case assign =>
        intro l pre x rest W K _ hi _ hK
        dsimp only [encRow]
        gi_wp2
        exact hK _ _ (Same.refl _ _) hi rfl
      case body =>
        rintro l pre x rest a' W hxs ⟨⟨v, hv, hr⟩, hz, hb⟩ rfl hlen
        obtain ⟨hx1, hx2⟩ := rows_at _ _ _ _ _ _ hxs
        have hne : ((x.1 : Int) == (sizes.length : Int)) = false := by simp; omega
        have z0 := Z.out.1
        have hv1 := hv.cell
        have hz1 := hz.cell
        have hf1 := hv.frozen
        obtain ⟨i0, hi, hi0, hi1, hi2⟩ := info_parts infoU64
        have HH := Lib.hid (And.intro hv (And.intro hr (And.intro hz hb)))
        clear hv hr hz hb hxs
        gi_wp2_with (gi_at_builtin; refine wpListIn_append_own _ rfl _ _ 59 rfl (w.heap.size + 6) 56 i0 (.int .u64 0) 1 8 Try.underlying59 hi hi0 hi1 hi2 rfl (by decide) _ _ _ rfl (HH.out.2.1.alloc _) ⟨W.heap.size, 0, none⟩ 1 1 [.int .u64 (x.2 : Int)] rfl rfl (cell_one_new _ _ _) (by simp [Value.oneCell']) ?b1 ?b2 ?b3 ?_)
        case b1 => unfold maxLen; omega
        case b2 => omega
        case b3 => simp; omega
        intro v' w1 hown' hgrow _
        obtain ⟨g', cap', rfl⟩ := ownsRow_succ hown'
        have hv2 : Boxed w1 (w.heap.size + 1) 59 v := (HH.out.1.alloc _).kept hgrow (HH.out.1.not_row (by decide) HH.out.2.1)
        have hv3 := hv2.cell
        have hf3 := hv2.frozen
        have HG := Lib.hid (And.intro hown' (And.intro hgrow hv2))
        clear hown' hgrow hv2
        gi_wp2
        obtain ⟨HO, hgr, hv2⟩ := HG.out
        obtain ⟨_, hr, hz, hb⟩ := HH.out
        have hrow : ∀ k, v.ownBlock = some k → w.heap.size + 6 ≤ k := fun k hk => by
          rcases hr.2 with ⟨rfl, _⟩ | ⟨g, cap, cur, rfl, hg, _⟩
          · simp [Value.ownBlock] at hk
          · have : g = k := by simpa [Value.ownBlock] using hk
            omega
        have s1 : Same (fun k => k ≠ w.heap.size + 1 ∧ k < w.heap.size + 6) W (w1.setCell ⟨w.heap.size + 1, 0, none⟩ (.slice (some ⟨g', 0, none⟩) (pre.length + 1) cap')) :=
          (((Same.refl _ W).alloc _).grown hgr (fun k hk _ h => by have := hrow k hk; omega)).setCell (fun _ h => h.1 rfl) _
        refine ⟨s1.mono fun k hk h => ?_, ⟨_, hv2.set _, ?_⟩, ?_, hb.trans (s1.below (by omega) fun k hk => ⟨by omega, by omega⟩)⟩
        · rcases h with h | (h | h) | h <;> exact ⟨by omega, by omega⟩
        · rw [List.length_append]
          refine ownsRow_same (S := fun k => k ≠ w.heap.size + 1) (by simpa [vals] using HO) ((Same.refl _ _).setCell (fun _ h => h rfl) _) (fun k hk _ => by omega)
        · exact box_same hz s1 ⟨by omega, by omega⟩
      case done =>
        rintro W ⟨⟨v, hv, hr⟩, hz, hb⟩ hsz hD
        have hv1 := hv.cell
        have HH := Lib.hid (And.intro hv (And.intro hr (And.intro hz (And.intro hb hD))))
        have z0 := Z.out.1
        clear hv hr hz hb hD
        gi_wp2
        obtain ⟨hv, hr, hz, hb, hD⟩ := HH.out
        refine ⟨by simp, .inl ⟨_, _, rfl, run_takeDeferred hD, ?_⟩⟩
        refine ⟨_, results_tmp2 rfl _ _ _, v, rfl, ?_, ?_⟩
        · refine ownsRow_base (ownsRow_same (S := fun k => w.heap.size + 6 ≤ k) (by rw [rows_length] at hr; exact hr) ((Same.refl _ _).putObj _ (fun _ h => by omega)) (fun k hk _ => hk)) (by omega)
        · exact hb.trans (((Same.refl (fun k => k < w.heap.size) W).putObj _ (fun _ h => by omega)).below (by omega) fun k hk => hk)
      case stop => intro q pre W _ h; exact h.elim

set_option maxHeartbeats 400000 in
set_option maxRecDepth 100000 in
theorem read_bad (s : ByteArray) (ba : Nat) (sizes : List Nat) (w : World) (hsz : ¬ s.size = sizes.sum) (h8 : ∀ k ∈ sizes, k ≤ 8) (hn : sizes.length ≤ 100) (hba : w.heap[ba]? = some (.cells (szCells sizes) 3 (0, 0))) :
    Calls Try.prog 25 #[.string s, .slice (some ⟨ba, 0, none⟩) sizes.length sizes.length] w fun e w' => e = .returned (.tuple #[.slice none 0 0, .bool false]) ∧ Below w.heap.size w w' := by
  have HB := Lib.hid hba
  have HSZ := Lib.hid hsz
  have H8 := Lib.hid h8
  clear hba hsz h8
  go_enter Try.func25, Try.ntmps25
  go_wp2
  refine wp_scope_straight ?_
  go_wp2
  go_loop [6, 14] (fun t i => ∃ k : Nat, k ≤ sizes.length ∧ i = .int .i64 k ∧ t = .int .i64 (((sizes.take k).sum : Nat) : Int)) (fun _ i => sizes.length - (intOf i).toNat)
  case atStart => exact ⟨0, Nat.zero_le _, rfl, rfl⟩
  case round =>
    obtain ⟨k, hk, rfl, rfl⟩ := hrel
    by_cases hlt : k < sizes.length
    · obtain ⟨z, hz⟩ : ∃ z, sizes[k]'hlt = z := ⟨_, rfl⟩
      have hz8 := H8.out _ (List.getElem_mem hlt)
      have hca : ∀ o : Obj, (w.alloc o).cell? ⟨ba, k, none⟩ = some (.int .i64 (z : Int)) := fun o => by
        rw [Lib.cell_of_heap ((Below.heap_alloc w o ba (Array.getElem?_eq_some_iff.1 HB.out).1).trans HB.out)]
        simp [szCells, List.getElem?_eq_getElem hlt, hz]
      have hts := take_sum_le sizes H8.out k
      have HT := Lib.hid (take_sum_succ sizes k hlt)
      rw [hz] at hz8 HT
      clear hz
      go_wp2
      go_round
      case rel => exact ⟨k + 1, by omega, by go_num, by rw [HT.out]; go_num⟩
      case measure => simp [intOf]; omega
    · obtain ⟨tot, htot⟩ : ∃ tot, (sizes.take k).sum = tot := ⟨_, rfl⟩
      rw [htot]
      have hne : ¬ s.size = tot := by rw [← htot, List.take_of_length_le (by omega)]; exact HSZ.out
      have hb : ((s.size : Int) != (tot : Int)) = true := by simp; omega
      clear htot
      obtain rfl : k = sizes.length := by omega
      go_wp2
      go_ret2
      exact ⟨rfl, (Below.refl _ w).alloc (Nat.le_refl _) _⟩
end Go.Proofs.Ytbjbadnkpeakcaa
