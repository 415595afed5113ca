/- Package shop: Parse. Sorted lists of pairs of strings, without Go: what stands under a key, what is put, deleted, and what lies between two keys. Package world: the list's search. -/
import Derived.Lib.Bytealg
import Derived.Test.YtmkcbkdbdcnoiaaGreatDoorG06
import Derived.Test.YtmkcbkdbdcnoiaaGreatDoorG11
namespace Go.Proofs.YtmkcbkdbdcnoiaaGreatDoor
open Go.RowKit
set_option linter.unusedVariables false
set_option linter.unusedSimpArgs false
attribute [local go_sem] Oper.semAt_some

/-- The number of a field. -/
def fval (s : List UInt8) (x : Nat × Nat) : Nat := num ((s.drop x.1).take x.2)
/-- The listing of bytes. -/
def slOf (s : List UInt8) : Sl := (((fval s (0, 4) : Nat) : Int), ((fval s (4, 2) : Nat) : Int), sx (fval s (6, 8)), sx (fval s (14, 8)))
def slParse (s : List UInt8) : Sl × Int := if s.length = 22 ∧ slRight (slOf s) = true then (slOf s, 0) else ((0, 0, 0, 0), 150)

theorem eq68 (d : Nat) (x1 x2 x3 x4 y1 y2 y3 y4 : Int) (w : World) : (Op.equalIn (d + 3) 68 (slv (x1, x2, x3, x4)) (slv (y1, y2, y3, y4))).run Tryz.prog w = .ok ((x1 == y1) && (((x2 == y2) && ((x3 == y3) && true)) && ((x4 == y4) && true))) w := by
  refine eqA_of Tryz.underlying68 (by kernel_rfl) ?_
  exact eqf_cons (by rfl) (by kernel_rfl) (by kernel_rfl) (eq_u32 _ _ _ _) (eqf_cons (by rfl) (by kernel_rfl) (by kernel_rfl) (eq62 _ _ _ _ _ _) (eqf_cons (by rfl) (by kernel_rfl) (by kernel_rfl) (eq_i64 _ _ _ _) eqf_nil))
theorem eql68 (x1 x2 x3 x4 y1 y2 y3 y4 : Int) (w : World) : (binOp .eql 68 (slv (x1, x2, x3, x4)) (slv (y1, y2, y3, y4))).run Tryz.prog w = .ok (.bool ((x1 == y1) && (((x2 == y2) && (x3 == y3)) && (x4 == y4)))) w := by
  have e := fun w => eq68 9997 x1 x2 x3 x4 y1 y2 y3 y4 w
  unfold slv at e ⊢
  simp only [binOp]
  simp [Op.equal, Op.maxDepth, e]
theorem sfields_any' (w : World) : Calls Tryz.prog 170 #[] w fun e w' => e = .returned (.func (.func 195) #[] #[]) ∧ w = w' := (sfields_any w).mono fun e w' h => ⟨h.1, h.2.symm⟩
def u64s (l : List Nat) : List Value := l.map fun n : Nat => Value.int .u64 (n : Int)
theorem infoU64 : (Tryz.prog.info? 88).map (fun i => (i.zero, i.size, i.bytes)) = some (some (.int .u64 0), 1, 8) := by kernel_rfl
def SpI (w : World) (s : ByteArray) (pre : List (Nat × Nat)) (nb : Nat) (W : World) : Prop :=
  pre.length < 4 ∧ (∃ v, W.heap[w.heap.size + 2]? = some (.cells #[v] 193 (0, 0)) ∧ W.ownsRow (w.heap.size + 6) 88 1 v pre.length (u64s (pre.map (fval s.data.toList))) ∧ (∀ g, v.ownBlock = some g → g < nb)) ∧
  W.heap[w.heap.size]? = some (.cells #[.string s] 9 (0, 0)) ∧ W.heap[w.heap.size + 1]? = some (.cells #[.int .u32 0, .int .u16 0, .int .i64 0, .int .i64 0] 68 (0, 0)) ∧ Below w.heap.size w W
def SpX (w : World) (s : ByteArray) (q : Code) (pre : List (Nat × Nat)) (W : World) : Prop :=
  q = .exit 0 ∧ pre.length = 4 ∧ (∃ v, W.heap[w.heap.size + 2]? = some (.cells #[v] 193 (0, 0)) ∧ W.ownsRow (w.heap.size + 6) 88 1 v pre.length (u64s (pre.map (fval s.data.toList)))) ∧
  W.heap[w.heap.size]? = some (.cells #[.string s] 9 (0, 0)) ∧ W.heap[w.heap.size + 1]? = some (.cells #[.int .u32 0, .int .u16 0, .int .i64 0, .int .i64 0] 68 (0, 0)) ∧ Below w.heap.size w W

set_option maxHeartbeats 2000000 in
set_option maxRecDepth 100000 in
theorem slparse_any (s : ByteArray) (w : World) (hs : s.size ≤ 1000000) : Calls Tryz.prog 171 #[.string s] w fun e w' => e = .returned (.tuple #[slv (slParse s.data.toList).1, .int .i64 (slParse s.data.toList).2]) ∧ Below w.heap.size w w' := by
  obtain ⟨R, hR⟩ : ∃ R, slParse s.data.toList = R := ⟨_, rfl⟩
  rw [hR]
  unfold slParse at hR
  by_cases h22 : s.size = 22
  · have hnn : ((s.size : Int) != 22) = false := by simp; omega
    have hlen : s.data.toList.length = 22 := h22
    simp only [hlen, true_and] at hR
    refine (callsIn_wide (n := 9)).1 ?_
    refine callsIn_of_wp_marks Tryz.func171 rfl trivial ?_ rfl
    simp only [Tryz.ntmps171, List.size_toArray, List.length_cons, List.length_nil, Nat.reduceAdd, Nat.reduceSub, Array.replicate_succ, Array.replicate_zero, List.push_toArray, List.append_toArray, List.nil_append, List.cons_append]
    refine wpIn_wide.2 ?_
    have HR := Lib.hid hR
    have HL := Lib.hid (And.intro h22 hlen)
    clear hR hlen
    go_wp2_with fail
    refine wp_scope_straight ?_
    go_wp2_with fail
    obtain ⟨W0, hW0⟩ : ∃ W0, (((w.alloc (.cells #[.string s] 9)).alloc (.cells #[.int .u32 0, .int .u16 0, .int .i64 0, .int .i64 0] 68)).alloc (.cells #[.slice none 0 0] 193)) = W0 := ⟨_, rfl⟩
    obtain ⟨z0, z1, z2, z3, z4⟩ := three_new w (.cells #[.string s] 9) (.cells #[.int .u32 0, .int .u16 0, .int .i64 0, .int .i64 0] 68) (.cells #[.slice none 0 0] 193)
    rw [hW0] at z0 z1 z2 z3 z4
    have Z : Hid (W0.heap.size = w.heap.size + 3 ∧ SpI w s [] W0.heap.size W0) := Lib.hid ⟨z0, by simp, ⟨_, z3, ⟨by simp [u64s], .inl ⟨rfl, rfl⟩⟩, by simp [Value.ownBlock]⟩, z1, z2, z4⟩
    try rw [hW0]
    clear z0 z1 z2 z3 z4
    go_step3
    go_wp2_with (go_at_call 170; refine (sfields_any' _).mono ?_; rintro e w' ⟨rfl, rfl⟩)
    clear hW0
    refine (wpIn_wide (n := 9)).1 ?_
    have hit := fields_iter 8 W0 (by omega)
    have HIT := Lib.hid hit
    clear hit
    refine wp_range (gf := 195) (lb := #[]) rfl (enters_of Tryz.func195 (by kernel_rfl) rfl)
      HIT.out (by rintro k h; exact h.elim) (by rintro k h; exact h.elim) (fun x => rfl)
      (SpI w s) (SpX w s) ?hI ?hm ?hIx ?h0
      (fun x a' W => a' = { tmps := #[.string s, .pointer (some ⟨w.heap.size, 0, none⟩), .pointer (some ⟨w.heap.size + 1, 0, none⟩), .int .i64 0, .pointer (some ⟨w.heap.size + 1 + 1, 0, none⟩), .int .i64 (x.1 : Int), .int .i64 (x.2 : Int), undef, undef, undef, undef, .string s, .int .i64 22, .bool false, undef, .func (.func 195) #[] #[], .int .i64 (x.1 : Int), .int .i64 (x.2 : Int), undef, undef, undef, undef, undef, undef, undef, undef, undef, undef, undef, undef, undef, undef, undef, undef, undef, undef, undef, undef, undef, undef, undef, undef, undef, undef, undef, undef, undef, undef, undef, undef, undef, undef, undef, undef, undef, undef, undef, undef, undef, undef, undef, undef, undef, undef, undef, undef, undef, undef], defers := [] }) (fun _ _ _ _ h _ _ => h) ?assign ?body ?done ?stop
    case hm =>
      rintro pre nb nb' A' ⟨h0, ⟨v, h1, h2, h3⟩, h4, h5⟩ hle
      exact ⟨h0, ⟨v, h1, h2, fun g h => Nat.lt_of_lt_of_le (h3 g h) hle⟩, h4, h5⟩
    case hI =>
      rintro pre nb A' B ⟨h0, ⟨v, h1, h2, h3⟩, h4, h5, h6⟩ hA hS
      have z0 := Z.out.1
      exact ⟨h0, ⟨v, hS.at_ h1 ⟨by simp, by omega⟩, ownsRow_same h2 hS (fun k hk _ => ⟨by simp, by omega⟩), h3⟩, hS.at_ h4 ⟨by simp, by omega⟩, hS.at_ h5 ⟨by simp, by omega⟩, h6.trans (hS.below (by omega) (fun k hk => ⟨by simp, by omega⟩))⟩
    case hIx =>
      rintro q pre A' B ⟨h0, h0', ⟨v, h1, h2⟩, h4, h5, h6⟩ hA hS
      have z0 := Z.out.1
      exact ⟨h0, h0', ⟨v, hS.at_ h1 ⟨by simp, by omega⟩, ownsRow_same h2 hS (fun k hk _ => ⟨by simp, by omega⟩)⟩, hS.at_ h4 ⟨by simp, by omega⟩, hS.at_ h5 ⟨by simp, by omega⟩, h6.trans (hS.below (by omega) (fun k hk => ⟨by simp, by omega⟩))⟩
    case h0 => exact Z.out.2
    case assign =>
      intro l pre x rest nb W K _ hi _ _ hK
      dsimp only [encF]
      gi_wp2
      exact hK _ _ (Same.refl _ _) hi rfl
    case body =>
      rintro lp pre x rest nb a' W hxs ⟨h0, ⟨v, h1, h2, h3⟩, h4, h5, h6⟩ rfl hn hlen
      have z0 := Z.out.1
      obtain ⟨_, _, hp4, h22', hs1, hs8, _⟩ := stamps_step hxs (List.replicate 22 0) 0 0 0 0
      have c2 : W.cell? ⟨w.heap.size + 1 + 1, 0, none⟩ = some v := blk_cell h1 0
      have c0 : W.cell? ⟨w.heap.size, 0, none⟩ = some (.string s) := blk_cell h4 0
      have HH := Lib.hid (And.intro h0 (And.intro h1 (And.intro h2 (And.intro h3 (And.intro h4 (And.intro h5 h6))))))
      have hW5 : w.heap.size + 6 ≤ W.heap.size := by omega
      obtain ⟨at_, sz⟩ := x
      dsimp only at h22' hs1 hs8 ⊢
      clear h0 h1 h2 h3 h4 h5 h6 hxs
      gi_wp2
      gi_loop [7, 19] (fun v i => ∃ j : Nat, j ≤ sz ∧ i = .int .i64 j ∧ v = .int .u64 (num ((s.data.toList.drop at_).take j) : Int)) (fun _ i => sz - (intOf i).toNat)
      case atStart => exact ⟨0, Nat.zero_le _, rfl, rfl⟩
      case round =>
        obtain ⟨j, hj, rfl, rfl⟩ := hrel
        by_cases hjz : j < sz
        · have hjs : at_ + j < s.size := by have := HL.out.1; omega
          have hjz' : (j : Int) < (sz : Int) := by omega
          have s1 : IntKind.i64.wrap ((at_ : Int) + (j : Int)) = ((at_ + j : Nat) : Int) := by rw [IntWalk.i64_in _ (by omega)]; push_cast; rfl
          gi_wp2
          refine ⟨⟨j + 1, by omega, by push_cast; rfl, ?_⟩, by simp [intOf]; omega⟩
          rw [or_byte _ _ (by
              have h1 := num_lt ((s.data.toList.drop at_).take j)
              have h2 : 256 ^ ((s.data.toList.drop at_).take j).length ≤ 256 ^ 7 := Nat.pow_le_pow_right (by omega) (by rw [List.length_take]; omega)
              have h3 : (256 : Nat) ^ 7 = 72057594037927936 := by decide
              omega), num_take_succ _ j (by have := HL.out.2; rw [List.length_drop]; omega), List.getElem_drop]
          rfl
        · obtain rfl : j = sz := by omega
          obtain ⟨i0, hi, hi0, hi1, hi2⟩ := info_parts infoU64
          obtain ⟨nn, hnn⟩ : ∃ nn, num ((s.data.toList.drop at_).take j) = nn := ⟨_, rfl⟩
          have HN := Lib.hid (show fval s.data.toList (at_, j) = nn from hnn)
          have hnew := Lib.hid (cell_one_new W (.int .u64 (nn : Int)) 88)
          rw [hnn]
          clear hnn
          gi_wp2_with (gi_at_builtin; refine wpListIn_append_own _ rfl _ _ 193 rfl (w.heap.size + 6) 88 i0 (.int .u64 0) 1 8 Tryz.underlying193 hi hi0 hi1 hi2 rfl (by decide) _ _ _ rfl (HH.out.2.2.1.alloc _) ⟨W.heap.size, 0, none⟩ 1 1 [.int .u64 (nn : Int)] rfl rfl hnew.out (by simp [Value.oneCell']) ?b1 ?b2 ?b3 ?_)
          case b1 => unfold maxLen; omega
          case b2 => omega
          case b3 => first | omega | (simp [World.size_alloc]; omega) | trace_state
          intro v' w1 hown' hgrow _
          obtain ⟨g', cap', rfl⟩ := ownsRow_succ hown'
          have hgb : w.heap.size + 6 ≤ g' ∧ g' < w1.heap.size := by
            rcases hown'.2 with ⟨h, _⟩ | ⟨g, cap, cur, h, hg, hh, _⟩
            · cases h
            · simp only [Value.slice.injEq, Option.some.injEq, Addr.mk.injEq] at h
              rw [h.1.1]; exact ⟨hg, (Array.getElem?_eq_some_iff.1 hh).1⟩
          have hrow : ∀ k, v.ownBlock = some k → w.heap.size + 6 ≤ k ∧ k < nb := fun k hk => ⟨own_base HH.out.2.2.1 k hk, HH.out.2.2.2.1 k hk⟩
          have s1 : Same (fun k => k < w.heap.size + 6 ∨ nb ≤ k) W w1 := ((Same.refl _ _).alloc _).grown hgrow (fun k hk _ h => by have := hrow k hk; omega)
          have hv2 : w1.heap[w.heap.size + 2]? = some (.cells #[v] 193 (0, 0)) := s1.at_ HH.out.2.1 (.inl (by omega))
          have c3 : w1.cell? ⟨w.heap.size + 1 + 1, 0, none⟩ = some v := blk_cell hv2 0
          have f3 : ∀ i, w1.frozen? ⟨w.heap.size + 1 + 1, i, none⟩ = false := blk_frozen hv2
          have HG := Lib.hid (And.intro hown' (And.intro hgb (And.intro s1 hv2)))
          clear hown' hgrow hgb hrow s1 hv2
          have s2 : Same (fun k => (k < w.heap.size + 6 ∧ k ≠ w.heap.size + 2) ∨ nb ≤ k) W (w1.setCell ⟨w.heap.size + 1 + 1, 0, none⟩ (.slice (some ⟨g', 0, none⟩) (pre.length + 1) cap')) :=
            (HG.out.2.2.1.mono fun k _ h => by omega).setCell (fun _ h => by simp at h; omega) _
          have hthe : Same (Theirs W0 (fun _ => False) (fun _ => False) 1 nb) W (w1.setCell ⟨w.heap.size + 1 + 1, 0, none⟩ (.slice (some ⟨g', 0, none⟩) (pre.length + 1) cap')) := s2.mono fun k _ h => by
            rcases h with h | h | h | h
            · exact h.elim
            · exact h.elim
            · left; omega
            · right; exact h
          have hrow2 : (w1.setCell ⟨w.heap.size + 1 + 1, 0, none⟩ (.slice (some ⟨g', 0, none⟩) (pre.length + 1) cap')).ownsRow (w.heap.size + 6) 88 1 (.slice (some ⟨g', 0, none⟩) (pre.length + 1) cap') (pre.length + 1) (u64s ((pre ++ [(at_, j)]).map (fval s.data.toList))) :=
            ownsRow_same (S := fun k => k ≠ w.heap.size + 2) (by simpa [u64s, HN.out] using HG.out.1) ((Same.refl _ _).setCell (fun _ h => h rfl) _) (fun k hk _ => by omega)
          have hbox : (w1.setCell ⟨w.heap.size + 1 + 1, 0, none⟩ (.slice (some ⟨g', 0, none⟩) (pre.length + 1) cap')).heap[w.heap.size + 2]? = some (.cells #[.slice (some ⟨g', 0, none⟩) (pre.length + 1) cap'] 193 (0, 0)) := by have := blk_set HG.out.2.2.2 0 (.slice (some ⟨g', 0, none⟩) (pre.length + 1) cap'); simpa using this
          have hst := s2.at_ HH.out.2.2.2.2.1 (.inl ⟨by omega, by omega⟩)
          have hres := s2.at_ HH.out.2.2.2.2.2.1 (.inl ⟨by omega, by omega⟩)
          have hbel : Below w.heap.size w (w1.setCell ⟨w.heap.size + 1 + 1, 0, none⟩ (.slice (some ⟨g', 0, none⟩) (pre.length + 1) cap')) := HH.out.2.2.2.2.2.2.trans (s2.below HH.out.2.2.2.2.2.2.size fun k hk => .inl ⟨by omega, by omega⟩)
          have hsz : g' < (w1.setCell ⟨w.heap.size + 1 + 1, 0, none⟩ (.slice (some ⟨g', 0, none⟩) (pre.length + 1) cap')).heap.size := by simpa [World.setCell] using HG.out.2.1.2
          have HX := Lib.hid (And.intro hthe (And.intro hrow2 (And.intro hbox (And.intro hst (And.intro hres (And.intro hbel hsz))))))
          clear s2 hthe hrow2 hbox hst hres hbel hsz
          have hpl : (pre ++ [(at_, j)]).length = pre.length + 1 := by simp
          have HPL := Lib.hid hpl
          clear hpl
          rcases Nat.lt_or_ge (pre.length + 1) 4 with h3 | h3
          · have hne : (((pre.length : Int) + 1) == 4) = false := by simp; omega
            have HP3 := Lib.hid h3
            clear h3
            gi_wp2
            obtain ⟨e1, e2, e3, e4, e5, e6, e7⟩ := HX.out
            exact ⟨e1, by rw [HPL.out]; exact HP3.out, ⟨_, e3, by rw [HPL.out]; exact e2, fun g hg => by
              obtain rfl : g' = g := by simpa [Value.ownBlock] using hg
              exact e7⟩, e4, e5, e6⟩
          · have hne : (((pre.length : Int) + 1) == 4) = true := by simp; omega
            have HP3 := Lib.hid h3
            clear h3
            gi_wp2
            obtain ⟨e1, e2, e3, e4, e5, e6, e7⟩ := HX.out
            exact ⟨e1, rfl, by rw [HPL.out]; have := HP3.out; have := HH.out.1; omega, ⟨_, e3, by rw [HPL.out]; exact e2⟩, e4, e5, e6⟩
    case done =>
      rintro W ⟨h0, _⟩
      simp [offs] at h0
    case stop =>
      rintro q pre W ⟨r, hr⟩ ⟨rfl, h0, ⟨v, h1, h2⟩, h4, h5, h6⟩ hsz hD
      have z0 := Z.out.1
      have hpre : pre = offs 0 [4, 2, 8, 8] := by
        have := congrArg List.length hr
        rw [List.length_append] at this
        have hr0 : r = [] := List.eq_nil_of_length_eq_zero (by simp [offs] at this; omega)
        rw [hr0, List.append_nil] at hr
        exact hr
      subst hpre
      obtain ⟨g, cap, rfl⟩ := ownsRow_succ (k := 3) h2
      have hgb : w.heap.size + 6 ≤ g := by
        rcases h2.2 with ⟨h, _⟩ | ⟨g', cap', cur, h, hg, hh, _⟩
        · cases h
        · simp only [Value.slice.injEq, Option.some.injEq, Addr.mk.injEq] at h
          rw [h.1.1]; exact hg
      have cB : W.cell? ⟨w.heap.size + 1 + 1, 0, none⟩ = some (.slice (some ⟨g, 0, none⟩) 4 cap) := blk_cell h1 0
      have hcs := h2.cells (g := g) rfl
      have hR := HR.out
      unfold slOf at hR
      have hb1 := num_lt ((s.data.toList.drop 0).take 4)
      have hb3 := num_lt ((s.data.toList.drop 4).take 2)
      rw [List.length_take, List.length_drop, HL.out.2] at hb1 hb3
      rw [show (256 : Nat) ^ (min 4 (22 - 0)) = 4294967296 by decide] at hb1
      rw [show (256 : Nat) ^ (min 2 (22 - 4)) = 65536 by decide] at hb3
      have hb2 := num_take_lt (s.data.toList.drop 6) 8 (by omega)
      have hb4 := num_take_lt (s.data.toList.drop 14) 8 (by omega)
      have hmap : (offs 0 [4, 2, 8, 8]).map (fval s.data.toList) = [fval s.data.toList (0, 4), fval s.data.toList (4, 2), fval s.data.toList (6, 8), fval s.data.toList (14, 8)] := rfl
      rw [hmap] at hcs
      obtain ⟨a, ha⟩ : ∃ a, fval s.data.toList (0, 4) = a := ⟨_, rfl⟩
      obtain ⟨b, hb⟩ : ∃ a, fval s.data.toList (4, 2) = a := ⟨_, rfl⟩
      obtain ⟨c, hc⟩ : ∃ a, fval s.data.toList (6, 8) = a := ⟨_, rfl⟩
      obtain ⟨d, hd⟩ : ∃ a, fval s.data.toList (14, 8) = a := ⟨_, rfl⟩
      rw [ha, hb, hc, hd] at hcs hR
      unfold fval at ha hb hc hd
      rw [ha] at hb1
      rw [hb] at hb3
      rw [hc] at hb2
      rw [hd] at hb4
      have cg0 : W.cell? ⟨g, 0, none⟩ = some (.int .u64 (a : Int)) := hcs 0 _ rfl
      have cg1 : W.cell? ⟨g, 1, none⟩ = some (.int .u64 (b : Int)) := by have := hcs 1 (.int .u64 (b : Int)) rfl; rwa [add_plain] at this
      have cg2 : W.cell? ⟨g, 2, none⟩ = some (.int .u64 (c : Int)) := by have := hcs 2 (.int .u64 (c : Int)) rfl; rwa [add_plain] at this
      have cg3 : W.cell? ⟨g, 3, none⟩ = some (.int .u64 (d : Int)) := by have := hcs 3 (.int .u64 (d : Int)) rfl; rwa [add_plain] at this
      have HRR := Lib.hid hR
      have HH := Lib.hid (And.intro h5 (And.intro h6 hD))
      have x1 : IntKind.u32.wrap (a : Int) = (a : Int) := IntWalk.u32_in _ (by omega)
      have x3 : IntKind.u16.wrap (b : Int) = (b : Int) := IntWalk.u16_in _ (by omega)
      have x2 : IntKind.i64.wrap (c : Int) = sx c := mlOf_wrap hb2
      have x4 : IntKind.i64.wrap (d : Int) = sx d := mlOf_wrap hb4
      clear h0 h1 h2 h4 h5 h6 hD hcs hr hR hmap ha hb hc hd hb1 hb2 hb3 hb4
      refine wpIn_wide.2 ?_
      go_wp2_with fail
      go_region_held3 (fun W' => W'.cell? ⟨w.heap.size + 1 + 1, 0, none⟩ = some (.slice (some ⟨g, 0, none⟩) 4 cap) ∧ W'.cell? ⟨g, 0, none⟩ = some (.int .u64 (a : Int)) ∧ W'.cell? ⟨g, 1, none⟩ = some (.int .u64 (b : Int)) ∧ W'.cell? ⟨g, 2, none⟩ = some (.int .u64 (c : Int)) ∧ W'.cell? ⟨g, 3, none⟩ = some (.int .u64 (d : Int)))
        (first | with_reducible exact ⟨cB, cg0, cg1, cg2, cg3⟩ | with_reducible exact ⟨cell_drew cB, cell_drew cg0, cell_drew cg1, cell_drew cg2, cell_drew cg3⟩ | with_reducible exact ⟨cell_alloc cB _, cell_alloc cg0 _, cell_alloc cg1 _, cell_alloc cg2 _, cell_alloc cg3 _⟩ | with_reducible exact ⟨cell_drew (cell_alloc cB _), cell_drew (cell_alloc cg0 _), cell_drew (cell_alloc cg1 _), cell_drew (cell_alloc cg2 _), cell_drew (cell_alloc cg3 _)⟩)
        (fail)
      obtain ⟨b8, hb8⟩ : ∃ b8, W.heap.size = b8 := ⟨_, rfl⟩
      obtain ⟨W4, hW4⟩ : ∃ W4, (W.alloc (.cells #[.int .u32 (a : Int), .int .u16 (b : Int), .int .i64 (sx c), .int .i64 (sx d)] 68)).drew = W4 := ⟨_, rfl⟩
      have hz4 : W4.heap.size = b8 + 1 := by rw [← hW4, ← hb8]; simp [World.drew]
      have H5 : Hid (Below w.heap.size w (W4.alloc (.cells #[.int .u32 0, .int .u16 0, .int .i64 0, .int .i64 0] 68)) ∧ (W4.alloc (.cells #[.int .u32 0, .int .u16 0, .int .i64 0, .int .i64 0] 68)).heap[w.heap.size + 1]? = some (.cells #[.int .u32 0, .int .u16 0, .int .i64 0, .int .i64 0] 68 (0, 0)) ∧ (W4.alloc (.cells #[.int .u32 0, .int .u16 0, .int .i64 0, .int .i64 0] 68)).heap[b8]? = some (.cells #[.int .u32 (a : Int), .int .u16 (b : Int), .int .i64 (sx c), .int .i64 (sx d)] 68 (0, 0)) ∧ (W4.alloc (.cells #[.int .u32 0, .int .u16 0, .int .i64 0, .int .i64 0] 68)).heap[b8 + 1]? = some (.cells #[.int .u32 0, .int .u16 0, .int .i64 0, .int .i64 0] 68 (0, 0)) ∧ (W4.alloc (.cells #[.int .u32 0, .int .u16 0, .int .i64 0, .int .i64 0] 68)).heap[W0.heap.size]? = some (.deferred (some []))) := Lib.hid (by
        obtain ⟨h5, h6, hD⟩ := HH.out
        have e2 := heap_alloc_new W4 (.cells #[.int .u32 0, .int .u16 0, .int .i64 0, .int .i64 0] 68)
        rw [hz4] at e2
        have e3 : Below w.heap.size w W4 := by rw [← hW4]; exact (h6.alloc h6.size _).drew
        refine ⟨e3.alloc e3.size _, keep_a _ ?_, keep_a _ ?_, e2, keep_a _ ?_⟩
        · rw [← hW4]; exact blk_drew (keep_a _ h5)
        · rw [← hW4, ← hb8]; exact blk_drew (heap_alloc_new W _)
        · rw [← hW4]; exact blk_drew (keep_a _ hD))
      have c48 : ∀ j, W4.cell? ⟨b8, j, none⟩ = (#[.int .u32 (a : Int), .int .u16 (b : Int), .int .i64 (sx c), .int .i64 (sx d)] : Array Value)[j]? := by rw [← hW4, ← hb8]; exact blk_cell (blk_drew (heap_alloc_new W _))
      have H6' : Hid (W4.heap[w.heap.size + 1]? = some (.cells #[.int .u32 0, .int .u16 0, .int .i64 0, .int .i64 0] 68 (0, 0)) ∧ w.heap.size + 1 < b8 + 1) := Lib.hid ⟨by rw [← hW4]; exact blk_drew (keep_a _ HH.out.1), by have := (Array.getElem?_eq_some_iff.1 HH.out.1).1; omega⟩
      rw [hW4, hb8]
      clear cB cg0 cg1 cg2 cg3 x1 x2 x3 x4 hW4 hb8 HH
      have c8 : ∀ j, (W4.alloc (.cells #[.int .u32 0, .int .u16 0, .int .i64 0, .int .i64 0] 68)).cell? ⟨b8, j, none⟩ = (#[.int .u32 (a : Int), .int .u16 (b : Int), .int .i64 (sx c), .int .i64 (sx d)] : Array Value)[j]? := blk_cell H5.out.2.2.1
      have c9 : ∀ j, (W4.alloc (.cells #[.int .u32 0, .int .u16 0, .int .i64 0, .int .i64 0] 68)).cell? ⟨b8 + 1, j, none⟩ = (#[.int .u32 0, .int .u16 0, .int .i64 0, .int .i64 0] : Array Value)[j]? := blk_cell H5.out.2.2.2.1
      have hq := eql68 a b (sx c) (sx d) 0 0 0 0
      have hK := slright_any (a, b, sx c, sx d) (W4.alloc (.cells #[.int .u32 0, .int .u16 0, .int .i64 0, .int .i64 0] 68))
      unfold slv at hq hK
      dsimp only at hq hK
      obtain ⟨E, hE⟩ : ∃ E, (((a : Int) == 0) && ((((b : Int) == 0) && (sx c == 0)) && (sx d == 0))) = E := ⟨_, rfl⟩
      rw [hE] at hq
      rcases E with _ | _
      · clear hE
        rcases hkr : slRight (a, b, sx c, sx d) with _ | _
        all_goals
          rw [hkr] at hK
          have HKK := Lib.hid hK
          clear hK
          go_wp2_with fail
          refine HKK.out.mono ?_
          rintro e W6 ⟨rfl, hb⟩
          have H6 : Hid (Below w.heap.size w W6 ∧ W6.heap[w.heap.size + 1]? = some (.cells #[.int .u32 0, .int .u16 0, .int .i64 0, .int .i64 0] 68 (0, 0)) ∧ W6.heap[b8]? = some (.cells #[.int .u32 (a : Int), .int .u16 (b : Int), .int .i64 (sx c), .int .i64 (sx d)] 68 (0, 0)) ∧ W6.heap[b8 + 1]? = some (.cells #[.int .u32 0, .int .u16 0, .int .i64 0, .int .i64 0] 68 (0, 0)) ∧ W6.heap[W0.heap.size]? = some (.deferred (some []))) := Lib.hid (by
            obtain ⟨h1, h2, h3, h4, h5⟩ := H5.out
            exact ⟨h1.trans (hb.mono h1.size), keep_b h2 hb, keep_b h3 hb, keep_b h4 hb, keep_b h5 hb⟩)
          clear hb c8 c9 c48
          have c5 : ∀ j, W6.cell? ⟨b8, j, none⟩ = (#[.int .u32 (a : Int), .int .u16 (b : Int), .int .i64 (sx c), .int .i64 (sx d)] : Array Value)[j]? := blk_cell H6.out.2.2.1
          have c7 : ∀ j, W6.cell? ⟨b8 + 1, j, none⟩ = (#[.int .u32 0, .int .u16 0, .int .i64 0, .int .i64 0] : Array Value)[j]? := blk_cell H6.out.2.2.2.1
          have c6 : ∀ j, W6.cell? ⟨w.heap.size + 1, j, none⟩ = (#[.int .u32 0, .int .u16 0, .int .i64 0, .int .i64 0] : Array Value)[j]? := blk_cell H6.out.2.1
          have f6 : ∀ j, W6.frozen? ⟨w.heap.size + 1, j, none⟩ = false := blk_frozen H6.out.2.1
          go_wp2
          dsimp only [Exit.noGoto]
          obtain ⟨h1, h2, h3, h4, hD⟩ := H6.out
          rw [z0] at hD
          have hR := HRR.out
          rw [hkr] at hR
          simp only [Bool.false_eq_true, if_false, if_true] at hR
          subst hR
          have hne : w.heap.size + 3 ≠ w.heap.size + 1 := by omega
          refine ⟨by simp, .inl ⟨_, _, rfl, run_takeDeferred (by rw [Below.heap_setCell _ _ _ _ hne, Below.heap_setCell _ _ _ _ hne, Below.heap_setCell _ _ _ _ hne, Below.heap_setCell _ _ _ _ hne]; exact hD), ?_⟩⟩
          refine ⟨_, res_cell_tmp rfl rfl ((World.putObj_heap_other (Ne.symm hne)).trans (four_set h2 _ _ _ _)) Tryz.underlying68 rfl (by kernel_rfl), ?_⟩
          refine ⟨rfl, ?_⟩
          exact (four_below h1 (by omega) _ _ _ _).trans (((Same.refl (fun k => k < w.heap.size) _).putObj _ (fun _ h => by omega)).below (by have := h1.size; simp [World.setCell]; omega) fun k hk => hk)

      · have ha0 : a = 0 := by
          simp only [Bool.and_eq_true, beq_iff_eq] at hE
          omega
        have hkr : slRight ((a : Int), (b : Int), sx c, sx d) = false := by rw [ha0]; simp [slRight]
        clear ha0
        clear hE hK
        have c6 : ∀ j, (W4.alloc (.cells #[.int .u32 0, .int .u16 0, .int .i64 0, .int .i64 0] 68)).cell? ⟨w.heap.size + 1, j, none⟩ = (#[.int .u32 0, .int .u16 0, .int .i64 0, .int .i64 0] : Array Value)[j]? := blk_cell H5.out.2.1
        have f6 : ∀ j, (W4.alloc (.cells #[.int .u32 0, .int .u16 0, .int .i64 0, .int .i64 0] 68)).frozen? ⟨w.heap.size + 1, j, none⟩ = false := blk_frozen H5.out.2.1
        have c64 : ∀ j, W4.cell? ⟨w.heap.size + 1, j, none⟩ = (#[.int .u32 0, .int .u16 0, .int .i64 0, .int .i64 0] : Array Value)[j]? := blk_cell H6'.out.1
        have f64 : ∀ j, W4.frozen? ⟨w.heap.size + 1, j, none⟩ = false := blk_frozen H6'.out.1
        have hn1 : w.heap.size + 1 ≠ b8 + 1 := by have := H6'.out.2; omega
        go_wp2
        dsimp only [Exit.noGoto]
        obtain ⟨h1, h2, h3, h4, hD⟩ := H5.out
        rw [z0] at hD
        have hR := HRR.out
        rw [hkr] at hR
        simp only [Bool.false_eq_true, if_false, if_true] at hR
        subst hR
        have hne : w.heap.size + 3 ≠ w.heap.size + 1 := by omega
        refine ⟨by simp, .inl ⟨_, _, rfl, run_takeDeferred (by rw [Below.heap_setCell _ _ _ _ hne, Below.heap_setCell _ _ _ _ hne, Below.heap_setCell _ _ _ _ hne, Below.heap_setCell _ _ _ _ hne]; exact hD), ?_⟩⟩
        refine ⟨_, res_cell_tmp rfl rfl ((World.putObj_heap_other (Ne.symm hne)).trans (four_set h2 _ _ _ _)) Tryz.underlying68 rfl (by kernel_rfl), ?_⟩
        refine ⟨rfl, ?_⟩
        exact (four_below h1 (by omega) _ _ _ _).trans (((Same.refl (fun k => k < w.heap.size) _).putObj _ (fun _ h => by omega)).below (by have := h1.size; rw [World.size_alloc] at this; simp [World.setCell]; omega) fun k hk => hk)

  · have hn : ((s.size : Int) != 22) = true := by simp; omega
    rw [if_neg (fun h => h22 h.1)] at hR
    subst hR
    unfold slv
    go_enter Tryz.func171, Tryz.ntmps171
    go_wp2
    refine wp_scope_straight ?_
    go_wp2
    dsimp only [Exit.noGoto]
    refine bodyPost_ret (res_cell_tmp rfl rfl (alloc_new2 w _ _) Tryz.underlying68 rfl (by kernel_rfl)) rfl ⟨rfl, ?_⟩
    exact ((Below.refl _ w).alloc (Nat.le_refl _) _).alloc (by simp) _
end Go.Proofs.YtmkcbkdbdcnoiaaGreatDoor
namespace Go.Proofs.YtmkcbkdbdcnoiaaGreatDoor
set_option linter.unusedVariables false
set_option linter.unusedSimpArgs false

abbrev Str := List UInt8
abbrev Par := Str × Str

theorem cmp_cases : ∀ a b : Str, Lib.compareBytes a b = -1 ∨ Lib.compareBytes a b = 0 ∨ Lib.compareBytes a b = 1
  | [], [] => .inr (.inl rfl)
  | [], _ :: _ => .inl rfl
  | _ :: _, [] => .inr (.inr rfl)
  | a :: aas, b :: bs => by
    unfold Lib.compareBytes
    split
    · exact .inl rfl
    · split
      · exact .inr (.inr rfl)
      · exact cmp_cases aas bs
theorem cmp_self : ∀ a : Str, Lib.compareBytes a a = 0
  | [] => rfl
  | a :: aas => by
    unfold Lib.compareBytes
    have : ¬ a < a := by rw [UInt8.lt_iff_toNat_lt]; omega
    rw [if_neg this, if_neg this]
    exact cmp_self aas
theorem cmp_zero : ∀ a b : Str, Lib.compareBytes a b = 0 → a = b
  | [], [], _ => rfl
  | [], _ :: _, h => by simp [Lib.compareBytes] at h
  | _ :: _, [], h => by simp [Lib.compareBytes] at h
  | a :: aas, b :: bs, h => by
    unfold Lib.compareBytes at h
    split at h
    · simp at h
    · split at h
      · simp at h
      · rename_i h1 h2
        have : a = b := by
          rw [UInt8.lt_iff_toNat_lt] at h1 h2
          exact UInt8.toNat_inj.1 (by omega)
        rw [this, cmp_zero aas bs h]
theorem cmp_swap : ∀ a b : Str, Lib.compareBytes b a = - Lib.compareBytes a b
  | [], [] => rfl
  | [], _ :: _ => rfl
  | _ :: _, [] => rfl
  | a :: aas, b :: bs => by
    unfold Lib.compareBytes
    by_cases h1 : a < b
    · have h2 : ¬ b < a := by rw [UInt8.lt_iff_toNat_lt] at h1 ⊢; omega
      rw [if_neg h2, if_pos h1, if_pos h1]; rfl
    · by_cases h2 : b < a
      · rw [if_pos h2, if_neg h1, if_pos h2]
      · rw [if_neg h2, if_neg h1, if_neg h1, if_neg h2]
        exact cmp_swap aas bs

/-- The order of keys. -/
def slt (a b : Str) : Bool := decide (Lib.compareBytes a b < 0)
theorem slt_iff {a b : Str} : slt a b = true ↔ Lib.compareBytes a b = -1 := by
  have := cmp_cases a b
  simp only [slt, decide_eq_true_eq]; omega
theorem slt_irrefl (a : Str) : slt a a = false := by simp [slt, cmp_self]
theorem slt_trans : ∀ {a b c : Str}, slt a b = true → slt b c = true → slt a c = true := by
  intro a b c h1 h2
  rw [slt_iff] at *
  induction a generalizing b c with
  | nil =>
    cases b with
    | nil => simp [Lib.compareBytes] at h1
    | cons b bs =>
      cases c with
      | nil => simp [Lib.compareBytes] at h2
      | cons c cs => rfl
  | cons a aas ih =>
    cases b with
    | nil => simp [Lib.compareBytes] at h1
    | cons b bs =>
      cases c with
      | nil => simp [Lib.compareBytes] at h2
      | cons c cs =>
        unfold Lib.compareBytes at h1 h2 ⊢
        by_cases x1 : a < b
        · by_cases x2 : b < c
          · rw [if_pos (by rw [UInt8.lt_iff_toNat_lt] at *; omega)]
          · by_cases x3 : c < b
            · rw [if_neg x2, if_pos x3] at h2; simp at h2
            · rw [if_pos (by rw [UInt8.lt_iff_toNat_lt] at *; omega)]
        · by_cases x4 : b < a
          · rw [if_neg x1, if_pos x4] at h1; simp at h1
          · rw [if_neg x1, if_neg x4] at h1
            obtain rfl : a = b := by rw [UInt8.lt_iff_toNat_lt] at *; exact UInt8.toNat_inj.1 (by omega)
            by_cases x2 : a < c
            · rw [if_pos x2]
            · by_cases x3 : c < a
              · rw [if_neg x2, if_pos x3] at h2; simp at h2
              · rw [if_neg x2, if_neg x3] at h2 ⊢
                exact ih h1 h2
theorem slt_asymm {a b : Str} (h : slt a b = true) : slt b a = false := by
  cases hb : slt b a with
  | false => rfl
  | true => have := slt_trans h hb; rw [slt_irrefl] at this; cases this
theorem slt_ne {a b : Str} (h : slt a b = true) : a ≠ b := by rintro rfl; rw [slt_irrefl] at h; cases h
theorem slt_tri {a b : Str} (h1 : slt a b = false) (h2 : slt b a = false) : a = b := by
  apply cmp_zero
  have := cmp_cases a b
  have hs := cmp_swap a b
  simp only [slt, decide_eq_false_iff_not] at h1 h2
  omega
theorem sle_trans {a b c : Str} (h1 : slt b a = false) (h2 : slt c b = false) : slt c a = false := by
  cases hb : slt c a with
  | false => rfl
  | true =>
    cases h3 : slt a b with
    | true => have := slt_trans hb h3; rw [h2] at this; cases this
    | false => obtain rfl := slt_tri h3 h1; rw [hb] at h2; exact h2
theorem slt_of_lt_le {a b c : Str} (h1 : slt a b = true) (h2 : slt c b = false) : slt a c = true := by
  cases h : slt a c with
  | true => rfl
  | false => rw [sle_trans h2 h] at h1; cases h1

/-- The keys rise. -/
def Srt (l : List Par) : Prop := l.Pairwise fun p q => slt p.1 q.1 = true

def get : List Par → Str → Option Str
  | [], _ => none
  | p :: l, k => if p.1 = k then some p.2 else get l k
def put : List Par → Str → Str → List Par
  | [], k, v => [(k, v)]
  | p :: l, k, v => if p.1 = k then (k, v) :: l else if slt k p.1 = true then (k, v) :: p :: l else p :: put l k v
def del (l : List Par) (k : Str) : List Par := l.filter fun p => !decide (p.1 = k)
def betw (l : List Par) (a b : Str) : List Par := l.filter fun p => !slt p.1 a && slt p.1 b
/-- How many keys are less. -/
def lb : List Par → Str → Nat
  | [], _ => 0
  | p :: l, k => if slt p.1 k = true then lb l k + 1 else 0
/-- Is the key there? -/
def has (l : List Par) (k : Str) : Bool := (get l k).isSome

theorem get_put (l : List Par) (k v k' : Str) : get (put l k v) k' = if k' = k then some v else get l k' := by
  induction l with
  | nil =>
    simp only [put, get]
    by_cases h : k = k'
    · simp [h]
    · rw [if_neg h, if_neg (Ne.symm h)]
  | cons p l ih =>
    unfold put
    by_cases h1 : p.1 = k
    · rw [if_pos h1]
      unfold get
      by_cases h : k = k'
      · simp [h]
      · rw [if_neg h, if_neg (Ne.symm h), if_neg (by rw [h1]; exact h)]
    · rw [if_neg h1]
      by_cases h2 : slt k p.1 = true
      · rw [if_pos h2]
        conv => lhs; unfold get
        by_cases h : k = k'
        · simp [h]
        · rw [if_neg h, if_neg (Ne.symm h)]
      · rw [if_neg h2]
        unfold get
        rw [ih]
        by_cases h : p.1 = k'
        · rw [if_pos h, if_pos h, if_neg (by rw [← h]; exact h1)]
        · rw [if_neg h, if_neg h]
theorem get_del (l : List Par) (k k' : Str) : get (del l k) k' = if k' = k then none else get l k' := by
  induction l with
  | nil => simp [del, get]
  | cons p l ih =>
    unfold del at ih ⊢
    rw [List.filter_cons]
    by_cases h1 : p.1 = k
    · rw [if_neg (by simp [h1]), ih]
      by_cases h : k' = k
      · rw [if_pos h, if_pos h]
      · rw [if_neg h, if_neg h]
        conv => rhs; unfold get
        rw [if_neg (by rw [h1]; exact Ne.symm h)]
    · rw [if_pos (by simp [h1])]
      unfold get
      rw [ih]
      by_cases h : p.1 = k'
      · rw [if_pos h, if_pos h, if_neg (by rw [← h]; exact h1)]
      · rw [if_neg h, if_neg h]

theorem put_length (l : List Par) (k v : Str) : (put l k v).length ≤ l.length + 1 := by
  induction l with
  | nil => simp [put]
  | cons p l ih =>
    unfold put
    split
    · simp
    · split
      · simp
      · simp only [List.length_cons]; omega
theorem del_length (l : List Par) (k : Str) : (del l k).length ≤ l.length := List.length_filter_le _ _
theorem betw_length (l : List Par) (a b : Str) : (betw l a b).length ≤ l.length := List.length_filter_le _ _
theorem mem_put {l : List Par} {k v : Str} {p : Par} (h : p ∈ put l k v) : p = (k, v) ∨ p ∈ l := by
  induction l with
  | nil => simpa [put] using h
  | cons q l ih =>
    unfold put at h
    split at h
    · rcases List.mem_cons.1 h with h | h
      · exact .inl h
      · exact .inr (List.mem_cons_of_mem _ h)
    · split at h
      · rcases List.mem_cons.1 h with h | h
        · exact .inl h
        · exact .inr h
      · rcases List.mem_cons.1 h with rfl | h
        · exact .inr (by simp)
        · rcases ih h with h | h
          · exact .inl h
          · exact .inr (List.mem_cons_of_mem _ h)
theorem mem_del {l : List Par} {k : Str} {p : Par} (h : p ∈ del l k) : p ∈ l := (List.mem_filter.1 h).1
theorem mem_betw {l : List Par} {a b : Str} {p : Par} (h : p ∈ betw l a b) : p ∈ l := (List.mem_filter.1 h).1
theorem srt_put {l : List Par} (hs : Srt l) (k v : Str) : Srt (put l k v) := by
  induction l with
  | nil => simp [put, Srt]
  | cons p l ih =>
    have h1 := (List.pairwise_cons.1 hs).1
    have h2 := (List.pairwise_cons.1 hs).2
    unfold put
    by_cases e : p.1 = k
    · rw [if_pos e]
      exact List.pairwise_cons.2 ⟨fun q hq => by have := h1 q hq; rwa [e] at this, h2⟩
    · rw [if_neg e]
      by_cases e2 : slt k p.1 = true
      · rw [if_pos e2]
        refine List.pairwise_cons.2 ⟨fun q hq => ?_, hs⟩
        rcases List.mem_cons.1 hq with rfl | hq
        · exact e2
        · exact slt_trans e2 (h1 q hq)
      · rw [if_neg e2]
        refine List.pairwise_cons.2 ⟨fun q hq => ?_, ih h2⟩
        rcases mem_put hq with rfl | hq
        · cases h3 : slt p.1 k with
          | true => rfl
          | false => exact absurd (slt_tri h3 (by simpa using e2)) e
        · exact h1 q hq
theorem srt_del {l : List Par} (hs : Srt l) (k : Str) : Srt (del l k) := hs.sublist List.filter_sublist
theorem srt_betw {l : List Par} (hs : Srt l) (a b : Str) : Srt (betw l a b) := hs.sublist List.filter_sublist

theorem get_none_of_lt {l : List Par} {k : Str} (h : ∀ p ∈ l, slt k p.1 = true) : get l k = none := by
  induction l with
  | nil => rfl
  | cons p l ih =>
    unfold get
    rw [if_neg (fun e => slt_ne (h p (by simp)) e.symm)]
    exact ih fun q hq => h q (by simp [hq])

theorem lb_le (l : List Par) (k : Str) : lb l k ≤ l.length := by
  induction l with
  | nil => simp [lb]
  | cons p l ih =>
    unfold lb
    split
    · simp only [List.length_cons]; omega
    · simp
theorem lb_lt {l : List Par} (k : Str) : ∀ j (h : j < l.length), j < lb l k → slt (l[j]'h).1 k = true := by
  induction l with
  | nil => intro j h; simp at h
  | cons p l ih =>
    intro j h hj
    unfold lb at hj
    split at hj
    · rename_i hp
      cases j with
      | zero => exact hp
      | succ j => exact ih j (by simpa using h) (by omega)
    · omega
theorem lb_ge {l : List Par} (hs : Srt l) (k : Str) : ∀ j (h : j < l.length), lb l k ≤ j → slt (l[j]'h).1 k = false := by
  induction l with
  | nil => intro j h; simp at h
  | cons p l ih =>
    intro j h hj
    have h1 := (List.pairwise_cons.1 hs).1
    have h2 := (List.pairwise_cons.1 hs).2
    unfold lb at hj
    split at hj
    · cases j with
      | zero => omega
      | succ j => exact ih h2 j (by simpa using h) (by omega)
    · rename_i hp
      have hp' : slt p.1 k = false := by simpa using hp
      cases j with
      | zero => exact hp'
      | succ j =>
        have hm := h1 (l[j]'(by simpa using h)) (List.getElem_mem _)
        exact sle_trans hp' (slt_asymm hm)
/-- The place that a search finds. -/
theorem lb_unique {l : List Par} (hs : Srt l) {k : Str} {i : Nat} (hi : i ≤ l.length) (h1 : ∀ j (h : j < l.length), j < i → slt (l[j]'h).1 k = true) (h2 : ∀ j (h : j < l.length), i ≤ j → slt (l[j]'h).1 k = false) : i = lb l k := by
  have hb := lb_le l k
  rcases Nat.lt_trichotomy i (lb l k) with h | h | h
  · have a := h2 i (by omega) (Nat.le_refl _)
    have b := lb_lt k i (by omega) h
    rw [a] at b; cases b
  · exact h
  · have a := h1 (lb l k) (by omega) h
    have b := lb_ge hs k (lb l k) (by omega) (Nat.le_refl _)
    rw [a] at b; cases b

theorem get_some_of_mem {l : List Par} (hs : Srt l) {p : Par} (h : p ∈ l) : get l p.1 = some p.2 := by
  induction l with
  | nil => cases h
  | cons q l ih =>
    have h1 := (List.pairwise_cons.1 hs).1
    have h2 := (List.pairwise_cons.1 hs).2
    unfold get
    rcases List.mem_cons.1 h with rfl | h
    · rw [if_pos rfl]
    · rw [if_neg (slt_ne (h1 p h)), ih h2 h]
theorem mem_of_get {l : List Par} {k v : Str} (h : get l k = some v) : (k, v) ∈ l := by
  induction l with
  | nil => cases h
  | cons q l ih =>
    unfold get at h
    split at h
    · rename_i e
      cases h
      rw [← e]; simp
    · exact List.mem_cons_of_mem _ (ih h)

/-- What the search tells: where, and whether. -/
theorem lb_found {l : List Par} (hs : Srt l) (k : Str) : (∃ h : lb l k < l.length, (l[lb l k]'h).1 = k ∧ get l k = some (l[lb l k]'h).2) ∨ ((∀ h : lb l k < l.length, (l[lb l k]'h).1 ≠ k) ∧ get l k = none) := by
  induction l with
  | nil => exact .inr ⟨fun h => by simp at h, rfl⟩
  | cons p l ih =>
    have h1 := (List.pairwise_cons.1 hs).1
    have h2 := (List.pairwise_cons.1 hs).2
    unfold lb get
    by_cases hp : slt p.1 k = true
    · simp only [hp, if_true]
      rw [if_neg (slt_ne hp)]
      rcases ih h2 with ⟨h, e, g⟩ | ⟨h, g⟩
      · exact .inl ⟨by simpa using h, by simpa using e, by simpa using g⟩
      · exact .inr ⟨fun h' => by simpa using h (by simpa using h'), g⟩
    · simp only [hp, if_false]
      by_cases e : p.1 = k
      · exact .inl ⟨by simp, by simpa using e, by simp [e]⟩
      · refine .inr ⟨fun _ => by simpa using e, ?_⟩
        rw [if_neg e]
        have hp' : slt p.1 k = false := by simpa using hp
        refine get_none_of_lt fun q hq => ?_
        cases h3 : slt k p.1 with
        | true => exact slt_trans h3 (h1 q hq)
        | false => exact absurd (slt_tri hp' h3) e

theorem put_found {l : List Par} (hs : Srt l) {k v : Str} (h : lb l k < l.length) (e : (l[lb l k]'h).1 = k) : put l k v = l.set (lb l k) (k, v) := by
  induction l with
  | nil => simp at h
  | cons p l ih =>
    have h2 := (List.pairwise_cons.1 hs).2
    by_cases hp : slt p.1 k = true
    · have hl : lb (p :: l) k = lb l k + 1 := by conv => lhs; unfold lb; rw [if_pos hp]
      simp only [hl] at h e ⊢
      unfold put
      rw [if_neg (slt_ne hp), if_neg (by rw [slt_asymm hp]; simp), List.set_cons_succ, ih h2 (by simpa using h) (by simpa using e)]
    · have hl : lb (p :: l) k = 0 := by conv => lhs; unfold lb; rw [if_neg hp]
      simp only [hl] at h e ⊢
      unfold put
      rw [if_pos (by simpa using e)]
      rfl
theorem put_new {l : List Par} (hs : Srt l) {k v : Str} (h : ∀ h : lb l k < l.length, (l[lb l k]'h).1 ≠ k) : put l k v = l.take (lb l k) ++ (k, v) :: l.drop (lb l k) := by
  induction l with
  | nil => simp [put, lb]
  | cons p l ih =>
    have h2 := (List.pairwise_cons.1 hs).2
    by_cases hp : slt p.1 k = true
    · have hl : lb (p :: l) k = lb l k + 1 := by conv => lhs; unfold lb; rw [if_pos hp]
      simp only [hl] at h ⊢
      unfold put
      rw [if_neg (slt_ne hp), if_neg (by rw [slt_asymm hp]; simp), ih h2 (fun h' => by simpa using h (by simpa using h'))]
      rfl
    · have hl : lb (p :: l) k = 0 := by conv => lhs; unfold lb; rw [if_neg hp]
      simp only [hl] at h ⊢
      have e : p.1 ≠ k := by simpa using h (by simp)
      unfold put
      rw [if_neg e]
      have hp' : slt p.1 k = false := by simpa using hp
      cases h3 : slt k p.1 with
      | true => simp
      | false => exact absurd (slt_tri hp' h3) e
theorem del_found {l : List Par} (hs : Srt l) {k : Str} (h : lb l k < l.length) (e : (l[lb l k]'h).1 = k) : del l k = l.eraseIdx (lb l k) := by
  induction l with
  | nil => simp at h
  | cons p l ih =>
    have h1 := (List.pairwise_cons.1 hs).1
    have h2 := (List.pairwise_cons.1 hs).2
    by_cases hp : slt p.1 k = true
    · have hl : lb (p :: l) k = lb l k + 1 := by conv => lhs; unfold lb; rw [if_pos hp]
      simp only [hl] at h e ⊢
      rw [List.eraseIdx_cons_succ, ← ih h2 (by simpa using h) (by simpa using e)]
      unfold del
      rw [List.filter_cons, if_pos (by simp [slt_ne hp])]
    · have hl : lb (p :: l) k = 0 := by conv => lhs; unfold lb; rw [if_neg hp]
      simp only [hl] at h e ⊢
      unfold del
      rw [List.filter_cons, if_neg (by simpa using e)]
      rw [List.eraseIdx_cons_zero]
      have e' : p.1 = k := by simpa using e
      exact List.filter_eq_self.2 fun q hq => by have := slt_ne (h1 q hq); rw [e'] at this; simp [Ne.symm this]
theorem del_none {l : List Par} {k : Str} (h : get l k = none) : del l k = l := by
  induction l with
  | nil => rfl
  | cons p l ih =>
    unfold get at h
    split at h
    · cases h
    · rename_i e
      have := ih h
      unfold del at this ⊢
      rw [List.filter_cons, if_pos (by simp [e]), this]
theorem lb_mono {l : List Par} (hs : Srt l) {a b : Str} (h : slt b a = false) : lb l a ≤ lb l b := by
  induction l with
  | nil => simp [lb]
  | cons p l ih =>
    have h2 := (List.pairwise_cons.1 hs).2
    unfold lb
    by_cases hp : slt p.1 a = true
    · rw [if_pos hp, if_pos (slt_of_lt_le hp h)]
      exact Nat.succ_le_succ (ih h2)
    · rw [if_neg hp]; omega
theorem take_lb {l : List Par} (hs : Srt l) (b : Str) : l.take (lb l b) = l.filter fun p => slt p.1 b := by
  induction l with
  | nil => simp [lb]
  | cons p l ih =>
    have h1 := (List.pairwise_cons.1 hs).1
    have h2 := (List.pairwise_cons.1 hs).2
    unfold lb
    by_cases hp : slt p.1 b = true
    · rw [if_pos hp, List.take_succ_cons, ih h2, List.filter_cons, if_pos hp]
    · rw [if_neg hp, List.take_zero, List.filter_cons, if_neg hp]
      have hp' : slt p.1 b = false := by simpa using hp
      exact (List.filter_eq_nil_iff.2 fun q hq => by rw [sle_trans hp' (slt_asymm (h1 q hq))]; simp).symm
theorem drop_lb {l : List Par} (hs : Srt l) (a : Str) : l.drop (lb l a) = l.filter fun p => !slt p.1 a := by
  induction l with
  | nil => simp [lb]
  | cons p l ih =>
    have h1 := (List.pairwise_cons.1 hs).1
    have h2 := (List.pairwise_cons.1 hs).2
    unfold lb
    by_cases hp : slt p.1 a = true
    · rw [if_pos hp, List.drop_succ_cons, ih h2, List.filter_cons, if_neg (by simp [hp])]
    · rw [if_neg hp, List.drop_zero, List.filter_cons, if_pos (by simpa using hp)]
      have hp' : slt p.1 a = false := by simpa using hp
      congr 1
      exact (List.filter_eq_self.2 fun q hq => by rw [sle_trans hp' (slt_asymm (h1 q hq))]; simp).symm
theorem lb_filter {l : List Par} (hs : Srt l) {a b : Str} (h : slt b a = false) : lb (l.filter fun p => slt p.1 b) a = lb l a := by
  induction l with
  | nil => rfl
  | cons p l ih =>
    have h1 := (List.pairwise_cons.1 hs).1
    have h2 := (List.pairwise_cons.1 hs).2
    rw [List.filter_cons]
    by_cases hp : slt p.1 a = true
    · rw [if_pos (slt_of_lt_le hp h)]
      unfold lb
      rw [if_pos hp, if_pos hp, ih h2]
    · have hp' : slt p.1 a = false := by simpa using hp
      have h0 : lb (p :: l) a = 0 := by unfold lb; rw [if_neg hp]
      rw [h0]
      split
      · unfold lb; rw [if_neg hp]
      · have := ih h2
        rw [this]
        cases l with
        | nil => rfl
        | cons q l =>
          unfold lb
          rw [if_neg]
          rw [sle_trans hp' (slt_asymm (h1 q (by simp)))]; simp
theorem betw_eq {l : List Par} (hs : Srt l) {a b : Str} (h : slt b a = false) : (l.take (lb l b)).drop (lb l a) = betw l a b := by
  rw [take_lb hs, ← lb_filter hs h, drop_lb (hs.sublist List.filter_sublist), List.filter_filter]
  rfl
/-- Two lists that rise and answer alike are the same. -/
theorem srt_ext {l m : List Par} (hl : Srt l) (hm : Srt m) (h : ∀ k, get l k = get m k) : l = m := by
  have key : ∀ p, p ∈ l ↔ p ∈ m := fun p => by
    constructor
    · intro hp
      have := get_some_of_mem hl hp
      rw [h] at this
      exact mem_of_get this
    · intro hp
      have := get_some_of_mem hm hp
      rw [← h] at this
      exact mem_of_get this
  clear h
  induction l generalizing m with
  | nil =>
    cases m with
    | nil => rfl
    | cons q m => exact absurd ((key q).2 (by simp)) (by simp)
  | cons p l ih =>
    cases m with
    | nil => exact absurd ((key p).1 (by simp)) (by simp)
    | cons q m =>
      have l1 := (List.pairwise_cons.1 hl).1
      have l2 := (List.pairwise_cons.1 hl).2
      have m1 := (List.pairwise_cons.1 hm).1
      have m2 := (List.pairwise_cons.1 hm).2
      have e : p = q := by
        rcases List.mem_cons.1 ((key p).1 (by simp)) with h | h
        · exact h
        · rcases List.mem_cons.1 ((key q).2 (by simp)) with h' | h'
          · exact h'.symm
          · have a := m1 p h
            have b := l1 q h'
            have := slt_trans a b
            rw [slt_irrefl] at this; cases this
      subst e
      congr 1
      refine ih l2 m2 fun r => ⟨fun hr => ?_, fun hr => ?_⟩
      · rcases List.mem_cons.1 ((key r).1 (by simp [hr])) with rfl | h
        · have := l1 r hr; rw [slt_irrefl] at this; cases this
        · exact h
      · rcases List.mem_cons.1 ((key r).2 (by simp [hr])) with rfl | h
        · have := m1 r hr; rw [slt_irrefl] at this; cases this
        · exact h
end Go.Proofs.YtmkcbkdbdcnoiaaGreatDoor
namespace Go.Proofs.YtmkcbkdbdcnoiaaGreatDoor
open Go.RowKit
set_option linter.unusedVariables false
set_option linter.unusedSimpArgs false

set_option maxHeartbeats 1000000 in
set_option maxRecDepth 100000 in
theorem cmpstr_any (a b : ByteArray) (w : World) : Calls Tryz.prog 237 #[.string a, .string b] w fun e w' => e = .returned (.int .i64 (Lib.compareBytes a.data.toList b.data.toList)) ∧ w' = w := by
  go_enter Tryz.func237, Tryz.ntmps237
  go_wp2
  rw [run_callFunc_extern Tryz.func239 (by kernel_rfl) (by kernel_rfl) (by kernel_rfl) (e := Extern.BytealgCompare.compare) (by kernel_rfl), Lib.run_compareString]
  simp only [Result.andThen]
  rw [Oper.upon_value]
  go_wp2
  go_ret
  exact ⟨rfl, rfl⟩
theorem compare_any (a b : ByteArray) (w : World) : Calls Tryz.prog 234 #[.string a, .string b] w fun e w' => e = .returned (.int .i64 (Lib.compareBytes a.data.toList b.data.toList)) ∧ w' = w := by
  go_enter Tryz.func234, Tryz.ntmps234
  go_wp2_with (go_at_call 237; refine (cmpstr_any _ _ _).mono ?_; rintro e w' ⟨rfl, rfl⟩)
  go_ret
  exact ⟨rfl, rfl⟩

/-- A text's value. -/
def sv (s : Str) : Value := .string ⟨s.toArray⟩
def prv (p : Par) : Value := .agg #[.string ⟨p.1.toArray⟩, .string ⟨p.2.toArray⟩]
def prows (l : List Par) : List Value := cat2 (fun p => .string ⟨p.1.toArray⟩) (fun p => .string ⟨p.2.toArray⟩) l

set_option maxRecDepth 100000 in
theorem at1_any (p : Par) (k : Str) (w : World) : Calls Tryz.prog 233 #[prv p, sv k] w fun e w' => e = .returned (.int .i64 (Lib.compareBytes p.1 k)) ∧ Below w.heap.size w w' := by
  obtain ⟨p, v⟩ := p
  unfold prv sv
  dsimp only
  go_enter Tryz.func233, Tryz.ntmps233
  go_wp2_with (go_at_call 234; refine (compare_any _ _ _).mono ?_; rintro e w' ⟨rfl, rfl⟩)
  go_ret
  exact ⟨rfl, (Below.refl _ w).alloc (Nat.le_refl _) _⟩

set_option maxHeartbeats 1000000 in
set_option maxRecDepth 100000 in
theorem bsearch_any (l : List Par) (n : Nat) (v : Value) (k : Str) (w : World) (hn : l.length = n) (hv : Sees w v n 2 (prows l)) (hl : n ≤ 1000000) (hs : Srt l) :
    Calls Tryz.prog 232 #[v, sv k, .func (.func 233) #[] #[]] w fun e w' => e = .returned (.tuple #[.int .i64 (lb l k : Int), .bool (has l k)]) ∧ Below w.heap.size w w' := by
  obtain ⟨base, cap, rfl⟩ := hv.shape
  have HV := Lib.hid hv
  have HS := Lib.hid (And.intro hs hn)
  clear hv hs hn
  unfold sv
  go_enter Tryz.func232, Tryz.ntmps232
  go_wp2
  go_loopw [9, 10] (fun i j wr => ∃ a b : Nat, a ≤ b ∧ b ≤ n ∧ i = .int .i64 (a : Int) ∧ j = .int .i64 (b : Int) ∧ Hid ((∀ q (h : q < l.length), q < a → slt (l[q]'h).1 k = true) ∧ ∀ q (h : q < l.length), b ≤ q → slt (l[q]'h).1 k = false) ∧ Hid (Below w.heap.size w wr)) (fun i j _ => (intOf j).toNat - (intOf i).toNat)
  case atStart => exact ⟨0, n, Nat.zero_le _, Nat.le_refl _, rfl, rfl, Lib.hid ⟨fun q h h2 => absurd h2 (by omega), fun q h h2 => absurd h (by have := HS.out.2; omega)⟩, Lib.hid (Below.refl _ _)⟩
  case round =>
    obtain ⟨a, b, hab, hbn, rfl, rfl, HQ, HB⟩ := hrel
    by_cases hlt : a < b
    · obtain ⟨m, hm⟩ : ∃ m, (a + b) / 2 = m := ⟨_, rfl⟩
      have hlt' : (a : Int) < (b : Int) := by omega
      have hmz : ((a : Int) + (b : Int)) / 2 = (m : Int) := by omega
      have hmn : m < n := by omega
      have ham : a ≤ m ∧ m < b := by omega
      have hml : m < l.length := by rw [HS.out.2]; exact hmn
      obtain ⟨p, hp⟩ : ∃ p, l[m]'hml = p := ⟨_, rfl⟩
      have hv2 : Sees wr (.slice base n cap) l.length 2 (prows l) := by rw [HS.out.2]; exact HV.out.below HB.out
      obtain ⟨x, cap2, he, h2, h3, h4⟩ := Sees.at2 (f := fun p : Par => .string ⟨p.1.toArray⟩) (g := fun p : Par => .string ⟨p.2.toArray⟩) hv2 m hml
      simp only [Value.slice.injEq] at he
      obtain ⟨rfl, hnn, rfl⟩ := he
      rw [hp] at h2 h3 h4
      have HP := Lib.hid hp
      have hA := at1_any p k wr
      obtain ⟨p1, p2⟩ := p
      unfold prv sv at hA
      dsimp only at hA h2 h3 h4
      have hcs := cmp_cases p1 k
      clear hp hv2 hm hnn
      have HA := Lib.hid hA
      clear hA
      by_cases hc : slt p1 k = true
      · have hneg : Lib.compareBytes p1 k < 0 := by simpa [slt] using hc
        have hd : decide (Lib.compareBytes p1 k < 0) = true := by simpa using hneg
        go_wp2_with fail
        refine HA.out.mono ?_
        rintro e W2 ⟨rfl, hb⟩
        have HB2 := Lib.hid (HB.out.trans (hb.mono HB.out.size))
        clear hb h2 h3 h4
        go_wp2
        refine ⟨⟨m + 1, b, by omega, hbn, by push_cast; rfl, rfl, Lib.hid ⟨fun q h h2 => ?_, HQ.out.2⟩, HB2⟩, by simp [intOf]; omega⟩
        by_cases hq : q = m
        · subst hq; rw [HP.out]; exact hc
        · have h5 : slt (l[m]'hml).1 k = true := by rw [HP.out]; exact hc
          have h6 := List.pairwise_iff_getElem.1 HS.out.1 q m h hml (by omega)
          exact slt_trans h6 h5
      · have hc' : slt p1 k = false := by simpa using hc
        have hneg : ¬ Lib.compareBytes p1 k < 0 := by simpa [slt] using hc
        have hd : decide (Lib.compareBytes p1 k < 0) = false := by simpa using hneg
        go_wp2_with fail
        refine HA.out.mono ?_
        rintro e W2 ⟨rfl, hb⟩
        have HB2 := Lib.hid (HB.out.trans (hb.mono HB.out.size))
        clear hb h2 h3 h4
        go_wp2
        refine ⟨⟨a, m, by omega, by omega, rfl, rfl, Lib.hid ⟨HQ.out.1, fun q h h2 => ?_⟩, HB2⟩, by simp [intOf]; omega⟩
        by_cases hq : q = m
        · subst hq; rw [HP.out]; exact hc'
        · have h6 := List.pairwise_iff_getElem.1 HS.out.1 m q hml h (by omega)
          rw [HP.out] at h6
          rcases hqq : slt (l[q]'h).1 k with _ | _
          · rfl
          · rw [slt_trans h6 hqq] at hc'; cases hc'
    · obtain rfl : a = b := by omega
      have hab : a = lb l k := lb_unique HS.out.1 (by rw [HS.out.2]; exact hbn) HQ.out.1 HQ.out.2
      have hlf := lb_found HS.out.1 k
      rw [← hab] at hlf
      by_cases hla : a < n
      · have hlt' : (a : Int) < (n : Int) := by omega
        have hal : a < l.length := by rw [HS.out.2]; exact hla
        obtain ⟨p, hp⟩ : ∃ p, l[a]'hal = p := ⟨_, rfl⟩
        have hv2 : Sees wr (.slice base n cap) l.length 2 (prows l) := by rw [HS.out.2]; exact HV.out.below HB.out
        obtain ⟨x, cap2, he, h2, h3, h4⟩ := Sees.at2 (f := fun p : Par => .string ⟨p.1.toArray⟩) (g := fun p : Par => .string ⟨p.2.toArray⟩) hv2 a hal
        simp only [Value.slice.injEq] at he
        obtain ⟨rfl, hnn, rfl⟩ := he
        rw [hp] at h2 h3 h4
        have hA := at1_any p k wr
        have hcz : (Lib.compareBytes p.1 k == 0) = has l k := by
          unfold has
          rcases hlf with ⟨_, e1, e2⟩ | ⟨e1, e2⟩
          · rw [e2]
            rw [hp] at e1
            rw [e1, cmp_self]; rfl
          · rw [e2]
            have := e1 hal
            rw [hp] at this
            simp only [Option.isSome_none, beq_eq_false_iff_ne, ne_eq]
            intro h
            exact this (cmp_zero _ _ h)
        obtain ⟨p1, p2⟩ := p
        unfold prv sv at hA
        dsimp only at hA h2 h3 h4 hcz
        have HA := Lib.hid (And.intro hA (And.intro hcz hab))
        clear hA hp hv2 hnn hcz hlf hab
        go_wp2_with fail
        refine HA.out.1.mono ?_
        rintro e W2 ⟨rfl, hb⟩
        have HB2 := Lib.hid (HB.out.trans (hb.mono HB.out.size))
        clear hb h2 h3 h4
        go_wp2
        go_ret2
        exact ⟨by rw [← HA.out.2.1, ← HA.out.2.2]; rfl, HB2.out⟩
      · have hlt' : ¬ (a : Int) < (n : Int) := by omega
        have hh : has l k = false := by
          unfold has
          rcases hlf with ⟨h, _⟩ | ⟨_, e2⟩
          · rw [HS.out.2] at h; omega
          · rw [e2]; rfl
        have HA := Lib.hid (And.intro hh hab)
        clear hlf hab hh
        go_wp2
        go_ret2
        exact ⟨by rw [HA.out.1, ← HA.out.2]; rfl, HB.out⟩

/-- The list's variable and what it holds. -/
def Lst (B pl : Nat) (l : List Par) (W : World) : Prop :=
  ∃ v, W.heap[pl]? = some (.cells #[v] 48 (0, 0)) ∧ W.ownsRow B 44 2 v l.length (prows l)
theorem Lst.below {B pl : Nat} {l : List Par} {W W' : World} (h : Lst B pl l W) (hb : Below W.heap.size W W') : Lst B pl l W' := by
  obtain ⟨v, h1, h2⟩ := h
  exact ⟨v, keep_b h1 hb, own_below h2 hb⟩

set_option maxHeartbeats 1000000 in
set_option maxRecDepth 100000 in
theorem lat_any (B pl : Nat) (l : List Par) (k : Str) (w : World) (hL : Lst B pl l w) (hl : l.length ≤ 1000000) (hs : Srt l) :
    Calls Tryz.prog 229 #[.pointer (some ⟨pl, 0, none⟩), sv k] w fun e w' => e = .returned (.tuple #[.int .i64 (lb l k : Int), .bool (has l k)]) ∧ Below w.heap.size w w' := by
  obtain ⟨v, h1, h2⟩ := hL
  have hB := bsearch_any l l.length v k w rfl (Sees.of_own h2) hl hs
  obtain ⟨base, cap, rfl⟩ := (Sees.of_own h2).shape
  have c0 : w.cell? ⟨pl, 0, none⟩ = some (.slice base l.length cap) := blk_cell h1 0
  unfold sv at hB ⊢
  have HB := Lib.hid hB
  clear hB h1 h2 hs
  go_enter Tryz.func229, Tryz.ntmps229
  go_wp2_with fail
  refine HB.out.mono ?_
  rintro e W2 ⟨rfl, hb⟩
  have HB2 := Lib.hid hb
  clear hb c0
  go_wp2
  go_ret2
  exact ⟨rfl, HB2.out⟩

set_option maxHeartbeats 1000000 in
set_option maxRecDepth 100000 in
theorem lget_any (B pl : Nat) (l : List Par) (k : Str) (w : World) (hL : Lst B pl l w) (hl : l.length ≤ 1000000) (hs : Srt l) :
    Calls Tryz.prog 227 #[.pointer (some ⟨pl, 0, none⟩), sv k] w fun e w' => e = .returned (.tuple #[sv ((get l k).getD []), .bool (has l k)]) ∧ Below w.heap.size w w' := by
  have hA := lat_any B pl l k w hL hl hs
  have hf := lb_found hs k
  obtain ⟨v, h1, h2⟩ := hL
  have hv := Sees.of_own h2
  obtain ⟨base, cap, rfl⟩ := hv.shape
  obtain ⟨i, hi⟩ : ∃ i, lb l k = i := ⟨_, rfl⟩
  rw [hi] at hA hf
  unfold sv at hA ⊢
  have HV := Lib.hid (And.intro h1 h2)
  have HA := Lib.hid hA
  clear hA h1 h2
  rcases hf with ⟨hil, e1, e2⟩ | ⟨_, e2⟩
  · have hh : has l k = true := by unfold has; rw [e2]; rfl
    rw [hh] at HA
    rw [hh, e2]
    obtain ⟨p, hp⟩ : ∃ p, l[i]'hil = p := ⟨_, rfl⟩
    have HP := Lib.hid hp
    rw [hp]
    clear hi e1 e2 hh hp hv
    go_enter Tryz.func227, Tryz.ntmps227
    go_wp2_with fail
    refine HA.out.mono ?_
    rintro e W2 ⟨rfl, hb⟩
    have HB2 := Lib.hid hb
    have c0 : W2.cell? ⟨pl, 0, none⟩ = some (.slice base l.length cap) := blk_cell (keep_b HV.out.1 hb) 0
    obtain ⟨x, cap2, he, h2, h3, h4⟩ := Sees.at2 (f := fun p : Par => .string ⟨p.1.toArray⟩) (g := fun p : Par => .string ⟨p.2.toArray⟩) ((Sees.of_own HV.out.2).below hb) i hil
    simp only [Value.slice.injEq, true_and] at he
    obtain ⟨rfl, rfl⟩ := he
    rw [HP.out] at h2 h3 h4
    obtain ⟨p1, p2⟩ := p
    dsimp only at h2 h3 h4 ⊢
    have hil' : (i : Int) < (l.length : Int) := by omega
    clear hb
    go_wp2
    go_ret2
    exact ⟨rfl, HB2.out⟩
  · have hh : has l k = false := by unfold has; rw [e2]; rfl
    rw [hh] at HA
    rw [hh, e2]
    clear hi e2 hh hv
    go_enter Tryz.func227, Tryz.ntmps227
    go_wp2_with fail
    refine HA.out.mono ?_
    rintro e W2 ⟨rfl, hb⟩
    have HB2 := Lib.hid hb
    clear hb
    go_wp2
    go_ret2
    exact ⟨rfl, HB2.out⟩
end Go.Proofs.YtmkcbkdbdcnoiaaGreatDoor
