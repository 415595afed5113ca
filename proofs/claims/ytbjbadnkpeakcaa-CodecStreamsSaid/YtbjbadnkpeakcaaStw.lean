/- CodecStreams' walk. -/
import Derived.Test.YtbjbadnkpeakcaaSpp
import Derived.Test.YtbjbadnkpeakcaaStr
import Derived.Test.YtbjbadnkpeakcaaTw
import Derived.Laws.AppendOwnNone
namespace Go.Proofs.Ytbjbadnkpeakcaa
open Go.RowKit
set_option linter.unusedVariables false
set_option linter.unusedSimpArgs false

theorem own_base {w : World} {base : Nat} {e : TypeId} {size : Nat} {v : Value} {n : Nat} {xs : List Value} (h : w.ownsRow base e size v n xs) (g : Nat) (hg : v.ownBlock = some g) : base ≤ g := by
  rcases h.2 with ⟨rfl, _⟩ | ⟨g', cap, cur, rfl, hb, _⟩
  · simp [Value.ownBlock] at hg
  · simp [Value.ownBlock] at hg; omega

theorem append_row {ops : Array Oper} {rest : List Oper} {o : Oper} {a : Act} {Q : Exit → Act → World → Prop} {w : World} (hgd : o.guard = none) (s x : Operand)
    (ho : o.op = .call { callee := .builtin .append, args := #[s, x], argTypes := #[43, 43] }) (base : Nat) (v : Value) (n : Nat) (xs : List Value) (hs : a.eval s = v) (hown : w.ownsRow base 9 1 v n xs)
    (v2 : Value) (l2 : List ByteArray) (hx : a.eval x = v2) (B2 : Nat) (h2 : w.ownsRow B2 9 1 v2 l2.length (txt l2)) (hn : n ≤ 5000) (hl : l2.length ≤ 5000) (hbase : base ≤ w.heap.size)
    (h : ∀ v' w', w'.ownsRow base 9 1 v' (n + l2.length) (xs ++ txt l2) → (∀ B a, Below B a w → B ≤ base → Below B a w') → wpList Try.prog ops Q rest (a.put o.dst v') w') : wpList Try.prog ops Q (o :: rest) a w := by
  obtain ⟨i0, hi, hi0, hi1, hi2⟩ := info_parts infoString
  have h0 := h2
  have hone : ∀ u ∈ txt l2, u.oneCell' = true := by
    intro u hu
    obtain ⟨y, _, rfl⟩ := List.mem_map.1 hu
    rfl
  rcases h2.2 with ⟨rfl, hl0⟩ | ⟨g, cap, cur, rfl, hg, _⟩
  · obtain rfl : l2 = [] := List.eq_nil_of_length_eq_zero hl0
    exact wpList_append_own_none hgd s x 43 ho base 9 i0 1 Try.underlying43 hi v n xs hs hown hx (h v w (by simpa [txt] using hown) (fun B a hB _ => hB))
  · refine wpList_append_own _ hgd s x 43 ho base 9 i0 (.string ⟨#[]⟩) 1 16 Try.underlying43 hi hi0 hi1 hi2 rfl (by decide) v n xs hs hown ⟨g, 0, none⟩ l2.length cap (txt l2) hx (by rw [txt_length]; omega) (fun j u hu => h0.cells (g := g) rfl j u hu) hone (by unfold maxLen; omega) (by omega) hbase (fun v' w' h1 h2 _ => h v' w' h1 (fun B a hB hle => hB.grown h2 (Nat.le_trans hle hbase) (fun g hg => Nat.le_trans hle (own_base hown g hg))))

theorem cat_le (l : List ByteArray) : (∀ x ∈ l, x.size ≤ 100) → (cat l).size ≤ l.length * 102 := by
  induction l with
  | nil => intro _; rw [cat_none]; simp
  | cons x l ih =>
    intro hg
    rw [cat_size_cons, List.length_cons]
    have := hg x (by simp)
    have := ih (fun y hy => hg y (by simp [hy]))
    omega

theorem own_below {w w' : World} {base : Nat} {e : TypeId} {size : Nat} {v : Value} {n : Nat} {xs : List Value} (h : w.ownsRow base e size v n xs) (hb : Below w.heap.size w w') : w'.ownsRow base e size v n xs :=
  ⟨h.1, h.2.imp id fun ⟨g, cap, cur, hv, hg, hh, rest⟩ => ⟨g, cap, cur, hv, hg, keep_b hh hb, rest⟩⟩

/-- The cells of 'make([]string, 0, 40)'. -/
def sc : Array Value := madeCells #[.string ⟨#[]⟩] 40
theorem sc_size : sc.size = 40 := by unfold sc; rw [size_madeCells]

theorem make_forty : ∀ W : World, (Instr.makeSlice 43 (.int .i64 0) (.int .i64 40)).run Try.prog W = .ok (.slice (some ⟨W.heap.size, 0, none⟩) 0 40) (W.alloc (.cells sc 9)) := by
  intro W
  obtain ⟨i0, hi, hi0, hi1, hi2⟩ := info_parts infoString
  have hr := run_make (P := Try.prog) W 43 9 i0 (.string ⟨#[]⟩) Try.underlying43 hi hi0 .i64 .i64 0 40 (by omega) (by omega) (by rw [hi2]; omega) (by omega)
  rw [hi1] at hr
  exact hr

theorem forty_own (W : World) : (W.alloc (.cells sc 9)).ownsRow W.heap.size 9 1 (.slice (some ⟨W.heap.size, 0, none⟩) 0 40) 0 [] :=
  ⟨rfl, .inr ⟨_, 40, sc, rfl, Nat.le_refl _, heap_alloc_new W _, by omega, by unfold maxLen; omega, by rw [sc_size], by simp⟩⟩

theorem all_row {ws l1 l2 : List ByteArray} (h : ws = l1 ++ l2) {w : World} {B : Nat} {v : Value} (ho : w.ownsRow B 9 1 v ws.length (txt l1 ++ txt l2)) : TextRow w v ws := by
  subst h
  apply TextRow.of_own (B := B)
  rw [show txt l1 ++ txt l2 = txt (l1 ++ l2) by simp [txt]] at ho
  exact ho

set_option maxHeartbeats 4000000 in
set_option maxRecDepth 100000 in
theorem streams_walk (b : Option Addr) (len cap : Nat) (at' : Int) (w : World) (hm : len ≤ maxLen) (hat : -9223372036854775808 ≤ at' ∧ at' ≤ 9223372036854775807)
    (HL : Hid (∀ i, i < len → ∃ a x, b = some a ∧ w.cell? (a.add i) = some (.string x) ∧ x.size ≤ maxLen ∧ a.block < w.heap.size)) :
    Calls Try.prog 8 #[.slice b len cap, .int .i64 at'] w fun r w' => r = .returned (.bool true) ∧ Below w.heap.size w w' := by
  unfold maxLen at hm
  go_enter Try.func8, Try.ntmps8
  go_wp2_with fail
  refine (shown_any _).mono ?_
  rintro r W1 ⟨rfl, hb⟩
  have H1 := Lib.hid hb
  clear hb
  go_wp2
  go_loopw [6, 7, 8, 9, 10, 11] (fun v c i _ _ _ wr => ∃ (ws : List ByteArray) (j : Nat), i = .int .i64 (j : Int) ∧ j ≤ len ∧ j ≤ 20 ∧ ws.length ≤ j ∧ (cat ws).size ≤ ws.length * 102 ∧ Hid (∀ x ∈ ws, 1 ≤ x.size ∧ x.size ≤ 100) ∧ c = .string (cat ws) ∧ Hid (wr.ownsRow w.heap.size 9 1 v ws.length (txt ws) ∧ Below w.heap.size w wr)) (fun _ _ i _ _ _ _ => 20 - (intOf i).toNat)
  case atStart => exact ⟨[], 0, rfl, Nat.zero_le _, by omega, by simp, by rw [cat_none]; simp, Lib.hid (by simp), rfl, Lib.hid ⟨⟨by simp [txt], .inl ⟨rfl, rfl⟩⟩, H1.out⟩⟩
  case round =>
    obtain ⟨ws, j, rfl, hj, hj2, hws, hcs, HG, rfl, HK⟩ := hrel
    by_cases hlt : j < len ∧ j < 20
    · obtain ⟨a, x, rfl, hc, hx, hab⟩ := HL.out j hlt.1
      have c0 : wr.cell? (a.add j) = some (.string x) := (HK.out.2.cell (p := a.add j) (by unfold Addr.add; split <;> exact hab)).trans hc
      have hl1 : (j : Int) < (len : Int) := by have := hlt.1; omega
      have hl2 : (j : Int) < 20 := by have := hlt.2; omega
      have hx' := hx
      unfold maxLen at hx'
      obtain ⟨k, hk⟩ : ∃ k, min x.size 120 = k := ⟨_, rfl⟩
      have hmin : min (x.size : Int) 120 = (k : Int) := by omega
      have hk1 : k ≤ x.size := by omega
      have hk2 : (k : Int) ≤ (x.size : Int) := by omega
      obtain ⟨y, hy⟩ : ∃ y, x.extract 0 k = y := ⟨_, rfl⟩
      have zy : y.size ≤ 120 := by rw [← hy, ByteArray.size_extract]; omega
      clear hk
      go_wp2
      go_quiet (fail)
      obtain ⟨wq, hwq⟩ : ∃ wq, wr.drewN nq = wq := ⟨_, rfl⟩
      have HK' : Hid ((wr.drewN nq).ownsRow w.heap.size 9 1 _ ws.length (txt ws) ∧ Below w.heap.size w (wr.drewN nq)) := Lib.hid ⟨HK.out.1, HK.out.2.trans ((below_drewN wr nq).mono HK.out.2.size)⟩
      rw [hwq] at HK' ⊢
      clear hwq HK
      have HK := HK'
      clear HK' c0
      obtain ⟨S, hS⟩ : ∃ S, cat ws = S := ⟨_, rfl⟩
      have HS := Lib.hid hS
      rw [hS] at hcs ⊢
      clear hS
      by_cases hgood : 1 ≤ y.size ∧ y.size ≤ 100
      · have hfo := Lib.hid (fun w => frame_ok y w hgood.1 hgood.2)
        obtain ⟨F, hF⟩ : ∃ F, (⟨(be y.size 2).toArray⟩ ++ y : ByteArray) = F := ⟨_, rfl⟩
        have zF : F.size = 2 + y.size := by rw [← hF]; exact fr_size y
        have HFF := Lib.hid hF
        rw [hF] at hfo
        clear hF
        have n1 : ¬ 9223372036854775807 < S.size + F.size := by omega
        go_wp2_with fail
        refine (hfo.out _).mono ?_
        rintro r W2 ⟨rfl, hb2⟩
        have HK2 := Lib.hid (And.intro (own_below HK.out.1 hb2) (HK.out.2.trans (hb2.mono HK.out.2.size)))
        clear hb2 HK
        obtain ⟨i0, hi, hi0, hi1, hi2⟩ := info_parts infoString
        go_wp2_with (at_builtin; refine wpList_append_own _ rfl _ _ 43 rfl w.heap.size 9 i0 (.string ⟨#[]⟩) 1 16 Try.underlying43 hi hi0 hi1 hi2 rfl (by decide) _ _ _ rfl (HK2.out.1.alloc _) ⟨W2.heap.size, 0, none⟩ 1 1 [.string y] rfl rfl (cell_one_new _ _ _) (by simp [Value.oneCell']) ?b1 ?b2 ?b3 ?_)
        case b1 => unfold maxLen; omega
        case b2 => omega
        case b3 => have := HK2.out.2.size; simp; omega
        intro v' w1 hown hgrow _
        have HO := Lib.hid (And.intro hown hgrow)
        clear hown hgrow
        go_wp2
        go_roundw
        case rel =>
          refine ⟨ws ++ [y], j + 1, by go_num, by omega, by omega, by simp; omega, ?_, Lib.hid ?_, ?_, Lib.hid ⟨by simpa [txt] using HO.out.1, ?_⟩⟩
          · rw [cat_snoc, ByteArray.size_append, HS.out, fr_size]; simp; omega
          · intro z hz
            rcases List.mem_append.1 hz with h | h
            · exact HG.out z h
            · rw [List.mem_singleton.1 h]; exact hgood
          · rw [cat_snoc, HS.out]; exact congrArg (fun q => Value.string (S ++ q)) HFF.out.symm
          · exact (HK2.out.2.alloc HK2.out.2.size _).grown HO.out.2 (by have := HK2.out.2.size; simp; omega) (fun g hg => by
              rcases HK2.out.1.2 with ⟨rfl, _⟩ | ⟨g', cap, cur', rfl, hb, _⟩
              · simp [Value.ownBlock] at hg
              · simp [Value.ownBlock] at hg; omega)
        case measure => simp [intOf]; omega
      · have hfo := Lib.hid (fun w => frame_bad y w (by omega) (by unfold maxLen; omega))
        go_wp2_with fail
        refine (hfo.out _).mono ?_
        rintro r W2 ⟨rfl, hb2⟩
        have HK2 := Lib.hid (And.intro (own_below HK.out.1 hb2) (HK.out.2.trans (hb2.mono HK.out.2.size)))
        clear hb2 HK
        go_wp2
        go_roundw
        case rel => exact ⟨ws, j + 1, by go_num, by omega, by omega, by omega, by rw [HS.out]; exact hcs, HG, by rw [HS.out], HK2⟩
        case measure => simp [intOf]; omega
    · obtain ⟨S, hS⟩ : ∃ S, cat ws = S := ⟨_, rfl⟩
      have HS := Lib.hid hS
      rw [hS] at hcs ⊢
      clear hS
      have hex : ((j : Int) < (len : Int)) = False ∨ ((j : Int) < (len : Int)) = True ∧ ((j : Int) < 20) = False := by
        by_cases h : j < len
        · right; constructor <;> simp <;> omega
        · left; simp; omega
      by_cases hneg : at' < 0 ∨ (S.size : Int) < at'
      · have h1 : decide (at' < 0) = true ∨ decide (at' < 0) = false ∧ decide ((S.size : Int) < at') = true := by
          by_cases h : at' < 0
          · left; simpa using h
          · right; constructor <;> simp <;> omega
        rcases hex with hE | ⟨hE, hE2⟩ <;> rcases h1 with hA | ⟨hA, hA2⟩ <;>
          (clear hj hj2 hneg hlt
           go_wp2
           go_ret
           exact ⟨rfl, HK.out.2⟩)
      · obtain ⟨k, rfl⟩ := Int.eq_ofNat_of_zero_le (by omega : 0 ≤ at')
        have hA : decide ((k : Int) < 0) = false := by simp
        have hA2 : decide ((S.size : Int) < (k : Int)) = false := by simp; omega
        have hks : k ≤ S.size := by omega
        obtain ⟨l1, l2, r, hl12, hs1, hr2⟩ := splits_cut ws HG.out k (by rw [HS.out]; exact hks)
        have hs2 := splits_cat l2 (fun x hx => HG.out x (by rw [hl12]; exact List.mem_append_right _ hx))
        have zc := cat_le l2 (fun x hx => (HG.out x (by rw [hl12]; exact List.mem_append_right _ hx)).2)
        have hlen : l1.length + l2.length = ws.length := by rw [hl12, List.length_append]
        rw [HS.out] at hs1 hr2
        obtain ⟨P1, hP1⟩ : ∃ P1, S.extract 0 k = P1 := ⟨_, rfl⟩
        obtain ⟨P2, hP2⟩ : ∃ P2, S.extract k S.size = P2 := ⟨_, rfl⟩
        have z1 : P1.size ≤ 5000 := by rw [← hP1, ByteArray.size_extract]; omega
        rw [hP1] at hs1
        rw [hP2] at hr2
        obtain ⟨C2, hC2⟩ : ∃ C2, cat l2 = C2 := ⟨_, rfl⟩
        rw [hC2] at hr2 hs2 zc
        have z2 : r.size + P2.size = C2.size := by rw [← hr2, ByteArray.size_append]
        have n1 : ¬ 9223372036854775807 < r.size + P2.size := by omega
        have S1 := Lib.hid (fun w => split_any P1 l1 r 0 z1 hs1 w)
        have S2 := Lib.hid (fun w => split_any C2 l2 ⟨#[]⟩ 0 (by omega) hs2 w)
        have HW := Lib.hid hl12
        clear hs1 hs2 hl12 hC2
        rcases hex with hE | ⟨hE, hE2⟩
        all_goals (
          clear hneg hlt
          go_wp2_with fail
          refine (S1.out _).mono ?_
          rintro x W4 ⟨v1, rfl, ho1, hb4⟩
          have H4 := Lib.hid (And.intro (HK.out.2.trans (hb4.mono HK.out.2.size)) (And.intro ho1 (own_below HK.out.1 hb4)))
          clear hb4 ho1
          go_wp2_with fail
          refine (S2.out _).mono ?_
          rintro x W5 ⟨v2, rfl, ho2, hb5⟩
          have H5 := Lib.hid (And.intro (H4.out.1.trans (hb5.mono H4.out.1.size)) (And.intro (own_below H4.out.2.1 hb5) (And.intro (own_below H4.out.2.2 hb5) ho2)))
          clear hb5 ho2 H4
          have hm40 := make_forty
          have hW : w.heap.size ≤ W5.heap.size := H5.out.1.size
          have HB5 : Hid (Below W5.heap.size W5 (W5.alloc (.cells sc 9))) := Lib.hid ((Below.refl _ W5).alloc (Nat.le_refl _) _)
          have HM := Lib.hid (forty_own W5)
          have HT1 := Lib.hid (own_below H5.out.2.1 HB5.out)
          go_wp2_with (at_builtin; refine append_row rfl _ _ rfl W5.heap.size _ 0 [] rfl HM.out v1 l1 rfl _ HT1.out (by omega) (by omega) (by simp) ?_)
          intro v7 W7 ho7 hg7
          have HB7 := Lib.hid (hg7 _ _ HB5.out (Nat.le_refl _))
          have HO7 := Lib.hid ho7
          have HT2 := Lib.hid (own_below H5.out.2.2.2 HB7.out)
          clear ho7 hg7 HM HT1 hm40 HB5
          go_wp2_with (at_builtin; refine append_row rfl _ _ rfl W5.heap.size v7 _ _ rfl HO7.out v2 l2 rfl _ HT2.out (by omega) (by omega) HB7.out.size ?_)
          intro v8 W8 ho8 hg8
          have HB8 := Lib.hid (hg8 _ _ HB7.out (Nat.le_refl _))
          have HO8 := Lib.hid (all_row HW.out ho8)
          have HO9 := Lib.hid (TextRow.of_own (own_below H5.out.2.2.1 HB8.out))
          clear ho8 hg8 HO7 HT2 HB7
          go_wp2_with (go_at_call 23; refine (texts_same v8 _ ws _ HO8.out HO9.out (by omega)).mono ?_; rintro x W9 ⟨rfl, hb9⟩)
          go_ret
          exact ⟨rfl, (H5.out.1.trans (HB8.out.mono hW)).trans (hb9.mono (Nat.le_trans hW HB8.out.size))⟩)
end Go.Proofs.Ytbjbadnkpeakcaa
