/- The pure statement of AllocChunks. -/
import Derived.Test.YtnbmpcdomdaimaaPua
import Derived.Test.YtnbmpcdomdaimaaPAx11
namespace Go.Proofs.YtnbmpcdomdaimaaQ.PA
open Go.RowKit Go.Proofs.YtnbmpcdomdaimaaW.PrintWords Go.Proofs.YtnbmpcdomdaimaaW.PrintLast Go.Proofs.YtnbmpcdomdaimaaW.PrintMore
open Go.Proofs.Ytnbmpcdomdaimaa (Sp be be_length num num_lt num_be be_num be_num' num_take_succ num_lt8 num_take_lt)
set_option linter.unusedVariables false
set_option linter.unusedSimpArgs false

theorem ev_get0 (s : ByteArray) (hs : s.size ≤ 8) : ∀ (d i : Nat), i + d = s.size → Ev (fun k => bazaarref03_Get.l0 k s (num (s.data.toList.take i) : Int) (i : Int)) (num s.data.toList : Int) := by
  intro d
  induction d with
  | zero =>
    intro i h
    refine Ev.step (f := fun _ => some _) (fun k => ?_) (Ev.now _)
    simp only [bazaarref03_Get.l0]
    rw [if_neg (by omega), List.take_of_length_le (by rw [data_length]; omega)]
  | succ d ih =>
    intro i h
    have hl : i < s.data.toList.length := by rw [data_length]; omega
    refine Ev.step (fun k => ?_) (ih (i + 1) (by omega))
    have hlt := num_lt (s.data.toList.take i)
    have hlen : (s.data.toList.take i).length ≤ 7 := by rw [List.length_take]; omega
    have h7 : 256 ^ (s.data.toList.take i).length ≤ 256 ^ 7 := Nat.pow_le_pow_right (by omega) hlen
    have h77 : (256 : Nat) ^ 7 = 72057594037927936 := by decide
    have hb := (s.data.toList[i]'hl).toNat_lt
    simp only [bazaarref03_Get.l0]
    rw [if_pos (by omega), if_pos (by omega), bt_list s i hl, num_take_succ _ _ hl, show wrap64 ((i : Int) + 1) = ((i + 1 : Nat) : Int) by unfold wrap64; omega]
    congr 1
    rw [u64_small (by omega) (by omega), u64_small (by omega) (by omega)]
    exact or8 _ _ (by omega) hb

theorem ev_get (s : ByteArray) (hs : s.size ≤ 8) : Ev (fun k => bazaarref03_Get.f k s) (num s.data.toList : Int) := by
  unfold bazaarref03_Get.f
  exact ev_get0 s hs s.size 0 (by omega)

theorem ev_rparse0 (s : ByteArray) (N : Nat) (hN : N ≤ 19) (hs : s.size = 5 + 12 * N) : ∀ (n j : Nat) (xs : List S44), j + n = N → xs.length ≤ j →
    Ev (fun k => bazaarref05_Parse.l0 k s xs ((5 + 12 * j : Nat) : Int)) ((num (s.data.toList.take 4) : Int), xs ++ ofSp (parseL n (s.data.toList.drop (5 + 12 * j))), 0) := by
  have h4 : (s.extract 0 4).data.toList = s.data.toList.take 4 := by rw [ext_list]; rfl
  intro n
  induction n with
  | zero =>
    intro j xs hj hx
    have h := ev_get (s.extract 0 4) (by rw [ext_size _ _ _ (by omega)]; omega)
    rw [h4] at h
    refine Ev.step (f := fun k => (bazaarref03_Get.f k (s.extract 0 4)).bind fun t => some (t % 4294967296, xs, 0)) (fun k => ?_) (Ev.bind h ?_)
    · simp only [bazaarref05_Parse.l0]
      rw [if_neg (by omega), if_pos (by omega), if_pos (by omega)]
    · rw [show (num (s.data.toList.take 4) : Int) % 4294967296 = (num (s.data.toList.take 4) : Int) by have := num4_lt s.data.toList; omega]
      simp only [parseL, ofSp, List.map_nil, List.append_nil]
      exact Ev.now _
  | succ n ih =>
    intro j xs hj hx
    obtain ⟨i, hi⟩ : ∃ i, 5 + 12 * j = i := ⟨_, rfl⟩
    rw [hi]
    have e4 : (s.extract i (i + 4)).data.toList = (s.data.toList.drop i).take 4 := by rw [ext_list, show i + 4 - i = 4 by omega]
    have e8 : (s.extract (i + 4) (i + 12)).data.toList = ((s.data.toList.drop i).drop 4).take 8 := by rw [ext_list, show i + 12 - (i + 4) = 8 by omega, List.drop_drop]
    have g4 := ev_get (s.extract i (i + 4)) (by rw [ext_size _ _ _ (by omega)]; omega)
    have g8 := ev_get (s.extract (i + 4) (i + 12)) (by rw [ext_size _ _ _ (by omega)]; omega)
    rw [e4] at g4
    rw [e8] at g8
    obtain ⟨r, hr⟩ : ∃ r, s.data.toList.drop i = r := ⟨_, rfl⟩
    have hnext := ih (j + 1) (xs ++ [⟨(num (r.take 4) : Int), (num ((r.drop 4).take 8) : Int)⟩]) (by omega) (by simp; omega)
    rw [show 5 + 12 * (j + 1) = i + 12 by omega, ← List.drop_drop, hr] at hnext
    rw [hr] at g4 g8 ⊢
    have e : xs ++ ofSp (parseL (n + 1) r) = (xs ++ [⟨(num (r.take 4) : Int), (num ((r.drop 4).take 8) : Int)⟩]) ++ ofSp (parseL n (r.drop 12)) := by
      simp [parseL, ofSp]
    rw [e]
    have w4 : wrap64 ((i : Int) + 4) = ((i + 4 : Nat) : Int) := by unfold wrap64; omega
    have w12 : wrap64 ((i : Int) + 12) = ((i + 12 : Nat) : Int) := by unfold wrap64; omega
    refine Ev.step (f := fun k => (bazaarref03_Get.f k (s.extract i (i + 4))).bind fun t => (bazaarref03_Get.f k (s.extract (i + 4) (i + 12))).bind fun u => bazaarref05_Parse.l0 k s (xs ++ [⟨t % 4294967296, u⟩]) ((i + 12 : Nat) : Int)) (fun k => ?_) (Ev.bind g4 (Ev.bind g8 ?_))
    · simp only [bazaarref05_Parse.l0]
      rw [w4, w12, if_pos (by omega), if_pos (by omega), if_pos (by omega), if_pos (by omega)]
      simp only [Int.toNat_natCast]
      congr 1
      funext t
      rw [if_pos (by omega), if_pos (by omega), if_pos (by omega)]
      congr 1
      funext u
      rw [if_pos (by omega)]
    · rw [show (num (r.take 4) : Int) % 4294967296 = (num (r.take 4) : Int) by have := num4_lt r; omega]
      exact hnext

theorem ev_rparse_bad (s : ByteArray) (h : ¬ isChunk s.data.toList) : Ev (fun k => bazaarref05_Parse.f k s) (0, [], 50) := by
  have hj : Ev (fun k => bazaarref05_Parse.j0 k s true) (0, [], 50) := Ev.step (f := fun _ => some (0, [], 50)) (fun k => by simp only [bazaarref05_Parse.j0, if_true]) (Ev.now _)
  unfold bazaarref05_Parse.f
  by_cases h5 : (s.size : Int) < 5
  · simp only [if_pos h5]; exact hj
  · simp only [if_neg h5, if_pos (show (4 : Int) < (s.size : Int) by omega)]
    have hl : 4 < s.data.toList.length := by rw [data_length]; omega
    have hb := bt_list s 4 hl
    have hlt := (s.data.toList[4]'hl).toNat_lt
    rw [show ((4 : Nat) : Int) = 4 from rfl] at hb
    rw [hb, show wrap64 (((s.data.toList[4]'hl).toNat : Nat) : Int) = ((s.data.toList[4]'hl).toNat : Int) by unfold wrap64; omega]
    by_cases h19 : (((s.data.toList[4]'hl).toNat : Nat) : Int) > 19
    · simp only [if_pos h19]; exact hj
    · simp only [if_neg h19]
      rw [show wrap64 ((5 : Int) + wrap64 ((12 : Int) * (((s.data.toList[4]'hl).toNat : Nat) : Int))) = 5 + 12 * (((s.data.toList[4]'hl).toNat : Nat) : Int) by unfold wrap64; omega]
      rw [show ((s.size : Int) != 5 + 12 * (((s.data.toList[4]'hl).toNat : Nat) : Int)) = true by
        rw [bne_iff_ne]
        intro he
        exact h ⟨hl, by omega, by rw [data_length]; omega⟩]
      exact hj

theorem ev_rparse_ok (s : ByteArray) (h : 4 < s.data.toList.length) (h19 : (s.data.toList[4]'h).toNat ≤ 19) (hlen : s.data.toList.length = 5 + 12 * (s.data.toList[4]'h).toNat) :
    Ev (fun k => bazaarref05_Parse.f k s) ((num (s.data.toList.take 4) : Int), ofSp (parseL (s.data.toList[4]'h).toNat (s.data.toList.drop 5)), 0) := by
  have hsz := data_length s
  have hp := ev_rparse0 s (s.data.toList[4]'h).toNat h19 (by omega) (s.data.toList[4]'h).toNat 0 [] (by omega) (Nat.le_refl _)
  rw [List.nil_append] at hp
  unfold bazaarref05_Parse.f
  have hb := bt_list s 4 h
  rw [show ((4 : Nat) : Int) = 4 from rfl] at hb
  simp only [if_neg (show ¬ (s.size : Int) < 5 by omega), if_pos (show (4 : Int) < (s.size : Int) by omega)]
  rw [hb, show wrap64 (((s.data.toList[4]'h).toNat : Nat) : Int) = ((s.data.toList[4]'h).toNat : Int) by unfold wrap64; omega]
  simp only [if_neg (show ¬ (((s.data.toList[4]'h).toNat : Nat) : Int) > 19 by omega)]
  rw [show wrap64 ((5 : Int) + wrap64 ((12 : Int) * (((s.data.toList[4]'h).toNat : Nat) : Int))) = 5 + 12 * (((s.data.toList[4]'h).toNat : Nat) : Int) by unfold wrap64; omega]
  rw [show ((s.size : Int) != 5 + 12 * (((s.data.toList[4]'h).toNat : Nat) : Int)) = false by
    rw [bne_eq_false_iff_eq]; omega]
  refine Ev.step (fun k => ?_) hp
  simp only [bazaarref05_Parse.j0, Bool.false_eq_true, if_false]
  rfl

theorem chunks_pure (a0 : Int) (l1 : List S44) (a2 : ByteArray) (h0 : 0 ≤ a0) (h1 : a0 < 4294967296) (hs : inS l1) : ∃ k, bazaarlaw05_AllocChunks.f k a0 l1 a2 = some true := by
  apply Ev.rounds
  obtain ⟨n, rfl⟩ := Int.eq_ofNat_of_zero_le h0
  unfold bazaarlaw05_AllocChunks.f
  have m1 := mn_nat l1.length 30
  have m2 := mn_nat a2.size 300
  rw [show ((30 : Nat) : Int) = 30 from rfl] at m1
  rw [show ((300 : Nat) : Int) = 300 from rfl] at m2
  simp only [m1, m2, bazaarlaw05_shown.f, Option.bind_some, if_pos (show (0 : Int) ≤ ((min l1.length 30 : Nat) : Int) by omega), if_pos (show ((min l1.length 30 : Nat) : Int) ≤ (l1.length : Int) by omega), if_pos (show (0 : Int) ≤ ((min a2.size 300 : Nat) : Int) by omega), if_pos (show ((min a2.size 300 : Nat) : Int) ≤ (a2.size : Int) by omega), Int.toNat_natCast]
  obtain ⟨l, hl⟩ : ∃ l, l1.take (min l1.length 30) = l := ⟨_, rfl⟩
  obtain ⟨s, hs'⟩ : ∃ s, a2.extract 0 (min a2.size 300) = s := ⟨_, rfl⟩
  have hin : inS l := fun x hx => hs x (List.mem_of_mem_take (hl ▸ hx))
  rw [hl, hs']
  have hn : (okN (n : Int) && inB l) = true := by
    rw [(inB_iff l).2 hin]
    simp [okN]
    omega
  -- the chunks are the same
  have hc : ∃ x, Ev (fun k => alloc_Chunk.f k (n : Int) l) x ∧ bazaarref05_Chunk.f (n : Int) l = some x := by
    by_cases h19 : l.length ≤ 19
    · exact ⟨_, ev_chunk n l (by omega) h19 hin, by rw [bazaarref05_Chunk.f, if_pos hn, if_pos h19]; rfl⟩
    · exact ⟨_, by simp only [chunk_long _ _ l (by omega)]; exact Ev.now _, by rw [bazaarref05_Chunk.f, if_pos hn, if_neg h19]⟩
  have hp : ∃ x : Int × List S44 × Int, Ev (fun k => alloc_Parse.f k s) x ∧ Ev (fun k => bazaarref05_Parse.f k s) x ∧ x.2.1.length ≤ 19 := by
    by_cases hc : isChunk s.data.toList
    · obtain ⟨h4, h19, hlen⟩ := hc
      exact ⟨_, ev_parse_ok s h4 h19 hlen, ev_rparse_ok s h4 h19 hlen, by rw [ofSp_length, parseL_length]; exact h19⟩
    · exact ⟨_, ev_parse_bad s hc, ev_rparse_bad s hc, by simp⟩
  obtain ⟨x, hx1, hx2⟩ := hc
  obtain ⟨y, hy1, hy2, hy3⟩ := hp
  refine Ev.bind hx1 ?_
  simp only [hx2, Option.bind_some]
  refine Ev.bind hy1 (Ev.bind hy2 ?_)
  simp only [if_true]
  refine Ev.bind (ev_same y.2.1 (by omega)) ?_
  simp only [if_true, beq_self_eq_true]
  exact Ev.now true
end Go.Proofs.YtnbmpcdomdaimaaQ.PA
