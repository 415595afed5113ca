/- Chunks and bytes, in plain Lean. -/
import Derived.Test.YtnbmpcdomdaimaaPuz
import Derived.Test.YtnbmpcdomdaimaaNb
import Derived.Test.YtnbmpcdomdaimaaPAx6
import Derived.Test.YtnbmpcdomdaimaaPAx8
import Derived.Test.YtnbmpcdomdaimaaPAx7
namespace Go.Proofs.YtnbmpcdomdaimaaQ.PA
open Go.RowKit Go.Proofs.YtnbmpcdomdaimaaW.PrintWords Go.Proofs.YtnbmpcdomdaimaaW.PrintLast Go.Proofs.YtnbmpcdomdaimaaW.PrintMore
open Go.Proofs.Ytnbmpcdomdaimaa (Sp be be_length num num_lt num_be be_num be_num' num_take_succ num_lt8 num_take_lt)
set_option linter.unusedVariables false
set_option linter.unusedSimpArgs false

def bi (l : List UInt8) : List Int := l.map fun b => (b.toNat : Int)
theorem bi_length (l : List UInt8) : (bi l).length = l.length := List.length_map _
theorem bi_append (a b : List UInt8) : bi (a ++ b) = bi a ++ bi b := List.map_append
theorem str_bi (l : List UInt8) : strOfNums (bi l) = ⟨l.toArray⟩ := by
  unfold strOfNums bi
  rw [List.map_map]
  congr 2
  conv => rhs; rw [← List.map_id l]
  apply List.map_congr_left
  intro b _
  simp

theorem ev_put0 (v : Nat) : ∀ (n : Nat) (xs : List Int), n ≤ 8 → xs.length + n ≤ 1000000 → Ev (fun k => alloc_put.l0 k xs (v : Int) ((n : Int) - 1)) (xs ++ bi (be v n)) := by
  intro n
  induction n with
  | zero =>
    intro xs _ _
    refine Ev.step (f := fun _ => some (xs ++ bi (be v 0))) (fun k => ?_) (Ev.now _)
    simp only [alloc_put.l0]
    rw [if_neg (by omega)]
    simp [be, bi]
  | succ n ih =>
    intro xs hn hl
    have h := ih (xs ++ [(((v >>> (8 * n)) % 256 : Nat) : Int)]) (by omega) (by simp; omega)
    have e : xs ++ bi (be v (n + 1)) = (xs ++ [(((v >>> (8 * n)) % 256 : Nat) : Int)]) ++ bi (be v n) := by
      simp [be, bi, UInt8.toNat_ofNat']
    rw [e]
    refine Ev.step (fun k => ?_) h
    have hw : wrap64 (8 * ((n + 1 : Nat) : Int) - 8) = ((8 * n : Nat) : Int) := by unfold wrap64; omega
    have hi : (((n + 1 : Nat) : Int) - 1) = (n : Int) := by omega
    have h8 : wrap64 (8 * (n : Int)) = ((8 * n : Nat) : Int) := by unfold wrap64; omega
    have hs : shr .u64 (v : Int) ((8 * n : Nat) : Int) % 256 = ((v >>> (8 * n)) % 256 : Nat) := by
      unfold shr
      rw [Int.toNat_natCast, Nat.min_eq_left (by show 8 * n ≤ 64; omega), Nat.shiftRight_eq_div_pow, Int.natCast_emod, Int.natCast_ediv, Int.natCast_pow]
      rfl
    simp only [alloc_put.l0]
    rw [hi, if_pos (by omega), h8, if_pos (by omega), if_pos (by omega), hs]
    rw [show wrap64 ((n : Int) - 1) = (n : Int) - 1 by unfold wrap64; omega]

theorem ev_put (v n : Nat) (xs : List Int) (hn : n ≤ 8) (hl : xs.length + n ≤ 1000000) (z : Int) (hz : z = (n : Int)) : Ev (fun k => alloc_put.f k xs (v : Int) z) (xs ++ bi (be v n)) := by
  subst hz
  unfold alloc_put.f
  rw [show wrap64 ((n : Int) - 1) = (n : Int) - 1 by unfold wrap64; omega]
  exact ev_put0 v n xs hn hl

def spB (l : List Sp) : List UInt8 := l.flatMap fun s => be s.1 4 ++ be s.2 8
def chunkB (next : Nat) (l : List Sp) : List UInt8 := be next 4 ++ (UInt8.ofNat l.length :: spB l)
theorem spB_length (l : List Sp) : (spB l).length = 12 * l.length := by
  induction l with
  | nil => rfl
  | cons x l ih =>
    show (be x.1 4 ++ be x.2 8 ++ spB l).length = _
    simp only [List.length_append, be_length, ih, List.length_cons]
    omega
theorem chunkB_length (n : Nat) (l : List Sp) : (chunkB n l).length = 5 + 12 * l.length := by
  simp only [chunkB, List.length_append, be_length, List.length_cons, spB_length]; omega

/-- The spares' parts are numbers of their kinds. -/
def inS (l : List S44) : Prop := ∀ s ∈ l, 0 ≤ s.f0 ∧ s.f0 < 4294967296 ∧ 0 ≤ s.f1 ∧ s.f1 < 18446744073709551616

theorem u64_small {n : Int} (h0 : 0 ≤ n) (h : n < 18446744073709551616) : IntKind.u64.wrap n = n := by rw [IntKind.wrap_u64]; omega

theorem ev_chunk0 (l : List S44) (hl : l.length ≤ 19) (hs : inS l) : ∀ (d i : Nat) (xs : List UInt8), i + d = l.length → xs.length ≤ 5 + 12 * i → Ev (fun k => alloc_Chunk.l0 k (bi xs) l (l.length : Int) (i : Int)) (⟨(xs ++ spB ((spOf l).drop i)).toArray⟩, 0) := by
  intro d
  induction d with
  | zero =>
    intro i xs h hx
    refine Ev.step (f := fun _ => some _) (fun k => ?_) (Ev.now _)
    simp only [alloc_Chunk.l0]
    rw [if_neg (by omega), str_bi, List.drop_of_length_le (by rw [spOf_length]; omega)]
    simp [spB]
  | succ d ih =>
    intro i xs h hx
    have hi : i < l.length := by omega
    have hm := hs _ (List.getElem_mem hi)
    obtain ⟨a, ha⟩ := Int.eq_ofNat_of_zero_le hm.1
    obtain ⟨b, hb⟩ := Int.eq_ofNat_of_zero_le hm.2.2.1
    have h1 := ev_put a 4 (bi xs) (by omega) (by rw [bi_length]; omega) 4 rfl
    have h2 := ev_put b 8 (bi xs ++ bi (be a 4)) (by omega) (by rw [List.length_append, bi_length, bi_length, be_length]; omega) 8 rfl
    have h3 := ih (i + 1) (xs ++ be a 4 ++ be b 8) (by omega) (by simp only [List.length_append, be_length]; omega)
    have e : xs ++ spB ((spOf l).drop i) = (xs ++ be a 4 ++ be b 8) ++ spB ((spOf l).drop (i + 1)) := by
      rw [List.drop_eq_getElem_cons (show i < (spOf l).length by rw [spOf_length]; exact hi)]
      have e1 : (spOf l)[i]'(by rw [spOf_length]; exact hi) = (a, b) := by
        simp only [spOf, List.getElem_map]
        rw [ha, hb]; rfl
      rw [e1]
      show xs ++ (be a 4 ++ be b 8 ++ spB _) = _
      simp
    rw [e]
    refine Ev.step (f := fun k => (alloc_put.f k (bi xs) (a : Int) 4).bind fun t => (alloc_put.f k t (b : Int) 8).bind fun u => alloc_Chunk.l0 k u l (l.length : Int) ((i + 1 : Nat) : Int)) (fun k => ?_) (Ev.bind h1 (Ev.bind h2 ?_))
    · simp only [alloc_Chunk.l0]
      rw [if_pos (by omega), if_pos (by omega), if_pos (by omega), rd_at l i hi, ha, hb, u64_small (by omega) (by omega), show wrap64 ((i : Int) + 1) = ((i + 1 : Nat) : Int) by unfold wrap64; omega]
    · rw [← bi_append, ← bi_append]
      exact h3

theorem ev_chunk (n : Nat) (l : List S44) (hn : n < 4294967296) (hl : l.length ≤ 19) (hs : inS l) : Ev (fun k => alloc_Chunk.f k (n : Int) l) (⟨(chunkB n (spOf l)).toArray⟩, 0) := by
  unfold alloc_Chunk.f
  simp only [if_neg (show ¬ ((l.length : Int) > 19) by omega), u64_small (n := (n : Int)) (by omega) (by omega)]
  refine Ev.bind (ev_put n 4 [] (by omega) (by simp) 4 rfl) ?_
  simp only [List.nil_append, bi_length, be_length, show (4 : Nat) < 140737488355328 by decide, if_true]
  have h := ev_chunk0 l hl hs l.length 0 (be n 4 ++ [UInt8.ofNat l.length]) (by omega) (by simp [be_length])
  rw [bi_append, show bi [UInt8.ofNat l.length] = [((l.length : Int)) % 256] by simp [bi, UInt8.toNat_ofNat'], List.drop_zero, List.append_assoc] at h
  rw [chunkB, spOf_length]
  exact h

theorem chunk_long (k : Nat) (n : Int) (l : List S44) (hl : 19 < l.length) : alloc_Chunk.f k n l = some (⟨#[]⟩, 50) := by
  unfold alloc_Chunk.f
  rw [if_pos (by omega)]

theorem bt_list (s : ByteArray) (i : Nat) (h : i < s.data.toList.length) : bt s (i : Int) = ((s.data.toList[i]'h).toNat : Int) := by
  rw [bt, dif_pos (by rw [data_length] at h; simpa using h)]
  rfl

theorem or8 (x b : Nat) (hx : x < 72057594037927936) (hb : b < 256) : Go.bits .or .u64 ((x : Int) * 256) (b : Int) = ((x * 256 + b : Nat) : Int) := by
  have e8 : (2 : Int) ^ 8 = 256 := by decide
  have e64 : (2 : Int) ^ 64 = 18446744073709551616 := by decide
  rw [bits_join .u64 64 (by decide) (fun n h0 h => u64_small h0 (by rw [e64] at h; exact h)) 8 _ _ (by omega) (by rw [e8]; omega) (by rw [e64]; omega) (by omega) (by rw [e8]; omega) (by rw [e64]; omega)]
  omega

theorem ev_number0 (s : ByteArray) (hs : s.size ≤ 8) : ∀ (d i : Nat), i + d = s.size → Ev (fun k => alloc_number.l0 k s (num (s.data.toList.take i) : Int) (s.size : Int) (i : Int)) (num s.data.toList : Int) := by
  intro d
  induction d with
  | zero =>
    intro i h
    refine Ev.step (f := fun _ => some _) (fun k => ?_) (Ev.now _)
    simp only [alloc_number.l0]
    rw [if_neg (by omega), List.take_of_length_le (by rw [data_length]; omega)]
  | succ d ih =>
    intro i h
    have hl : i < s.data.toList.length := by rw [data_length]; omega
    refine Ev.step (fun k => ?_) (ih (i + 1) (by omega))
    have hlt := num_lt (s.data.toList.take i)
    have hlen : (s.data.toList.take i).length ≤ 7 := by rw [List.length_take]; omega
    have h7 : 256 ^ (s.data.toList.take i).length ≤ 256 ^ 7 := Nat.pow_le_pow_right (by omega) hlen
    have h77 : (256 : Nat) ^ 7 = 72057594037927936 := by decide
    have hb := (s.data.toList[i]'hl).toNat_lt
    simp only [alloc_number.l0]
    rw [if_pos (by omega), if_pos (by omega), if_pos (by omega), bt_list s i hl, num_take_succ _ _ hl, show wrap64 ((i : Int) + 1) = ((i + 1 : Nat) : Int) by unfold wrap64; omega]
    congr 1
    rw [u64_small (by omega) (by omega), u64_small (by omega) (by omega)]
    exact or8 _ _ (by omega) hb

theorem ev_number (s : ByteArray) (hs : s.size ≤ 8) : Ev (fun k => alloc_number.f k s) (num s.data.toList : Int) := by
  unfold alloc_number.f
  exact ev_number0 s hs s.size 0 (by omega)
/-- What bytes tell of so many spares. -/
def parseL : Nat → List UInt8 → List Sp
  | 0, _ => []
  | n + 1, bs => (num (bs.take 4), num ((bs.drop 4).take 8)) :: parseL n (bs.drop 12)

theorem parseL_length (n : Nat) (bs : List UInt8) : (parseL n bs).length = n := by
  induction n generalizing bs with
  | zero => rfl
  | succ n ih => simp [parseL, ih]
theorem spB_cons (x : Sp) (l : List Sp) : spB (x :: l) = be x.1 4 ++ (be x.2 8 ++ spB l) := by simp [spB]
theorem parseL_spB (l : List Sp) (h : ∀ s ∈ l, s.1 < 4294967296 ∧ s.2 < 18446744073709551616) : parseL l.length (spB l) = l := by
  induction l with
  | nil => rfl
  | cons x l ih =>
    have hx := h x (by simp)
    have h4 : (256 : Nat) ^ 4 = 4294967296 := by decide
    have h8 : (256 : Nat) ^ 8 = 18446744073709551616 := by decide
    have l4 := be_length x.1 4
    have l8 := be_length x.2 8
    have d4 : (spB (x :: l)).drop 4 = be x.2 8 ++ spB l := by rw [spB_cons, List.drop_left' l4]
    have d12 : (spB (x :: l)).drop 12 = spB l := by
      rw [show 12 = 4 + 8 from rfl, ← List.drop_drop, d4, List.drop_left' l8]
    show (num ((spB (x :: l)).take 4), num (((spB (x :: l)).drop 4).take 8)) :: parseL l.length ((spB (x :: l)).drop 12) = _
    rw [d12, ih (fun s hs => h s (by simp [hs])), d4, List.take_left' l8, spB_cons, List.take_left' l4, num_be, num_be, h4, h8, Nat.mod_eq_of_lt hx.1, Nat.mod_eq_of_lt hx.2]
theorem spB_parseL (n : Nat) (bs : List UInt8) (h : bs.length = 12 * n) : spB (parseL n bs) = bs := by
  induction n generalizing bs with
  | zero =>
    rw [List.eq_nil_of_length_eq_zero (by omega : bs.length = 0)]; rfl
  | succ n ih =>
    have h1 : (bs.take 4).length = 4 := by rw [List.length_take]; omega
    have h2 : ((bs.drop 4).take 8).length = 8 := by rw [List.length_take, List.length_drop]; omega
    show spB ((num (bs.take 4), num ((bs.drop 4).take 8)) :: parseL n (bs.drop 12)) = _
    rw [spB_cons, ih _ (by rw [List.length_drop]; omega)]
    have e1 := be_num' (bs.take 4)
    have e2 := be_num' ((bs.drop 4).take 8)
    rw [h1] at e1
    rw [h2] at e2
    simp only
    rw [e1, e2, show bs.drop 12 = (bs.drop 4).drop 8 by rw [List.drop_drop], List.take_append_drop, List.take_append_drop]
theorem parseL_small (n : Nat) (bs : List UInt8) : ∀ s ∈ parseL n bs, s.1 < 4294967296 ∧ s.2 < 18446744073709551616 := by
  induction n generalizing bs with
  | zero => intro s hs; simp [parseL] at hs
  | succ n ih =>
    intro s hs
    rcases List.mem_cons.1 hs with rfl | hs
    · have h1 := num_lt (bs.take 4)
      have h2 := num_take_lt (bs.drop 4) 8 (Nat.le_refl _)
      have h3 : 256 ^ (bs.take 4).length ≤ 256 ^ 4 := Nat.pow_le_pow_right (by omega) (by rw [List.length_take]; omega)
      have h4 : (256 : Nat) ^ 4 = 4294967296 := by decide
      exact ⟨by show num (bs.take 4) < _; omega, h2⟩
    · exact ih _ s hs

theorem ext_list (s : ByteArray) (i j : Nat) : (s.extract i j).data.toList = (s.data.toList.drop i).take (j - i) := by
  rw [ByteArray.data_extract, Array.toList_extract, List.extract_eq_take_drop]
theorem ext_end (s : ByteArray) (i : Nat) : (s.extract i s.size).data.toList = s.data.toList.drop i := by
  rw [ext_list, List.take_of_length_le (by rw [List.length_drop, data_length]; omega)]
theorem ext_size (s : ByteArray) (i j : Nat) (hj : j ≤ s.size) : (s.extract i j).size = j - i := by
  rw [ByteArray.size_extract]; omega

theorem ev_parse0 (s : ByteArray) (hs : 5 ≤ s.size) : ∀ (n : Nat) (xs : List S44) (r : ByteArray), r.size = 12 * n → xs.length + n ≤ 1000 →
    Ev (fun k => alloc_Parse.l0 k s xs r) ((num (s.data.toList.take 4) : Int), xs ++ ofSp (parseL n r.data.toList), 0) := by
  have h4 : (s.extract 0 4).data.toList = s.data.toList.take 4 := by rw [ext_list]; rfl
  have hlt4 : ∀ l : List UInt8, num (l.take 4) < 4294967296 := by
    intro l
    have h1 := num_lt (l.take 4)
    have h3 : 256 ^ (l.take 4).length ≤ 256 ^ 4 := Nat.pow_le_pow_right (by omega) (by rw [List.length_take]; omega)
    have h4 : (256 : Nat) ^ 4 = 4294967296 := by decide
    omega
  intro n
  induction n with
  | zero =>
    intro xs r hr hx
    have hnil : r.toList = [] := by
      rw [ByteArray.toList_eq]
      exact List.eq_nil_of_length_eq_zero (by rw [data_length]; omega)
    have h := ev_number (s.extract 0 4) (by rw [ext_size _ _ _ (by omega)]; omega)
    rw [h4] at h
    refine Ev.step (f := fun k => (alloc_number.f k (s.extract 0 4)).bind fun t => some (t % 4294967296, xs, 0)) (fun k => ?_) (Ev.bind h ?_)
    · simp only [alloc_Parse.l0]
      rw [if_pos hnil, if_pos (by omega), if_pos (by omega)]
    · rw [show (num (s.data.toList.take 4) : Int) % 4294967296 = (num (s.data.toList.take 4) : Int) by have := hlt4 s.data.toList; omega]
      simp only [parseL, ofSp, List.map_nil, List.append_nil]
      exact Ev.now _
  | succ n ih =>
    intro xs r hr hx
    have hnn : ¬ r.toList = [] := by
      rw [ByteArray.toList_eq]
      intro h
      have : r.size = 0 := by rw [← data_length, h]; rfl
      omega
    have e4 : (r.extract 0 4).data.toList = r.data.toList.take 4 := by rw [ext_list]; rfl
    have e8 : (r.extract 4 12).data.toList = (r.data.toList.drop 4).take 8 := by rw [ext_list]
    have g4 := ev_number (r.extract 0 4) (by rw [ext_size _ _ _ (by omega)]; omega)
    have g8 := ev_number (r.extract 4 12) (by rw [ext_size _ _ _ (by omega)]; omega)
    rw [e4] at g4
    rw [e8] at g8
    have hnext := ih (xs ++ [⟨(num (r.data.toList.take 4) : Int), (num ((r.data.toList.drop 4).take 8) : Int)⟩]) (r.extract 12 r.size) (by rw [ext_size _ _ _ (Nat.le_refl _)]; omega) (by simp; omega)
    rw [ext_end] at hnext
    have e : xs ++ ofSp (parseL (n + 1) r.data.toList) = (xs ++ [⟨(num (r.data.toList.take 4) : Int), (num ((r.data.toList.drop 4).take 8) : Int)⟩]) ++ ofSp (parseL n (r.data.toList.drop 12)) := by
      simp [parseL, ofSp]
    rw [e]
    refine Ev.step (f := fun k => (alloc_number.f k (r.extract 0 4)).bind fun t => (alloc_number.f k (r.extract 4 12)).bind fun u => alloc_Parse.l0 k s (xs ++ [⟨t % 4294967296, u⟩]) (r.extract 12 r.size)) (fun k => ?_) (Ev.bind g4 (Ev.bind g8 ?_))
    · simp only [alloc_Parse.l0]
      rw [if_neg hnn, if_pos (by omega), if_pos (by omega)]
      congr 1
      funext t
      rw [if_pos (by omega), if_pos (by omega)]
      congr 1
      funext u
      rw [if_pos (by omega)]
    · rw [show (num (r.data.toList.take 4) : Int) % 4294967296 = (num (r.data.toList.take 4) : Int) by have := hlt4 r.data.toList; omega]
      exact hnext

/-- What Parse answers: of bytes that are no chunk's, and of those that are. -/
def isChunk (bs : List UInt8) : Prop := ∃ (h : 4 < bs.length), (bs[4]'h).toNat ≤ 19 ∧ bs.length = 5 + 12 * (bs[4]'h).toNat

theorem ev_parse_bad (s : ByteArray) (h : ¬ isChunk s.data.toList) : Ev (fun k => alloc_Parse.f k s) (0, [], 50) := by
  have hj : Ev (fun k => alloc_Parse.j0 k s true) (0, [], 50) := Ev.step (f := fun _ => some (0, [], 50)) (fun k => by simp only [alloc_Parse.j0, if_true]) (Ev.now _)
  unfold alloc_Parse.f
  by_cases h5 : (s.size : Int) < 5
  · simp only [if_pos h5]; exact hj
  · simp only [if_neg h5, if_pos (show (4 : Int) < (s.size : Int) by omega)]
    have hl : 4 < s.data.toList.length := by rw [data_length]; omega
    have hb := bt_list s 4 hl
    have hlt := (s.data.toList[4]'hl).toNat_lt
    rw [show ((4 : Nat) : Int) = 4 from rfl] at hb
    rw [hb, show wrap64 (((s.data.toList[4]'hl).toNat : Nat) : Int) = ((s.data.toList[4]'hl).toNat : Int) by unfold wrap64; omega]
    by_cases h19 : (((s.data.toList[4]'hl).toNat : Nat) : Int) > 19
    · simp only [if_pos h19]; exact hj
    · simp only [if_neg h19]
      rw [show wrap64 ((5 : Int) + wrap64 ((12 : Int) * (((s.data.toList[4]'hl).toNat : Nat) : Int))) = 5 + 12 * (((s.data.toList[4]'hl).toNat : Nat) : Int) by unfold wrap64; omega]
      rw [show ((s.size : Int) != 5 + 12 * (((s.data.toList[4]'hl).toNat : Nat) : Int)) = true by
        rw [bne_iff_ne]
        intro he
        exact h ⟨hl, by omega, by rw [data_length]; omega⟩]
      exact hj

theorem ev_parse_ok (s : ByteArray) (h : 4 < s.data.toList.length) (h19 : (s.data.toList[4]'h).toNat ≤ 19) (hlen : s.data.toList.length = 5 + 12 * (s.data.toList[4]'h).toNat) :
    Ev (fun k => alloc_Parse.f k s) ((num (s.data.toList.take 4) : Int), ofSp (parseL (s.data.toList[4]'h).toNat (s.data.toList.drop 5)), 0) := by
  have hsz := data_length s
  have hp := ev_parse0 s (by omega) (s.data.toList[4]'h).toNat [] (s.extract 5 s.size) (by rw [ext_size _ _ _ (Nat.le_refl _)]; omega) (by rw [List.length_nil]; omega)
  rw [ext_end, List.nil_append] at hp
  unfold alloc_Parse.f
  have hb := bt_list s 4 h
  rw [show ((4 : Nat) : Int) = 4 from rfl] at hb
  simp only [if_neg (show ¬ (s.size : Int) < 5 by omega), if_pos (show (4 : Int) < (s.size : Int) by omega)]
  rw [hb, show wrap64 (((s.data.toList[4]'h).toNat : Nat) : Int) = ((s.data.toList[4]'h).toNat : Int) by unfold wrap64; omega]
  simp only [if_neg (show ¬ (((s.data.toList[4]'h).toNat : Nat) : Int) > 19 by omega)]
  rw [show wrap64 ((5 : Int) + wrap64 ((12 : Int) * (((s.data.toList[4]'h).toNat : Nat) : Int))) = 5 + 12 * (((s.data.toList[4]'h).toNat : Nat) : Int) by unfold wrap64; omega]
  rw [show ((s.size : Int) != 5 + 12 * (((s.data.toList[4]'h).toNat : Nat) : Int)) = false by
    rw [bne_eq_false_iff_eq]; omega]
  refine Ev.step (fun k => ?_) hp
  simp only [alloc_Parse.j0, Bool.false_eq_true, if_false]
  rw [if_pos (by omega)]

theorem mn_nat (n m : Nat) : mn (n : Int) (m : Int) = ((min n m : Nat) : Int) := by unfold mn; split <;> omega

theorem ba_eq {s t : ByteArray} (h : s.data.toList = t.data.toList) : s = t := by
  obtain ⟨⟨a⟩⟩ := s
  obtain ⟨⟨b⟩⟩ := t
  simp only at h
  rw [h]

theorem spOf_ofSp' (l : List Sp) : spOf (ofSp l) = l := by
  induction l with
  | nil => rfl
  | cons x l ih =>
    show ((x.1 : Int).toNat, (x.2 : Int).toNat) :: spOf (ofSp l) = x :: l
    rw [ih]; rfl
theorem ofSp_spOf' {l : List S44} (h : inS l) : ofSp (spOf l) = l := by
  induction l with
  | nil => rfl
  | cons x l ih =>
    have hx := h x (by simp)
    show (⟨((x.f0.toNat : Nat) : Int), ((x.f1.toNat : Nat) : Int)⟩ : S44) :: ofSp (spOf l) = x :: l
    rw [ih fun s hs => h s (by simp [hs]), Int.toNat_of_nonneg hx.1, Int.toNat_of_nonneg hx.2.2.1]
theorem inS_ofSp {l : List Sp} (h : ∀ s ∈ l, s.1 < 4294967296 ∧ s.2 < 18446744073709551616) : inS (ofSp l) := by
  intro s hs
  obtain ⟨x, hx, rfl⟩ := List.mem_map.1 hs
  have := h x hx
  exact ⟨Int.natCast_nonneg _, by show (x.1 : Int) < _; omega, Int.natCast_nonneg _, by show (x.2 : Int) < _; omega⟩
theorem spOf_lt {l : List S44} (h : inS l) : ∀ s ∈ spOf l, s.1 < 4294967296 ∧ s.2 < 18446744073709551616 := by
  intro s hs
  obtain ⟨x, hx, rfl⟩ := List.mem_map.1 hs
  have := h x hx
  exact ⟨by show x.f0.toNat < _; omega, by show x.f1.toNat < _; omega⟩

theorem num4_lt (l : List UInt8) : num (l.take 4) < 4294967296 := by
  have h1 := num_lt (l.take 4)
  have h3 : 256 ^ (l.take 4).length ≤ 256 ^ 4 := Nat.pow_le_pow_right (by omega) (by rw [List.length_take]; omega)
  have h4 : (256 : Nat) ^ 4 = 4294967296 := by decide
  omega

/-- What a chunk's bytes are, read back and written again. -/
theorem chunk_again (bs : List UInt8) (h : 4 < bs.length) (hlen : bs.length = 5 + 12 * (bs[4]'h).toNat) : chunkB (num (bs.take 4)) (parseL (bs[4]'h).toNat (bs.drop 5)) = bs := by
  have h1 : (bs.take 4).length = 4 := by rw [List.length_take]; omega
  have e1 := be_num' (bs.take 4)
  rw [h1] at e1
  rw [chunkB, e1, parseL_length, spB_parseL _ _ (by rw [List.length_drop]; omega)]
  have e2 : UInt8.ofNat (bs[4]'h).toNat = bs[4]'h := by simp
  rw [e2, ← List.drop_eq_getElem_cons h, List.take_append_drop]

end Go.Proofs.YtnbmpcdomdaimaaQ.PA
