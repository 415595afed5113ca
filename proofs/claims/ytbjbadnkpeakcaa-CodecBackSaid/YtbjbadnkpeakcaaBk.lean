/- Requests, replies and bytes are one to one: the pairs of calls. -/
import Derived.Test.YtbjbadnkpeakcaaTw
import Derived.Test.YtbjbadnkpeakcaaSz
namespace Go.Proofs.Ytbjbadnkpeakcaa
open Go.RowKit
set_option linter.unusedVariables false
set_option linter.unusedSimpArgs false

theorem wrap64_u64 (x : Int) (h : -9223372036854775808 ≤ x ∧ x ≤ 9223372036854775807) : wrap64 (u64 x : Int) = x := by
  unfold u64 wrap64
  rw [IntKind.wrap_u64]
  omega

/-- A piece of a text that is laid out in pieces. -/
theorem numAt_piece (pre post : List UInt8) (n i k : Nat) (hi : pre.length = i) (hn : n < 256 ^ k) : numAt ⟨(pre ++ be n k ++ post).toArray⟩ i k = n := by
  unfold numAt
  have e : ((pre ++ be n k ++ post).drop i).take k = be n k := by
    subst hi
    rw [List.append_assoc, List.drop_left']
    · rw [List.take_left']
      exact be_length n k
    · rfl
  simp only [e]
  rw [num_be, Nat.mod_eq_of_lt hn]

theorem request_back (s : ByteArray) (h : s.size = 27) : (⟨(reqBytes (numAt s 0 1) (numAt s 1 4) (numAt s 5 4) (numAt s 9 2) (wrap64 (numAt s 11 8 : Int)) (wrap64 (numAt s 19 8 : Int))).toArray⟩ : ByteArray) = s := by
  unfold reqBytes
  rw [u64_wrap _ (numAt_lt s 11 8 (by omega)), u64_wrap _ (numAt_lt s 19 8 (by omega)), be_numAt s 0 1 (by omega), be_numAt s 1 4 (by omega), be_numAt s 5 4 (by omega), be_numAt s 9 2 (by omega), be_numAt s 11 8 (by omega), be_numAt s 19 8 (by omega)]
  apply ByteArray.ext
  apply Array.toList_inj.1
  simp only [List.drop_zero]
  have hl : s.data.toList.length = 27 := by simpa using h
  generalize s.data.toList = l at *
  have h1 : (l.drop 19).take 8 = l.drop 19 := List.take_of_length_le (by rw [List.length_drop]; omega)
  have st : ∀ i k, (l.drop i).take k ++ l.drop (i + k) = l.drop i := fun i k => by
    have := List.take_append_drop k (l.drop i)
    rwa [List.drop_drop] at this
  rw [h1]
  simp only [List.append_assoc]
  have a1 := st 11 8
  have a2 := st 9 2
  have a3 := st 5 4
  have a4 := st 1 4
  simp only [Nat.reduceAdd] at a1 a2 a3 a4
  rw [a1, a2, a3, a4, List.take_append_drop]

theorem req_pair (op a b it n m : Int) (hop : (Lit.int .i64 op).wf = true) (ha : 0 ≤ a ∧ a < 4294967296) (hb : 0 ≤ b ∧ b < 4294967296) (hi : 0 ≤ it ∧ it < 65536) (hn : -9223372036854775808 ≤ n ∧ n ≤ 9223372036854775807) (hm : -9223372036854775808 ≤ m ∧ m ≤ 9223372036854775807) :
    ∃ (t : ByteArray) (e x0 x1 x2 x3 x4 x5 xv : Int),
    (∀ w, Calls Try.prog 14 #[.agg #[.int .i64 op, .int .u32 a, .int .u32 b, .int .u16 it, .int .i64 n, .int .i64 m]] w fun r w' => r = .returned (.tuple #[.string t, .int .i64 e]) ∧ Below w.heap.size w w') ∧
    (∀ w, Calls Try.prog 11 #[.string t] w fun r w' => r = .returned (.tuple #[.agg #[.int .i64 x0, .int .u32 x1, .int .u32 x2, .int .u16 x3, .int .i64 x4, .int .i64 x5], .int .i64 xv]) ∧ Below w.heap.size w w') ∧
    ((e = 0 ∧ xv = 0 ∧ x0 = op ∧ x1 = a ∧ x2 = b ∧ x3 = it ∧ x4 = n ∧ x5 = m ∧ t.size = 27) ∨ e = 170) := by
  by_cases h : 1 ≤ op ∧ op ≤ 21
  · obtain ⟨op', rfl⟩ := Int.eq_ofNat_of_zero_le (by omega : 0 ≤ op)
    obtain ⟨a', rfl⟩ := Int.eq_ofNat_of_zero_le ha.1
    obtain ⟨b', rfl⟩ := Int.eq_ofNat_of_zero_le hb.1
    obtain ⟨it', rfl⟩ := Int.eq_ofNat_of_zero_le hi.1
    have hsz : (⟨(reqBytes op' a' b' it' n m).toArray⟩ : ByteArray).size = 27 := by
      show (reqBytes op' a' b' it' n m).toArray.size = 27
      simp [reqBytes, be_length]
    have e0 : numAt ⟨(reqBytes op' a' b' it' n m).toArray⟩ 0 1 = op' := by
      have := numAt_piece [] (be a' 4 ++ be b' 4 ++ be it' 2 ++ be (u64 n) 8 ++ be (u64 m) 8) op' 0 1 rfl (by omega)
      simpa [reqBytes] using this
    have e1 : numAt ⟨(reqBytes op' a' b' it' n m).toArray⟩ 1 4 = a' := by
      have := numAt_piece (be op' 1) (be b' 4 ++ be it' 2 ++ be (u64 n) 8 ++ be (u64 m) 8) a' 1 4 (by simp [be_length]) (by omega)
      simpa [reqBytes] using this
    have e2 : numAt ⟨(reqBytes op' a' b' it' n m).toArray⟩ 5 4 = b' := by
      have := numAt_piece (be op' 1 ++ be a' 4) (be it' 2 ++ be (u64 n) 8 ++ be (u64 m) 8) b' 5 4 (by simp [be_length]) (by omega)
      simpa [reqBytes] using this
    have e3 : numAt ⟨(reqBytes op' a' b' it' n m).toArray⟩ 9 2 = it' := by
      have := numAt_piece (be op' 1 ++ be a' 4 ++ be b' 4) (be (u64 n) 8 ++ be (u64 m) 8) it' 9 2 (by simp [be_length]) (by omega)
      simpa [reqBytes] using this
    have e4 : numAt ⟨(reqBytes op' a' b' it' n m).toArray⟩ 11 8 = u64 n := by
      have := numAt_piece (be op' 1 ++ be a' 4 ++ be b' 4 ++ be it' 2) (be (u64 m) 8) (u64 n) 11 8 (by simp [be_length]) (u64_lt n)
      simpa [reqBytes] using this
    have e5 : numAt ⟨(reqBytes op' a' b' it' n m).toArray⟩ 19 8 = u64 m := by
      have := numAt_piece (be op' 1 ++ be a' 4 ++ be b' 4 ++ be it' 2 ++ be (u64 n) 8) [] (u64 m) 19 8 (by simp [be_length]) (u64_lt m)
      simpa [reqBytes] using this
    refine ⟨_, _, _, _, _, _, _, _, _, fun w => request_ok op' a' b' it' n m w (by omega) (by omega) (by omega) (by omega) (by omega), fun w => parseReq_ok _ w hsz (by rw [e0]; omega) (by rw [e0]; omega), .inl ⟨rfl, rfl, ?_, ?_, ?_, ?_, ?_, ?_, hsz⟩⟩
    · rw [e0]
    · rw [e1]
    · rw [e2]
    · rw [e3]
    · rw [e4, wrap64_u64 n hn]
    · rw [e5, wrap64_u64 m hm]
  · have hu := u64_bad op hop (by omega)
    exact ⟨_, _, _, _, _, _, _, _, _, fun w => request_bad op a b it n m w hu, fun w => parseReq_size _ w (by show ¬ (#[] : Array UInt8).size = 27; simp), .inr rfl⟩

theorem rep_pair (e x y : Int) (hx : -9223372036854775808 ≤ x ∧ x ≤ 9223372036854775807) (hy : -9223372036854775808 ≤ y ∧ y ≤ 9223372036854775807) :
    ∃ (t : ByteArray) (ev x0 x1 x2 xv : Int),
    (∀ w, Calls Try.prog 17 #[.agg #[.int .i64 e, .int .i64 x, .int .i64 y]] w fun r w' => r = .returned (.tuple #[.string t, .int .i64 ev]) ∧ Below w.heap.size w w') ∧
    (∀ w, Calls Try.prog 13 #[.string t] w fun r w' => r = .returned (.tuple #[.agg #[.int .i64 x0, .int .i64 x1, .int .i64 x2], .int .i64 xv]) ∧ Below w.heap.size w w') ∧
    ((ev = 0 ∧ xv = 0 ∧ x0 = e ∧ x1 = x ∧ x2 = y ∧ t.size = 18) ∨ ev = 170) := by
  by_cases h : 0 ≤ e ∧ e ≤ 999
  · obtain ⟨e', rfl⟩ := Int.eq_ofNat_of_zero_le h.1
    have hsz : (⟨(be e' 2 ++ be (u64 x) 8 ++ be (u64 y) 8).toArray⟩ : ByteArray).size = 18 := by
      show (be e' 2 ++ be (u64 x) 8 ++ be (u64 y) 8).toArray.size = 18
      simp [be_length]
    have e0 : numAt ⟨(be e' 2 ++ be (u64 x) 8 ++ be (u64 y) 8).toArray⟩ 0 2 = e' := by
      have := numAt_piece [] (be (u64 x) 8 ++ be (u64 y) 8) e' 0 2 rfl (by omega)
      simpa using this
    have e1 : numAt ⟨(be e' 2 ++ be (u64 x) 8 ++ be (u64 y) 8).toArray⟩ 2 8 = u64 x := by
      have := numAt_piece (be e' 2) (be (u64 y) 8) (u64 x) 2 8 (by simp [be_length]) (u64_lt x)
      simpa using this
    have e2 : numAt ⟨(be e' 2 ++ be (u64 x) 8 ++ be (u64 y) 8).toArray⟩ 10 8 = u64 y := by
      have := numAt_piece (be e' 2 ++ be (u64 x) 8) [] (u64 y) 10 8 (by simp [be_length]) (u64_lt y)
      simpa using this
    refine ⟨_, _, _, _, _, _, fun w => reply_ok e' x y w (by omega), fun w => parseRep_ok _ w hsz (by rw [e0]; omega), .inl ⟨rfl, rfl, ?_, ?_, ?_, hsz⟩⟩
    · rw [e0]
    · rw [e1, wrap64_u64 x hx]
    · rw [e2, wrap64_u64 y hy]
  · exact ⟨_, _, _, _, _, _, fun w => reply_bad e x y w (by omega), fun w => parseRep_size _ w (by show ¬ (#[] : Array UInt8).size = 18; simp), .inr rfl⟩

theorem parse_req_pair (s : ByteArray) : ∃ (x0 x1 x2 x3 x4 x5 xv : Int) (t : ByteArray) (e : Int),
    (∀ w, Calls Try.prog 11 #[.string s] w fun r w' => r = .returned (.tuple #[.agg #[.int .i64 x0, .int .u32 x1, .int .u32 x2, .int .u16 x3, .int .i64 x4, .int .i64 x5], .int .i64 xv]) ∧ Below w.heap.size w w') ∧
    (∀ w, Calls Try.prog 14 #[.agg #[.int .i64 x0, .int .u32 x1, .int .u32 x2, .int .u16 x3, .int .i64 x4, .int .i64 x5]] w fun r w' => r = .returned (.tuple #[.string t, .int .i64 e]) ∧ Below w.heap.size w w') ∧
    ((xv = 0 ∧ e = 0 ∧ t = s) ∨ xv = 170) := by
  by_cases h : s.size = 27
  · by_cases h1 : 1 ≤ numAt s 0 1 ∧ numAt s 0 1 ≤ 21
    · have hl1 : numAt s 1 4 < 4294967296 := by
        have := num_lt ((s.data.toList.drop 1).take 4); unfold numAt
        have h2 : 256 ^ ((s.data.toList.drop 1).take 4).length ≤ 256 ^ 4 := Nat.pow_le_pow_right (by omega) (by rw [List.length_take]; omega)
        omega
      have hl2 : numAt s 5 4 < 4294967296 := by
        have := num_lt ((s.data.toList.drop 5).take 4); unfold numAt
        have h2 : 256 ^ ((s.data.toList.drop 5).take 4).length ≤ 256 ^ 4 := Nat.pow_le_pow_right (by omega) (by rw [List.length_take]; omega)
        omega
      have hl3 : numAt s 9 2 < 65536 := by
        have := num_lt ((s.data.toList.drop 9).take 2); unfold numAt
        have h2 : 256 ^ ((s.data.toList.drop 9).take 2).length ≤ 256 ^ 2 := Nat.pow_le_pow_right (by omega) (by rw [List.length_take]; omega)
        omega
      exact ⟨_, _, _, _, _, _, _, _, _, fun w => parseReq_ok s w h h1.1 h1.2, fun w => request_ok _ _ _ _ _ _ w h1.1 h1.2 hl1 hl2 hl3, .inl ⟨rfl, rfl, request_back s h⟩⟩
    · exact ⟨_, _, _, _, _, _, _, _, _, fun w => parseReq_op s w h (by omega), fun w => request_bad 0 0 0 0 0 0 w (by left; decide), .inr rfl⟩
  · exact ⟨_, _, _, _, _, _, _, _, _, fun w => parseReq_size s w h, fun w => request_bad 0 0 0 0 0 0 w (by left; decide), .inr rfl⟩

theorem parse_rep_pair (s : ByteArray) : ∃ (x0 x1 x2 xv : Int) (t : ByteArray) (e : Int),
    (∀ w, Calls Try.prog 13 #[.string s] w fun r w' => r = .returned (.tuple #[.agg #[.int .i64 x0, .int .i64 x1, .int .i64 x2], .int .i64 xv]) ∧ Below w.heap.size w w') ∧
    (∀ w, Calls Try.prog 17 #[.agg #[.int .i64 x0, .int .i64 x1, .int .i64 x2]] w fun r w' => r = .returned (.tuple #[.string t, .int .i64 e]) ∧ Below w.heap.size w w') ∧
    ((xv = 0 ∧ e = 0 ∧ t = s) ∨ xv = 170) := by
  by_cases h : s.size = 18
  · by_cases h1 : numAt s 0 2 ≤ 999
    · exact ⟨_, _, _, _, _, _, fun w => parseRep_ok s w h h1, fun w => reply_ok _ _ _ w h1, .inl ⟨rfl, rfl, reply_back s h⟩⟩
    · exact ⟨_, _, _, _, _, _, fun w => parseRep_num s w h (by omega), fun w => reply_ok 0 0 0 w (by omega), .inr rfl⟩
  · exact ⟨_, _, _, _, _, _, fun w => parseRep_size s w h, fun w => reply_ok 0 0 0 w (by omega), .inr rfl⟩
end Go.Proofs.Ytbjbadnkpeakcaa
