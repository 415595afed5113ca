/- The program's functions and the document's answer alike. -/
import Derived.Test.YtbjbadnkpeakcaaRh
import Derived.Test.YtbjbadnkpeakcaaRow
namespace Go.Proofs.Ytbjbadnkpeakcaa
open Go.RowKit
set_option linter.unusedVariables false
set_option linter.unusedSimpArgs false

theorem bytes_app (a b : List UInt8) : (⟨a.toArray⟩ : ByteArray) ++ ⟨b.toArray⟩ = ⟨(a ++ b).toArray⟩ := by
  apply ByteArray.ext
  simp

theorem request_twin (op a b it n m : Int) (hw : (Lit.int .i64 op).wf = true) (ha : 0 ≤ a ∧ a < 4294967296) (hb : 0 ≤ b ∧ b < 4294967296) (hi : 0 ≤ it ∧ it < 65536) : ∃ (t : ByteArray) (e : Int),
    (∀ w, Calls Try.prog 14 #[.agg #[.int .i64 op, .int .u32 a, .int .u32 b, .int .u16 it, .int .i64 n, .int .i64 m]] w fun r w' => r = .returned (.tuple #[.string t, .int .i64 e]) ∧ Below w.heap.size w w') ∧
    (∀ w, Calls Try.prog 15 #[.agg #[.int .i64 op, .int .u32 a, .int .u32 b, .int .u16 it, .int .i64 n, .int .i64 m]] w fun r w' => r = .returned (.tuple #[.string t, .int .i64 e]) ∧ Below w.heap.size w w') := by
  by_cases h : 1 ≤ op ∧ op ≤ 21
  · obtain ⟨op', rfl⟩ := Int.eq_ofNat_of_zero_le (by omega : 0 ≤ op)
    obtain ⟨a', rfl⟩ := Int.eq_ofNat_of_zero_le ha.1
    obtain ⟨b', rfl⟩ := Int.eq_ofNat_of_zero_le hb.1
    obtain ⟨it', rfl⟩ := Int.eq_ofNat_of_zero_le hi.1
    refine ⟨_, _, fun w => request_ok op' a' b' it' n m w (by omega) (by omega) (by omega) (by omega) (by omega), fun w => ?_⟩
    have h2 := refRequest_ok op' a' b' it' n m w (by omega) (by omega) (by omega) (by omega) (by omega)
    rw [bytes_app, bytes_app, bytes_app, bytes_app, bytes_app] at h2
    have e : reqBytes op' a' b' it' n m = be op' 1 ++ be a' 4 ++ be b' 4 ++ be it' 2 ++ be (u64 n) 8 ++ be (u64 m) 8 := by
      unfold reqBytes; simp
    rw [e]
    exact h2
  · have hu := u64_bad op hw (by omega)
    exact ⟨_, _, fun w => request_bad op a b it n m w hu, fun w => refRequest_bad op a b it n m w (by omega)⟩

theorem reply_twin (e x y : Int) : ∃ (t : ByteArray) (ev : Int),
    (∀ w, Calls Try.prog 17 #[.agg #[.int .i64 e, .int .i64 x, .int .i64 y]] w fun r w' => r = .returned (.tuple #[.string t, .int .i64 ev]) ∧ Below w.heap.size w w') ∧
    (∀ w, Calls Try.prog 18 #[.agg #[.int .i64 e, .int .i64 x, .int .i64 y]] w fun r w' => r = .returned (.tuple #[.string t, .int .i64 ev]) ∧ Below w.heap.size w w') := by
  by_cases h : 0 ≤ e ∧ e ≤ 999
  · obtain ⟨e', rfl⟩ := Int.eq_ofNat_of_zero_le h.1
    refine ⟨_, _, fun w => reply_ok e' x y w (by omega), fun w => ?_⟩
    have h2 := refReply_ok e' x y w (by omega)
    rw [bytes_app, bytes_app] at h2
    exact h2
  · exact ⟨_, _, fun w => reply_bad e x y w (by omega), fun w => refReply_bad e x y w (by omega)⟩

theorem parseRep_twin (s : ByteArray) : ∃ x0 x1 x2 ev : Int,
    (∀ w, Calls Try.prog 13 #[.string s] w fun e w' => e = .returned (.tuple #[.agg #[.int .i64 x0, .int .i64 x1, .int .i64 x2], .int .i64 ev]) ∧ Below w.heap.size w w') ∧
    (∀ w, Calls Try.prog 19 #[.string s] w fun e w' => e = .returned (.tuple #[.agg #[.int .i64 x0, .int .i64 x1, .int .i64 x2], .int .i64 ev]) ∧ Below w.heap.size w w') := by
  by_cases h : s.size = 18
  · by_cases h1 : numAt s 0 2 ≤ 999
    · exact ⟨_, _, _, _, fun w => parseRep_ok s w h h1, fun w => refParseRep_ok s w h h1⟩
    · exact ⟨_, _, _, _, fun w => parseRep_num s w h (by omega), fun w => refParseRep_num s w h (by omega)⟩
  · exact ⟨_, _, _, _, fun w => parseRep_size s w h, fun w => refParseRep_size s w h⟩

theorem frame_twin (s : ByteArray) (hm : s.size ≤ maxLen) : ∃ (t : ByteArray) (ev : Int),
    (∀ w, Calls Try.prog 10 #[.string s] w fun r w' => r = .returned (.tuple #[.string t, .int .i64 ev]) ∧ Below w.heap.size w w') ∧
    (∀ w, Calls Try.prog 20 #[.string s] w fun r w' => r = .returned (.tuple #[.string t, .int .i64 ev]) ∧ Below w.heap.size w w') := by
  by_cases h : 1 ≤ s.size ∧ s.size ≤ 100
  · exact ⟨_, _, fun w => frame_ok s w h.1 h.2, fun w => refFrame_ok s w h.1 h.2⟩
  · exact ⟨_, _, fun w => frame_bad s w (by omega) hm, fun w => refFrame_bad s w (by omega) hm⟩

theorem keep_b {W W' : World} {g : Nat} {o : Obj} (h : W.heap[g]? = some o) (hb : Below W.heap.size W W') : W'.heap[g]? = some o :=
  (hb.block g (Array.getElem?_eq_some_iff.1 h).1).trans h
theorem keep_a {W : World} {g : Nat} {o : Obj} (o' : Obj) (h : W.heap[g]? = some o) : (W.alloc o').heap[g]? = some o :=
  keep_b h ((Below.refl _ W).alloc (Nat.le_refl _) _)
theorem cells6 {W : World} {g : Nat} {t : TypeId} {a0 a1 a2 a3 a4 a5 : Value} (h : W.heap[g]? = some (.cells #[a0, a1, a2, a3, a4, a5] t (0, 0))) :
    W.cell? ⟨g, 0, none⟩ = some a0 ∧ W.cell? ⟨g, 1, none⟩ = some a1 ∧ W.cell? ⟨g, 2, none⟩ = some a2 ∧ W.cell? ⟨g, 3, none⟩ = some a3 ∧ W.cell? ⟨g, 4, none⟩ = some a4 ∧ W.cell? ⟨g, 5, none⟩ = some a5 :=
  ⟨Lib.cell_of_heap h 0, Lib.cell_of_heap h 1, Lib.cell_of_heap h 2, Lib.cell_of_heap h 3, Lib.cell_of_heap h 4, Lib.cell_of_heap h 5⟩
theorem cells3 {W : World} {g : Nat} {t : TypeId} {a0 a1 a2 : Value} (h : W.heap[g]? = some (.cells #[a0, a1, a2] t (0, 0))) :
    W.cell? ⟨g, 0, none⟩ = some a0 ∧ W.cell? ⟨g, 1, none⟩ = some a1 ∧ W.cell? ⟨g, 2, none⟩ = some a2 :=
  ⟨Lib.cell_of_heap h 0, Lib.cell_of_heap h 1, Lib.cell_of_heap h 2⟩
end Go.Proofs.Ytbjbadnkpeakcaa
