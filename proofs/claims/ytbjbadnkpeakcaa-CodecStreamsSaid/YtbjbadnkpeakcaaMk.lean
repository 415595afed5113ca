/- What codec.Reply, codec.Request and codec.Frame answer. -/
import Derived.Test.YtbjbadnkpeakcaaFld
import Derived.OpenShut
set_option linter.unusedSimpArgs false
namespace Go.Proofs.Ytbjbadnkpeakcaa
open Go.RowKit
set_option linter.unusedVariables false

theorem fields_n (bw bl n : Nat) (fs : List (Nat × Nat)) (w : World) (hn : fs.length = n) (hbw : Lib.IsBuilder 54 5 bw bw [] w) (hbl : w.heap[bl]? = some (.cells (fieldCells fs).toArray 58 (0, 0)))
    (hn2 : n ≤ 100) (hs : ∀ f ∈ fs, f.1 < 18446744073709551616 ∧ f.2 ≤ 8) (hne : fieldBytes fs ≠ []) (hlt : bw < w.heap.size) :
    Calls Try.prog 24 #[.pointer (some ⟨bw, 0, none⟩), .slice (some ⟨bl, 0, none⟩) n n] w fun e w' => e = .returned (.string ⟨(fieldBytes fs).toArray⟩) ∧ Below bw w w' := by
  subst hn
  exact fields_any bw bl fs w hbw hbl hn2 hs hne hlt

/-- An int as a uint64. -/
def u64 (x : Int) : Nat := (IntKind.u64.wrap x).toNat

theorem u64_eq (x : Int) : IntKind.u64.wrap x = ((u64 x : Nat) : Int) := by
  unfold u64
  rw [IntKind.wrap_u64]
  omega
theorem u64_lt (x : Int) : u64 x < 18446744073709551616 := by
  unfold u64
  rw [IntKind.wrap_u64]
  omega
theorem u64_nat (n : Nat) (h : n < 18446744073709551616) : u64 (n : Int) = n := by
  unfold u64
  rw [IntKind.wrap_u64]
  omega

theorem two_new (W : World) (A B : Obj) : ((W.alloc A).alloc B).heap[W.heap.size]? = some A ∧ ((W.alloc A).alloc B).heap[W.heap.size + 1]? = some B := by
  refine ⟨(Lib.alloc_old (W.alloc A) B W.heap.size (by simp)).trans (heap_alloc_new W A), ?_⟩
  have := heap_alloc_new (W.alloc A) B
  rwa [World.size_alloc] at this

theorem builder_new (W : World) (B : Obj) : Lib.IsBuilder 54 5 W.heap.size W.heap.size [] ((W.alloc (.cells #[.pointer none, .slice none 0 0] 54)).alloc B) :=
  .inl ⟨Nat.le_refl _, .slice none 0 0, (two_new W _ B).1, ⟨by simp, .inl ⟨rfl, rfl⟩⟩, by simp [Value.ownBlock]⟩

theorem call_fields (W : World) (bw n : Nat) (fs : List (Nat × Nat)) (cs : Array Value) (hbw : W.heap.size = bw) (hcs : cs = (fieldCells fs).toArray) (hn : fs.length = n) (hn2 : n ≤ 100) (hs : ∀ f ∈ fs, f.1 < 18446744073709551616 ∧ f.2 ≤ 8) (hne : fieldBytes fs ≠ []) :
    Calls Try.prog 24 #[.pointer (some ⟨bw, 0, none⟩), .slice (some ⟨bw + 1, 0, none⟩) n n] ((W.alloc (.cells #[.pointer none, .slice none 0 0] 54)).alloc (.cells cs 58)) fun e w' =>
      e = .returned (.string ⟨(fieldBytes fs).toArray⟩) ∧ Below W.heap.size W w' := by
  subst hcs hbw
  refine (fields_n W.heap.size (W.heap.size + 1) n fs _ hn (builder_new W _) (two_new W _ _).2 hn2 hs hne (by simp; omega)).mono fun e w' ⟨he, hb⟩ => ⟨he, ?_⟩
  exact (((Below.refl _ W).alloc (Nat.le_refl _) _).alloc (by simp) _).trans hb

theorem below_box {w : World} {o : Obj} {w' : World} (h : Below (w.alloc o).heap.size (w.alloc o) w') : Below w.heap.size w w' :=
  ((Below.refl _ w).alloc (Nat.le_refl _) _).trans (h.mono (by simp))

set_option maxHeartbeats 400000 in
set_option maxRecDepth 100000 in
theorem reply_ok (e : Nat) (x y : Int) (w : World) (h1 : e ≤ 999) :
    Calls Try.prog 17 #[.agg #[.int .i64 e, .int .i64 x, .int .i64 y]] w fun r w' => r = .returned (.tuple #[.string ⟨(be e 2 ++ be (u64 x) 8 ++ be (u64 y) 8).toArray⟩, .int .i64 0]) ∧ Below w.heap.size w w' := by
  have hx := u64_eq x
  have hy := u64_eq y
  go_enter Try.func17, Try.ntmps17
  go_wp2_with fail
  refine (call_fields (w.alloc _) (w.heap.size + 1) 3 [(e, 2), (u64 x, 8), (u64 y, 8)] _ (by simp) (by simp [fieldCells]) rfl (by omega) ?_ (by simp [fieldBytes, be])).mono ?_
  · have := u64_lt x
    have := u64_lt y
    intro f hf
    simp only [List.mem_cons, List.not_mem_nil, or_false] at hf
    rcases hf with rfl | rfl | rfl <;> simp <;> omega
  rintro r w2 ⟨rfl, hb⟩
  have hb2 := Lib.hid (below_box hb)
  clear hb
  go_wp2
  go_ret2
  exact ⟨by simp [fieldBytes], hb2.out⟩

set_option maxHeartbeats 400000 in
set_option maxRecDepth 100000 in
theorem reply_bad (e x y : Int) (w : World) (h1 : e < 0 ∨ 999 < e) :
    Calls Try.prog 17 #[.agg #[.int .i64 e, .int .i64 x, .int .i64 y]] w fun r w' => r = .returned (.tuple #[.string ⟨#[]⟩, .int .i64 170]) ∧ Below w.heap.size w w' := by
  by_cases h0 : e < 0
  · go_enter Try.func17, Try.ntmps17
    go_wp2
    go_ret2
    exact ⟨rfl, (Below.refl _ w).alloc (Nat.le_refl _) _⟩
  · have h2 : 999 < e := by omega
    go_enter Try.func17, Try.ntmps17
    go_wp2
    go_ret2
    exact ⟨rfl, (Below.refl _ w).alloc (Nat.le_refl _) _⟩

set_option maxHeartbeats 400000 in
theorem isOp_yes (x : Int) (w : World) (h0 : 1 ≤ x) (h1 : x ≤ 21) : Calls Try.prog 26 #[.int .u64 x] w fun e w' => e = .returned (.bool true) ∧ w = w' := by
  have hd : decide (x ≤ 21) = true := by simp; omega
  go_enter Try.func26, Try.ntmps26
  go_wp2
  go_ret
  exact ⟨rfl, rfl⟩

set_option maxHeartbeats 400000 in
theorem isOp_no (x : Int) (w : World) (h0 : x < 1 ∨ 21 < x) : Calls Try.prog 26 #[.int .u64 x] w fun e w' => e = .returned (.bool false) ∧ w = w' := by
  by_cases h : 1 ≤ x
  · have hd : decide (x ≤ 21) = false := by simp; omega
    go_enter Try.func26, Try.ntmps26
    go_wp2
    go_ret
    exact ⟨rfl, rfl⟩
  · go_enter Try.func26, Try.ntmps26
    go_wp2
    go_ret
    exact ⟨rfl, rfl⟩

/-- The bytes of a request. -/
def reqBytes (op a b it : Nat) (n m : Int) : List UInt8 := be op 1 ++ be a 4 ++ be b 4 ++ be it 2 ++ be (u64 n) 8 ++ be (u64 m) 8

set_option maxHeartbeats 400000 in
set_option maxRecDepth 100000 in
theorem request_ok (op a b it : Nat) (n m : Int) (w : World) (h0 : 1 ≤ op) (h1 : op ≤ 21) (ha : a < 4294967296) (hb : b < 4294967296) (hi : it < 65536) :
    Calls Try.prog 14 #[.agg #[.int .i64 op, .int .u32 a, .int .u32 b, .int .u16 it, .int .i64 n, .int .i64 m]] w fun r w' => r = .returned (.tuple #[.string ⟨(reqBytes op a b it n m).toArray⟩, .int .i64 0]) ∧ Below w.heap.size w w' := by
  have hx := u64_eq n
  have hy := u64_eq m
  go_enter Try.func14, Try.ntmps14
  go_wp2_with (go_at_call 26; refine (isOp_yes _ _ (by omega) (by omega)).mono ?_; rintro e w' ⟨rfl, rfl⟩)
  refine (call_fields (w.alloc _) (w.heap.size + 1) 6 [(op, 1), (a, 4), (b, 4), (it, 2), (u64 n, 8), (u64 m, 8)] _ (by simp) (by simp [fieldCells]) rfl (by omega) ?_ (by simp [fieldBytes, be])).mono ?_
  · have := u64_lt n
    have := u64_lt m
    intro f hf
    simp only [List.mem_cons, List.not_mem_nil, or_false] at hf
    rcases hf with rfl | rfl | rfl | rfl | rfl | rfl <;> simp <;> omega
  rintro r w2 ⟨rfl, hb⟩
  have hb2 := Lib.hid (below_box hb)
  clear hb
  go_wp2
  go_ret2
  exact ⟨by simp [fieldBytes, reqBytes], hb2.out⟩

theorem u64_bad (op : Int) (wf : (Lit.int .i64 op).wf = true) (h : op < 1 ∨ 21 < op) : u64 op = 0 ∨ 21 < u64 op := by
  have hb := bounds_i64 wf
  unfold u64
  rw [IntKind.wrap_u64]
  omega

set_option maxHeartbeats 400000 in
set_option maxRecDepth 100000 in
theorem request_bad (op a b it n m : Int) (w : World) (h : u64 op = 0 ∨ 21 < u64 op) :
    Calls Try.prog 14 #[.agg #[.int .i64 op, .int .u32 a, .int .u32 b, .int .u16 it, .int .i64 n, .int .i64 m]] w fun r w' => r = .returned (.tuple #[.string ⟨#[]⟩, .int .i64 170]) ∧ Below w.heap.size w w' := by
  have hx := u64_eq op
  go_enter Try.func14, Try.ntmps14
  go_wp2_with (go_at_call 26; refine (isOp_no _ _ (by omega)).mono ?_; rintro e w' ⟨rfl, rfl⟩)
  go_ret2
  exact ⟨rfl, (Below.refl _ w).alloc (Nat.le_refl _) _⟩

set_option maxHeartbeats 400000 in
set_option maxRecDepth 100000 in
theorem frame_ok (s : ByteArray) (w : World) (h0 : 1 ≤ s.size) (h1 : s.size ≤ 100) :
    Calls Try.prog 10 #[.string s] w fun r w' => r = .returned (.tuple #[.string (⟨(be s.size 2).toArray⟩ ++ s), .int .i64 0]) ∧ Below w.heap.size w w' := by
  have hl : s.toList.length = s.size := by rw [ByteArray.toList_eq]; simp
  have hne : s.toList.isEmpty = false := by
    cases hs : s.toList with
    | nil => rw [hs] at hl; simp at hl; omega
    | cons => rfl
  have hnn : s.toList = [] ↔ False := by
    constructor
    · intro h; rw [h] at hne; simp at hne
    · exact False.elim
  clear hl
  go_enter Try.func10, Try.ntmps10
  go_wp2_with fail
  refine (call_fields w w.heap.size 1 [(s.size, 2)] _ rfl (by simp [fieldCells]) rfl (by omega) ?_ (by simp [fieldBytes, be])).mono ?_
  · intro f hf
    simp only [List.mem_cons, List.not_mem_nil, or_false] at hf
    subst hf
    simp
    omega
  rintro r w2 ⟨rfl, hb⟩
  have hb2 := Lib.hid hb
  clear hb
  obtain ⟨hd, hhd⟩ : ∃ hd, hd = (⟨(fieldBytes [(s.size, 2)]).toArray⟩ : ByteArray) := ⟨_, rfl⟩
  have hsz : hd.size ≤ 2 := by rw [hhd]; show (fieldBytes [(s.size, 2)]).toArray.size ≤ 2; simp [fieldBytes, be_length]
  rw [← hhd]
  have HD := Lib.hid hhd
  clear hhd
  go_wp2
  go_ret2
  exact ⟨by rw [HD.out]; simp [fieldBytes], hb2.out⟩

set_option maxHeartbeats 400000 in
set_option maxRecDepth 100000 in
theorem frame_bad (s : ByteArray) (w : World) (h0 : s.size = 0 ∨ 100 < s.size) (hm : s.size ≤ maxLen) :
    Calls Try.prog 10 #[.string s] w fun r w' => r = .returned (.tuple #[.string ⟨#[]⟩, .int .i64 170]) ∧ Below w.heap.size w w' := by
  unfold maxLen at hm
  by_cases h : s.size = 0
  · obtain rfl : s = ⟨#[]⟩ := by
      apply ByteArray.ext
      exact Array.eq_empty_of_size_eq_zero h
    go_enter Try.func10, Try.ntmps10
    go_wp2
    go_ret2
    exact ⟨rfl, Below.refl _ _⟩
  · have h2 : 100 < s.size := by omega
    have hl : s.toList.length = s.size := by rw [ByteArray.toList_eq]; simp
    have hne : s.toList.isEmpty = false := by
      cases hs : s.toList with
      | nil => rw [hs] at hl; simp at hl; omega
      | cons => rfl
    have hnn : s.toList = [] ↔ False := by
      constructor
      · intro h; rw [h] at hne; simp at hne
      · exact False.elim
    clear hl h h0
    go_enter Try.func10, Try.ntmps10
    go_wp2
    go_ret2
    exact ⟨rfl, Below.refl _ _⟩
end Go.Proofs.Ytbjbadnkpeakcaa
