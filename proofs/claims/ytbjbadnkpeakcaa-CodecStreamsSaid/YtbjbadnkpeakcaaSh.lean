/- What the statements' own helpers shown and cut answer. -/
import Derived.Test.YtbjbadnkpeakcaaPr
import Derived.Laws.MakeOwn
import Derived.Laws.BytesArg
import Derived.Deep.OwnRows
set_option linter.unusedSimpArgs false
namespace Go.Proofs.Ytbjbadnkpeakcaa
open Go.RowKit
set_option linter.unusedVariables false

/-- n zero bytes: as cells, as a text. -/
def zc (n : Nat) : Array Value := madeCells #[.int .u8 0] n
def zs (n : Nat) : ByteArray := strOfNums (List.replicate n 0)
theorem zs_size (n : Nat) : (zs n).size = n := by simp [zs, strOfNums_size]
theorem zs_list (n : Nat) : (zs n).data.toList = List.replicate n 0 := by
  rw [zs, strOfNums_data]; simp

theorem make_zeros (n : Nat) (hn : n ≤ 1000) (k : Int) (hk : k = n) : ∀ W : World, (Instr.makeSlice 26 (.int .i64 k) (.int .i64 k)).run Try.prog W = .ok (.slice (some ⟨W.heap.size, 0, none⟩) n n) (W.alloc (.cells (zc n) 5)) := by
  subst hk
  exact fun W => run_make_row' 26 5 (.int .u8 0) 1 Try.underlying26 infoByte rfl .i64 .i64 n (by omega) (by omega) W

theorem conv_zeros (n : Nat) : ∀ W : World, (convert 26 9 (.slice (some ⟨W.heap.size, 0, none⟩) n n)).run Try.prog (W.alloc (.cells (zc n) 5)) = .ok (.string (zs n)) (W.alloc (.cells (zc n) 5)) := by
  intro W
  refine run_convert_bytes_arg _ 26 5 Try.underlying26 Try.underlying5 W.heap.size 0 n n (List.replicate n 0) (by simp) (fun i hi => ?_) 9 Try.underlying9
  rw [Nat.zero_add, blk_cell (heap_alloc_new W _)]
  simp [zc, madeCells, hi, Nat.mod_one]

theorem conv_zeros1 (n : Nat) : ∀ (W : World) (o : Obj), (convert 26 9 (.slice (some ⟨W.heap.size + 1, 0, none⟩) n n)).run Try.prog ((W.alloc o).alloc (.cells (zc n) 5)) = .ok (.string (zs n)) ((W.alloc o).alloc (.cells (zc n) 5)) := by
  intro W o
  have := conv_zeros n (W.alloc o)
  rwa [World.size_alloc] at this

theorem cut_size (s : ByteArray) : (s.extract 0 (min s.size 60)).size = min s.size 60 := by simp

set_option maxHeartbeats 400000 in
set_option maxRecDepth 100000 in
theorem cut_any (s : ByteArray) (w : World) (hs : s.size ≤ maxLen) : Calls Try.prog 12 #[.string s] w fun e w' => e = .returned (.string (s.extract 0 (min s.size 60))) ∧ w = w' := by
  unfold maxLen at hs
  go_enter Try.func12, Try.ntmps12
  go_wp2
  go_ret
  refine ⟨?_, rfl⟩
  show Ending.returned (Value.string (s.extract 0 (min (s.size : Int) 60).toNat)) = _
  rw [show (min (s.size : Int) 60).toNat = min s.size 60 by omega]

theorem shown_text : (⟨(be 112 2 ++ be (u64 0) 8 ++ be (u64 0) 8).toArray⟩ : ByteArray) = ⟨#[0, 112]⟩ ++ zs 16 := by decide +kernel

set_option maxHeartbeats 400000 in
set_option maxRecDepth 100000 in
theorem shown_any (w : World) : Calls Try.prog 9 #[] w fun e w' => e = .returned (.bool true) ∧ Below w.heap.size w w' := by
  have hm := make_zeros 16 (by omega) 16 rfl
  have hc := conv_zeros1 16
  have hz : (zs 16).size ≤ 16 := by rw [zs_size]; omega
  go_enter Try.func9, Try.ntmps9
  go_wp2_with fail
  refine (reply_ok 112 0 0 _ (by omega)).mono ?_
  rintro e w1 ⟨rfl, hb⟩
  rw [shown_text]
  obtain ⟨st, hst⟩ : ∃ st, (⟨#[0, 112]⟩ ++ zs 16 : ByteArray) = st := ⟨_, rfl⟩
  rw [hst]
  have HB := Lib.hid hb
  clear hb
  go_wp2_with fail
  refine (parseReq_size ⟨#[]⟩ _ (by decide)).mono ?_
  rintro e w2 ⟨rfl, hb2⟩
  have HB2 := Lib.hid hb2
  clear hb2
  go_wp2
  go_ret
  exact ⟨rfl, ((((HB.out.trans (HB2.out.mono HB.out.size)).alloc (by have := HB.out.size; have := HB2.out.size; omega) _).alloc (by have := HB.out.size; have := HB2.out.size; simp; omega) _))⟩
end Go.Proofs.Ytbjbadnkpeakcaa
