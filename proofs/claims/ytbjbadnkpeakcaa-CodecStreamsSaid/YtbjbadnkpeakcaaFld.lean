/- What (*codec.writer).fields answers, at a writer that was just made: the fields' bytes, one behind the other. -/
import Derived.Test.YtbjbadnkpeakcaaBld
import Derived.Test.YtbjbadnkpeakcaaPl
import Derived.StillTailTactics
import Derived.Deep.DeepCutAuto
import Derived.Deep.LoopGhost
import Derived.Deep.DeepFit
import Derived.Lib.Hide
set_option linter.unusedSimpArgs false
namespace Go.Proofs.Ytbjbadnkpeakcaa
open Go.RowKit
set_option linter.unusedVariables false

/-- The cells of fields: a number, and how many bytes it takes. -/
def fieldCells (fs : List (Nat × Nat)) : List Value := fs.flatMap fun f => [.int .u64 (f.1 : Int), .int .i64 (f.2 : Int)]
theorem fieldCells_at (fs : List (Nat × Nat)) (i : Nat) (h : i < fs.length) : (fieldCells fs)[i * 2]? = some (.int .u64 ((fs[i]'h).1 : Int)) ∧ (fieldCells fs)[i * 2 + 1]? = some (.int .i64 ((fs[i]'h).2 : Int)) := by
  induction fs generalizing i with
  | nil => simp at h
  | cons f fs ih =>
    cases i with
    | zero => simp [fieldCells]
    | succ i =>
      have := ih i (by simpa using h)
      simp only [fieldCells, List.flatMap_cons, List.cons_append, List.nil_append] at this ⊢
      rw [show (i + 1) * 2 = (i * 2) + 1 + 1 by omega]
      simpa using this
/-- Their bytes. -/
def fieldBytes (fs : List (Nat × Nat)) : List UInt8 := fs.flatMap fun f => be f.1 f.2

theorem fieldBytes_snoc (fs : List (Nat × Nat)) (i : Nat) (h : i < fs.length) : fieldBytes (fs.take (i + 1)) = fieldBytes (fs.take i) ++ be (fs[i]'h).1 (fs[i]'h).2 := by
  unfold fieldBytes
  rw [List.take_succ_eq_append_getElem h, List.flatMap_append]
  simp

theorem fieldBytes_length (fs : List (Nat × Nat)) (hs : ∀ f ∈ fs, f.1 < 18446744073709551616 ∧ f.2 ≤ 8) : (fieldBytes fs).length ≤ 8 * fs.length := by
  induction fs with
  | nil => simp [fieldBytes]
  | cons f fs ih =>
    have h1 := ih (fun g hg => hs g (by simp [hg]))
    have h2 := (hs f (by simp)).2
    simp only [fieldBytes, List.flatMap_cons, List.length_append, be_length, List.length_cons] at h1 ⊢
    omega

theorem toNat_shr (n k : Nat) : UInt8.toNat (UInt8.ofNat (n >>> (8 * k))) = n / 2 ^ (8 * k) % 256 := by
  rw [UInt8.toNat_ofNat', Nat.shiftRight_eq_div_pow]

theorem byte_of (n r : Nat) : (n : Int) / 2 ^ (8 * r) % 256 = ((UInt8.ofNat (n >>> (8 * r))).toNat : Int) := by
  rw [UInt8.toNat_ofNat', Nat.shiftRight_eq_div_pow]
  generalize 8 * r = m
  rw [show ((2 : Int) ^ m) = ((2 ^ m : Nat) : Int) by push_cast; rfl]
  generalize 2 ^ m = q
  omega

/-- What the loops keep: the writer holds these bytes, what lay below is as it was, the fields lie where they lay. -/
def Kept (bw bl : Nat) (fs : List (Nat × Nat)) (w : World) (bs : List UInt8) (wr : World) : Prop :=
  Lib.IsBuilder 54 5 bw bw (Lib.byteCells bs) wr ∧ Below bw w wr ∧ wr.heap[bl]? = some (.cells (fieldCells fs).toArray 58 (0, 0)) ∧ bw < wr.heap.size

theorem IsBuilder.alloc {T e : TypeId} {B b : Nat} {bs : List Value} {w : World} (h : Lib.IsBuilder T e B b bs w) (o : Obj) : Lib.IsBuilder T e B b bs (w.alloc o) := by
  have key : ∀ p, Lib.BuilderAt T e B b p bs w → Lib.BuilderAt T e B b p bs (w.alloc o) := by
    rintro p ⟨h1, v, h2, h3, h4⟩
    exact ⟨h1, v, (Lib.alloc_old w o b (Array.getElem?_eq_some_iff.1 h2).1).trans h2, h3.alloc _, h4⟩
  exact h.imp (key _) (key _)

theorem IsBuilder.drew {T e : TypeId} {B b : Nat} {bs : List Value} {w : World} (h : Lib.IsBuilder T e B b bs w) : Lib.IsBuilder T e B b bs w.drew := h

theorem Kept.box {bw bl : Nat} {fs : List (Nat × Nat)} {w : World} {bs : List UInt8} {wr : World} (h : Kept bw bl fs w bs wr) (cs : Array Value) (t : TypeId) :
    Kept bw bl fs w bs (wr.alloc (.cells cs t)) ∧ (wr.alloc (.cells cs t)).heap[wr.heap.size]? = some (.cells cs t (0, 0)) :=
  ⟨⟨IsBuilder.alloc h.1 _, h.2.1.alloc (by have := h.2.2.2; omega) _, (Lib.alloc_old wr _ bl (Array.getElem?_eq_some_iff.1 h.2.2.1).1).trans h.2.2.1, by have := h.2.2.2; simp; omega⟩, heap_alloc_new wr _⟩

theorem Kept.put {bw bl bx : Nat} {fs : List (Nat × Nat)} {w : World} {bs : List UInt8} {c : UInt8} {wr w2 : World} {cs : Array Value} (h : Kept bw bl fs w bs wr) (hx : wr.heap[bx]? = some (.cells cs 58 (0, 0)))
    (hb : Lib.BuilderAt 54 5 bw bw (.pointer (some ⟨bw, 0, none⟩)) (Lib.byteCells bs ++ [.int .u8 (c.toNat : Int)]) w2) (hB : Below bw wr.drew w2) (hk : Lib.OthersKept 5 (some bw) wr.drew w2) :
    Kept bw bl fs w (bs ++ [c]) w2 ∧ w2.heap[bx]? = some (.cells cs 58 (0, 0)) := by
  obtain ⟨h1, h2, h3, h4⟩ := h
  have hne : ∀ (k : Nat) (ds : Array Value), wr.heap[k]? = some (.cells ds 58 (0, 0)) → w2.heap[k]? = some (.cells ds 58 (0, 0)) := by
    intro k ds hk'
    refine hk k _ hk' ?_ (by intro c fz e; cases e)
    intro e
    cases e
    rcases h1 with ⟨_, v, hv, _⟩ | ⟨_, v, hv, _⟩ <;> rw [hv] at hk' <;> cases hk'
  refine ⟨⟨.inr (by simpa [Lib.byteCells] using hb), (Below.drew h2).trans hB, hne _ _ h3, ?_⟩, hne _ _ hx⟩
  have := hB.size
  have e : wr.drew.heap.size = wr.heap.size := rfl
  omega

set_option maxHeartbeats 400000 in
set_option maxRecDepth 100000 in
theorem fields_any (bw bl : Nat) (fs : List (Nat × Nat)) (w : World) (hbw : Lib.IsBuilder 54 5 bw bw [] w) (hbl : w.heap[bl]? = some (.cells (fieldCells fs).toArray 58 (0, 0)))
    (hn : fs.length ≤ 100) (hs : ∀ f ∈ fs, f.1 < 18446744073709551616 ∧ f.2 ≤ 8) (hne : fieldBytes fs ≠ []) (hlt : bw < w.heap.size) :
    Calls Try.prog 24 #[.pointer (some ⟨bw, 0, none⟩), .slice (some ⟨bl, 0, none⟩) fs.length fs.length] w fun e w' => e = .returned (.string ⟨(fieldBytes fs).toArray⟩) ∧ Below bw w w' := by
  have HN := Lib.hid hne
  have HS := Lib.hid hs
  have H0 : Hid (Kept bw bl fs w [] w) := ⟨hbw, Below.refl _ _, hbl, hlt⟩
  clear hne hs hbw hbl hlt
  go_enter Try.func24, Try.ntmps24
  go_wp2
  go_loopw [10] (fun i wr => ∃ k : Nat, k ≤ fs.length ∧ i = .int .i64 k ∧ Hid (Kept bw bl fs w (fieldBytes (fs.take k)) wr)) (fun i _ => fs.length - (intOf i).toNat)
  case atStart => exact ⟨0, Nat.zero_le _, rfl, by simpa [fieldBytes] using H0⟩
  case round =>
    obtain ⟨k, hk, rfl, HK⟩ := hrel
    by_cases hlt : k < fs.length
    · have HS1 := Lib.hid (fieldBytes_snoc fs k hlt)
      have hq := HS.out _ (List.getElem_mem hlt)
      have hc := fieldCells_at fs k hlt
      obtain ⟨n, sz, hnsz⟩ : ∃ n sz, fs[k]'hlt = (n, sz) := ⟨_, _, rfl⟩
      rw [hnsz] at hq hc HS1
      clear hnsz
      obtain ⟨hq1, hq2⟩ := hq
      simp only at hq1 hq2 hc HS1
      have hc0 : wr.cell? ⟨bl, k * 2, none⟩ = some (.int .u64 (n : Int)) := by rw [Lib.cell_of_heap HK.out.2.2.1]; simpa using hc.1
      have hc1 : wr.cell? ⟨bl, k * 2 + 1, none⟩ = some (.int .i64 (sz : Int)) := by rw [Lib.cell_of_heap HK.out.2.2.1]; simpa using hc.2
      clear hc
      have hle : (fieldBytes (fs.take k)).length ≤ 8 * k := by
        have := fieldBytes_length (fs.take k) (fun f hf => HS.out f (List.mem_of_mem_take hf))
        rw [List.length_take] at this; omega
      have HQ1 := Lib.hid hq1
      clear hq1
      go_wp2
      have HX := Lib.hid (HK.out.box #[.int .u64 (n : Int), .int .i64 (sz : Int)] 58)
      obtain ⟨wo, hwo⟩ : ∃ wo : World, wo = wr.alloc (.cells #[.int .u64 (n : Int), .int .i64 (sz : Int)] 58) := ⟨_, rfl⟩
      rw [← hwo] at HX ⊢
      clear hwo hc0 hc1
      obtain ⟨bx, hbx⟩ : ∃ bx, bx = wr.heap.size := ⟨_, rfl⟩
      rw [← hbx] at HX ⊢
      clear hbx HK
      go_loopw [7] (fun j wq => ∃ r : Nat, r ≤ sz ∧ j = .int .i64 ((r : Int) - 1) ∧ ∃ bs, Hid (bs ++ be n r = fieldBytes (fs.take (k + 1))) ∧ Hid (Kept bw bl fs w bs wq ∧ wq.heap[bx]? = some (.cells #[.int .u64 (n : Int), .int .i64 (sz : Int)] 58 (0, 0)))) (fun j _ => ((intOf j) + 1).toNat)
      case atStart => exact ⟨sz, Nat.le_refl _, rfl, _, HS1.out.symm, HX.out⟩
      case round =>
        obtain ⟨r, hr, rfl, bs, HE, HI⟩ := hrel
        have hbs : bs.length ≤ 800 := by
          have h1 := congrArg List.length HE.out
          rw [List.length_append, be_length] at h1
          have h2 := congrArg List.length HS1.out
          rw [List.length_append, be_length] at h2
          omega
        cases r with
        | zero =>
          have HE2 := HE.out
          rw [be, List.append_nil] at HE2
          subst HE2
          go_wp2
          go_roundw
          case rel => exact ⟨k + 1, by omega, by go_num, HI.out.1⟩
          case measure => simp [intOf]; omega
        | succ r =>
          have hx0 : wr.cell? ⟨bx, 0, none⟩ = some (.int .u64 (n : Int)) := by rw [Lib.cell_of_heap HI.out.2]; rfl
          have hw : IntKind.i64.wrap (8 * (r : Int)) = 8 * (r : Int) := IntWalk.i64_in _ (by omega)
          have hp : (0 : Int) ≤ 8 * (r : Int) := by omega
          go_wp2
          go_still_tail 9, (by kernel_rfl)
          change wpList _ _ _ _ _ wr.drew
          go_wp2_with fail
          rw [byte_of]
          generalize hc : UInt8.ofNat (n >>> (8 * r)) = c
          have HC := Lib.hid hc
          clear hc
          refine (writeByte bw bw (Lib.byteCells bs) _ wr.drew (IsBuilder.drew HI.out.1.1) (by rw [Lib.byteCells_length]; omega) (by have := HI.out.1.2.2.2; exact Nat.le_of_lt this)).mono ?_
          rintro e w2 ⟨rfl, hb2, hB2, hk2⟩
          have H2 := Lib.hid (HI.out.1.put HI.out.2 hb2 hB2 hk2)
          rw [← HC.out] at H2
          clear HC
          clear hb2 hB2 hk2 hx0 hw
          go_wp2
          go_roundw
          case rel => exact ⟨r, by omega, by go_num, _, Lib.hid (by have := HE.out; rw [be] at this; rw [List.append_assoc]; exact this), H2⟩
          case measure => simp [intOf]
    · obtain rfl : k = fs.length := by omega
      have HK2 := HK.out
      rw [List.take_length] at HK2
      clear HK
      have HK3 := Lib.hid HK2
      clear HK2 hlt
      go_wp2_with fail
      refine (builderString bw bw _ _ HK3.out.1 HN.out).mono ?_
      rintro e w2 ⟨rfl, hB2⟩
      have H2 := Lib.hid (HK3.out.2.1.trans hB2)
      clear hB2
      go_wp2
      go_ret
      exact ⟨rfl, H2.out⟩
end Go.Proofs.Ytbjbadnkpeakcaa
