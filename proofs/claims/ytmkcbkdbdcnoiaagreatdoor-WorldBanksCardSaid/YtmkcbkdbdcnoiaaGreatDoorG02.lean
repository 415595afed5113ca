/- append onto a row that is full: what is left reads as both; nothing that was there has turned. Plain functions and facts, without Go: numbers as bytes, the greatest first, and back. Bytes that are built: the row's text, a number's bytes. Package keys: within, Right. -/
import Derived.Deep.AppendSrc
import Derived.Deep.Upon
import Derived.OwnWalk
import Derived.OwnWalkIn
import Derived.Laws.OwnMore
import Derived.Lib.IndexBytes
import Derived.Lib.Builder
import Derived.Lib.UnsafeStr
import Derived.Lib.Hide
import Derived.Maps.AppendAt
import Derived.Test.YtmkcbkdbdcnoiaaGreatDoorG01
namespace Go.Proofs.YtmkcbkdbdcnoiaaGreatDoor
open Go.RowKit
set_option linter.unusedVariables false
set_option linter.unusedSimpArgs false

section
variable {P : Program}
theorem src_of_sees {w : World} {v : Value} {m size : Nat} {ys : List Value} {t e : TypeId} (ht : P.underlying t = some (.slice e)) (h : Sees w v m size ys) (h1 : ∀ u ∈ ys, u.oneCell' = true) : Src P size t v m ys w := by
  obtain ⟨hl, base, cap, rfl, hc, h⟩ := h
  rcases base with _ | ad
  · have hm : m = 0 := by
      rcases h with h | ⟨a, ha, _⟩
      · exact h
      · cases ha
    subst hm
    have : ys = [] := List.eq_nil_of_length_eq_zero (by simpa using hl)
    subst this
    exact Src.ofNil w ht cap
  · refine Src.ofSlice w ht ad m cap ys hl (fun j u hj => ?_) h1
    rcases h with h | ⟨a, ha, hcs⟩
    · subst h
      have : ys = [] := List.eq_nil_of_length_eq_zero (by simpa using hl)
      subst this; simp at hj
    · cases ha
      exact hcs j u hj
theorem first_of_sees {w : World} {base : Option Addr} {n cap size : Nat} {xs : List Value} (h : Sees w (.slice base n cap) n size xs) : (Builtin.firstCells size n (.slice base n cap)).run P w = .ok xs.toArray w := by
  obtain ⟨hl, b, c, he, hc, h⟩ := h
  simp only [Value.slice.injEq, true_and] at he
  obtain ⟨rfl, rfl⟩ := he
  rcases base with _ | ad
  · have hm : n = 0 := by
      rcases h with h | ⟨a, ha, _⟩
      · exact h
      · cases ha
    subst hm
    have : xs = [] := List.eq_nil_of_length_eq_zero (by simpa using hl)
    subst this
    exact run_firstCells_none w size 0 0 cap
  · refine run_firstCells_some w size n ad n cap xs hl fun j u hj => ?_
    rcases h with h | ⟨a, ha, hcs⟩
    · subst h
      have : xs = [] := List.eq_nil_of_length_eq_zero (by simpa using hl)
      subst this; simp at hj
    · cases ha
      exact hcs j u hj
theorem Sees.drew {w : World} {v : Value} {n sz : Nat} {xs : List Value} (h : Sees w v n sz xs) : Sees w.drew v n sz xs := h

/-- What is left behind such an append. -/
structure Full (w w' : World) (base : Option Addr) (n m size : Nat) (e : TypeId) (zs : List Value) (v' : Value) : Prop where
  sees : Sees w' v' (n + m) size zs
  below : Below w.heap.size w w'
  none : m = 0 → v' = .slice base n n ∧ w' = w
  some : 0 < m → w'.ownsRow w.heap.size e size v' (n + m) zs

theorem run_append_full (w : World) {t ty e : TypeId} {i : TypeInfo} {z : Value} {size bytes : Nat} (ht : P.underlying t = some (.slice e)) (hi : P.info? e = some i) (hz : i.zero = some z) (hsize : i.size = size) (hby : i.bytes = bytes) (hzs : z.cells.size = size)
    {base : Option Addr} {n m : Nat} {xv : Value} {xs ys : List Value} (hsv : Sees w (.slice base n n) n size xs) (hxv : Sees w xv m size ys) (h1 : ∀ u ∈ ys, u.oneCell' = true) (hl : n + m ≤ 1000000) (hb : bytes ≤ 1000) :
    ∃ v' w', (Builtin.append_ #[t, t] ty #[.slice base n n, xv]).run P w = .ok v' w' ∧ Full w w' base n m size e (xs ++ ys) v' := by
  subst hsize
  subst hby
  have hs := src_of_sees (P := P) ht hxv h1
  rcases Nat.eq_zero_or_pos m with h0 | h0
  · subst h0
    have hy : ys = [] := List.eq_nil_of_length_eq_zero (by simpa using hxv.1)
    subst hy
    exact ⟨_, _, run_append_nothing w t t ty e i ht hi base n n (Nat.le_refl _) xv hs, by simpa using hsv, Below.refl _ _, fun _ => ⟨rfl, rfl⟩, fun h => by omega⟩
  · have hnb : (n + m) * i.bytes ≤ 1000000 * 1000 := Nat.mul_le_mul hl hb
    have hge := grownCap_ge w (n + m) n e
    have hcm := grownCap_le_maxLen w (n + m) n e (by simp only [maxLen]; omega)
    have hrun := run_append_grow_src w t t ty e i z ht hi hz base n n xs (first_of_sees hsv.drew) xv m ys hs (by omega) (by omega) (growslice_fits (by omega) (by omega))
    have hlen : (xs ++ ys).length = (n + m) * i.size := by rw [List.length_append, hsv.1, hxv.1, Nat.add_mul]
    have hown : World.ownsRow (w.drew.alloc (.cells ((xs ++ ys).toArray ++ Builtin.zeroCells z.cells (grownCap w (n + m) n e - (n + m))) e)) w.heap.size e i.size (.slice (some ⟨w.heap.size, 0, none⟩) (n + m) (grownCap w (n + m) n e)) (n + m) (xs ++ ys) := by
      refine ⟨hlen, .inr ⟨w.heap.size, _, _, rfl, Nat.le_refl _, heap_alloc_new w.drew _, hge, hcm, ?_, ?_⟩⟩
      · rw [Array.size_append, size_zeroCells, hzs, List.size_toArray, hlen, ← Nat.add_mul]
        congr 1; omega
      · rw [Array.toList_append]
        simp only [List.toList_toArray]
        try exact List.take_left' hlen
    exact ⟨_, _, hrun, Sees.of_own hown, (Below.drew (Below.refl _ w)).alloc (Nat.le_refl _) _, fun h => by omega, fun _ => hown⟩

theorem append_full {ops : Array Oper} {rest : List Oper} {o : Oper} {a : Act} {Q : Exit → Act → World → Prop} {w : World} (hgd : o.guard = none) (s x : Operand) (t : TypeId)
    (ho : o.op = .call { callee := .builtin .append, args := #[s, x], argTypes := #[t, t] }) {e : TypeId} {i : TypeInfo} {z : Value} {size bytes : Nat} (ht : P.underlying t = some (.slice e)) (hi : P.info? e = some i) (hz : i.zero = some z) (hsize : i.size = size) (hby : i.bytes = bytes) (hzs : z.cells.size = size)
    (base : Option Addr) (n m : Nat) (xv : Value) (xs ys : List Value) (hs : a.eval s = .slice base n n) (hx : a.eval x = xv) (hsv : Sees w (.slice base n n) n size xs) (hxv : Sees w xv m size ys) (h1 : ∀ u ∈ ys, u.oneCell' = true) (hl : n + m ≤ 1000000) (hb : bytes ≤ 1000)
    (h : ∀ v' w', Full w w' base n m size e (xs ++ ys) v' → wpList P ops Q rest (a.put o.dst v') w') : wpList P ops Q (o :: rest) a w := by
  refine wpList_plain hgd fun K hK => ?_
  obtain ⟨v', w', hrun, hf⟩ := run_append_full w (ty := o.type) ht hi hz hsize hby hzs hsv hxv h1 hl hb
  unfold Oper.wp
  simp only [execOp, ho, resolve, invoke, builtin, Sem.run_bind, Sem.run_pure, Result.andThen_ok, List.map_toArray, List.map_cons, List.map_nil, hs, hx, hrun]
  exact hK _ _ (h _ _ hf)
end
theorem addr_twice (a : Addr) (i j : Nat) : (a.add i).add j = a.add (i + j) := by
  unfold Addr.add
  by_cases hi : i = 0 <;> by_cases hj : j = 0 <;> simp [hi, hj, Nat.add_assoc]
theorem Sees.cut {w : World} {base : Option Addr} {n cap sz : Nat} {xs : List Value} (h : Sees w (.slice base n cap) n sz xs) (k : Nat) (hk : k ≤ n) :
    Sees w (.slice (if cap = k then base else base.map fun x => x.add (k * sz)) (n - k) (cap - k)) (n - k) sz (xs.drop (k * sz)) := by
  obtain ⟨hl, b, c, he, hc, hr⟩ := h
  simp only [Value.slice.injEq, true_and] at he
  obtain ⟨rfl, rfl⟩ := he
  refine ⟨by rw [List.length_drop, hl, Nat.sub_mul], _, _, rfl, by omega, ?_⟩
  rcases Nat.eq_zero_or_pos (n - k) with h0 | h0
  · exact .inl h0
  · obtain ⟨a, rfl, hcs⟩ := hr.resolve_left (by omega)
    rw [if_neg (by omega)]
    refine .inr ⟨a.add (k * sz), rfl, fun j u hj => ?_⟩
    rw [addr_twice]
    rw [List.getElem?_drop] at hj
    exact hcs _ u hj
theorem Sees.front {w : World} {base : Option Addr} {n cap sz : Nat} {xs : List Value} (h : Sees w (.slice base n cap) n sz xs) (k c : Nat) (hk : k ≤ n) (hc : k ≤ c) : Sees w (.slice base k c) k sz (xs.take (k * sz)) := by
  obtain ⟨hl, b, c', he, _, hr⟩ := h
  simp only [Value.slice.injEq, true_and] at he
  obtain ⟨rfl, rfl⟩ := he
  have hm : k * sz ≤ n * sz := Nat.mul_le_mul_right _ hk
  refine ⟨by rw [List.length_take, hl]; omega, _, _, rfl, hc, ?_⟩
  rcases Nat.eq_zero_or_pos k with h0 | h0
  · exact .inl h0
  · obtain ⟨a, rfl, hcs⟩ := hr.resolve_left (by omega)
    refine .inr ⟨a, rfl, fun j u hj => ?_⟩
    have hlt := (List.getElem?_eq_some_iff.1 hj).1
    rw [List.length_take] at hlt
    rw [List.getElem?_take, if_pos (by omega)] at hj
    exact hcs j u hj
theorem Sees.cap_le {w : World} {base : Option Addr} {n cap sz : Nat} {xs : List Value} (h : Sees w (.slice base n cap) n sz xs) : n ≤ cap := by
  obtain ⟨hl, b, c', he, h, hr⟩ := h
  simp only [Value.slice.injEq, true_and] at he
  omega
theorem one_cat2 {α : Type} {f g : α → Value} (hf : ∀ x, (f x).oneCell' = true) (hg : ∀ x, (g x).oneCell' = true) (l : List α) : ∀ u ∈ cat2 f g l, u.oneCell' = true := by
  intro u hu
  obtain ⟨s, _, hs⟩ := List.mem_flatMap.1 hu
  rcases List.mem_cons.1 hs with rfl | hs
  · exact hf s
  · rw [List.mem_singleton.1 hs]; exact hg s
end Go.Proofs.YtmkcbkdbdcnoiaaGreatDoor
namespace Go.Proofs.YtmkcbkdbdcnoiaaGreatDoor

/-- The last k bytes of n, the greatest first. -/
def be (n : Nat) : Nat → List UInt8
  | 0 => []
  | k + 1 => UInt8.ofNat (n >>> (8 * k)) :: be n k

theorem be_length (n k : Nat) : (be n k).length = k := by
  induction k with
  | zero => rfl
  | succ k ih => simp [be, ih]

/-- The number of bytes, the greatest first. -/
def num (l : List UInt8) : Nat := l.foldl (fun n b => n * 256 + b.toNat) 0

theorem foldl_num (l : List UInt8) (n : Nat) : l.foldl (fun n b => n * 256 + b.toNat) n = n * 256 ^ l.length + num l := by
  unfold num
  induction l generalizing n with
  | nil => simp
  | cons b l ih =>
    simp only [List.foldl_cons, List.length_cons]
    rw [ih, ih (0 * 256 + b.toNat)]
    rw [Nat.pow_succ, Nat.add_mul, Nat.mul_assoc n 256, Nat.mul_comm 256 (256 ^ l.length), Nat.zero_mul, Nat.zero_add]
    omega

theorem num_cons (b : UInt8) (l : List UInt8) : num (b :: l) = b.toNat * 256 ^ l.length + num l := by
  have := foldl_num l (0 * 256 + b.toNat)
  unfold num at this ⊢
  simp only [List.foldl_cons]
  rw [this]
  simp

theorem num_snoc (l : List UInt8) (b : UInt8) : num (l ++ [b]) = num l * 256 + b.toNat := by
  unfold num
  simp [List.foldl_append]

theorem num_lt (l : List UInt8) : num l < 256 ^ l.length := by
  induction l with
  | nil => simp [num]
  | cons b l ih =>
    rw [num_cons, List.length_cons, Nat.pow_succ]
    have hb := b.toNat_lt
    have : b.toNat * 256 ^ l.length ≤ 255 * 256 ^ l.length := Nat.mul_le_mul_right _ (by omega)
    omega

theorem num_be (n k : Nat) : num (be n k) = n % 256 ^ k := by
  induction k with
  | zero => simp [be, num, Nat.mod_one]
  | succ k ih =>
    rw [be, num_cons, be_length, ih]
    have h1 : (UInt8.ofNat (n >>> (8 * k))).toNat = (n / 256 ^ k) % 256 := by
      rw [UInt8.toNat_ofNat', Nat.shiftRight_eq_div_pow, Nat.pow_mul]
    rw [h1, Nat.pow_succ, Nat.mod_mul, Nat.mul_comm (256 ^ k)]
    omega

theorem be_num (l : List UInt8) (n : Nat) : be (n * 256 ^ l.length + num l) l.length = l := by
  induction l generalizing n with
  | nil => rfl
  | cons b l ih =>
    rw [List.length_cons, be]
    have hlt := num_lt l
    have hp : 0 < 256 ^ l.length := Nat.pow_pos (by omega)
    congr 1
    · have : (n * 256 ^ (l.length + 1) + num (b :: l)) >>> (8 * l.length) = n * 256 + b.toNat := by
        rw [Nat.shiftRight_eq_div_pow, Nat.pow_mul, num_cons, Nat.pow_succ]
        show (n * (256 ^ l.length * 256) + (b.toNat * 256 ^ l.length + num l)) / 256 ^ l.length = _
        rw [show n * (256 ^ l.length * 256) + (b.toNat * 256 ^ l.length + num l) = num l + 256 ^ l.length * (n * 256 + b.toNat) by
          rw [Nat.mul_add, Nat.mul_comm b.toNat, Nat.mul_left_comm n]
          omega]
        rw [Nat.add_mul_div_left _ _ hp, Nat.div_eq_of_lt hlt]; omega
      rw [this]
      apply UInt8.toNat_inj.1
      rw [UInt8.toNat_ofNat']
      have := b.toNat_lt
      omega
    · have := ih (n * 256 + b.toNat)
      rw [show n * 256 ^ (l.length + 1) + num (b :: l) = (n * 256 + b.toNat) * 256 ^ l.length + num l by
        rw [num_cons, Nat.pow_succ, Nat.add_mul, Nat.mul_assoc, Nat.mul_comm 256 (256 ^ l.length)]; omega]
      exact this

theorem be_num' (l : List UInt8) : be (num l) l.length = l := by
  have := be_num l 0
  simpa using this

/-- The numbers of bytes, of so many each, each with its place. -/
def rows : Nat → List Nat → List UInt8 → List (Nat × Nat)
  | _, [], _ => []
  | i, k :: ks, l => (i, num (l.take k)) :: rows (i + 1) ks (l.drop k)

theorem num_take_succ (l : List UInt8) (k : Nat) (h : k < l.length) : num (l.take (k + 1)) = num (l.take k) * 256 + (l[k]'h).toNat := by
  rw [List.take_succ_eq_append_getElem h, num_snoc]

theorem num_lt8 (l : List UInt8) (h : l.length ≤ 8) : num l < 18446744073709551616 := by
  have h1 := num_lt l
  have h2 : 256 ^ l.length ≤ 256 ^ 8 := Nat.pow_le_pow_right (by omega) h
  have h3 : (256 : Nat) ^ 8 = 18446744073709551616 := by decide
  omega

theorem num_take_lt (l : List UInt8) (k : Nat) (h : k ≤ 8) : num (l.take k) < 18446744073709551616 :=
  num_lt8 _ (by rw [List.length_take]; omega)

theorem rows_length (i : Nat) (ks : List Nat) (l : List UInt8) : (rows i ks l).length = ks.length := by
  induction ks generalizing i l with
  | nil => rfl
  | cons k ks ih => simp [rows, ih]

end Go.Proofs.YtmkcbkdbdcnoiaaGreatDoor
namespace Go.Proofs.YtmkcbkdbdcnoiaaGreatDoor
open Go.RowKit
set_option linter.unusedVariables false
set_option linter.unusedSimpArgs false

theorem infoU8 : (Tryz.prog.info? 5).map (fun i => (i.zero, i.size, i.bytes)) = some (some (.int .u8 0), 1, 1) := by kernel_rfl
theorem own_text {w : World} {base n : Nat} {v : Value} {l : List UInt8} (h : w.ownsRow base 5 1 v n (Lib.byteCells l)) : (convert 197 9 v).run Tryz.prog w = .ok (.string ⟨l.toArray⟩) w := by
  have hl : l.length = n := by have := h.1; rw [Lib.byteCells_length] at this; omega
  have e : strOfNums (l.map fun b => (b.toNat : Int)) = ⟨l.toArray⟩ := by
    apply ByteArray.ext
    apply Array.toList_inj.1
    rw [strOfNums_data, List.map_map]
    conv => rhs; rw [← List.map_id l]
    apply List.map_congr_left
    intro b _
    simp
  rcases h.2 with ⟨rfl, rfl⟩ | ⟨g, cap, cur, rfl, _⟩
  · obtain rfl : l = [] := List.eq_nil_of_length_eq_zero hl
    exact run_convert_bytes_nil w 197 5 Tryz.underlying197 Tryz.underlying5 0 0 9 Tryz.underlying9
  · rw [← e]
    refine run_convert_bytes_arg w 197 5 Tryz.underlying197 Tryz.underlying5 g 0 n cap _ (by simpa using hl) (fun i hi => ?_) 9 Tryz.underlying9
    have hc := h.cells (g := g) rfl i (.int .u8 ((l[i]'(by omega)).toNat : Int)) (by simp [Lib.byteCells, List.getElem?_eq_getElem (show i < l.length by omega)])
    rw [add_plain] at hc
    rw [Nat.zero_add, hc]
    simp [List.getElem?_eq_getElem (show i < l.length by omega)]

/-- Their bytes. -/
def fieldBytes (fs : List (Nat × Nat)) : List UInt8 := fs.flatMap fun f => be f.1 f.2

theorem fieldBytes_snoc (fs : List (Nat × Nat)) (i : Nat) (h : i < fs.length) : fieldBytes (fs.take (i + 1)) = fieldBytes (fs.take i) ++ be (fs[i]'h).1 (fs[i]'h).2 := by
  unfold fieldBytes
  rw [List.take_succ_eq_append_getElem h, List.flatMap_append]
  simp

theorem fieldBytes_length (fs : List (Nat × Nat)) (hs : ∀ f ∈ fs, f.1 < 18446744073709551616 ∧ f.2 ≤ 8) : (fieldBytes fs).length ≤ 8 * fs.length := by
  induction fs with
  | nil => simp [fieldBytes]
  | cons f fs ih =>
    have h1 := ih (fun g hg => hs g (by simp [hg]))
    have h2 := (hs f (by simp)).2
    simp only [fieldBytes, List.flatMap_cons, List.length_append, be_length, List.length_cons] at h1 ⊢
    omega

theorem toNat_shr (n k : Nat) : UInt8.toNat (UInt8.ofNat (n >>> (8 * k))) = n / 2 ^ (8 * k) % 256 := by
  rw [UInt8.toNat_ofNat', Nat.shiftRight_eq_div_pow]

theorem byte_of (n r : Nat) : (n : Int) / 2 ^ (8 * r) % 256 = ((UInt8.ofNat (n >>> (8 * r))).toNat : Int) := by
  rw [UInt8.toNat_ofNat', Nat.shiftRight_eq_div_pow]
  generalize 8 * r = m
  rw [show ((2 : Int) ^ m) = ((2 ^ m : Nat) : Int) by push_cast; rfl]
  generalize 2 ^ m = q
  omega


theorem byteCells_snoc (bs : List UInt8) (c : UInt8) : Lib.byteCells bs ++ [.int .u8 (c.toNat : Int)] = Lib.byteCells (bs ++ [c]) := by simp [Lib.byteCells]

/-- A row of bytes that the function made, and the world else as it was. -/
def Bld (w : World) (v : Value) (bs : List UInt8) (W : World) : Prop := W.ownsRow w.heap.size 5 1 v bs.length (Lib.byteCells bs) ∧ Below w.heap.size w W
theorem Bld.start (w : World) : Bld w (.slice none 0 0) [] w := ⟨⟨by simp [Lib.byteCells], .inl ⟨rfl, rfl⟩⟩, Below.refl _ _⟩
theorem Bld.next {w W : World} {v : Value} {bs : List UInt8} (h : Bld w v bs W) {o : Obj} {w1 : World} {v' : Value} {c : UInt8} {n : Int} (hn : n = (c.toNat : Int)) (hown : w1.ownsRow w.heap.size 5 1 v' (bs.length + 1) (Lib.byteCells bs ++ [.int .u8 n])) (hgrow : (W.alloc o).grownBy w1 v.ownBlock) : Bld w v' (bs ++ [c]) w1 := by
  subst hn
  refine ⟨?_, ?_⟩
  · rw [byteCells_snoc] at hown
    simpa using hown
  · exact (h.2.alloc h.2.size _).grown hgrow (by have := h.2.size; simp; omega) (fun g hg => by
      rcases h.1.2 with ⟨rfl, _⟩ | ⟨g', cap, cur, rfl, hb, _⟩
      · simp [Value.ownBlock] at hg
      · simp [Value.ownBlock] at hg; omega)
end Go.Proofs.YtmkcbkdbdcnoiaaGreatDoor
namespace Go.Proofs.YtmkcbkdbdcnoiaaGreatDoor
open Go.RowKit
set_option linter.unusedVariables false
set_option linter.unusedSimpArgs false

def wthn (lo hi x : Int) : Bool := decide (lo ≤ x) && decide (x ≤ hi)

set_option maxHeartbeats 400000 in
set_option maxRecDepth 100000 in
theorem within_one (lo hi x : Int) (b : Nat) (w : World) (hc : w.cell? ⟨b, 0, none⟩ = some (.int .u32 x)) :
    Calls Tryz.prog 197 #[.int .u32 lo, .int .u32 hi, .slice (some ⟨b, 0, none⟩) 1 1] w fun e w' => e = .returned (.bool (wthn lo hi x)) ∧ w = w' := by
  unfold wthn
  go_enter Tryz.func197, Tryz.ntmps197
  go_wp2
  go_loop [8, 11] (fun v i => i = .int .i64 0 ∨ (i = .int .i64 1 ∧ lo ≤ x ∧ x ≤ hi)) (fun _ i => 1 - (intOf i).toNat)
  case atStart => exact .inl rfl
  case round =>
    rcases hrel with rfl | ⟨rfl, h1, h2⟩
    · by_cases h1 : x < lo
      · go_wp2
        go_ret
        refine ⟨?_, rfl⟩
        first | rfl | (rw [show decide (lo ≤ x) = false by simp; omega]; rfl)
      · by_cases h2 : hi < x
        · go_wp2
          go_ret
          refine ⟨?_, rfl⟩
          first | rfl | (rw [show decide (x ≤ hi) = false by simp; omega]; simp) | (rw [show decide (x ≤ hi) = false by simp; omega]; rfl)
        · go_wp2
          go_round
          case rel => exact .inr ⟨rfl, by omega, by omega⟩
          case measure => simp [intOf]
    · go_wp2
      go_ret
      refine ⟨?_, rfl⟩
      first | rfl | (rw [show decide (lo ≤ x) = true by simpa using h1, show decide (x ≤ hi) = true by simpa using h2]; rfl)

def plv (k a i m : Int) : Value := .agg #[.int .i64 k, .int .u32 a, .int .u16 i, .int .u32 m]
/-- May there be such a place? -/
def kRight (k a i m : Int) : Bool :=
  if k = 3 then wthn 1 1073741824 m && (i == 0) && wthn 1 1000000 a
  else if k = 1 then (m == 0) && (i == 0) && wthn 1 1000000 a
  else if k = 2 then (m == 0) && wthn 1 1000000 a
  else if k = 4 then (m == 0) && (i == 0) && wthn 1 1073741824 a
  else if k = 5 then (m == 0) && (i == 0) && wthn 1 2 a
  else if k = 6 then (m == 0) && wthn 0 1 a
  else false

set_option maxHeartbeats 4000000 in
set_option maxRecDepth 100000 in
theorem kright_any (k a i m : Int) (w : World) : Calls Tryz.prog 176 #[plv k a i m] w fun e w' => e = .returned (.bool (kRight k a i m)) ∧ Below w.heap.size w w' := by
  obtain ⟨W, hW⟩ : ∃ W, w.alloc (.cells #[.int .i64 k, .int .u32 a, .int .u16 i, .int .u32 m] 51) = W := ⟨_, rfl⟩
  have hb0 : Below w.heap.size w W := by rw [← hW]; exact (Below.refl _ w).alloc (Nat.le_refl _) _
  have hw := fun (lo hi x : Int) (W : World) => within_one lo hi x W.heap.size (W.alloc (.cells #[.int .u32 x] 26)) (blk_cell (heap_alloc_new W _) 0)
  have c0 : ∀ j, W.cell? ⟨w.heap.size, j, none⟩ = (#[.int .i64 k, .int .u32 a, .int .u16 i, .int .u32 m] : Array Value)[j]? := by rw [← hW]; exact blk_cell (heap_alloc_new w _)
  have hb1 : ∀ o, Below w.heap.size w (W.alloc o) := fun o => hb0.alloc hb0.size _
  generalize hR : kRight k a i m = R
  unfold kRight at hR
  have HK := Lib.hid (And.intro hb0 (And.intro hb1 (And.intro hw hR)))
  clear hb0 hb1 hw hR
  unfold plv
  rcases hm : (m == 0) with _ | _
  · rcases hi : (i == 0) with _ | _
    · by_cases e1 : k = 1
      · subst e1
        go_enter Tryz.func176, Tryz.ntmps176
        go_wp2_with fail
        go_quiet (fail)
        obtain ⟨W1, hW1⟩ : ∃ W1, W.drewN nq = W1 := ⟨_, rfl⟩
        have HB : Hid (Below w.heap.size w W1) := Lib.hid (by rw [← hW1]; exact HK.out.1.trans ((below_drewN W nq).mono HK.out.1.size))
        have c1 : ∀ j, W1.cell? ⟨w.heap.size, j, none⟩ = (#[.int .i64 1, .int .u32 a, .int .u16 i, .int .u32 m] : Array Value)[j]? := by rw [← hW1]; simpa using c0
        have hlt : w.heap.size < W1.heap.size := cell_lt (c1 0)
        rw [hW1]
        clear hW1 c0
        have HV := Lib.hid (within_one 1 1000000 a W1.heap.size (W1.alloc (.cells #[.int .u32 a] 26)) (blk_cell (heap_alloc_new W1 _) 0))
        go_wp2_with (go_at_call 197; with_reducible refine HV.out.mono ?_; rintro e w' ⟨rfl, rfl⟩)
        go_ret
        have hR := HK.out.2.2.2
        simp only [hm, hi, Bool.true_and, Bool.false_and, Bool.and_false, Bool.and_true, reduceIte, Int.reduceEq] at hR
        exact ⟨by rw [← hR]; try rfl, HB.out⟩
      · by_cases e2 : k = 2
        · subst e2
          go_enter Tryz.func176, Tryz.ntmps176
          go_wp2_with fail
          go_quiet (fail)
          obtain ⟨W1, hW1⟩ : ∃ W1, W.drewN nq = W1 := ⟨_, rfl⟩
          have HB : Hid (Below w.heap.size w W1) := Lib.hid (by rw [← hW1]; exact HK.out.1.trans ((below_drewN W nq).mono HK.out.1.size))
          have c1 : ∀ j, W1.cell? ⟨w.heap.size, j, none⟩ = (#[.int .i64 2, .int .u32 a, .int .u16 i, .int .u32 m] : Array Value)[j]? := by rw [← hW1]; simpa using c0
          have hlt : w.heap.size < W1.heap.size := cell_lt (c1 0)
          rw [hW1]
          clear hW1 c0
          have HV := Lib.hid (within_one 1 1000000 a W1.heap.size (W1.alloc (.cells #[.int .u32 a] 26)) (blk_cell (heap_alloc_new W1 _) 0))
          go_wp2_with (go_at_call 197; with_reducible refine HV.out.mono ?_; rintro e w' ⟨rfl, rfl⟩)
          go_ret
          have hR := HK.out.2.2.2
          simp only [hm, hi, Bool.true_and, Bool.false_and, Bool.and_false, Bool.and_true, reduceIte, Int.reduceEq] at hR
          exact ⟨by rw [← hR]; try rfl, HB.out⟩
        · by_cases e4 : k = 4
          · subst e4
            go_enter Tryz.func176, Tryz.ntmps176
            go_wp2_with fail
            go_quiet (fail)
            obtain ⟨W1, hW1⟩ : ∃ W1, W.drewN nq = W1 := ⟨_, rfl⟩
            have HB : Hid (Below w.heap.size w W1) := Lib.hid (by rw [← hW1]; exact HK.out.1.trans ((below_drewN W nq).mono HK.out.1.size))
            have c1 : ∀ j, W1.cell? ⟨w.heap.size, j, none⟩ = (#[.int .i64 4, .int .u32 a, .int .u16 i, .int .u32 m] : Array Value)[j]? := by rw [← hW1]; simpa using c0
            have hlt : w.heap.size < W1.heap.size := cell_lt (c1 0)
            rw [hW1]
            clear hW1 c0
            have HV := Lib.hid (within_one 1 1073741824 a W1.heap.size (W1.alloc (.cells #[.int .u32 a] 26)) (blk_cell (heap_alloc_new W1 _) 0))
            go_wp2_with (go_at_call 197; with_reducible refine HV.out.mono ?_; rintro e w' ⟨rfl, rfl⟩)
            go_ret
            have hR := HK.out.2.2.2
            simp only [hm, hi, Bool.true_and, Bool.false_and, Bool.and_false, Bool.and_true, reduceIte, Int.reduceEq] at hR
            exact ⟨by rw [← hR]; try rfl, HB.out⟩
          · by_cases e5 : k = 5
            · subst e5
              go_enter Tryz.func176, Tryz.ntmps176
              go_wp2_with fail
              go_quiet (fail)
              obtain ⟨W1, hW1⟩ : ∃ W1, W.drewN nq = W1 := ⟨_, rfl⟩
              have HB : Hid (Below w.heap.size w W1) := Lib.hid (by rw [← hW1]; exact HK.out.1.trans ((below_drewN W nq).mono HK.out.1.size))
              have c1 : ∀ j, W1.cell? ⟨w.heap.size, j, none⟩ = (#[.int .i64 5, .int .u32 a, .int .u16 i, .int .u32 m] : Array Value)[j]? := by rw [← hW1]; simpa using c0
              have hlt : w.heap.size < W1.heap.size := cell_lt (c1 0)
              rw [hW1]
              clear hW1 c0
              have HV := Lib.hid (within_one 1 2 a W1.heap.size (W1.alloc (.cells #[.int .u32 a] 26)) (blk_cell (heap_alloc_new W1 _) 0))
              go_wp2_with (go_at_call 197; with_reducible refine HV.out.mono ?_; rintro e w' ⟨rfl, rfl⟩)
              go_ret
              have hR := HK.out.2.2.2
              simp only [hm, hi, Bool.true_and, Bool.false_and, Bool.and_false, Bool.and_true, reduceIte, Int.reduceEq] at hR
              exact ⟨by rw [← hR]; try rfl, HB.out⟩
            · by_cases e6 : k = 6
              · subst e6
                go_enter Tryz.func176, Tryz.ntmps176
                go_wp2_with fail
                go_quiet (fail)
                obtain ⟨W1, hW1⟩ : ∃ W1, W.drewN nq = W1 := ⟨_, rfl⟩
                have HB : Hid (Below w.heap.size w W1) := Lib.hid (by rw [← hW1]; exact HK.out.1.trans ((below_drewN W nq).mono HK.out.1.size))
                have c1 : ∀ j, W1.cell? ⟨w.heap.size, j, none⟩ = (#[.int .i64 6, .int .u32 a, .int .u16 i, .int .u32 m] : Array Value)[j]? := by rw [← hW1]; simpa using c0
                have hlt : w.heap.size < W1.heap.size := cell_lt (c1 0)
                rw [hW1]
                clear hW1 c0
                have HV := Lib.hid (within_one 0 1 a W1.heap.size (W1.alloc (.cells #[.int .u32 a] 26)) (blk_cell (heap_alloc_new W1 _) 0))
                go_wp2_with (go_at_call 197; with_reducible refine HV.out.mono ?_; rintro e w' ⟨rfl, rfl⟩)
                go_ret
                have hR := HK.out.2.2.2
                simp only [hm, hi, Bool.true_and, Bool.false_and, Bool.and_false, Bool.and_true, reduceIte, Int.reduceEq] at hR
                exact ⟨by rw [← hR]; try rfl, HB.out⟩
              · by_cases e3 : k = 3
                · subst e3
                  go_enter Tryz.func176, Tryz.ntmps176
                  go_wp2_with fail
                  go_quiet (fail)
                  obtain ⟨W1, hW1⟩ : ∃ W1, W.drewN nq = W1 := ⟨_, rfl⟩
                  have HB : Hid (Below w.heap.size w W1) := Lib.hid (by rw [← hW1]; exact HK.out.1.trans ((below_drewN W nq).mono HK.out.1.size))
                  have c1 : ∀ j, W1.cell? ⟨w.heap.size, j, none⟩ = (#[.int .i64 3, .int .u32 a, .int .u16 i, .int .u32 m] : Array Value)[j]? := by rw [← hW1]; simpa using c0
                  have hlt : w.heap.size < W1.heap.size := cell_lt (c1 0)
                  rw [hW1]
                  clear hW1 c0
                  have d1 : ∀ j, (W1.alloc (.cells #[.int .u32 m] 26)).cell? ⟨w.heap.size, j, none⟩ = (#[.int .i64 3, .int .u32 a, .int .u16 i, .int .u32 m] : Array Value)[j]? := fun j => ((((Below.refl _ W1).alloc (Nat.le_refl _) _).cell (p := ⟨w.heap.size, j, none⟩) hlt)).trans (c1 j)
                  have HV := Lib.hid (within_one 1 1073741824 m W1.heap.size (W1.alloc (.cells #[.int .u32 m] 26)) (blk_cell (heap_alloc_new W1 _) 0))
                  have HV2 := Lib.hid (within_one 1 1000000 a (W1.heap.size + 1) ((W1.alloc (.cells #[.int .u32 m] 26)).alloc (.cells #[.int .u32 a] 26)) (by have := heap_alloc_new (W1.alloc (.cells #[.int .u32 m] 26)) (.cells #[.int .u32 a] 26); rw [World.size_alloc] at this; exact blk_cell this 0))
                  rcases hv : wthn 1 1073741824 m with _ | _
                  · rw [hv] at HV
                    go_wp2_with (first | (go_at_call 197; with_reducible refine HV.out.mono ?_; rintro e w' ⟨rfl, rfl⟩) | (go_at_call 197; with_reducible refine HV2.out.mono ?_; rintro e w' ⟨rfl, rfl⟩))
                    go_ret
                    have hR := HK.out.2.2.2
                    simp only [if_pos, hm, hi, hv, Bool.true_and, Bool.false_and, Bool.and_false, Bool.and_true] at hR
                    exact ⟨by rw [← hR]; try rfl, HB.out.alloc HB.out.size _⟩
                  · rw [hv] at HV
                    go_wp2_with (first | (go_at_call 197; with_reducible refine HV.out.mono ?_; rintro e w' ⟨rfl, rfl⟩) | (go_at_call 197; with_reducible refine HV2.out.mono ?_; rintro e w' ⟨rfl, rfl⟩))
                    go_ret
                    have hR := HK.out.2.2.2
                    simp only [if_pos, hm, hi, hv, Bool.true_and, Bool.false_and, Bool.and_false, Bool.and_true] at hR
                    exact ⟨by rw [← hR]; try rfl, HB.out.alloc HB.out.size _⟩
                · have f1 : (k == 1) = false := by simpa using e1
                  have f2 : (k == 2) = false := by simpa using e2
                  have f4 : (k == 4) = false := by simpa using e4
                  have f5 : (k == 5) = false := by simpa using e5
                  have f6 : (k == 6) = false := by simpa using e6
                  have f3 : (k == 3) = false := by simpa using e3
                  go_enter Tryz.func176, Tryz.ntmps176
                  go_wp2_with fail
                  go_quiet (fail)
                  obtain ⟨W1, hW1⟩ : ∃ W1, W.drewN nq = W1 := ⟨_, rfl⟩
                  have HB : Hid (Below w.heap.size w W1) := Lib.hid (by rw [← hW1]; exact HK.out.1.trans ((below_drewN W nq).mono HK.out.1.size))
                  have c1 : ∀ j, W1.cell? ⟨w.heap.size, j, none⟩ = (#[.int .i64 k, .int .u32 a, .int .u16 i, .int .u32 m] : Array Value)[j]? := by rw [← hW1]; simpa using c0
                  have hlt : w.heap.size < W1.heap.size := cell_lt (c1 0)
                  rw [hW1]
                  clear hW1 c0
                  go_wp2_with fail
                  go_ret
                  have hR := HK.out.2.2.2
                  rw [if_neg (by omega), if_neg (by omega), if_neg (by omega), if_neg (by omega), if_neg (by omega), if_neg (by omega)] at hR
                  exact ⟨by rw [← hR]; try rfl, HB.out⟩
    · by_cases e1 : k = 1
      · subst e1
        go_enter Tryz.func176, Tryz.ntmps176
        go_wp2_with fail
        go_quiet (fail)
        obtain ⟨W1, hW1⟩ : ∃ W1, W.drewN nq = W1 := ⟨_, rfl⟩
        have HB : Hid (Below w.heap.size w W1) := Lib.hid (by rw [← hW1]; exact HK.out.1.trans ((below_drewN W nq).mono HK.out.1.size))
        have c1 : ∀ j, W1.cell? ⟨w.heap.size, j, none⟩ = (#[.int .i64 1, .int .u32 a, .int .u16 i, .int .u32 m] : Array Value)[j]? := by rw [← hW1]; simpa using c0
        have hlt : w.heap.size < W1.heap.size := cell_lt (c1 0)
        rw [hW1]
        clear hW1 c0
        have HV := Lib.hid (within_one 1 1000000 a W1.heap.size (W1.alloc (.cells #[.int .u32 a] 26)) (blk_cell (heap_alloc_new W1 _) 0))
        go_wp2_with (go_at_call 197; with_reducible refine HV.out.mono ?_; rintro e w' ⟨rfl, rfl⟩)
        go_ret
        have hR := HK.out.2.2.2
        simp only [hm, hi, Bool.true_and, Bool.false_and, Bool.and_false, Bool.and_true, reduceIte, Int.reduceEq] at hR
        exact ⟨by rw [← hR]; try rfl, HB.out⟩
      · by_cases e2 : k = 2
        · subst e2
          go_enter Tryz.func176, Tryz.ntmps176
          go_wp2_with fail
          go_quiet (fail)
          obtain ⟨W1, hW1⟩ : ∃ W1, W.drewN nq = W1 := ⟨_, rfl⟩
          have HB : Hid (Below w.heap.size w W1) := Lib.hid (by rw [← hW1]; exact HK.out.1.trans ((below_drewN W nq).mono HK.out.1.size))
          have c1 : ∀ j, W1.cell? ⟨w.heap.size, j, none⟩ = (#[.int .i64 2, .int .u32 a, .int .u16 i, .int .u32 m] : Array Value)[j]? := by rw [← hW1]; simpa using c0
          have hlt : w.heap.size < W1.heap.size := cell_lt (c1 0)
          rw [hW1]
          clear hW1 c0
          have HV := Lib.hid (within_one 1 1000000 a W1.heap.size (W1.alloc (.cells #[.int .u32 a] 26)) (blk_cell (heap_alloc_new W1 _) 0))
          go_wp2_with (go_at_call 197; with_reducible refine HV.out.mono ?_; rintro e w' ⟨rfl, rfl⟩)
          go_ret
          have hR := HK.out.2.2.2
          simp only [hm, hi, Bool.true_and, Bool.false_and, Bool.and_false, Bool.and_true, reduceIte, Int.reduceEq] at hR
          exact ⟨by rw [← hR]; try rfl, HB.out⟩
        · by_cases e4 : k = 4
          · subst e4
            go_enter Tryz.func176, Tryz.ntmps176
            go_wp2_with fail
            go_quiet (fail)
            obtain ⟨W1, hW1⟩ : ∃ W1, W.drewN nq = W1 := ⟨_, rfl⟩
            have HB : Hid (Below w.heap.size w W1) := Lib.hid (by rw [← hW1]; exact HK.out.1.trans ((below_drewN W nq).mono HK.out.1.size))
            have c1 : ∀ j, W1.cell? ⟨w.heap.size, j, none⟩ = (#[.int .i64 4, .int .u32 a, .int .u16 i, .int .u32 m] : Array Value)[j]? := by rw [← hW1]; simpa using c0
            have hlt : w.heap.size < W1.heap.size := cell_lt (c1 0)
            rw [hW1]
            clear hW1 c0
            have HV := Lib.hid (within_one 1 1073741824 a W1.heap.size (W1.alloc (.cells #[.int .u32 a] 26)) (blk_cell (heap_alloc_new W1 _) 0))
            go_wp2_with (go_at_call 197; with_reducible refine HV.out.mono ?_; rintro e w' ⟨rfl, rfl⟩)
            go_ret
            have hR := HK.out.2.2.2
            simp only [hm, hi, Bool.true_and, Bool.false_and, Bool.and_false, Bool.and_true, reduceIte, Int.reduceEq] at hR
            exact ⟨by rw [← hR]; try rfl, HB.out⟩
          · by_cases e5 : k = 5
            · subst e5
              go_enter Tryz.func176, Tryz.ntmps176
              go_wp2_with fail
              go_quiet (fail)
              obtain ⟨W1, hW1⟩ : ∃ W1, W.drewN nq = W1 := ⟨_, rfl⟩
              have HB : Hid (Below w.heap.size w W1) := Lib.hid (by rw [← hW1]; exact HK.out.1.trans ((below_drewN W nq).mono HK.out.1.size))
              have c1 : ∀ j, W1.cell? ⟨w.heap.size, j, none⟩ = (#[.int .i64 5, .int .u32 a, .int .u16 i, .int .u32 m] : Array Value)[j]? := by rw [← hW1]; simpa using c0
              have hlt : w.heap.size < W1.heap.size := cell_lt (c1 0)
              rw [hW1]
              clear hW1 c0
              have HV := Lib.hid (within_one 1 2 a W1.heap.size (W1.alloc (.cells #[.int .u32 a] 26)) (blk_cell (heap_alloc_new W1 _) 0))
              go_wp2_with (go_at_call 197; with_reducible refine HV.out.mono ?_; rintro e w' ⟨rfl, rfl⟩)
              go_ret
              have hR := HK.out.2.2.2
              simp only [hm, hi, Bool.true_and, Bool.false_and, Bool.and_false, Bool.and_true, reduceIte, Int.reduceEq] at hR
              exact ⟨by rw [← hR]; try rfl, HB.out⟩
            · by_cases e6 : k = 6
              · subst e6
                go_enter Tryz.func176, Tryz.ntmps176
                go_wp2_with fail
                go_quiet (fail)
                obtain ⟨W1, hW1⟩ : ∃ W1, W.drewN nq = W1 := ⟨_, rfl⟩
                have HB : Hid (Below w.heap.size w W1) := Lib.hid (by rw [← hW1]; exact HK.out.1.trans ((below_drewN W nq).mono HK.out.1.size))
                have c1 : ∀ j, W1.cell? ⟨w.heap.size, j, none⟩ = (#[.int .i64 6, .int .u32 a, .int .u16 i, .int .u32 m] : Array Value)[j]? := by rw [← hW1]; simpa using c0
                have hlt : w.heap.size < W1.heap.size := cell_lt (c1 0)
                rw [hW1]
                clear hW1 c0
                have HV := Lib.hid (within_one 0 1 a W1.heap.size (W1.alloc (.cells #[.int .u32 a] 26)) (blk_cell (heap_alloc_new W1 _) 0))
                go_wp2_with (go_at_call 197; with_reducible refine HV.out.mono ?_; rintro e w' ⟨rfl, rfl⟩)
                go_ret
                have hR := HK.out.2.2.2
                simp only [hm, hi, Bool.true_and, Bool.false_and, Bool.and_false, Bool.and_true, reduceIte, Int.reduceEq] at hR
                exact ⟨by rw [← hR]; try rfl, HB.out⟩
              · by_cases e3 : k = 3
                · subst e3
                  go_enter Tryz.func176, Tryz.ntmps176
                  go_wp2_with fail
                  go_quiet (fail)
                  obtain ⟨W1, hW1⟩ : ∃ W1, W.drewN nq = W1 := ⟨_, rfl⟩
                  have HB : Hid (Below w.heap.size w W1) := Lib.hid (by rw [← hW1]; exact HK.out.1.trans ((below_drewN W nq).mono HK.out.1.size))
                  have c1 : ∀ j, W1.cell? ⟨w.heap.size, j, none⟩ = (#[.int .i64 3, .int .u32 a, .int .u16 i, .int .u32 m] : Array Value)[j]? := by rw [← hW1]; simpa using c0
                  have hlt : w.heap.size < W1.heap.size := cell_lt (c1 0)
                  rw [hW1]
                  clear hW1 c0
                  have d1 : ∀ j, (W1.alloc (.cells #[.int .u32 m] 26)).cell? ⟨w.heap.size, j, none⟩ = (#[.int .i64 3, .int .u32 a, .int .u16 i, .int .u32 m] : Array Value)[j]? := fun j => ((((Below.refl _ W1).alloc (Nat.le_refl _) _).cell (p := ⟨w.heap.size, j, none⟩) hlt)).trans (c1 j)
                  have HV := Lib.hid (within_one 1 1073741824 m W1.heap.size (W1.alloc (.cells #[.int .u32 m] 26)) (blk_cell (heap_alloc_new W1 _) 0))
                  have HV2 := Lib.hid (within_one 1 1000000 a (W1.heap.size + 1) ((W1.alloc (.cells #[.int .u32 m] 26)).alloc (.cells #[.int .u32 a] 26)) (by have := heap_alloc_new (W1.alloc (.cells #[.int .u32 m] 26)) (.cells #[.int .u32 a] 26); rw [World.size_alloc] at this; exact blk_cell this 0))
                  rcases hv : wthn 1 1073741824 m with _ | _
                  · rw [hv] at HV
                    go_wp2_with (first | (go_at_call 197; with_reducible refine HV.out.mono ?_; rintro e w' ⟨rfl, rfl⟩) | (go_at_call 197; with_reducible refine HV2.out.mono ?_; rintro e w' ⟨rfl, rfl⟩))
                    go_ret
                    have hR := HK.out.2.2.2
                    simp only [if_pos, hm, hi, hv, Bool.true_and, Bool.false_and, Bool.and_false, Bool.and_true] at hR
                    exact ⟨by rw [← hR]; try rfl, HB.out.alloc HB.out.size _⟩
                  · rw [hv] at HV
                    go_wp2_with (first | (go_at_call 197; with_reducible refine HV.out.mono ?_; rintro e w' ⟨rfl, rfl⟩) | (go_at_call 197; with_reducible refine HV2.out.mono ?_; rintro e w' ⟨rfl, rfl⟩))
                    go_ret
                    have hR := HK.out.2.2.2
                    simp only [if_pos, hm, hi, hv, Bool.true_and, Bool.false_and, Bool.and_false, Bool.and_true] at hR
                    exact ⟨by rw [← hR]; try rfl, ((HB.out.alloc HB.out.size _).alloc (by have := HB.out.size; simp; omega) _)⟩
                · have f1 : (k == 1) = false := by simpa using e1
                  have f2 : (k == 2) = false := by simpa using e2
                  have f4 : (k == 4) = false := by simpa using e4
                  have f5 : (k == 5) = false := by simpa using e5
                  have f6 : (k == 6) = false := by simpa using e6
                  have f3 : (k == 3) = false := by simpa using e3
                  go_enter Tryz.func176, Tryz.ntmps176
                  go_wp2_with fail
                  go_quiet (fail)
                  obtain ⟨W1, hW1⟩ : ∃ W1, W.drewN nq = W1 := ⟨_, rfl⟩
                  have HB : Hid (Below w.heap.size w W1) := Lib.hid (by rw [← hW1]; exact HK.out.1.trans ((below_drewN W nq).mono HK.out.1.size))
                  have c1 : ∀ j, W1.cell? ⟨w.heap.size, j, none⟩ = (#[.int .i64 k, .int .u32 a, .int .u16 i, .int .u32 m] : Array Value)[j]? := by rw [← hW1]; simpa using c0
                  have hlt : w.heap.size < W1.heap.size := cell_lt (c1 0)
                  rw [hW1]
                  clear hW1 c0
                  go_wp2_with fail
                  go_ret
                  have hR := HK.out.2.2.2
                  rw [if_neg (by omega), if_neg (by omega), if_neg (by omega), if_neg (by omega), if_neg (by omega), if_neg (by omega)] at hR
                  exact ⟨by rw [← hR]; try rfl, HB.out⟩
  · rcases hi : (i == 0) with _ | _
    · by_cases e1 : k = 1
      · subst e1
        go_enter Tryz.func176, Tryz.ntmps176
        go_wp2_with fail
        go_quiet (fail)
        obtain ⟨W1, hW1⟩ : ∃ W1, W.drewN nq = W1 := ⟨_, rfl⟩
        have HB : Hid (Below w.heap.size w W1) := Lib.hid (by rw [← hW1]; exact HK.out.1.trans ((below_drewN W nq).mono HK.out.1.size))
        have c1 : ∀ j, W1.cell? ⟨w.heap.size, j, none⟩ = (#[.int .i64 1, .int .u32 a, .int .u16 i, .int .u32 m] : Array Value)[j]? := by rw [← hW1]; simpa using c0
        have hlt : w.heap.size < W1.heap.size := cell_lt (c1 0)
        rw [hW1]
        clear hW1 c0
        have HV := Lib.hid (within_one 1 1000000 a W1.heap.size (W1.alloc (.cells #[.int .u32 a] 26)) (blk_cell (heap_alloc_new W1 _) 0))
        go_wp2_with (go_at_call 197; with_reducible refine HV.out.mono ?_; rintro e w' ⟨rfl, rfl⟩)
        go_ret
        have hR := HK.out.2.2.2
        simp only [hm, hi, Bool.true_and, Bool.false_and, Bool.and_false, Bool.and_true, reduceIte, Int.reduceEq] at hR
        exact ⟨by rw [← hR]; try rfl, HB.out⟩
      · by_cases e2 : k = 2
        · subst e2
          go_enter Tryz.func176, Tryz.ntmps176
          go_wp2_with fail
          go_quiet (fail)
          obtain ⟨W1, hW1⟩ : ∃ W1, W.drewN nq = W1 := ⟨_, rfl⟩
          have HB : Hid (Below w.heap.size w W1) := Lib.hid (by rw [← hW1]; exact HK.out.1.trans ((below_drewN W nq).mono HK.out.1.size))
          have c1 : ∀ j, W1.cell? ⟨w.heap.size, j, none⟩ = (#[.int .i64 2, .int .u32 a, .int .u16 i, .int .u32 m] : Array Value)[j]? := by rw [← hW1]; simpa using c0
          have hlt : w.heap.size < W1.heap.size := cell_lt (c1 0)
          rw [hW1]
          clear hW1 c0
          have HV := Lib.hid (within_one 1 1000000 a W1.heap.size (W1.alloc (.cells #[.int .u32 a] 26)) (blk_cell (heap_alloc_new W1 _) 0))
          go_wp2_with (go_at_call 197; with_reducible refine HV.out.mono ?_; rintro e w' ⟨rfl, rfl⟩)
          go_ret
          have hR := HK.out.2.2.2
          simp only [hm, hi, Bool.true_and, Bool.false_and, Bool.and_false, Bool.and_true, reduceIte, Int.reduceEq] at hR
          exact ⟨by rw [← hR]; try rfl, HB.out.alloc HB.out.size _⟩
        · by_cases e4 : k = 4
          · subst e4
            go_enter Tryz.func176, Tryz.ntmps176
            go_wp2_with fail
            go_quiet (fail)
            obtain ⟨W1, hW1⟩ : ∃ W1, W.drewN nq = W1 := ⟨_, rfl⟩
            have HB : Hid (Below w.heap.size w W1) := Lib.hid (by rw [← hW1]; exact HK.out.1.trans ((below_drewN W nq).mono HK.out.1.size))
            have c1 : ∀ j, W1.cell? ⟨w.heap.size, j, none⟩ = (#[.int .i64 4, .int .u32 a, .int .u16 i, .int .u32 m] : Array Value)[j]? := by rw [← hW1]; simpa using c0
            have hlt : w.heap.size < W1.heap.size := cell_lt (c1 0)
            rw [hW1]
            clear hW1 c0
            have HV := Lib.hid (within_one 1 1073741824 a W1.heap.size (W1.alloc (.cells #[.int .u32 a] 26)) (blk_cell (heap_alloc_new W1 _) 0))
            go_wp2_with (go_at_call 197; with_reducible refine HV.out.mono ?_; rintro e w' ⟨rfl, rfl⟩)
            go_ret
            have hR := HK.out.2.2.2
            simp only [hm, hi, Bool.true_and, Bool.false_and, Bool.and_false, Bool.and_true, reduceIte, Int.reduceEq] at hR
            exact ⟨by rw [← hR]; try rfl, HB.out⟩
          · by_cases e5 : k = 5
            · subst e5
              go_enter Tryz.func176, Tryz.ntmps176
              go_wp2_with fail
              go_quiet (fail)
              obtain ⟨W1, hW1⟩ : ∃ W1, W.drewN nq = W1 := ⟨_, rfl⟩
              have HB : Hid (Below w.heap.size w W1) := Lib.hid (by rw [← hW1]; exact HK.out.1.trans ((below_drewN W nq).mono HK.out.1.size))
              have c1 : ∀ j, W1.cell? ⟨w.heap.size, j, none⟩ = (#[.int .i64 5, .int .u32 a, .int .u16 i, .int .u32 m] : Array Value)[j]? := by rw [← hW1]; simpa using c0
              have hlt : w.heap.size < W1.heap.size := cell_lt (c1 0)
              rw [hW1]
              clear hW1 c0
              have HV := Lib.hid (within_one 1 2 a W1.heap.size (W1.alloc (.cells #[.int .u32 a] 26)) (blk_cell (heap_alloc_new W1 _) 0))
              go_wp2_with (go_at_call 197; with_reducible refine HV.out.mono ?_; rintro e w' ⟨rfl, rfl⟩)
              go_ret
              have hR := HK.out.2.2.2
              simp only [hm, hi, Bool.true_and, Bool.false_and, Bool.and_false, Bool.and_true, reduceIte, Int.reduceEq] at hR
              exact ⟨by rw [← hR]; try rfl, HB.out⟩
            · by_cases e6 : k = 6
              · subst e6
                go_enter Tryz.func176, Tryz.ntmps176
                go_wp2_with fail
                go_quiet (fail)
                obtain ⟨W1, hW1⟩ : ∃ W1, W.drewN nq = W1 := ⟨_, rfl⟩
                have HB : Hid (Below w.heap.size w W1) := Lib.hid (by rw [← hW1]; exact HK.out.1.trans ((below_drewN W nq).mono HK.out.1.size))
                have c1 : ∀ j, W1.cell? ⟨w.heap.size, j, none⟩ = (#[.int .i64 6, .int .u32 a, .int .u16 i, .int .u32 m] : Array Value)[j]? := by rw [← hW1]; simpa using c0
                have hlt : w.heap.size < W1.heap.size := cell_lt (c1 0)
                rw [hW1]
                clear hW1 c0
                have HV := Lib.hid (within_one 0 1 a W1.heap.size (W1.alloc (.cells #[.int .u32 a] 26)) (blk_cell (heap_alloc_new W1 _) 0))
                go_wp2_with (go_at_call 197; with_reducible refine HV.out.mono ?_; rintro e w' ⟨rfl, rfl⟩)
                go_ret
                have hR := HK.out.2.2.2
                simp only [hm, hi, Bool.true_and, Bool.false_and, Bool.and_false, Bool.and_true, reduceIte, Int.reduceEq] at hR
                exact ⟨by rw [← hR]; try rfl, HB.out.alloc HB.out.size _⟩
              · by_cases e3 : k = 3
                · subst e3
                  go_enter Tryz.func176, Tryz.ntmps176
                  go_wp2_with fail
                  go_quiet (fail)
                  obtain ⟨W1, hW1⟩ : ∃ W1, W.drewN nq = W1 := ⟨_, rfl⟩
                  have HB : Hid (Below w.heap.size w W1) := Lib.hid (by rw [← hW1]; exact HK.out.1.trans ((below_drewN W nq).mono HK.out.1.size))
                  have c1 : ∀ j, W1.cell? ⟨w.heap.size, j, none⟩ = (#[.int .i64 3, .int .u32 a, .int .u16 i, .int .u32 m] : Array Value)[j]? := by rw [← hW1]; simpa using c0
                  have hlt : w.heap.size < W1.heap.size := cell_lt (c1 0)
                  rw [hW1]
                  clear hW1 c0
                  have d1 : ∀ j, (W1.alloc (.cells #[.int .u32 m] 26)).cell? ⟨w.heap.size, j, none⟩ = (#[.int .i64 3, .int .u32 a, .int .u16 i, .int .u32 m] : Array Value)[j]? := fun j => ((((Below.refl _ W1).alloc (Nat.le_refl _) _).cell (p := ⟨w.heap.size, j, none⟩) hlt)).trans (c1 j)
                  have HV := Lib.hid (within_one 1 1073741824 m W1.heap.size (W1.alloc (.cells #[.int .u32 m] 26)) (blk_cell (heap_alloc_new W1 _) 0))
                  have HV2 := Lib.hid (within_one 1 1000000 a (W1.heap.size + 1) ((W1.alloc (.cells #[.int .u32 m] 26)).alloc (.cells #[.int .u32 a] 26)) (by have := heap_alloc_new (W1.alloc (.cells #[.int .u32 m] 26)) (.cells #[.int .u32 a] 26); rw [World.size_alloc] at this; exact blk_cell this 0))
                  rcases hv : wthn 1 1073741824 m with _ | _
                  · rw [hv] at HV
                    go_wp2_with (first | (go_at_call 197; with_reducible refine HV.out.mono ?_; rintro e w' ⟨rfl, rfl⟩) | (go_at_call 197; with_reducible refine HV2.out.mono ?_; rintro e w' ⟨rfl, rfl⟩))
                    go_ret
                    have hR := HK.out.2.2.2
                    simp only [if_pos, hm, hi, hv, Bool.true_and, Bool.false_and, Bool.and_false, Bool.and_true] at hR
                    exact ⟨by rw [← hR]; try rfl, HB.out.alloc HB.out.size _⟩
                  · rw [hv] at HV
                    go_wp2_with (first | (go_at_call 197; with_reducible refine HV.out.mono ?_; rintro e w' ⟨rfl, rfl⟩) | (go_at_call 197; with_reducible refine HV2.out.mono ?_; rintro e w' ⟨rfl, rfl⟩))
                    go_ret
                    have hR := HK.out.2.2.2
                    simp only [if_pos, hm, hi, hv, Bool.true_and, Bool.false_and, Bool.and_false, Bool.and_true] at hR
                    exact ⟨by rw [← hR]; try rfl, HB.out.alloc HB.out.size _⟩
                · have f1 : (k == 1) = false := by simpa using e1
                  have f2 : (k == 2) = false := by simpa using e2
                  have f4 : (k == 4) = false := by simpa using e4
                  have f5 : (k == 5) = false := by simpa using e5
                  have f6 : (k == 6) = false := by simpa using e6
                  have f3 : (k == 3) = false := by simpa using e3
                  go_enter Tryz.func176, Tryz.ntmps176
                  go_wp2_with fail
                  go_quiet (fail)
                  obtain ⟨W1, hW1⟩ : ∃ W1, W.drewN nq = W1 := ⟨_, rfl⟩
                  have HB : Hid (Below w.heap.size w W1) := Lib.hid (by rw [← hW1]; exact HK.out.1.trans ((below_drewN W nq).mono HK.out.1.size))
                  have c1 : ∀ j, W1.cell? ⟨w.heap.size, j, none⟩ = (#[.int .i64 k, .int .u32 a, .int .u16 i, .int .u32 m] : Array Value)[j]? := by rw [← hW1]; simpa using c0
                  have hlt : w.heap.size < W1.heap.size := cell_lt (c1 0)
                  rw [hW1]
                  clear hW1 c0
                  go_wp2_with fail
                  go_ret
                  have hR := HK.out.2.2.2
                  rw [if_neg (by omega), if_neg (by omega), if_neg (by omega), if_neg (by omega), if_neg (by omega), if_neg (by omega)] at hR
                  exact ⟨by rw [← hR]; try rfl, HB.out⟩
    · by_cases e1 : k = 1
      · subst e1
        go_enter Tryz.func176, Tryz.ntmps176
        go_wp2_with fail
        go_quiet (fail)
        obtain ⟨W1, hW1⟩ : ∃ W1, W.drewN nq = W1 := ⟨_, rfl⟩
        have HB : Hid (Below w.heap.size w W1) := Lib.hid (by rw [← hW1]; exact HK.out.1.trans ((below_drewN W nq).mono HK.out.1.size))
        have c1 : ∀ j, W1.cell? ⟨w.heap.size, j, none⟩ = (#[.int .i64 1, .int .u32 a, .int .u16 i, .int .u32 m] : Array Value)[j]? := by rw [← hW1]; simpa using c0
        have hlt : w.heap.size < W1.heap.size := cell_lt (c1 0)
        rw [hW1]
        clear hW1 c0
        have HV := Lib.hid (within_one 1 1000000 a W1.heap.size (W1.alloc (.cells #[.int .u32 a] 26)) (blk_cell (heap_alloc_new W1 _) 0))
        go_wp2_with (go_at_call 197; with_reducible refine HV.out.mono ?_; rintro e w' ⟨rfl, rfl⟩)
        go_ret
        have hR := HK.out.2.2.2
        simp only [hm, hi, Bool.true_and, Bool.false_and, Bool.and_false, Bool.and_true, reduceIte, Int.reduceEq] at hR
        exact ⟨by rw [← hR]; try rfl, HB.out.alloc HB.out.size _⟩
      · by_cases e2 : k = 2
        · subst e2
          go_enter Tryz.func176, Tryz.ntmps176
          go_wp2_with fail
          go_quiet (fail)
          obtain ⟨W1, hW1⟩ : ∃ W1, W.drewN nq = W1 := ⟨_, rfl⟩
          have HB : Hid (Below w.heap.size w W1) := Lib.hid (by rw [← hW1]; exact HK.out.1.trans ((below_drewN W nq).mono HK.out.1.size))
          have c1 : ∀ j, W1.cell? ⟨w.heap.size, j, none⟩ = (#[.int .i64 2, .int .u32 a, .int .u16 i, .int .u32 m] : Array Value)[j]? := by rw [← hW1]; simpa using c0
          have hlt : w.heap.size < W1.heap.size := cell_lt (c1 0)
          rw [hW1]
          clear hW1 c0
          have HV := Lib.hid (within_one 1 1000000 a W1.heap.size (W1.alloc (.cells #[.int .u32 a] 26)) (blk_cell (heap_alloc_new W1 _) 0))
          go_wp2_with (go_at_call 197; with_reducible refine HV.out.mono ?_; rintro e w' ⟨rfl, rfl⟩)
          go_ret
          have hR := HK.out.2.2.2
          simp only [hm, hi, Bool.true_and, Bool.false_and, Bool.and_false, Bool.and_true, reduceIte, Int.reduceEq] at hR
          exact ⟨by rw [← hR]; try rfl, HB.out.alloc HB.out.size _⟩
        · by_cases e4 : k = 4
          · subst e4
            go_enter Tryz.func176, Tryz.ntmps176
            go_wp2_with fail
            go_quiet (fail)
            obtain ⟨W1, hW1⟩ : ∃ W1, W.drewN nq = W1 := ⟨_, rfl⟩
            have HB : Hid (Below w.heap.size w W1) := Lib.hid (by rw [← hW1]; exact HK.out.1.trans ((below_drewN W nq).mono HK.out.1.size))
            have c1 : ∀ j, W1.cell? ⟨w.heap.size, j, none⟩ = (#[.int .i64 4, .int .u32 a, .int .u16 i, .int .u32 m] : Array Value)[j]? := by rw [← hW1]; simpa using c0
            have hlt : w.heap.size < W1.heap.size := cell_lt (c1 0)
            rw [hW1]
            clear hW1 c0
            have HV := Lib.hid (within_one 1 1073741824 a W1.heap.size (W1.alloc (.cells #[.int .u32 a] 26)) (blk_cell (heap_alloc_new W1 _) 0))
            go_wp2_with (go_at_call 197; with_reducible refine HV.out.mono ?_; rintro e w' ⟨rfl, rfl⟩)
            go_ret
            have hR := HK.out.2.2.2
            simp only [hm, hi, Bool.true_and, Bool.false_and, Bool.and_false, Bool.and_true, reduceIte, Int.reduceEq] at hR
            exact ⟨by rw [← hR]; try rfl, HB.out.alloc HB.out.size _⟩
          · by_cases e5 : k = 5
            · subst e5
              go_enter Tryz.func176, Tryz.ntmps176
              go_wp2_with fail
              go_quiet (fail)
              obtain ⟨W1, hW1⟩ : ∃ W1, W.drewN nq = W1 := ⟨_, rfl⟩
              have HB : Hid (Below w.heap.size w W1) := Lib.hid (by rw [← hW1]; exact HK.out.1.trans ((below_drewN W nq).mono HK.out.1.size))
              have c1 : ∀ j, W1.cell? ⟨w.heap.size, j, none⟩ = (#[.int .i64 5, .int .u32 a, .int .u16 i, .int .u32 m] : Array Value)[j]? := by rw [← hW1]; simpa using c0
              have hlt : w.heap.size < W1.heap.size := cell_lt (c1 0)
              rw [hW1]
              clear hW1 c0
              have HV := Lib.hid (within_one 1 2 a W1.heap.size (W1.alloc (.cells #[.int .u32 a] 26)) (blk_cell (heap_alloc_new W1 _) 0))
              go_wp2_with (go_at_call 197; with_reducible refine HV.out.mono ?_; rintro e w' ⟨rfl, rfl⟩)
              go_ret
              have hR := HK.out.2.2.2
              simp only [hm, hi, Bool.true_and, Bool.false_and, Bool.and_false, Bool.and_true, reduceIte, Int.reduceEq] at hR
              exact ⟨by rw [← hR]; try rfl, HB.out.alloc HB.out.size _⟩
            · by_cases e6 : k = 6
              · subst e6
                go_enter Tryz.func176, Tryz.ntmps176
                go_wp2_with fail
                go_quiet (fail)
                obtain ⟨W1, hW1⟩ : ∃ W1, W.drewN nq = W1 := ⟨_, rfl⟩
                have HB : Hid (Below w.heap.size w W1) := Lib.hid (by rw [← hW1]; exact HK.out.1.trans ((below_drewN W nq).mono HK.out.1.size))
                have c1 : ∀ j, W1.cell? ⟨w.heap.size, j, none⟩ = (#[.int .i64 6, .int .u32 a, .int .u16 i, .int .u32 m] : Array Value)[j]? := by rw [← hW1]; simpa using c0
                have hlt : w.heap.size < W1.heap.size := cell_lt (c1 0)
                rw [hW1]
                clear hW1 c0
                have HV := Lib.hid (within_one 0 1 a W1.heap.size (W1.alloc (.cells #[.int .u32 a] 26)) (blk_cell (heap_alloc_new W1 _) 0))
                go_wp2_with (go_at_call 197; with_reducible refine HV.out.mono ?_; rintro e w' ⟨rfl, rfl⟩)
                go_ret
                have hR := HK.out.2.2.2
                simp only [hm, hi, Bool.true_and, Bool.false_and, Bool.and_false, Bool.and_true, reduceIte, Int.reduceEq] at hR
                exact ⟨by rw [← hR]; try rfl, HB.out.alloc HB.out.size _⟩
              · by_cases e3 : k = 3
                · subst e3
                  go_enter Tryz.func176, Tryz.ntmps176
                  go_wp2_with fail
                  go_quiet (fail)
                  obtain ⟨W1, hW1⟩ : ∃ W1, W.drewN nq = W1 := ⟨_, rfl⟩
                  have HB : Hid (Below w.heap.size w W1) := Lib.hid (by rw [← hW1]; exact HK.out.1.trans ((below_drewN W nq).mono HK.out.1.size))
                  have c1 : ∀ j, W1.cell? ⟨w.heap.size, j, none⟩ = (#[.int .i64 3, .int .u32 a, .int .u16 i, .int .u32 m] : Array Value)[j]? := by rw [← hW1]; simpa using c0
                  have hlt : w.heap.size < W1.heap.size := cell_lt (c1 0)
                  rw [hW1]
                  clear hW1 c0
                  have d1 : ∀ j, (W1.alloc (.cells #[.int .u32 m] 26)).cell? ⟨w.heap.size, j, none⟩ = (#[.int .i64 3, .int .u32 a, .int .u16 i, .int .u32 m] : Array Value)[j]? := fun j => ((((Below.refl _ W1).alloc (Nat.le_refl _) _).cell (p := ⟨w.heap.size, j, none⟩) hlt)).trans (c1 j)
                  have HV := Lib.hid (within_one 1 1073741824 m W1.heap.size (W1.alloc (.cells #[.int .u32 m] 26)) (blk_cell (heap_alloc_new W1 _) 0))
                  have HV2 := Lib.hid (within_one 1 1000000 a (W1.heap.size + 1) ((W1.alloc (.cells #[.int .u32 m] 26)).alloc (.cells #[.int .u32 a] 26)) (by have := heap_alloc_new (W1.alloc (.cells #[.int .u32 m] 26)) (.cells #[.int .u32 a] 26); rw [World.size_alloc] at this; exact blk_cell this 0))
                  rcases hv : wthn 1 1073741824 m with _ | _
                  · rw [hv] at HV
                    go_wp2_with (first | (go_at_call 197; with_reducible refine HV.out.mono ?_; rintro e w' ⟨rfl, rfl⟩) | (go_at_call 197; with_reducible refine HV2.out.mono ?_; rintro e w' ⟨rfl, rfl⟩))
                    go_ret
                    have hR := HK.out.2.2.2
                    simp only [if_pos, hm, hi, hv, Bool.true_and, Bool.false_and, Bool.and_false, Bool.and_true] at hR
                    exact ⟨by rw [← hR]; try rfl, HB.out.alloc HB.out.size _⟩
                  · rw [hv] at HV
                    go_wp2_with (first | (go_at_call 197; with_reducible refine HV.out.mono ?_; rintro e w' ⟨rfl, rfl⟩) | (go_at_call 197; with_reducible refine HV2.out.mono ?_; rintro e w' ⟨rfl, rfl⟩))
                    go_ret
                    have hR := HK.out.2.2.2
                    simp only [if_pos, hm, hi, hv, Bool.true_and, Bool.false_and, Bool.and_false, Bool.and_true] at hR
                    exact ⟨by rw [← hR]; try rfl, ((HB.out.alloc HB.out.size _).alloc (by have := HB.out.size; simp; omega) _)⟩
                · have f1 : (k == 1) = false := by simpa using e1
                  have f2 : (k == 2) = false := by simpa using e2
                  have f4 : (k == 4) = false := by simpa using e4
                  have f5 : (k == 5) = false := by simpa using e5
                  have f6 : (k == 6) = false := by simpa using e6
                  have f3 : (k == 3) = false := by simpa using e3
                  go_enter Tryz.func176, Tryz.ntmps176
                  go_wp2_with fail
                  go_quiet (fail)
                  obtain ⟨W1, hW1⟩ : ∃ W1, W.drewN nq = W1 := ⟨_, rfl⟩
                  have HB : Hid (Below w.heap.size w W1) := Lib.hid (by rw [← hW1]; exact HK.out.1.trans ((below_drewN W nq).mono HK.out.1.size))
                  have c1 : ∀ j, W1.cell? ⟨w.heap.size, j, none⟩ = (#[.int .i64 k, .int .u32 a, .int .u16 i, .int .u32 m] : Array Value)[j]? := by rw [← hW1]; simpa using c0
                  have hlt : w.heap.size < W1.heap.size := cell_lt (c1 0)
                  rw [hW1]
                  clear hW1 c0
                  go_wp2_with fail
                  go_ret
                  have hR := HK.out.2.2.2
                  rw [if_neg (by omega), if_neg (by omega), if_neg (by omega), if_neg (by omega), if_neg (by omega), if_neg (by omega)] at hR
                  exact ⟨by rw [← hR]; try rfl, HB.out⟩
end Go.Proofs.YtmkcbkdbdcnoiaaGreatDoor
