/- Plain functions and facts, without Go: numbers as bytes, the greatest first, and back. -/
namespace Go.Proofs.Ytnbmpcdomdaimaa

/-- The last k bytes of n, the greatest first. -/
def be (n : Nat) : Nat → List UInt8
  | 0 => []
  | k + 1 => UInt8.ofNat (n >>> (8 * k)) :: be n k

theorem be_length (n k : Nat) : (be n k).length = k := by
  induction k with
  | zero => rfl
  | succ k ih => simp [be, ih]

/-- The number of bytes, the greatest first. -/
def num (l : List UInt8) : Nat := l.foldl (fun n b => n * 256 + b.toNat) 0

theorem foldl_num (l : List UInt8) (n : Nat) : l.foldl (fun n b => n * 256 + b.toNat) n = n * 256 ^ l.length + num l := by
  unfold num
  induction l generalizing n with
  | nil => simp
  | cons b l ih =>
    simp only [List.foldl_cons, List.length_cons]
    rw [ih, ih (0 * 256 + b.toNat)]
    rw [Nat.pow_succ, Nat.add_mul, Nat.mul_assoc n 256, Nat.mul_comm 256 (256 ^ l.length), Nat.zero_mul, Nat.zero_add]
    omega

theorem num_cons (b : UInt8) (l : List UInt8) : num (b :: l) = b.toNat * 256 ^ l.length + num l := by
  have := foldl_num l (0 * 256 + b.toNat)
  unfold num at this ⊢
  simp only [List.foldl_cons]
  rw [this]
  simp

theorem num_snoc (l : List UInt8) (b : UInt8) : num (l ++ [b]) = num l * 256 + b.toNat := by
  unfold num
  simp [List.foldl_append]

theorem num_lt (l : List UInt8) : num l < 256 ^ l.length := by
  induction l with
  | nil => simp [num]
  | cons b l ih =>
    rw [num_cons, List.length_cons, Nat.pow_succ]
    have hb := b.toNat_lt
    have : b.toNat * 256 ^ l.length ≤ 255 * 256 ^ l.length := Nat.mul_le_mul_right _ (by omega)
    omega

theorem num_be (n k : Nat) : num (be n k) = n % 256 ^ k := by
  induction k with
  | zero => simp [be, num, Nat.mod_one]
  | succ k ih =>
    rw [be, num_cons, be_length, ih]
    have h1 : (UInt8.ofNat (n >>> (8 * k))).toNat = (n / 256 ^ k) % 256 := by
      rw [UInt8.toNat_ofNat', Nat.shiftRight_eq_div_pow, Nat.pow_mul]
    rw [h1, Nat.pow_succ, Nat.mod_mul, Nat.mul_comm (256 ^ k)]
    omega

theorem be_num (l : List UInt8) (n : Nat) : be (n * 256 ^ l.length + num l) l.length = l := by
  induction l generalizing n with
  | nil => rfl
  | cons b l ih =>
    rw [List.length_cons, be]
    have hlt := num_lt l
    have hp : 0 < 256 ^ l.length := Nat.pow_pos (by omega)
    congr 1
    · have : (n * 256 ^ (l.length + 1) + num (b :: l)) >>> (8 * l.length) = n * 256 + b.toNat := by
        rw [Nat.shiftRight_eq_div_pow, Nat.pow_mul, num_cons, Nat.pow_succ]
        show (n * (256 ^ l.length * 256) + (b.toNat * 256 ^ l.length + num l)) / 256 ^ l.length = _
        rw [show n * (256 ^ l.length * 256) + (b.toNat * 256 ^ l.length + num l) = num l + 256 ^ l.length * (n * 256 + b.toNat) by
          rw [Nat.mul_add, Nat.mul_comm b.toNat, Nat.mul_left_comm n]
          omega]
        rw [Nat.add_mul_div_left _ _ hp, Nat.div_eq_of_lt hlt]; omega
      rw [this]
      apply UInt8.toNat_inj.1
      rw [UInt8.toNat_ofNat']
      have := b.toNat_lt
      omega
    · have := ih (n * 256 + b.toNat)
      rw [show n * 256 ^ (l.length + 1) + num (b :: l) = (n * 256 + b.toNat) * 256 ^ l.length + num l by
        rw [num_cons, Nat.pow_succ, Nat.add_mul, Nat.mul_assoc, Nat.mul_comm 256 (256 ^ l.length)]; omega]
      exact this

theorem be_num' (l : List UInt8) : be (num l) l.length = l := by
  have := be_num l 0
  simpa using this

/-- The numbers of bytes, of so many each, each with its place. -/
def rows : Nat → List Nat → List UInt8 → List (Nat × Nat)
  | _, [], _ => []
  | i, k :: ks, l => (i, num (l.take k)) :: rows (i + 1) ks (l.drop k)

theorem num_take_succ (l : List UInt8) (k : Nat) (h : k < l.length) : num (l.take (k + 1)) = num (l.take k) * 256 + (l[k]'h).toNat := by
  rw [List.take_succ_eq_append_getElem h, num_snoc]

theorem num_lt8 (l : List UInt8) (h : l.length ≤ 8) : num l < 18446744073709551616 := by
  have h1 := num_lt l
  have h2 : 256 ^ l.length ≤ 256 ^ 8 := Nat.pow_le_pow_right (by omega) h
  have h3 : (256 : Nat) ^ 8 = 18446744073709551616 := by decide
  omega

theorem num_take_lt (l : List UInt8) (k : Nat) (h : k ≤ 8) : num (l.take k) < 18446744073709551616 :=
  num_lt8 _ (by rw [List.length_take]; omega)

theorem rows_length (i : Nat) (ks : List Nat) (l : List UInt8) : (rows i ks l).length = ks.length := by
  induction ks generalizing i l with
  | nil => rfl
  | cons k ks ih => simp [rows, ih]

end Go.Proofs.Ytnbmpcdomdaimaa
