/- Streams in plain Lean: what is framed piece by piece is split into these, wherever the stream is cut. -/
import Derived.Test.YtbjbadnkpeakcaaSpl
namespace Go.Proofs.Ytbjbadnkpeakcaa
open Go.RowKit
set_option linter.unusedVariables false
set_option linter.unusedSimpArgs false

def fr (x : ByteArray) : ByteArray := ⟨(be x.size 2).toArray⟩ ++ x
def cat : List ByteArray → ByteArray
  | [] => ⟨#[]⟩
  | x :: l => fr x ++ cat l

def lst (s : ByteArray) : List UInt8 := s.data.toList
theorem lst_inj {a b : ByteArray} (h : lst a = lst b) : a = b := ByteArray.ext (Array.toList_inj.1 h)
theorem lst_extract (s : ByteArray) (i j : Nat) : lst (s.extract i j) = ((lst s).drop i).take (j - i) := by
  unfold lst
  rw [ByteArray.data_extract, Array.toList_extract, List.extract_eq_take_drop]
theorem lst_append (a b : ByteArray) : lst (a ++ b) = lst a ++ lst b := by simp [lst]
theorem lst_length (s : ByteArray) : (lst s).length = s.size := by simp [lst]
theorem lst_fr (x : ByteArray) : lst (fr x) = be x.size 2 ++ lst x := by rw [fr, lst_append]; rfl
theorem lst_cat_cons (x : ByteArray) (l : List ByteArray) : lst (cat (x :: l)) = be x.size 2 ++ (lst x ++ lst (cat l)) := by rw [cat, lst_append, lst_fr, List.append_assoc]
theorem fr_size (x : ByteArray) : (fr x).size = 2 + x.size := by rw [← lst_length, lst_fr, List.length_append, be_length, lst_length]
theorem cat_size_cons (x : ByteArray) (l : List ByteArray) : (cat (x :: l)).size = 2 + x.size + (cat l).size := by
  rw [← lst_length, lst_cat_cons, List.length_append, List.length_append, be_length, lst_length, lst_length]; omega
theorem cat_snoc (l : List ByteArray) (x : ByteArray) : cat (l ++ [x]) = cat l ++ fr x := by
  apply lst_inj
  induction l with
  | nil => simp [cat, lst_append, lst]
  | cons y l ih => rw [List.cons_append, lst_cat_cons, ih, lst_append, lst_append, lst_cat_cons]; simp

theorem numAt_head (s : ByteArray) (n : Nat) (t : List UInt8) (hn : n < 65536) (h : (lst s).take 2 = be n 2) : numAt s 0 2 = n := by
  unfold numAt
  rw [List.drop_zero]
  show num ((lst s).take 2) = n
  rw [h, num_be, Nat.mod_eq_of_lt (by omega)]

theorem splits_cut (l : List ByteArray) : (∀ x ∈ l, 1 ≤ x.size ∧ x.size ≤ 100) → ∀ at' : Nat, at' ≤ (cat l).size →
    ∃ l1 l2 r, l = l1 ++ l2 ∧ SplitsTo ((cat l).extract 0 at') l1 r 0 ∧ r ++ (cat l).extract at' (cat l).size = cat l2 := by
  induction l with
  | nil =>
    intro _ k hk
    have h0 : (cat []).size = 0 := rfl
    obtain rfl : k = 0 := by omega
    refine ⟨[], [], _, rfl, .short _ (by rw [ByteArray.size_extract]; omega), ?_⟩
    apply lst_inj
    rw [lst_append, lst_extract, lst_extract, h0]
    simp [cat, lst]
  | cons x l ih =>
    intro hg k hk
    have hx := hg x (by simp)
    rw [cat_size_cons] at hk
    have hz := cat_size_cons x l
    have hp : ((cat (x :: l)).extract 0 k).size = k := by rw [ByteArray.size_extract]; omega
    have whole : (cat (x :: l)).extract 0 k ++ (cat (x :: l)).extract k (cat (x :: l)).size = cat (x :: l) := by
      apply lst_inj
      rw [lst_append, lst_extract, lst_extract]
      have e : ((lst (cat (x :: l))).drop k).take ((cat (x :: l)).size - k) = (lst (cat (x :: l))).drop k := List.take_of_length_le (by rw [List.length_drop, lst_length]; omega)
      rw [e]
      simp
    have hlp : lst ((cat (x :: l)).extract 0 k) = (be x.size 2 ++ (lst x ++ lst (cat l))).take k := by
      rw [lst_extract, lst_cat_cons, List.drop_zero, Nat.sub_zero]
    by_cases h2 : k < 2
    · exact ⟨[], x :: l, _, rfl, .short _ (by omega), whole⟩
    · have hn : numAt ((cat (x :: l)).extract 0 k) 0 2 = x.size := by
        refine numAt_head _ _ [] (by omega) ?_
        rw [hlp, List.take_take, show min 2 k = 2 by omega, List.take_left' (be_length _ _)]
      by_cases h3 : k < 2 + x.size
      · exact ⟨[], x :: l, _, rfl, .part _ (by omega) (by omega) (by omega) (by omega), whole⟩
      · obtain ⟨l1, l2, r, rfl, hs, hr⟩ := ih (fun y hy => hg y (by simp [hy])) (k - (2 + x.size)) (by omega)
        refine ⟨x :: l1, l2, r, rfl, ?_, ?_⟩
        · have e1 : ((cat (x :: (l1 ++ l2))).extract 0 k).extract 2 (2 + x.size) = x := by
            apply lst_inj
            rw [lst_extract, hlp, List.drop_take, List.take_take, show min (2 + x.size - 2) (k - 2) = x.size by omega, List.drop_left' (be_length _ _), List.take_left' (lst_length x)]
          have e2 : ((cat (x :: (l1 ++ l2))).extract 0 k).extract (2 + x.size) k = (cat (l1 ++ l2)).extract 0 (k - (2 + x.size)) := by
            apply lst_inj
            rw [lst_extract, hlp, lst_extract, List.drop_take, List.take_take, Nat.min_self, ← List.append_assoc, List.drop_left' (by rw [List.length_append, be_length, lst_length])]
            simp
          have hm := SplitsTo.more ((cat (x :: (l1 ++ l2))).extract 0 k) l1 r 0 (by omega) (by omega) (by omega) (by omega) (by rw [hn, hp, e2]; exact hs)
          rw [hn, e1] at hm
          exact hm
        · rw [← hr]
          congr 1
          apply lst_inj
          rw [lst_extract, lst_extract, lst_cat_cons, cat_size_cons, ← List.append_assoc]
          have e3 : (be x.size 2 ++ lst x).length = 2 + x.size := by rw [List.length_append, be_length, lst_length]
          rw [show k = (be x.size 2 ++ lst x).length + (k - (2 + x.size)) by omega, List.drop_append, e3, List.drop_of_length_le (by omega), List.nil_append]
          congr 1
          first | omega | (congr 1; omega)

theorem cat_none : (cat []).size = 0 := rfl

theorem splits_cat (l : List ByteArray) : (∀ x ∈ l, 1 ≤ x.size ∧ x.size ≤ 100) → SplitsTo (cat l) l ⟨#[]⟩ 0 := by
  induction l with
  | nil => exact fun _ => .short _ (by rw [cat_none]; omega)
  | cons x l ih =>
    intro hg
    have hx := hg x (by simp)
    have hz := cat_size_cons x l
    have hn : numAt (cat (x :: l)) 0 2 = x.size := by
      refine numAt_head _ _ [] (by omega) ?_
      rw [lst_cat_cons, List.take_left' (be_length _ _)]
    have e1 : (cat (x :: l)).extract 2 (2 + x.size) = x := by
      apply lst_inj
      rw [lst_extract, lst_cat_cons, List.drop_left' (be_length _ _), show 2 + x.size - 2 = x.size by omega, List.take_left' (lst_length x)]
    have e2 : (cat (x :: l)).extract (2 + x.size) (cat (x :: l)).size = cat l := by
      apply lst_inj
      rw [lst_extract, lst_cat_cons, ← List.append_assoc, List.drop_left' (by rw [List.length_append, be_length, lst_length]), hz]
      exact List.take_of_length_le (by rw [lst_length]; omega)
    have hm := SplitsTo.more (cat (x :: l)) l ⟨#[]⟩ 0 (by omega) (by omega) (by omega) (by omega) (by rw [hn, e2]; exact ih (fun y hy => hg y (by simp [hy])))
    rw [hn, e1] at hm
    exact hm
end Go.Proofs.Ytbjbadnkpeakcaa
