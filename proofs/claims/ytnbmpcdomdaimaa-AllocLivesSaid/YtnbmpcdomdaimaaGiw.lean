/- What the law's cut answers, in the form of the printed texts. -/
import Derived.Test.YtnbmpcdomdaimaaGiv
import Derived.Test.YtnbmpcdomdaimaaCut
namespace Go.Proofs.YtnbmpcdomdaimaaQ.PA
open Go.RowKit Go.Proofs.YtnbmpcdomdaimaaW.PrintWords Go.Proofs.YtnbmpcdomdaimaaW.PrintLast Go.Proofs.YtnbmpcdomdaimaaW.PrintMore
open Go.Proofs.Ytnbmpcdomdaimaa (cut_some cut_none)
set_option linter.unusedVariables false
set_option linter.unusedSimpArgs false

/-- The cells of spares. -/
def s44 (l : List S44) : List Value := l.flatMap fun s => [.int .u32 s.f0, .int .u64 s.f1]
theorem s44_cons (x : S44) (l : List S44) : s44 (x :: l) = .int .u32 x.f0 :: .int .u64 x.f1 :: s44 l := rfl
theorem s44_length (l : List S44) : (s44 l).length = l.length * 2 := by
  induction l with
  | nil => rfl
  | cons x l ih => rw [s44_cons, List.length_cons, List.length_cons, ih, List.length_cons]; omega
theorem s44_one (l : List S44) : ∀ u ∈ s44 l, u.oneCell' = true := by
  intro u hu
  obtain ⟨s, _, hs⟩ := List.mem_flatMap.1 hu
  rcases List.mem_cons.1 hs with rfl | hs
  · rfl
  · rw [List.mem_singleton.1 hs]; rfl
theorem s44_get : ∀ (l : List S44) (i : Nat) (h : i < l.length), (s44 l)[i * 2]? = some (.int .u32 (l[i]'h).f0) ∧ (s44 l)[i * 2 + 1]? = some (.int .u64 (l[i]'h).f1) ∧ ((s44 l).drop (i * 2)).take 2 = [.int .u32 (l[i]'h).f0, .int .u64 (l[i]'h).f1] := by
  intro l
  induction l with
  | nil => intro i h; simp at h
  | cons x l ih =>
    intro i h
    cases i with
    | zero => exact ⟨rfl, rfl, rfl⟩
    | succ i =>
      have := ih i (by simpa using h)
      rw [s44_cons, show (i + 1) * 2 = i * 2 + 1 + 1 by omega]
      simpa using this
theorem s44_take (l : List S44) (m : Nat) : s44 (l.take m) = (s44 l).take (m * 2) := by
  induction l generalizing m with
  | nil => simp [s44]
  | cons x l ih =>
    cases m with
    | zero => simp [s44]
    | succ m => rw [List.take_succ_cons, s44_cons, s44_cons, show (m + 1) * 2 = m * 2 + 1 + 1 by omega, List.take_succ_cons, List.take_succ_cons, ih]
theorem reps_s44 (w : World) (base : Nat) (ok : Nat → Prop) (l : List S44) : Reps (k44.M w base ok) k44.sz l (s44 l) := by
  refine ⟨s44_length l, ?_⟩
  intro j p hp
  obtain ⟨hj, rfl⟩ := List.getElem?_eq_some_iff.1 hp
  show k44.M w base ok _ (List.take 2 (List.drop (j * 2) (s44 l)))
  rw [(s44_get l j hj).2.2]
  exact k44_mkM w base ok _
theorem s44_cells {w : World} {ad : Addr} {l : List S44} (h : Kd.C k44 w (some ad) l.length l) : ∀ j u, (s44 l)[j]? = some u → w.cell? (ad.add j) = some u := by
  intro j u hj
  have hlt : j < l.length * 2 := by have := (List.getElem?_eq_some_iff.1 hj).1; rwa [s44_length] at this
  have hi : j / 2 < l.length := by omega
  obtain ⟨ad', e, c0, c1⟩ := at_T44 h ((j / 2 : Nat) : Int) (by omega) (by omega)
  cases e
  have hrd : rd_T44 l ((j / 2 : Nat) : Int) = l[j / 2]'hi := by rw [rd_T44, Int.toNat_natCast, List.getD_eq_getElem?_getD, List.getElem?_eq_getElem hi]; rfl
  rw [hrd] at c0 c1
  simp only [Int.toNat_natCast] at c0 c1
  obtain ⟨g1, g2, _⟩ := s44_get l (j / 2) hi
  rcases Nat.mod_two_eq_zero_or_one j with hm | hm
  · rw [show j / 2 * 2 = j by omega] at c0 g1
    rw [c0, ← g1]; exact hj
  · rw [← add_field _ _ 1 (by omega), show j / 2 * 2 + 1 = j by omega] at c1
    rw [show j / 2 * 2 + 1 = j by omega] at g2
    rw [c1, ← g2]; exact hj

theorem made_of_cells {w : World} {base g c n : Nat} {l : List S44} (hb : base ≤ g) (hn : l.length = n) (hnc : n ≤ c) (hcm : c ≤ maxLen) (h : ∃ cur : Array Value, w.heap[g]? = some (.cells cur 44 (0, 0)) ∧ cur.size = c * 2 ∧ cur.toList.take (n * 2) = s44 l) : Kd.R k44 44 w base (fun _ => True) (.slice (some ⟨g, 0, none⟩) n c) l := by
  obtain ⟨cur, hg, hs, ht⟩ := h
  refine ⟨fun _ _ => trivial, s44 l, ?_, reps_s44 _ _ _ l⟩
  refine ⟨s44_length l, .inr ⟨g, c, cur, by rw [hn], hb, hg, by rw [hn]; exact hnc, hcm, hs, ?_⟩⟩
  rw [hn]
  exact ht

def bazaarlaw05_cut.f (a0_0 a0_1 : Int) (l0_2 : List S44) : Option (Int × Int × List S44) := if l0_2.length ≤ 9223372036854775807 then some (a0_0, a0_1, l0_2.take 4100) else none

theorem bazaarlaw05_cut.calls (a0_0 : Int) (a0_1 : Int) (A0_2 : Option Addr) (c0_2 : Nat) (l0_2 : List (S44)) (r1 : Int) (r2 : Int) (r3 : List (S44)) (w : World) (hr0_2 : Kd.C k44 w A0_2 l0_2.length l0_2) (hc0_2 : l0_2.length ≤ c0_2) (h : bazaarlaw05_cut.f a0_0 a0_1 l0_2 = some (r1, r2, r3)) :
    Calls Try.prog 12 #[.agg #[.int .u32 a0_0, .int .u32 a0_1, .slice A0_2 l0_2.length c0_2]] w fun e w' => ∃ v2_ : Value, e = .returned (.agg #[.int .u32 r1, .int .u32 r2, v2_]) ∧ Kd.R k44 44 w' w.heap.size (fun _ => True) v2_ r3 ∧ Below w.heap.size w w' := by
  unfold bazaarlaw05_cut.f at h
  split at h
  · rename_i hlen
    simp only [Option.some.injEq, Prod.mk.injEq] at h
    obtain ⟨rfl, rfl, rfl⟩ := h
    have hmx : maxLen = 9223372036854775807 := rfl
    have hlt : (l0_2.take 4100).length = min l0_2.length 4100 := by rw [List.length_take, Nat.min_comm]
    cases A0_2 with
    | some ad =>
      refine (cut_some a0_0 a0_1 ad l0_2.length c0_2 (min l0_2.length 4100) (s44 (l0_2.take 4100)) w hlen hc0_2 rfl (by rw [s44_length, hlt]) ?_ (s44_one _)).mono ?_
      · intro j u hj
        rw [s44_take, List.getElem?_take] at hj
        split at hj
        · exact s44_cells hr0_2 j u hj
        · simp at hj
      · rintro e w' ⟨g, rfl, hg, hq, hb⟩
        exact ⟨_, rfl, made_of_cells hg hlt (by omega) (by omega) hq, hb⟩
    | none =>
      have h0 : l0_2 = [] := by
        rcases Nat.eq_zero_or_pos l0_2.length with h | h
        · exact List.eq_nil_of_length_eq_zero h
        · obtain ⟨ad, e, _⟩ := at_T44 hr0_2 0 (Int.le_refl _) (by omega)
          cases e
      subst h0
      refine (cut_none a0_0 a0_1 0 c0_2 0 w (by omega) hc0_2 rfl rfl).mono ?_
      rintro e w' ⟨g, rfl, hg, hq, hb⟩
      exact ⟨_, rfl, made_of_cells (l := []) hg rfl (by omega) (by omega) hq, hb⟩
  · simp at h
end Go.Proofs.YtnbmpcdomdaimaaQ.PA
