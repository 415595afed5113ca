/- The iterator of codec.numbers: it hands over the numbers of the bytes, one by one, each with its place. -/
import Derived.Test.YtbjbadnkpeakcaaRows
import Derived.Test.YtbjbadnkpeakcaaRng
import Derived.Test.YtbjbadnkpeakcaaPl
import Derived.WalkSpells
import Derived.WalkLawsBesides
import Derived.Lib.IndexBytes
set_option linter.unusedSimpArgs false
namespace Go.Proofs.Ytbjbadnkpeakcaa
open Go.RowKit
set_option linter.unusedVariables false
attribute [local go_sem] Oper.semAt_some

theorem wraps_u64 (n : Int) (h₀ : 0 ≤ n) (h₁ : n < 2 ^ 64) : IntKind.u64.wrap n = n := IntWalk.u64_in n ⟨h₀, by omega⟩

theorem or_byte (a : Nat) (b : UInt8) (h : a < 72057594037927936) : bits .or .u64 (IntKind.u64.wrap ((a : Int) * 256)) (IntKind.u64.wrap (b.toNat : Int)) = ((a * 256 + b.toNat : Nat) : Int) := by
  have hb := b.toNat_lt
  rw [IntWalk.u64_in _ (by omega), IntWalk.u64_in _ (by omega), bits_join .u64 64 (by decide) wraps_u64 8 _ _ (by omega) (by omega) (by omega) (by omega) (by omega) (by omega)]
  omega

/-- What the iterator reads lies as it lay. -/
def ItReads (Bz Bs ba : Nat) (sizes : List Nat) (W : World) : Prop :=
  W.heap[Bz]? = some (.cells #[.slice (some ⟨ba, 0, none⟩) sizes.length sizes.length] 71 (0, 0)) ∧
  W.heap[ba]? = some (.cells (sizes.map fun k : Nat => Value.int .i64 (k : Int)).toArray 3 (0, 0))

def encRow (x : Nat × Nat) : Array Value := #[.int .i64 (x.1 : Int), .int .u64 (x.2 : Int)]

set_option maxHeartbeats 400000 in
set_option maxRecDepth 100000 in
theorem numbers_iter (n Bz Bs ba : Nat) (sizes : List Nat) (s : ByteArray) (w : World) (hsz : s.size = sizes.sum) (h8 : ∀ k ∈ sizes, k ≤ 8) (hn : sizes.length ≤ 100)
    (hr : ItReads Bz Bs ba sizes w) (hs : w.heap[Bs]? = some (.cells #[.string s] 9 (0, 0))) (hne : Bz ≠ Bs ∧ ba ≠ Bs) (h1 : 1 ≤ n) :
    Iter n Try.prog 33 #[.pointer (some ⟨Bz, 0, none⟩), .pointer (some ⟨Bs, 0, none⟩)] encRow (rows 0 sizes s.data.toList) (fun k => k = Bs) (fun k => k = Bz ∨ k = ba) 0 w := by
  intro l J Jx W hW hsame hJ hJx hY h0
  have HY := Lib.hid hY
  have HJ := Lib.hid hJ
  have H0 := Lib.hid h0
  clear hY hJ hJx h0
  have HR : Hid (ItReads Bz Bs ba sizes W) := Lib.hid ⟨(hsame Bz (Array.getElem?_eq_some_iff.1 hr.1).1 (.inr (.inl rfl))).trans hr.1, (hsame ba (Array.getElem?_eq_some_iff.1 hr.2).1 (.inr (.inr rfl))).trans hr.2⟩
  have HS := Lib.hid ((hsame Bs (Array.getElem?_eq_some_iff.1 hs).1 (.inl rfl)).trans hs)
  clear hsame hr hs
  have hc1 : W.cell? ⟨Bz, 0, none⟩ = some (.slice (some ⟨ba, 0, none⟩) sizes.length sizes.length) := by rw [Lib.cell_of_heap HR.out.1]; rfl
  refine callsIn_of_wp Try.func33 rfl trivial ?_ rfl
  simp only [Try.ntmps33, List.size_toArray, List.length_cons, List.length_nil, Nat.reduceAdd, Nat.reduceSub, Array.replicate_succ, Array.replicate_zero, List.push_toArray, List.append_toArray, List.nil_append, List.cons_append]
  gi_wp2
  gi_loopw [10] (fun i wr => ∃ (k : Nat) (pre : List (Nat × Nat)) (S : ByteArray), k ≤ sizes.length ∧ i = .int .i64 k ∧ Hid (rows 0 sizes s.data.toList = pre ++ rows k (sizes.drop k) S.data.toList) ∧ Hid (S.size = (sizes.drop k).sum) ∧
      Hid (ItReads Bz Bs ba sizes wr) ∧ Hid (wr.heap[Bs]? = some (.cells #[.string S] 9 (0, 0))) ∧ Hid (J pre wr) ∧ W.heap.size ≤ wr.heap.size) (fun i _ => sizes.length - (intOf i).toNat)
  case atStart => exact ⟨0, [], s, Nat.zero_le _, rfl, Lib.hid rfl, Lib.hid hsz, HR, HS, H0, Nat.le_refl _⟩
  case round =>
    obtain ⟨k, pre, S, hk, rfl, HRow, HSz, HR, HS, HP, hle⟩ := hrel
    by_cases hlt : k < sizes.length
    · obtain ⟨z, hz⟩ : ∃ z, sizes[k]'hlt = z := ⟨_, rfl⟩
      have hz8 := h8 _ (List.getElem_mem hlt)
      have hdrop : sizes.drop k = z :: sizes.drop (k + 1) := by rw [← hz]; exact List.drop_eq_getElem_cons hlt
      have HD := Lib.hid hdrop
      have hzs : z ≤ S.size := by have := HSz.out; rw [hdrop, List.sum_cons] at this; omega
      have hca : wr.cell? ⟨ba, k, none⟩ = some (.int .i64 (z : Int)) := by
        rw [Lib.cell_of_heap HR.out.2]
        simp [List.getElem?_eq_getElem hlt, hz]
      have hcs : wr.cell? ⟨Bs, 0, none⟩ = some (.string S) := by rw [Lib.cell_of_heap HS.out]; rfl
      have hfs : wr.frozen? ⟨Bs, 0, none⟩ = false := Lib.frozen_of_heap HS.out 0
      rw [hz] at hz8
      clear hz hdrop
      gi_wp2
      gi_loop [6, 16] (fun v i => ∃ j : Nat, j ≤ z ∧ i = .int .i64 j ∧ v = .int .u64 (num (S.data.toList.take j) : Int)) (fun _ i => z - (intOf i).toNat)
      case atStart => exact ⟨0, Nat.zero_le _, rfl, rfl⟩
      case round =>
        obtain ⟨j, hj, rfl, rfl⟩ := hrel
        by_cases hjz : j < z
        · have hjs : j < S.size := by omega
          gi_wp2
          go_round
          case rel => exact ⟨j + 1, by omega, by go_num, by
            rw [or_byte _ _ (by
              have h1 := num_lt (S.data.toList.take j)
              have h2 : 256 ^ (S.data.toList.take j).length ≤ 256 ^ 7 := Nat.pow_le_pow_right (by omega) (by rw [List.length_take]; omega)
              have h3 : (256 : Nat) ^ 7 = 72057594037927936 := by decide
              omega), num_take_succ _ j (by simpa using hjs)]
            rfl⟩
          case measure => simp [intOf]; omega
        · obtain rfl : j = z := by omega
          have hst := (Same.refl (fun k => ¬ (k = Bs) ∧ ¬ (W.heap.size ≤ k ∧ k < W.heap.size + 0)) wr).setCell (p := ⟨Bs, 0, none⟩) (fun _ h => h.1 rfl) (.string (S.extract j S.size))
          have hrest : rows k (sizes.drop k) S.data.toList = (k, num (S.data.toList.take j)) :: rows (k + 1) (sizes.drop (k + 1)) (S.extract j S.size).data.toList := by
            rw [HD.out, rows, Lib.extract_to_end]
          have HX := Lib.hid (HRow.out.trans (congrArg (pre ++ ·) hrest))
          obtain ⟨fn, tmps, assign, body, hy, hR⟩ := HY.out pre _ _ _ HX.out (HJ.out _ _ _ HP.out hle hst) (by simpa [World.setCell] using hle)
          dsimp only [encRow] at hy
          have HRR := Lib.hid hR
          clear hR hst hrest
          gi_wp2
          refine HRR.out.mono ?_
          rintro e W3 (⟨rfl, hJ3, hk3⟩ | ⟨rfl, hJx3⟩)
          · have hle3 := hk3.size
            have hle4 : W.heap.size ≤ W3.heap.size := by simp [World.setCell] at hle3; omega
            have H3 := Lib.hid hJ3
            have HK3 := Lib.hid hk3
            clear hJ3 hk3 hle3
            gi_wp2
            go_roundw
            case rel =>
              refine ⟨k + 1, pre ++ [(k, num (S.data.toList.take j))], S.extract j S.size, by omega, by go_num, Lib.hid (by rw [HX.out, List.append_assoc]; rfl), ?_, ?_, ?_, H3, hle4⟩
              · have h2 := HSz.out
                rw [HD.out, List.sum_cons] at h2
                exact Lib.hid (by simp; omega)
              · have hb : ∀ k, k ≠ Bs → (wr.setCell ⟨Bs, 0, none⟩ (.string (S.extract j S.size))).heap[k]? = wr.heap[k]? := fun k hk => Below.heap_setCell _ _ _ k hk
                exact Lib.hid ⟨HK3.out.at_ ((hb Bz hne.1).trans HR.out.1) (.inr (.inl (.inl rfl))), HK3.out.at_ ((hb ba hne.2).trans HR.out.2) (.inr (.inl (.inr rfl)))⟩
              · refine Lib.hid (HK3.out.at_ ?_ (.inl rfl))
                exact Boxed.set (t := 9) (.string (S.extract j S.size)) HS.out
            case measure => simp [intOf]; omega
          · have H3 := Lib.hid hJx3
            clear hJx3
            gi_wp2
            refine bodyPost_ret (results_none rfl _ _ _) rfl ?_
            exact ⟨⟨_, rfl⟩, .inr ⟨pre ++ [(k, num (S.data.toList.take j))], ⟨rows (k + 1) (sizes.drop (k + 1)) (S.extract j S.size).data.toList, by rw [HX.out, List.append_assoc]; rfl⟩, H3.out⟩⟩
    · obtain rfl : k = sizes.length := by omega
      have HX := HRow.out
      rw [List.drop_length, rows, List.append_nil] at HX
      have HX2 := Lib.hid HX
      clear HX hlt
      gi_wp2
      go_end0
      exact ⟨⟨_, rfl⟩, .inl ⟨hle, by rw [HX2.out]; exact HP.out⟩⟩
end Go.Proofs.Ytbjbadnkpeakcaa
