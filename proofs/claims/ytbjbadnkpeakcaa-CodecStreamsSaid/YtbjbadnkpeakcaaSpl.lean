/- Streams: what Split answers. -/
import Derived.Test.YtbjbadnkpeakcaaRh
import Derived.Deep.QuietTactic
namespace Go.Proofs.Ytbjbadnkpeakcaa
open Go.RowKit
set_option linter.unusedVariables false
set_option linter.unusedSimpArgs false

/-- What a stream is split into: the pieces, the rest, the error. -/
inductive SplitsTo : ByteArray → List ByteArray → ByteArray → Int → Prop
  | short (s : ByteArray) : s.size < 2 → SplitsTo s [] s 0
  | bad (s : ByteArray) : 2 ≤ s.size → (numAt s 0 2 < 1 ∨ 100 < numAt s 0 2) → SplitsTo s [] s 170
  | part (s : ByteArray) : 2 ≤ s.size → 1 ≤ numAt s 0 2 → numAt s 0 2 ≤ 100 → s.size < 2 + numAt s 0 2 → SplitsTo s [] s 0
  | more (s : ByteArray) (l : List ByteArray) (r : ByteArray) (e : Int) : 2 ≤ s.size → 1 ≤ numAt s 0 2 → numAt s 0 2 ≤ 100 → 2 + numAt s 0 2 ≤ s.size → SplitsTo (s.extract (2 + numAt s 0 2) s.size) l r e → SplitsTo s (s.extract 2 (2 + numAt s 0 2) :: l) r e

theorem splits_any (k : Nat) : ∀ s : ByteArray, s.size ≤ k → ∃ l r e, SplitsTo s l r e := by
  induction k with
  | zero => intro s hs; exact ⟨_, _, _, .short s (by omega)⟩
  | succ k ih =>
    intro s hs
    by_cases h2 : s.size < 2
    · exact ⟨_, _, _, .short s h2⟩
    · by_cases h0 : numAt s 0 2 < 1 ∨ 100 < numAt s 0 2
      · exact ⟨_, _, _, .bad s (by omega) h0⟩
      · by_cases h3 : s.size < 2 + numAt s 0 2
        · exact ⟨_, _, _, .part s (by omega) (by omega) (by omega) h3⟩
        · obtain ⟨l, r, e, h⟩ := ih (s.extract (2 + numAt s 0 2) s.size) (by rw [ByteArray.size_extract]; omega)
          exact ⟨_, _, _, .more s l r e (by omega) (by omega) (by omega) (by omega) h⟩

def txt (l : List ByteArray) : List Value := l.map Value.string
theorem txt_length (l : List ByteArray) : (txt l).length = l.length := by simp [txt]
theorem infoString : (Try.prog.info? 9).map (fun i => (i.zero, i.size, i.bytes)) = some (some (.string ⟨#[]⟩), 1, 16) := by kernel_rfl

set_option maxHeartbeats 1000000 in
set_option maxRecDepth 100000 in
theorem refSplit_any (s : ByteArray) (l : List ByteArray) (r : ByteArray) (e : Int) (hs : s.size ≤ 5000) (h : SplitsTo s l r e) (w : World) :
    Calls Try.prog 22 #[.string s] w fun x w' => ∃ v, x = .returned (.tuple #[v, .string r, .int .i64 e]) ∧ w'.ownsRow w.heap.size 9 1 v l.length (txt l) ∧ Below w.heap.size w w' := by
  have HS := Lib.hid h
  clear h
  go_enter Try.func22, Try.ntmps22
  go_wp2
  go_loopw [0, 5] (fun c v wr => ∃ (cur : ByteArray) (out rest : List ByteArray), c = .string cur ∧ Hid (SplitsTo cur rest r e) ∧ Hid (out ++ rest = l) ∧ out.length + cur.size ≤ 5000 ∧ Hid (wr.ownsRow w.heap.size 9 1 v out.length (txt out) ∧ Below w.heap.size w wr)) (fun c _ _ => match c with | .string cur => cur.size | _ => 0)
  case atStart => exact ⟨s, [], l, rfl, HS, Lib.hid rfl, by simpa using hs, Lib.hid ⟨⟨by simp [txt], .inl ⟨rfl, rfl⟩⟩, Below.refl _ _⟩⟩
  case round =>
    obtain ⟨cur, out, rest, rfl, HT, HL, hsz, HK⟩ := hrel
    have hT := HT.out
    clear HT
    cases hT with
    | short _ hlt =>
      have hL := HL.out
      rw [List.append_nil] at hL
      go_wp2
      go_ret3
      exact ⟨_, rfl, hL ▸ HK.out.1, HK.out.2⟩
    | bad _ h2 h0 =>
      have hL := HL.out
      rw [List.append_nil] at hL
      obtain ⟨n, hn⟩ : ∃ n, numAt r 0 2 = n := ⟨_, rfl⟩
      have HG := Lib.hid (fun w => get_at r 0 2 2 rfl (by omega) w)
      have hl : n < 65536 := by
        rw [← hn]; have := num_lt ((r.data.toList.drop 0).take 2); unfold numAt
        have h2 : 256 ^ ((r.data.toList.drop 0).take 2).length ≤ 256 ^ 2 := Nat.pow_le_pow_right (by omega) (by rw [List.length_take]; omega)
        omega
      have hv : IntKind.i64.wrap (n : Int) = (n : Int) := IntWalk.i64_in _ (by omega)
      rw [hn] at h0 HG
      clear hn
      by_cases hn1 : n < 1
      · have hn1 : decide ((n : Int) < 1) = true := by simp; omega
        go_wp2_with (go_at_call 28; refine (HG.out _).mono ?_; rintro r w' ⟨rfl, rfl⟩)
        go_ret3
        exact ⟨_, rfl, hL ▸ HK.out.1, HK.out.2⟩
      · have hn2 : decide ((100 : Int) < (n : Int)) = true := by simp; omega
        have hn1 : decide ((n : Int) < 1) = false := by simp; omega
        go_wp2_with (go_at_call 28; refine (HG.out _).mono ?_; rintro r w' ⟨rfl, rfl⟩)
        go_ret3
        exact ⟨_, rfl, hL ▸ HK.out.1, HK.out.2⟩
    | part _ h2 h0 h1 h3 =>
      have hL := HL.out
      rw [List.append_nil] at hL
      obtain ⟨n, hn⟩ : ∃ n, numAt r 0 2 = n := ⟨_, rfl⟩
      have HG := Lib.hid (fun w => get_at r 0 2 2 rfl (by omega) w)
      have hl : n < 65536 := by
        rw [← hn]; have := num_lt ((r.data.toList.drop 0).take 2); unfold numAt
        have h2 : 256 ^ ((r.data.toList.drop 0).take 2).length ≤ 256 ^ 2 := Nat.pow_le_pow_right (by omega) (by rw [List.length_take]; omega)
        omega
      have hv : IntKind.i64.wrap (n : Int) = (n : Int) := IntWalk.i64_in _ (by omega)
      rw [hn] at h0 h1 h3 HG
      clear hn
      have hn1 : decide ((n : Int) < 1) = false := by simp; omega
      have hn2 : decide ((100 : Int) < (n : Int)) = false := by simp; omega
      have hn3 : decide ((r.size : Int) < 2 + (n : Int)) = true := by simp; omega
      go_wp2_with (go_at_call 28; refine (HG.out _).mono ?_; rintro r w' ⟨rfl, rfl⟩)
      go_ret3
      exact ⟨_, rfl, hL ▸ HK.out.1, HK.out.2⟩
    | more _ rest' _ _ h2 h0 h1 h3 h4 =>
      obtain ⟨n, hn⟩ : ∃ n, numAt cur 0 2 = n := ⟨_, rfl⟩
      have HG := Lib.hid (fun w => get_at cur 0 2 2 rfl (by omega) w)
      rw [hn] at h0 h1 h3 h4 HL HG
      clear hn
      have H4 := Lib.hid h4
      clear h4
      have hn1 : decide ((n : Int) < 1) = false := by simp; omega
      have hn2 : decide ((100 : Int) < (n : Int)) = false := by simp; omega
      have hn3 : decide ((cur.size : Int) < 2 + (n : Int)) = false := by simp; omega
      have hv : IntKind.i64.wrap (n : Int) = (n : Int) := IntWalk.i64_in _ (by omega)
      obtain ⟨i0, hi, hi0, hi1, hi2⟩ := info_parts infoString
      go_wp2_with (first | (go_at_call 28; refine (HG.out _).mono ?_; rintro r w' ⟨rfl, rfl⟩) | (at_builtin; refine wpList_append_own _ rfl _ _ 43 rfl w.heap.size 9 i0 (.string ⟨#[]⟩) 1 16 Try.underlying43 hi hi0 hi1 hi2 rfl (by decide) _ _ _ rfl (HK.out.1.alloc _) ⟨wr.heap.size, 0, none⟩ 1 1 [.string (cur.extract 2 (2 + n))] rfl rfl (cell_one_new _ _ _) (by simp [Value.oneCell']) ?b1 ?b2 ?b3 ?_))
      case b1 => unfold maxLen; omega
      case b2 => omega
      case b3 => have := HK.out.2.size; simp; omega
      intro v' w1 hown hgrow _
      have HO := Lib.hid (And.intro hown hgrow)
      clear hown hgrow
      go_wp2
      go_roundw
      case rel =>
        refine ⟨_, out ++ [cur.extract 2 (2 + n)], rest', rfl, H4, Lib.hid (by rw [List.append_assoc]; exact HL.out), ?_, Lib.hid ⟨by simpa [txt] using HO.out.1, ?_⟩⟩
        · simp [ByteArray.size_extract]; omega
        · exact (HK.out.2.alloc HK.out.2.size _).grown HO.out.2 (by have := HK.out.2.size; simp; omega) (fun g hg => by
            rcases HK.out.1.2 with ⟨rfl, _⟩ | ⟨g', cap, cur', rfl, hb, _⟩
            · simp [Value.ownBlock] at hg
            · simp [Value.ownBlock] at hg; omega)
      case measure => simp [ByteArray.size_extract]; omega

theorem below_drewN (w : World) (m : Nat) : Below w.heap.size w (w.drewN m) := by
  induction m with
  | zero => exact Below.refl _ w
  | succ m ih => exact Below.drew ih

/-- A row of texts that can be read. -/
def TextRow (w : World) (v : Value) (l : List ByteArray) : Prop :=
  ∃ base cap, v = .slice base l.length cap ∧ (l = [] ∨ ∃ g, base = some ⟨g, 0, none⟩ ∧ ∀ i (h : i < l.length), w.cell? ⟨g, i, none⟩ = some (.string (l[i]'h)))

theorem TextRow.of_own {w : World} {B : Nat} {v : Value} {l : List ByteArray} (h : w.ownsRow B 9 1 v l.length (txt l)) : TextRow w v l := by
  have h0 := h
  rcases h.2 with ⟨rfl, hl⟩ | ⟨g, cap, cur, rfl, hg, _⟩
  · have : l = [] := List.eq_nil_of_length_eq_zero hl
    exact ⟨none, 0, by rw [this]; rfl, .inl this⟩
  · refine ⟨_, _, rfl, .inr ⟨g, rfl, fun i hi => ?_⟩⟩
    have := h0.cells (g := g) rfl i (.string (l[i]'hi)) (by simp [txt, List.getElem?_eq_getElem hi])
    rwa [add_plain] at this

theorem TextRow.below {w w' : World} {v : Value} {l : List ByteArray} (h : TextRow w v l) (hb : Below w.heap.size w w') : TextRow w' v l := by
  obtain ⟨base, cap, rfl, h⟩ := h
  refine ⟨base, cap, rfl, h.imp id ?_⟩
  rintro ⟨g, rfl, hc⟩
  refine ⟨g, rfl, fun i hi => ?_⟩
  have h0 := hc i hi
  have hlt : g < w.heap.size := by
    apply Classical.byContradiction
    intro hn
    have : w.heap[g]? = none := Array.getElem?_eq_none (by omega)
    simp [World.cell?, this] at h0
  exact (hb.cell (p := ⟨g, i, none⟩) hlt).trans h0

set_option maxHeartbeats 1000000 in
set_option maxRecDepth 100000 in
theorem texts_same (va vb : Value) (l : List ByteArray) (w : World) (ha : TextRow w va l) (hb : TextRow w vb l) (hl : l.length ≤ 1000000) :
    Calls Try.prog 23 #[va, vb] w fun x w' => x = .returned (.bool true) ∧ Below w.heap.size w w' := by
  obtain ⟨ba, ca, rfl, ha⟩ := ha
  obtain ⟨bb, cb, rfl, hb⟩ := hb
  by_cases hn : l = []
  · subst hn
    clear ha hb
    go_enter Try.func23, Try.ntmps23
    go_wp2
    go_loopw [5] (fun i wr => i = .int .i64 0 ∧ wr = w) (fun i _ => 0)
    case atStart => exact ⟨rfl, rfl⟩
    case round =>
      obtain ⟨rfl, rfl⟩ := hrel
      go_wp2
      go_ret
      exact ⟨rfl, Below.refl _ _⟩
  · obtain ⟨ga, rfl, ka⟩ := ha.resolve_left hn
    obtain ⟨gb, rfl, kb⟩ := hb.resolve_left hn
    have HA := Lib.hid ka
    have HBB := Lib.hid kb
    clear ha hb ka kb
    go_enter Try.func23, Try.ntmps23
    go_wp2
    go_loopw [5] (fun i wr => ∃ (j : Nat), j ≤ l.length ∧ i = .int .i64 (j : Int) ∧ Hid (∃ m, wr = w.drewN m)) (fun i _ => l.length - (intOf i).toNat)
    case atStart => exact ⟨0, Nat.zero_le _, rfl, Lib.hid ⟨0, rfl⟩⟩
    case round =>
      obtain ⟨j, hj, rfl, HM⟩ := hrel
      obtain ⟨m, rfl⟩ := HM.out
      by_cases hlt : j < l.length
      · have c0 : w.cell? ⟨ga, j, none⟩ = some (.string (l[j]'hlt)) := by have h := HA.out; exact h j hlt
        have c1 : w.cell? ⟨gb, j, none⟩ = some (.string (l[j]'hlt)) := by have h := HBB.out; exact h j hlt
        go_wp2
        go_quiet (fail)
        go_wp2
        go_roundw
        case rel => exact ⟨j + 1, by omega, by go_num, Lib.hid ⟨_, rfl⟩⟩
        case measure => simp [intOf]; omega
      · obtain rfl : j = l.length := by omega
        go_wp2
        go_ret
        exact ⟨rfl, below_drewN w m⟩
end Go.Proofs.Ytbjbadnkpeakcaa
