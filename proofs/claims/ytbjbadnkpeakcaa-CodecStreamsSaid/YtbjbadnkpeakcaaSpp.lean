/- Streams: what the program's Split answers. -/
import Derived.Test.YtbjbadnkpeakcaaSpl
import Derived.Laws.BitsLemmas
namespace Go.Proofs.Ytbjbadnkpeakcaa
open Go.RowKit
set_option linter.unusedVariables false
set_option linter.unusedSimpArgs false

theorem two_bytes (s : ByteArray) (h : 2 ≤ s.size) : numAt s 0 2 = (s[0]'(by omega)).toNat * 256 + (s[1]'(by omega)).toNat := by
  have e : (s.data.toList.drop 0).take 2 = [s[0]'(by omega), s[1]'(by omega)] := by
    have hl : s.data.toList.length = s.size := by simp
    rw [List.drop_zero]
    apply List.ext_getElem
    · simp [List.length_take]; omega
    · intro i h1 h2
      have : i < 2 := by simpa using h2
      match i, this with
      | 0, _ => simp [ByteArray.getElem_eq_getElem_data]
      | 1, _ => simp [ByteArray.getElem_eq_getElem_data]
  unfold numAt
  rw [e]
  simp [num]

theorem or_bytes (x y : Nat) (hx : x < 256) (hy : y < 256) : bits BinOp.or IntKind.i64 (IntKind.i64.wrap (IntKind.i64.wrap (x : Int) * 256)) (IntKind.i64.wrap (y : Int)) = ((x * 256 + y : Nat) : Int) := by
  have e : (2 : Int) ^ 16 = 65536 := by rfl
  have e8 : (2 : Int) ^ 8 = 256 := by rfl
  rw [IntWalk.i64_in (x : Int) (by omega), IntWalk.i64_in ((x : Int) * 256) (by omega), IntWalk.i64_in (y : Int) (by omega)]
  rw [bits_join .i64 16 (by decide) (fun n h0 h1 => IntWalk.i64_in _ (by omega)) 8 _ _ (by omega) (by omega) (by omega) (by omega) (by omega) (by omega)]
  omega

set_option maxHeartbeats 1000000 in
set_option maxRecDepth 100000 in
theorem split_any (s : ByteArray) (l : List ByteArray) (r : ByteArray) (e : Int) (hs : s.size ≤ 5000) (h : SplitsTo s l r e) (w : World) :
    Calls Try.prog 21 #[.string s] w fun x w' => ∃ v, x = .returned (.tuple #[v, .string r, .int .i64 e]) ∧ w'.ownsRow w.heap.size 9 1 v l.length (txt l) ∧ Below w.heap.size w w' := by
  have HS := Lib.hid h
  clear h
  go_enter Try.func21, Try.ntmps21
  go_wp2
  go_loopw [0, 5] (fun c v wr => ∃ (cur : ByteArray) (out rest : List ByteArray), c = .string cur ∧ Hid (SplitsTo cur rest r e) ∧ Hid (out ++ rest = l) ∧ out.length + cur.size ≤ 5000 ∧ Hid (wr.ownsRow w.heap.size 9 1 v out.length (txt out) ∧ Below w.heap.size w wr)) (fun c _ _ => match c with | .string cur => cur.size | _ => 0)
  case atStart => exact ⟨s, [], l, rfl, HS, Lib.hid rfl, by simpa using hs, Lib.hid ⟨⟨by simp [txt], .inl ⟨rfl, rfl⟩⟩, Below.refl _ _⟩⟩
  case round =>
    obtain ⟨cur, out, rest, rfl, HT, HL, hsz, HK⟩ := hrel
    have hT := HT.out
    clear HT
    cases hT with
    | short _ hlt =>
      have hL := HL.out
      rw [List.append_nil] at hL
      go_wp2
      go_ret3
      exact ⟨_, rfl, hL ▸ HK.out.1, HK.out.2⟩
    | bad _ h2 h0 =>
      have hL := HL.out
      rw [List.append_nil] at hL
      obtain ⟨n, hn⟩ : ∃ n, numAt r 0 2 = n := ⟨_, rfl⟩
      have HX := or_bytes _ _ (r[0]'(by omega)).toNat_lt (r[1]'(by omega)).toNat_lt
      rw [← two_bytes r h2] at HX
      have hq0 : 0 < r.size := by omega
      have hq1 : (1 : Int) < (r.size : Int) := by omega
      have hl : n < 65536 := by
        rw [← hn]; have := num_lt ((r.data.toList.drop 0).take 2); unfold numAt
        have h2 : 256 ^ ((r.data.toList.drop 0).take 2).length ≤ 256 ^ 2 := Nat.pow_le_pow_right (by omega) (by rw [List.length_take]; omega)
        omega
      have hv : IntKind.i64.wrap (n : Int) = (n : Int) := IntWalk.i64_in _ (by omega)
      rw [hn] at h0 HX
      clear hn
      by_cases hn1 : n < 1
      · have hn1 : decide ((n : Int) < 1) = true := by simp; omega
        go_wp2
        go_quiet (fail)
        (try simp only [HX])
        obtain ⟨wq, hwq⟩ : ∃ wq, wr.drewN nq = wq := ⟨_, rfl⟩
        have HK' : Hid ((wr.drewN nq).ownsRow w.heap.size 9 1 _ out.length (txt out) ∧ Below w.heap.size w (wr.drewN nq)) := Lib.hid ⟨HK.out.1, HK.out.2.trans ((below_drewN wr nq).mono HK.out.2.size)⟩
        rw [hwq] at HK' ⊢
        clear hwq HK
        have HK := HK'
        clear HK'
        go_wp2
        go_ret3
        exact ⟨_, rfl, hL ▸ HK.out.1, HK.out.2⟩
      · have hn2 : decide ((100 : Int) < (n : Int)) = true := by simp; omega
        have hn1 : decide ((n : Int) < 1) = false := by simp; omega
        go_wp2
        go_quiet (fail)
        (try simp only [HX])
        obtain ⟨wq, hwq⟩ : ∃ wq, wr.drewN nq = wq := ⟨_, rfl⟩
        have HK' : Hid ((wr.drewN nq).ownsRow w.heap.size 9 1 _ out.length (txt out) ∧ Below w.heap.size w (wr.drewN nq)) := Lib.hid ⟨HK.out.1, HK.out.2.trans ((below_drewN wr nq).mono HK.out.2.size)⟩
        rw [hwq] at HK' ⊢
        clear hwq HK
        have HK := HK'
        clear HK'
        go_wp2
        go_ret3
        exact ⟨_, rfl, hL ▸ HK.out.1, HK.out.2⟩
    | part _ h2 h0 h1 h3 =>
      have hL := HL.out
      rw [List.append_nil] at hL
      obtain ⟨n, hn⟩ : ∃ n, numAt r 0 2 = n := ⟨_, rfl⟩
      have HX := or_bytes _ _ (r[0]'(by omega)).toNat_lt (r[1]'(by omega)).toNat_lt
      rw [← two_bytes r h2] at HX
      have hq0 : 0 < r.size := by omega
      have hq1 : (1 : Int) < (r.size : Int) := by omega
      have hl : n < 65536 := by
        rw [← hn]; have := num_lt ((r.data.toList.drop 0).take 2); unfold numAt
        have h2 : 256 ^ ((r.data.toList.drop 0).take 2).length ≤ 256 ^ 2 := Nat.pow_le_pow_right (by omega) (by rw [List.length_take]; omega)
        omega
      have hv : IntKind.i64.wrap (n : Int) = (n : Int) := IntWalk.i64_in _ (by omega)
      rw [hn] at h0 h1 h3 HX
      clear hn
      have hn1 : decide ((n : Int) < 1) = false := by simp; omega
      have hn2 : decide ((100 : Int) < (n : Int)) = false := by simp; omega
      have hn3 : decide ((r.size : Int) < 2 + (n : Int)) = true := by simp; omega
      go_wp2
      go_quiet (fail)
      (try simp only [HX])
      obtain ⟨wq, hwq⟩ : ∃ wq, wr.drewN nq = wq := ⟨_, rfl⟩
      have HK' : Hid ((wr.drewN nq).ownsRow w.heap.size 9 1 _ out.length (txt out) ∧ Below w.heap.size w (wr.drewN nq)) := Lib.hid ⟨HK.out.1, HK.out.2.trans ((below_drewN wr nq).mono HK.out.2.size)⟩
      rw [hwq] at HK' ⊢
      clear hwq HK
      have HK := HK'
      clear HK'
      go_wp2
      go_ret3
      exact ⟨_, rfl, hL ▸ HK.out.1, HK.out.2⟩
    | more _ rest' _ _ h2 h0 h1 h3 h4 =>
      obtain ⟨n, hn⟩ : ∃ n, numAt cur 0 2 = n := ⟨_, rfl⟩
      have HX := or_bytes _ _ (cur[0]'(by omega)).toNat_lt (cur[1]'(by omega)).toNat_lt
      rw [← two_bytes cur h2] at HX
      have hq0 : 0 < cur.size := by omega
      have hq1 : (1 : Int) < (cur.size : Int) := by omega
      rw [hn] at h0 h1 h3 h4 HL HX
      clear hn
      have H4 := Lib.hid h4
      clear h4
      have hn1 : decide ((n : Int) < 1) = false := by simp; omega
      have hn2 : decide ((100 : Int) < (n : Int)) = false := by simp; omega
      have hn3 : decide ((cur.size : Int) < 2 + (n : Int)) = false := by simp; omega
      have hv : IntKind.i64.wrap (n : Int) = (n : Int) := IntWalk.i64_in _ (by omega)
      obtain ⟨i0, hi, hi0, hi1, hi2⟩ := info_parts infoString
      go_wp2
      go_quiet (fail)
      (try simp only [HX])
      obtain ⟨wq, hwq⟩ : ∃ wq, wr.drewN nq = wq := ⟨_, rfl⟩
      have HK' : Hid ((wr.drewN nq).ownsRow w.heap.size 9 1 _ out.length (txt out) ∧ Below w.heap.size w (wr.drewN nq)) := Lib.hid ⟨HK.out.1, HK.out.2.trans ((below_drewN wr nq).mono HK.out.2.size)⟩
      rw [hwq] at HK' ⊢
      clear hwq HK
      have HK := HK'
      clear HK'
      go_wp2_with (first | (at_builtin; refine wpList_append_own _ rfl _ _ 43 rfl w.heap.size 9 i0 (.string ⟨#[]⟩) 1 16 Try.underlying43 hi hi0 hi1 hi2 rfl (by decide) _ _ _ rfl (HK.out.1.alloc _) ⟨wq.heap.size, 0, none⟩ 1 1 [.string (cur.extract 2 (2 + n))] rfl rfl (cell_one_new _ _ _) (by simp [Value.oneCell']) ?b1 ?b2 ?b3 ?_))
      case b1 => unfold maxLen; omega
      case b2 => omega
      case b3 => have := HK.out.2.size; simp; omega
      intro v' w1 hown hgrow _
      have HO := Lib.hid (And.intro hown hgrow)
      clear hown hgrow
      go_wp2
      go_roundw
      case rel =>
        refine ⟨_, out ++ [cur.extract 2 (2 + n)], rest', rfl, H4, Lib.hid (by rw [List.append_assoc]; exact HL.out), ?_, Lib.hid ⟨by simpa [txt] using HO.out.1, ?_⟩⟩
        · simp [ByteArray.size_extract]; omega
        · exact (HK.out.2.alloc HK.out.2.size _).grown HO.out.2 (by have := HK.out.2.size; simp; omega) (fun g hg => by
            rcases HK.out.1.2 with ⟨rfl, _⟩ | ⟨g', cap, cur', rfl, hb, _⟩
            · simp [Value.ownBlock] at hg
            · simp [Value.ownBlock] at hg; omega)
      case measure => simp [ByteArray.size_extract]; omega
end Go.Proofs.Ytbjbadnkpeakcaa
