/- accounts.Earn, Spend, Deposit, Withdraw. accounts.Bytes, Parse, Pay. accounts.Parse. -/
import Derived.Test.YtmkcbkdbdcnoiaaGreatDoorG05
import Derived.Test.YtmkcbkdbdcnoiaaGreatDoorG08
namespace Go.Proofs.YtmkcbkdbdcnoiaaGreatDoor
open Go.RowKit
set_option linter.unusedVariables false
set_option linter.unusedSimpArgs false


theorem two_set {w : World} {r : Nat} {t : TypeId} {a b : Value} (h : w.heap[r]? = some (.cells #[a, b] t (0, 0))) (x y : Value) : ((w.setCell ⟨r, 0, none⟩ x).setCell ⟨r, 1, none⟩ y).heap[r]? = some (.cells #[x, y] t (0, 0)) := by
  have := blk_set (blk_set h 0 x) 1 y
  simpa using this

/-- What does comes to. -/
def doesF (F : Acc → Int → Acc × Int) (a : Acc) (n : Int) : Acc × Int := if okAcc a = true then if (F a n).2 = 0 then F a n else ((0, 0), (F a n).2) else ((0, 0), 130)


set_option maxHeartbeats 1000000 in
set_option maxRecDepth 100000 in
theorem does_151 (a : Acc) (n : Int) (b : Nat) (w : World) (hp : Pur w b a) (hG : ∀ W, Same (fun k => k ≠ b) w W → Glob W) :
    Calls Tryz.prog 148 #[.pointer (some ⟨b, 0, none⟩), .func (.func 151) #[.pointer (some ⟨b, 0, none⟩)] #[], .int .i64 n] w fun e w' => e = .returned (.tuple #[accv (doesF spendsF a n).1, .int .i64 (doesF spendsF a n).2]) ∧ Same (fun k => k ≠ b) w w' := by
  obtain ⟨W, hW⟩ : ∃ W, w.alloc (.cells #[.int .i64 0, .int .i64 0] 55) = W := ⟨_, rfl⟩
  obtain ⟨r, hr⟩ : ∃ r, w.heap.size = r := ⟨_, rfl⟩
  have hR : W.heap[r]? = some (.cells #[.int .i64 0, .int .i64 0] 55 (0, 0)) := by rw [← hW, ← hr]; exact heap_alloc_new w _
  have hbr : b < r := by rw [← hr]; exact hp.lt
  have hb : Same (fun k => k ≠ b) w W := by rw [← hW]; exact (Same.refl _ w).alloc _
  have hp1 : Pur W b a := by rw [← hW]; exact keep_a _ hp
  have hI := isRight_any a W (hG _ hb)
  have HK := Lib.hid (And.intro hR (And.intro hb hp1))
  have HG := Lib.hid hG
  obtain ⟨c0, c1⟩ := hp1.cells
  obtain ⟨F, hF⟩ : ∃ F, spendsF a n = F := ⟨_, rfl⟩
  obtain ⟨⟨f1, f2⟩, f3⟩ := F
  have hM := fun W h h2 => spends_ok a n b W h h2
  simp only [hF] at hM
  simp only [doesF, hF]
  have HM := Lib.hid hM
  unfold accv at hI ⊢
  have hlt := hp.lt
  clear hF hM hR hb hp1 hG hp
  rcases hok : okAcc a with _ | _
  · simp only [hok] at hI
    have hnn : (!false) = true := rfl
    go_enter Tryz.func148, Tryz.ntmps148
    go_wp2_with fail
    refine hI.mono ?_
    rintro e W2 ⟨rfl, hb2⟩
    have h2 := keep_b HK.out.1 hb2
    obtain ⟨r0, r1⟩ := cells2 h2
    have ff : ∀ i, W2.frozen? ⟨r, i, none⟩ = false := blk_frozen h2
    have HX := Lib.hid (And.intro h2 (Pur.step ⟨HK.out.2.2, HK.out.2.1⟩ hb2).2)
    clear hb2 h2 HK c0 c1
    go_wp2
    refine bodyPost_ret (res_cell_tmp rfl rfl (two_set HX.out.1 _ _) Tryz.underlying55 rfl (by kernel_rfl)) rfl ⟨rfl, ?_⟩
    exact (HX.out.2.setCell (p := ⟨r, 0, none⟩) (fun h _ => by simp at h; omega) _).setCell (p := ⟨r, 1, none⟩) (fun h _ => by simp at h; omega) _
  · simp only [hok] at hI
    have hnn : (!true) = false := rfl
    go_enter Tryz.func148, Tryz.ntmps148
    go_wp2_with fail
    refine hI.mono ?_
    rintro e W2 ⟨rfl, hb2⟩
    have HX := Lib.hid (And.intro (keep_b HK.out.1 hb2) (Pur.step ⟨HK.out.2.2, HK.out.2.1⟩ hb2))
    clear hb2 HK c0 c1
    go_wp2_with fail
    refine (HM.out _ HX.out.2.1 (fun V hV => HG.out V (HX.out.2.2.trans hV))).mono ?_
    rintro e W3 ⟨rfl, hp3, hb3⟩
    have hr3 := hb3.at_ HX.out.1 (show r ≠ b by omega)
    obtain ⟨W4, hW4⟩ : ∃ W4, W3.alloc (.cells #[.int .i64 0, .int .i64 0] 55) = W4 := ⟨_, rfl⟩
    obtain ⟨q, hq⟩ : ∃ q, W3.heap.size = q := ⟨_, rfl⟩
    have hr4 : W4.heap[r]? = some (.cells #[.int .i64 0, .int .i64 0] 55 (0, 0)) := by rw [← hW4]; exact keep_a _ hr3
    have hp4 : Pur W4 b (f1, f2) := by rw [← hW4]; exact keep_a _ hp3
    have hq4 : W4.heap[q]? = some (.cells #[.int .i64 0, .int .i64 0] 55 (0, 0)) := by rw [← hW4, ← hq]; exact heap_alloc_new W3 _
    have hs4 : Same (fun k => k ≠ b) w W4 := by rw [← hW4]; exact (HX.out.2.2.trans hb3).alloc _
    have hbq : b < q ∧ r < q ∧ b < w.heap.size := by rw [← hq]; exact ⟨hp3.lt, (Array.getElem?_eq_some_iff.1 hr3).1, hlt⟩
    have hst : ∀ x y, (W3.alloc (.cells #[.int .i64 x, .int .i64 y] 55)).heap.size = W4.heap.size := fun x y => by rw [← hW4]; simp
    obtain ⟨p0, p1⟩ := hp4.cells
    obtain ⟨q0, q1⟩ := cells2 hq4
    obtain ⟨r0, r1⟩ := cells2 hr4
    have HY := Lib.hid (And.intro hr4 (And.intro hp4 (And.intro hq4 (And.intro hs4 hbq))))
    clear hb3 hr3 hp3 HX hr4 hp4 hq4 hs4 hst
    have fq : ∀ i, W4.frozen? ⟨q, i, none⟩ = false := blk_frozen HY.out.2.2.1
    by_cases h3 : f3 = 0
    · subst h3
      have hz : ((0 : Int) != 0) = false := rfl
      go_wp2_with fail
      obtain ⟨W5, hW5⟩ : ∃ W5, (W4.setCell ⟨q, 0, none⟩ (.int .i64 0)).setCell ⟨q, 1, none⟩ (.int .i64 0) = W5 := ⟨_, rfl⟩
      have HV : Hid (W5.heap[r]? = some (.cells #[.int .i64 0, .int .i64 0] 55 (0, 0)) ∧ Pur W5 b (f1, f2) ∧ W5.heap[q]? = some (.cells #[.int .i64 0, .int .i64 0] 55 (0, 0)) ∧ Same (fun k => k ≠ b) w W5 ∧ b < q ∧ r < q ∧ b < w.heap.size ∧ b < r ∧ w.heap.size ≤ r) := by
        obtain ⟨y1, y2, y3, y4, y5, y6, y7⟩ := HY.out
        rw [← hW5]
        refine Lib.hid ⟨?_, ?_, two_set y3 _ _, (y4.setCell (p := ⟨q, 0, none⟩) (fun h _ => by simp at h; omega) _).setCell (p := ⟨q, 1, none⟩) (fun h _ => by simp at h; omega) _, y5, y6, y7, hbr, by omega⟩
        · rw [Below.heap_setCell _ _ _ _ (by simp; omega), Below.heap_setCell _ _ _ _ (by simp; omega)]; exact y1
        · unfold Pur; rw [Below.heap_setCell _ _ _ _ (by simp; omega), Below.heap_setCell _ _ _ _ (by simp; omega)]; exact y2
      rw [hW5]
      clear hW5 HY p0 p1 q0 q1 r0 r1 fq hW4 hq
      obtain ⟨p0, p1⟩ := HV.out.2.1.cells
      obtain ⟨q0, q1⟩ := cells2 HV.out.2.2.1
      obtain ⟨r0, r1⟩ := cells2 HV.out.1
      have fr : ∀ i, W5.frozen? ⟨r, i, none⟩ = false := blk_frozen HV.out.1
      go_quiet (fail)
      go_wp2_with fail
      refine bodyPost_ret (res_cell_tmp rfl rfl (two_set (w := W5.drewN nq) HV.out.1 _ _) Tryz.underlying55 rfl (by kernel_rfl)) rfl ⟨rfl, ?_⟩
      obtain ⟨y1, y2, y3, y4, y5, y6, y7, y8, y9⟩ := HV.out
      exact ((y4.drewN nq).setCell (p := ⟨r, 0, none⟩) (fun h _ => by simp at h; omega) _).setCell (p := ⟨r, 1, none⟩) (fun h _ => by simp at h; omega) _
    · have hz : (f3 != 0) = true := by simpa using h3
      go_wp2_with fail
      obtain ⟨W5, hW5⟩ : ∃ W5, (W4.setCell ⟨q, 0, none⟩ (.int .i64 0)).setCell ⟨q, 1, none⟩ (.int .i64 0) = W5 := ⟨_, rfl⟩
      have HV : Hid (W5.heap[r]? = some (.cells #[.int .i64 0, .int .i64 0] 55 (0, 0)) ∧ Pur W5 b (f1, f2) ∧ W5.heap[q]? = some (.cells #[.int .i64 0, .int .i64 0] 55 (0, 0)) ∧ Same (fun k => k ≠ b) w W5 ∧ b < q ∧ r < q ∧ b < w.heap.size ∧ b < r ∧ w.heap.size ≤ r) := by
        obtain ⟨y1, y2, y3, y4, y5, y6, y7⟩ := HY.out
        rw [← hW5]
        refine Lib.hid ⟨?_, ?_, two_set y3 _ _, (y4.setCell (p := ⟨q, 0, none⟩) (fun h _ => by simp at h; omega) _).setCell (p := ⟨q, 1, none⟩) (fun h _ => by simp at h; omega) _, y5, y6, y7, hbr, by omega⟩
        · rw [Below.heap_setCell _ _ _ _ (by simp; omega), Below.heap_setCell _ _ _ _ (by simp; omega)]; exact y1
        · unfold Pur; rw [Below.heap_setCell _ _ _ _ (by simp; omega), Below.heap_setCell _ _ _ _ (by simp; omega)]; exact y2
      rw [hW5]
      clear hW5 HY p0 p1 q0 q1 r0 r1 fq hW4 hq
      obtain ⟨p0, p1⟩ := HV.out.2.1.cells
      obtain ⟨q0, q1⟩ := cells2 HV.out.2.2.1
      obtain ⟨r0, r1⟩ := cells2 HV.out.1
      have fr : ∀ i, W5.frozen? ⟨r, i, none⟩ = false := blk_frozen HV.out.1
      have fp : ∀ i, W5.frozen? ⟨b, i, none⟩ = false := blk_frozen HV.out.2.1
      have hneq := fun w => neq55 f1 f2 0 0 w
      rcases hz0 : (f1 == 0 && f2 == 0) with _ | _
      all_goals
        rw [hz0] at hneq
        have hnn1 : (!false) = true := rfl
        have hnn2 : (!true) = false := rfl
        go_quiet (fail)
        go_wp2_with fail
      · obtain ⟨y1, y2, y3, y4, y5, y6, y7, y8, y9⟩ := HV.out
        have hrr : (((W5.drewN nq).setCell ⟨b, 0, none⟩ (.int .i64 0)).setCell ⟨b, 1, none⟩ (.int .i64 0)).heap[r]? = some (.cells #[.int .i64 0, .int .i64 0] 55 (0, 0)) := by
          rw [Below.heap_setCell _ _ _ _ (by simp; omega), Below.heap_setCell _ _ _ _ (by simp; omega)]; exact y1
        refine bodyPost_ret (res_cell_tmp rfl rfl (two_set hrr _ _) Tryz.underlying55 rfl (by kernel_rfl)) rfl ⟨rfl, ?_⟩
        exact ((((y4.drewN nq).setCell (p := ⟨b, 0, none⟩) (fun _ h => h rfl) _).setCell (p := ⟨b, 1, none⟩) (fun _ h => h rfl) _).setCell (p := ⟨r, 0, none⟩) (fun h _ => by simp at h; omega) _).setCell (p := ⟨r, 1, none⟩) (fun h _ => by simp at h; omega) _
      · obtain ⟨y1, y2, y3, y4, y5, y6, y7, y8, y9⟩ := HV.out
        simp only [Bool.and_eq_true, beq_iff_eq] at hz0
        obtain ⟨rfl, rfl⟩ := hz0
        refine bodyPost_ret (res_cell_tmp rfl rfl (two_set (w := W5.drewN nq) y1 _ _) Tryz.underlying55 rfl (by kernel_rfl)) rfl ⟨rfl, ?_⟩
        exact ((y4.drewN nq).setCell (p := ⟨r, 0, none⟩) (fun h _ => by simp at h; omega) _).setCell (p := ⟨r, 1, none⟩) (fun h _ => by simp at h; omega) _

set_option maxHeartbeats 1000000 in
set_option maxRecDepth 100000 in
theorem does_149 (a : Acc) (n : Int) (b : Nat) (w : World) (hp : Pur w b a) (hG : ∀ W, Same (fun k => k ≠ b) w W → Glob W) :
    Calls Tryz.prog 148 #[.pointer (some ⟨b, 0, none⟩), .func (.func 149) #[.pointer (some ⟨b, 0, none⟩)] #[], .int .i64 n] w fun e w' => e = .returned (.tuple #[accv (doesF earnsF a n).1, .int .i64 (doesF earnsF a n).2]) ∧ Same (fun k => k ≠ b) w w' := by
  obtain ⟨W, hW⟩ : ∃ W, w.alloc (.cells #[.int .i64 0, .int .i64 0] 55) = W := ⟨_, rfl⟩
  obtain ⟨r, hr⟩ : ∃ r, w.heap.size = r := ⟨_, rfl⟩
  have hR : W.heap[r]? = some (.cells #[.int .i64 0, .int .i64 0] 55 (0, 0)) := by rw [← hW, ← hr]; exact heap_alloc_new w _
  have hbr : b < r := by rw [← hr]; exact hp.lt
  have hb : Same (fun k => k ≠ b) w W := by rw [← hW]; exact (Same.refl _ w).alloc _
  have hp1 : Pur W b a := by rw [← hW]; exact keep_a _ hp
  have hI := isRight_any a W (hG _ hb)
  have HK := Lib.hid (And.intro hR (And.intro hb hp1))
  have HG := Lib.hid hG
  obtain ⟨c0, c1⟩ := hp1.cells
  obtain ⟨F, hF⟩ : ∃ F, earnsF a n = F := ⟨_, rfl⟩
  obtain ⟨⟨f1, f2⟩, f3⟩ := F
  have hM := fun W h h2 => earns_ok a n b W h h2
  simp only [hF] at hM
  simp only [doesF, hF]
  have HM := Lib.hid hM
  unfold accv at hI ⊢
  have hlt := hp.lt
  clear hF hM hR hb hp1 hG hp
  rcases hok : okAcc a with _ | _
  · simp only [hok] at hI
    have hnn : (!false) = true := rfl
    go_enter Tryz.func148, Tryz.ntmps148
    go_wp2_with fail
    refine hI.mono ?_
    rintro e W2 ⟨rfl, hb2⟩
    have h2 := keep_b HK.out.1 hb2
    obtain ⟨r0, r1⟩ := cells2 h2
    have ff : ∀ i, W2.frozen? ⟨r, i, none⟩ = false := blk_frozen h2
    have HX := Lib.hid (And.intro h2 (Pur.step ⟨HK.out.2.2, HK.out.2.1⟩ hb2).2)
    clear hb2 h2 HK c0 c1
    go_wp2
    refine bodyPost_ret (res_cell_tmp rfl rfl (two_set HX.out.1 _ _) Tryz.underlying55 rfl (by kernel_rfl)) rfl ⟨rfl, ?_⟩
    exact (HX.out.2.setCell (p := ⟨r, 0, none⟩) (fun h _ => by simp at h; omega) _).setCell (p := ⟨r, 1, none⟩) (fun h _ => by simp at h; omega) _
  · simp only [hok] at hI
    have hnn : (!true) = false := rfl
    go_enter Tryz.func148, Tryz.ntmps148
    go_wp2_with fail
    refine hI.mono ?_
    rintro e W2 ⟨rfl, hb2⟩
    have HX := Lib.hid (And.intro (keep_b HK.out.1 hb2) (Pur.step ⟨HK.out.2.2, HK.out.2.1⟩ hb2))
    clear hb2 HK c0 c1
    go_wp2_with fail
    refine (HM.out _ HX.out.2.1 (fun V hV => HG.out V (HX.out.2.2.trans hV))).mono ?_
    rintro e W3 ⟨rfl, hp3, hb3⟩
    have hr3 := hb3.at_ HX.out.1 (show r ≠ b by omega)
    obtain ⟨W4, hW4⟩ : ∃ W4, W3.alloc (.cells #[.int .i64 0, .int .i64 0] 55) = W4 := ⟨_, rfl⟩
    obtain ⟨q, hq⟩ : ∃ q, W3.heap.size = q := ⟨_, rfl⟩
    have hr4 : W4.heap[r]? = some (.cells #[.int .i64 0, .int .i64 0] 55 (0, 0)) := by rw [← hW4]; exact keep_a _ hr3
    have hp4 : Pur W4 b (f1, f2) := by rw [← hW4]; exact keep_a _ hp3
    have hq4 : W4.heap[q]? = some (.cells #[.int .i64 0, .int .i64 0] 55 (0, 0)) := by rw [← hW4, ← hq]; exact heap_alloc_new W3 _
    have hs4 : Same (fun k => k ≠ b) w W4 := by rw [← hW4]; exact (HX.out.2.2.trans hb3).alloc _
    have hbq : b < q ∧ r < q ∧ b < w.heap.size := by rw [← hq]; exact ⟨hp3.lt, (Array.getElem?_eq_some_iff.1 hr3).1, hlt⟩
    have hst : ∀ x y, (W3.alloc (.cells #[.int .i64 x, .int .i64 y] 55)).heap.size = W4.heap.size := fun x y => by rw [← hW4]; simp
    obtain ⟨p0, p1⟩ := hp4.cells
    obtain ⟨q0, q1⟩ := cells2 hq4
    obtain ⟨r0, r1⟩ := cells2 hr4
    have HY := Lib.hid (And.intro hr4 (And.intro hp4 (And.intro hq4 (And.intro hs4 hbq))))
    clear hb3 hr3 hp3 HX hr4 hp4 hq4 hs4 hst
    have fq : ∀ i, W4.frozen? ⟨q, i, none⟩ = false := blk_frozen HY.out.2.2.1
    by_cases h3 : f3 = 0
    · subst h3
      have hz : ((0 : Int) != 0) = false := rfl
      go_wp2_with fail
      obtain ⟨W5, hW5⟩ : ∃ W5, (W4.setCell ⟨q, 0, none⟩ (.int .i64 0)).setCell ⟨q, 1, none⟩ (.int .i64 0) = W5 := ⟨_, rfl⟩
      have HV : Hid (W5.heap[r]? = some (.cells #[.int .i64 0, .int .i64 0] 55 (0, 0)) ∧ Pur W5 b (f1, f2) ∧ W5.heap[q]? = some (.cells #[.int .i64 0, .int .i64 0] 55 (0, 0)) ∧ Same (fun k => k ≠ b) w W5 ∧ b < q ∧ r < q ∧ b < w.heap.size ∧ b < r ∧ w.heap.size ≤ r) := by
        obtain ⟨y1, y2, y3, y4, y5, y6, y7⟩ := HY.out
        rw [← hW5]
        refine Lib.hid ⟨?_, ?_, two_set y3 _ _, (y4.setCell (p := ⟨q, 0, none⟩) (fun h _ => by simp at h; omega) _).setCell (p := ⟨q, 1, none⟩) (fun h _ => by simp at h; omega) _, y5, y6, y7, hbr, by omega⟩
        · rw [Below.heap_setCell _ _ _ _ (by simp; omega), Below.heap_setCell _ _ _ _ (by simp; omega)]; exact y1
        · unfold Pur; rw [Below.heap_setCell _ _ _ _ (by simp; omega), Below.heap_setCell _ _ _ _ (by simp; omega)]; exact y2
      rw [hW5]
      clear hW5 HY p0 p1 q0 q1 r0 r1 fq hW4 hq
      obtain ⟨p0, p1⟩ := HV.out.2.1.cells
      obtain ⟨q0, q1⟩ := cells2 HV.out.2.2.1
      obtain ⟨r0, r1⟩ := cells2 HV.out.1
      have fr : ∀ i, W5.frozen? ⟨r, i, none⟩ = false := blk_frozen HV.out.1
      go_quiet (fail)
      go_wp2_with fail
      refine bodyPost_ret (res_cell_tmp rfl rfl (two_set (w := W5.drewN nq) HV.out.1 _ _) Tryz.underlying55 rfl (by kernel_rfl)) rfl ⟨rfl, ?_⟩
      obtain ⟨y1, y2, y3, y4, y5, y6, y7, y8, y9⟩ := HV.out
      exact ((y4.drewN nq).setCell (p := ⟨r, 0, none⟩) (fun h _ => by simp at h; omega) _).setCell (p := ⟨r, 1, none⟩) (fun h _ => by simp at h; omega) _
    · have hz : (f3 != 0) = true := by simpa using h3
      go_wp2_with fail
      obtain ⟨W5, hW5⟩ : ∃ W5, (W4.setCell ⟨q, 0, none⟩ (.int .i64 0)).setCell ⟨q, 1, none⟩ (.int .i64 0) = W5 := ⟨_, rfl⟩
      have HV : Hid (W5.heap[r]? = some (.cells #[.int .i64 0, .int .i64 0] 55 (0, 0)) ∧ Pur W5 b (f1, f2) ∧ W5.heap[q]? = some (.cells #[.int .i64 0, .int .i64 0] 55 (0, 0)) ∧ Same (fun k => k ≠ b) w W5 ∧ b < q ∧ r < q ∧ b < w.heap.size ∧ b < r ∧ w.heap.size ≤ r) := by
        obtain ⟨y1, y2, y3, y4, y5, y6, y7⟩ := HY.out
        rw [← hW5]
        refine Lib.hid ⟨?_, ?_, two_set y3 _ _, (y4.setCell (p := ⟨q, 0, none⟩) (fun h _ => by simp at h; omega) _).setCell (p := ⟨q, 1, none⟩) (fun h _ => by simp at h; omega) _, y5, y6, y7, hbr, by omega⟩
        · rw [Below.heap_setCell _ _ _ _ (by simp; omega), Below.heap_setCell _ _ _ _ (by simp; omega)]; exact y1
        · unfold Pur; rw [Below.heap_setCell _ _ _ _ (by simp; omega), Below.heap_setCell _ _ _ _ (by simp; omega)]; exact y2
      rw [hW5]
      clear hW5 HY p0 p1 q0 q1 r0 r1 fq hW4 hq
      obtain ⟨p0, p1⟩ := HV.out.2.1.cells
      obtain ⟨q0, q1⟩ := cells2 HV.out.2.2.1
      obtain ⟨r0, r1⟩ := cells2 HV.out.1
      have fr : ∀ i, W5.frozen? ⟨r, i, none⟩ = false := blk_frozen HV.out.1
      have fp : ∀ i, W5.frozen? ⟨b, i, none⟩ = false := blk_frozen HV.out.2.1
      have hneq := fun w => neq55 f1 f2 0 0 w
      rcases hz0 : (f1 == 0 && f2 == 0) with _ | _
      all_goals
        rw [hz0] at hneq
        have hnn1 : (!false) = true := rfl
        have hnn2 : (!true) = false := rfl
        go_quiet (fail)
        go_wp2_with fail
      · obtain ⟨y1, y2, y3, y4, y5, y6, y7, y8, y9⟩ := HV.out
        have hrr : (((W5.drewN nq).setCell ⟨b, 0, none⟩ (.int .i64 0)).setCell ⟨b, 1, none⟩ (.int .i64 0)).heap[r]? = some (.cells #[.int .i64 0, .int .i64 0] 55 (0, 0)) := by
          rw [Below.heap_setCell _ _ _ _ (by simp; omega), Below.heap_setCell _ _ _ _ (by simp; omega)]; exact y1
        refine bodyPost_ret (res_cell_tmp rfl rfl (two_set hrr _ _) Tryz.underlying55 rfl (by kernel_rfl)) rfl ⟨rfl, ?_⟩
        exact ((((y4.drewN nq).setCell (p := ⟨b, 0, none⟩) (fun _ h => h rfl) _).setCell (p := ⟨b, 1, none⟩) (fun _ h => h rfl) _).setCell (p := ⟨r, 0, none⟩) (fun h _ => by simp at h; omega) _).setCell (p := ⟨r, 1, none⟩) (fun h _ => by simp at h; omega) _
      · obtain ⟨y1, y2, y3, y4, y5, y6, y7, y8, y9⟩ := HV.out
        simp only [Bool.and_eq_true, beq_iff_eq] at hz0
        obtain ⟨rfl, rfl⟩ := hz0
        refine bodyPost_ret (res_cell_tmp rfl rfl (two_set (w := W5.drewN nq) y1 _ _) Tryz.underlying55 rfl (by kernel_rfl)) rfl ⟨rfl, ?_⟩
        exact ((y4.drewN nq).setCell (p := ⟨r, 0, none⟩) (fun h _ => by simp at h; omega) _).setCell (p := ⟨r, 1, none⟩) (fun h _ => by simp at h; omega) _

set_option maxHeartbeats 1000000 in
set_option maxRecDepth 100000 in
theorem does_158 (a : Acc) (n : Int) (b : Nat) (w : World) (hp : Pur w b a) (hG : ∀ W, Same (fun k => k ≠ b) w W → Glob W) :
    Calls Tryz.prog 148 #[.pointer (some ⟨b, 0, none⟩), .func (.func 158) #[.pointer (some ⟨b, 0, none⟩)] #[], .int .i64 n] w fun e w' => e = .returned (.tuple #[accv (doesF depositsF a n).1, .int .i64 (doesF depositsF a n).2]) ∧ Same (fun k => k ≠ b) w w' := by
  obtain ⟨W, hW⟩ : ∃ W, w.alloc (.cells #[.int .i64 0, .int .i64 0] 55) = W := ⟨_, rfl⟩
  obtain ⟨r, hr⟩ : ∃ r, w.heap.size = r := ⟨_, rfl⟩
  have hR : W.heap[r]? = some (.cells #[.int .i64 0, .int .i64 0] 55 (0, 0)) := by rw [← hW, ← hr]; exact heap_alloc_new w _
  have hbr : b < r := by rw [← hr]; exact hp.lt
  have hb : Same (fun k => k ≠ b) w W := by rw [← hW]; exact (Same.refl _ w).alloc _
  have hp1 : Pur W b a := by rw [← hW]; exact keep_a _ hp
  have hI := isRight_any a W (hG _ hb)
  have HK := Lib.hid (And.intro hR (And.intro hb hp1))
  have HG := Lib.hid hG
  obtain ⟨c0, c1⟩ := hp1.cells
  obtain ⟨F, hF⟩ : ∃ F, depositsF a n = F := ⟨_, rfl⟩
  obtain ⟨⟨f1, f2⟩, f3⟩ := F
  have hM := fun W h h2 => deposits_ok a n b W h h2
  simp only [hF] at hM
  simp only [doesF, hF]
  have HM := Lib.hid hM
  unfold accv at hI ⊢
  have hlt := hp.lt
  clear hF hM hR hb hp1 hG hp
  rcases hok : okAcc a with _ | _
  · simp only [hok] at hI
    have hnn : (!false) = true := rfl
    go_enter Tryz.func148, Tryz.ntmps148
    go_wp2_with fail
    refine hI.mono ?_
    rintro e W2 ⟨rfl, hb2⟩
    have h2 := keep_b HK.out.1 hb2
    obtain ⟨r0, r1⟩ := cells2 h2
    have ff : ∀ i, W2.frozen? ⟨r, i, none⟩ = false := blk_frozen h2
    have HX := Lib.hid (And.intro h2 (Pur.step ⟨HK.out.2.2, HK.out.2.1⟩ hb2).2)
    clear hb2 h2 HK c0 c1
    go_wp2
    refine bodyPost_ret (res_cell_tmp rfl rfl (two_set HX.out.1 _ _) Tryz.underlying55 rfl (by kernel_rfl)) rfl ⟨rfl, ?_⟩
    exact (HX.out.2.setCell (p := ⟨r, 0, none⟩) (fun h _ => by simp at h; omega) _).setCell (p := ⟨r, 1, none⟩) (fun h _ => by simp at h; omega) _
  · simp only [hok] at hI
    have hnn : (!true) = false := rfl
    go_enter Tryz.func148, Tryz.ntmps148
    go_wp2_with fail
    refine hI.mono ?_
    rintro e W2 ⟨rfl, hb2⟩
    have HX := Lib.hid (And.intro (keep_b HK.out.1 hb2) (Pur.step ⟨HK.out.2.2, HK.out.2.1⟩ hb2))
    clear hb2 HK c0 c1
    go_wp2_with fail
    refine (HM.out _ HX.out.2.1 (fun V hV => HG.out V (HX.out.2.2.trans hV))).mono ?_
    rintro e W3 ⟨rfl, hp3, hb3⟩
    have hr3 := hb3.at_ HX.out.1 (show r ≠ b by omega)
    obtain ⟨W4, hW4⟩ : ∃ W4, W3.alloc (.cells #[.int .i64 0, .int .i64 0] 55) = W4 := ⟨_, rfl⟩
    obtain ⟨q, hq⟩ : ∃ q, W3.heap.size = q := ⟨_, rfl⟩
    have hr4 : W4.heap[r]? = some (.cells #[.int .i64 0, .int .i64 0] 55 (0, 0)) := by rw [← hW4]; exact keep_a _ hr3
    have hp4 : Pur W4 b (f1, f2) := by rw [← hW4]; exact keep_a _ hp3
    have hq4 : W4.heap[q]? = some (.cells #[.int .i64 0, .int .i64 0] 55 (0, 0)) := by rw [← hW4, ← hq]; exact heap_alloc_new W3 _
    have hs4 : Same (fun k => k ≠ b) w W4 := by rw [← hW4]; exact (HX.out.2.2.trans hb3).alloc _
    have hbq : b < q ∧ r < q ∧ b < w.heap.size := by rw [← hq]; exact ⟨hp3.lt, (Array.getElem?_eq_some_iff.1 hr3).1, hlt⟩
    have hst : ∀ x y, (W3.alloc (.cells #[.int .i64 x, .int .i64 y] 55)).heap.size = W4.heap.size := fun x y => by rw [← hW4]; simp
    obtain ⟨p0, p1⟩ := hp4.cells
    obtain ⟨q0, q1⟩ := cells2 hq4
    obtain ⟨r0, r1⟩ := cells2 hr4
    have HY := Lib.hid (And.intro hr4 (And.intro hp4 (And.intro hq4 (And.intro hs4 hbq))))
    clear hb3 hr3 hp3 HX hr4 hp4 hq4 hs4 hst
    have fq : ∀ i, W4.frozen? ⟨q, i, none⟩ = false := blk_frozen HY.out.2.2.1
    by_cases h3 : f3 = 0
    · subst h3
      have hz : ((0 : Int) != 0) = false := rfl
      go_wp2_with fail
      obtain ⟨W5, hW5⟩ : ∃ W5, (W4.setCell ⟨q, 0, none⟩ (.int .i64 0)).setCell ⟨q, 1, none⟩ (.int .i64 0) = W5 := ⟨_, rfl⟩
      have HV : Hid (W5.heap[r]? = some (.cells #[.int .i64 0, .int .i64 0] 55 (0, 0)) ∧ Pur W5 b (f1, f2) ∧ W5.heap[q]? = some (.cells #[.int .i64 0, .int .i64 0] 55 (0, 0)) ∧ Same (fun k => k ≠ b) w W5 ∧ b < q ∧ r < q ∧ b < w.heap.size ∧ b < r ∧ w.heap.size ≤ r) := by
        obtain ⟨y1, y2, y3, y4, y5, y6, y7⟩ := HY.out
        rw [← hW5]
        refine Lib.hid ⟨?_, ?_, two_set y3 _ _, (y4.setCell (p := ⟨q, 0, none⟩) (fun h _ => by simp at h; omega) _).setCell (p := ⟨q, 1, none⟩) (fun h _ => by simp at h; omega) _, y5, y6, y7, hbr, by omega⟩
        · rw [Below.heap_setCell _ _ _ _ (by simp; omega), Below.heap_setCell _ _ _ _ (by simp; omega)]; exact y1
        · unfold Pur; rw [Below.heap_setCell _ _ _ _ (by simp; omega), Below.heap_setCell _ _ _ _ (by simp; omega)]; exact y2
      rw [hW5]
      clear hW5 HY p0 p1 q0 q1 r0 r1 fq hW4 hq
      obtain ⟨p0, p1⟩ := HV.out.2.1.cells
      obtain ⟨q0, q1⟩ := cells2 HV.out.2.2.1
      obtain ⟨r0, r1⟩ := cells2 HV.out.1
      have fr : ∀ i, W5.frozen? ⟨r, i, none⟩ = false := blk_frozen HV.out.1
      go_quiet (fail)
      go_wp2_with fail
      refine bodyPost_ret (res_cell_tmp rfl rfl (two_set (w := W5.drewN nq) HV.out.1 _ _) Tryz.underlying55 rfl (by kernel_rfl)) rfl ⟨rfl, ?_⟩
      obtain ⟨y1, y2, y3, y4, y5, y6, y7, y8, y9⟩ := HV.out
      exact ((y4.drewN nq).setCell (p := ⟨r, 0, none⟩) (fun h _ => by simp at h; omega) _).setCell (p := ⟨r, 1, none⟩) (fun h _ => by simp at h; omega) _
    · have hz : (f3 != 0) = true := by simpa using h3
      go_wp2_with fail
      obtain ⟨W5, hW5⟩ : ∃ W5, (W4.setCell ⟨q, 0, none⟩ (.int .i64 0)).setCell ⟨q, 1, none⟩ (.int .i64 0) = W5 := ⟨_, rfl⟩
      have HV : Hid (W5.heap[r]? = some (.cells #[.int .i64 0, .int .i64 0] 55 (0, 0)) ∧ Pur W5 b (f1, f2) ∧ W5.heap[q]? = some (.cells #[.int .i64 0, .int .i64 0] 55 (0, 0)) ∧ Same (fun k => k ≠ b) w W5 ∧ b < q ∧ r < q ∧ b < w.heap.size ∧ b < r ∧ w.heap.size ≤ r) := by
        obtain ⟨y1, y2, y3, y4, y5, y6, y7⟩ := HY.out
        rw [← hW5]
        refine Lib.hid ⟨?_, ?_, two_set y3 _ _, (y4.setCell (p := ⟨q, 0, none⟩) (fun h _ => by simp at h; omega) _).setCell (p := ⟨q, 1, none⟩) (fun h _ => by simp at h; omega) _, y5, y6, y7, hbr, by omega⟩
        · rw [Below.heap_setCell _ _ _ _ (by simp; omega), Below.heap_setCell _ _ _ _ (by simp; omega)]; exact y1
        · unfold Pur; rw [Below.heap_setCell _ _ _ _ (by simp; omega), Below.heap_setCell _ _ _ _ (by simp; omega)]; exact y2
      rw [hW5]
      clear hW5 HY p0 p1 q0 q1 r0 r1 fq hW4 hq
      obtain ⟨p0, p1⟩ := HV.out.2.1.cells
      obtain ⟨q0, q1⟩ := cells2 HV.out.2.2.1
      obtain ⟨r0, r1⟩ := cells2 HV.out.1
      have fr : ∀ i, W5.frozen? ⟨r, i, none⟩ = false := blk_frozen HV.out.1
      have fp : ∀ i, W5.frozen? ⟨b, i, none⟩ = false := blk_frozen HV.out.2.1
      have hneq := fun w => neq55 f1 f2 0 0 w
      rcases hz0 : (f1 == 0 && f2 == 0) with _ | _
      all_goals
        rw [hz0] at hneq
        have hnn1 : (!false) = true := rfl
        have hnn2 : (!true) = false := rfl
        go_quiet (fail)
        go_wp2_with fail
      · obtain ⟨y1, y2, y3, y4, y5, y6, y7, y8, y9⟩ := HV.out
        have hrr : (((W5.drewN nq).setCell ⟨b, 0, none⟩ (.int .i64 0)).setCell ⟨b, 1, none⟩ (.int .i64 0)).heap[r]? = some (.cells #[.int .i64 0, .int .i64 0] 55 (0, 0)) := by
          rw [Below.heap_setCell _ _ _ _ (by simp; omega), Below.heap_setCell _ _ _ _ (by simp; omega)]; exact y1
        refine bodyPost_ret (res_cell_tmp rfl rfl (two_set hrr _ _) Tryz.underlying55 rfl (by kernel_rfl)) rfl ⟨rfl, ?_⟩
        exact ((((y4.drewN nq).setCell (p := ⟨b, 0, none⟩) (fun _ h => h rfl) _).setCell (p := ⟨b, 1, none⟩) (fun _ h => h rfl) _).setCell (p := ⟨r, 0, none⟩) (fun h _ => by simp at h; omega) _).setCell (p := ⟨r, 1, none⟩) (fun h _ => by simp at h; omega) _
      · obtain ⟨y1, y2, y3, y4, y5, y6, y7, y8, y9⟩ := HV.out
        simp only [Bool.and_eq_true, beq_iff_eq] at hz0
        obtain ⟨rfl, rfl⟩ := hz0
        refine bodyPost_ret (res_cell_tmp rfl rfl (two_set (w := W5.drewN nq) y1 _ _) Tryz.underlying55 rfl (by kernel_rfl)) rfl ⟨rfl, ?_⟩
        exact ((y4.drewN nq).setCell (p := ⟨r, 0, none⟩) (fun h _ => by simp at h; omega) _).setCell (p := ⟨r, 1, none⟩) (fun h _ => by simp at h; omega) _

set_option maxHeartbeats 1000000 in
set_option maxRecDepth 100000 in
theorem does_159 (a : Acc) (n : Int) (b : Nat) (w : World) (hp : Pur w b a) (hG : ∀ W, Same (fun k => k ≠ b) w W → Glob W) :
    Calls Tryz.prog 148 #[.pointer (some ⟨b, 0, none⟩), .func (.func 159) #[.pointer (some ⟨b, 0, none⟩)] #[], .int .i64 n] w fun e w' => e = .returned (.tuple #[accv (doesF withdrawsF a n).1, .int .i64 (doesF withdrawsF a n).2]) ∧ Same (fun k => k ≠ b) w w' := by
  obtain ⟨W, hW⟩ : ∃ W, w.alloc (.cells #[.int .i64 0, .int .i64 0] 55) = W := ⟨_, rfl⟩
  obtain ⟨r, hr⟩ : ∃ r, w.heap.size = r := ⟨_, rfl⟩
  have hR : W.heap[r]? = some (.cells #[.int .i64 0, .int .i64 0] 55 (0, 0)) := by rw [← hW, ← hr]; exact heap_alloc_new w _
  have hbr : b < r := by rw [← hr]; exact hp.lt
  have hb : Same (fun k => k ≠ b) w W := by rw [← hW]; exact (Same.refl _ w).alloc _
  have hp1 : Pur W b a := by rw [← hW]; exact keep_a _ hp
  have hI := isRight_any a W (hG _ hb)
  have HK := Lib.hid (And.intro hR (And.intro hb hp1))
  have HG := Lib.hid hG
  obtain ⟨c0, c1⟩ := hp1.cells
  obtain ⟨F, hF⟩ : ∃ F, withdrawsF a n = F := ⟨_, rfl⟩
  obtain ⟨⟨f1, f2⟩, f3⟩ := F
  have hM := fun W h h2 => withdraws_ok a n b W h h2
  simp only [hF] at hM
  simp only [doesF, hF]
  have HM := Lib.hid hM
  unfold accv at hI ⊢
  have hlt := hp.lt
  clear hF hM hR hb hp1 hG hp
  rcases hok : okAcc a with _ | _
  · simp only [hok] at hI
    have hnn : (!false) = true := rfl
    go_enter Tryz.func148, Tryz.ntmps148
    go_wp2_with fail
    refine hI.mono ?_
    rintro e W2 ⟨rfl, hb2⟩
    have h2 := keep_b HK.out.1 hb2
    obtain ⟨r0, r1⟩ := cells2 h2
    have ff : ∀ i, W2.frozen? ⟨r, i, none⟩ = false := blk_frozen h2
    have HX := Lib.hid (And.intro h2 (Pur.step ⟨HK.out.2.2, HK.out.2.1⟩ hb2).2)
    clear hb2 h2 HK c0 c1
    go_wp2
    refine bodyPost_ret (res_cell_tmp rfl rfl (two_set HX.out.1 _ _) Tryz.underlying55 rfl (by kernel_rfl)) rfl ⟨rfl, ?_⟩
    exact (HX.out.2.setCell (p := ⟨r, 0, none⟩) (fun h _ => by simp at h; omega) _).setCell (p := ⟨r, 1, none⟩) (fun h _ => by simp at h; omega) _
  · simp only [hok] at hI
    have hnn : (!true) = false := rfl
    go_enter Tryz.func148, Tryz.ntmps148
    go_wp2_with fail
    refine hI.mono ?_
    rintro e W2 ⟨rfl, hb2⟩
    have HX := Lib.hid (And.intro (keep_b HK.out.1 hb2) (Pur.step ⟨HK.out.2.2, HK.out.2.1⟩ hb2))
    clear hb2 HK c0 c1
    go_wp2_with fail
    refine (HM.out _ HX.out.2.1 (fun V hV => HG.out V (HX.out.2.2.trans hV))).mono ?_
    rintro e W3 ⟨rfl, hp3, hb3⟩
    have hr3 := hb3.at_ HX.out.1 (show r ≠ b by omega)
    obtain ⟨W4, hW4⟩ : ∃ W4, W3.alloc (.cells #[.int .i64 0, .int .i64 0] 55) = W4 := ⟨_, rfl⟩
    obtain ⟨q, hq⟩ : ∃ q, W3.heap.size = q := ⟨_, rfl⟩
    have hr4 : W4.heap[r]? = some (.cells #[.int .i64 0, .int .i64 0] 55 (0, 0)) := by rw [← hW4]; exact keep_a _ hr3
    have hp4 : Pur W4 b (f1, f2) := by rw [← hW4]; exact keep_a _ hp3
    have hq4 : W4.heap[q]? = some (.cells #[.int .i64 0, .int .i64 0] 55 (0, 0)) := by rw [← hW4, ← hq]; exact heap_alloc_new W3 _
    have hs4 : Same (fun k => k ≠ b) w W4 := by rw [← hW4]; exact (HX.out.2.2.trans hb3).alloc _
    have hbq : b < q ∧ r < q ∧ b < w.heap.size := by rw [← hq]; exact ⟨hp3.lt, (Array.getElem?_eq_some_iff.1 hr3).1, hlt⟩
    have hst : ∀ x y, (W3.alloc (.cells #[.int .i64 x, .int .i64 y] 55)).heap.size = W4.heap.size := fun x y => by rw [← hW4]; simp
    obtain ⟨p0, p1⟩ := hp4.cells
    obtain ⟨q0, q1⟩ := cells2 hq4
    obtain ⟨r0, r1⟩ := cells2 hr4
    have HY := Lib.hid (And.intro hr4 (And.intro hp4 (And.intro hq4 (And.intro hs4 hbq))))
    clear hb3 hr3 hp3 HX hr4 hp4 hq4 hs4 hst
    have fq : ∀ i, W4.frozen? ⟨q, i, none⟩ = false := blk_frozen HY.out.2.2.1
    by_cases h3 : f3 = 0
    · subst h3
      have hz : ((0 : Int) != 0) = false := rfl
      go_wp2_with fail
      obtain ⟨W5, hW5⟩ : ∃ W5, (W4.setCell ⟨q, 0, none⟩ (.int .i64 0)).setCell ⟨q, 1, none⟩ (.int .i64 0) = W5 := ⟨_, rfl⟩
      have HV : Hid (W5.heap[r]? = some (.cells #[.int .i64 0, .int .i64 0] 55 (0, 0)) ∧ Pur W5 b (f1, f2) ∧ W5.heap[q]? = some (.cells #[.int .i64 0, .int .i64 0] 55 (0, 0)) ∧ Same (fun k => k ≠ b) w W5 ∧ b < q ∧ r < q ∧ b < w.heap.size ∧ b < r ∧ w.heap.size ≤ r) := by
        obtain ⟨y1, y2, y3, y4, y5, y6, y7⟩ := HY.out
        rw [← hW5]
        refine Lib.hid ⟨?_, ?_, two_set y3 _ _, (y4.setCell (p := ⟨q, 0, none⟩) (fun h _ => by simp at h; omega) _).setCell (p := ⟨q, 1, none⟩) (fun h _ => by simp at h; omega) _, y5, y6, y7, hbr, by omega⟩
        · rw [Below.heap_setCell _ _ _ _ (by simp; omega), Below.heap_setCell _ _ _ _ (by simp; omega)]; exact y1
        · unfold Pur; rw [Below.heap_setCell _ _ _ _ (by simp; omega), Below.heap_setCell _ _ _ _ (by simp; omega)]; exact y2
      rw [hW5]
      clear hW5 HY p0 p1 q0 q1 r0 r1 fq hW4 hq
      obtain ⟨p0, p1⟩ := HV.out.2.1.cells
      obtain ⟨q0, q1⟩ := cells2 HV.out.2.2.1
      obtain ⟨r0, r1⟩ := cells2 HV.out.1
      have fr : ∀ i, W5.frozen? ⟨r, i, none⟩ = false := blk_frozen HV.out.1
      go_quiet (fail)
      go_wp2_with fail
      refine bodyPost_ret (res_cell_tmp rfl rfl (two_set (w := W5.drewN nq) HV.out.1 _ _) Tryz.underlying55 rfl (by kernel_rfl)) rfl ⟨rfl, ?_⟩
      obtain ⟨y1, y2, y3, y4, y5, y6, y7, y8, y9⟩ := HV.out
      exact ((y4.drewN nq).setCell (p := ⟨r, 0, none⟩) (fun h _ => by simp at h; omega) _).setCell (p := ⟨r, 1, none⟩) (fun h _ => by simp at h; omega) _
    · have hz : (f3 != 0) = true := by simpa using h3
      go_wp2_with fail
      obtain ⟨W5, hW5⟩ : ∃ W5, (W4.setCell ⟨q, 0, none⟩ (.int .i64 0)).setCell ⟨q, 1, none⟩ (.int .i64 0) = W5 := ⟨_, rfl⟩
      have HV : Hid (W5.heap[r]? = some (.cells #[.int .i64 0, .int .i64 0] 55 (0, 0)) ∧ Pur W5 b (f1, f2) ∧ W5.heap[q]? = some (.cells #[.int .i64 0, .int .i64 0] 55 (0, 0)) ∧ Same (fun k => k ≠ b) w W5 ∧ b < q ∧ r < q ∧ b < w.heap.size ∧ b < r ∧ w.heap.size ≤ r) := by
        obtain ⟨y1, y2, y3, y4, y5, y6, y7⟩ := HY.out
        rw [← hW5]
        refine Lib.hid ⟨?_, ?_, two_set y3 _ _, (y4.setCell (p := ⟨q, 0, none⟩) (fun h _ => by simp at h; omega) _).setCell (p := ⟨q, 1, none⟩) (fun h _ => by simp at h; omega) _, y5, y6, y7, hbr, by omega⟩
        · rw [Below.heap_setCell _ _ _ _ (by simp; omega), Below.heap_setCell _ _ _ _ (by simp; omega)]; exact y1
        · unfold Pur; rw [Below.heap_setCell _ _ _ _ (by simp; omega), Below.heap_setCell _ _ _ _ (by simp; omega)]; exact y2
      rw [hW5]
      clear hW5 HY p0 p1 q0 q1 r0 r1 fq hW4 hq
      obtain ⟨p0, p1⟩ := HV.out.2.1.cells
      obtain ⟨q0, q1⟩ := cells2 HV.out.2.2.1
      obtain ⟨r0, r1⟩ := cells2 HV.out.1
      have fr : ∀ i, W5.frozen? ⟨r, i, none⟩ = false := blk_frozen HV.out.1
      have fp : ∀ i, W5.frozen? ⟨b, i, none⟩ = false := blk_frozen HV.out.2.1
      have hneq := fun w => neq55 f1 f2 0 0 w
      rcases hz0 : (f1 == 0 && f2 == 0) with _ | _
      all_goals
        rw [hz0] at hneq
        have hnn1 : (!false) = true := rfl
        have hnn2 : (!true) = false := rfl
        go_quiet (fail)
        go_wp2_with fail
      · obtain ⟨y1, y2, y3, y4, y5, y6, y7, y8, y9⟩ := HV.out
        have hrr : (((W5.drewN nq).setCell ⟨b, 0, none⟩ (.int .i64 0)).setCell ⟨b, 1, none⟩ (.int .i64 0)).heap[r]? = some (.cells #[.int .i64 0, .int .i64 0] 55 (0, 0)) := by
          rw [Below.heap_setCell _ _ _ _ (by simp; omega), Below.heap_setCell _ _ _ _ (by simp; omega)]; exact y1
        refine bodyPost_ret (res_cell_tmp rfl rfl (two_set hrr _ _) Tryz.underlying55 rfl (by kernel_rfl)) rfl ⟨rfl, ?_⟩
        exact ((((y4.drewN nq).setCell (p := ⟨b, 0, none⟩) (fun _ h => h rfl) _).setCell (p := ⟨b, 1, none⟩) (fun _ h => h rfl) _).setCell (p := ⟨r, 0, none⟩) (fun h _ => by simp at h; omega) _).setCell (p := ⟨r, 1, none⟩) (fun h _ => by simp at h; omega) _
      · obtain ⟨y1, y2, y3, y4, y5, y6, y7, y8, y9⟩ := HV.out
        simp only [Bool.and_eq_true, beq_iff_eq] at hz0
        obtain ⟨rfl, rfl⟩ := hz0
        refine bodyPost_ret (res_cell_tmp rfl rfl (two_set (w := W5.drewN nq) y1 _ _) Tryz.underlying55 rfl (by kernel_rfl)) rfl ⟨rfl, ?_⟩
        exact ((y4.drewN nq).setCell (p := ⟨r, 0, none⟩) (fun h _ => by simp at h; omega) _).setCell (p := ⟨r, 1, none⟩) (fun h _ => by simp at h; omega) _

set_option maxHeartbeats 1000000 in
set_option maxRecDepth 100000 in
theorem spend_any (a : Acc) (n : Int) (w : World) (hG : Glob w) :
    Calls Tryz.prog 104 #[accv a, .int .i64 n] w fun e w' => e = .returned (.tuple #[accv (doesF spendsF a n).1, .int .i64 (doesF spendsF a n).2]) ∧ Below w.heap.size w w' := by
  obtain ⟨W, hW⟩ : ∃ W, (((w.alloc (.cells #[.int .i64 a.1, .int .i64 a.2] 55)).alloc (.cells #[.int .i64 0, .int .i64 0] 55)).alloc (.cells #[.int .i64 a.1, .int .i64 a.2] 176)) = W := ⟨_, rfl⟩
  obtain ⟨z0, z1, z2, z3, z4⟩ := three_new w (.cells #[.int .i64 a.1, .int .i64 a.2] 55) (.cells #[.int .i64 0, .int .i64 0] 55) (.cells #[.int .i64 a.1, .int .i64 a.2] 176)
  rw [hW] at z0 z1 z2 z3 z4
  have hmf : ∀ (fn : Fn) (first cap : Array Value) (w : World), (Instr.makeFunc fn first cap).run Tryz.prog w = .ok (.func fn first cap) w := fun _ _ _ _ => rfl
  have hD := does_151 a n (w.heap.size + 1 + 1) W z3 (fun V hV => hG.below (z4.trans (hV.below (by omega) fun k hk => by omega)))
  obtain ⟨F, hF⟩ : ∃ F, doesF spendsF a n = F := ⟨_, rfl⟩
  obtain ⟨⟨f1, f2⟩, f3⟩ := F
  simp only [hF] at hD ⊢
  have HK := Lib.hid (And.intro z0 (And.intro z2 z4))
  clear hF z0 z1 z2 z3 z4
  have c0 : (w.alloc (.cells #[.int .i64 a.1, .int .i64 a.2] 55)).cell? ⟨w.heap.size, 0, none⟩ = some (.int .i64 a.1) := blk_cell (heap_alloc_new w _) 0
  unfold accv at hD ⊢
  go_enter Tryz.func104, Tryz.ntmps104
  go_wp2_with fail
  refine hD.mono ?_
  rintro e W3 ⟨rfl, hb3⟩
  have hr := hb3.at_ HK.out.2.1 (show w.heap.size + 1 ≠ w.heap.size + 1 + 1 by omega)
  obtain ⟨r0, r1⟩ := cells2 hr
  have fr : ∀ i, W3.frozen? ⟨w.heap.size + 1, i, none⟩ = false := blk_frozen hr
  have HX := Lib.hid (And.intro hr (HK.out.2.2.trans (hb3.below (n := w.heap.size) (by have := HK.out.1; omega) (fun k hk => by omega))))
  clear hb3 hr
  go_wp2
  refine bodyPost_ret (res_cell_tmp rfl rfl (two_set HX.out.1 _ _) Tryz.underlying55 rfl (by kernel_rfl)) rfl ⟨rfl, ?_⟩
  exact (HX.out.2.setCell (p := ⟨w.heap.size + 1, 0, none⟩) (by simp) _).setCell (p := ⟨w.heap.size + 1, 1, none⟩) (by simp) _

set_option maxHeartbeats 1000000 in
set_option maxRecDepth 100000 in
theorem earn_any (a : Acc) (n : Int) (w : World) (hG : Glob w) :
    Calls Tryz.prog 101 #[accv a, .int .i64 n] w fun e w' => e = .returned (.tuple #[accv (doesF earnsF a n).1, .int .i64 (doesF earnsF a n).2]) ∧ Below w.heap.size w w' := by
  obtain ⟨W, hW⟩ : ∃ W, (((w.alloc (.cells #[.int .i64 a.1, .int .i64 a.2] 55)).alloc (.cells #[.int .i64 0, .int .i64 0] 55)).alloc (.cells #[.int .i64 a.1, .int .i64 a.2] 176)) = W := ⟨_, rfl⟩
  obtain ⟨z0, z1, z2, z3, z4⟩ := three_new w (.cells #[.int .i64 a.1, .int .i64 a.2] 55) (.cells #[.int .i64 0, .int .i64 0] 55) (.cells #[.int .i64 a.1, .int .i64 a.2] 176)
  rw [hW] at z0 z1 z2 z3 z4
  have hmf : ∀ (fn : Fn) (first cap : Array Value) (w : World), (Instr.makeFunc fn first cap).run Tryz.prog w = .ok (.func fn first cap) w := fun _ _ _ _ => rfl
  have hD := does_149 a n (w.heap.size + 1 + 1) W z3 (fun V hV => hG.below (z4.trans (hV.below (by omega) fun k hk => by omega)))
  obtain ⟨F, hF⟩ : ∃ F, doesF earnsF a n = F := ⟨_, rfl⟩
  obtain ⟨⟨f1, f2⟩, f3⟩ := F
  simp only [hF] at hD ⊢
  have HK := Lib.hid (And.intro z0 (And.intro z2 z4))
  clear hF z0 z1 z2 z3 z4
  have c0 : (w.alloc (.cells #[.int .i64 a.1, .int .i64 a.2] 55)).cell? ⟨w.heap.size, 0, none⟩ = some (.int .i64 a.1) := blk_cell (heap_alloc_new w _) 0
  unfold accv at hD ⊢
  go_enter Tryz.func101, Tryz.ntmps101
  go_wp2_with fail
  refine hD.mono ?_
  rintro e W3 ⟨rfl, hb3⟩
  have hr := hb3.at_ HK.out.2.1 (show w.heap.size + 1 ≠ w.heap.size + 1 + 1 by omega)
  obtain ⟨r0, r1⟩ := cells2 hr
  have fr : ∀ i, W3.frozen? ⟨w.heap.size + 1, i, none⟩ = false := blk_frozen hr
  have HX := Lib.hid (And.intro hr (HK.out.2.2.trans (hb3.below (n := w.heap.size) (by have := HK.out.1; omega) (fun k hk => by omega))))
  clear hb3 hr
  go_wp2
  refine bodyPost_ret (res_cell_tmp rfl rfl (two_set HX.out.1 _ _) Tryz.underlying55 rfl (by kernel_rfl)) rfl ⟨rfl, ?_⟩
  exact (HX.out.2.setCell (p := ⟨w.heap.size + 1, 0, none⟩) (by simp) _).setCell (p := ⟨w.heap.size + 1, 1, none⟩) (by simp) _

set_option maxHeartbeats 1000000 in
set_option maxRecDepth 100000 in
theorem deposit_any (a : Acc) (n : Int) (w : World) (hG : Glob w) :
    Calls Tryz.prog 113 #[accv a, .int .i64 n] w fun e w' => e = .returned (.tuple #[accv (doesF depositsF a n).1, .int .i64 (doesF depositsF a n).2]) ∧ Below w.heap.size w w' := by
  obtain ⟨W, hW⟩ : ∃ W, (((w.alloc (.cells #[.int .i64 a.1, .int .i64 a.2] 55)).alloc (.cells #[.int .i64 0, .int .i64 0] 55)).alloc (.cells #[.int .i64 a.1, .int .i64 a.2] 176)) = W := ⟨_, rfl⟩
  obtain ⟨z0, z1, z2, z3, z4⟩ := three_new w (.cells #[.int .i64 a.1, .int .i64 a.2] 55) (.cells #[.int .i64 0, .int .i64 0] 55) (.cells #[.int .i64 a.1, .int .i64 a.2] 176)
  rw [hW] at z0 z1 z2 z3 z4
  have hmf : ∀ (fn : Fn) (first cap : Array Value) (w : World), (Instr.makeFunc fn first cap).run Tryz.prog w = .ok (.func fn first cap) w := fun _ _ _ _ => rfl
  have hD := does_158 a n (w.heap.size + 1 + 1) W z3 (fun V hV => hG.below (z4.trans (hV.below (by omega) fun k hk => by omega)))
  obtain ⟨F, hF⟩ : ∃ F, doesF depositsF a n = F := ⟨_, rfl⟩
  obtain ⟨⟨f1, f2⟩, f3⟩ := F
  simp only [hF] at hD ⊢
  have HK := Lib.hid (And.intro z0 (And.intro z2 z4))
  clear hF z0 z1 z2 z3 z4
  have c0 : (w.alloc (.cells #[.int .i64 a.1, .int .i64 a.2] 55)).cell? ⟨w.heap.size, 0, none⟩ = some (.int .i64 a.1) := blk_cell (heap_alloc_new w _) 0
  unfold accv at hD ⊢
  go_enter Tryz.func113, Tryz.ntmps113
  go_wp2_with fail
  refine hD.mono ?_
  rintro e W3 ⟨rfl, hb3⟩
  have hr := hb3.at_ HK.out.2.1 (show w.heap.size + 1 ≠ w.heap.size + 1 + 1 by omega)
  obtain ⟨r0, r1⟩ := cells2 hr
  have fr : ∀ i, W3.frozen? ⟨w.heap.size + 1, i, none⟩ = false := blk_frozen hr
  have HX := Lib.hid (And.intro hr (HK.out.2.2.trans (hb3.below (n := w.heap.size) (by have := HK.out.1; omega) (fun k hk => by omega))))
  clear hb3 hr
  go_wp2
  refine bodyPost_ret (res_cell_tmp rfl rfl (two_set HX.out.1 _ _) Tryz.underlying55 rfl (by kernel_rfl)) rfl ⟨rfl, ?_⟩
  exact (HX.out.2.setCell (p := ⟨w.heap.size + 1, 0, none⟩) (by simp) _).setCell (p := ⟨w.heap.size + 1, 1, none⟩) (by simp) _

set_option maxHeartbeats 1000000 in
set_option maxRecDepth 100000 in
theorem withdraw_any (a : Acc) (n : Int) (w : World) (hG : Glob w) :
    Calls Tryz.prog 114 #[accv a, .int .i64 n] w fun e w' => e = .returned (.tuple #[accv (doesF withdrawsF a n).1, .int .i64 (doesF withdrawsF a n).2]) ∧ Below w.heap.size w w' := by
  obtain ⟨W, hW⟩ : ∃ W, (((w.alloc (.cells #[.int .i64 a.1, .int .i64 a.2] 55)).alloc (.cells #[.int .i64 0, .int .i64 0] 55)).alloc (.cells #[.int .i64 a.1, .int .i64 a.2] 176)) = W := ⟨_, rfl⟩
  obtain ⟨z0, z1, z2, z3, z4⟩ := three_new w (.cells #[.int .i64 a.1, .int .i64 a.2] 55) (.cells #[.int .i64 0, .int .i64 0] 55) (.cells #[.int .i64 a.1, .int .i64 a.2] 176)
  rw [hW] at z0 z1 z2 z3 z4
  have hmf : ∀ (fn : Fn) (first cap : Array Value) (w : World), (Instr.makeFunc fn first cap).run Tryz.prog w = .ok (.func fn first cap) w := fun _ _ _ _ => rfl
  have hD := does_159 a n (w.heap.size + 1 + 1) W z3 (fun V hV => hG.below (z4.trans (hV.below (by omega) fun k hk => by omega)))
  obtain ⟨F, hF⟩ : ∃ F, doesF withdrawsF a n = F := ⟨_, rfl⟩
  obtain ⟨⟨f1, f2⟩, f3⟩ := F
  simp only [hF] at hD ⊢
  have HK := Lib.hid (And.intro z0 (And.intro z2 z4))
  clear hF z0 z1 z2 z3 z4
  have c0 : (w.alloc (.cells #[.int .i64 a.1, .int .i64 a.2] 55)).cell? ⟨w.heap.size, 0, none⟩ = some (.int .i64 a.1) := blk_cell (heap_alloc_new w _) 0
  unfold accv at hD ⊢
  go_enter Tryz.func114, Tryz.ntmps114
  go_wp2_with fail
  refine hD.mono ?_
  rintro e W3 ⟨rfl, hb3⟩
  have hr := hb3.at_ HK.out.2.1 (show w.heap.size + 1 ≠ w.heap.size + 1 + 1 by omega)
  obtain ⟨r0, r1⟩ := cells2 hr
  have fr : ∀ i, W3.frozen? ⟨w.heap.size + 1, i, none⟩ = false := blk_frozen hr
  have HX := Lib.hid (And.intro hr (HK.out.2.2.trans (hb3.below (n := w.heap.size) (by have := HK.out.1; omega) (fun k hk => by omega))))
  clear hb3 hr
  go_wp2
  refine bodyPost_ret (res_cell_tmp rfl rfl (two_set HX.out.1 _ _) Tryz.underlying55 rfl (by kernel_rfl)) rfl ⟨rfl, ?_⟩
  exact (HX.out.2.setCell (p := ⟨w.heap.size + 1, 0, none⟩) (by simp) _).setCell (p := ⟨w.heap.size + 1, 1, none⟩) (by simp) _
end Go.Proofs.YtmkcbkdbdcnoiaaGreatDoor
namespace Go.Proofs.YtmkcbkdbdcnoiaaGreatDoor
open Go.RowKit
set_option linter.unusedVariables false
set_option linter.unusedSimpArgs false

def aBytesF (a : Acc) : List UInt8 × Int := if okAcc a = true then mBytesF [a.1, a.2] else ([], 130)

set_option maxHeartbeats 1000000 in
set_option maxRecDepth 100000 in
theorem abytes_any (a : Acc) (w : World) (hG : Glob w) :
    Calls Tryz.prog 145 #[accv a] w fun e w' => e = .returned (.tuple #[.string ⟨(aBytesF a).1.toArray⟩, .int .i64 (aBytesF a).2]) ∧ Below w.heap.size w w' := by
  obtain ⟨W1, hW1⟩ : ∃ W, w.alloc (.cells #[.int .i64 a.1, .int .i64 a.2] 55) = W := ⟨_, rfl⟩
  obtain ⟨W2, hW2⟩ : ∃ W, W1.alloc (.cells #[.int .i64 a.1, .int .i64 a.2] 55) = W := ⟨_, rfl⟩
  have b1 : Below w.heap.size w W1 := by rw [← hW1]; exact (Below.refl _ w).alloc (Nat.le_refl _) _
  have b2 : Below w.heap.size w W2 := by rw [← hW2]; exact b1.alloc b1.size _
  have k1 : W1.heap[w.heap.size]? = some (.cells #[.int .i64 a.1, .int .i64 a.2] 55 (0, 0)) := by rw [← hW1]; exact heap_alloc_new w _
  obtain ⟨c0, c1⟩ := cells2 k1
  have hS : Sees W2 (.slice (some ⟨W1.heap.size, 0, none⟩) 1 1) 1 2 (accs [a]) := Sees.of_blk (g := W1.heap.size) (cs := #[.int .i64 a.1, .int .i64 a.2]) (t := 55) (fr := (0, 0)) (by rw [← hW2]; exact heap_alloc_new W1 _) rfl
  have hA := aare_any [a] 1 _ W2 rfl hS (by omega) (hG.below b2)
  have hall : [a].all okAcc = okAcc a := by simp
  rw [hall] at hA
  have k2 : W2.heap[w.heap.size]? = some (.cells #[.int .i64 a.1, .int .i64 a.2] 55 (0, 0)) := by rw [← hW2]; exact keep_a _ k1
  have HK := Lib.hid (And.intro b2 k2)
  unfold accv
  clear k1 k2 hS b1 b2 hall
  rcases hok : okAcc a with _ | _
  · have hF : aBytesF a = ([], 130) := by simp [aBytesF, hok]
    rw [hok] at hA
    rw [hF]
    have hnn : (!false) = true := rfl
    go_enter Tryz.func145, Tryz.ntmps145
    go_wp2_with fail
    refine hA.mono ?_
    rintro e W3 ⟨rfl, hb⟩
    have HB := Lib.hid (HK.out.1.trans (hb.mono HK.out.1.size))
    clear hb
    go_wp2
    go_ret2
    exact ⟨rfl, HB.out⟩
  · have hF : aBytesF a = mBytesF [a.1, a.2] := by simp [aBytesF, hok]
    rw [hok] at hA
    rw [hF]
    have hnn : (!true) = false := rfl
    have HG := Lib.hid hG
    clear hG
    go_enter Tryz.func145, Tryz.ntmps145
    go_wp2_with fail
    refine hA.mono ?_
    rintro e W3 ⟨rfl, hb⟩
    have k3 := keep_b HK.out.2 hb
    obtain ⟨d0, d1⟩ := cells2 k3
    have HB := Lib.hid (HK.out.1.trans (hb.mono HK.out.1.size))
    clear hb k3 c0 c1
    go_wp2_with fail
    refine (bytes_any [a.1, a.2] 2 _ _ rfl (Sees.of_blk (g := W3.heap.size) (cs := #[.int .i64 a.1, .int .i64 a.2]) (t := 2) (fr := (0, 0)) (heap_alloc_new W3 _) rfl) (by omega) ((HG.out.below HB.out).alloc _)).mono ?_
    rintro e W4 ⟨rfl, hb⟩
    have HC := Lib.hid ((HB.out.alloc HB.out.size _).trans (hb.mono (by have := HB.out.size; simp; omega)))
    clear hb
    go_wp2
    go_ret2
    exact ⟨rfl, HC.out⟩
end Go.Proofs.YtmkcbkdbdcnoiaaGreatDoor
namespace Go.Proofs.YtmkcbkdbdcnoiaaGreatDoor
open Go.RowKit
set_option linter.unusedVariables false
set_option linter.unusedSimpArgs false

def aParse (s : List UInt8) : Option Acc := match mParse s with
  | some [x, y] => if okAcc (x, y) = true then some (x, y) else none
  | _ => none
def aParseF (s : List UInt8) : Acc × Int := match aParse s with
  | some a => (a, 0)
  | none => ((0, 0), 130)

set_option maxHeartbeats 1000000 in
set_option maxRecDepth 100000 in
theorem aparse_any (s : ByteArray) (w : World) (hs : s.size ≤ 1000000) (hG : Glob w) :
    Calls Tryz.prog 67 #[.string s] w fun e w' => e = .returned (.tuple #[accv (aParseF s.data.toList).1, .int .i64 (aParseF s.data.toList).2]) ∧ Below w.heap.size w w' := by
  obtain ⟨W1, hW1⟩ : ∃ W, w.alloc (.cells #[.int .i64 0, .int .i64 0] 55) = W := ⟨_, rfl⟩
  have b1 : Below w.heap.size w W1 := by rw [← hW1]; exact (Below.refl _ w).alloc (Nat.le_refl _) _
  have k1 : W1.heap[w.heap.size]? = some (.cells #[.int .i64 0, .int .i64 0] 55 (0, 0)) := by rw [← hW1]; exact heap_alloc_new w _
  have hGw := hG
  have hP := parse_any s W1 hs (hG.below b1)
  unfold MpPost at hP
  have HK := Lib.hid (And.intro b1 k1)
  have HG := Lib.hid hG
  clear b1 k1 hG
  rcases hm : mParse s.data.toList with _ | l
  · have hF : aParseF s.data.toList = ((0, 0), 130) := by simp [aParseF, aParse, hm]
    rw [hF]
    simp only [hm] at hP
    unfold accv
    go_enter Tryz.func67, Tryz.ntmps67
    go_wp2_with fail
    refine hP.mono ?_
    rintro e W3 ⟨rfl, hb⟩
    have k3 := keep_b HK.out.2 hb
    obtain ⟨d0, d1⟩ := cells2 k3
    have fr : ∀ i, W3.frozen? ⟨w.heap.size, i, none⟩ = false := blk_frozen k3
    have HB := Lib.hid (And.intro (HK.out.1.trans (hb.mono HK.out.1.size)) k3)
    clear hb k3
    go_wp2
    refine bodyPost_ret (res_cell_tmp rfl rfl (two_set HB.out.2 _ _) Tryz.underlying55 rfl (by kernel_rfl)) rfl ⟨rfl, ?_⟩
    exact (HB.out.1.setCell (p := ⟨w.heap.size, 0, none⟩) (Nat.le_refl _) _).setCell (p := ⟨w.heap.size, 1, none⟩) (Nat.le_refl _) _
  · simp only [hm] at hP
    by_cases h2 : l.length = 2
    · obtain ⟨x, y, rfl⟩ : ∃ x y, l = [x, y] := by
        match l, h2 with
        | [x, y], _ => exact ⟨x, y, rfl⟩
      obtain ⟨R, hR⟩ : ∃ R, okAcc (x, y) = R := ⟨_, rfl⟩
      have hF : aParseF s.data.toList = if R = true then ((x, y), 0) else ((0, 0), 130) := by
        simp only [aParseF, aParse, hm, hR]
        cases R <;> simp
      rw [hF]
      have HR := Lib.hid hR
      clear hF hR
      unfold accv
      go_enter Tryz.func67, Tryz.ntmps67
      go_wp2_with fail
      refine hP.mono ?_
      rintro e W3 ⟨⟨v, rfl, ho⟩, hb⟩
      obtain ⟨g, cap, rfl⟩ := ownsRow_succ ho
      have k3 := keep_b HK.out.2 hb
      have g0 := ho.cells (g := g) rfl 0 _ rfl
      have g1 := ho.cells (g := g) rfl 1 _ rfl
      rw [add_plain] at g0 g1
      have HB := Lib.hid (And.intro (HK.out.1.trans (hb.mono HK.out.1.size)) (And.intro k3 (And.intro g0 g1)))
      clear hb k3 ho
      go_wp2_with fail
      have g0' : W3.drew.cell? ⟨g, 0, none⟩ = some (.int .i64 x) := g0
      have g1' : W3.drew.cell? ⟨g, 1, none⟩ = some (.int .i64 y) := g1
      have g2' : (W3.alloc (.cells #[.int .i64 0, .int .i64 0] 55)).drew.cell? ⟨g, 0, none⟩ = some (.int .i64 x) := cell_keep g0 (((Below.refl _ W3).alloc (Nat.le_refl _) _).drew)
      have g3' : (W3.alloc (.cells #[.int .i64 0, .int .i64 0] 55)).drew.cell? ⟨g, 1, none⟩ = some (.int .i64 y) := cell_keep g1 (((Below.refl _ W3).alloc (Nat.le_refl _) _).drew)
      go_region
      obtain ⟨W4, hW4⟩ : ∃ W4, (W3.alloc (.cells #[.int .i64 x, .int .i64 y] 55)).drew = W4 := ⟨_, rfl⟩
      obtain ⟨q, hq⟩ : ∃ q, W3.heap.size = q := ⟨_, rfl⟩
      obtain ⟨W5, hW5⟩ : ∃ W5, W4.alloc (.cells #[.int .i64 x, .int .i64 y] 55) = W5 := ⟨_, rfl⟩
      have n4 : W4.heap[q]? = some (.cells #[.int .i64 x, .int .i64 y] 55 (0, 0)) := by rw [← hW4, ← hq]; exact heap_alloc_new W3 _
      have m4 : W4.heap[w.heap.size]? = some (.cells #[.int .i64 0, .int .i64 0] 55 (0, 0)) := by rw [← hW4]; exact keep_a _ HB.out.2.1
      have b4 : Below w.heap.size w W4 := by rw [← hW4]; exact Below.drew (HB.out.1.alloc HB.out.1.size _)
      have b5 : Below w.heap.size w W5 := by rw [← hW5]; exact b4.alloc b4.size _
      have n5 : W5.heap[q]? = some (.cells #[.int .i64 x, .int .i64 y] 55 (0, 0)) := by rw [← hW5]; exact keep_a _ n4
      have m5 : W5.heap[w.heap.size]? = some (.cells #[.int .i64 0, .int .i64 0] 55 (0, 0)) := by rw [← hW5]; exact keep_a _ m4
      have hS : Sees W5 (.slice (some ⟨W4.heap.size, 0, none⟩) 1 1) 1 2 (accs [(x, y)]) := Sees.of_blk (g := W4.heap.size) (cs := #[.int .i64 x, .int .i64 y]) (t := 55) (fr := (0, 0)) (by rw [← hW5]; exact heap_alloc_new W4 _) rfl
      have hA := aare_any [(x, y)] 1 _ W5 rfl hS (by omega) (hGw.below b5)
      have hall : [(x, y)].all okAcc = R := by simp [HR.out]
      rw [hall] at hA
      obtain ⟨c0, c1⟩ := cells2 n4
      have HC := Lib.hid (And.intro b5 (And.intro n5 m5))
      rw [hW4, hq]
      clear hW4 hq n4 m4 b4 b5 n5 m5 hS g0 g1 g0' g1' g2' g3' hall HB
      cases R
      · have hnn : (!false) = true := rfl
        go_wp2_with fail
        refine hA.mono ?_
        rintro e W6 ⟨rfl, hb6⟩
        have n6 := keep_b HC.out.2.1 hb6
        have m6 := keep_b HC.out.2.2 hb6
        obtain ⟨d0, d1⟩ := cells2 m6
        obtain ⟨e0, e1⟩ := cells2 n6
        have fr : ∀ i, W6.frozen? ⟨w.heap.size, i, none⟩ = false := blk_frozen m6
        have HD := Lib.hid (And.intro (HC.out.1.trans (hb6.mono HC.out.1.size)) m6)
        clear hb6 n6 m6 c0 c1
        go_wp2
        refine bodyPost_ret (res_cell_tmp rfl rfl (two_set HD.out.2 _ _) Tryz.underlying55 rfl (by kernel_rfl)) rfl ⟨rfl, ?_⟩
        exact (HD.out.1.setCell (p := ⟨w.heap.size, 0, none⟩) (Nat.le_refl _) _).setCell (p := ⟨w.heap.size, 1, none⟩) (Nat.le_refl _) _
      · have hnn : (!true) = false := rfl
        go_wp2_with fail
        refine hA.mono ?_
        rintro e W6 ⟨rfl, hb6⟩
        have n6 := keep_b HC.out.2.1 hb6
        have m6 := keep_b HC.out.2.2 hb6
        obtain ⟨d0, d1⟩ := cells2 m6
        obtain ⟨e0, e1⟩ := cells2 n6
        have fr : ∀ i, W6.frozen? ⟨w.heap.size, i, none⟩ = false := blk_frozen m6
        have HD := Lib.hid (And.intro (HC.out.1.trans (hb6.mono HC.out.1.size)) m6)
        clear hb6 n6 m6 c0 c1
        go_wp2
        refine bodyPost_ret (res_cell_tmp rfl rfl (two_set HD.out.2 _ _) Tryz.underlying55 rfl (by kernel_rfl)) rfl ⟨rfl, ?_⟩
        exact (HD.out.1.setCell (p := ⟨w.heap.size, 0, none⟩) (Nat.le_refl _) _).setCell (p := ⟨w.heap.size, 1, none⟩) (Nat.le_refl _) _
    · have hF : aParseF s.data.toList = ((0, 0), 130) := by
        have : aParse s.data.toList = none := by
          rw [aParse, hm]
          match l, h2 with
          | [], _ => rfl
          | [_], _ => rfl
          | [_, _], h => exact absurd rfl h
          | _ :: _ :: _ :: _, _ => rfl
        simp [aParseF, this]
      rw [hF]
      have hne : ((l.length : Int) != 2) = true := by simp; omega
      unfold accv
      go_enter Tryz.func67, Tryz.ntmps67
      go_wp2_with fail
      refine hP.mono ?_
      rintro e W3 ⟨⟨v, rfl, ho⟩, hb⟩
      obtain ⟨base, cap, rfl⟩ := (Sees.of_own ho).shape
      have k3 := keep_b HK.out.2 hb
      obtain ⟨d0, d1⟩ := cells2 k3
      have fr : ∀ i, W3.frozen? ⟨w.heap.size, i, none⟩ = false := blk_frozen k3
      have HB := Lib.hid (And.intro (HK.out.1.trans (hb.mono HK.out.1.size)) k3)
      clear hb k3 ho
      go_wp2
      refine bodyPost_ret (res_cell_tmp rfl rfl (two_set HB.out.2 _ _) Tryz.underlying55 rfl (by kernel_rfl)) rfl ⟨rfl, ?_⟩
      exact (HB.out.1.setCell (p := ⟨w.heap.size, 0, none⟩) (Nat.le_refl _) _).setCell (p := ⟨w.heap.size, 1, none⟩) (Nat.le_refl _) _
end Go.Proofs.YtmkcbkdbdcnoiaaGreatDoor
