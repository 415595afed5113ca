/- accounts.Pay. Package mail: done, Send, Claim. Package mail: Send, Claim. -/
import Derived.Test.YtmkcbkdbdcnoiaaGreatDoorG07
import Derived.Test.YtmkcbkdbdcnoiaaGreatDoorG08
import Derived.Test.YtmkcbkdbdcnoiaaGreatDoorG09
namespace Go.Proofs.YtmkcbkdbdcnoiaaGreatDoor
open Go.RowKit
set_option linter.unusedVariables false
set_option linter.unusedSimpArgs false

/-- What Pay answers. -/
def payF (a b : Acc) (n : Int) : Acc × Acc × Int :=
  if (okAcc a && okAcc b) = true then
    if (doesF spendsF a n).2 = 0 then
      if (doesF earnsF b n).2 = 0 then ((doesF spendsF a n).1, (doesF earnsF b n).1, 0) else ((0, 0), (0, 0), (doesF earnsF b n).2)
    else ((0, 0), (0, 0), (doesF spendsF a n).2)
  else ((0, 0), (0, 0), 130)

/-- Blocks of two cells. -/
def Two (w : World) (b : Nat) (a : Acc) : Prop := w.heap[b]? = some (.cells #[.int .i64 a.1, .int .i64 a.2] 55 (0, 0))
theorem Two.below {w w' : World} {b : Nat} {a : Acc} (h : Two w b a) (hb : Below w.heap.size w w') : Two w' b a := keep_b h hb
theorem Two.cells {w : World} {b : Nat} {a : Acc} (h : Two w b a) : w.cell? ⟨b, 0, none⟩ = some (.int .i64 a.1) ∧ w.cell? ⟨b, 1, none⟩ = some (.int .i64 a.2) := cells2 h
theorem Two.frozen {w : World} {b : Nat} {a : Acc} (h : Two w b a) (i : Nat) : w.frozen? ⟨b, i, none⟩ = false := blk_frozen h i
theorem Two.far {w : World} {b c i : Nat} {a : Acc} {u : Value} (h : Two w b a) (hc : b ≠ c) : Two (w.setCell ⟨c, i, none⟩ u) b a := (Below.heap_setCell _ _ _ _ hc).trans h

theorem res_cell2_tmp {P : Program} {fn : Func} {p1 p2 u : Tmp} {ty t1 t2 : TypeId} {tmps : Array Value} {w : World} {g1 g2 : Nat} {c1 c2 : Array Value} {f1 f2 : Nat × Nat} {d : TypeDesc} (h : fn.results = #[.cell p1 ty, .cell p2 ty, .tmp u])
    (hp1 : tmps.getD p1 undef = .pointer (some ⟨g1, 0, none⟩)) (hp2 : tmps.getD p2 undef = .pointer (some ⟨g2, 0, none⟩)) (hb1 : w.heap[g1]? = some (.cells c1 t1 f1)) (hb2 : w.heap[g2]? = some (.cells c2 t2 f2)) (hu : P.underlying ty = some d) (hd : d.isRow = true) (hi1 : (P.info? ty).map (·.size) = some c1.size) (hi2 : (P.info? ty).map (·.size) = some c2.size) :
    (results fn tmps).run P w = .ok (.tuple #[.agg c1, .agg c2, tmps.getD u undef]) w := by
  have hp1' : tmps[p1]?.getD undef = .pointer (some ⟨g1, 0, none⟩) := by simpa using hp1
  have hp2' : tmps[p2]?.getD undef = .pointer (some ⟨g2, 0, none⟩) := by simpa using hp2
  simp only [results, h]
  simp [Sem.run_bind, Result.andThen, hp1', hp2', asAddr, load_blk hb1 hu hd hi1, load_blk hb2 hu hd hi2]

/-- Pay's variables. -/
def PayS (w W : World) (a b x y : Acc) : Prop := Two W w.heap.size a ∧ Two W (w.heap.size + 1) b ∧ Two W (w.heap.size + 1 + 1) x ∧ Two W (w.heap.size + 1 + 1 + 1) y ∧ Below w.heap.size w W
theorem PayS.below {w W W' : World} {a b x y : Acc} (h : PayS w W a b x y) (hb : Below W.heap.size W W') : PayS w W' a b x y :=
  ⟨h.1.below hb, h.2.1.below hb, h.2.2.1.below hb, h.2.2.2.1.below hb, h.2.2.2.2.trans (hb.mono h.2.2.2.2.size)⟩
theorem PayS.alloc {w W : World} {a b x y : Acc} (h : PayS w W a b x y) (o : Obj) : PayS w (W.alloc o) a b x y := h.below ((Below.refl _ W).alloc (Nat.le_refl _) _)
theorem PayS.setx {w W : World} {a b x y : Acc} (h : PayS w W a b x y) (u v : Int) : PayS w ((W.setCell ⟨w.heap.size + 1 + 1, 0, none⟩ (.int .i64 u)).setCell ⟨w.heap.size + 1 + 1, 1, none⟩ (.int .i64 v)) a b (u, v) y :=
  ⟨(h.1.far (by omega)).far (by omega), (h.2.1.far (by omega)).far (by omega), two_set h.2.2.1 _ _, (h.2.2.2.1.far (by omega)).far (by omega), (h.2.2.2.2.setCell (p := ⟨w.heap.size + 1 + 1, 0, none⟩) (by simp; omega) _).setCell (p := ⟨w.heap.size + 1 + 1, 1, none⟩) (by simp; omega) _⟩
theorem PayS.sety {w W : World} {a b x y : Acc} (h : PayS w W a b x y) (u v : Int) : PayS w ((W.setCell ⟨w.heap.size + 1 + 1 + 1, 0, none⟩ (.int .i64 u)).setCell ⟨w.heap.size + 1 + 1 + 1, 1, none⟩ (.int .i64 v)) a b x (u, v) :=
  ⟨(h.1.far (by omega)).far (by omega), (h.2.1.far (by omega)).far (by omega), (h.2.2.1.far (by omega)).far (by omega), two_set h.2.2.2.1 _ _, (h.2.2.2.2.setCell (p := ⟨w.heap.size + 1 + 1 + 1, 0, none⟩) (by simp; omega) _).setCell (p := ⟨w.heap.size + 1 + 1 + 1, 1, none⟩) (by simp; omega) _⟩

set_option maxHeartbeats 2000000 in
set_option maxRecDepth 100000 in
theorem pay_any (a b : Acc) (n : Int) (w : World) (hG : Glob w) :
    Calls Tryz.prog 112 #[accv a, accv b, .int .i64 n] w fun e w' => e = .returned (.tuple #[accv (payF a b n).1, accv (payF a b n).2.1, .int .i64 (payF a b n).2.2]) ∧ Below w.heap.size w w' := by
  obtain ⟨W, hW⟩ : ∃ W, ((((w.alloc (.cells #[.int .i64 a.1, .int .i64 a.2] 55)).alloc (.cells #[.int .i64 b.1, .int .i64 b.2] 55)).alloc (.cells #[.int .i64 0, .int .i64 0] 55)).alloc (.cells #[.int .i64 0, .int .i64 0] 55)) = W := ⟨_, rfl⟩
  have hS : PayS w W a b (0, 0) (0, 0) ∧ W.heap.size = w.heap.size + 4 := by
    rw [← hW]
    refine ⟨⟨?_, ?_, ?_, ?_, ((((Below.refl _ w).alloc (Nat.le_refl _) _).alloc (by simp) _).alloc (by simp; omega) _).alloc (by simp; omega) _⟩, by simp⟩
    all_goals
      simp only [Two, alloc_at, World.size_alloc]
      repeat (first | rw [if_pos trivial] | rw [if_pos (by omega)] | rw [if_neg (by omega)])
  obtain ⟨W2, hW2⟩ : ∃ W2, W.alloc (.cells #[.int .i64 a.1, .int .i64 a.2, .int .i64 b.1, .int .i64 b.2] 55) = W2 := ⟨_, rfl⟩
  have hS2 : PayS w W2 a b (0, 0) (0, 0) := by rw [← hW2]; exact hS.1.alloc _
  have hV : Sees W2 (.slice (some ⟨W.heap.size, 0, none⟩) 2 2) 2 2 (accs [a, b]) := Sees.of_blk (g := W.heap.size) (cs := #[.int .i64 a.1, .int .i64 a.2, .int .i64 b.1, .int .i64 b.2]) (t := 55) (fr := (0, 0)) (by rw [← hW2]; exact heap_alloc_new W _) rfl
  have hA := aare_any [a, b] 2 _ W2 rfl hV (by omega) (hG.below hS2.2.2.2.2)
  have hall : [a, b].all okAcc = (okAcc a && okAcc b) := by simp
  rw [hall] at hA
  obtain ⟨a0, a1⟩ := hS.1.1.cells
  obtain ⟨b0, b1⟩ := hS.1.2.1.cells
  have HK := Lib.hid (And.intro hS hS2)
  have HG := Lib.hid hG
  clear hS hS2 hV hall hG
  rcases hok : (okAcc a && okAcc b) with _ | _
  · have hF : payF a b n = ((0, 0), (0, 0), 130) := by simp only [payF, hok]; rfl
    have hnn : (!false) = true := rfl
    rw [hF]
    rw [hok] at hA
    unfold accv
    go_enter Tryz.func112, Tryz.ntmps112
    go_wp2_with fail
    refine hA.mono ?_
    rintro e W3 ⟨rfl, hb⟩
    have HX := Lib.hid (HK.out.2.below hb)
    clear hb a0 a1 b0 b1
    obtain ⟨a0, a1⟩ := HX.out.1.cells
    obtain ⟨b0, b1⟩ := HX.out.2.1.cells
    obtain ⟨x0, x1⟩ := HX.out.2.2.1.cells
    obtain ⟨y0, y1⟩ := HX.out.2.2.2.1.cells
    have fx := HX.out.2.2.1.frozen
    have fy := HX.out.2.2.2.1.frozen
    go_wp2
    have HE := (HX.out.setx 0 0).sety 0 0
    refine bodyPost_ret (res_cell2_tmp rfl rfl rfl HE.2.2.1 HE.2.2.2.1 Tryz.underlying55 rfl (by kernel_rfl) (by kernel_rfl)) rfl ⟨rfl, HE.2.2.2.2⟩
  · have hnn : (!true) = false := rfl
    rw [hok] at hA
    have hS := fun W h => spend_any a n W h
    have hE := fun W h => earn_any b n W h
    simp only [payF, hok]
    obtain ⟨p, hp⟩ : ∃ p, doesF spendsF a n = p := ⟨_, rfl⟩
    obtain ⟨⟨p1, p2⟩, p3⟩ := p
    obtain ⟨q, hq⟩ : ∃ q, doesF earnsF b n = q := ⟨_, rfl⟩
    obtain ⟨⟨q1, q2⟩, q3⟩ := q
    simp only [hp] at hS
    simp only [hq] at hE
    simp only [hp, hq, if_pos]
    have HS := Lib.hid hS
    have HEE := Lib.hid hE
    clear hS hE hp hq hok
    unfold accv at *
    go_enter Tryz.func112, Tryz.ntmps112
    go_wp2_with fail
    refine hA.mono ?_
    rintro e W3 ⟨rfl, hb⟩
    have HX := Lib.hid (HK.out.2.below hb)
    clear hb a0 a1 b0 b1
    obtain ⟨a0, a1⟩ := HX.out.1.cells
    obtain ⟨b0, b1⟩ := HX.out.2.1.cells
    obtain ⟨x0, x1⟩ := HX.out.2.2.1.cells
    obtain ⟨y0, y1⟩ := HX.out.2.2.2.1.cells
    have fx := HX.out.2.2.1.frozen
    have fy := HX.out.2.2.2.1.frozen
    go_wp2_with fail
    refine (HS.out _ (HG.out.below HX.out.2.2.2.2)).mono ?_
    rintro e W4 ⟨rfl, hb⟩
    have HX' := Lib.hid (HX.out.below hb)
    clear hb a0 a1 b0 b1 x0 x1 y0 y1 fx fy HX
    have HX := HX'
    clear HX'
    obtain ⟨W5, hW5⟩ : ∃ W5, W4.alloc (.cells #[.int .i64 p1, .int .i64 p2] 55) = W5 := ⟨_, rfl⟩
    obtain ⟨g, hg⟩ : ∃ g, W4.heap.size = g := ⟨_, rfl⟩
    have HY : Hid (PayS w W5 a b (0, 0) (0, 0) ∧ Two W5 g (p1, p2) ∧ w.heap.size + 1 + 1 + 1 < g) := Lib.hid (by
      rw [← hW5, ← hg]; exact ⟨HX.out.alloc _, heap_alloc_new W4 _, (Array.getElem?_eq_some_iff.1 HX.out.2.2.2.1).1⟩)
    clear HX
    have HX := Lib.hid HY.out.1
    by_cases h3 : p3 = 0
    · subst h3
      have hz : ((0 : Int) != 0) = false := rfl
      obtain ⟨a0, a1⟩ := HX.out.1.cells
      obtain ⟨b0, b1⟩ := HX.out.2.1.cells
      obtain ⟨x0, x1⟩ := HX.out.2.2.1.cells
      obtain ⟨y0, y1⟩ := HX.out.2.2.2.1.cells
      have fx := HX.out.2.2.1.frozen
      have fy := HX.out.2.2.2.1.frozen
      go_wp2_with fail
      refine (HEE.out _ (HG.out.below HX.out.2.2.2.2)).mono ?_
      rintro e W6 ⟨rfl, hb⟩
      obtain ⟨W7, hW7⟩ : ∃ W7, W6.alloc (.cells #[.int .i64 q1, .int .i64 q2] 55) = W7 := ⟨_, rfl⟩
      obtain ⟨h, hh⟩ : ∃ h, W6.heap.size = h := ⟨_, rfl⟩
      have HZ : Hid (PayS w W7 a b (0, 0) (0, 0) ∧ Two W7 g (p1, p2) ∧ Two W7 h (q1, q2) ∧ w.heap.size + 1 + 1 + 1 < g ∧ w.heap.size + 1 + 1 + 1 < h) := Lib.hid (by
        have e1 := HX.out.below hb
        have e2 := HY.out.2.1.below hb
        rw [← hW7, ← hh]; exact ⟨e1.alloc _, keep_a _ e2, heap_alloc_new W6 _, HY.out.2.2, (Array.getElem?_eq_some_iff.1 e1.2.2.2.1).1⟩)
      clear hb a0 a1 b0 b1 x0 x1 y0 y1 fx fy HX HY
      have HX := Lib.hid HZ.out.1
      by_cases h4 : q3 = 0
      · subst h4
        have hz : ((0 : Int) != 0) = false := rfl
        simp only [if_pos]
        obtain ⟨a0, a1⟩ := HX.out.1.cells
        obtain ⟨b0, b1⟩ := HX.out.2.1.cells
        obtain ⟨x0, x1⟩ := HX.out.2.2.1.cells
        obtain ⟨y0, y1⟩ := HX.out.2.2.2.1.cells
        have fx := HX.out.2.2.1.frozen
        have fy := HX.out.2.2.2.1.frozen
        obtain ⟨p0, p1'⟩ := HZ.out.2.1.cells
        obtain ⟨q0, q1'⟩ := HZ.out.2.2.1.cells
        go_wp2_with fail
        have u1 : g ≠ w.heap.size + 1 + 1 := by have := HZ.out.2.2.2.1; omega
        have u2 : g ≠ w.heap.size + 1 + 1 + 1 := by have := HZ.out.2.2.2.1; omega
        have u3 : h ≠ w.heap.size + 1 + 1 := by have := HZ.out.2.2.2.2; omega
        have u4 : h ≠ w.heap.size + 1 + 1 + 1 := by have := HZ.out.2.2.2.2; omega
        go_region
        all_goals
          go_wp2
          have HE := (HX.out.setx p1 p2).sety q1 q2
          refine bodyPost_ret (res_cell2_tmp rfl rfl rfl (blk_drew HE.2.2.1) (blk_drew HE.2.2.2.1) Tryz.underlying55 rfl (by kernel_rfl) (by kernel_rfl)) rfl ⟨rfl, Below.drew HE.2.2.2.2⟩
      · have hz : (q3 != 0) = true := by simpa using h4
        simp only [if_pos, if_neg h4]
        obtain ⟨a0, a1⟩ := HX.out.1.cells
        obtain ⟨b0, b1⟩ := HX.out.2.1.cells
        obtain ⟨x0, x1⟩ := HX.out.2.2.1.cells
        obtain ⟨y0, y1⟩ := HX.out.2.2.2.1.cells
        have fx := HX.out.2.2.1.frozen
        have fy := HX.out.2.2.2.1.frozen
        go_wp2
        have HE := (HX.out.setx 0 0).sety 0 0
        refine bodyPost_ret (res_cell2_tmp rfl rfl rfl HE.2.2.1 HE.2.2.2.1 Tryz.underlying55 rfl (by kernel_rfl) (by kernel_rfl)) rfl ⟨rfl, HE.2.2.2.2⟩
    · have hz : (p3 != 0) = true := by simpa using h3
      simp only [if_neg h3]
      obtain ⟨a0, a1⟩ := HX.out.1.cells
      obtain ⟨b0, b1⟩ := HX.out.2.1.cells
      obtain ⟨x0, x1⟩ := HX.out.2.2.1.cells
      obtain ⟨y0, y1⟩ := HX.out.2.2.2.1.cells
      have fx := HX.out.2.2.1.frozen
      have fy := HX.out.2.2.2.1.frozen
      go_wp2
      have HE := (HX.out.setx 0 0).sety 0 0
      refine bodyPost_ret (res_cell2_tmp rfl rfl rfl HE.2.2.1 HE.2.2.2.1 Tryz.underlying55 rfl (by kernel_rfl) (by kernel_rfl)) rfl ⟨rfl, HE.2.2.2.2⟩
end Go.Proofs.YtmkcbkdbdcnoiaaGreatDoor
namespace Go.Proofs.YtmkcbkdbdcnoiaaGreatDoor
open Go.RowKit
set_option linter.unusedVariables false
set_option linter.unusedSimpArgs false

/-- Blocks known whole, and what lay below as it was. -/
def Hs (w : World) (L : List (Nat × Obj)) (W : World) : Prop := Below w.heap.size w W ∧ ∀ x ∈ L, W.heap[x.1]? = some x.2
theorem Hs.below {w W W' : World} {L : List (Nat × Obj)} (h : Hs w L W) (hb : Below W.heap.size W W') : Hs w L W' := ⟨h.1.trans (hb.mono h.1.size), fun x hx => keep_b (h.2 x hx) hb⟩
theorem Hs.alloc {w W : World} {L : List (Nat × Obj)} (h : Hs w L W) (o : Obj) : Hs w L (W.alloc o) := h.below ((Below.refl _ W).alloc (Nat.le_refl _) _)
theorem Hs.drew {w W : World} {L : List (Nat × Obj)} (h : Hs w L W) : Hs w L W.drew := ⟨h.1.drew, h.2⟩
theorem Hs.cons {w W : World} {L : List (Nat × Obj)} (h : Hs w L W) {b : Nat} {o : Obj} (hb : W.heap[b]? = some o) : Hs w ((b, o) :: L) W := ⟨h.1, fun x hx => by
  rcases List.mem_cons.1 hx with rfl | hx
  · exact hb
  · exact h.2 x hx⟩
theorem Hs.at {w W : World} {L : List (Nat × Obj)} (h : Hs w L W) (b : Nat) (o : Obj) (hm : (b, o) ∈ L) : W.heap[b]? = some o := h.2 _ hm
theorem res_cell_tmp2 {P : Program} {fn : Func} {p u x : Tmp} {ty t : TypeId} {tmps : Array Value} {w : World} {g : Nat} {cs : Array Value} {fr : Nat × Nat} {d : TypeDesc} (h : fn.results = #[.cell p ty, .tmp u, .tmp x])
    (hp : tmps.getD p undef = .pointer (some ⟨g, 0, none⟩)) (hb : w.heap[g]? = some (.cells cs t fr)) (hu : P.underlying ty = some d) (hd : d.isRow = true) (hi : (P.info? ty).map (·.size) = some cs.size) :
    (results fn tmps).run P w = .ok (.tuple #[.agg cs, tmps.getD u undef, tmps.getD x undef]) w := by
  have hp' : tmps[p]?.getD undef = .pointer (some ⟨g, 0, none⟩) := by simpa using hp
  simp only [results, h]
  simp [Sem.run_bind, Result.andThen, hp', asAddr, load_blk hb hu hd hi]

/-- One of at most six listed blocks. -/
theorem hs_mem0 {x : Nat × Obj} {l : List (Nat × Obj)} : x ∈ x :: l := List.mem_cons_self
theorem hs_mem1 {x a : Nat × Obj} {l : List (Nat × Obj)} : x ∈ a :: x :: l := List.mem_cons_of_mem _ hs_mem0
theorem hs_mem2 {x a b : Nat × Obj} {l : List (Nat × Obj)} : x ∈ a :: b :: x :: l := List.mem_cons_of_mem _ hs_mem1
theorem hs_mem3 {x a b c : Nat × Obj} {l : List (Nat × Obj)} : x ∈ a :: b :: c :: x :: l := List.mem_cons_of_mem _ hs_mem2
theorem hs_mem4 {x a b c d : Nat × Obj} {l : List (Nat × Obj)} : x ∈ a :: b :: c :: d :: x :: l := List.mem_cons_of_mem _ hs_mem3
/-- What is done with a mail's coins and things. -/
def mDone (l : List Stk) (m : Ml) (X : Acc × Int) (Y : List Stk × Int) : Acc × List Stk × Int :=
  if mlRight m = true then
    if X.2 = 0 then
      if gRight l = true then
        if 0 < m.2.2.2 then (if Y.2 = 0 then (X.1, Y.1, 0) else ((0, 0), [], Y.2)) else (X.1, l, 0)
      else ((0, 0), [], 120)
    else ((0, 0), [], X.2)
  else ((0, 0), [], 140)
def MdPost (r : Acc × List Stk × Int) (w : World) (e : Ending) (w' : World) : Prop := ∃ u, e = .returned (.tuple #[accv r.1, u, .int .i64 r.2.2]) ∧ w'.ownsRow w.heap.size 62 2 u r.2.1.length (stks r.2.1) ∧ Below w.heap.size w w'

/-- A row of another type's block, and two stores elsewhere. -/
theorem own_two {W : World} {B : Nat} {t t' : TypeId} {v : Value} {n : Nat} {xs : List Value} {g : Nat} {cs : Array Value} (h : W.ownsRow B t 2 v n xs) (hg : W.heap[g]? = some (.cells cs t' (0, 0))) (hne : t ≠ t') (x y : Value) :
    ((W.setCell ⟨g, 0, none⟩ x).setCell ⟨g, 1, none⟩ y).ownsRow B t 2 v n xs := by
  refine ⟨h.1, h.2.imp id ?_⟩
  rintro ⟨g', cap, cur, hv, hb, hh, r⟩
  have hgg : g' ≠ g := by
    rintro rfl
    rw [hg] at hh
    cases hh
    exact hne rfl
  exact ⟨g', cap, cur, hv, hb, by rw [Below.heap_setCell _ _ _ _ hgg, Below.heap_setCell _ _ _ _ hgg]; exact hh, r⟩

set_option maxHeartbeats 2000000 in
set_option maxRecDepth 100000 in
theorem mdone_161 (l : List Stk) (m : Ml) (v c1 c2 c3 : Value) (w : World) (X : Acc × Int) (Y : List Stk × Int) (hv : Sees w v l.length 2 (stks l)) (hl : l.length ≤ 1000)
    (h1 : ∀ W, Below w.heap.size w W → Calls Tryz.prog 161 #[c1, c2] W fun e w' => e = .returned (.tuple #[accv X.1, .int .i64 X.2]) ∧ Below W.heap.size W w')
    (h2 : ∀ W, Below w.heap.size w W → Calls Tryz.prog 162 #[c3, c2] W fun e w' => OwnEPost Y W e w') :
    Calls Tryz.prog 160 #[v, mlv m, .func (.func 161) #[] #[c1, c2], .func (.func 162) #[] #[c3, c2]] w fun e w' => MdPost (mDone l m X Y) w e w' := by
  obtain ⟨W, hW⟩ : ∃ W, (w.alloc (.cells (mlc m) 64)).alloc (.cells #[.int .i64 0, .int .i64 0] 55) = W := ⟨_, rfl⟩
  have HC : Hid (Hs w [(w.heap.size, .cells (mlc m) 64 (0, 0)), (w.heap.size + 1, .cells #[.int .i64 0, .int .i64 0] 55 (0, 0))] W ∧ Sees W v l.length 2 (stks l) ∧ w.heap.size + 2 ≤ W.heap.size) := Lib.hid (by
    have hb : Below w.heap.size w W := by rw [← hW]; exact ((Below.refl _ w).alloc (Nat.le_refl _) _).alloc (by simp) _
    refine ⟨⟨hb, ?_⟩, hv.below hb, by rw [← hW]; simp⟩
    intro x hx
    rw [← hW]
    simp only [List.mem_cons, List.not_mem_nil, or_false] at hx
    rcases hx with rfl | rfl
    · exact keep_a _ (heap_alloc_new w _)
    · exact alloc_new2 w _ _)
  obtain ⟨base, cap, rfl⟩ := hv.shape
  generalize hL : mDone l m X Y = L
  unfold mDone at hL
  have hA := mlright_any m W
  have hG := fun W h => gright_any l l.length (.slice base l.length cap) W rfl h (by omega)
  have hCl := fun W h => gclone_any l l.length (.slice base l.length cap) W rfl h (by omega)
  obtain ⟨f, n, i, c⟩ := m
  obtain ⟨⟨a1, a2⟩, ae⟩ := X
  obtain ⟨yl, ye⟩ := Y
  unfold mlv mlc accv at *
  dsimp only at hL h1 h2 HC hW
  dsimp only
  have c0 : ∀ j, W.cell? ⟨w.heap.size, j, none⟩ = (#[.int .u32 f, .int .i64 n, .int .u16 i, .int .i64 c] : Array Value)[j]? := blk_cell (HC.out.1.at _ _ (by (first | exact hs_mem0 | exact hs_mem1 | exact hs_mem2 | exact hs_mem3 | exact hs_mem4)))
  have HK := Lib.hid (And.intro h1 (And.intro h2 hCl))
  clear h1 h2 hCl hv
  rcases hr : mlRight (f, n, i, c) with _ | _
  · rw [hr] at hA hL
    simp only [Bool.false_eq_true, if_false] at hL
    subst hL
    have HA := Lib.hid hA
    clear hA
    go_enter Tryz.func160, Tryz.ntmps160
    go_wp2_with fail
    refine HA.out.mono ?_
    rintro e W2 ⟨rfl, hb⟩
    have H2 := Lib.hid (HC.out.1.below hb)
    have d1 : ∀ j, W2.cell? ⟨w.heap.size + 1, j, none⟩ = (#[.int .i64 0, .int .i64 0] : Array Value)[j]? := blk_cell (H2.out.at _ _ (by (first | exact hs_mem0 | exact hs_mem1 | exact hs_mem2 | exact hs_mem3 | exact hs_mem4)))
    have e1 : ∀ j, W2.frozen? ⟨w.heap.size + 1, j, none⟩ = false := blk_frozen (H2.out.at _ _ (by (first | exact hs_mem0 | exact hs_mem1 | exact hs_mem2 | exact hs_mem3 | exact hs_mem4)))
    clear hb c0
    go_wp2
    refine bodyPost_ret (res_cell_tmp2 rfl rfl (two_set (H2.out.at _ _ (by (first | exact hs_mem0 | exact hs_mem1 | exact hs_mem2 | exact hs_mem3 | exact hs_mem4))) _ _) Tryz.underlying55 rfl (by kernel_rfl)) rfl ⟨_, rfl, own_nil _ _ _, ?_⟩
    exact (H2.out.1.setCell (p := ⟨w.heap.size + 1, 0, none⟩) (by simp) _).setCell (p := ⟨w.heap.size + 1, 1, none⟩) (by simp) _
  · rw [hr] at hA hL
    simp only [if_true] at hL
    have HA := Lib.hid hA
    have HL := Lib.hid hL
    clear hA hL hr
    go_enter Tryz.func160, Tryz.ntmps160
    go_wp2_with fail
    refine HA.out.mono ?_
    rintro e W2 ⟨rfl, hb⟩
    have H2 := Lib.hid (And.intro (HC.out.1.below hb) (HC.out.2.1.below hb))
    clear hb c0
    go_wp2_with fail
    refine (HK.out.1 _ H2.out.1.1).mono ?_
    rintro e W3 ⟨rfl, hb⟩
    obtain ⟨b, hbb⟩ : ∃ b, W3.heap.size = b := ⟨_, rfl⟩
    obtain ⟨W4, hW4⟩ : ∃ W4, W3.alloc (.cells #[.int .i64 a1, .int .i64 a2] 55) = W4 := ⟨_, rfl⟩
    have H4 := Lib.hid (show Hs w [(b, .cells #[.int .i64 a1, .int .i64 a2] 55 (0, 0)), (w.heap.size, .cells #[.int .u32 f, .int .i64 n, .int .u16 i, .int .i64 c] 64 (0, 0)), (w.heap.size + 1, .cells #[.int .i64 0, .int .i64 0] 55 (0, 0))] W4 ∧ Sees W4 (.slice base l.length cap) l.length 2 (stks l) ∧ w.heap.size + 2 ≤ b by
      rw [← hW4, ← hbb]
      refine ⟨((H2.out.1.below hb).alloc _).cons (heap_alloc_new W3 _), (H2.out.2.below hb).alloc _, ?_⟩
      have := (Array.getElem?_eq_some_iff.1 ((H2.out.1.below hb).at (w.heap.size + 1) _ (by (first | exact hs_mem0 | exact hs_mem1 | exact hs_mem2 | exact hs_mem3 | exact hs_mem4)))).1
      omega)
    clear hb hW
    by_cases h0 : ae = 0
    · subst h0
      have hg := hG W4 H4.out.2.1
      rcases hgr : gRight l with _ | _
      · rw [hgr] at hg
        have hE := HL.out
        rw [hgr] at hE
        simp only [if_true, Bool.false_eq_true, if_false] at hE
        subst hE
        have HG := Lib.hid hg
        clear hg
        go_wp2_with fail
        refine HG.out.mono ?_
        rintro e W5 ⟨rfl, hb⟩
        have H5 := Lib.hid (And.intro (H4.out.1.below hb) (H4.out.2.1.below hb))
        clear hb hW4 hbb
        go_wp2_with fail
        refine (HK.out.2.2 _ H5.out.2).mono ?_
        rintro e W6 ⟨u, rfl, hu, hb⟩
        have H6 := Lib.hid (And.intro (H5.out.1.below hb) hu)
        have d1 : ∀ j, W6.cell? ⟨w.heap.size + 1, j, none⟩ = (#[.int .i64 0, .int .i64 0] : Array Value)[j]? := blk_cell (H6.out.1.at _ _ (by (first | exact hs_mem0 | exact hs_mem1 | exact hs_mem2 | exact hs_mem3 | exact hs_mem4)))
        have e1 : ∀ j, W6.frozen? ⟨w.heap.size + 1, j, none⟩ = false := blk_frozen (H6.out.1.at _ _ (by (first | exact hs_mem0 | exact hs_mem1 | exact hs_mem2 | exact hs_mem3 | exact hs_mem4)))
        clear hb hu
        go_wp2
        refine bodyPost_ret (res_cell_tmp2 rfl rfl (two_set (H6.out.1.at _ _ (by (first | exact hs_mem0 | exact hs_mem1 | exact hs_mem2 | exact hs_mem3 | exact hs_mem4))) _ _) Tryz.underlying55 rfl (by kernel_rfl)) rfl ⟨_, rfl, own_nil _ _ _, ?_⟩
        exact (H6.out.1.1.setCell (p := ⟨w.heap.size + 1, 0, none⟩) (by simp) _).setCell (p := ⟨w.heap.size + 1, 1, none⟩) (by simp) _
      · rw [hgr] at hg
        have hE := HL.out
        rw [hgr] at hE
        simp only [if_true] at hE
        have HE := Lib.hid hE
        have HG := Lib.hid hg
        clear hg hE HL
        go_wp2_with fail
        refine HG.out.mono ?_
        rintro e W5 ⟨rfl, hb⟩
        have H5 := Lib.hid (And.intro (H4.out.1.below hb) (H4.out.2.1.below hb))
        clear hb hW4 hbb
        go_wp2_with fail
        refine (HK.out.2.2 _ H5.out.2).mono ?_
        rintro e W6 ⟨u, rfl, hu, hb⟩
        have H6 := Lib.hid (And.intro (H5.out.1.below hb) (ownsRow_base hu H5.out.1.1.size))
        have d0 : ∀ j, W6.cell? ⟨w.heap.size, j, none⟩ = (#[.int .u32 f, .int .i64 n, .int .u16 i, .int .i64 c] : Array Value)[j]? := blk_cell (H6.out.1.at _ _ (by (first | exact hs_mem0 | exact hs_mem1 | exact hs_mem2 | exact hs_mem3 | exact hs_mem4)))
        have d1 : ∀ j, W6.cell? ⟨w.heap.size + 1, j, none⟩ = (#[.int .i64 0, .int .i64 0] : Array Value)[j]? := blk_cell (H6.out.1.at _ _ (by (first | exact hs_mem0 | exact hs_mem1 | exact hs_mem2 | exact hs_mem3 | exact hs_mem4)))
        have d2 : ∀ j, W6.cell? ⟨b, j, none⟩ = (#[.int .i64 a1, .int .i64 a2] : Array Value)[j]? := blk_cell (H6.out.1.at _ _ (by (first | exact hs_mem0 | exact hs_mem1 | exact hs_mem2 | exact hs_mem3 | exact hs_mem4)))
        have e1 : ∀ j, W6.frozen? ⟨w.heap.size + 1, j, none⟩ = false := blk_frozen (H6.out.1.at _ _ (by (first | exact hs_mem0 | exact hs_mem1 | exact hs_mem2 | exact hs_mem3 | exact hs_mem4)))
        clear hb hu
        have hE := HE.out
        by_cases hc : 0 < c
        · have hc' : decide (0 < c) = true := by simpa using hc
          rw [if_pos hc] at hE
          have HE2 := Lib.hid hE
          clear hE HE
          go_wp2_with fail
          refine (HK.out.2.1 _ H6.out.1.1).mono ?_
          rintro e W7 ⟨u2, rfl, hu, hb⟩
          have H7 := Lib.hid (And.intro (H6.out.1.below hb) (ownsRow_base hu H6.out.1.1.size))
          clear hb hu d0 d1 d2 e1
          have d1 : ∀ j, W7.cell? ⟨w.heap.size + 1, j, none⟩ = (#[.int .i64 0, .int .i64 0] : Array Value)[j]? := blk_cell (H7.out.1.at _ _ (by (first | exact hs_mem0 | exact hs_mem1 | exact hs_mem2 | exact hs_mem3 | exact hs_mem4)))
          have d2 : ∀ j, W7.cell? ⟨b, j, none⟩ = (#[.int .i64 a1, .int .i64 a2] : Array Value)[j]? := blk_cell (H7.out.1.at _ _ (by (first | exact hs_mem0 | exact hs_mem1 | exact hs_mem2 | exact hs_mem3 | exact hs_mem4)))
          have e1 : ∀ j, W7.frozen? ⟨w.heap.size + 1, j, none⟩ = false := blk_frozen (H7.out.1.at _ _ (by (first | exact hs_mem0 | exact hs_mem1 | exact hs_mem2 | exact hs_mem3 | exact hs_mem4)))
          have hE := HE2.out
          by_cases hy : ye = 0
          · subst hy
            rw [if_pos rfl] at hE
            subst hE
            go_wp2
            have hb7 := (H7.out.1.1.setCell (p := ⟨w.heap.size + 1, 0, none⟩) (by simp) (.int .i64 a1)).setCell (p := ⟨w.heap.size + 1, 1, none⟩) (by simp) (.int .i64 a2)
            refine bodyPost_ret (res_cell_tmp2 rfl rfl (two_set (H7.out.1.at _ _ (by (first | exact hs_mem0 | exact hs_mem1 | exact hs_mem2 | exact hs_mem3 | exact hs_mem4))) _ _) Tryz.underlying55 rfl (by kernel_rfl)) rfl ⟨_, rfl, own_two H7.out.2 (H7.out.1.at (w.heap.size + 1) _ (by (first | exact hs_mem0 | exact hs_mem1 | exact hs_mem2 | exact hs_mem3 | exact hs_mem4))) (by decide) _ _, hb7⟩
          · have hy' : (ye != 0) = true := by simpa using hy
            rw [if_neg hy] at hE
            subst hE
            go_wp2
            have hb7 := (H7.out.1.1.setCell (p := ⟨w.heap.size + 1, 0, none⟩) (by simp) (.int .i64 0)).setCell (p := ⟨w.heap.size + 1, 1, none⟩) (by simp) (.int .i64 0)
            refine bodyPost_ret (res_cell_tmp2 rfl rfl (two_set (H7.out.1.at _ _ (by (first | exact hs_mem0 | exact hs_mem1 | exact hs_mem2 | exact hs_mem3 | exact hs_mem4))) _ _) Tryz.underlying55 rfl (by kernel_rfl)) rfl ⟨_, rfl, own_nil _ _ _, hb7⟩
        · have hc' : decide (0 < c) = false := by simpa using hc
          rw [if_neg hc] at hE
          subst hE
          go_wp2
          have hb7 := (H6.out.1.1.setCell (p := ⟨w.heap.size + 1, 0, none⟩) (by simp) (.int .i64 a1)).setCell (p := ⟨w.heap.size + 1, 1, none⟩) (by simp) (.int .i64 a2)
          refine bodyPost_ret (res_cell_tmp2 rfl rfl (two_set (H6.out.1.at _ _ (by (first | exact hs_mem0 | exact hs_mem1 | exact hs_mem2 | exact hs_mem3 | exact hs_mem4))) _ _) Tryz.underlying55 rfl (by kernel_rfl)) rfl ⟨_, rfl, own_two H6.out.2 (H6.out.1.at (w.heap.size + 1) _ (by (first | exact hs_mem0 | exact hs_mem1 | exact hs_mem2 | exact hs_mem3 | exact hs_mem4))) (by decide) _ _, hb7⟩
    · have h0' : (ae == 0) = false := by simpa using h0
      have h0'' : (ae != 0) = true := by simpa using h0
      have hE := HL.out
      rw [if_neg h0] at hE
      subst hE
      go_wp2_with fail
      refine (HK.out.2.2 _ H4.out.2.1).mono ?_
      rintro e W6 ⟨u, rfl, hu, hb⟩
      have H6 := Lib.hid (H4.out.1.below hb)
      have d1 : ∀ j, W6.cell? ⟨w.heap.size + 1, j, none⟩ = (#[.int .i64 0, .int .i64 0] : Array Value)[j]? := blk_cell (H6.out.at _ _ (by (first | exact hs_mem0 | exact hs_mem1 | exact hs_mem2 | exact hs_mem3 | exact hs_mem4)))
      have e1 : ∀ j, W6.frozen? ⟨w.heap.size + 1, j, none⟩ = false := blk_frozen (H6.out.at _ _ (by (first | exact hs_mem0 | exact hs_mem1 | exact hs_mem2 | exact hs_mem3 | exact hs_mem4)))
      clear hb hu hW4 hbb
      go_wp2
      refine bodyPost_ret (res_cell_tmp2 rfl rfl (two_set (H6.out.at _ _ (by (first | exact hs_mem0 | exact hs_mem1 | exact hs_mem2 | exact hs_mem3 | exact hs_mem4))) _ _) Tryz.underlying55 rfl (by kernel_rfl)) rfl ⟨_, rfl, own_nil _ _ _, ?_⟩
      exact (H6.out.1.setCell (p := ⟨w.heap.size + 1, 0, none⟩) (by simp) _).setCell (p := ⟨w.heap.size + 1, 1, none⟩) (by simp) _

set_option maxHeartbeats 2000000 in
set_option maxRecDepth 100000 in
theorem mdone_166 (l : List Stk) (m : Ml) (v c1 c2 c3 : Value) (w : World) (X : Acc × Int) (Y : List Stk × Int) (hv : Sees w v l.length 2 (stks l)) (hl : l.length ≤ 1000)
    (h1 : ∀ W, Below w.heap.size w W → Calls Tryz.prog 166 #[c1, c2] W fun e w' => e = .returned (.tuple #[accv X.1, .int .i64 X.2]) ∧ Below W.heap.size W w')
    (h2 : ∀ W, Below w.heap.size w W → Calls Tryz.prog 167 #[c3, c2] W fun e w' => OwnEPost Y W e w') :
    Calls Tryz.prog 160 #[v, mlv m, .func (.func 166) #[] #[c1, c2], .func (.func 167) #[] #[c3, c2]] w fun e w' => MdPost (mDone l m X Y) w e w' := by
  obtain ⟨W, hW⟩ : ∃ W, (w.alloc (.cells (mlc m) 64)).alloc (.cells #[.int .i64 0, .int .i64 0] 55) = W := ⟨_, rfl⟩
  have HC : Hid (Hs w [(w.heap.size, .cells (mlc m) 64 (0, 0)), (w.heap.size + 1, .cells #[.int .i64 0, .int .i64 0] 55 (0, 0))] W ∧ Sees W v l.length 2 (stks l) ∧ w.heap.size + 2 ≤ W.heap.size) := Lib.hid (by
    have hb : Below w.heap.size w W := by rw [← hW]; exact ((Below.refl _ w).alloc (Nat.le_refl _) _).alloc (by simp) _
    refine ⟨⟨hb, ?_⟩, hv.below hb, by rw [← hW]; simp⟩
    intro x hx
    rw [← hW]
    simp only [List.mem_cons, List.not_mem_nil, or_false] at hx
    rcases hx with rfl | rfl
    · exact keep_a _ (heap_alloc_new w _)
    · exact alloc_new2 w _ _)
  obtain ⟨base, cap, rfl⟩ := hv.shape
  generalize hL : mDone l m X Y = L
  unfold mDone at hL
  have hA := mlright_any m W
  have hG := fun W h => gright_any l l.length (.slice base l.length cap) W rfl h (by omega)
  have hCl := fun W h => gclone_any l l.length (.slice base l.length cap) W rfl h (by omega)
  obtain ⟨f, n, i, c⟩ := m
  obtain ⟨⟨a1, a2⟩, ae⟩ := X
  obtain ⟨yl, ye⟩ := Y
  unfold mlv mlc accv at *
  dsimp only at hL h1 h2 HC hW
  dsimp only
  have c0 : ∀ j, W.cell? ⟨w.heap.size, j, none⟩ = (#[.int .u32 f, .int .i64 n, .int .u16 i, .int .i64 c] : Array Value)[j]? := blk_cell (HC.out.1.at _ _ (by (first | exact hs_mem0 | exact hs_mem1 | exact hs_mem2 | exact hs_mem3 | exact hs_mem4)))
  have HK := Lib.hid (And.intro h1 (And.intro h2 hCl))
  clear h1 h2 hCl hv
  rcases hr : mlRight (f, n, i, c) with _ | _
  · rw [hr] at hA hL
    simp only [Bool.false_eq_true, if_false] at hL
    subst hL
    have HA := Lib.hid hA
    clear hA
    go_enter Tryz.func160, Tryz.ntmps160
    go_wp2_with fail
    refine HA.out.mono ?_
    rintro e W2 ⟨rfl, hb⟩
    have H2 := Lib.hid (HC.out.1.below hb)
    have d1 : ∀ j, W2.cell? ⟨w.heap.size + 1, j, none⟩ = (#[.int .i64 0, .int .i64 0] : Array Value)[j]? := blk_cell (H2.out.at _ _ (by (first | exact hs_mem0 | exact hs_mem1 | exact hs_mem2 | exact hs_mem3 | exact hs_mem4)))
    have e1 : ∀ j, W2.frozen? ⟨w.heap.size + 1, j, none⟩ = false := blk_frozen (H2.out.at _ _ (by (first | exact hs_mem0 | exact hs_mem1 | exact hs_mem2 | exact hs_mem3 | exact hs_mem4)))
    clear hb c0
    go_wp2
    refine bodyPost_ret (res_cell_tmp2 rfl rfl (two_set (H2.out.at _ _ (by (first | exact hs_mem0 | exact hs_mem1 | exact hs_mem2 | exact hs_mem3 | exact hs_mem4))) _ _) Tryz.underlying55 rfl (by kernel_rfl)) rfl ⟨_, rfl, own_nil _ _ _, ?_⟩
    exact (H2.out.1.setCell (p := ⟨w.heap.size + 1, 0, none⟩) (by simp) _).setCell (p := ⟨w.heap.size + 1, 1, none⟩) (by simp) _
  · rw [hr] at hA hL
    simp only [if_true] at hL
    have HA := Lib.hid hA
    have HL := Lib.hid hL
    clear hA hL hr
    go_enter Tryz.func160, Tryz.ntmps160
    go_wp2_with fail
    refine HA.out.mono ?_
    rintro e W2 ⟨rfl, hb⟩
    have H2 := Lib.hid (And.intro (HC.out.1.below hb) (HC.out.2.1.below hb))
    clear hb c0
    go_wp2_with fail
    refine (HK.out.1 _ H2.out.1.1).mono ?_
    rintro e W3 ⟨rfl, hb⟩
    obtain ⟨b, hbb⟩ : ∃ b, W3.heap.size = b := ⟨_, rfl⟩
    obtain ⟨W4, hW4⟩ : ∃ W4, W3.alloc (.cells #[.int .i64 a1, .int .i64 a2] 55) = W4 := ⟨_, rfl⟩
    have H4 := Lib.hid (show Hs w [(b, .cells #[.int .i64 a1, .int .i64 a2] 55 (0, 0)), (w.heap.size, .cells #[.int .u32 f, .int .i64 n, .int .u16 i, .int .i64 c] 64 (0, 0)), (w.heap.size + 1, .cells #[.int .i64 0, .int .i64 0] 55 (0, 0))] W4 ∧ Sees W4 (.slice base l.length cap) l.length 2 (stks l) ∧ w.heap.size + 2 ≤ b by
      rw [← hW4, ← hbb]
      refine ⟨((H2.out.1.below hb).alloc _).cons (heap_alloc_new W3 _), (H2.out.2.below hb).alloc _, ?_⟩
      have := (Array.getElem?_eq_some_iff.1 ((H2.out.1.below hb).at (w.heap.size + 1) _ (by (first | exact hs_mem0 | exact hs_mem1 | exact hs_mem2 | exact hs_mem3 | exact hs_mem4)))).1
      omega)
    clear hb hW
    by_cases h0 : ae = 0
    · subst h0
      have hg := hG W4 H4.out.2.1
      rcases hgr : gRight l with _ | _
      · rw [hgr] at hg
        have hE := HL.out
        rw [hgr] at hE
        simp only [if_true, Bool.false_eq_true, if_false] at hE
        subst hE
        have HG := Lib.hid hg
        clear hg
        go_wp2_with fail
        refine HG.out.mono ?_
        rintro e W5 ⟨rfl, hb⟩
        have H5 := Lib.hid (And.intro (H4.out.1.below hb) (H4.out.2.1.below hb))
        clear hb hW4 hbb
        go_wp2_with fail
        refine (HK.out.2.2 _ H5.out.2).mono ?_
        rintro e W6 ⟨u, rfl, hu, hb⟩
        have H6 := Lib.hid (And.intro (H5.out.1.below hb) hu)
        have d1 : ∀ j, W6.cell? ⟨w.heap.size + 1, j, none⟩ = (#[.int .i64 0, .int .i64 0] : Array Value)[j]? := blk_cell (H6.out.1.at _ _ (by (first | exact hs_mem0 | exact hs_mem1 | exact hs_mem2 | exact hs_mem3 | exact hs_mem4)))
        have e1 : ∀ j, W6.frozen? ⟨w.heap.size + 1, j, none⟩ = false := blk_frozen (H6.out.1.at _ _ (by (first | exact hs_mem0 | exact hs_mem1 | exact hs_mem2 | exact hs_mem3 | exact hs_mem4)))
        clear hb hu
        go_wp2
        refine bodyPost_ret (res_cell_tmp2 rfl rfl (two_set (H6.out.1.at _ _ (by (first | exact hs_mem0 | exact hs_mem1 | exact hs_mem2 | exact hs_mem3 | exact hs_mem4))) _ _) Tryz.underlying55 rfl (by kernel_rfl)) rfl ⟨_, rfl, own_nil _ _ _, ?_⟩
        exact (H6.out.1.1.setCell (p := ⟨w.heap.size + 1, 0, none⟩) (by simp) _).setCell (p := ⟨w.heap.size + 1, 1, none⟩) (by simp) _
      · rw [hgr] at hg
        have hE := HL.out
        rw [hgr] at hE
        simp only [if_true] at hE
        have HE := Lib.hid hE
        have HG := Lib.hid hg
        clear hg hE HL
        go_wp2_with fail
        refine HG.out.mono ?_
        rintro e W5 ⟨rfl, hb⟩
        have H5 := Lib.hid (And.intro (H4.out.1.below hb) (H4.out.2.1.below hb))
        clear hb hW4 hbb
        go_wp2_with fail
        refine (HK.out.2.2 _ H5.out.2).mono ?_
        rintro e W6 ⟨u, rfl, hu, hb⟩
        have H6 := Lib.hid (And.intro (H5.out.1.below hb) (ownsRow_base hu H5.out.1.1.size))
        have d0 : ∀ j, W6.cell? ⟨w.heap.size, j, none⟩ = (#[.int .u32 f, .int .i64 n, .int .u16 i, .int .i64 c] : Array Value)[j]? := blk_cell (H6.out.1.at _ _ (by (first | exact hs_mem0 | exact hs_mem1 | exact hs_mem2 | exact hs_mem3 | exact hs_mem4)))
        have d1 : ∀ j, W6.cell? ⟨w.heap.size + 1, j, none⟩ = (#[.int .i64 0, .int .i64 0] : Array Value)[j]? := blk_cell (H6.out.1.at _ _ (by (first | exact hs_mem0 | exact hs_mem1 | exact hs_mem2 | exact hs_mem3 | exact hs_mem4)))
        have d2 : ∀ j, W6.cell? ⟨b, j, none⟩ = (#[.int .i64 a1, .int .i64 a2] : Array Value)[j]? := blk_cell (H6.out.1.at _ _ (by (first | exact hs_mem0 | exact hs_mem1 | exact hs_mem2 | exact hs_mem3 | exact hs_mem4)))
        have e1 : ∀ j, W6.frozen? ⟨w.heap.size + 1, j, none⟩ = false := blk_frozen (H6.out.1.at _ _ (by (first | exact hs_mem0 | exact hs_mem1 | exact hs_mem2 | exact hs_mem3 | exact hs_mem4)))
        clear hb hu
        have hE := HE.out
        by_cases hc : 0 < c
        · have hc' : decide (0 < c) = true := by simpa using hc
          rw [if_pos hc] at hE
          have HE2 := Lib.hid hE
          clear hE HE
          go_wp2_with fail
          refine (HK.out.2.1 _ H6.out.1.1).mono ?_
          rintro e W7 ⟨u2, rfl, hu, hb⟩
          have H7 := Lib.hid (And.intro (H6.out.1.below hb) (ownsRow_base hu H6.out.1.1.size))
          clear hb hu d0 d1 d2 e1
          have d1 : ∀ j, W7.cell? ⟨w.heap.size + 1, j, none⟩ = (#[.int .i64 0, .int .i64 0] : Array Value)[j]? := blk_cell (H7.out.1.at _ _ (by (first | exact hs_mem0 | exact hs_mem1 | exact hs_mem2 | exact hs_mem3 | exact hs_mem4)))
          have d2 : ∀ j, W7.cell? ⟨b, j, none⟩ = (#[.int .i64 a1, .int .i64 a2] : Array Value)[j]? := blk_cell (H7.out.1.at _ _ (by (first | exact hs_mem0 | exact hs_mem1 | exact hs_mem2 | exact hs_mem3 | exact hs_mem4)))
          have e1 : ∀ j, W7.frozen? ⟨w.heap.size + 1, j, none⟩ = false := blk_frozen (H7.out.1.at _ _ (by (first | exact hs_mem0 | exact hs_mem1 | exact hs_mem2 | exact hs_mem3 | exact hs_mem4)))
          have hE := HE2.out
          by_cases hy : ye = 0
          · subst hy
            rw [if_pos rfl] at hE
            subst hE
            go_wp2
            have hb7 := (H7.out.1.1.setCell (p := ⟨w.heap.size + 1, 0, none⟩) (by simp) (.int .i64 a1)).setCell (p := ⟨w.heap.size + 1, 1, none⟩) (by simp) (.int .i64 a2)
            refine bodyPost_ret (res_cell_tmp2 rfl rfl (two_set (H7.out.1.at _ _ (by (first | exact hs_mem0 | exact hs_mem1 | exact hs_mem2 | exact hs_mem3 | exact hs_mem4))) _ _) Tryz.underlying55 rfl (by kernel_rfl)) rfl ⟨_, rfl, own_two H7.out.2 (H7.out.1.at (w.heap.size + 1) _ (by (first | exact hs_mem0 | exact hs_mem1 | exact hs_mem2 | exact hs_mem3 | exact hs_mem4))) (by decide) _ _, hb7⟩
          · have hy' : (ye != 0) = true := by simpa using hy
            rw [if_neg hy] at hE
            subst hE
            go_wp2
            have hb7 := (H7.out.1.1.setCell (p := ⟨w.heap.size + 1, 0, none⟩) (by simp) (.int .i64 0)).setCell (p := ⟨w.heap.size + 1, 1, none⟩) (by simp) (.int .i64 0)
            refine bodyPost_ret (res_cell_tmp2 rfl rfl (two_set (H7.out.1.at _ _ (by (first | exact hs_mem0 | exact hs_mem1 | exact hs_mem2 | exact hs_mem3 | exact hs_mem4))) _ _) Tryz.underlying55 rfl (by kernel_rfl)) rfl ⟨_, rfl, own_nil _ _ _, hb7⟩
        · have hc' : decide (0 < c) = false := by simpa using hc
          rw [if_neg hc] at hE
          subst hE
          go_wp2
          have hb7 := (H6.out.1.1.setCell (p := ⟨w.heap.size + 1, 0, none⟩) (by simp) (.int .i64 a1)).setCell (p := ⟨w.heap.size + 1, 1, none⟩) (by simp) (.int .i64 a2)
          refine bodyPost_ret (res_cell_tmp2 rfl rfl (two_set (H6.out.1.at _ _ (by (first | exact hs_mem0 | exact hs_mem1 | exact hs_mem2 | exact hs_mem3 | exact hs_mem4))) _ _) Tryz.underlying55 rfl (by kernel_rfl)) rfl ⟨_, rfl, own_two H6.out.2 (H6.out.1.at (w.heap.size + 1) _ (by (first | exact hs_mem0 | exact hs_mem1 | exact hs_mem2 | exact hs_mem3 | exact hs_mem4))) (by decide) _ _, hb7⟩
    · have h0' : (ae == 0) = false := by simpa using h0
      have h0'' : (ae != 0) = true := by simpa using h0
      have hE := HL.out
      rw [if_neg h0] at hE
      subst hE
      go_wp2_with fail
      refine (HK.out.2.2 _ H4.out.2.1).mono ?_
      rintro e W6 ⟨u, rfl, hu, hb⟩
      have H6 := Lib.hid (H4.out.1.below hb)
      have d1 : ∀ j, W6.cell? ⟨w.heap.size + 1, j, none⟩ = (#[.int .i64 0, .int .i64 0] : Array Value)[j]? := blk_cell (H6.out.at _ _ (by (first | exact hs_mem0 | exact hs_mem1 | exact hs_mem2 | exact hs_mem3 | exact hs_mem4)))
      have e1 : ∀ j, W6.frozen? ⟨w.heap.size + 1, j, none⟩ = false := blk_frozen (H6.out.at _ _ (by (first | exact hs_mem0 | exact hs_mem1 | exact hs_mem2 | exact hs_mem3 | exact hs_mem4)))
      clear hb hu hW4 hbb
      go_wp2
      refine bodyPost_ret (res_cell_tmp2 rfl rfl (two_set (H6.out.at _ _ (by (first | exact hs_mem0 | exact hs_mem1 | exact hs_mem2 | exact hs_mem3 | exact hs_mem4))) _ _) Tryz.underlying55 rfl (by kernel_rfl)) rfl ⟨_, rfl, own_nil _ _ _, ?_⟩
      exact (H6.out.1.setCell (p := ⟨w.heap.size + 1, 0, none⟩) (by simp) _).setCell (p := ⟨w.heap.size + 1, 1, none⟩) (by simp) _

end Go.Proofs.YtmkcbkdbdcnoiaaGreatDoor
namespace Go.Proofs.YtmkcbkdbdcnoiaaGreatDoor
open Go.RowKit
set_option linter.unusedVariables false
set_option linter.unusedSimpArgs false

/-- What Send answers. -/
def mSend (a : Acc) (l : List Stk) (m : Ml) : Acc × List Stk × Int := mDone l m (doesF spendsF a m.2.1) (gTake l (m.2.2.1, m.2.2.2))
set_option maxHeartbeats 1000000 in
set_option maxRecDepth 100000 in
theorem clo_161 (a : Acc) (m : Ml) (b1 b2 : Nat) (w : World) (h1 : w.heap[b1]? = some (.cells #[.int .i64 a.1, .int .i64 a.2] 55 (0, 0))) (h2 : w.heap[b2]? = some (.cells (mlc m) 64 (0, 0))) (hG : Glob w) :
    Calls Tryz.prog 161 #[.pointer (some ⟨b1, 0, none⟩), .pointer (some ⟨b2, 0, none⟩)] w fun e w' => e = .returned (.tuple #[accv (doesF spendsF a m.2.1).1, .int .i64 (doesF spendsF a m.2.1).2]) ∧ Below w.heap.size w w' := by
  obtain ⟨W, hW⟩ : ∃ W, w.alloc (.cells #[.int .i64 0, .int .i64 0] 55) = W := ⟨_, rfl⟩
  have hb0 : Below w.heap.size w W := hW ▸ (Below.refl _ w).alloc (Nat.le_refl _) _
  have HB := Lib.hid (show Hs w [(w.heap.size, .cells #[.int .i64 0, .int .i64 0] 55 (0, 0))] W from ⟨hb0, fun x hx => by simp only [List.mem_cons, List.not_mem_nil, or_false] at hx; subst hx; rw [← hW]; exact heap_alloc_new w _⟩)
  have hD := spend_any a m.2.1 W (hG.below hb0)
  obtain ⟨f, n, i, c⟩ := m
  obtain ⟨a1, a2⟩ := a
  dsimp only at hD h1 ⊢
  generalize doesF spendsF (a1, a2) n = F at hD ⊢
  obtain ⟨⟨f1, f2⟩, f3⟩ := F
  unfold accv mlc at *
  have c1 : ∀ j, W.cell? ⟨b1, j, none⟩ = (#[.int .i64 a1, .int .i64 a2] : Array Value)[j]? := blk_cell (keep_b h1 hb0)
  have c2 : ∀ j, W.cell? ⟨b2, j, none⟩ = (#[.int .u32 f, .int .i64 n, .int .u16 i, .int .i64 c] : Array Value)[j]? := blk_cell (keep_b h2 hb0)
  have HD := Lib.hid hD
  clear hD h1 h2 hG hb0
  go_enter Tryz.func161, Tryz.ntmps161
  go_wp2_with fail
  refine HD.out.mono ?_
  rintro e W2 ⟨rfl, hb⟩
  have H2 := Lib.hid (HB.out.below hb)
  clear hb c1 c2 hW
  have d1 : ∀ j, W2.cell? ⟨w.heap.size, j, none⟩ = (#[.int .i64 0, .int .i64 0] : Array Value)[j]? := blk_cell (H2.out.at _ _ (by (first | exact hs_mem0 | exact hs_mem1 | exact hs_mem2 | exact hs_mem3 | exact hs_mem4)))
  have e1 : ∀ j, W2.frozen? ⟨w.heap.size, j, none⟩ = false := blk_frozen (H2.out.at _ _ (by (first | exact hs_mem0 | exact hs_mem1 | exact hs_mem2 | exact hs_mem3 | exact hs_mem4)))
  go_wp2
  refine bodyPost_ret (res_cell_tmp rfl rfl (two_set (H2.out.at _ _ (by (first | exact hs_mem0 | exact hs_mem1 | exact hs_mem2 | exact hs_mem3 | exact hs_mem4))) _ _) Tryz.underlying55 rfl (by kernel_rfl)) rfl ⟨rfl, ?_⟩
  exact (H2.out.1.setCell (p := ⟨w.heap.size, 0, none⟩) (by simp) _).setCell (p := ⟨w.heap.size, 1, none⟩) (by simp) _

set_option maxHeartbeats 1000000 in
set_option maxRecDepth 100000 in
theorem clo_162 (l : List Stk) (v : Value) (m : Ml) (b1 b2 : Nat) (w : World) (h1 : w.heap[b1]? = some (.cells #[v] 119 (0, 0))) (h2 : w.heap[b2]? = some (.cells (mlc m) 64 (0, 0))) (hv : Sees w v l.length 2 (stks l)) (hl : l.length ≤ 1000) (hG : Glob w) :
    Calls Tryz.prog 162 #[.pointer (some ⟨b1, 0, none⟩), .pointer (some ⟨b2, 0, none⟩)] w fun e w' => OwnEPost (gTake l (m.2.2.1, m.2.2.2)) w e w' := by
  have hD := take_any l (m.2.2.1, m.2.2.2) v w hv hl hG
  obtain ⟨base, cap, rfl⟩ := hv.shape
  obtain ⟨f, n, i, c⟩ := m
  dsimp only at hD ⊢
  generalize gTake l (i, c) = F at hD ⊢
  obtain ⟨x, xe⟩ := F
  unfold stkv at hD
  unfold mlc at *
  have c1 : ∀ j, w.cell? ⟨b1, j, none⟩ = (#[.slice base l.length cap] : Array Value)[j]? := blk_cell h1
  have c2 : ∀ j, w.cell? ⟨b2, j, none⟩ = (#[.int .u32 f, .int .i64 n, .int .u16 i, .int .i64 c] : Array Value)[j]? := blk_cell h2
  have HD := Lib.hid hD
  clear hD h1 h2 hG hv
  go_enter Tryz.func162, Tryz.ntmps162
  go_wp2_with fail
  refine HD.out.mono ?_
  rintro e W2 ⟨u, rfl, hu, hb⟩
  have HU := Lib.hid (And.intro hu hb)
  clear hb c1 c2 hu
  go_wp2
  go_ret2
  exact ⟨_, rfl, HU.out.1, HU.out.2⟩

set_option maxHeartbeats 2000000 in
set_option maxRecDepth 100000 in
theorem mailSend_any (a : Acc) (l : List Stk) (m : Ml) (v : Value) (w : World) (hv : Sees w v l.length 2 (stks l)) (hl : l.length ≤ 1000) (hG : Glob w) :
    Calls Tryz.prog 116 #[accv a, v, mlv m] w fun e w' => MdPost (mSend a l m) w e w' := by
  obtain ⟨W, hW⟩ : ∃ W, (((w.alloc (.cells #[.int .i64 a.1, .int .i64 a.2] 55)).alloc (.cells #[v] 119)).alloc (.cells (mlc m) 64)).alloc (.cells #[.int .i64 0, .int .i64 0] 55) = W := ⟨_, rfl⟩
  have HB : Hid (Hs w [(w.heap.size, .cells #[.int .i64 a.1, .int .i64 a.2] 55 (0, 0)), (w.heap.size + 1, .cells #[v] 119 (0, 0)), (w.heap.size + 1 + 1, .cells (mlc m) 64 (0, 0)), (w.heap.size + 1 + 1 + 1, .cells #[.int .i64 0, .int .i64 0] 55 (0, 0))] W) := Lib.hid (by
    rw [← hW]
    refine ⟨(((((Below.refl _ w).alloc (Nat.le_refl _) _).alloc (by simp) _).alloc (by simp; omega) _).alloc (by simp; omega) _), ?_⟩
    intro x hx
    simp only [List.mem_cons, List.not_mem_nil, or_false] at hx
    rcases hx with rfl | rfl | rfl | rfl
    · exact keep_a _ (keep_a _ (keep_a _ (heap_alloc_new w _)))
    · exact keep_a _ (keep_a _ (alloc_new2 w _ _))
    · exact keep_a _ (by have := alloc_new2 (w.alloc (.cells #[.int .i64 a.1, .int .i64 a.2] 55)) (.cells #[v] 119) (.cells (mlc m) 64); simpa using this)
    · have := alloc_new2 ((w.alloc (.cells #[.int .i64 a.1, .int .i64 a.2] 55)).alloc (.cells #[v] 119)) (.cells (mlc m) 64) (.cells #[.int .i64 0, .int .i64 0] 55)
      simpa using this)
  have hmf : ∀ (fn : Fn) (first cap : Array Value) (w : World), (Instr.makeFunc fn first cap).run Tryz.prog w = .ok (.func fn first cap) w := fun _ _ _ _ => rfl
  have hD := mdone_161 l m v (.pointer (some ⟨w.heap.size, 0, none⟩)) (.pointer (some ⟨w.heap.size + 1 + 1, 0, none⟩)) (.pointer (some ⟨w.heap.size + 1, 0, none⟩)) W (doesF spendsF a m.2.1) (gTake l (m.2.2.1, m.2.2.2)) (hv.below HB.out.1) hl
    (fun V hV => clo_161 a m _ _ V (keep_b (HB.out.at _ _ (by (first | exact hs_mem0 | exact hs_mem1 | exact hs_mem2 | exact hs_mem3 | exact hs_mem4))) hV) (keep_b (HB.out.at _ _ (by (first | exact hs_mem0 | exact hs_mem1 | exact hs_mem2 | exact hs_mem3 | exact hs_mem4))) hV) ((hG.below HB.out.1).below hV))
    (fun V hV => clo_162 l v m _ _ V (keep_b (HB.out.at _ _ (by (first | exact hs_mem0 | exact hs_mem1 | exact hs_mem2 | exact hs_mem3 | exact hs_mem4))) hV) (keep_b (HB.out.at _ _ (by (first | exact hs_mem0 | exact hs_mem1 | exact hs_mem2 | exact hs_mem3 | exact hs_mem4))) hV) ((hv.below HB.out.1).below hV) hl ((hG.below HB.out.1).below hV))
  unfold mSend
  generalize mDone l m (doesF spendsF a m.2.1) (gTake l (m.2.2.1, m.2.2.2)) = R at hD ⊢
  obtain ⟨⟨r1, r2⟩, rl, re⟩ := R
  obtain ⟨base, cap, rfl⟩ := hv.shape
  obtain ⟨f, n, i, c⟩ := m
  obtain ⟨a1, a2⟩ := a
  unfold accv mlv mlc at *
  dsimp only at hD HB hW ⊢
  have c1 : ∀ j, W.cell? ⟨w.heap.size + 1, j, none⟩ = (#[.slice base l.length cap] : Array Value)[j]? := blk_cell (HB.out.at _ _ (by (first | exact hs_mem0 | exact hs_mem1 | exact hs_mem2 | exact hs_mem3 | exact hs_mem4)))
  have c2 : ∀ j, W.cell? ⟨w.heap.size + 1 + 1, j, none⟩ = (#[.int .u32 f, .int .i64 n, .int .u16 i, .int .i64 c] : Array Value)[j]? := blk_cell (HB.out.at _ _ (by (first | exact hs_mem0 | exact hs_mem1 | exact hs_mem2 | exact hs_mem3 | exact hs_mem4)))
  have HD := Lib.hid hD
  clear hD hG hv
  go_enter Tryz.func116, Tryz.ntmps116
  go_wp2_with fail
  refine HD.out.mono ?_
  rintro e W2 ⟨u, rfl, hu, hb⟩
  have H2 := Lib.hid (And.intro (HB.out.below hb) (ownsRow_base hu HB.out.1.size))
  clear hb c1 c2 hu hW
  have d1 : ∀ j, W2.cell? ⟨w.heap.size + 1 + 1 + 1, j, none⟩ = (#[.int .i64 0, .int .i64 0] : Array Value)[j]? := blk_cell (H2.out.1.at _ _ (by (first | exact hs_mem0 | exact hs_mem1 | exact hs_mem2 | exact hs_mem3 | exact hs_mem4)))
  have e1 : ∀ j, W2.frozen? ⟨w.heap.size + 1 + 1 + 1, j, none⟩ = false := blk_frozen (H2.out.1.at _ _ (by (first | exact hs_mem0 | exact hs_mem1 | exact hs_mem2 | exact hs_mem3 | exact hs_mem4)))
  have hac : accv (r1, r2) = .agg #[.int .i64 r1, .int .i64 r2] := rfl
  simp only [hac]
  go_wp2
  have hb7 := (H2.out.1.1.setCell (p := ⟨w.heap.size + 1 + 1 + 1, 0, none⟩) (by simp; omega) (.int .i64 r1)).setCell (p := ⟨w.heap.size + 1 + 1 + 1, 1, none⟩) (by simp; omega) (.int .i64 r2)
  refine bodyPost_ret (res_cell_tmp2 rfl rfl (two_set (H2.out.1.at (w.heap.size + 1 + 1 + 1) _ (by (first | exact hs_mem0 | exact hs_mem1 | exact hs_mem2 | exact hs_mem3 | exact hs_mem4))) _ _) Tryz.underlying55 rfl (by kernel_rfl)) rfl ⟨_, rfl, own_two H2.out.2 (H2.out.1.at (w.heap.size + 1 + 1 + 1) _ (by (first | exact hs_mem0 | exact hs_mem1 | exact hs_mem2 | exact hs_mem3 | exact hs_mem4))) (by decide) _ _, hb7⟩

/-- What Claim answers. -/
def mClaim (a : Acc) (l : List Stk) (m : Ml) : Acc × List Stk × Int := mDone l m (doesF earnsF a m.2.1) (gGive l (m.2.2.1, m.2.2.2))
set_option maxHeartbeats 1000000 in
set_option maxRecDepth 100000 in
theorem clo_166 (a : Acc) (m : Ml) (b1 b2 : Nat) (w : World) (h1 : w.heap[b1]? = some (.cells #[.int .i64 a.1, .int .i64 a.2] 55 (0, 0))) (h2 : w.heap[b2]? = some (.cells (mlc m) 64 (0, 0))) (hG : Glob w) :
    Calls Tryz.prog 166 #[.pointer (some ⟨b1, 0, none⟩), .pointer (some ⟨b2, 0, none⟩)] w fun e w' => e = .returned (.tuple #[accv (doesF earnsF a m.2.1).1, .int .i64 (doesF earnsF a m.2.1).2]) ∧ Below w.heap.size w w' := by
  obtain ⟨W, hW⟩ : ∃ W, w.alloc (.cells #[.int .i64 0, .int .i64 0] 55) = W := ⟨_, rfl⟩
  have hb0 : Below w.heap.size w W := hW ▸ (Below.refl _ w).alloc (Nat.le_refl _) _
  have HB := Lib.hid (show Hs w [(w.heap.size, .cells #[.int .i64 0, .int .i64 0] 55 (0, 0))] W from ⟨hb0, fun x hx => by simp only [List.mem_cons, List.not_mem_nil, or_false] at hx; subst hx; rw [← hW]; exact heap_alloc_new w _⟩)
  have hD := earn_any a m.2.1 W (hG.below hb0)
  obtain ⟨f, n, i, c⟩ := m
  obtain ⟨a1, a2⟩ := a
  dsimp only at hD h1 ⊢
  generalize doesF earnsF (a1, a2) n = F at hD ⊢
  obtain ⟨⟨f1, f2⟩, f3⟩ := F
  unfold accv mlc at *
  have c1 : ∀ j, W.cell? ⟨b1, j, none⟩ = (#[.int .i64 a1, .int .i64 a2] : Array Value)[j]? := blk_cell (keep_b h1 hb0)
  have c2 : ∀ j, W.cell? ⟨b2, j, none⟩ = (#[.int .u32 f, .int .i64 n, .int .u16 i, .int .i64 c] : Array Value)[j]? := blk_cell (keep_b h2 hb0)
  have HD := Lib.hid hD
  clear hD h1 h2 hG hb0
  go_enter Tryz.func166, Tryz.ntmps166
  go_wp2_with fail
  refine HD.out.mono ?_
  rintro e W2 ⟨rfl, hb⟩
  have H2 := Lib.hid (HB.out.below hb)
  clear hb c1 c2 hW
  have d1 : ∀ j, W2.cell? ⟨w.heap.size, j, none⟩ = (#[.int .i64 0, .int .i64 0] : Array Value)[j]? := blk_cell (H2.out.at _ _ (by (first | exact hs_mem0 | exact hs_mem1 | exact hs_mem2 | exact hs_mem3 | exact hs_mem4)))
  have e1 : ∀ j, W2.frozen? ⟨w.heap.size, j, none⟩ = false := blk_frozen (H2.out.at _ _ (by (first | exact hs_mem0 | exact hs_mem1 | exact hs_mem2 | exact hs_mem3 | exact hs_mem4)))
  go_wp2
  refine bodyPost_ret (res_cell_tmp rfl rfl (two_set (H2.out.at _ _ (by (first | exact hs_mem0 | exact hs_mem1 | exact hs_mem2 | exact hs_mem3 | exact hs_mem4))) _ _) Tryz.underlying55 rfl (by kernel_rfl)) rfl ⟨rfl, ?_⟩
  exact (H2.out.1.setCell (p := ⟨w.heap.size, 0, none⟩) (by simp) _).setCell (p := ⟨w.heap.size, 1, none⟩) (by simp) _

set_option maxHeartbeats 1000000 in
set_option maxRecDepth 100000 in
theorem clo_167 (l : List Stk) (v : Value) (m : Ml) (b1 b2 : Nat) (w : World) (h1 : w.heap[b1]? = some (.cells #[v] 119 (0, 0))) (h2 : w.heap[b2]? = some (.cells (mlc m) 64 (0, 0))) (hv : Sees w v l.length 2 (stks l)) (hl : l.length ≤ 1000) (hG : Glob w) :
    Calls Tryz.prog 167 #[.pointer (some ⟨b1, 0, none⟩), .pointer (some ⟨b2, 0, none⟩)] w fun e w' => OwnEPost (gGive l (m.2.2.1, m.2.2.2)) w e w' := by
  have hD := give_any l (m.2.2.1, m.2.2.2) v w hv hl hG
  obtain ⟨base, cap, rfl⟩ := hv.shape
  obtain ⟨f, n, i, c⟩ := m
  dsimp only at hD ⊢
  generalize gGive l (i, c) = F at hD ⊢
  obtain ⟨x, xe⟩ := F
  unfold stkv at hD
  unfold mlc at *
  have c1 : ∀ j, w.cell? ⟨b1, j, none⟩ = (#[.slice base l.length cap] : Array Value)[j]? := blk_cell h1
  have c2 : ∀ j, w.cell? ⟨b2, j, none⟩ = (#[.int .u32 f, .int .i64 n, .int .u16 i, .int .i64 c] : Array Value)[j]? := blk_cell h2
  have HD := Lib.hid hD
  clear hD h1 h2 hG hv
  go_enter Tryz.func167, Tryz.ntmps167
  go_wp2_with fail
  refine HD.out.mono ?_
  rintro e W2 ⟨u, rfl, hu, hb⟩
  have HU := Lib.hid (And.intro hu hb)
  clear hb c1 c2 hu
  go_wp2
  go_ret2
  exact ⟨_, rfl, HU.out.1, HU.out.2⟩

set_option maxHeartbeats 2000000 in
set_option maxRecDepth 100000 in
theorem mailClaim_any (a : Acc) (l : List Stk) (m : Ml) (v : Value) (w : World) (hv : Sees w v l.length 2 (stks l)) (hl : l.length ≤ 1000) (hG : Glob w) :
    Calls Tryz.prog 120 #[accv a, v, mlv m] w fun e w' => MdPost (mClaim a l m) w e w' := by
  obtain ⟨W, hW⟩ : ∃ W, (((w.alloc (.cells #[.int .i64 a.1, .int .i64 a.2] 55)).alloc (.cells #[v] 119)).alloc (.cells (mlc m) 64)).alloc (.cells #[.int .i64 0, .int .i64 0] 55) = W := ⟨_, rfl⟩
  have HB : Hid (Hs w [(w.heap.size, .cells #[.int .i64 a.1, .int .i64 a.2] 55 (0, 0)), (w.heap.size + 1, .cells #[v] 119 (0, 0)), (w.heap.size + 1 + 1, .cells (mlc m) 64 (0, 0)), (w.heap.size + 1 + 1 + 1, .cells #[.int .i64 0, .int .i64 0] 55 (0, 0))] W) := Lib.hid (by
    rw [← hW]
    refine ⟨(((((Below.refl _ w).alloc (Nat.le_refl _) _).alloc (by simp) _).alloc (by simp; omega) _).alloc (by simp; omega) _), ?_⟩
    intro x hx
    simp only [List.mem_cons, List.not_mem_nil, or_false] at hx
    rcases hx with rfl | rfl | rfl | rfl
    · exact keep_a _ (keep_a _ (keep_a _ (heap_alloc_new w _)))
    · exact keep_a _ (keep_a _ (alloc_new2 w _ _))
    · exact keep_a _ (by have := alloc_new2 (w.alloc (.cells #[.int .i64 a.1, .int .i64 a.2] 55)) (.cells #[v] 119) (.cells (mlc m) 64); simpa using this)
    · have := alloc_new2 ((w.alloc (.cells #[.int .i64 a.1, .int .i64 a.2] 55)).alloc (.cells #[v] 119)) (.cells (mlc m) 64) (.cells #[.int .i64 0, .int .i64 0] 55)
      simpa using this)
  have hmf : ∀ (fn : Fn) (first cap : Array Value) (w : World), (Instr.makeFunc fn first cap).run Tryz.prog w = .ok (.func fn first cap) w := fun _ _ _ _ => rfl
  have hD := mdone_166 l m v (.pointer (some ⟨w.heap.size, 0, none⟩)) (.pointer (some ⟨w.heap.size + 1 + 1, 0, none⟩)) (.pointer (some ⟨w.heap.size + 1, 0, none⟩)) W (doesF earnsF a m.2.1) (gGive l (m.2.2.1, m.2.2.2)) (hv.below HB.out.1) hl
    (fun V hV => clo_166 a m _ _ V (keep_b (HB.out.at _ _ (by (first | exact hs_mem0 | exact hs_mem1 | exact hs_mem2 | exact hs_mem3 | exact hs_mem4))) hV) (keep_b (HB.out.at _ _ (by (first | exact hs_mem0 | exact hs_mem1 | exact hs_mem2 | exact hs_mem3 | exact hs_mem4))) hV) ((hG.below HB.out.1).below hV))
    (fun V hV => clo_167 l v m _ _ V (keep_b (HB.out.at _ _ (by (first | exact hs_mem0 | exact hs_mem1 | exact hs_mem2 | exact hs_mem3 | exact hs_mem4))) hV) (keep_b (HB.out.at _ _ (by (first | exact hs_mem0 | exact hs_mem1 | exact hs_mem2 | exact hs_mem3 | exact hs_mem4))) hV) ((hv.below HB.out.1).below hV) hl ((hG.below HB.out.1).below hV))
  unfold mClaim
  generalize mDone l m (doesF earnsF a m.2.1) (gGive l (m.2.2.1, m.2.2.2)) = R at hD ⊢
  obtain ⟨⟨r1, r2⟩, rl, re⟩ := R
  obtain ⟨base, cap, rfl⟩ := hv.shape
  obtain ⟨f, n, i, c⟩ := m
  obtain ⟨a1, a2⟩ := a
  unfold accv mlv mlc at *
  dsimp only at hD HB hW ⊢
  have c1 : ∀ j, W.cell? ⟨w.heap.size + 1, j, none⟩ = (#[.slice base l.length cap] : Array Value)[j]? := blk_cell (HB.out.at _ _ (by (first | exact hs_mem0 | exact hs_mem1 | exact hs_mem2 | exact hs_mem3 | exact hs_mem4)))
  have c2 : ∀ j, W.cell? ⟨w.heap.size + 1 + 1, j, none⟩ = (#[.int .u32 f, .int .i64 n, .int .u16 i, .int .i64 c] : Array Value)[j]? := blk_cell (HB.out.at _ _ (by (first | exact hs_mem0 | exact hs_mem1 | exact hs_mem2 | exact hs_mem3 | exact hs_mem4)))
  have HD := Lib.hid hD
  clear hD hG hv
  go_enter Tryz.func120, Tryz.ntmps120
  go_wp2_with fail
  refine HD.out.mono ?_
  rintro e W2 ⟨u, rfl, hu, hb⟩
  have H2 := Lib.hid (And.intro (HB.out.below hb) (ownsRow_base hu HB.out.1.size))
  clear hb c1 c2 hu hW
  have d1 : ∀ j, W2.cell? ⟨w.heap.size + 1 + 1 + 1, j, none⟩ = (#[.int .i64 0, .int .i64 0] : Array Value)[j]? := blk_cell (H2.out.1.at _ _ (by (first | exact hs_mem0 | exact hs_mem1 | exact hs_mem2 | exact hs_mem3 | exact hs_mem4)))
  have e1 : ∀ j, W2.frozen? ⟨w.heap.size + 1 + 1 + 1, j, none⟩ = false := blk_frozen (H2.out.1.at _ _ (by (first | exact hs_mem0 | exact hs_mem1 | exact hs_mem2 | exact hs_mem3 | exact hs_mem4)))
  have hac : accv (r1, r2) = .agg #[.int .i64 r1, .int .i64 r2] := rfl
  simp only [hac]
  go_wp2
  have hb7 := (H2.out.1.1.setCell (p := ⟨w.heap.size + 1 + 1 + 1, 0, none⟩) (by simp; omega) (.int .i64 r1)).setCell (p := ⟨w.heap.size + 1 + 1 + 1, 1, none⟩) (by simp; omega) (.int .i64 r2)
  refine bodyPost_ret (res_cell_tmp2 rfl rfl (two_set (H2.out.1.at (w.heap.size + 1 + 1 + 1) _ (by (first | exact hs_mem0 | exact hs_mem1 | exact hs_mem2 | exact hs_mem3 | exact hs_mem4))) _ _) Tryz.underlying55 rfl (by kernel_rfl)) rfl ⟨_, rfl, own_two H2.out.2 (H2.out.1.at (w.heap.size + 1 + 1 + 1) _ (by (first | exact hs_mem0 | exact hs_mem1 | exact hs_mem2 | exact hs_mem3 | exact hs_mem4))) (by decide) _ _, hb7⟩

end Go.Proofs.YtmkcbkdbdcnoiaaGreatDoor
