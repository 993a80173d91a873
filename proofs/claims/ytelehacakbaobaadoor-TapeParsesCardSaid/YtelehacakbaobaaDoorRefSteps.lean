/- What stands in memory while ref28.Parse reads a line; its calls. -/
import Derived.Test.YtelehacakbaobaaDoorRefCalls
import Derived.Test.YtelehacakbaobaaDoorRefLineAny
import Derived.LoopN
namespace Go.Proofs.YtelehacakbaobaaDoor
open Go.RowKit
set_option linter.unusedVariables false
set_option linter.unusedSimpArgs false

/-- An act's nine cells. -/
theorem acts9 {w : World} {b : Nat} {k f t n x y z : Int} {nm tx : Bs} (h : HasAct w b ⟨k, nm, f, t, tx, n, x, y, z⟩) : w.cell? ⟨b, 0, none⟩ = some (.int .i64 k) ∧ w.cell? ⟨b, 1, none⟩ = some (.string ⟨nm.toArray⟩) ∧ w.cell? ⟨b, 2, none⟩ = some (.int .i64 f) ∧ w.cell? ⟨b, 3, none⟩ = some (.int .i64 t) ∧ w.cell? ⟨b, 4, none⟩ = some (.string ⟨tx.toArray⟩) ∧ w.cell? ⟨b, 5, none⟩ = some (.int .i64 n) ∧ w.cell? ⟨b, 6, none⟩ = some (.int .i64 x) ∧ w.cell? ⟨b, 7, none⟩ = some (.int .i64 y) ∧ w.cell? ⟨b, 8, none⟩ = some (.int .i64 z) :=
  ⟨h.cell 0, h.cell 1, h.cell 2, h.cell 3, h.cell 4, h.cell 5, h.cell 6, h.cell 7, h.cell 8⟩
theorem free9 {w : World} {b : Nat} {a : TAct} (h : HasAct w b a) : w.frozen? ⟨b, 0, none⟩ = false ∧ w.frozen? ⟨b, 1, none⟩ = false ∧ w.frozen? ⟨b, 2, none⟩ = false ∧ w.frozen? ⟨b, 3, none⟩ = false ∧ w.frozen? ⟨b, 4, none⟩ = false ∧ w.frozen? ⟨b, 5, none⟩ = false ∧ w.frozen? ⟨b, 6, none⟩ = false ∧ w.frozen? ⟨b, 7, none⟩ = false ∧ w.frozen? ⟨b, 8, none⟩ = false :=
  ⟨h.free 0, h.free 1, h.free 2, h.free 3, h.free 4, h.free 5, h.free 6, h.free 7, h.free 8⟩
/-- The result's place, the empty act, the act that is read. -/
structure PW (w0 : World) (a : TAct) (w : World) : Prop where
  hr : HasAct w w0.heap.size ⟨0, [], 0, 0, [], 0, 0, 0, 0⟩
  hn : HasAct w (w0.heap.size + 1) ⟨0, [], 0, 0, [], 0, 0, 0, 0⟩
  ha : HasAct w (w0.heap.size + 1 + 1) a
  hb : Below w0.heap.size w0 w
theorem PW.lt {w0 w : World} {a : TAct} (h : PW w0 a w) : w0.heap.size + 1 + 1 < w.heap.size := h.ha.lt
theorem PW.below {w0 w w' : World} {a : TAct} (h : PW w0 a w) (hb : Below w.heap.size w w') : PW w0 a w' where
  hr := h.hr.below hb h.hr.lt
  hn := h.hn.below hb h.hn.lt
  ha := h.ha.below hb h.ha.lt
  hb := Below.then h.hb hb
theorem PW.alloc {w0 w : World} {a : TAct} (h : PW w0 a w) (o : Obj) : PW w0 a (w.alloc o) := h.below ((Below.refl _ _).alloc (Nat.le_refl _) o)
theorem PW.drew {w0 w : World} {a : TAct} (h : PW w0 a w) : PW w0 a w.drew := ⟨h.hr, h.hn, h.ha, h.hb.drew⟩
theorem PW.set {w0 w : World} {a a' : TAct} (h : PW w0 a w) (j : Nat) (v : Value) (hv : (cellsA a).set! j v = cellsA a') : PW w0 a' (w.setCell ⟨w0.heap.size + 1 + 1, j, none⟩ v) where
  hr := h.hr.other _ (by simp; omega) _
  hn := h.hn.other _ (by simp) _
  ha := h.ha.set j v hv
  hb := h.hb.setCell (by show w0.heap.size ≤ w0.heap.size + 1 + 1; omega) v
theorem PW.other {w0 w : World} {a : TAct} (h : PW w0 a w) (x : Addr) (hx : w0.heap.size + 1 + 1 < x.block) (v : Value) : PW w0 a (w.setCell x v) where
  hr := h.hr.other _ (by omega) _
  hn := h.hn.other _ (by omega) _
  ha := h.ha.other _ (by omega) _
  hb := h.hb.setCell (by omega) v
/-- The answer. -/
def refAns (o : Option TAct) : Ending := match o with
  | some a => .returned (.tuple #[.agg (cellsA a), .bool true])
  | none => .returned (.tuple #[.agg (cellsA TAct.zero), .bool false])
theorem hd_call (w0 : World) (s : Bs) (hs : s.length ≤ 100000) (a : TAct) (wx : World) (hP : PW w0 a wx) :
    Calls Tryd.prog 22 #[.string ⟨s.toArray⟩, .int .i64 2] wx fun e w' => ∃ g cap L, e = .returned (.slice (some ⟨g, 0, none⟩) L cap) ∧ 0 < L ∧ w'.cell? ⟨g, 0, none⟩ = some (.string ⟨(cutWord s).toArray⟩) ∧ g < w'.heap.size ∧ w0.heap.size + 1 + 1 < g ∧ PW w0 a w' := by
  refine (words_any s (by omega) 2 (by omega) (by omega) wx).mono ?_
  rintro e w' ⟨v, rfl, ⟨g, cap, rfl, h1, h2, h3⟩, hb⟩
  have hh := split_head 0 s
  have hne := split_ne 2 s
  cases hp : splitN 2 s with
  | nil => exact absurd hp hne
  | cons x r =>
    rw [show 0 + 2 = 2 from rfl, hp] at hh
    rw [hp] at h3
    refine ⟨g, cap, _, rfl, by simp, ?_, h2, by have := hP.lt; omega, hP.below hb⟩
    rw [← hh]; exact h3 0 x rfl
/-- The words: so many. -/
theorem ws_call (w0 : World) (s : Bs) (hs : s.length ≤ 100000) (n : Nat) (h1 : 1 ≤ n) (h9 : n ≤ 9) (N : Int) (hN : N = (n : Int)) (ws : List Bs) (hw : splitN n s = ws) (L : Nat) (hL : L = ws.length) (a : TAct) (wx : World) (hP : PW w0 a wx) :
    Calls Tryd.prog 22 #[.string ⟨s.toArray⟩, .int .i64 N] wx fun e w' => ∃ g cap, e = .returned (.slice (some ⟨g, 0, none⟩) L cap) ∧ (∀ j x, ws[j]? = some x → w'.cell? ⟨g, j, none⟩ = some (.string ⟨x.toArray⟩)) ∧ g < w'.heap.size ∧ w0.heap.size + 1 + 1 < g ∧ PW w0 a w' := by
  subst hN hL
  refine (words_any s (by omega) n h1 h9 wx).mono ?_
  rintro e w' ⟨v, rfl, ⟨g, cap, rfl, h1, h2, h3⟩, hb⟩
  rw [hw] at h3
  rw [hw]
  exact ⟨g, cap, rfl, h3, h2, by have := hP.lt; omega, hP.below hb⟩
theorem pw_start (w : World) : PW w ⟨0, [], 0, 0, [], 0, 0, 0, 0⟩ (((w.alloc (.cells #[.int .i64 0, .string ⟨#[]⟩, .int .i64 0, .int .i64 0, .string ⟨#[]⟩, .int .i64 0, .int .i64 0, .int .i64 0, .int .i64 0] 26)).alloc (.cells #[.int .i64 0, .string ⟨#[]⟩, .int .i64 0, .int .i64 0, .string ⟨#[]⟩, .int .i64 0, .int .i64 0, .int .i64 0, .int .i64 0] 26)).alloc (.cells #[.int .i64 0, .string ⟨#[]⟩, .int .i64 0, .int .i64 0, .string ⟨#[]⟩, .int .i64 0, .int .i64 0, .int .i64 0, .int .i64 0] 26)) where
  hr := by
    unfold HasAct
    rw [Below.heap_alloc _ _ _ (by simp only [World.size_alloc]; omega), Below.heap_alloc _ _ _ (by simp only [World.size_alloc]; omega), heap_alloc_new]; rfl
  hn := by
    unfold HasAct
    rw [Below.heap_alloc _ _ _ (by simp only [World.size_alloc]; omega), heap_at _ _ _ (by simp only [World.size_alloc])]; rfl
  ha := by
    unfold HasAct
    rw [heap_at _ _ _ (by simp only [World.size_alloc])]; rfl
  hb := (((Below.refl _ w).alloc (Nat.le_refl _) _).alloc (by simp) _).alloc (by simp; omega) _
theorem rparse_ret {R : Ending → World → Prop} {tm : Array Value} {a : TAct} {b : Bool} {wf : World} {B : Nat} (h : HasAct wf B a) (h2 : tm[2]? = some (.pointer (some ⟨B, 0, none⟩))) (h3 : tm[3]? = some (.bool b)) (hR : R (.returned (.tuple #[.agg (cellsA a), .bool b])) wf) :
    bodyPost Tryd.prog Tryd.f10 R .ret ⟨tm, []⟩ wf := by
  refine bodyPost_ret ?_ rfl hR
  have e0 := h.cell 0
  have e1 := h.cell 1
  have e2 := h.cell 2
  have e3 := h.cell 3
  have e4 := h.cell 4
  have e5 := h.cell 5
  have e6 := h.cell 6
  have e7 := h.cell 7
  have e8 := h.cell 8
  simp only [cellsA, List.getElem?_toArray, List.getElem?_cons_zero, List.getElem?_cons_succ] at e0 e1 e2 e3 e4 e5 e6 e7 e8
  simp [results, Tryd.results10, go_sem, cellsA, e0, e1, e2, e3, e4, e5, e6, e7, e8, h2, h3]
/-- A block of three numbers. -/
def HasArr (w : World) (b : Nat) (x y z : Int) : Prop := w.heap[b]? = some (.cells #[.int .i64 x, .int .i64 y, .int .i64 z] 63 (0, 0))
theorem HasArr.lt {w : World} {b : Nat} {x y z : Int} (h : HasArr w b x y z) : b < w.heap.size := lt_of_block h
theorem HasArr.c0 {w : World} {b : Nat} {x y z : Int} (h : HasArr w b x y z) : w.cell? ⟨b, 0, none⟩ = some (.int .i64 x) := by unfold HasArr at h; simp [World.cell?, h]
theorem HasArr.c1 {w : World} {b : Nat} {x y z : Int} (h : HasArr w b x y z) : w.cell? ⟨b, 1, none⟩ = some (.int .i64 y) := by unfold HasArr at h; simp [World.cell?, h]
theorem HasArr.c2 {w : World} {b : Nat} {x y z : Int} (h : HasArr w b x y z) : w.cell? ⟨b, 2, none⟩ = some (.int .i64 z) := by unfold HasArr at h; simp [World.cell?, h]
theorem HasArr.free {w : World} {b : Nat} {x y z : Int} (h : HasArr w b x y z) (j : Nat) : w.frozen? ⟨b, j, none⟩ = false := by unfold HasArr at h; simp [World.frozen?, h]
theorem HasArr.below {w w' : World} {b B : Nat} {x y z : Int} (h : HasArr w b x y z) (hb : Below B w w') (hB : b < B) : HasArr w' b x y z := by
  unfold HasArr at *
  rw [hb.block b hB]; exact h
theorem HasArr.new (w : World) (b : Nat) (hb : b = w.heap.size) : HasArr (w.alloc (.cells #[.int .i64 0, .int .i64 0, .int .i64 0] 63)) b 0 0 0 := by
  unfold HasArr; exact heap_at _ _ _ hb
theorem HasArr.s0 {w : World} {b : Nat} {x y z : Int} (h : HasArr w b x y z) (v : Int) : HasArr (w.setCell ⟨b, 0, none⟩ (.int .i64 v)) b v y z := by
  unfold HasArr at *
  rw [heap_setCell_same w b 0 _ _ _ h]; rfl
theorem HasArr.s1 {w : World} {b : Nat} {x y z : Int} (h : HasArr w b x y z) (v : Int) : HasArr (w.setCell ⟨b, 1, none⟩ (.int .i64 v)) b x v z := by
  unfold HasArr at *
  rw [heap_setCell_same w b 1 _ _ _ h]; rfl
theorem HasArr.s2 {w : World} {b : Nat} {x y z : Int} (h : HasArr w b x y z) (v : Int) : HasArr (w.setCell ⟨b, 2, none⟩ (.int .i64 v)) b x y v := by
  unfold HasArr at *
  rw [heap_setCell_same w b 2 _ _ _ h]; rfl
theorem keep1 {w w' : World} {g j : Nat} {B : Addr} {v x : Value} (hb : Below (w.setCell B v).heap.size (w.setCell B v) w') (hg : g < w.heap.size) (hne : ¬ g = B.block) (hy : w.cell? ⟨g, j, none⟩ = some x) : w'.cell? ⟨g, j, none⟩ = some x := by
  rw [hb.cell (p := ⟨g, j, none⟩) (by show g < _; simpa using hg), World.cell?_setCell_other _ _ _ _ (by intro e; apply hne; rw [e])]; exact hy
theorem keep2 {w w' : World} {g j : Nat} {B : Addr} {v x : Value} {o : Obj} (hb : Below ((w.setCell B v).alloc o).heap.size ((w.setCell B v).alloc o) w') (hg : g < w.heap.size) (hne : ¬ g = B.block) (hy : w.cell? ⟨g, j, none⟩ = some x) : w'.cell? ⟨g, j, none⟩ = some x := by
  have h1 : Below (w.setCell B v).heap.size (w.setCell B v) w' := Below.then ((Below.refl _ _).alloc (Nat.le_refl _) o) hb
  exact keep1 h1 hg hne hy
theorem keep0 {w w' : World} {g j : Nat} {x : Value} {o : Obj} (hb : Below (w.alloc o).heap.size (w.alloc o) w') (hg : g < w.heap.size) (hy : w.cell? ⟨g, j, none⟩ = some x) : w'.cell? ⟨g, j, none⟩ = some x := by
  have h1 : Below w.heap.size w w' := Below.then ((Below.refl _ _).alloc (Nat.le_refl _) o) hb
  rw [h1.cell (p := ⟨g, j, none⟩) hg]; exact hy
end Go.Proofs.YtelehacakbaobaaDoor
