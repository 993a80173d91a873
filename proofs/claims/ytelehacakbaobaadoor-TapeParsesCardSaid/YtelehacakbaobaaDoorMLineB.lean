/- What ref28.Line comes to at kinds 4 to 7. (Written by genrefline.py.) -/
import Derived.Test.YtelehacakbaobaaDoorMParse
import Derived.Test.YtelehacakbaobaaDoorGivenR
import Derived.BigQuiet

namespace Go.Proofs.YtelehacakbaobaaDoor
open Go.RowKit
set_option linter.unusedVariables false
set_option linter.unusedSimpArgs false

set_option maxRecDepth 100000 in
set_option maxHeartbeats 4000000 in
theorem ref_line_4 (name : Bs) (frm til : Int) (text : Bs) (n l1 l2 l3 : Int) (hf : TAct.Fits ⟨4, name, frm, til, text, n, l1, l2, l3⟩) (w : World) :
    Calls Tryd.prog 13 #[.agg #[.int .i64 4, .string ⟨name.toArray⟩, .int .i64 frm, .int .i64 til, .string ⟨text.toArray⟩, .int .i64 n, .int .i64 l1, .int .i64 l2, .int .i64 l3]] w fun e w' =>
      e = .returned (.tuple #[.string ⟨(lineOf ⟨4, name, frm, til, text, n, l1, l2, l3⟩).toArray⟩, .int .i64 (lineErr ⟨4, name, frm, til, text, n, l1, l2, l3⟩)]) ∧ Below w.heap.size w w' := by
  have HN := Lib.hid (fun wx => ref_name_call name hf.name wx)
  have HF := Lib.hid hf
  clear hf
  by_cases hno : nameOk name = true
  rotate_left
  · have HNO : Hid (nameOk name = false) := by show _ = _; simpa using hno
    clear hno
    have HC0 : Hid (∀ wx, Below (w.alloc (.cells #[.int .i64 4, .string ⟨name.toArray⟩, .int .i64 frm, .int .i64 til, .string ⟨text.toArray⟩, .int .i64 n, .int .i64 l1, .int .i64 l2, .int .i64 l3] 26)).heap.size (w.alloc (.cells #[.int .i64 4, .string ⟨name.toArray⟩, .int .i64 frm, .int .i64 til, .string ⟨text.toArray⟩, .int .i64 n, .int .i64 l1, .int .i64 l2, .int .i64 l3] 26)) wx → wx.cell? ⟨w.heap.size, 0, none⟩ = some (.int .i64 4)) := fun wx hb => by rw [hb.cell (by show w.heap.size < _; rw [World.size_alloc]; omega)]; exact (show HasAct _ w.heap.size ⟨4, name, frm, til, text, n, l1, l2, l3⟩ from heap_at w _ _ rfl).cell 0
    have HC1 : Hid (∀ wx, Below (w.alloc (.cells #[.int .i64 4, .string ⟨name.toArray⟩, .int .i64 frm, .int .i64 til, .string ⟨text.toArray⟩, .int .i64 n, .int .i64 l1, .int .i64 l2, .int .i64 l3] 26)).heap.size (w.alloc (.cells #[.int .i64 4, .string ⟨name.toArray⟩, .int .i64 frm, .int .i64 til, .string ⟨text.toArray⟩, .int .i64 n, .int .i64 l1, .int .i64 l2, .int .i64 l3] 26)) wx → wx.cell? ⟨w.heap.size, 1, none⟩ = some (.string ⟨name.toArray⟩)) := fun wx hb => by rw [hb.cell (by show w.heap.size < _; rw [World.size_alloc]; omega)]; exact (show HasAct _ w.heap.size ⟨4, name, frm, til, text, n, l1, l2, l3⟩ from heap_at w _ _ rfl).cell 1
    have HC2 : Hid (∀ wx, Below (w.alloc (.cells #[.int .i64 4, .string ⟨name.toArray⟩, .int .i64 frm, .int .i64 til, .string ⟨text.toArray⟩, .int .i64 n, .int .i64 l1, .int .i64 l2, .int .i64 l3] 26)).heap.size (w.alloc (.cells #[.int .i64 4, .string ⟨name.toArray⟩, .int .i64 frm, .int .i64 til, .string ⟨text.toArray⟩, .int .i64 n, .int .i64 l1, .int .i64 l2, .int .i64 l3] 26)) wx → wx.cell? ⟨w.heap.size, 2, none⟩ = some (.int .i64 frm)) := fun wx hb => by rw [hb.cell (by show w.heap.size < _; rw [World.size_alloc]; omega)]; exact (show HasAct _ w.heap.size ⟨4, name, frm, til, text, n, l1, l2, l3⟩ from heap_at w _ _ rfl).cell 2
    have HC3 : Hid (∀ wx, Below (w.alloc (.cells #[.int .i64 4, .string ⟨name.toArray⟩, .int .i64 frm, .int .i64 til, .string ⟨text.toArray⟩, .int .i64 n, .int .i64 l1, .int .i64 l2, .int .i64 l3] 26)).heap.size (w.alloc (.cells #[.int .i64 4, .string ⟨name.toArray⟩, .int .i64 frm, .int .i64 til, .string ⟨text.toArray⟩, .int .i64 n, .int .i64 l1, .int .i64 l2, .int .i64 l3] 26)) wx → wx.cell? ⟨w.heap.size, 3, none⟩ = some (.int .i64 til)) := fun wx hb => by rw [hb.cell (by show w.heap.size < _; rw [World.size_alloc]; omega)]; exact (show HasAct _ w.heap.size ⟨4, name, frm, til, text, n, l1, l2, l3⟩ from heap_at w _ _ rfl).cell 3
    have HC4 : Hid (∀ wx, Below (w.alloc (.cells #[.int .i64 4, .string ⟨name.toArray⟩, .int .i64 frm, .int .i64 til, .string ⟨text.toArray⟩, .int .i64 n, .int .i64 l1, .int .i64 l2, .int .i64 l3] 26)).heap.size (w.alloc (.cells #[.int .i64 4, .string ⟨name.toArray⟩, .int .i64 frm, .int .i64 til, .string ⟨text.toArray⟩, .int .i64 n, .int .i64 l1, .int .i64 l2, .int .i64 l3] 26)) wx → wx.cell? ⟨w.heap.size, 4, none⟩ = some (.string ⟨text.toArray⟩)) := fun wx hb => by rw [hb.cell (by show w.heap.size < _; rw [World.size_alloc]; omega)]; exact (show HasAct _ w.heap.size ⟨4, name, frm, til, text, n, l1, l2, l3⟩ from heap_at w _ _ rfl).cell 4
    have HC5 : Hid (∀ wx, Below (w.alloc (.cells #[.int .i64 4, .string ⟨name.toArray⟩, .int .i64 frm, .int .i64 til, .string ⟨text.toArray⟩, .int .i64 n, .int .i64 l1, .int .i64 l2, .int .i64 l3] 26)).heap.size (w.alloc (.cells #[.int .i64 4, .string ⟨name.toArray⟩, .int .i64 frm, .int .i64 til, .string ⟨text.toArray⟩, .int .i64 n, .int .i64 l1, .int .i64 l2, .int .i64 l3] 26)) wx → wx.cell? ⟨w.heap.size, 5, none⟩ = some (.int .i64 n)) := fun wx hb => by rw [hb.cell (by show w.heap.size < _; rw [World.size_alloc]; omega)]; exact (show HasAct _ w.heap.size ⟨4, name, frm, til, text, n, l1, l2, l3⟩ from heap_at w _ _ rfl).cell 5
    have HC6 : Hid (∀ wx, Below (w.alloc (.cells #[.int .i64 4, .string ⟨name.toArray⟩, .int .i64 frm, .int .i64 til, .string ⟨text.toArray⟩, .int .i64 n, .int .i64 l1, .int .i64 l2, .int .i64 l3] 26)).heap.size (w.alloc (.cells #[.int .i64 4, .string ⟨name.toArray⟩, .int .i64 frm, .int .i64 til, .string ⟨text.toArray⟩, .int .i64 n, .int .i64 l1, .int .i64 l2, .int .i64 l3] 26)) wx → wx.cell? ⟨w.heap.size, 6, none⟩ = some (.int .i64 l1)) := fun wx hb => by rw [hb.cell (by show w.heap.size < _; rw [World.size_alloc]; omega)]; exact (show HasAct _ w.heap.size ⟨4, name, frm, til, text, n, l1, l2, l3⟩ from heap_at w _ _ rfl).cell 6
    have HC7 : Hid (∀ wx, Below (w.alloc (.cells #[.int .i64 4, .string ⟨name.toArray⟩, .int .i64 frm, .int .i64 til, .string ⟨text.toArray⟩, .int .i64 n, .int .i64 l1, .int .i64 l2, .int .i64 l3] 26)).heap.size (w.alloc (.cells #[.int .i64 4, .string ⟨name.toArray⟩, .int .i64 frm, .int .i64 til, .string ⟨text.toArray⟩, .int .i64 n, .int .i64 l1, .int .i64 l2, .int .i64 l3] 26)) wx → wx.cell? ⟨w.heap.size, 7, none⟩ = some (.int .i64 l2)) := fun wx hb => by rw [hb.cell (by show w.heap.size < _; rw [World.size_alloc]; omega)]; exact (show HasAct _ w.heap.size ⟨4, name, frm, til, text, n, l1, l2, l3⟩ from heap_at w _ _ rfl).cell 7
    have HC8 : Hid (∀ wx, Below (w.alloc (.cells #[.int .i64 4, .string ⟨name.toArray⟩, .int .i64 frm, .int .i64 til, .string ⟨text.toArray⟩, .int .i64 n, .int .i64 l1, .int .i64 l2, .int .i64 l3] 26)).heap.size (w.alloc (.cells #[.int .i64 4, .string ⟨name.toArray⟩, .int .i64 frm, .int .i64 til, .string ⟨text.toArray⟩, .int .i64 n, .int .i64 l1, .int .i64 l2, .int .i64 l3] 26)) wx → wx.cell? ⟨w.heap.size, 8, none⟩ = some (.int .i64 l3)) := fun wx hb => by rw [hb.cell (by show w.heap.size < _; rw [World.size_alloc]; omega)]; exact (show HasAct _ w.heap.size ⟨4, name, frm, til, text, n, l1, l2, l3⟩ from heap_at w _ _ rfl).cell 8
    go_enter Tryd.func13, Tryd.ntmps13
    go_wp2_with (first | (go_at_call 30; refine (HN.out _).mono ?_; rw [HNO.out]; rintro e w1 ⟨rfl, hb1⟩; have c0 := HC0.out _ hb1; have c1 := HC1.out _ hb1; have c2 := HC2.out _ hb1; have c3 := HC3.out _ hb1; have c4 := HC4.out _ hb1; have c5 := HC5.out _ hb1; have c6 := HC6.out _ hb1; have c7 := HC7.out _ hb1; have c8 := HC8.out _ hb1))
    go_ret2
    have HE : lineErr ⟨4, name, frm, til, text, n, l1, l2, l3⟩ = 1 := by
      rw [err_4]; apply if_neg; intro hh; revert hh; rw [HNO.out]; simp
    refine ⟨by rw [HE, lineOf_err _ (by rw [HE]; decide)]; rfl, ?_⟩
    have hbel := (((Below.refl _ _).alloc (Nat.le_refl _) _).trans (hb1.mono (by rw [World.size_alloc]; omega)))
    exact ⟨hbel.os, hbel.tape, hbel.output, hbel.size, hbel.block⟩
  have HNO := Lib.hid hno
  clear hno
  by_cases hfrm : frm = 0
  rotate_left
  · have qfrm : (frm == 0) = false := by simpa using hfrm
    have HC0 : Hid (∀ wx, Below (w.alloc (.cells #[.int .i64 4, .string ⟨name.toArray⟩, .int .i64 frm, .int .i64 til, .string ⟨text.toArray⟩, .int .i64 n, .int .i64 l1, .int .i64 l2, .int .i64 l3] 26)).heap.size (w.alloc (.cells #[.int .i64 4, .string ⟨name.toArray⟩, .int .i64 frm, .int .i64 til, .string ⟨text.toArray⟩, .int .i64 n, .int .i64 l1, .int .i64 l2, .int .i64 l3] 26)) wx → wx.cell? ⟨w.heap.size, 0, none⟩ = some (.int .i64 4)) := fun wx hb => by rw [hb.cell (by show w.heap.size < _; rw [World.size_alloc]; omega)]; exact (show HasAct _ w.heap.size ⟨4, name, frm, til, text, n, l1, l2, l3⟩ from heap_at w _ _ rfl).cell 0
    have HC1 : Hid (∀ wx, Below (w.alloc (.cells #[.int .i64 4, .string ⟨name.toArray⟩, .int .i64 frm, .int .i64 til, .string ⟨text.toArray⟩, .int .i64 n, .int .i64 l1, .int .i64 l2, .int .i64 l3] 26)).heap.size (w.alloc (.cells #[.int .i64 4, .string ⟨name.toArray⟩, .int .i64 frm, .int .i64 til, .string ⟨text.toArray⟩, .int .i64 n, .int .i64 l1, .int .i64 l2, .int .i64 l3] 26)) wx → wx.cell? ⟨w.heap.size, 1, none⟩ = some (.string ⟨name.toArray⟩)) := fun wx hb => by rw [hb.cell (by show w.heap.size < _; rw [World.size_alloc]; omega)]; exact (show HasAct _ w.heap.size ⟨4, name, frm, til, text, n, l1, l2, l3⟩ from heap_at w _ _ rfl).cell 1
    have HC2 : Hid (∀ wx, Below (w.alloc (.cells #[.int .i64 4, .string ⟨name.toArray⟩, .int .i64 frm, .int .i64 til, .string ⟨text.toArray⟩, .int .i64 n, .int .i64 l1, .int .i64 l2, .int .i64 l3] 26)).heap.size (w.alloc (.cells #[.int .i64 4, .string ⟨name.toArray⟩, .int .i64 frm, .int .i64 til, .string ⟨text.toArray⟩, .int .i64 n, .int .i64 l1, .int .i64 l2, .int .i64 l3] 26)) wx → wx.cell? ⟨w.heap.size, 2, none⟩ = some (.int .i64 frm)) := fun wx hb => by rw [hb.cell (by show w.heap.size < _; rw [World.size_alloc]; omega)]; exact (show HasAct _ w.heap.size ⟨4, name, frm, til, text, n, l1, l2, l3⟩ from heap_at w _ _ rfl).cell 2
    have HC3 : Hid (∀ wx, Below (w.alloc (.cells #[.int .i64 4, .string ⟨name.toArray⟩, .int .i64 frm, .int .i64 til, .string ⟨text.toArray⟩, .int .i64 n, .int .i64 l1, .int .i64 l2, .int .i64 l3] 26)).heap.size (w.alloc (.cells #[.int .i64 4, .string ⟨name.toArray⟩, .int .i64 frm, .int .i64 til, .string ⟨text.toArray⟩, .int .i64 n, .int .i64 l1, .int .i64 l2, .int .i64 l3] 26)) wx → wx.cell? ⟨w.heap.size, 3, none⟩ = some (.int .i64 til)) := fun wx hb => by rw [hb.cell (by show w.heap.size < _; rw [World.size_alloc]; omega)]; exact (show HasAct _ w.heap.size ⟨4, name, frm, til, text, n, l1, l2, l3⟩ from heap_at w _ _ rfl).cell 3
    have HC4 : Hid (∀ wx, Below (w.alloc (.cells #[.int .i64 4, .string ⟨name.toArray⟩, .int .i64 frm, .int .i64 til, .string ⟨text.toArray⟩, .int .i64 n, .int .i64 l1, .int .i64 l2, .int .i64 l3] 26)).heap.size (w.alloc (.cells #[.int .i64 4, .string ⟨name.toArray⟩, .int .i64 frm, .int .i64 til, .string ⟨text.toArray⟩, .int .i64 n, .int .i64 l1, .int .i64 l2, .int .i64 l3] 26)) wx → wx.cell? ⟨w.heap.size, 4, none⟩ = some (.string ⟨text.toArray⟩)) := fun wx hb => by rw [hb.cell (by show w.heap.size < _; rw [World.size_alloc]; omega)]; exact (show HasAct _ w.heap.size ⟨4, name, frm, til, text, n, l1, l2, l3⟩ from heap_at w _ _ rfl).cell 4
    have HC5 : Hid (∀ wx, Below (w.alloc (.cells #[.int .i64 4, .string ⟨name.toArray⟩, .int .i64 frm, .int .i64 til, .string ⟨text.toArray⟩, .int .i64 n, .int .i64 l1, .int .i64 l2, .int .i64 l3] 26)).heap.size (w.alloc (.cells #[.int .i64 4, .string ⟨name.toArray⟩, .int .i64 frm, .int .i64 til, .string ⟨text.toArray⟩, .int .i64 n, .int .i64 l1, .int .i64 l2, .int .i64 l3] 26)) wx → wx.cell? ⟨w.heap.size, 5, none⟩ = some (.int .i64 n)) := fun wx hb => by rw [hb.cell (by show w.heap.size < _; rw [World.size_alloc]; omega)]; exact (show HasAct _ w.heap.size ⟨4, name, frm, til, text, n, l1, l2, l3⟩ from heap_at w _ _ rfl).cell 5
    have HC6 : Hid (∀ wx, Below (w.alloc (.cells #[.int .i64 4, .string ⟨name.toArray⟩, .int .i64 frm, .int .i64 til, .string ⟨text.toArray⟩, .int .i64 n, .int .i64 l1, .int .i64 l2, .int .i64 l3] 26)).heap.size (w.alloc (.cells #[.int .i64 4, .string ⟨name.toArray⟩, .int .i64 frm, .int .i64 til, .string ⟨text.toArray⟩, .int .i64 n, .int .i64 l1, .int .i64 l2, .int .i64 l3] 26)) wx → wx.cell? ⟨w.heap.size, 6, none⟩ = some (.int .i64 l1)) := fun wx hb => by rw [hb.cell (by show w.heap.size < _; rw [World.size_alloc]; omega)]; exact (show HasAct _ w.heap.size ⟨4, name, frm, til, text, n, l1, l2, l3⟩ from heap_at w _ _ rfl).cell 6
    have HC7 : Hid (∀ wx, Below (w.alloc (.cells #[.int .i64 4, .string ⟨name.toArray⟩, .int .i64 frm, .int .i64 til, .string ⟨text.toArray⟩, .int .i64 n, .int .i64 l1, .int .i64 l2, .int .i64 l3] 26)).heap.size (w.alloc (.cells #[.int .i64 4, .string ⟨name.toArray⟩, .int .i64 frm, .int .i64 til, .string ⟨text.toArray⟩, .int .i64 n, .int .i64 l1, .int .i64 l2, .int .i64 l3] 26)) wx → wx.cell? ⟨w.heap.size, 7, none⟩ = some (.int .i64 l2)) := fun wx hb => by rw [hb.cell (by show w.heap.size < _; rw [World.size_alloc]; omega)]; exact (show HasAct _ w.heap.size ⟨4, name, frm, til, text, n, l1, l2, l3⟩ from heap_at w _ _ rfl).cell 7
    have HC8 : Hid (∀ wx, Below (w.alloc (.cells #[.int .i64 4, .string ⟨name.toArray⟩, .int .i64 frm, .int .i64 til, .string ⟨text.toArray⟩, .int .i64 n, .int .i64 l1, .int .i64 l2, .int .i64 l3] 26)).heap.size (w.alloc (.cells #[.int .i64 4, .string ⟨name.toArray⟩, .int .i64 frm, .int .i64 til, .string ⟨text.toArray⟩, .int .i64 n, .int .i64 l1, .int .i64 l2, .int .i64 l3] 26)) wx → wx.cell? ⟨w.heap.size, 8, none⟩ = some (.int .i64 l3)) := fun wx hb => by rw [hb.cell (by show w.heap.size < _; rw [World.size_alloc]; omega)]; exact (show HasAct _ w.heap.size ⟨4, name, frm, til, text, n, l1, l2, l3⟩ from heap_at w _ _ rfl).cell 8
    go_enter Tryd.func13, Tryd.ntmps13
    go_wp2_with (first | (go_at_call 30; refine (HN.out _).mono ?_; rw [HNO.out]; rintro e w1 ⟨rfl, hb1⟩; have c0 := HC0.out _ hb1; have c1 := HC1.out _ hb1; have c2 := HC2.out _ hb1; have c3 := HC3.out _ hb1; have c4 := HC4.out _ hb1; have c5 := HC5.out _ hb1; have c6 := HC6.out _ hb1; have c7 := HC7.out _ hb1; have c8 := HC8.out _ hb1))
    go_ret2
    have HE : lineErr ⟨4, name, frm, til, text, n, l1, l2, l3⟩ = 1 := by
      rw [err_4]; apply if_neg; intro hh; revert hh; simp [hfrm]
    refine ⟨by rw [HE, lineOf_err _ (by rw [HE]; decide)]; rfl, ?_⟩
    have hbel := (((Below.refl _ _).alloc (Nat.le_refl _) _).trans (hb1.mono (by rw [World.size_alloc]; omega)))
    exact ⟨hbel.os, hbel.tape, hbel.output, hbel.size, hbel.block⟩
  subst hfrm
  by_cases htil : til = 0
  rotate_left
  · have qtil : (til == 0) = false := by simpa using htil
    have HC0 : Hid (∀ wx, Below (w.alloc (.cells #[.int .i64 4, .string ⟨name.toArray⟩, .int .i64 0, .int .i64 til, .string ⟨text.toArray⟩, .int .i64 n, .int .i64 l1, .int .i64 l2, .int .i64 l3] 26)).heap.size (w.alloc (.cells #[.int .i64 4, .string ⟨name.toArray⟩, .int .i64 0, .int .i64 til, .string ⟨text.toArray⟩, .int .i64 n, .int .i64 l1, .int .i64 l2, .int .i64 l3] 26)) wx → wx.cell? ⟨w.heap.size, 0, none⟩ = some (.int .i64 4)) := fun wx hb => by rw [hb.cell (by show w.heap.size < _; rw [World.size_alloc]; omega)]; exact (show HasAct _ w.heap.size ⟨4, name, 0, til, text, n, l1, l2, l3⟩ from heap_at w _ _ rfl).cell 0
    have HC1 : Hid (∀ wx, Below (w.alloc (.cells #[.int .i64 4, .string ⟨name.toArray⟩, .int .i64 0, .int .i64 til, .string ⟨text.toArray⟩, .int .i64 n, .int .i64 l1, .int .i64 l2, .int .i64 l3] 26)).heap.size (w.alloc (.cells #[.int .i64 4, .string ⟨name.toArray⟩, .int .i64 0, .int .i64 til, .string ⟨text.toArray⟩, .int .i64 n, .int .i64 l1, .int .i64 l2, .int .i64 l3] 26)) wx → wx.cell? ⟨w.heap.size, 1, none⟩ = some (.string ⟨name.toArray⟩)) := fun wx hb => by rw [hb.cell (by show w.heap.size < _; rw [World.size_alloc]; omega)]; exact (show HasAct _ w.heap.size ⟨4, name, 0, til, text, n, l1, l2, l3⟩ from heap_at w _ _ rfl).cell 1
    have HC2 : Hid (∀ wx, Below (w.alloc (.cells #[.int .i64 4, .string ⟨name.toArray⟩, .int .i64 0, .int .i64 til, .string ⟨text.toArray⟩, .int .i64 n, .int .i64 l1, .int .i64 l2, .int .i64 l3] 26)).heap.size (w.alloc (.cells #[.int .i64 4, .string ⟨name.toArray⟩, .int .i64 0, .int .i64 til, .string ⟨text.toArray⟩, .int .i64 n, .int .i64 l1, .int .i64 l2, .int .i64 l3] 26)) wx → wx.cell? ⟨w.heap.size, 2, none⟩ = some (.int .i64 0)) := fun wx hb => by rw [hb.cell (by show w.heap.size < _; rw [World.size_alloc]; omega)]; exact (show HasAct _ w.heap.size ⟨4, name, 0, til, text, n, l1, l2, l3⟩ from heap_at w _ _ rfl).cell 2
    have HC3 : Hid (∀ wx, Below (w.alloc (.cells #[.int .i64 4, .string ⟨name.toArray⟩, .int .i64 0, .int .i64 til, .string ⟨text.toArray⟩, .int .i64 n, .int .i64 l1, .int .i64 l2, .int .i64 l3] 26)).heap.size (w.alloc (.cells #[.int .i64 4, .string ⟨name.toArray⟩, .int .i64 0, .int .i64 til, .string ⟨text.toArray⟩, .int .i64 n, .int .i64 l1, .int .i64 l2, .int .i64 l3] 26)) wx → wx.cell? ⟨w.heap.size, 3, none⟩ = some (.int .i64 til)) := fun wx hb => by rw [hb.cell (by show w.heap.size < _; rw [World.size_alloc]; omega)]; exact (show HasAct _ w.heap.size ⟨4, name, 0, til, text, n, l1, l2, l3⟩ from heap_at w _ _ rfl).cell 3
    have HC4 : Hid (∀ wx, Below (w.alloc (.cells #[.int .i64 4, .string ⟨name.toArray⟩, .int .i64 0, .int .i64 til, .string ⟨text.toArray⟩, .int .i64 n, .int .i64 l1, .int .i64 l2, .int .i64 l3] 26)).heap.size (w.alloc (.cells #[.int .i64 4, .string ⟨name.toArray⟩, .int .i64 0, .int .i64 til, .string ⟨text.toArray⟩, .int .i64 n, .int .i64 l1, .int .i64 l2, .int .i64 l3] 26)) wx → wx.cell? ⟨w.heap.size, 4, none⟩ = some (.string ⟨text.toArray⟩)) := fun wx hb => by rw [hb.cell (by show w.heap.size < _; rw [World.size_alloc]; omega)]; exact (show HasAct _ w.heap.size ⟨4, name, 0, til, text, n, l1, l2, l3⟩ from heap_at w _ _ rfl).cell 4
    have HC5 : Hid (∀ wx, Below (w.alloc (.cells #[.int .i64 4, .string ⟨name.toArray⟩, .int .i64 0, .int .i64 til, .string ⟨text.toArray⟩, .int .i64 n, .int .i64 l1, .int .i64 l2, .int .i64 l3] 26)).heap.size (w.alloc (.cells #[.int .i64 4, .string ⟨name.toArray⟩, .int .i64 0, .int .i64 til, .string ⟨text.toArray⟩, .int .i64 n, .int .i64 l1, .int .i64 l2, .int .i64 l3] 26)) wx → wx.cell? ⟨w.heap.size, 5, none⟩ = some (.int .i64 n)) := fun wx hb => by rw [hb.cell (by show w.heap.size < _; rw [World.size_alloc]; omega)]; exact (show HasAct _ w.heap.size ⟨4, name, 0, til, text, n, l1, l2, l3⟩ from heap_at w _ _ rfl).cell 5
    have HC6 : Hid (∀ wx, Below (w.alloc (.cells #[.int .i64 4, .string ⟨name.toArray⟩, .int .i64 0, .int .i64 til, .string ⟨text.toArray⟩, .int .i64 n, .int .i64 l1, .int .i64 l2, .int .i64 l3] 26)).heap.size (w.alloc (.cells #[.int .i64 4, .string ⟨name.toArray⟩, .int .i64 0, .int .i64 til, .string ⟨text.toArray⟩, .int .i64 n, .int .i64 l1, .int .i64 l2, .int .i64 l3] 26)) wx → wx.cell? ⟨w.heap.size, 6, none⟩ = some (.int .i64 l1)) := fun wx hb => by rw [hb.cell (by show w.heap.size < _; rw [World.size_alloc]; omega)]; exact (show HasAct _ w.heap.size ⟨4, name, 0, til, text, n, l1, l2, l3⟩ from heap_at w _ _ rfl).cell 6
    have HC7 : Hid (∀ wx, Below (w.alloc (.cells #[.int .i64 4, .string ⟨name.toArray⟩, .int .i64 0, .int .i64 til, .string ⟨text.toArray⟩, .int .i64 n, .int .i64 l1, .int .i64 l2, .int .i64 l3] 26)).heap.size (w.alloc (.cells #[.int .i64 4, .string ⟨name.toArray⟩, .int .i64 0, .int .i64 til, .string ⟨text.toArray⟩, .int .i64 n, .int .i64 l1, .int .i64 l2, .int .i64 l3] 26)) wx → wx.cell? ⟨w.heap.size, 7, none⟩ = some (.int .i64 l2)) := fun wx hb => by rw [hb.cell (by show w.heap.size < _; rw [World.size_alloc]; omega)]; exact (show HasAct _ w.heap.size ⟨4, name, 0, til, text, n, l1, l2, l3⟩ from heap_at w _ _ rfl).cell 7
    have HC8 : Hid (∀ wx, Below (w.alloc (.cells #[.int .i64 4, .string ⟨name.toArray⟩, .int .i64 0, .int .i64 til, .string ⟨text.toArray⟩, .int .i64 n, .int .i64 l1, .int .i64 l2, .int .i64 l3] 26)).heap.size (w.alloc (.cells #[.int .i64 4, .string ⟨name.toArray⟩, .int .i64 0, .int .i64 til, .string ⟨text.toArray⟩, .int .i64 n, .int .i64 l1, .int .i64 l2, .int .i64 l3] 26)) wx → wx.cell? ⟨w.heap.size, 8, none⟩ = some (.int .i64 l3)) := fun wx hb => by rw [hb.cell (by show w.heap.size < _; rw [World.size_alloc]; omega)]; exact (show HasAct _ w.heap.size ⟨4, name, 0, til, text, n, l1, l2, l3⟩ from heap_at w _ _ rfl).cell 8
    go_enter Tryd.func13, Tryd.ntmps13
    go_wp2_with (first | (go_at_call 30; refine (HN.out _).mono ?_; rw [HNO.out]; rintro e w1 ⟨rfl, hb1⟩; have c0 := HC0.out _ hb1; have c1 := HC1.out _ hb1; have c2 := HC2.out _ hb1; have c3 := HC3.out _ hb1; have c4 := HC4.out _ hb1; have c5 := HC5.out _ hb1; have c6 := HC6.out _ hb1; have c7 := HC7.out _ hb1; have c8 := HC8.out _ hb1))
    go_ret2
    have HE : lineErr ⟨4, name, 0, til, text, n, l1, l2, l3⟩ = 1 := by
      rw [err_4]; apply if_neg; intro hh; revert hh; simp [htil]
    refine ⟨by rw [HE, lineOf_err _ (by rw [HE]; decide)]; rfl, ?_⟩
    have hbel := (((Below.refl _ _).alloc (Nat.le_refl _) _).trans (hb1.mono (by rw [World.size_alloc]; omega)))
    exact ⟨hbel.os, hbel.tape, hbel.output, hbel.size, hbel.block⟩
  subst htil
  cases htx : text with
  | cons ct tt =>
    subst htx
    have HC0 : Hid (∀ wx, Below (w.alloc (.cells #[.int .i64 4, .string ⟨name.toArray⟩, .int .i64 0, .int .i64 0, .string ⟨(ct :: tt).toArray⟩, .int .i64 n, .int .i64 l1, .int .i64 l2, .int .i64 l3] 26)).heap.size (w.alloc (.cells #[.int .i64 4, .string ⟨name.toArray⟩, .int .i64 0, .int .i64 0, .string ⟨(ct :: tt).toArray⟩, .int .i64 n, .int .i64 l1, .int .i64 l2, .int .i64 l3] 26)) wx → wx.cell? ⟨w.heap.size, 0, none⟩ = some (.int .i64 4)) := fun wx hb => by rw [hb.cell (by show w.heap.size < _; rw [World.size_alloc]; omega)]; exact (show HasAct _ w.heap.size ⟨4, name, 0, 0, (ct :: tt), n, l1, l2, l3⟩ from heap_at w _ _ rfl).cell 0
    have HC1 : Hid (∀ wx, Below (w.alloc (.cells #[.int .i64 4, .string ⟨name.toArray⟩, .int .i64 0, .int .i64 0, .string ⟨(ct :: tt).toArray⟩, .int .i64 n, .int .i64 l1, .int .i64 l2, .int .i64 l3] 26)).heap.size (w.alloc (.cells #[.int .i64 4, .string ⟨name.toArray⟩, .int .i64 0, .int .i64 0, .string ⟨(ct :: tt).toArray⟩, .int .i64 n, .int .i64 l1, .int .i64 l2, .int .i64 l3] 26)) wx → wx.cell? ⟨w.heap.size, 1, none⟩ = some (.string ⟨name.toArray⟩)) := fun wx hb => by rw [hb.cell (by show w.heap.size < _; rw [World.size_alloc]; omega)]; exact (show HasAct _ w.heap.size ⟨4, name, 0, 0, (ct :: tt), n, l1, l2, l3⟩ from heap_at w _ _ rfl).cell 1
    have HC2 : Hid (∀ wx, Below (w.alloc (.cells #[.int .i64 4, .string ⟨name.toArray⟩, .int .i64 0, .int .i64 0, .string ⟨(ct :: tt).toArray⟩, .int .i64 n, .int .i64 l1, .int .i64 l2, .int .i64 l3] 26)).heap.size (w.alloc (.cells #[.int .i64 4, .string ⟨name.toArray⟩, .int .i64 0, .int .i64 0, .string ⟨(ct :: tt).toArray⟩, .int .i64 n, .int .i64 l1, .int .i64 l2, .int .i64 l3] 26)) wx → wx.cell? ⟨w.heap.size, 2, none⟩ = some (.int .i64 0)) := fun wx hb => by rw [hb.cell (by show w.heap.size < _; rw [World.size_alloc]; omega)]; exact (show HasAct _ w.heap.size ⟨4, name, 0, 0, (ct :: tt), n, l1, l2, l3⟩ from heap_at w _ _ rfl).cell 2
    have HC3 : Hid (∀ wx, Below (w.alloc (.cells #[.int .i64 4, .string ⟨name.toArray⟩, .int .i64 0, .int .i64 0, .string ⟨(ct :: tt).toArray⟩, .int .i64 n, .int .i64 l1, .int .i64 l2, .int .i64 l3] 26)).heap.size (w.alloc (.cells #[.int .i64 4, .string ⟨name.toArray⟩, .int .i64 0, .int .i64 0, .string ⟨(ct :: tt).toArray⟩, .int .i64 n, .int .i64 l1, .int .i64 l2, .int .i64 l3] 26)) wx → wx.cell? ⟨w.heap.size, 3, none⟩ = some (.int .i64 0)) := fun wx hb => by rw [hb.cell (by show w.heap.size < _; rw [World.size_alloc]; omega)]; exact (show HasAct _ w.heap.size ⟨4, name, 0, 0, (ct :: tt), n, l1, l2, l3⟩ from heap_at w _ _ rfl).cell 3
    have HC4 : Hid (∀ wx, Below (w.alloc (.cells #[.int .i64 4, .string ⟨name.toArray⟩, .int .i64 0, .int .i64 0, .string ⟨(ct :: tt).toArray⟩, .int .i64 n, .int .i64 l1, .int .i64 l2, .int .i64 l3] 26)).heap.size (w.alloc (.cells #[.int .i64 4, .string ⟨name.toArray⟩, .int .i64 0, .int .i64 0, .string ⟨(ct :: tt).toArray⟩, .int .i64 n, .int .i64 l1, .int .i64 l2, .int .i64 l3] 26)) wx → wx.cell? ⟨w.heap.size, 4, none⟩ = some (.string ⟨(ct :: tt).toArray⟩)) := fun wx hb => by rw [hb.cell (by show w.heap.size < _; rw [World.size_alloc]; omega)]; exact (show HasAct _ w.heap.size ⟨4, name, 0, 0, (ct :: tt), n, l1, l2, l3⟩ from heap_at w _ _ rfl).cell 4
    have HC5 : Hid (∀ wx, Below (w.alloc (.cells #[.int .i64 4, .string ⟨name.toArray⟩, .int .i64 0, .int .i64 0, .string ⟨(ct :: tt).toArray⟩, .int .i64 n, .int .i64 l1, .int .i64 l2, .int .i64 l3] 26)).heap.size (w.alloc (.cells #[.int .i64 4, .string ⟨name.toArray⟩, .int .i64 0, .int .i64 0, .string ⟨(ct :: tt).toArray⟩, .int .i64 n, .int .i64 l1, .int .i64 l2, .int .i64 l3] 26)) wx → wx.cell? ⟨w.heap.size, 5, none⟩ = some (.int .i64 n)) := fun wx hb => by rw [hb.cell (by show w.heap.size < _; rw [World.size_alloc]; omega)]; exact (show HasAct _ w.heap.size ⟨4, name, 0, 0, (ct :: tt), n, l1, l2, l3⟩ from heap_at w _ _ rfl).cell 5
    have HC6 : Hid (∀ wx, Below (w.alloc (.cells #[.int .i64 4, .string ⟨name.toArray⟩, .int .i64 0, .int .i64 0, .string ⟨(ct :: tt).toArray⟩, .int .i64 n, .int .i64 l1, .int .i64 l2, .int .i64 l3] 26)).heap.size (w.alloc (.cells #[.int .i64 4, .string ⟨name.toArray⟩, .int .i64 0, .int .i64 0, .string ⟨(ct :: tt).toArray⟩, .int .i64 n, .int .i64 l1, .int .i64 l2, .int .i64 l3] 26)) wx → wx.cell? ⟨w.heap.size, 6, none⟩ = some (.int .i64 l1)) := fun wx hb => by rw [hb.cell (by show w.heap.size < _; rw [World.size_alloc]; omega)]; exact (show HasAct _ w.heap.size ⟨4, name, 0, 0, (ct :: tt), n, l1, l2, l3⟩ from heap_at w _ _ rfl).cell 6
    have HC7 : Hid (∀ wx, Below (w.alloc (.cells #[.int .i64 4, .string ⟨name.toArray⟩, .int .i64 0, .int .i64 0, .string ⟨(ct :: tt).toArray⟩, .int .i64 n, .int .i64 l1, .int .i64 l2, .int .i64 l3] 26)).heap.size (w.alloc (.cells #[.int .i64 4, .string ⟨name.toArray⟩, .int .i64 0, .int .i64 0, .string ⟨(ct :: tt).toArray⟩, .int .i64 n, .int .i64 l1, .int .i64 l2, .int .i64 l3] 26)) wx → wx.cell? ⟨w.heap.size, 7, none⟩ = some (.int .i64 l2)) := fun wx hb => by rw [hb.cell (by show w.heap.size < _; rw [World.size_alloc]; omega)]; exact (show HasAct _ w.heap.size ⟨4, name, 0, 0, (ct :: tt), n, l1, l2, l3⟩ from heap_at w _ _ rfl).cell 7
    have HC8 : Hid (∀ wx, Below (w.alloc (.cells #[.int .i64 4, .string ⟨name.toArray⟩, .int .i64 0, .int .i64 0, .string ⟨(ct :: tt).toArray⟩, .int .i64 n, .int .i64 l1, .int .i64 l2, .int .i64 l3] 26)).heap.size (w.alloc (.cells #[.int .i64 4, .string ⟨name.toArray⟩, .int .i64 0, .int .i64 0, .string ⟨(ct :: tt).toArray⟩, .int .i64 n, .int .i64 l1, .int .i64 l2, .int .i64 l3] 26)) wx → wx.cell? ⟨w.heap.size, 8, none⟩ = some (.int .i64 l3)) := fun wx hb => by rw [hb.cell (by show w.heap.size < _; rw [World.size_alloc]; omega)]; exact (show HasAct _ w.heap.size ⟨4, name, 0, 0, (ct :: tt), n, l1, l2, l3⟩ from heap_at w _ _ rfl).cell 8
    go_enter Tryd.func13, Tryd.ntmps13
    go_wp2_with (first | (go_at_call 30; refine (HN.out _).mono ?_; rw [HNO.out]; rintro e w1 ⟨rfl, hb1⟩; have c0 := HC0.out _ hb1; have c1 := HC1.out _ hb1; have c2 := HC2.out _ hb1; have c3 := HC3.out _ hb1; have c4 := HC4.out _ hb1; have c5 := HC5.out _ hb1; have c6 := HC6.out _ hb1; have c7 := HC7.out _ hb1; have c8 := HC8.out _ hb1))
    go_ret2
    have HE : lineErr ⟨4, name, 0, 0, (ct :: tt), n, l1, l2, l3⟩ = 1 := by
      rw [err_4]; apply if_neg; intro hh; revert hh; simp
    refine ⟨by rw [HE, lineOf_err _ (by rw [HE]; decide)]; rfl, ?_⟩
    have hbel := (((Below.refl _ _).alloc (Nat.le_refl _) _).trans (hb1.mono (by rw [World.size_alloc]; omega)))
    exact ⟨hbel.os, hbel.tape, hbel.output, hbel.size, hbel.block⟩
  | nil =>
    subst htx
    by_cases hn : n = 0
    rotate_left
    · have qn : (n == 0) = false := by simpa using hn
      have HC0 : Hid (∀ wx, Below (w.alloc (.cells #[.int .i64 4, .string ⟨name.toArray⟩, .int .i64 0, .int .i64 0, .string ⟨([] : Bs).toArray⟩, .int .i64 n, .int .i64 l1, .int .i64 l2, .int .i64 l3] 26)).heap.size (w.alloc (.cells #[.int .i64 4, .string ⟨name.toArray⟩, .int .i64 0, .int .i64 0, .string ⟨([] : Bs).toArray⟩, .int .i64 n, .int .i64 l1, .int .i64 l2, .int .i64 l3] 26)) wx → wx.cell? ⟨w.heap.size, 0, none⟩ = some (.int .i64 4)) := fun wx hb => by rw [hb.cell (by show w.heap.size < _; rw [World.size_alloc]; omega)]; exact (show HasAct _ w.heap.size ⟨4, name, 0, 0, ([] : Bs), n, l1, l2, l3⟩ from heap_at w _ _ rfl).cell 0
      have HC1 : Hid (∀ wx, Below (w.alloc (.cells #[.int .i64 4, .string ⟨name.toArray⟩, .int .i64 0, .int .i64 0, .string ⟨([] : Bs).toArray⟩, .int .i64 n, .int .i64 l1, .int .i64 l2, .int .i64 l3] 26)).heap.size (w.alloc (.cells #[.int .i64 4, .string ⟨name.toArray⟩, .int .i64 0, .int .i64 0, .string ⟨([] : Bs).toArray⟩, .int .i64 n, .int .i64 l1, .int .i64 l2, .int .i64 l3] 26)) wx → wx.cell? ⟨w.heap.size, 1, none⟩ = some (.string ⟨name.toArray⟩)) := fun wx hb => by rw [hb.cell (by show w.heap.size < _; rw [World.size_alloc]; omega)]; exact (show HasAct _ w.heap.size ⟨4, name, 0, 0, ([] : Bs), n, l1, l2, l3⟩ from heap_at w _ _ rfl).cell 1
      have HC2 : Hid (∀ wx, Below (w.alloc (.cells #[.int .i64 4, .string ⟨name.toArray⟩, .int .i64 0, .int .i64 0, .string ⟨([] : Bs).toArray⟩, .int .i64 n, .int .i64 l1, .int .i64 l2, .int .i64 l3] 26)).heap.size (w.alloc (.cells #[.int .i64 4, .string ⟨name.toArray⟩, .int .i64 0, .int .i64 0, .string ⟨([] : Bs).toArray⟩, .int .i64 n, .int .i64 l1, .int .i64 l2, .int .i64 l3] 26)) wx → wx.cell? ⟨w.heap.size, 2, none⟩ = some (.int .i64 0)) := fun wx hb => by rw [hb.cell (by show w.heap.size < _; rw [World.size_alloc]; omega)]; exact (show HasAct _ w.heap.size ⟨4, name, 0, 0, ([] : Bs), n, l1, l2, l3⟩ from heap_at w _ _ rfl).cell 2
      have HC3 : Hid (∀ wx, Below (w.alloc (.cells #[.int .i64 4, .string ⟨name.toArray⟩, .int .i64 0, .int .i64 0, .string ⟨([] : Bs).toArray⟩, .int .i64 n, .int .i64 l1, .int .i64 l2, .int .i64 l3] 26)).heap.size (w.alloc (.cells #[.int .i64 4, .string ⟨name.toArray⟩, .int .i64 0, .int .i64 0, .string ⟨([] : Bs).toArray⟩, .int .i64 n, .int .i64 l1, .int .i64 l2, .int .i64 l3] 26)) wx → wx.cell? ⟨w.heap.size, 3, none⟩ = some (.int .i64 0)) := fun wx hb => by rw [hb.cell (by show w.heap.size < _; rw [World.size_alloc]; omega)]; exact (show HasAct _ w.heap.size ⟨4, name, 0, 0, ([] : Bs), n, l1, l2, l3⟩ from heap_at w _ _ rfl).cell 3
      have HC4 : Hid (∀ wx, Below (w.alloc (.cells #[.int .i64 4, .string ⟨name.toArray⟩, .int .i64 0, .int .i64 0, .string ⟨([] : Bs).toArray⟩, .int .i64 n, .int .i64 l1, .int .i64 l2, .int .i64 l3] 26)).heap.size (w.alloc (.cells #[.int .i64 4, .string ⟨name.toArray⟩, .int .i64 0, .int .i64 0, .string ⟨([] : Bs).toArray⟩, .int .i64 n, .int .i64 l1, .int .i64 l2, .int .i64 l3] 26)) wx → wx.cell? ⟨w.heap.size, 4, none⟩ = some (.string ⟨([] : Bs).toArray⟩)) := fun wx hb => by rw [hb.cell (by show w.heap.size < _; rw [World.size_alloc]; omega)]; exact (show HasAct _ w.heap.size ⟨4, name, 0, 0, ([] : Bs), n, l1, l2, l3⟩ from heap_at w _ _ rfl).cell 4
      have HC5 : Hid (∀ wx, Below (w.alloc (.cells #[.int .i64 4, .string ⟨name.toArray⟩, .int .i64 0, .int .i64 0, .string ⟨([] : Bs).toArray⟩, .int .i64 n, .int .i64 l1, .int .i64 l2, .int .i64 l3] 26)).heap.size (w.alloc (.cells #[.int .i64 4, .string ⟨name.toArray⟩, .int .i64 0, .int .i64 0, .string ⟨([] : Bs).toArray⟩, .int .i64 n, .int .i64 l1, .int .i64 l2, .int .i64 l3] 26)) wx → wx.cell? ⟨w.heap.size, 5, none⟩ = some (.int .i64 n)) := fun wx hb => by rw [hb.cell (by show w.heap.size < _; rw [World.size_alloc]; omega)]; exact (show HasAct _ w.heap.size ⟨4, name, 0, 0, ([] : Bs), n, l1, l2, l3⟩ from heap_at w _ _ rfl).cell 5
      have HC6 : Hid (∀ wx, Below (w.alloc (.cells #[.int .i64 4, .string ⟨name.toArray⟩, .int .i64 0, .int .i64 0, .string ⟨([] : Bs).toArray⟩, .int .i64 n, .int .i64 l1, .int .i64 l2, .int .i64 l3] 26)).heap.size (w.alloc (.cells #[.int .i64 4, .string ⟨name.toArray⟩, .int .i64 0, .int .i64 0, .string ⟨([] : Bs).toArray⟩, .int .i64 n, .int .i64 l1, .int .i64 l2, .int .i64 l3] 26)) wx → wx.cell? ⟨w.heap.size, 6, none⟩ = some (.int .i64 l1)) := fun wx hb => by rw [hb.cell (by show w.heap.size < _; rw [World.size_alloc]; omega)]; exact (show HasAct _ w.heap.size ⟨4, name, 0, 0, ([] : Bs), n, l1, l2, l3⟩ from heap_at w _ _ rfl).cell 6
      have HC7 : Hid (∀ wx, Below (w.alloc (.cells #[.int .i64 4, .string ⟨name.toArray⟩, .int .i64 0, .int .i64 0, .string ⟨([] : Bs).toArray⟩, .int .i64 n, .int .i64 l1, .int .i64 l2, .int .i64 l3] 26)).heap.size (w.alloc (.cells #[.int .i64 4, .string ⟨name.toArray⟩, .int .i64 0, .int .i64 0, .string ⟨([] : Bs).toArray⟩, .int .i64 n, .int .i64 l1, .int .i64 l2, .int .i64 l3] 26)) wx → wx.cell? ⟨w.heap.size, 7, none⟩ = some (.int .i64 l2)) := fun wx hb => by rw [hb.cell (by show w.heap.size < _; rw [World.size_alloc]; omega)]; exact (show HasAct _ w.heap.size ⟨4, name, 0, 0, ([] : Bs), n, l1, l2, l3⟩ from heap_at w _ _ rfl).cell 7
      have HC8 : Hid (∀ wx, Below (w.alloc (.cells #[.int .i64 4, .string ⟨name.toArray⟩, .int .i64 0, .int .i64 0, .string ⟨([] : Bs).toArray⟩, .int .i64 n, .int .i64 l1, .int .i64 l2, .int .i64 l3] 26)).heap.size (w.alloc (.cells #[.int .i64 4, .string ⟨name.toArray⟩, .int .i64 0, .int .i64 0, .string ⟨([] : Bs).toArray⟩, .int .i64 n, .int .i64 l1, .int .i64 l2, .int .i64 l3] 26)) wx → wx.cell? ⟨w.heap.size, 8, none⟩ = some (.int .i64 l3)) := fun wx hb => by rw [hb.cell (by show w.heap.size < _; rw [World.size_alloc]; omega)]; exact (show HasAct _ w.heap.size ⟨4, name, 0, 0, ([] : Bs), n, l1, l2, l3⟩ from heap_at w _ _ rfl).cell 8
      go_enter Tryd.func13, Tryd.ntmps13
      go_wp2_with (first | (go_at_call 30; refine (HN.out _).mono ?_; rw [HNO.out]; rintro e w1 ⟨rfl, hb1⟩; have c0 := HC0.out _ hb1; have c1 := HC1.out _ hb1; have c2 := HC2.out _ hb1; have c3 := HC3.out _ hb1; have c4 := HC4.out _ hb1; have c5 := HC5.out _ hb1; have c6 := HC6.out _ hb1; have c7 := HC7.out _ hb1; have c8 := HC8.out _ hb1))
      go_ret2
      have HE : lineErr ⟨4, name, 0, 0, ([] : Bs), n, l1, l2, l3⟩ = 1 := by
        rw [err_4]; apply if_neg; intro hh; revert hh; simp [hn]
      refine ⟨by rw [HE, lineOf_err _ (by rw [HE]; decide)]; rfl, ?_⟩
      have hbel := (((Below.refl _ _).alloc (Nat.le_refl _) _).trans (hb1.mono (by rw [World.size_alloc]; omega)))
      exact ⟨hbel.os, hbel.tape, hbel.output, hbel.size, hbel.block⟩
    subst hn
    cases hlm : limNe l1 l2 l3 with
    | true =>
      have hq : ∀ wx, Sem.run Tryd.prog (binOp .neq 24 (.agg #[.int .i64 l1, .int .i64 l2, .int .i64 l3]) (.agg #[.int .i64 0, .int .i64 0, .int .i64 0])) wx = .ok (.bool true) wx := fun wx => by rw [neq_lim, hlm]
      have HC0 : Hid (∀ wx, Below (w.alloc (.cells #[.int .i64 4, .string ⟨name.toArray⟩, .int .i64 0, .int .i64 0, .string ⟨([] : Bs).toArray⟩, .int .i64 0, .int .i64 l1, .int .i64 l2, .int .i64 l3] 26)).heap.size (w.alloc (.cells #[.int .i64 4, .string ⟨name.toArray⟩, .int .i64 0, .int .i64 0, .string ⟨([] : Bs).toArray⟩, .int .i64 0, .int .i64 l1, .int .i64 l2, .int .i64 l3] 26)) wx → wx.cell? ⟨w.heap.size, 0, none⟩ = some (.int .i64 4)) := fun wx hb => by rw [hb.cell (by show w.heap.size < _; rw [World.size_alloc]; omega)]; exact (show HasAct _ w.heap.size ⟨4, name, 0, 0, ([] : Bs), 0, l1, l2, l3⟩ from heap_at w _ _ rfl).cell 0
      have HC1 : Hid (∀ wx, Below (w.alloc (.cells #[.int .i64 4, .string ⟨name.toArray⟩, .int .i64 0, .int .i64 0, .string ⟨([] : Bs).toArray⟩, .int .i64 0, .int .i64 l1, .int .i64 l2, .int .i64 l3] 26)).heap.size (w.alloc (.cells #[.int .i64 4, .string ⟨name.toArray⟩, .int .i64 0, .int .i64 0, .string ⟨([] : Bs).toArray⟩, .int .i64 0, .int .i64 l1, .int .i64 l2, .int .i64 l3] 26)) wx → wx.cell? ⟨w.heap.size, 1, none⟩ = some (.string ⟨name.toArray⟩)) := fun wx hb => by rw [hb.cell (by show w.heap.size < _; rw [World.size_alloc]; omega)]; exact (show HasAct _ w.heap.size ⟨4, name, 0, 0, ([] : Bs), 0, l1, l2, l3⟩ from heap_at w _ _ rfl).cell 1
      have HC2 : Hid (∀ wx, Below (w.alloc (.cells #[.int .i64 4, .string ⟨name.toArray⟩, .int .i64 0, .int .i64 0, .string ⟨([] : Bs).toArray⟩, .int .i64 0, .int .i64 l1, .int .i64 l2, .int .i64 l3] 26)).heap.size (w.alloc (.cells #[.int .i64 4, .string ⟨name.toArray⟩, .int .i64 0, .int .i64 0, .string ⟨([] : Bs).toArray⟩, .int .i64 0, .int .i64 l1, .int .i64 l2, .int .i64 l3] 26)) wx → wx.cell? ⟨w.heap.size, 2, none⟩ = some (.int .i64 0)) := fun wx hb => by rw [hb.cell (by show w.heap.size < _; rw [World.size_alloc]; omega)]; exact (show HasAct _ w.heap.size ⟨4, name, 0, 0, ([] : Bs), 0, l1, l2, l3⟩ from heap_at w _ _ rfl).cell 2
      have HC3 : Hid (∀ wx, Below (w.alloc (.cells #[.int .i64 4, .string ⟨name.toArray⟩, .int .i64 0, .int .i64 0, .string ⟨([] : Bs).toArray⟩, .int .i64 0, .int .i64 l1, .int .i64 l2, .int .i64 l3] 26)).heap.size (w.alloc (.cells #[.int .i64 4, .string ⟨name.toArray⟩, .int .i64 0, .int .i64 0, .string ⟨([] : Bs).toArray⟩, .int .i64 0, .int .i64 l1, .int .i64 l2, .int .i64 l3] 26)) wx → wx.cell? ⟨w.heap.size, 3, none⟩ = some (.int .i64 0)) := fun wx hb => by rw [hb.cell (by show w.heap.size < _; rw [World.size_alloc]; omega)]; exact (show HasAct _ w.heap.size ⟨4, name, 0, 0, ([] : Bs), 0, l1, l2, l3⟩ from heap_at w _ _ rfl).cell 3
      have HC4 : Hid (∀ wx, Below (w.alloc (.cells #[.int .i64 4, .string ⟨name.toArray⟩, .int .i64 0, .int .i64 0, .string ⟨([] : Bs).toArray⟩, .int .i64 0, .int .i64 l1, .int .i64 l2, .int .i64 l3] 26)).heap.size (w.alloc (.cells #[.int .i64 4, .string ⟨name.toArray⟩, .int .i64 0, .int .i64 0, .string ⟨([] : Bs).toArray⟩, .int .i64 0, .int .i64 l1, .int .i64 l2, .int .i64 l3] 26)) wx → wx.cell? ⟨w.heap.size, 4, none⟩ = some (.string ⟨([] : Bs).toArray⟩)) := fun wx hb => by rw [hb.cell (by show w.heap.size < _; rw [World.size_alloc]; omega)]; exact (show HasAct _ w.heap.size ⟨4, name, 0, 0, ([] : Bs), 0, l1, l2, l3⟩ from heap_at w _ _ rfl).cell 4
      have HC5 : Hid (∀ wx, Below (w.alloc (.cells #[.int .i64 4, .string ⟨name.toArray⟩, .int .i64 0, .int .i64 0, .string ⟨([] : Bs).toArray⟩, .int .i64 0, .int .i64 l1, .int .i64 l2, .int .i64 l3] 26)).heap.size (w.alloc (.cells #[.int .i64 4, .string ⟨name.toArray⟩, .int .i64 0, .int .i64 0, .string ⟨([] : Bs).toArray⟩, .int .i64 0, .int .i64 l1, .int .i64 l2, .int .i64 l3] 26)) wx → wx.cell? ⟨w.heap.size, 5, none⟩ = some (.int .i64 0)) := fun wx hb => by rw [hb.cell (by show w.heap.size < _; rw [World.size_alloc]; omega)]; exact (show HasAct _ w.heap.size ⟨4, name, 0, 0, ([] : Bs), 0, l1, l2, l3⟩ from heap_at w _ _ rfl).cell 5
      have HC6 : Hid (∀ wx, Below (w.alloc (.cells #[.int .i64 4, .string ⟨name.toArray⟩, .int .i64 0, .int .i64 0, .string ⟨([] : Bs).toArray⟩, .int .i64 0, .int .i64 l1, .int .i64 l2, .int .i64 l3] 26)).heap.size (w.alloc (.cells #[.int .i64 4, .string ⟨name.toArray⟩, .int .i64 0, .int .i64 0, .string ⟨([] : Bs).toArray⟩, .int .i64 0, .int .i64 l1, .int .i64 l2, .int .i64 l3] 26)) wx → wx.cell? ⟨w.heap.size, 6, none⟩ = some (.int .i64 l1)) := fun wx hb => by rw [hb.cell (by show w.heap.size < _; rw [World.size_alloc]; omega)]; exact (show HasAct _ w.heap.size ⟨4, name, 0, 0, ([] : Bs), 0, l1, l2, l3⟩ from heap_at w _ _ rfl).cell 6
      have HC7 : Hid (∀ wx, Below (w.alloc (.cells #[.int .i64 4, .string ⟨name.toArray⟩, .int .i64 0, .int .i64 0, .string ⟨([] : Bs).toArray⟩, .int .i64 0, .int .i64 l1, .int .i64 l2, .int .i64 l3] 26)).heap.size (w.alloc (.cells #[.int .i64 4, .string ⟨name.toArray⟩, .int .i64 0, .int .i64 0, .string ⟨([] : Bs).toArray⟩, .int .i64 0, .int .i64 l1, .int .i64 l2, .int .i64 l3] 26)) wx → wx.cell? ⟨w.heap.size, 7, none⟩ = some (.int .i64 l2)) := fun wx hb => by rw [hb.cell (by show w.heap.size < _; rw [World.size_alloc]; omega)]; exact (show HasAct _ w.heap.size ⟨4, name, 0, 0, ([] : Bs), 0, l1, l2, l3⟩ from heap_at w _ _ rfl).cell 7
      have HC8 : Hid (∀ wx, Below (w.alloc (.cells #[.int .i64 4, .string ⟨name.toArray⟩, .int .i64 0, .int .i64 0, .string ⟨([] : Bs).toArray⟩, .int .i64 0, .int .i64 l1, .int .i64 l2, .int .i64 l3] 26)).heap.size (w.alloc (.cells #[.int .i64 4, .string ⟨name.toArray⟩, .int .i64 0, .int .i64 0, .string ⟨([] : Bs).toArray⟩, .int .i64 0, .int .i64 l1, .int .i64 l2, .int .i64 l3] 26)) wx → wx.cell? ⟨w.heap.size, 8, none⟩ = some (.int .i64 l3)) := fun wx hb => by rw [hb.cell (by show w.heap.size < _; rw [World.size_alloc]; omega)]; exact (show HasAct _ w.heap.size ⟨4, name, 0, 0, ([] : Bs), 0, l1, l2, l3⟩ from heap_at w _ _ rfl).cell 8
      go_enter Tryd.func13, Tryd.ntmps13
      go_wp2_with (first | (go_at_call 30; refine (HN.out _).mono ?_; rw [HNO.out]; rintro e w1 ⟨rfl, hb1⟩; have c0 := HC0.out _ hb1; have c1 := HC1.out _ hb1; have c2 := HC2.out _ hb1; have c3 := HC3.out _ hb1; have c4 := HC4.out _ hb1; have c5 := HC5.out _ hb1; have c6 := HC6.out _ hb1; have c7 := HC7.out _ hb1; have c8 := HC8.out _ hb1))
      go_ret2
      have HE : lineErr ⟨4, name, 0, 0, ([] : Bs), 0, l1, l2, l3⟩ = 1 := by
        rw [err_4]; apply if_neg; intro hh; revert hh; simp only [limNe, decide_eq_true_iff] at hlm; grind
      refine ⟨by rw [HE, lineOf_err _ (by rw [HE]; decide)]; rfl, ?_⟩
      have hbel := (((Below.refl _ _).alloc (Nat.le_refl _) _).trans (hb1.mono (by rw [World.size_alloc]; omega)))
      exact ⟨hbel.os, hbel.tape, hbel.output, hbel.size, hbel.block⟩
    | false =>
      have hlz : l1 = 0 ∧ l2 = 0 ∧ l3 = 0 := by simp only [limNe, decide_eq_false_iff_not, Decidable.not_not] at hlm; exact hlm
      clear hlm
      obtain ⟨rfl, rfl, rfl⟩ := hlz
      have hq : ∀ wx, Sem.run Tryd.prog (binOp .neq 24 (.agg #[.int .i64 0, .int .i64 0, .int .i64 0]) (.agg #[.int .i64 0, .int .i64 0, .int .i64 0])) wx = .ok (.bool false) wx := fun wx => by rw [neq_lim]; rfl
      have HC0 : Hid (∀ wx, Below (w.alloc (.cells #[.int .i64 4, .string ⟨name.toArray⟩, .int .i64 0, .int .i64 0, .string ⟨([] : Bs).toArray⟩, .int .i64 0, .int .i64 0, .int .i64 0, .int .i64 0] 26)).heap.size (w.alloc (.cells #[.int .i64 4, .string ⟨name.toArray⟩, .int .i64 0, .int .i64 0, .string ⟨([] : Bs).toArray⟩, .int .i64 0, .int .i64 0, .int .i64 0, .int .i64 0] 26)) wx → wx.cell? ⟨w.heap.size, 0, none⟩ = some (.int .i64 4)) := fun wx hb => by rw [hb.cell (by show w.heap.size < _; rw [World.size_alloc]; omega)]; exact (show HasAct _ w.heap.size ⟨4, name, 0, 0, ([] : Bs), 0, 0, 0, 0⟩ from heap_at w _ _ rfl).cell 0
      have HC1 : Hid (∀ wx, Below (w.alloc (.cells #[.int .i64 4, .string ⟨name.toArray⟩, .int .i64 0, .int .i64 0, .string ⟨([] : Bs).toArray⟩, .int .i64 0, .int .i64 0, .int .i64 0, .int .i64 0] 26)).heap.size (w.alloc (.cells #[.int .i64 4, .string ⟨name.toArray⟩, .int .i64 0, .int .i64 0, .string ⟨([] : Bs).toArray⟩, .int .i64 0, .int .i64 0, .int .i64 0, .int .i64 0] 26)) wx → wx.cell? ⟨w.heap.size, 1, none⟩ = some (.string ⟨name.toArray⟩)) := fun wx hb => by rw [hb.cell (by show w.heap.size < _; rw [World.size_alloc]; omega)]; exact (show HasAct _ w.heap.size ⟨4, name, 0, 0, ([] : Bs), 0, 0, 0, 0⟩ from heap_at w _ _ rfl).cell 1
      have HC2 : Hid (∀ wx, Below (w.alloc (.cells #[.int .i64 4, .string ⟨name.toArray⟩, .int .i64 0, .int .i64 0, .string ⟨([] : Bs).toArray⟩, .int .i64 0, .int .i64 0, .int .i64 0, .int .i64 0] 26)).heap.size (w.alloc (.cells #[.int .i64 4, .string ⟨name.toArray⟩, .int .i64 0, .int .i64 0, .string ⟨([] : Bs).toArray⟩, .int .i64 0, .int .i64 0, .int .i64 0, .int .i64 0] 26)) wx → wx.cell? ⟨w.heap.size, 2, none⟩ = some (.int .i64 0)) := fun wx hb => by rw [hb.cell (by show w.heap.size < _; rw [World.size_alloc]; omega)]; exact (show HasAct _ w.heap.size ⟨4, name, 0, 0, ([] : Bs), 0, 0, 0, 0⟩ from heap_at w _ _ rfl).cell 2
      have HC3 : Hid (∀ wx, Below (w.alloc (.cells #[.int .i64 4, .string ⟨name.toArray⟩, .int .i64 0, .int .i64 0, .string ⟨([] : Bs).toArray⟩, .int .i64 0, .int .i64 0, .int .i64 0, .int .i64 0] 26)).heap.size (w.alloc (.cells #[.int .i64 4, .string ⟨name.toArray⟩, .int .i64 0, .int .i64 0, .string ⟨([] : Bs).toArray⟩, .int .i64 0, .int .i64 0, .int .i64 0, .int .i64 0] 26)) wx → wx.cell? ⟨w.heap.size, 3, none⟩ = some (.int .i64 0)) := fun wx hb => by rw [hb.cell (by show w.heap.size < _; rw [World.size_alloc]; omega)]; exact (show HasAct _ w.heap.size ⟨4, name, 0, 0, ([] : Bs), 0, 0, 0, 0⟩ from heap_at w _ _ rfl).cell 3
      have HC4 : Hid (∀ wx, Below (w.alloc (.cells #[.int .i64 4, .string ⟨name.toArray⟩, .int .i64 0, .int .i64 0, .string ⟨([] : Bs).toArray⟩, .int .i64 0, .int .i64 0, .int .i64 0, .int .i64 0] 26)).heap.size (w.alloc (.cells #[.int .i64 4, .string ⟨name.toArray⟩, .int .i64 0, .int .i64 0, .string ⟨([] : Bs).toArray⟩, .int .i64 0, .int .i64 0, .int .i64 0, .int .i64 0] 26)) wx → wx.cell? ⟨w.heap.size, 4, none⟩ = some (.string ⟨([] : Bs).toArray⟩)) := fun wx hb => by rw [hb.cell (by show w.heap.size < _; rw [World.size_alloc]; omega)]; exact (show HasAct _ w.heap.size ⟨4, name, 0, 0, ([] : Bs), 0, 0, 0, 0⟩ from heap_at w _ _ rfl).cell 4
      have HC5 : Hid (∀ wx, Below (w.alloc (.cells #[.int .i64 4, .string ⟨name.toArray⟩, .int .i64 0, .int .i64 0, .string ⟨([] : Bs).toArray⟩, .int .i64 0, .int .i64 0, .int .i64 0, .int .i64 0] 26)).heap.size (w.alloc (.cells #[.int .i64 4, .string ⟨name.toArray⟩, .int .i64 0, .int .i64 0, .string ⟨([] : Bs).toArray⟩, .int .i64 0, .int .i64 0, .int .i64 0, .int .i64 0] 26)) wx → wx.cell? ⟨w.heap.size, 5, none⟩ = some (.int .i64 0)) := fun wx hb => by rw [hb.cell (by show w.heap.size < _; rw [World.size_alloc]; omega)]; exact (show HasAct _ w.heap.size ⟨4, name, 0, 0, ([] : Bs), 0, 0, 0, 0⟩ from heap_at w _ _ rfl).cell 5
      have HC6 : Hid (∀ wx, Below (w.alloc (.cells #[.int .i64 4, .string ⟨name.toArray⟩, .int .i64 0, .int .i64 0, .string ⟨([] : Bs).toArray⟩, .int .i64 0, .int .i64 0, .int .i64 0, .int .i64 0] 26)).heap.size (w.alloc (.cells #[.int .i64 4, .string ⟨name.toArray⟩, .int .i64 0, .int .i64 0, .string ⟨([] : Bs).toArray⟩, .int .i64 0, .int .i64 0, .int .i64 0, .int .i64 0] 26)) wx → wx.cell? ⟨w.heap.size, 6, none⟩ = some (.int .i64 0)) := fun wx hb => by rw [hb.cell (by show w.heap.size < _; rw [World.size_alloc]; omega)]; exact (show HasAct _ w.heap.size ⟨4, name, 0, 0, ([] : Bs), 0, 0, 0, 0⟩ from heap_at w _ _ rfl).cell 6
      have HC7 : Hid (∀ wx, Below (w.alloc (.cells #[.int .i64 4, .string ⟨name.toArray⟩, .int .i64 0, .int .i64 0, .string ⟨([] : Bs).toArray⟩, .int .i64 0, .int .i64 0, .int .i64 0, .int .i64 0] 26)).heap.size (w.alloc (.cells #[.int .i64 4, .string ⟨name.toArray⟩, .int .i64 0, .int .i64 0, .string ⟨([] : Bs).toArray⟩, .int .i64 0, .int .i64 0, .int .i64 0, .int .i64 0] 26)) wx → wx.cell? ⟨w.heap.size, 7, none⟩ = some (.int .i64 0)) := fun wx hb => by rw [hb.cell (by show w.heap.size < _; rw [World.size_alloc]; omega)]; exact (show HasAct _ w.heap.size ⟨4, name, 0, 0, ([] : Bs), 0, 0, 0, 0⟩ from heap_at w _ _ rfl).cell 7
      have HC8 : Hid (∀ wx, Below (w.alloc (.cells #[.int .i64 4, .string ⟨name.toArray⟩, .int .i64 0, .int .i64 0, .string ⟨([] : Bs).toArray⟩, .int .i64 0, .int .i64 0, .int .i64 0, .int .i64 0] 26)).heap.size (w.alloc (.cells #[.int .i64 4, .string ⟨name.toArray⟩, .int .i64 0, .int .i64 0, .string ⟨([] : Bs).toArray⟩, .int .i64 0, .int .i64 0, .int .i64 0, .int .i64 0] 26)) wx → wx.cell? ⟨w.heap.size, 8, none⟩ = some (.int .i64 0)) := fun wx hb => by rw [hb.cell (by show w.heap.size < _; rw [World.size_alloc]; omega)]; exact (show HasAct _ w.heap.size ⟨4, name, 0, 0, ([] : Bs), 0, 0, 0, 0⟩ from heap_at w _ _ rfl).cell 8
      have hnl : name.length ≤ 100000 := HF.out.name
      have z0 : ¬ (9223372036854775807 < 6 + name.length) := by omega
      go_enter Tryd.func13, Tryd.ntmps13
      go_wp2_with (first | (go_at_call 30; refine (HN.out _).mono ?_; rw [HNO.out]; rintro e w1 ⟨rfl, hb1⟩; have c0 := HC0.out _ hb1; have c1 := HC1.out _ hb1; have c2 := HC2.out _ hb1; have c3 := HC3.out _ hb1; have c4 := HC4.out _ hb1; have c5 := HC5.out _ hb1; have c6 := HC6.out _ hb1; have c7 := HC7.out _ hb1; have c8 := HC8.out _ hb1))
      go_ret2
      have HE : lineErr ⟨4, name, 0, 0, ([] : Bs), 0, 0, 0, 0⟩ = 0 := by rw [err_4, if_pos (by simp [HNO.out])]
      have HT : lineOf ⟨4, name, 0, 0, ([] : Bs), 0, 0, 0, 0⟩ = lineText ⟨4, name, 0, 0, ([] : Bs), 0, 0, 0, 0⟩ := by unfold lineOf; rw [if_pos HE]
      refine ⟨by rw [HE, HT]; exact tup_ret (by simp [lineText, wordOf, useOf, tell, ByteArray.data_append]), ?_⟩
      have hbel := (((Below.refl _ _).alloc (Nat.le_refl _) _).trans (hb1.mono (by rw [World.size_alloc]; omega)))
      exact ⟨hbel.os, hbel.tape, hbel.output, hbel.size, hbel.block⟩
end Go.Proofs.YtelehacakbaobaaDoor


namespace Go.Proofs.YtelehacakbaobaaDoor
open Go.RowKit
set_option linter.unusedVariables false
set_option linter.unusedSimpArgs false

set_option maxRecDepth 100000 in
set_option maxHeartbeats 4000000 in
theorem ref_line_5 (name : Bs) (frm til : Int) (text : Bs) (n l1 l2 l3 : Int) (hf : TAct.Fits ⟨5, name, frm, til, text, n, l1, l2, l3⟩) (w : World) :
    Calls Tryd.prog 13 #[.agg #[.int .i64 5, .string ⟨name.toArray⟩, .int .i64 frm, .int .i64 til, .string ⟨text.toArray⟩, .int .i64 n, .int .i64 l1, .int .i64 l2, .int .i64 l3]] w fun e w' =>
      e = .returned (.tuple #[.string ⟨(lineOf ⟨5, name, frm, til, text, n, l1, l2, l3⟩).toArray⟩, .int .i64 (lineErr ⟨5, name, frm, til, text, n, l1, l2, l3⟩)]) ∧ Below w.heap.size w w' := by
  have HN := Lib.hid (fun wx => ref_name_call name hf.name wx)
  have HF := Lib.hid hf
  clear hf
  by_cases hno : nameOk name = true
  rotate_left
  · have HNO : Hid (nameOk name = false) := by show _ = _; simpa using hno
    clear hno
    have HC0 : Hid (∀ wx, Below (w.alloc (.cells #[.int .i64 5, .string ⟨name.toArray⟩, .int .i64 frm, .int .i64 til, .string ⟨text.toArray⟩, .int .i64 n, .int .i64 l1, .int .i64 l2, .int .i64 l3] 26)).heap.size (w.alloc (.cells #[.int .i64 5, .string ⟨name.toArray⟩, .int .i64 frm, .int .i64 til, .string ⟨text.toArray⟩, .int .i64 n, .int .i64 l1, .int .i64 l2, .int .i64 l3] 26)) wx → wx.cell? ⟨w.heap.size, 0, none⟩ = some (.int .i64 5)) := fun wx hb => by rw [hb.cell (by show w.heap.size < _; rw [World.size_alloc]; omega)]; exact (show HasAct _ w.heap.size ⟨5, name, frm, til, text, n, l1, l2, l3⟩ from heap_at w _ _ rfl).cell 0
    have HC1 : Hid (∀ wx, Below (w.alloc (.cells #[.int .i64 5, .string ⟨name.toArray⟩, .int .i64 frm, .int .i64 til, .string ⟨text.toArray⟩, .int .i64 n, .int .i64 l1, .int .i64 l2, .int .i64 l3] 26)).heap.size (w.alloc (.cells #[.int .i64 5, .string ⟨name.toArray⟩, .int .i64 frm, .int .i64 til, .string ⟨text.toArray⟩, .int .i64 n, .int .i64 l1, .int .i64 l2, .int .i64 l3] 26)) wx → wx.cell? ⟨w.heap.size, 1, none⟩ = some (.string ⟨name.toArray⟩)) := fun wx hb => by rw [hb.cell (by show w.heap.size < _; rw [World.size_alloc]; omega)]; exact (show HasAct _ w.heap.size ⟨5, name, frm, til, text, n, l1, l2, l3⟩ from heap_at w _ _ rfl).cell 1
    have HC2 : Hid (∀ wx, Below (w.alloc (.cells #[.int .i64 5, .string ⟨name.toArray⟩, .int .i64 frm, .int .i64 til, .string ⟨text.toArray⟩, .int .i64 n, .int .i64 l1, .int .i64 l2, .int .i64 l3] 26)).heap.size (w.alloc (.cells #[.int .i64 5, .string ⟨name.toArray⟩, .int .i64 frm, .int .i64 til, .string ⟨text.toArray⟩, .int .i64 n, .int .i64 l1, .int .i64 l2, .int .i64 l3] 26)) wx → wx.cell? ⟨w.heap.size, 2, none⟩ = some (.int .i64 frm)) := fun wx hb => by rw [hb.cell (by show w.heap.size < _; rw [World.size_alloc]; omega)]; exact (show HasAct _ w.heap.size ⟨5, name, frm, til, text, n, l1, l2, l3⟩ from heap_at w _ _ rfl).cell 2
    have HC3 : Hid (∀ wx, Below (w.alloc (.cells #[.int .i64 5, .string ⟨name.toArray⟩, .int .i64 frm, .int .i64 til, .string ⟨text.toArray⟩, .int .i64 n, .int .i64 l1, .int .i64 l2, .int .i64 l3] 26)).heap.size (w.alloc (.cells #[.int .i64 5, .string ⟨name.toArray⟩, .int .i64 frm, .int .i64 til, .string ⟨text.toArray⟩, .int .i64 n, .int .i64 l1, .int .i64 l2, .int .i64 l3] 26)) wx → wx.cell? ⟨w.heap.size, 3, none⟩ = some (.int .i64 til)) := fun wx hb => by rw [hb.cell (by show w.heap.size < _; rw [World.size_alloc]; omega)]; exact (show HasAct _ w.heap.size ⟨5, name, frm, til, text, n, l1, l2, l3⟩ from heap_at w _ _ rfl).cell 3
    have HC4 : Hid (∀ wx, Below (w.alloc (.cells #[.int .i64 5, .string ⟨name.toArray⟩, .int .i64 frm, .int .i64 til, .string ⟨text.toArray⟩, .int .i64 n, .int .i64 l1, .int .i64 l2, .int .i64 l3] 26)).heap.size (w.alloc (.cells #[.int .i64 5, .string ⟨name.toArray⟩, .int .i64 frm, .int .i64 til, .string ⟨text.toArray⟩, .int .i64 n, .int .i64 l1, .int .i64 l2, .int .i64 l3] 26)) wx → wx.cell? ⟨w.heap.size, 4, none⟩ = some (.string ⟨text.toArray⟩)) := fun wx hb => by rw [hb.cell (by show w.heap.size < _; rw [World.size_alloc]; omega)]; exact (show HasAct _ w.heap.size ⟨5, name, frm, til, text, n, l1, l2, l3⟩ from heap_at w _ _ rfl).cell 4
    have HC5 : Hid (∀ wx, Below (w.alloc (.cells #[.int .i64 5, .string ⟨name.toArray⟩, .int .i64 frm, .int .i64 til, .string ⟨text.toArray⟩, .int .i64 n, .int .i64 l1, .int .i64 l2, .int .i64 l3] 26)).heap.size (w.alloc (.cells #[.int .i64 5, .string ⟨name.toArray⟩, .int .i64 frm, .int .i64 til, .string ⟨text.toArray⟩, .int .i64 n, .int .i64 l1, .int .i64 l2, .int .i64 l3] 26)) wx → wx.cell? ⟨w.heap.size, 5, none⟩ = some (.int .i64 n)) := fun wx hb => by rw [hb.cell (by show w.heap.size < _; rw [World.size_alloc]; omega)]; exact (show HasAct _ w.heap.size ⟨5, name, frm, til, text, n, l1, l2, l3⟩ from heap_at w _ _ rfl).cell 5
    have HC6 : Hid (∀ wx, Below (w.alloc (.cells #[.int .i64 5, .string ⟨name.toArray⟩, .int .i64 frm, .int .i64 til, .string ⟨text.toArray⟩, .int .i64 n, .int .i64 l1, .int .i64 l2, .int .i64 l3] 26)).heap.size (w.alloc (.cells #[.int .i64 5, .string ⟨name.toArray⟩, .int .i64 frm, .int .i64 til, .string ⟨text.toArray⟩, .int .i64 n, .int .i64 l1, .int .i64 l2, .int .i64 l3] 26)) wx → wx.cell? ⟨w.heap.size, 6, none⟩ = some (.int .i64 l1)) := fun wx hb => by rw [hb.cell (by show w.heap.size < _; rw [World.size_alloc]; omega)]; exact (show HasAct _ w.heap.size ⟨5, name, frm, til, text, n, l1, l2, l3⟩ from heap_at w _ _ rfl).cell 6
    have HC7 : Hid (∀ wx, Below (w.alloc (.cells #[.int .i64 5, .string ⟨name.toArray⟩, .int .i64 frm, .int .i64 til, .string ⟨text.toArray⟩, .int .i64 n, .int .i64 l1, .int .i64 l2, .int .i64 l3] 26)).heap.size (w.alloc (.cells #[.int .i64 5, .string ⟨name.toArray⟩, .int .i64 frm, .int .i64 til, .string ⟨text.toArray⟩, .int .i64 n, .int .i64 l1, .int .i64 l2, .int .i64 l3] 26)) wx → wx.cell? ⟨w.heap.size, 7, none⟩ = some (.int .i64 l2)) := fun wx hb => by rw [hb.cell (by show w.heap.size < _; rw [World.size_alloc]; omega)]; exact (show HasAct _ w.heap.size ⟨5, name, frm, til, text, n, l1, l2, l3⟩ from heap_at w _ _ rfl).cell 7
    have HC8 : Hid (∀ wx, Below (w.alloc (.cells #[.int .i64 5, .string ⟨name.toArray⟩, .int .i64 frm, .int .i64 til, .string ⟨text.toArray⟩, .int .i64 n, .int .i64 l1, .int .i64 l2, .int .i64 l3] 26)).heap.size (w.alloc (.cells #[.int .i64 5, .string ⟨name.toArray⟩, .int .i64 frm, .int .i64 til, .string ⟨text.toArray⟩, .int .i64 n, .int .i64 l1, .int .i64 l2, .int .i64 l3] 26)) wx → wx.cell? ⟨w.heap.size, 8, none⟩ = some (.int .i64 l3)) := fun wx hb => by rw [hb.cell (by show w.heap.size < _; rw [World.size_alloc]; omega)]; exact (show HasAct _ w.heap.size ⟨5, name, frm, til, text, n, l1, l2, l3⟩ from heap_at w _ _ rfl).cell 8
    go_enter Tryd.func13, Tryd.ntmps13
    go_wp2_with (first | (go_at_call 30; refine (HN.out _).mono ?_; rw [HNO.out]; rintro e w1 ⟨rfl, hb1⟩; have c0 := HC0.out _ hb1; have c1 := HC1.out _ hb1; have c2 := HC2.out _ hb1; have c3 := HC3.out _ hb1; have c4 := HC4.out _ hb1; have c5 := HC5.out _ hb1; have c6 := HC6.out _ hb1; have c7 := HC7.out _ hb1; have c8 := HC8.out _ hb1))
    go_ret2
    have HE : lineErr ⟨5, name, frm, til, text, n, l1, l2, l3⟩ = 1 := by
      rw [err_5]; apply if_neg; intro hh; revert hh; rw [HNO.out]; simp
    refine ⟨by rw [HE, lineOf_err _ (by rw [HE]; decide)]; rfl, ?_⟩
    have hbel := (((Below.refl _ _).alloc (Nat.le_refl _) _).trans (hb1.mono (by rw [World.size_alloc]; omega)))
    exact ⟨hbel.os, hbel.tape, hbel.output, hbel.size, hbel.block⟩
  have HNO := Lib.hid hno
  clear hno
  by_cases hfrm : frm = 0
  rotate_left
  · have qfrm : (frm == 0) = false := by simpa using hfrm
    have HC0 : Hid (∀ wx, Below (w.alloc (.cells #[.int .i64 5, .string ⟨name.toArray⟩, .int .i64 frm, .int .i64 til, .string ⟨text.toArray⟩, .int .i64 n, .int .i64 l1, .int .i64 l2, .int .i64 l3] 26)).heap.size (w.alloc (.cells #[.int .i64 5, .string ⟨name.toArray⟩, .int .i64 frm, .int .i64 til, .string ⟨text.toArray⟩, .int .i64 n, .int .i64 l1, .int .i64 l2, .int .i64 l3] 26)) wx → wx.cell? ⟨w.heap.size, 0, none⟩ = some (.int .i64 5)) := fun wx hb => by rw [hb.cell (by show w.heap.size < _; rw [World.size_alloc]; omega)]; exact (show HasAct _ w.heap.size ⟨5, name, frm, til, text, n, l1, l2, l3⟩ from heap_at w _ _ rfl).cell 0
    have HC1 : Hid (∀ wx, Below (w.alloc (.cells #[.int .i64 5, .string ⟨name.toArray⟩, .int .i64 frm, .int .i64 til, .string ⟨text.toArray⟩, .int .i64 n, .int .i64 l1, .int .i64 l2, .int .i64 l3] 26)).heap.size (w.alloc (.cells #[.int .i64 5, .string ⟨name.toArray⟩, .int .i64 frm, .int .i64 til, .string ⟨text.toArray⟩, .int .i64 n, .int .i64 l1, .int .i64 l2, .int .i64 l3] 26)) wx → wx.cell? ⟨w.heap.size, 1, none⟩ = some (.string ⟨name.toArray⟩)) := fun wx hb => by rw [hb.cell (by show w.heap.size < _; rw [World.size_alloc]; omega)]; exact (show HasAct _ w.heap.size ⟨5, name, frm, til, text, n, l1, l2, l3⟩ from heap_at w _ _ rfl).cell 1
    have HC2 : Hid (∀ wx, Below (w.alloc (.cells #[.int .i64 5, .string ⟨name.toArray⟩, .int .i64 frm, .int .i64 til, .string ⟨text.toArray⟩, .int .i64 n, .int .i64 l1, .int .i64 l2, .int .i64 l3] 26)).heap.size (w.alloc (.cells #[.int .i64 5, .string ⟨name.toArray⟩, .int .i64 frm, .int .i64 til, .string ⟨text.toArray⟩, .int .i64 n, .int .i64 l1, .int .i64 l2, .int .i64 l3] 26)) wx → wx.cell? ⟨w.heap.size, 2, none⟩ = some (.int .i64 frm)) := fun wx hb => by rw [hb.cell (by show w.heap.size < _; rw [World.size_alloc]; omega)]; exact (show HasAct _ w.heap.size ⟨5, name, frm, til, text, n, l1, l2, l3⟩ from heap_at w _ _ rfl).cell 2
    have HC3 : Hid (∀ wx, Below (w.alloc (.cells #[.int .i64 5, .string ⟨name.toArray⟩, .int .i64 frm, .int .i64 til, .string ⟨text.toArray⟩, .int .i64 n, .int .i64 l1, .int .i64 l2, .int .i64 l3] 26)).heap.size (w.alloc (.cells #[.int .i64 5, .string ⟨name.toArray⟩, .int .i64 frm, .int .i64 til, .string ⟨text.toArray⟩, .int .i64 n, .int .i64 l1, .int .i64 l2, .int .i64 l3] 26)) wx → wx.cell? ⟨w.heap.size, 3, none⟩ = some (.int .i64 til)) := fun wx hb => by rw [hb.cell (by show w.heap.size < _; rw [World.size_alloc]; omega)]; exact (show HasAct _ w.heap.size ⟨5, name, frm, til, text, n, l1, l2, l3⟩ from heap_at w _ _ rfl).cell 3
    have HC4 : Hid (∀ wx, Below (w.alloc (.cells #[.int .i64 5, .string ⟨name.toArray⟩, .int .i64 frm, .int .i64 til, .string ⟨text.toArray⟩, .int .i64 n, .int .i64 l1, .int .i64 l2, .int .i64 l3] 26)).heap.size (w.alloc (.cells #[.int .i64 5, .string ⟨name.toArray⟩, .int .i64 frm, .int .i64 til, .string ⟨text.toArray⟩, .int .i64 n, .int .i64 l1, .int .i64 l2, .int .i64 l3] 26)) wx → wx.cell? ⟨w.heap.size, 4, none⟩ = some (.string ⟨text.toArray⟩)) := fun wx hb => by rw [hb.cell (by show w.heap.size < _; rw [World.size_alloc]; omega)]; exact (show HasAct _ w.heap.size ⟨5, name, frm, til, text, n, l1, l2, l3⟩ from heap_at w _ _ rfl).cell 4
    have HC5 : Hid (∀ wx, Below (w.alloc (.cells #[.int .i64 5, .string ⟨name.toArray⟩, .int .i64 frm, .int .i64 til, .string ⟨text.toArray⟩, .int .i64 n, .int .i64 l1, .int .i64 l2, .int .i64 l3] 26)).heap.size (w.alloc (.cells #[.int .i64 5, .string ⟨name.toArray⟩, .int .i64 frm, .int .i64 til, .string ⟨text.toArray⟩, .int .i64 n, .int .i64 l1, .int .i64 l2, .int .i64 l3] 26)) wx → wx.cell? ⟨w.heap.size, 5, none⟩ = some (.int .i64 n)) := fun wx hb => by rw [hb.cell (by show w.heap.size < _; rw [World.size_alloc]; omega)]; exact (show HasAct _ w.heap.size ⟨5, name, frm, til, text, n, l1, l2, l3⟩ from heap_at w _ _ rfl).cell 5
    have HC6 : Hid (∀ wx, Below (w.alloc (.cells #[.int .i64 5, .string ⟨name.toArray⟩, .int .i64 frm, .int .i64 til, .string ⟨text.toArray⟩, .int .i64 n, .int .i64 l1, .int .i64 l2, .int .i64 l3] 26)).heap.size (w.alloc (.cells #[.int .i64 5, .string ⟨name.toArray⟩, .int .i64 frm, .int .i64 til, .string ⟨text.toArray⟩, .int .i64 n, .int .i64 l1, .int .i64 l2, .int .i64 l3] 26)) wx → wx.cell? ⟨w.heap.size, 6, none⟩ = some (.int .i64 l1)) := fun wx hb => by rw [hb.cell (by show w.heap.size < _; rw [World.size_alloc]; omega)]; exact (show HasAct _ w.heap.size ⟨5, name, frm, til, text, n, l1, l2, l3⟩ from heap_at w _ _ rfl).cell 6
    have HC7 : Hid (∀ wx, Below (w.alloc (.cells #[.int .i64 5, .string ⟨name.toArray⟩, .int .i64 frm, .int .i64 til, .string ⟨text.toArray⟩, .int .i64 n, .int .i64 l1, .int .i64 l2, .int .i64 l3] 26)).heap.size (w.alloc (.cells #[.int .i64 5, .string ⟨name.toArray⟩, .int .i64 frm, .int .i64 til, .string ⟨text.toArray⟩, .int .i64 n, .int .i64 l1, .int .i64 l2, .int .i64 l3] 26)) wx → wx.cell? ⟨w.heap.size, 7, none⟩ = some (.int .i64 l2)) := fun wx hb => by rw [hb.cell (by show w.heap.size < _; rw [World.size_alloc]; omega)]; exact (show HasAct _ w.heap.size ⟨5, name, frm, til, text, n, l1, l2, l3⟩ from heap_at w _ _ rfl).cell 7
    have HC8 : Hid (∀ wx, Below (w.alloc (.cells #[.int .i64 5, .string ⟨name.toArray⟩, .int .i64 frm, .int .i64 til, .string ⟨text.toArray⟩, .int .i64 n, .int .i64 l1, .int .i64 l2, .int .i64 l3] 26)).heap.size (w.alloc (.cells #[.int .i64 5, .string ⟨name.toArray⟩, .int .i64 frm, .int .i64 til, .string ⟨text.toArray⟩, .int .i64 n, .int .i64 l1, .int .i64 l2, .int .i64 l3] 26)) wx → wx.cell? ⟨w.heap.size, 8, none⟩ = some (.int .i64 l3)) := fun wx hb => by rw [hb.cell (by show w.heap.size < _; rw [World.size_alloc]; omega)]; exact (show HasAct _ w.heap.size ⟨5, name, frm, til, text, n, l1, l2, l3⟩ from heap_at w _ _ rfl).cell 8
    go_enter Tryd.func13, Tryd.ntmps13
    go_wp2_with (first | (go_at_call 30; refine (HN.out _).mono ?_; rw [HNO.out]; rintro e w1 ⟨rfl, hb1⟩; have c0 := HC0.out _ hb1; have c1 := HC1.out _ hb1; have c2 := HC2.out _ hb1; have c3 := HC3.out _ hb1; have c4 := HC4.out _ hb1; have c5 := HC5.out _ hb1; have c6 := HC6.out _ hb1; have c7 := HC7.out _ hb1; have c8 := HC8.out _ hb1))
    go_ret2
    have HE : lineErr ⟨5, name, frm, til, text, n, l1, l2, l3⟩ = 1 := by
      rw [err_5]; apply if_neg; intro hh; revert hh; simp [hfrm]
    refine ⟨by rw [HE, lineOf_err _ (by rw [HE]; decide)]; rfl, ?_⟩
    have hbel := (((Below.refl _ _).alloc (Nat.le_refl _) _).trans (hb1.mono (by rw [World.size_alloc]; omega)))
    exact ⟨hbel.os, hbel.tape, hbel.output, hbel.size, hbel.block⟩
  subst hfrm
  by_cases htil : til = 0
  rotate_left
  · have qtil : (til == 0) = false := by simpa using htil
    have HC0 : Hid (∀ wx, Below (w.alloc (.cells #[.int .i64 5, .string ⟨name.toArray⟩, .int .i64 0, .int .i64 til, .string ⟨text.toArray⟩, .int .i64 n, .int .i64 l1, .int .i64 l2, .int .i64 l3] 26)).heap.size (w.alloc (.cells #[.int .i64 5, .string ⟨name.toArray⟩, .int .i64 0, .int .i64 til, .string ⟨text.toArray⟩, .int .i64 n, .int .i64 l1, .int .i64 l2, .int .i64 l3] 26)) wx → wx.cell? ⟨w.heap.size, 0, none⟩ = some (.int .i64 5)) := fun wx hb => by rw [hb.cell (by show w.heap.size < _; rw [World.size_alloc]; omega)]; exact (show HasAct _ w.heap.size ⟨5, name, 0, til, text, n, l1, l2, l3⟩ from heap_at w _ _ rfl).cell 0
    have HC1 : Hid (∀ wx, Below (w.alloc (.cells #[.int .i64 5, .string ⟨name.toArray⟩, .int .i64 0, .int .i64 til, .string ⟨text.toArray⟩, .int .i64 n, .int .i64 l1, .int .i64 l2, .int .i64 l3] 26)).heap.size (w.alloc (.cells #[.int .i64 5, .string ⟨name.toArray⟩, .int .i64 0, .int .i64 til, .string ⟨text.toArray⟩, .int .i64 n, .int .i64 l1, .int .i64 l2, .int .i64 l3] 26)) wx → wx.cell? ⟨w.heap.size, 1, none⟩ = some (.string ⟨name.toArray⟩)) := fun wx hb => by rw [hb.cell (by show w.heap.size < _; rw [World.size_alloc]; omega)]; exact (show HasAct _ w.heap.size ⟨5, name, 0, til, text, n, l1, l2, l3⟩ from heap_at w _ _ rfl).cell 1
    have HC2 : Hid (∀ wx, Below (w.alloc (.cells #[.int .i64 5, .string ⟨name.toArray⟩, .int .i64 0, .int .i64 til, .string ⟨text.toArray⟩, .int .i64 n, .int .i64 l1, .int .i64 l2, .int .i64 l3] 26)).heap.size (w.alloc (.cells #[.int .i64 5, .string ⟨name.toArray⟩, .int .i64 0, .int .i64 til, .string ⟨text.toArray⟩, .int .i64 n, .int .i64 l1, .int .i64 l2, .int .i64 l3] 26)) wx → wx.cell? ⟨w.heap.size, 2, none⟩ = some (.int .i64 0)) := fun wx hb => by rw [hb.cell (by show w.heap.size < _; rw [World.size_alloc]; omega)]; exact (show HasAct _ w.heap.size ⟨5, name, 0, til, text, n, l1, l2, l3⟩ from heap_at w _ _ rfl).cell 2
    have HC3 : Hid (∀ wx, Below (w.alloc (.cells #[.int .i64 5, .string ⟨name.toArray⟩, .int .i64 0, .int .i64 til, .string ⟨text.toArray⟩, .int .i64 n, .int .i64 l1, .int .i64 l2, .int .i64 l3] 26)).heap.size (w.alloc (.cells #[.int .i64 5, .string ⟨name.toArray⟩, .int .i64 0, .int .i64 til, .string ⟨text.toArray⟩, .int .i64 n, .int .i64 l1, .int .i64 l2, .int .i64 l3] 26)) wx → wx.cell? ⟨w.heap.size, 3, none⟩ = some (.int .i64 til)) := fun wx hb => by rw [hb.cell (by show w.heap.size < _; rw [World.size_alloc]; omega)]; exact (show HasAct _ w.heap.size ⟨5, name, 0, til, text, n, l1, l2, l3⟩ from heap_at w _ _ rfl).cell 3
    have HC4 : Hid (∀ wx, Below (w.alloc (.cells #[.int .i64 5, .string ⟨name.toArray⟩, .int .i64 0, .int .i64 til, .string ⟨text.toArray⟩, .int .i64 n, .int .i64 l1, .int .i64 l2, .int .i64 l3] 26)).heap.size (w.alloc (.cells #[.int .i64 5, .string ⟨name.toArray⟩, .int .i64 0, .int .i64 til, .string ⟨text.toArray⟩, .int .i64 n, .int .i64 l1, .int .i64 l2, .int .i64 l3] 26)) wx → wx.cell? ⟨w.heap.size, 4, none⟩ = some (.string ⟨text.toArray⟩)) := fun wx hb => by rw [hb.cell (by show w.heap.size < _; rw [World.size_alloc]; omega)]; exact (show HasAct _ w.heap.size ⟨5, name, 0, til, text, n, l1, l2, l3⟩ from heap_at w _ _ rfl).cell 4
    have HC5 : Hid (∀ wx, Below (w.alloc (.cells #[.int .i64 5, .string ⟨name.toArray⟩, .int .i64 0, .int .i64 til, .string ⟨text.toArray⟩, .int .i64 n, .int .i64 l1, .int .i64 l2, .int .i64 l3] 26)).heap.size (w.alloc (.cells #[.int .i64 5, .string ⟨name.toArray⟩, .int .i64 0, .int .i64 til, .string ⟨text.toArray⟩, .int .i64 n, .int .i64 l1, .int .i64 l2, .int .i64 l3] 26)) wx → wx.cell? ⟨w.heap.size, 5, none⟩ = some (.int .i64 n)) := fun wx hb => by rw [hb.cell (by show w.heap.size < _; rw [World.size_alloc]; omega)]; exact (show HasAct _ w.heap.size ⟨5, name, 0, til, text, n, l1, l2, l3⟩ from heap_at w _ _ rfl).cell 5
    have HC6 : Hid (∀ wx, Below (w.alloc (.cells #[.int .i64 5, .string ⟨name.toArray⟩, .int .i64 0, .int .i64 til, .string ⟨text.toArray⟩, .int .i64 n, .int .i64 l1, .int .i64 l2, .int .i64 l3] 26)).heap.size (w.alloc (.cells #[.int .i64 5, .string ⟨name.toArray⟩, .int .i64 0, .int .i64 til, .string ⟨text.toArray⟩, .int .i64 n, .int .i64 l1, .int .i64 l2, .int .i64 l3] 26)) wx → wx.cell? ⟨w.heap.size, 6, none⟩ = some (.int .i64 l1)) := fun wx hb => by rw [hb.cell (by show w.heap.size < _; rw [World.size_alloc]; omega)]; exact (show HasAct _ w.heap.size ⟨5, name, 0, til, text, n, l1, l2, l3⟩ from heap_at w _ _ rfl).cell 6
    have HC7 : Hid (∀ wx, Below (w.alloc (.cells #[.int .i64 5, .string ⟨name.toArray⟩, .int .i64 0, .int .i64 til, .string ⟨text.toArray⟩, .int .i64 n, .int .i64 l1, .int .i64 l2, .int .i64 l3] 26)).heap.size (w.alloc (.cells #[.int .i64 5, .string ⟨name.toArray⟩, .int .i64 0, .int .i64 til, .string ⟨text.toArray⟩, .int .i64 n, .int .i64 l1, .int .i64 l2, .int .i64 l3] 26)) wx → wx.cell? ⟨w.heap.size, 7, none⟩ = some (.int .i64 l2)) := fun wx hb => by rw [hb.cell (by show w.heap.size < _; rw [World.size_alloc]; omega)]; exact (show HasAct _ w.heap.size ⟨5, name, 0, til, text, n, l1, l2, l3⟩ from heap_at w _ _ rfl).cell 7
    have HC8 : Hid (∀ wx, Below (w.alloc (.cells #[.int .i64 5, .string ⟨name.toArray⟩, .int .i64 0, .int .i64 til, .string ⟨text.toArray⟩, .int .i64 n, .int .i64 l1, .int .i64 l2, .int .i64 l3] 26)).heap.size (w.alloc (.cells #[.int .i64 5, .string ⟨name.toArray⟩, .int .i64 0, .int .i64 til, .string ⟨text.toArray⟩, .int .i64 n, .int .i64 l1, .int .i64 l2, .int .i64 l3] 26)) wx → wx.cell? ⟨w.heap.size, 8, none⟩ = some (.int .i64 l3)) := fun wx hb => by rw [hb.cell (by show w.heap.size < _; rw [World.size_alloc]; omega)]; exact (show HasAct _ w.heap.size ⟨5, name, 0, til, text, n, l1, l2, l3⟩ from heap_at w _ _ rfl).cell 8
    go_enter Tryd.func13, Tryd.ntmps13
    go_wp2_with (first | (go_at_call 30; refine (HN.out _).mono ?_; rw [HNO.out]; rintro e w1 ⟨rfl, hb1⟩; have c0 := HC0.out _ hb1; have c1 := HC1.out _ hb1; have c2 := HC2.out _ hb1; have c3 := HC3.out _ hb1; have c4 := HC4.out _ hb1; have c5 := HC5.out _ hb1; have c6 := HC6.out _ hb1; have c7 := HC7.out _ hb1; have c8 := HC8.out _ hb1))
    go_ret2
    have HE : lineErr ⟨5, name, 0, til, text, n, l1, l2, l3⟩ = 1 := by
      rw [err_5]; apply if_neg; intro hh; revert hh; simp [htil]
    refine ⟨by rw [HE, lineOf_err _ (by rw [HE]; decide)]; rfl, ?_⟩
    have hbel := (((Below.refl _ _).alloc (Nat.le_refl _) _).trans (hb1.mono (by rw [World.size_alloc]; omega)))
    exact ⟨hbel.os, hbel.tape, hbel.output, hbel.size, hbel.block⟩
  subst htil
  cases htx : text with
  | cons ct tt =>
    subst htx
    have HC0 : Hid (∀ wx, Below (w.alloc (.cells #[.int .i64 5, .string ⟨name.toArray⟩, .int .i64 0, .int .i64 0, .string ⟨(ct :: tt).toArray⟩, .int .i64 n, .int .i64 l1, .int .i64 l2, .int .i64 l3] 26)).heap.size (w.alloc (.cells #[.int .i64 5, .string ⟨name.toArray⟩, .int .i64 0, .int .i64 0, .string ⟨(ct :: tt).toArray⟩, .int .i64 n, .int .i64 l1, .int .i64 l2, .int .i64 l3] 26)) wx → wx.cell? ⟨w.heap.size, 0, none⟩ = some (.int .i64 5)) := fun wx hb => by rw [hb.cell (by show w.heap.size < _; rw [World.size_alloc]; omega)]; exact (show HasAct _ w.heap.size ⟨5, name, 0, 0, (ct :: tt), n, l1, l2, l3⟩ from heap_at w _ _ rfl).cell 0
    have HC1 : Hid (∀ wx, Below (w.alloc (.cells #[.int .i64 5, .string ⟨name.toArray⟩, .int .i64 0, .int .i64 0, .string ⟨(ct :: tt).toArray⟩, .int .i64 n, .int .i64 l1, .int .i64 l2, .int .i64 l3] 26)).heap.size (w.alloc (.cells #[.int .i64 5, .string ⟨name.toArray⟩, .int .i64 0, .int .i64 0, .string ⟨(ct :: tt).toArray⟩, .int .i64 n, .int .i64 l1, .int .i64 l2, .int .i64 l3] 26)) wx → wx.cell? ⟨w.heap.size, 1, none⟩ = some (.string ⟨name.toArray⟩)) := fun wx hb => by rw [hb.cell (by show w.heap.size < _; rw [World.size_alloc]; omega)]; exact (show HasAct _ w.heap.size ⟨5, name, 0, 0, (ct :: tt), n, l1, l2, l3⟩ from heap_at w _ _ rfl).cell 1
    have HC2 : Hid (∀ wx, Below (w.alloc (.cells #[.int .i64 5, .string ⟨name.toArray⟩, .int .i64 0, .int .i64 0, .string ⟨(ct :: tt).toArray⟩, .int .i64 n, .int .i64 l1, .int .i64 l2, .int .i64 l3] 26)).heap.size (w.alloc (.cells #[.int .i64 5, .string ⟨name.toArray⟩, .int .i64 0, .int .i64 0, .string ⟨(ct :: tt).toArray⟩, .int .i64 n, .int .i64 l1, .int .i64 l2, .int .i64 l3] 26)) wx → wx.cell? ⟨w.heap.size, 2, none⟩ = some (.int .i64 0)) := fun wx hb => by rw [hb.cell (by show w.heap.size < _; rw [World.size_alloc]; omega)]; exact (show HasAct _ w.heap.size ⟨5, name, 0, 0, (ct :: tt), n, l1, l2, l3⟩ from heap_at w _ _ rfl).cell 2
    have HC3 : Hid (∀ wx, Below (w.alloc (.cells #[.int .i64 5, .string ⟨name.toArray⟩, .int .i64 0, .int .i64 0, .string ⟨(ct :: tt).toArray⟩, .int .i64 n, .int .i64 l1, .int .i64 l2, .int .i64 l3] 26)).heap.size (w.alloc (.cells #[.int .i64 5, .string ⟨name.toArray⟩, .int .i64 0, .int .i64 0, .string ⟨(ct :: tt).toArray⟩, .int .i64 n, .int .i64 l1, .int .i64 l2, .int .i64 l3] 26)) wx → wx.cell? ⟨w.heap.size, 3, none⟩ = some (.int .i64 0)) := fun wx hb => by rw [hb.cell (by show w.heap.size < _; rw [World.size_alloc]; omega)]; exact (show HasAct _ w.heap.size ⟨5, name, 0, 0, (ct :: tt), n, l1, l2, l3⟩ from heap_at w _ _ rfl).cell 3
    have HC4 : Hid (∀ wx, Below (w.alloc (.cells #[.int .i64 5, .string ⟨name.toArray⟩, .int .i64 0, .int .i64 0, .string ⟨(ct :: tt).toArray⟩, .int .i64 n, .int .i64 l1, .int .i64 l2, .int .i64 l3] 26)).heap.size (w.alloc (.cells #[.int .i64 5, .string ⟨name.toArray⟩, .int .i64 0, .int .i64 0, .string ⟨(ct :: tt).toArray⟩, .int .i64 n, .int .i64 l1, .int .i64 l2, .int .i64 l3] 26)) wx → wx.cell? ⟨w.heap.size, 4, none⟩ = some (.string ⟨(ct :: tt).toArray⟩)) := fun wx hb => by rw [hb.cell (by show w.heap.size < _; rw [World.size_alloc]; omega)]; exact (show HasAct _ w.heap.size ⟨5, name, 0, 0, (ct :: tt), n, l1, l2, l3⟩ from heap_at w _ _ rfl).cell 4
    have HC5 : Hid (∀ wx, Below (w.alloc (.cells #[.int .i64 5, .string ⟨name.toArray⟩, .int .i64 0, .int .i64 0, .string ⟨(ct :: tt).toArray⟩, .int .i64 n, .int .i64 l1, .int .i64 l2, .int .i64 l3] 26)).heap.size (w.alloc (.cells #[.int .i64 5, .string ⟨name.toArray⟩, .int .i64 0, .int .i64 0, .string ⟨(ct :: tt).toArray⟩, .int .i64 n, .int .i64 l1, .int .i64 l2, .int .i64 l3] 26)) wx → wx.cell? ⟨w.heap.size, 5, none⟩ = some (.int .i64 n)) := fun wx hb => by rw [hb.cell (by show w.heap.size < _; rw [World.size_alloc]; omega)]; exact (show HasAct _ w.heap.size ⟨5, name, 0, 0, (ct :: tt), n, l1, l2, l3⟩ from heap_at w _ _ rfl).cell 5
    have HC6 : Hid (∀ wx, Below (w.alloc (.cells #[.int .i64 5, .string ⟨name.toArray⟩, .int .i64 0, .int .i64 0, .string ⟨(ct :: tt).toArray⟩, .int .i64 n, .int .i64 l1, .int .i64 l2, .int .i64 l3] 26)).heap.size (w.alloc (.cells #[.int .i64 5, .string ⟨name.toArray⟩, .int .i64 0, .int .i64 0, .string ⟨(ct :: tt).toArray⟩, .int .i64 n, .int .i64 l1, .int .i64 l2, .int .i64 l3] 26)) wx → wx.cell? ⟨w.heap.size, 6, none⟩ = some (.int .i64 l1)) := fun wx hb => by rw [hb.cell (by show w.heap.size < _; rw [World.size_alloc]; omega)]; exact (show HasAct _ w.heap.size ⟨5, name, 0, 0, (ct :: tt), n, l1, l2, l3⟩ from heap_at w _ _ rfl).cell 6
    have HC7 : Hid (∀ wx, Below (w.alloc (.cells #[.int .i64 5, .string ⟨name.toArray⟩, .int .i64 0, .int .i64 0, .string ⟨(ct :: tt).toArray⟩, .int .i64 n, .int .i64 l1, .int .i64 l2, .int .i64 l3] 26)).heap.size (w.alloc (.cells #[.int .i64 5, .string ⟨name.toArray⟩, .int .i64 0, .int .i64 0, .string ⟨(ct :: tt).toArray⟩, .int .i64 n, .int .i64 l1, .int .i64 l2, .int .i64 l3] 26)) wx → wx.cell? ⟨w.heap.size, 7, none⟩ = some (.int .i64 l2)) := fun wx hb => by rw [hb.cell (by show w.heap.size < _; rw [World.size_alloc]; omega)]; exact (show HasAct _ w.heap.size ⟨5, name, 0, 0, (ct :: tt), n, l1, l2, l3⟩ from heap_at w _ _ rfl).cell 7
    have HC8 : Hid (∀ wx, Below (w.alloc (.cells #[.int .i64 5, .string ⟨name.toArray⟩, .int .i64 0, .int .i64 0, .string ⟨(ct :: tt).toArray⟩, .int .i64 n, .int .i64 l1, .int .i64 l2, .int .i64 l3] 26)).heap.size (w.alloc (.cells #[.int .i64 5, .string ⟨name.toArray⟩, .int .i64 0, .int .i64 0, .string ⟨(ct :: tt).toArray⟩, .int .i64 n, .int .i64 l1, .int .i64 l2, .int .i64 l3] 26)) wx → wx.cell? ⟨w.heap.size, 8, none⟩ = some (.int .i64 l3)) := fun wx hb => by rw [hb.cell (by show w.heap.size < _; rw [World.size_alloc]; omega)]; exact (show HasAct _ w.heap.size ⟨5, name, 0, 0, (ct :: tt), n, l1, l2, l3⟩ from heap_at w _ _ rfl).cell 8
    go_enter Tryd.func13, Tryd.ntmps13
    go_wp2_with (first | (go_at_call 30; refine (HN.out _).mono ?_; rw [HNO.out]; rintro e w1 ⟨rfl, hb1⟩; have c0 := HC0.out _ hb1; have c1 := HC1.out _ hb1; have c2 := HC2.out _ hb1; have c3 := HC3.out _ hb1; have c4 := HC4.out _ hb1; have c5 := HC5.out _ hb1; have c6 := HC6.out _ hb1; have c7 := HC7.out _ hb1; have c8 := HC8.out _ hb1))
    go_ret2
    have HE : lineErr ⟨5, name, 0, 0, (ct :: tt), n, l1, l2, l3⟩ = 1 := by
      rw [err_5]; apply if_neg; intro hh; revert hh; simp
    refine ⟨by rw [HE, lineOf_err _ (by rw [HE]; decide)]; rfl, ?_⟩
    have hbel := (((Below.refl _ _).alloc (Nat.le_refl _) _).trans (hb1.mono (by rw [World.size_alloc]; omega)))
    exact ⟨hbel.os, hbel.tape, hbel.output, hbel.size, hbel.block⟩
  | nil =>
    subst htx
    cases hlm : limNe l1 l2 l3 with
    | true =>
      have hq : ∀ wx, Sem.run Tryd.prog (binOp .neq 24 (.agg #[.int .i64 l1, .int .i64 l2, .int .i64 l3]) (.agg #[.int .i64 0, .int .i64 0, .int .i64 0])) wx = .ok (.bool true) wx := fun wx => by rw [neq_lim, hlm]
      have HC0 : Hid (∀ wx, Below (w.alloc (.cells #[.int .i64 5, .string ⟨name.toArray⟩, .int .i64 0, .int .i64 0, .string ⟨([] : Bs).toArray⟩, .int .i64 n, .int .i64 l1, .int .i64 l2, .int .i64 l3] 26)).heap.size (w.alloc (.cells #[.int .i64 5, .string ⟨name.toArray⟩, .int .i64 0, .int .i64 0, .string ⟨([] : Bs).toArray⟩, .int .i64 n, .int .i64 l1, .int .i64 l2, .int .i64 l3] 26)) wx → wx.cell? ⟨w.heap.size, 0, none⟩ = some (.int .i64 5)) := fun wx hb => by rw [hb.cell (by show w.heap.size < _; rw [World.size_alloc]; omega)]; exact (show HasAct _ w.heap.size ⟨5, name, 0, 0, ([] : Bs), n, l1, l2, l3⟩ from heap_at w _ _ rfl).cell 0
      have HC1 : Hid (∀ wx, Below (w.alloc (.cells #[.int .i64 5, .string ⟨name.toArray⟩, .int .i64 0, .int .i64 0, .string ⟨([] : Bs).toArray⟩, .int .i64 n, .int .i64 l1, .int .i64 l2, .int .i64 l3] 26)).heap.size (w.alloc (.cells #[.int .i64 5, .string ⟨name.toArray⟩, .int .i64 0, .int .i64 0, .string ⟨([] : Bs).toArray⟩, .int .i64 n, .int .i64 l1, .int .i64 l2, .int .i64 l3] 26)) wx → wx.cell? ⟨w.heap.size, 1, none⟩ = some (.string ⟨name.toArray⟩)) := fun wx hb => by rw [hb.cell (by show w.heap.size < _; rw [World.size_alloc]; omega)]; exact (show HasAct _ w.heap.size ⟨5, name, 0, 0, ([] : Bs), n, l1, l2, l3⟩ from heap_at w _ _ rfl).cell 1
      have HC2 : Hid (∀ wx, Below (w.alloc (.cells #[.int .i64 5, .string ⟨name.toArray⟩, .int .i64 0, .int .i64 0, .string ⟨([] : Bs).toArray⟩, .int .i64 n, .int .i64 l1, .int .i64 l2, .int .i64 l3] 26)).heap.size (w.alloc (.cells #[.int .i64 5, .string ⟨name.toArray⟩, .int .i64 0, .int .i64 0, .string ⟨([] : Bs).toArray⟩, .int .i64 n, .int .i64 l1, .int .i64 l2, .int .i64 l3] 26)) wx → wx.cell? ⟨w.heap.size, 2, none⟩ = some (.int .i64 0)) := fun wx hb => by rw [hb.cell (by show w.heap.size < _; rw [World.size_alloc]; omega)]; exact (show HasAct _ w.heap.size ⟨5, name, 0, 0, ([] : Bs), n, l1, l2, l3⟩ from heap_at w _ _ rfl).cell 2
      have HC3 : Hid (∀ wx, Below (w.alloc (.cells #[.int .i64 5, .string ⟨name.toArray⟩, .int .i64 0, .int .i64 0, .string ⟨([] : Bs).toArray⟩, .int .i64 n, .int .i64 l1, .int .i64 l2, .int .i64 l3] 26)).heap.size (w.alloc (.cells #[.int .i64 5, .string ⟨name.toArray⟩, .int .i64 0, .int .i64 0, .string ⟨([] : Bs).toArray⟩, .int .i64 n, .int .i64 l1, .int .i64 l2, .int .i64 l3] 26)) wx → wx.cell? ⟨w.heap.size, 3, none⟩ = some (.int .i64 0)) := fun wx hb => by rw [hb.cell (by show w.heap.size < _; rw [World.size_alloc]; omega)]; exact (show HasAct _ w.heap.size ⟨5, name, 0, 0, ([] : Bs), n, l1, l2, l3⟩ from heap_at w _ _ rfl).cell 3
      have HC4 : Hid (∀ wx, Below (w.alloc (.cells #[.int .i64 5, .string ⟨name.toArray⟩, .int .i64 0, .int .i64 0, .string ⟨([] : Bs).toArray⟩, .int .i64 n, .int .i64 l1, .int .i64 l2, .int .i64 l3] 26)).heap.size (w.alloc (.cells #[.int .i64 5, .string ⟨name.toArray⟩, .int .i64 0, .int .i64 0, .string ⟨([] : Bs).toArray⟩, .int .i64 n, .int .i64 l1, .int .i64 l2, .int .i64 l3] 26)) wx → wx.cell? ⟨w.heap.size, 4, none⟩ = some (.string ⟨([] : Bs).toArray⟩)) := fun wx hb => by rw [hb.cell (by show w.heap.size < _; rw [World.size_alloc]; omega)]; exact (show HasAct _ w.heap.size ⟨5, name, 0, 0, ([] : Bs), n, l1, l2, l3⟩ from heap_at w _ _ rfl).cell 4
      have HC5 : Hid (∀ wx, Below (w.alloc (.cells #[.int .i64 5, .string ⟨name.toArray⟩, .int .i64 0, .int .i64 0, .string ⟨([] : Bs).toArray⟩, .int .i64 n, .int .i64 l1, .int .i64 l2, .int .i64 l3] 26)).heap.size (w.alloc (.cells #[.int .i64 5, .string ⟨name.toArray⟩, .int .i64 0, .int .i64 0, .string ⟨([] : Bs).toArray⟩, .int .i64 n, .int .i64 l1, .int .i64 l2, .int .i64 l3] 26)) wx → wx.cell? ⟨w.heap.size, 5, none⟩ = some (.int .i64 n)) := fun wx hb => by rw [hb.cell (by show w.heap.size < _; rw [World.size_alloc]; omega)]; exact (show HasAct _ w.heap.size ⟨5, name, 0, 0, ([] : Bs), n, l1, l2, l3⟩ from heap_at w _ _ rfl).cell 5
      have HC6 : Hid (∀ wx, Below (w.alloc (.cells #[.int .i64 5, .string ⟨name.toArray⟩, .int .i64 0, .int .i64 0, .string ⟨([] : Bs).toArray⟩, .int .i64 n, .int .i64 l1, .int .i64 l2, .int .i64 l3] 26)).heap.size (w.alloc (.cells #[.int .i64 5, .string ⟨name.toArray⟩, .int .i64 0, .int .i64 0, .string ⟨([] : Bs).toArray⟩, .int .i64 n, .int .i64 l1, .int .i64 l2, .int .i64 l3] 26)) wx → wx.cell? ⟨w.heap.size, 6, none⟩ = some (.int .i64 l1)) := fun wx hb => by rw [hb.cell (by show w.heap.size < _; rw [World.size_alloc]; omega)]; exact (show HasAct _ w.heap.size ⟨5, name, 0, 0, ([] : Bs), n, l1, l2, l3⟩ from heap_at w _ _ rfl).cell 6
      have HC7 : Hid (∀ wx, Below (w.alloc (.cells #[.int .i64 5, .string ⟨name.toArray⟩, .int .i64 0, .int .i64 0, .string ⟨([] : Bs).toArray⟩, .int .i64 n, .int .i64 l1, .int .i64 l2, .int .i64 l3] 26)).heap.size (w.alloc (.cells #[.int .i64 5, .string ⟨name.toArray⟩, .int .i64 0, .int .i64 0, .string ⟨([] : Bs).toArray⟩, .int .i64 n, .int .i64 l1, .int .i64 l2, .int .i64 l3] 26)) wx → wx.cell? ⟨w.heap.size, 7, none⟩ = some (.int .i64 l2)) := fun wx hb => by rw [hb.cell (by show w.heap.size < _; rw [World.size_alloc]; omega)]; exact (show HasAct _ w.heap.size ⟨5, name, 0, 0, ([] : Bs), n, l1, l2, l3⟩ from heap_at w _ _ rfl).cell 7
      have HC8 : Hid (∀ wx, Below (w.alloc (.cells #[.int .i64 5, .string ⟨name.toArray⟩, .int .i64 0, .int .i64 0, .string ⟨([] : Bs).toArray⟩, .int .i64 n, .int .i64 l1, .int .i64 l2, .int .i64 l3] 26)).heap.size (w.alloc (.cells #[.int .i64 5, .string ⟨name.toArray⟩, .int .i64 0, .int .i64 0, .string ⟨([] : Bs).toArray⟩, .int .i64 n, .int .i64 l1, .int .i64 l2, .int .i64 l3] 26)) wx → wx.cell? ⟨w.heap.size, 8, none⟩ = some (.int .i64 l3)) := fun wx hb => by rw [hb.cell (by show w.heap.size < _; rw [World.size_alloc]; omega)]; exact (show HasAct _ w.heap.size ⟨5, name, 0, 0, ([] : Bs), n, l1, l2, l3⟩ from heap_at w _ _ rfl).cell 8
      go_enter Tryd.func13, Tryd.ntmps13
      go_wp2_with (first | (go_at_call 30; refine (HN.out _).mono ?_; rw [HNO.out]; rintro e w1 ⟨rfl, hb1⟩; have c0 := HC0.out _ hb1; have c1 := HC1.out _ hb1; have c2 := HC2.out _ hb1; have c3 := HC3.out _ hb1; have c4 := HC4.out _ hb1; have c5 := HC5.out _ hb1; have c6 := HC6.out _ hb1; have c7 := HC7.out _ hb1; have c8 := HC8.out _ hb1))
      go_ret2
      have HE : lineErr ⟨5, name, 0, 0, ([] : Bs), n, l1, l2, l3⟩ = 1 := by
        rw [err_5]; apply if_neg; intro hh; revert hh; simp only [limNe, decide_eq_true_iff] at hlm; grind
      refine ⟨by rw [HE, lineOf_err _ (by rw [HE]; decide)]; rfl, ?_⟩
      have hbel := (((Below.refl _ _).alloc (Nat.le_refl _) _).trans (hb1.mono (by rw [World.size_alloc]; omega)))
      exact ⟨hbel.os, hbel.tape, hbel.output, hbel.size, hbel.block⟩
    | false =>
      have hlz : l1 = 0 ∧ l2 = 0 ∧ l3 = 0 := by simp only [limNe, decide_eq_false_iff_not, Decidable.not_not] at hlm; exact hlm
      clear hlm
      obtain ⟨rfl, rfl, rfl⟩ := hlz
      have hq : ∀ wx, Sem.run Tryd.prog (binOp .neq 24 (.agg #[.int .i64 0, .int .i64 0, .int .i64 0]) (.agg #[.int .i64 0, .int .i64 0, .int .i64 0])) wx = .ok (.bool false) wx := fun wx => by rw [neq_lim]; rfl
      have HC0 : Hid (∀ wx, Below (w.alloc (.cells #[.int .i64 5, .string ⟨name.toArray⟩, .int .i64 0, .int .i64 0, .string ⟨([] : Bs).toArray⟩, .int .i64 n, .int .i64 0, .int .i64 0, .int .i64 0] 26)).heap.size (w.alloc (.cells #[.int .i64 5, .string ⟨name.toArray⟩, .int .i64 0, .int .i64 0, .string ⟨([] : Bs).toArray⟩, .int .i64 n, .int .i64 0, .int .i64 0, .int .i64 0] 26)) wx → wx.cell? ⟨w.heap.size, 0, none⟩ = some (.int .i64 5)) := fun wx hb => by rw [hb.cell (by show w.heap.size < _; rw [World.size_alloc]; omega)]; exact (show HasAct _ w.heap.size ⟨5, name, 0, 0, ([] : Bs), n, 0, 0, 0⟩ from heap_at w _ _ rfl).cell 0
      have HC1 : Hid (∀ wx, Below (w.alloc (.cells #[.int .i64 5, .string ⟨name.toArray⟩, .int .i64 0, .int .i64 0, .string ⟨([] : Bs).toArray⟩, .int .i64 n, .int .i64 0, .int .i64 0, .int .i64 0] 26)).heap.size (w.alloc (.cells #[.int .i64 5, .string ⟨name.toArray⟩, .int .i64 0, .int .i64 0, .string ⟨([] : Bs).toArray⟩, .int .i64 n, .int .i64 0, .int .i64 0, .int .i64 0] 26)) wx → wx.cell? ⟨w.heap.size, 1, none⟩ = some (.string ⟨name.toArray⟩)) := fun wx hb => by rw [hb.cell (by show w.heap.size < _; rw [World.size_alloc]; omega)]; exact (show HasAct _ w.heap.size ⟨5, name, 0, 0, ([] : Bs), n, 0, 0, 0⟩ from heap_at w _ _ rfl).cell 1
      have HC2 : Hid (∀ wx, Below (w.alloc (.cells #[.int .i64 5, .string ⟨name.toArray⟩, .int .i64 0, .int .i64 0, .string ⟨([] : Bs).toArray⟩, .int .i64 n, .int .i64 0, .int .i64 0, .int .i64 0] 26)).heap.size (w.alloc (.cells #[.int .i64 5, .string ⟨name.toArray⟩, .int .i64 0, .int .i64 0, .string ⟨([] : Bs).toArray⟩, .int .i64 n, .int .i64 0, .int .i64 0, .int .i64 0] 26)) wx → wx.cell? ⟨w.heap.size, 2, none⟩ = some (.int .i64 0)) := fun wx hb => by rw [hb.cell (by show w.heap.size < _; rw [World.size_alloc]; omega)]; exact (show HasAct _ w.heap.size ⟨5, name, 0, 0, ([] : Bs), n, 0, 0, 0⟩ from heap_at w _ _ rfl).cell 2
      have HC3 : Hid (∀ wx, Below (w.alloc (.cells #[.int .i64 5, .string ⟨name.toArray⟩, .int .i64 0, .int .i64 0, .string ⟨([] : Bs).toArray⟩, .int .i64 n, .int .i64 0, .int .i64 0, .int .i64 0] 26)).heap.size (w.alloc (.cells #[.int .i64 5, .string ⟨name.toArray⟩, .int .i64 0, .int .i64 0, .string ⟨([] : Bs).toArray⟩, .int .i64 n, .int .i64 0, .int .i64 0, .int .i64 0] 26)) wx → wx.cell? ⟨w.heap.size, 3, none⟩ = some (.int .i64 0)) := fun wx hb => by rw [hb.cell (by show w.heap.size < _; rw [World.size_alloc]; omega)]; exact (show HasAct _ w.heap.size ⟨5, name, 0, 0, ([] : Bs), n, 0, 0, 0⟩ from heap_at w _ _ rfl).cell 3
      have HC4 : Hid (∀ wx, Below (w.alloc (.cells #[.int .i64 5, .string ⟨name.toArray⟩, .int .i64 0, .int .i64 0, .string ⟨([] : Bs).toArray⟩, .int .i64 n, .int .i64 0, .int .i64 0, .int .i64 0] 26)).heap.size (w.alloc (.cells #[.int .i64 5, .string ⟨name.toArray⟩, .int .i64 0, .int .i64 0, .string ⟨([] : Bs).toArray⟩, .int .i64 n, .int .i64 0, .int .i64 0, .int .i64 0] 26)) wx → wx.cell? ⟨w.heap.size, 4, none⟩ = some (.string ⟨([] : Bs).toArray⟩)) := fun wx hb => by rw [hb.cell (by show w.heap.size < _; rw [World.size_alloc]; omega)]; exact (show HasAct _ w.heap.size ⟨5, name, 0, 0, ([] : Bs), n, 0, 0, 0⟩ from heap_at w _ _ rfl).cell 4
      have HC5 : Hid (∀ wx, Below (w.alloc (.cells #[.int .i64 5, .string ⟨name.toArray⟩, .int .i64 0, .int .i64 0, .string ⟨([] : Bs).toArray⟩, .int .i64 n, .int .i64 0, .int .i64 0, .int .i64 0] 26)).heap.size (w.alloc (.cells #[.int .i64 5, .string ⟨name.toArray⟩, .int .i64 0, .int .i64 0, .string ⟨([] : Bs).toArray⟩, .int .i64 n, .int .i64 0, .int .i64 0, .int .i64 0] 26)) wx → wx.cell? ⟨w.heap.size, 5, none⟩ = some (.int .i64 n)) := fun wx hb => by rw [hb.cell (by show w.heap.size < _; rw [World.size_alloc]; omega)]; exact (show HasAct _ w.heap.size ⟨5, name, 0, 0, ([] : Bs), n, 0, 0, 0⟩ from heap_at w _ _ rfl).cell 5
      have HC6 : Hid (∀ wx, Below (w.alloc (.cells #[.int .i64 5, .string ⟨name.toArray⟩, .int .i64 0, .int .i64 0, .string ⟨([] : Bs).toArray⟩, .int .i64 n, .int .i64 0, .int .i64 0, .int .i64 0] 26)).heap.size (w.alloc (.cells #[.int .i64 5, .string ⟨name.toArray⟩, .int .i64 0, .int .i64 0, .string ⟨([] : Bs).toArray⟩, .int .i64 n, .int .i64 0, .int .i64 0, .int .i64 0] 26)) wx → wx.cell? ⟨w.heap.size, 6, none⟩ = some (.int .i64 0)) := fun wx hb => by rw [hb.cell (by show w.heap.size < _; rw [World.size_alloc]; omega)]; exact (show HasAct _ w.heap.size ⟨5, name, 0, 0, ([] : Bs), n, 0, 0, 0⟩ from heap_at w _ _ rfl).cell 6
      have HC7 : Hid (∀ wx, Below (w.alloc (.cells #[.int .i64 5, .string ⟨name.toArray⟩, .int .i64 0, .int .i64 0, .string ⟨([] : Bs).toArray⟩, .int .i64 n, .int .i64 0, .int .i64 0, .int .i64 0] 26)).heap.size (w.alloc (.cells #[.int .i64 5, .string ⟨name.toArray⟩, .int .i64 0, .int .i64 0, .string ⟨([] : Bs).toArray⟩, .int .i64 n, .int .i64 0, .int .i64 0, .int .i64 0] 26)) wx → wx.cell? ⟨w.heap.size, 7, none⟩ = some (.int .i64 0)) := fun wx hb => by rw [hb.cell (by show w.heap.size < _; rw [World.size_alloc]; omega)]; exact (show HasAct _ w.heap.size ⟨5, name, 0, 0, ([] : Bs), n, 0, 0, 0⟩ from heap_at w _ _ rfl).cell 7
      have HC8 : Hid (∀ wx, Below (w.alloc (.cells #[.int .i64 5, .string ⟨name.toArray⟩, .int .i64 0, .int .i64 0, .string ⟨([] : Bs).toArray⟩, .int .i64 n, .int .i64 0, .int .i64 0, .int .i64 0] 26)).heap.size (w.alloc (.cells #[.int .i64 5, .string ⟨name.toArray⟩, .int .i64 0, .int .i64 0, .string ⟨([] : Bs).toArray⟩, .int .i64 n, .int .i64 0, .int .i64 0, .int .i64 0] 26)) wx → wx.cell? ⟨w.heap.size, 8, none⟩ = some (.int .i64 0)) := fun wx hb => by rw [hb.cell (by show w.heap.size < _; rw [World.size_alloc]; omega)]; exact (show HasAct _ w.heap.size ⟨5, name, 0, 0, ([] : Bs), n, 0, 0, 0⟩ from heap_at w _ _ rfl).cell 8
      have HXn : Hid (∃ S : Bs, S.length ≤ 20 ∧ S = Lib.itoa n ∧ ∀ wx, Calls Tryd.prog 32 #[.int .i64 n] wx fun e w' => e = .returned (.string ⟨S.toArray⟩) ∧ ∃ n, w' = wx.drewN n) :=
        ⟨Lib.itoa n, itoa_len _ HF.out.n.1 HF.out.n.2, rfl, fun wx => int_any n wx HF.out.n.1 HF.out.n.2⟩
      obtain ⟨Sn, hs1n, hs2n, hs3n⟩ := HXn.out
      have HIn := Lib.hid hs2n
      have HJn := Lib.hid hs3n
      clear hs2n hs3n HXn
      have hnl : name.length ≤ 100000 := HF.out.name
      have z0 : ¬ (9223372036854775807 < 4 + name.length) := by omega
      have z1 : ¬ (9223372036854775807 < 4 + name.length + 1) := by omega
      have z2 : ¬ (9223372036854775807 < 4 + name.length + 1 + Sn.length) := by omega
      go_enter Tryd.func13, Tryd.ntmps13
      go_wp2_with (first | (go_at_call 30; refine (HN.out _).mono ?_; rw [HNO.out]; rintro e w1 ⟨rfl, hb1⟩; have c0 := HC0.out _ hb1; have c1 := HC1.out _ hb1; have c2 := HC2.out _ hb1; have c3 := HC3.out _ hb1; have c4 := HC4.out _ hb1; have c5 := HC5.out _ hb1; have c6 := HC6.out _ hb1; have c7 := HC7.out _ hb1; have c8 := HC8.out _ hb1))
      repeat (go_quiet (first | ((go_at_call 32; (with_reducible refine Calls.mono (HJn.out _) ?_); rintro e w' ⟨rfl, nd, rfl⟩; (try first | exact ⟨rfl, _, World.drewN_drewN _ _ _⟩ | exact ⟨rfl, _, Eq.trans (World.drewN_drewN _ _ _) (congrArg (World.drewN _) (Nat.add_assoc _ _ _))⟩)))); try go_wp2_with (first | ((go_at_call 32; (with_reducible refine Calls.mono (HJn.out _) ?_); rintro e w' ⟨rfl, nd, rfl⟩; (try first | exact ⟨rfl, _, World.drewN_drewN _ _ _⟩ | exact ⟨rfl, _, Eq.trans (World.drewN_drewN _ _ _) (congrArg (World.drewN _) (Nat.add_assoc _ _ _))⟩)))))
      go_ret2
      have HE : lineErr ⟨5, name, 0, 0, ([] : Bs), n, 0, 0, 0⟩ = 0 := by rw [err_5, if_pos (by simp [HNO.out])]
      have HT : lineOf ⟨5, name, 0, 0, ([] : Bs), n, 0, 0, 0⟩ = lineText ⟨5, name, 0, 0, ([] : Bs), n, 0, 0, 0⟩ := by unfold lineOf; rw [if_pos HE]
      refine ⟨by rw [HE, HT]; exact tup_ret (by simp [lineText, wordOf, useOf, tell, ByteArray.data_append, HIn.out]), ?_⟩
      have hbel := (((Below.refl _ _).alloc (Nat.le_refl _) _).trans (hb1.mono (by rw [World.size_alloc]; omega)))
      exact ⟨hbel.os, hbel.tape, hbel.output, hbel.size, hbel.block⟩
end Go.Proofs.YtelehacakbaobaaDoor


namespace Go.Proofs.YtelehacakbaobaaDoor
open Go.RowKit
set_option linter.unusedVariables false
set_option linter.unusedSimpArgs false

set_option maxRecDepth 100000 in
set_option maxHeartbeats 4000000 in
theorem ref_line_6 (name : Bs) (frm til : Int) (text : Bs) (n l1 l2 l3 : Int) (hf : TAct.Fits ⟨6, name, frm, til, text, n, l1, l2, l3⟩) (w : World) :
    Calls Tryd.prog 13 #[.agg #[.int .i64 6, .string ⟨name.toArray⟩, .int .i64 frm, .int .i64 til, .string ⟨text.toArray⟩, .int .i64 n, .int .i64 l1, .int .i64 l2, .int .i64 l3]] w fun e w' =>
      e = .returned (.tuple #[.string ⟨(lineOf ⟨6, name, frm, til, text, n, l1, l2, l3⟩).toArray⟩, .int .i64 (lineErr ⟨6, name, frm, til, text, n, l1, l2, l3⟩)]) ∧ Below w.heap.size w w' := by
  have HF := Lib.hid hf
  clear hf
  cases hnm : name with
  | cons cn tn =>
    subst hnm
    go_enter Tryd.func13, Tryd.ntmps13
    go_wp2_with fail
    go_ret2
    have HE : lineErr ⟨6, (cn :: tn), frm, til, text, n, l1, l2, l3⟩ = 1 := by
      rw [err_6]; apply if_neg; intro hh; revert hh; simp
    refine ⟨by rw [HE, lineOf_err _ (by rw [HE]; decide)]; rfl, ?_⟩
    have hbel := ((Below.refl w.heap.size w).alloc (Nat.le_refl _) (.cells #[.int .i64 6, .string ⟨(cn :: tn).toArray⟩, .int .i64 frm, .int .i64 til, .string ⟨text.toArray⟩, .int .i64 n, .int .i64 l1, .int .i64 l2, .int .i64 l3] 26))
    exact ⟨hbel.os, hbel.tape, hbel.output, hbel.size, hbel.block⟩
  | nil =>
    subst hnm
    by_cases hfrm : frm = 0
    rotate_left
    · have qfrm : (frm == 0) = false := by simpa using hfrm
      go_enter Tryd.func13, Tryd.ntmps13
      go_wp2_with fail
      go_ret2
      have HE : lineErr ⟨6, ([] : Bs), frm, til, text, n, l1, l2, l3⟩ = 1 := by
        rw [err_6]; apply if_neg; intro hh; revert hh; simp [hfrm]
      refine ⟨by rw [HE, lineOf_err _ (by rw [HE]; decide)]; rfl, ?_⟩
      have hbel := ((Below.refl w.heap.size w).alloc (Nat.le_refl _) (.cells #[.int .i64 6, .string ⟨([] : Bs).toArray⟩, .int .i64 frm, .int .i64 til, .string ⟨text.toArray⟩, .int .i64 n, .int .i64 l1, .int .i64 l2, .int .i64 l3] 26))
      exact ⟨hbel.os, hbel.tape, hbel.output, hbel.size, hbel.block⟩
    subst hfrm
    by_cases htil : til = 0
    rotate_left
    · have qtil : (til == 0) = false := by simpa using htil
      go_enter Tryd.func13, Tryd.ntmps13
      go_wp2_with fail
      go_ret2
      have HE : lineErr ⟨6, ([] : Bs), 0, til, text, n, l1, l2, l3⟩ = 1 := by
        rw [err_6]; apply if_neg; intro hh; revert hh; simp [htil]
      refine ⟨by rw [HE, lineOf_err _ (by rw [HE]; decide)]; rfl, ?_⟩
      have hbel := ((Below.refl w.heap.size w).alloc (Nat.le_refl _) (.cells #[.int .i64 6, .string ⟨([] : Bs).toArray⟩, .int .i64 0, .int .i64 til, .string ⟨text.toArray⟩, .int .i64 n, .int .i64 l1, .int .i64 l2, .int .i64 l3] 26))
      exact ⟨hbel.os, hbel.tape, hbel.output, hbel.size, hbel.block⟩
    subst htil
    cases htx : text with
    | cons ct tt =>
      subst htx
      go_enter Tryd.func13, Tryd.ntmps13
      go_wp2_with fail
      go_ret2
      have HE : lineErr ⟨6, ([] : Bs), 0, 0, (ct :: tt), n, l1, l2, l3⟩ = 1 := by
        rw [err_6]; apply if_neg; intro hh; revert hh; simp
      refine ⟨by rw [HE, lineOf_err _ (by rw [HE]; decide)]; rfl, ?_⟩
      have hbel := ((Below.refl w.heap.size w).alloc (Nat.le_refl _) (.cells #[.int .i64 6, .string ⟨([] : Bs).toArray⟩, .int .i64 0, .int .i64 0, .string ⟨(ct :: tt).toArray⟩, .int .i64 n, .int .i64 l1, .int .i64 l2, .int .i64 l3] 26))
      exact ⟨hbel.os, hbel.tape, hbel.output, hbel.size, hbel.block⟩
    | nil =>
      subst htx
      by_cases hn : n = 0
      rotate_left
      · have qn : (n == 0) = false := by simpa using hn
        go_enter Tryd.func13, Tryd.ntmps13
        go_wp2_with fail
        go_ret2
        have HE : lineErr ⟨6, ([] : Bs), 0, 0, ([] : Bs), n, l1, l2, l3⟩ = 1 := by
          rw [err_6]; apply if_neg; intro hh; revert hh; simp [hn]
        refine ⟨by rw [HE, lineOf_err _ (by rw [HE]; decide)]; rfl, ?_⟩
        have hbel := ((Below.refl w.heap.size w).alloc (Nat.le_refl _) (.cells #[.int .i64 6, .string ⟨([] : Bs).toArray⟩, .int .i64 0, .int .i64 0, .string ⟨([] : Bs).toArray⟩, .int .i64 n, .int .i64 l1, .int .i64 l2, .int .i64 l3] 26))
        exact ⟨hbel.os, hbel.tape, hbel.output, hbel.size, hbel.block⟩
      subst hn
      have HXl1 : Hid (∃ S : Bs, S.length ≤ 20 ∧ S = Lib.itoa l1 ∧ ∀ wx, Calls Tryd.prog 32 #[.int .i64 l1] wx fun e w' => e = .returned (.string ⟨S.toArray⟩) ∧ ∃ n, w' = wx.drewN n) :=
        ⟨Lib.itoa l1, itoa_len _ HF.out.l1.1 HF.out.l1.2, rfl, fun wx => int_any l1 wx HF.out.l1.1 HF.out.l1.2⟩
      obtain ⟨Sl1, hs1l1, hs2l1, hs3l1⟩ := HXl1.out
      have HIl1 := Lib.hid hs2l1
      have HJl1 := Lib.hid hs3l1
      clear hs2l1 hs3l1 HXl1
      have HXl2 : Hid (∃ S : Bs, S.length ≤ 20 ∧ S = Lib.itoa l2 ∧ ∀ wx, Calls Tryd.prog 32 #[.int .i64 l2] wx fun e w' => e = .returned (.string ⟨S.toArray⟩) ∧ ∃ n, w' = wx.drewN n) :=
        ⟨Lib.itoa l2, itoa_len _ HF.out.l2.1 HF.out.l2.2, rfl, fun wx => int_any l2 wx HF.out.l2.1 HF.out.l2.2⟩
      obtain ⟨Sl2, hs1l2, hs2l2, hs3l2⟩ := HXl2.out
      have HIl2 := Lib.hid hs2l2
      have HJl2 := Lib.hid hs3l2
      clear hs2l2 hs3l2 HXl2
      have HXl3 : Hid (∃ S : Bs, S.length ≤ 20 ∧ S = Lib.itoa l3 ∧ ∀ wx, Calls Tryd.prog 32 #[.int .i64 l3] wx fun e w' => e = .returned (.string ⟨S.toArray⟩) ∧ ∃ n, w' = wx.drewN n) :=
        ⟨Lib.itoa l3, itoa_len _ HF.out.l3.1 HF.out.l3.2, rfl, fun wx => int_any l3 wx HF.out.l3.1 HF.out.l3.2⟩
      obtain ⟨Sl3, hs1l3, hs2l3, hs3l3⟩ := HXl3.out
      have HIl3 := Lib.hid hs2l3
      have HJl3 := Lib.hid hs3l3
      clear hs2l3 hs3l3 HXl3
      have z0 : ¬ (9223372036854775807 < 6 + Sl1.length) := by omega
      have z1 : ¬ (9223372036854775807 < 6 + Sl1.length + 1) := by omega
      have z2 : ¬ (9223372036854775807 < 6 + Sl1.length + 1 + Sl2.length) := by omega
      have z3 : ¬ (9223372036854775807 < 6 + Sl1.length + 1 + Sl2.length + 1) := by omega
      have z4 : ¬ (9223372036854775807 < 6 + Sl1.length + 1 + Sl2.length + 1 + Sl3.length) := by omega
      go_enter Tryd.func13, Tryd.ntmps13
      go_wp2_with fail
      repeat (go_quiet (first | ((go_at_call 32; (with_reducible refine Calls.mono (HJl1.out _) ?_); rintro e w' ⟨rfl, nd, rfl⟩; (try first | exact ⟨rfl, _, World.drewN_drewN _ _ _⟩ | exact ⟨rfl, _, Eq.trans (World.drewN_drewN _ _ _) (congrArg (World.drewN _) (Nat.add_assoc _ _ _))⟩))) | ((go_at_call 32; (with_reducible refine Calls.mono (HJl2.out _) ?_); rintro e w' ⟨rfl, nd, rfl⟩; (try first | exact ⟨rfl, _, World.drewN_drewN _ _ _⟩ | exact ⟨rfl, _, Eq.trans (World.drewN_drewN _ _ _) (congrArg (World.drewN _) (Nat.add_assoc _ _ _))⟩))) | ((go_at_call 32; (with_reducible refine Calls.mono (HJl3.out _) ?_); rintro e w' ⟨rfl, nd, rfl⟩; (try first | exact ⟨rfl, _, World.drewN_drewN _ _ _⟩ | exact ⟨rfl, _, Eq.trans (World.drewN_drewN _ _ _) (congrArg (World.drewN _) (Nat.add_assoc _ _ _))⟩)))); try go_wp2_with (first | ((go_at_call 32; (with_reducible refine Calls.mono (HJl1.out _) ?_); rintro e w' ⟨rfl, nd, rfl⟩; (try first | exact ⟨rfl, _, World.drewN_drewN _ _ _⟩ | exact ⟨rfl, _, Eq.trans (World.drewN_drewN _ _ _) (congrArg (World.drewN _) (Nat.add_assoc _ _ _))⟩))) | ((go_at_call 32; (with_reducible refine Calls.mono (HJl2.out _) ?_); rintro e w' ⟨rfl, nd, rfl⟩; (try first | exact ⟨rfl, _, World.drewN_drewN _ _ _⟩ | exact ⟨rfl, _, Eq.trans (World.drewN_drewN _ _ _) (congrArg (World.drewN _) (Nat.add_assoc _ _ _))⟩))) | ((go_at_call 32; (with_reducible refine Calls.mono (HJl3.out _) ?_); rintro e w' ⟨rfl, nd, rfl⟩; (try first | exact ⟨rfl, _, World.drewN_drewN _ _ _⟩ | exact ⟨rfl, _, Eq.trans (World.drewN_drewN _ _ _) (congrArg (World.drewN _) (Nat.add_assoc _ _ _))⟩)))))
      go_ret2
      have HE : lineErr ⟨6, ([] : Bs), 0, 0, ([] : Bs), 0, l1, l2, l3⟩ = 0 := by rw [err_6, if_pos (by simp [])]
      have HT : lineOf ⟨6, ([] : Bs), 0, 0, ([] : Bs), 0, l1, l2, l3⟩ = lineText ⟨6, ([] : Bs), 0, 0, ([] : Bs), 0, l1, l2, l3⟩ := by unfold lineOf; rw [if_pos HE]
      refine ⟨by rw [HE, HT]; exact tup_ret (by simp [lineText, wordOf, useOf, tell, ByteArray.data_append, HIl1.out, HIl2.out, HIl3.out]), ?_⟩
      have hbel := ((Below.refl w.heap.size w).alloc (Nat.le_refl _) (.cells #[.int .i64 6, .string ⟨([] : Bs).toArray⟩, .int .i64 0, .int .i64 0, .string ⟨([] : Bs).toArray⟩, .int .i64 0, .int .i64 l1, .int .i64 l2, .int .i64 l3] 26))
      exact ⟨hbel.os, hbel.tape, hbel.output, hbel.size, hbel.block⟩
end Go.Proofs.YtelehacakbaobaaDoor


namespace Go.Proofs.YtelehacakbaobaaDoor
open Go.RowKit
set_option linter.unusedVariables false
set_option linter.unusedSimpArgs false

set_option maxRecDepth 100000 in
set_option maxHeartbeats 4000000 in
theorem ref_line_7 (name : Bs) (frm til : Int) (text : Bs) (n l1 l2 l3 : Int) (hf : TAct.Fits ⟨7, name, frm, til, text, n, l1, l2, l3⟩) (w : World) :
    Calls Tryd.prog 13 #[.agg #[.int .i64 7, .string ⟨name.toArray⟩, .int .i64 frm, .int .i64 til, .string ⟨text.toArray⟩, .int .i64 n, .int .i64 l1, .int .i64 l2, .int .i64 l3]] w fun e w' =>
      e = .returned (.tuple #[.string ⟨(lineOf ⟨7, name, frm, til, text, n, l1, l2, l3⟩).toArray⟩, .int .i64 (lineErr ⟨7, name, frm, til, text, n, l1, l2, l3⟩)]) ∧ Below w.heap.size w w' := by
  have HF := Lib.hid hf
  clear hf
  cases hnm : name with
  | cons cn tn =>
    subst hnm
    go_enter Tryd.func13, Tryd.ntmps13
    go_wp2_with fail
    go_ret2
    have HE : lineErr ⟨7, (cn :: tn), frm, til, text, n, l1, l2, l3⟩ = 1 := by
      rw [err_7]; apply if_neg; intro hh; revert hh; simp
    refine ⟨by rw [HE, lineOf_err _ (by rw [HE]; decide)]; rfl, ?_⟩
    have hbel := ((Below.refl w.heap.size w).alloc (Nat.le_refl _) (.cells #[.int .i64 7, .string ⟨(cn :: tn).toArray⟩, .int .i64 frm, .int .i64 til, .string ⟨text.toArray⟩, .int .i64 n, .int .i64 l1, .int .i64 l2, .int .i64 l3] 26))
    exact ⟨hbel.os, hbel.tape, hbel.output, hbel.size, hbel.block⟩
  | nil =>
    subst hnm
    by_cases hfrm : frm = 0
    rotate_left
    · have qfrm : (frm == 0) = false := by simpa using hfrm
      go_enter Tryd.func13, Tryd.ntmps13
      go_wp2_with fail
      go_ret2
      have HE : lineErr ⟨7, ([] : Bs), frm, til, text, n, l1, l2, l3⟩ = 1 := by
        rw [err_7]; apply if_neg; intro hh; revert hh; simp [hfrm]
      refine ⟨by rw [HE, lineOf_err _ (by rw [HE]; decide)]; rfl, ?_⟩
      have hbel := ((Below.refl w.heap.size w).alloc (Nat.le_refl _) (.cells #[.int .i64 7, .string ⟨([] : Bs).toArray⟩, .int .i64 frm, .int .i64 til, .string ⟨text.toArray⟩, .int .i64 n, .int .i64 l1, .int .i64 l2, .int .i64 l3] 26))
      exact ⟨hbel.os, hbel.tape, hbel.output, hbel.size, hbel.block⟩
    subst hfrm
    by_cases htil : til = 0
    rotate_left
    · have qtil : (til == 0) = false := by simpa using htil
      go_enter Tryd.func13, Tryd.ntmps13
      go_wp2_with fail
      go_ret2
      have HE : lineErr ⟨7, ([] : Bs), 0, til, text, n, l1, l2, l3⟩ = 1 := by
        rw [err_7]; apply if_neg; intro hh; revert hh; simp [htil]
      refine ⟨by rw [HE, lineOf_err _ (by rw [HE]; decide)]; rfl, ?_⟩
      have hbel := ((Below.refl w.heap.size w).alloc (Nat.le_refl _) (.cells #[.int .i64 7, .string ⟨([] : Bs).toArray⟩, .int .i64 0, .int .i64 til, .string ⟨text.toArray⟩, .int .i64 n, .int .i64 l1, .int .i64 l2, .int .i64 l3] 26))
      exact ⟨hbel.os, hbel.tape, hbel.output, hbel.size, hbel.block⟩
    subst htil
    cases htx : text with
    | cons ct tt =>
      subst htx
      go_enter Tryd.func13, Tryd.ntmps13
      go_wp2_with fail
      go_ret2
      have HE : lineErr ⟨7, ([] : Bs), 0, 0, (ct :: tt), n, l1, l2, l3⟩ = 1 := by
        rw [err_7]; apply if_neg; intro hh; revert hh; simp
      refine ⟨by rw [HE, lineOf_err _ (by rw [HE]; decide)]; rfl, ?_⟩
      have hbel := ((Below.refl w.heap.size w).alloc (Nat.le_refl _) (.cells #[.int .i64 7, .string ⟨([] : Bs).toArray⟩, .int .i64 0, .int .i64 0, .string ⟨(ct :: tt).toArray⟩, .int .i64 n, .int .i64 l1, .int .i64 l2, .int .i64 l3] 26))
      exact ⟨hbel.os, hbel.tape, hbel.output, hbel.size, hbel.block⟩
    | nil =>
      subst htx
      by_cases hn : n = 0
      rotate_left
      · have qn : (n == 0) = false := by simpa using hn
        go_enter Tryd.func13, Tryd.ntmps13
        go_wp2_with fail
        go_ret2
        have HE : lineErr ⟨7, ([] : Bs), 0, 0, ([] : Bs), n, l1, l2, l3⟩ = 1 := by
          rw [err_7]; apply if_neg; intro hh; revert hh; simp [hn]
        refine ⟨by rw [HE, lineOf_err _ (by rw [HE]; decide)]; rfl, ?_⟩
        have hbel := ((Below.refl w.heap.size w).alloc (Nat.le_refl _) (.cells #[.int .i64 7, .string ⟨([] : Bs).toArray⟩, .int .i64 0, .int .i64 0, .string ⟨([] : Bs).toArray⟩, .int .i64 n, .int .i64 l1, .int .i64 l2, .int .i64 l3] 26))
        exact ⟨hbel.os, hbel.tape, hbel.output, hbel.size, hbel.block⟩
      subst hn
      cases hlm : limNe l1 l2 l3 with
      | true =>
        have hq : ∀ wx, Sem.run Tryd.prog (binOp .neq 24 (.agg #[.int .i64 l1, .int .i64 l2, .int .i64 l3]) (.agg #[.int .i64 0, .int .i64 0, .int .i64 0])) wx = .ok (.bool true) wx := fun wx => by rw [neq_lim, hlm]
        go_enter Tryd.func13, Tryd.ntmps13
        go_wp2_with fail
        go_ret2
        have HE : lineErr ⟨7, ([] : Bs), 0, 0, ([] : Bs), 0, l1, l2, l3⟩ = 1 := by
          rw [err_7]; apply if_neg; intro hh; revert hh; simp only [limNe, decide_eq_true_iff] at hlm; grind
        refine ⟨by rw [HE, lineOf_err _ (by rw [HE]; decide)]; rfl, ?_⟩
        have hbel := ((Below.refl w.heap.size w).alloc (Nat.le_refl _) (.cells #[.int .i64 7, .string ⟨([] : Bs).toArray⟩, .int .i64 0, .int .i64 0, .string ⟨([] : Bs).toArray⟩, .int .i64 0, .int .i64 l1, .int .i64 l2, .int .i64 l3] 26))
        exact ⟨hbel.os, hbel.tape, hbel.output, hbel.size, hbel.block⟩
      | false =>
        have hlz : l1 = 0 ∧ l2 = 0 ∧ l3 = 0 := by simp only [limNe, decide_eq_false_iff_not, Decidable.not_not] at hlm; exact hlm
        clear hlm
        obtain ⟨rfl, rfl, rfl⟩ := hlz
        have hq : ∀ wx, Sem.run Tryd.prog (binOp .neq 24 (.agg #[.int .i64 0, .int .i64 0, .int .i64 0]) (.agg #[.int .i64 0, .int .i64 0, .int .i64 0])) wx = .ok (.bool false) wx := fun wx => by rw [neq_lim]; rfl
        go_enter Tryd.func13, Tryd.ntmps13
        go_wp2_with fail
        go_ret2
        have HE : lineErr ⟨7, ([] : Bs), 0, 0, ([] : Bs), 0, 0, 0, 0⟩ = 0 := by rw [err_7, if_pos (by simp [])]
        have HT : lineOf ⟨7, ([] : Bs), 0, 0, ([] : Bs), 0, 0, 0, 0⟩ = lineText ⟨7, ([] : Bs), 0, 0, ([] : Bs), 0, 0, 0, 0⟩ := by unfold lineOf; rw [if_pos HE]
        refine ⟨by rw [HE, HT]; exact tup_ret (by simp [lineText, wordOf, useOf, tell, ByteArray.data_append]), ?_⟩
        have hbel := ((Below.refl w.heap.size w).alloc (Nat.le_refl _) (.cells #[.int .i64 7, .string ⟨([] : Bs).toArray⟩, .int .i64 0, .int .i64 0, .string ⟨([] : Bs).toArray⟩, .int .i64 0, .int .i64 0, .int .i64 0, .int .i64 0] 26))
        exact ⟨hbel.os, hbel.tape, hbel.output, hbel.size, hbel.block⟩
end Go.Proofs.YtelehacakbaobaaDoor

