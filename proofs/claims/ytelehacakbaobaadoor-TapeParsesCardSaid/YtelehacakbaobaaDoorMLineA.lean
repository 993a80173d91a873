/- What ref28.Line comes to at kinds 1 to 3. (Written by genrefline.py.) -/
import Derived.Test.YtelehacakbaobaaDoorMParse
import Derived.Test.YtelehacakbaobaaDoorGivenR
import Derived.BigQuiet

namespace Go.Proofs.YtelehacakbaobaaDoor
open Go.RowKit
set_option linter.unusedVariables false
set_option linter.unusedSimpArgs false

theorem lc_0 (w : World) (kd : Int) (name : Bs) (frm til : Int) (text : Bs) (n l1 l2 l3 : Int) : Hid (∀ wx, Below (w.alloc (.cells #[.int .i64 kd, .string ⟨name.toArray⟩, .int .i64 frm, .int .i64 til, .string ⟨text.toArray⟩, .int .i64 n, .int .i64 l1, .int .i64 l2, .int .i64 l3] 26)).heap.size (w.alloc (.cells #[.int .i64 kd, .string ⟨name.toArray⟩, .int .i64 frm, .int .i64 til, .string ⟨text.toArray⟩, .int .i64 n, .int .i64 l1, .int .i64 l2, .int .i64 l3] 26)) wx → wx.cell? ⟨w.heap.size, 0, none⟩ = some (.int .i64 kd)) := fun wx hb => by rw [hb.cell (by show w.heap.size < _; rw [World.size_alloc]; omega)]; exact (show HasAct _ w.heap.size ⟨kd, name, frm, til, text, n, l1, l2, l3⟩ from heap_at w _ _ rfl).cell 0
theorem lc_1 (w : World) (kd : Int) (name : Bs) (frm til : Int) (text : Bs) (n l1 l2 l3 : Int) : Hid (∀ wx, Below (w.alloc (.cells #[.int .i64 kd, .string ⟨name.toArray⟩, .int .i64 frm, .int .i64 til, .string ⟨text.toArray⟩, .int .i64 n, .int .i64 l1, .int .i64 l2, .int .i64 l3] 26)).heap.size (w.alloc (.cells #[.int .i64 kd, .string ⟨name.toArray⟩, .int .i64 frm, .int .i64 til, .string ⟨text.toArray⟩, .int .i64 n, .int .i64 l1, .int .i64 l2, .int .i64 l3] 26)) wx → wx.cell? ⟨w.heap.size, 1, none⟩ = some (.string ⟨name.toArray⟩)) := fun wx hb => by rw [hb.cell (by show w.heap.size < _; rw [World.size_alloc]; omega)]; exact (show HasAct _ w.heap.size ⟨kd, name, frm, til, text, n, l1, l2, l3⟩ from heap_at w _ _ rfl).cell 1
theorem lc_2 (w : World) (kd : Int) (name : Bs) (frm til : Int) (text : Bs) (n l1 l2 l3 : Int) : Hid (∀ wx, Below (w.alloc (.cells #[.int .i64 kd, .string ⟨name.toArray⟩, .int .i64 frm, .int .i64 til, .string ⟨text.toArray⟩, .int .i64 n, .int .i64 l1, .int .i64 l2, .int .i64 l3] 26)).heap.size (w.alloc (.cells #[.int .i64 kd, .string ⟨name.toArray⟩, .int .i64 frm, .int .i64 til, .string ⟨text.toArray⟩, .int .i64 n, .int .i64 l1, .int .i64 l2, .int .i64 l3] 26)) wx → wx.cell? ⟨w.heap.size, 2, none⟩ = some (.int .i64 frm)) := fun wx hb => by rw [hb.cell (by show w.heap.size < _; rw [World.size_alloc]; omega)]; exact (show HasAct _ w.heap.size ⟨kd, name, frm, til, text, n, l1, l2, l3⟩ from heap_at w _ _ rfl).cell 2
theorem lc_3 (w : World) (kd : Int) (name : Bs) (frm til : Int) (text : Bs) (n l1 l2 l3 : Int) : Hid (∀ wx, Below (w.alloc (.cells #[.int .i64 kd, .string ⟨name.toArray⟩, .int .i64 frm, .int .i64 til, .string ⟨text.toArray⟩, .int .i64 n, .int .i64 l1, .int .i64 l2, .int .i64 l3] 26)).heap.size (w.alloc (.cells #[.int .i64 kd, .string ⟨name.toArray⟩, .int .i64 frm, .int .i64 til, .string ⟨text.toArray⟩, .int .i64 n, .int .i64 l1, .int .i64 l2, .int .i64 l3] 26)) wx → wx.cell? ⟨w.heap.size, 3, none⟩ = some (.int .i64 til)) := fun wx hb => by rw [hb.cell (by show w.heap.size < _; rw [World.size_alloc]; omega)]; exact (show HasAct _ w.heap.size ⟨kd, name, frm, til, text, n, l1, l2, l3⟩ from heap_at w _ _ rfl).cell 3
theorem lc_4 (w : World) (kd : Int) (name : Bs) (frm til : Int) (text : Bs) (n l1 l2 l3 : Int) : Hid (∀ wx, Below (w.alloc (.cells #[.int .i64 kd, .string ⟨name.toArray⟩, .int .i64 frm, .int .i64 til, .string ⟨text.toArray⟩, .int .i64 n, .int .i64 l1, .int .i64 l2, .int .i64 l3] 26)).heap.size (w.alloc (.cells #[.int .i64 kd, .string ⟨name.toArray⟩, .int .i64 frm, .int .i64 til, .string ⟨text.toArray⟩, .int .i64 n, .int .i64 l1, .int .i64 l2, .int .i64 l3] 26)) wx → wx.cell? ⟨w.heap.size, 4, none⟩ = some (.string ⟨text.toArray⟩)) := fun wx hb => by rw [hb.cell (by show w.heap.size < _; rw [World.size_alloc]; omega)]; exact (show HasAct _ w.heap.size ⟨kd, name, frm, til, text, n, l1, l2, l3⟩ from heap_at w _ _ rfl).cell 4
theorem lc_5 (w : World) (kd : Int) (name : Bs) (frm til : Int) (text : Bs) (n l1 l2 l3 : Int) : Hid (∀ wx, Below (w.alloc (.cells #[.int .i64 kd, .string ⟨name.toArray⟩, .int .i64 frm, .int .i64 til, .string ⟨text.toArray⟩, .int .i64 n, .int .i64 l1, .int .i64 l2, .int .i64 l3] 26)).heap.size (w.alloc (.cells #[.int .i64 kd, .string ⟨name.toArray⟩, .int .i64 frm, .int .i64 til, .string ⟨text.toArray⟩, .int .i64 n, .int .i64 l1, .int .i64 l2, .int .i64 l3] 26)) wx → wx.cell? ⟨w.heap.size, 5, none⟩ = some (.int .i64 n)) := fun wx hb => by rw [hb.cell (by show w.heap.size < _; rw [World.size_alloc]; omega)]; exact (show HasAct _ w.heap.size ⟨kd, name, frm, til, text, n, l1, l2, l3⟩ from heap_at w _ _ rfl).cell 5
theorem lc_6 (w : World) (kd : Int) (name : Bs) (frm til : Int) (text : Bs) (n l1 l2 l3 : Int) : Hid (∀ wx, Below (w.alloc (.cells #[.int .i64 kd, .string ⟨name.toArray⟩, .int .i64 frm, .int .i64 til, .string ⟨text.toArray⟩, .int .i64 n, .int .i64 l1, .int .i64 l2, .int .i64 l3] 26)).heap.size (w.alloc (.cells #[.int .i64 kd, .string ⟨name.toArray⟩, .int .i64 frm, .int .i64 til, .string ⟨text.toArray⟩, .int .i64 n, .int .i64 l1, .int .i64 l2, .int .i64 l3] 26)) wx → wx.cell? ⟨w.heap.size, 6, none⟩ = some (.int .i64 l1)) := fun wx hb => by rw [hb.cell (by show w.heap.size < _; rw [World.size_alloc]; omega)]; exact (show HasAct _ w.heap.size ⟨kd, name, frm, til, text, n, l1, l2, l3⟩ from heap_at w _ _ rfl).cell 6
theorem lc_7 (w : World) (kd : Int) (name : Bs) (frm til : Int) (text : Bs) (n l1 l2 l3 : Int) : Hid (∀ wx, Below (w.alloc (.cells #[.int .i64 kd, .string ⟨name.toArray⟩, .int .i64 frm, .int .i64 til, .string ⟨text.toArray⟩, .int .i64 n, .int .i64 l1, .int .i64 l2, .int .i64 l3] 26)).heap.size (w.alloc (.cells #[.int .i64 kd, .string ⟨name.toArray⟩, .int .i64 frm, .int .i64 til, .string ⟨text.toArray⟩, .int .i64 n, .int .i64 l1, .int .i64 l2, .int .i64 l3] 26)) wx → wx.cell? ⟨w.heap.size, 7, none⟩ = some (.int .i64 l2)) := fun wx hb => by rw [hb.cell (by show w.heap.size < _; rw [World.size_alloc]; omega)]; exact (show HasAct _ w.heap.size ⟨kd, name, frm, til, text, n, l1, l2, l3⟩ from heap_at w _ _ rfl).cell 7
theorem lc_8 (w : World) (kd : Int) (name : Bs) (frm til : Int) (text : Bs) (n l1 l2 l3 : Int) : Hid (∀ wx, Below (w.alloc (.cells #[.int .i64 kd, .string ⟨name.toArray⟩, .int .i64 frm, .int .i64 til, .string ⟨text.toArray⟩, .int .i64 n, .int .i64 l1, .int .i64 l2, .int .i64 l3] 26)).heap.size (w.alloc (.cells #[.int .i64 kd, .string ⟨name.toArray⟩, .int .i64 frm, .int .i64 til, .string ⟨text.toArray⟩, .int .i64 n, .int .i64 l1, .int .i64 l2, .int .i64 l3] 26)) wx → wx.cell? ⟨w.heap.size, 8, none⟩ = some (.int .i64 l3)) := fun wx hb => by rw [hb.cell (by show w.heap.size < _; rw [World.size_alloc]; omega)]; exact (show HasAct _ w.heap.size ⟨kd, name, frm, til, text, n, l1, l2, l3⟩ from heap_at w _ _ rfl).cell 8
set_option maxRecDepth 100000 in
set_option maxHeartbeats 4000000 in
theorem ref_line_1 (name : Bs) (frm til : Int) (text : Bs) (n l1 l2 l3 : Int) (hf : TAct.Fits ⟨1, name, frm, til, text, n, l1, l2, l3⟩) (w : World) :
    Calls Tryd.prog 13 #[.agg #[.int .i64 1, .string ⟨name.toArray⟩, .int .i64 frm, .int .i64 til, .string ⟨text.toArray⟩, .int .i64 n, .int .i64 l1, .int .i64 l2, .int .i64 l3]] w fun e w' =>
      e = .returned (.tuple #[.string ⟨(lineOf ⟨1, name, frm, til, text, n, l1, l2, l3⟩).toArray⟩, .int .i64 (lineErr ⟨1, name, frm, til, text, n, l1, l2, l3⟩)]) ∧ Below w.heap.size w w' := by
  have HN := Lib.hid (fun wx => ref_name_call name hf.name wx)
  have HF := Lib.hid hf
  clear hf
  by_cases hno : nameOk name = true
  rotate_left
  · have HNO : Hid (nameOk name = false) := by show _ = _; simpa using hno
    clear hno
    have HC0 := lc_0 w 1 name frm til text n l1 l2 l3
    have HC1 := lc_1 w 1 name frm til text n l1 l2 l3
    have HC2 := lc_2 w 1 name frm til text n l1 l2 l3
    have HC3 := lc_3 w 1 name frm til text n l1 l2 l3
    have HC4 := lc_4 w 1 name frm til text n l1 l2 l3
    have HC5 := lc_5 w 1 name frm til text n l1 l2 l3
    have HC6 := lc_6 w 1 name frm til text n l1 l2 l3
    have HC7 := lc_7 w 1 name frm til text n l1 l2 l3
    have HC8 := lc_8 w 1 name frm til text n l1 l2 l3
    go_enter Tryd.func13, Tryd.ntmps13
    go_wp2_with (first | (go_at_call 30; refine (HN.out _).mono ?_; rw [HNO.out]; rintro e w1 ⟨rfl, hb1⟩; have c0 := HC0.out _ hb1; have c1 := HC1.out _ hb1; have c2 := HC2.out _ hb1; have c3 := HC3.out _ hb1; have c4 := HC4.out _ hb1; have c5 := HC5.out _ hb1; have c6 := HC6.out _ hb1; have c7 := HC7.out _ hb1; have c8 := HC8.out _ hb1))
    go_ret2
    have HE : lineErr ⟨1, name, frm, til, text, n, l1, l2, l3⟩ = 1 := by
      rw [err_1]; apply if_neg; intro hh; revert hh; rw [HNO.out]; simp
    refine ⟨by rw [HE, lineOf_err _ (by rw [HE]; decide)]; rfl, ?_⟩
    have hbel := (((Below.refl _ _).alloc (Nat.le_refl _) _).trans (hb1.mono (by rw [World.size_alloc]; omega)))
    exact ⟨hbel.os, hbel.tape, hbel.output, hbel.size, hbel.block⟩
  have HNO := Lib.hid hno
  clear hno
  by_cases hfrm : frm = 0
  rotate_left
  · have qfrm : (frm == 0) = false := by simpa using hfrm
    have HC0 := lc_0 w 1 name frm til text n l1 l2 l3
    have HC1 := lc_1 w 1 name frm til text n l1 l2 l3
    have HC2 := lc_2 w 1 name frm til text n l1 l2 l3
    have HC3 := lc_3 w 1 name frm til text n l1 l2 l3
    have HC4 := lc_4 w 1 name frm til text n l1 l2 l3
    have HC5 := lc_5 w 1 name frm til text n l1 l2 l3
    have HC6 := lc_6 w 1 name frm til text n l1 l2 l3
    have HC7 := lc_7 w 1 name frm til text n l1 l2 l3
    have HC8 := lc_8 w 1 name frm til text n l1 l2 l3
    go_enter Tryd.func13, Tryd.ntmps13
    go_wp2_with (first | (go_at_call 30; refine (HN.out _).mono ?_; rw [HNO.out]; rintro e w1 ⟨rfl, hb1⟩; have c0 := HC0.out _ hb1; have c1 := HC1.out _ hb1; have c2 := HC2.out _ hb1; have c3 := HC3.out _ hb1; have c4 := HC4.out _ hb1; have c5 := HC5.out _ hb1; have c6 := HC6.out _ hb1; have c7 := HC7.out _ hb1; have c8 := HC8.out _ hb1))
    go_ret2
    have HE : lineErr ⟨1, name, frm, til, text, n, l1, l2, l3⟩ = 1 := by
      rw [err_1]; apply if_neg; intro hh; revert hh; simp [hfrm]
    refine ⟨by rw [HE, lineOf_err _ (by rw [HE]; decide)]; rfl, ?_⟩
    have hbel := (((Below.refl _ _).alloc (Nat.le_refl _) _).trans (hb1.mono (by rw [World.size_alloc]; omega)))
    exact ⟨hbel.os, hbel.tape, hbel.output, hbel.size, hbel.block⟩
  subst hfrm
  by_cases htil : til = 0
  rotate_left
  · have qtil : (til == 0) = false := by simpa using htil
    have HC0 := lc_0 w 1 name 0 til text n l1 l2 l3
    have HC1 := lc_1 w 1 name 0 til text n l1 l2 l3
    have HC2 := lc_2 w 1 name 0 til text n l1 l2 l3
    have HC3 := lc_3 w 1 name 0 til text n l1 l2 l3
    have HC4 := lc_4 w 1 name 0 til text n l1 l2 l3
    have HC5 := lc_5 w 1 name 0 til text n l1 l2 l3
    have HC6 := lc_6 w 1 name 0 til text n l1 l2 l3
    have HC7 := lc_7 w 1 name 0 til text n l1 l2 l3
    have HC8 := lc_8 w 1 name 0 til text n l1 l2 l3
    go_enter Tryd.func13, Tryd.ntmps13
    go_wp2_with (first | (go_at_call 30; refine (HN.out _).mono ?_; rw [HNO.out]; rintro e w1 ⟨rfl, hb1⟩; have c0 := HC0.out _ hb1; have c1 := HC1.out _ hb1; have c2 := HC2.out _ hb1; have c3 := HC3.out _ hb1; have c4 := HC4.out _ hb1; have c5 := HC5.out _ hb1; have c6 := HC6.out _ hb1; have c7 := HC7.out _ hb1; have c8 := HC8.out _ hb1))
    go_ret2
    have HE : lineErr ⟨1, name, 0, til, text, n, l1, l2, l3⟩ = 1 := by
      rw [err_1]; apply if_neg; intro hh; revert hh; simp [htil]
    refine ⟨by rw [HE, lineOf_err _ (by rw [HE]; decide)]; rfl, ?_⟩
    have hbel := (((Below.refl _ _).alloc (Nat.le_refl _) _).trans (hb1.mono (by rw [World.size_alloc]; omega)))
    exact ⟨hbel.os, hbel.tape, hbel.output, hbel.size, hbel.block⟩
  subst htil
  by_cases hn : n = 0
  rotate_left
  · have qn : (n == 0) = false := by simpa using hn
    have HC0 := lc_0 w 1 name 0 0 text n l1 l2 l3
    have HC1 := lc_1 w 1 name 0 0 text n l1 l2 l3
    have HC2 := lc_2 w 1 name 0 0 text n l1 l2 l3
    have HC3 := lc_3 w 1 name 0 0 text n l1 l2 l3
    have HC4 := lc_4 w 1 name 0 0 text n l1 l2 l3
    have HC5 := lc_5 w 1 name 0 0 text n l1 l2 l3
    have HC6 := lc_6 w 1 name 0 0 text n l1 l2 l3
    have HC7 := lc_7 w 1 name 0 0 text n l1 l2 l3
    have HC8 := lc_8 w 1 name 0 0 text n l1 l2 l3
    go_enter Tryd.func13, Tryd.ntmps13
    go_wp2_with (first | (go_at_call 30; refine (HN.out _).mono ?_; rw [HNO.out]; rintro e w1 ⟨rfl, hb1⟩; have c0 := HC0.out _ hb1; have c1 := HC1.out _ hb1; have c2 := HC2.out _ hb1; have c3 := HC3.out _ hb1; have c4 := HC4.out _ hb1; have c5 := HC5.out _ hb1; have c6 := HC6.out _ hb1; have c7 := HC7.out _ hb1; have c8 := HC8.out _ hb1))
    go_ret2
    have HE : lineErr ⟨1, name, 0, 0, text, n, l1, l2, l3⟩ = 1 := by
      rw [err_1]; apply if_neg; intro hh; revert hh; simp [hn]
    refine ⟨by rw [HE, lineOf_err _ (by rw [HE]; decide)]; rfl, ?_⟩
    have hbel := (((Below.refl _ _).alloc (Nat.le_refl _) _).trans (hb1.mono (by rw [World.size_alloc]; omega)))
    exact ⟨hbel.os, hbel.tape, hbel.output, hbel.size, hbel.block⟩
  subst hn
  cases hlm : limNe l1 l2 l3 with
  | true =>
    have hq : ∀ wx, Sem.run Tryd.prog (binOp .neq 24 (.agg #[.int .i64 l1, .int .i64 l2, .int .i64 l3]) (.agg #[.int .i64 0, .int .i64 0, .int .i64 0])) wx = .ok (.bool true) wx := fun wx => by rw [neq_lim, hlm]
    have HC0 := lc_0 w 1 name 0 0 text 0 l1 l2 l3
    have HC1 := lc_1 w 1 name 0 0 text 0 l1 l2 l3
    have HC2 := lc_2 w 1 name 0 0 text 0 l1 l2 l3
    have HC3 := lc_3 w 1 name 0 0 text 0 l1 l2 l3
    have HC4 := lc_4 w 1 name 0 0 text 0 l1 l2 l3
    have HC5 := lc_5 w 1 name 0 0 text 0 l1 l2 l3
    have HC6 := lc_6 w 1 name 0 0 text 0 l1 l2 l3
    have HC7 := lc_7 w 1 name 0 0 text 0 l1 l2 l3
    have HC8 := lc_8 w 1 name 0 0 text 0 l1 l2 l3
    go_enter Tryd.func13, Tryd.ntmps13
    go_wp2_with (first | (go_at_call 30; refine (HN.out _).mono ?_; rw [HNO.out]; rintro e w1 ⟨rfl, hb1⟩; have c0 := HC0.out _ hb1; have c1 := HC1.out _ hb1; have c2 := HC2.out _ hb1; have c3 := HC3.out _ hb1; have c4 := HC4.out _ hb1; have c5 := HC5.out _ hb1; have c6 := HC6.out _ hb1; have c7 := HC7.out _ hb1; have c8 := HC8.out _ hb1))
    go_ret2
    have HE : lineErr ⟨1, name, 0, 0, text, 0, l1, l2, l3⟩ = 1 := by
      rw [err_1]; apply if_neg; intro hh; revert hh; simp only [limNe, decide_eq_true_iff] at hlm; grind
    refine ⟨by rw [HE, lineOf_err _ (by rw [HE]; decide)]; rfl, ?_⟩
    have hbel := (((Below.refl _ _).alloc (Nat.le_refl _) _).trans (hb1.mono (by rw [World.size_alloc]; omega)))
    exact ⟨hbel.os, hbel.tape, hbel.output, hbel.size, hbel.block⟩
  | false =>
    have hlz : l1 = 0 ∧ l2 = 0 ∧ l3 = 0 := by simp only [limNe, decide_eq_false_iff_not, Decidable.not_not] at hlm; exact hlm
    clear hlm
    obtain ⟨rfl, rfl, rfl⟩ := hlz
    have hq : ∀ wx, Sem.run Tryd.prog (binOp .neq 24 (.agg #[.int .i64 0, .int .i64 0, .int .i64 0]) (.agg #[.int .i64 0, .int .i64 0, .int .i64 0])) wx = .ok (.bool false) wx := fun wx => by rw [neq_lim]; rfl
    by_cases hln : 4096 < text.length
    · have hln' : 4096 < (text.length : Int) := by omega
      have HC0 := lc_0 w 1 name 0 0 text 0 0 0 0
      have HC1 := lc_1 w 1 name 0 0 text 0 0 0 0
      have HC2 := lc_2 w 1 name 0 0 text 0 0 0 0
      have HC3 := lc_3 w 1 name 0 0 text 0 0 0 0
      have HC4 := lc_4 w 1 name 0 0 text 0 0 0 0
      have HC5 := lc_5 w 1 name 0 0 text 0 0 0 0
      have HC6 := lc_6 w 1 name 0 0 text 0 0 0 0
      have HC7 := lc_7 w 1 name 0 0 text 0 0 0 0
      have HC8 := lc_8 w 1 name 0 0 text 0 0 0 0
      go_enter Tryd.func13, Tryd.ntmps13
      go_wp2_with (first | (go_at_call 30; refine (HN.out _).mono ?_; rw [HNO.out]; rintro e w1 ⟨rfl, hb1⟩; have c0 := HC0.out _ hb1; have c1 := HC1.out _ hb1; have c2 := HC2.out _ hb1; have c3 := HC3.out _ hb1; have c4 := HC4.out _ hb1; have c5 := HC5.out _ hb1; have c6 := HC6.out _ hb1; have c7 := HC7.out _ hb1; have c8 := HC8.out _ hb1))
      go_ret2
      have HE : lineErr ⟨1, name, 0, 0, text, 0, 0, 0, 0⟩ = 2 := by rw [err_1, if_pos (by simp [HNO.out]), if_pos hln]
      refine ⟨by rw [HE, lineOf_err _ (by rw [HE]; decide)]; rfl, ?_⟩
      have hbel := (((Below.refl _ _).alloc (Nat.le_refl _) _).trans (hb1.mono (by rw [World.size_alloc]; omega)))
      exact ⟨hbel.os, hbel.tape, hbel.output, hbel.size, hbel.block⟩
    have hln' : (text.length : Int) ≤ 4096 := by omega
    have HC0 := lc_0 w 1 name 0 0 text 0 0 0 0
    have HC1 := lc_1 w 1 name 0 0 text 0 0 0 0
    have HC2 := lc_2 w 1 name 0 0 text 0 0 0 0
    have HC3 := lc_3 w 1 name 0 0 text 0 0 0 0
    have HC4 := lc_4 w 1 name 0 0 text 0 0 0 0
    have HC5 := lc_5 w 1 name 0 0 text 0 0 0 0
    have HC6 := lc_6 w 1 name 0 0 text 0 0 0 0
    have HC7 := lc_7 w 1 name 0 0 text 0 0 0 0
    have HC8 := lc_8 w 1 name 0 0 text 0 0 0 0
    have HXq : Hid (∃ QT : Bs, QT.length ≤ 20000 ∧ QT = quote text ∧ ∀ wx, Calls Tryd.prog 31 #[.string ⟨text.toArray⟩] wx fun e w' => e = .returned (.string ⟨QT.toArray⟩) ∧ ∃ n, w' = wx.drewN n) :=
      ⟨quote text, by have := quote_len text; omega, rfl, fun wx => ref_quote_any ⟨text.toArray⟩ wx (by show text.toArray.size ≤ _; simp; omega)⟩
    obtain ⟨QT, hqt1, hqt2, hqt3⟩ := HXq.out
    have HQ1 := Lib.hid hqt2
    have HQ2 := Lib.hid hqt3
    clear hqt2 hqt3 HXq
    have hnl : name.length ≤ 100000 := HF.out.name
    have z0 : ¬ (9223372036854775807 < 5 + name.length) := by omega
    have z1 : ¬ (9223372036854775807 < 5 + name.length + 1) := by omega
    have z2 : ¬ (9223372036854775807 < 5 + name.length + 1 + QT.length) := by omega
    go_enter Tryd.func13, Tryd.ntmps13
    go_wp2_with (first | (go_at_call 30; refine (HN.out _).mono ?_; rw [HNO.out]; rintro e w1 ⟨rfl, hb1⟩; have c0 := HC0.out _ hb1; have c1 := HC1.out _ hb1; have c2 := HC2.out _ hb1; have c3 := HC3.out _ hb1; have c4 := HC4.out _ hb1; have c5 := HC5.out _ hb1; have c6 := HC6.out _ hb1; have c7 := HC7.out _ hb1; have c8 := HC8.out _ hb1))
    repeat (go_quiet (first | ((go_at_call 31; (with_reducible refine Calls.mono (HQ2.out _) ?_); rintro e w' ⟨rfl, nd, rfl⟩; (try first | exact ⟨rfl, _, World.drewN_drewN _ _ _⟩ | exact ⟨rfl, _, Eq.trans (World.drewN_drewN _ _ _) (congrArg (World.drewN _) (Nat.add_assoc _ _ _))⟩)))); try go_wp2_with (first | ((go_at_call 31; (with_reducible refine Calls.mono (HQ2.out _) ?_); rintro e w' ⟨rfl, nd, rfl⟩; (try first | exact ⟨rfl, _, World.drewN_drewN _ _ _⟩ | exact ⟨rfl, _, Eq.trans (World.drewN_drewN _ _ _) (congrArg (World.drewN _) (Nat.add_assoc _ _ _))⟩)))))
    go_ret2
    have HE : lineErr ⟨1, name, 0, 0, text, 0, 0, 0, 0⟩ = 0 := by rw [err_1, if_pos (by simp [HNO.out]), if_neg hln]
    have HT : lineOf ⟨1, name, 0, 0, text, 0, 0, 0, 0⟩ = lineText ⟨1, name, 0, 0, text, 0, 0, 0, 0⟩ := by unfold lineOf; rw [if_pos HE]
    refine ⟨by rw [HE, HT]; exact tup_ret (by simp [lineText, wordOf, useOf, tell, ByteArray.data_append, HQ1.out]), ?_⟩
    have hbel := (((Below.refl _ _).alloc (Nat.le_refl _) _).trans (hb1.mono (by rw [World.size_alloc]; omega)))
    exact ⟨hbel.os, hbel.tape, hbel.output, hbel.size, hbel.block⟩
end Go.Proofs.YtelehacakbaobaaDoor


namespace Go.Proofs.YtelehacakbaobaaDoor
open Go.RowKit
set_option linter.unusedVariables false
set_option linter.unusedSimpArgs false

set_option maxRecDepth 100000 in
set_option maxHeartbeats 4000000 in
theorem ref_line_2 (name : Bs) (frm til : Int) (text : Bs) (n l1 l2 l3 : Int) (hf : TAct.Fits ⟨2, name, frm, til, text, n, l1, l2, l3⟩) (w : World) :
    Calls Tryd.prog 13 #[.agg #[.int .i64 2, .string ⟨name.toArray⟩, .int .i64 frm, .int .i64 til, .string ⟨text.toArray⟩, .int .i64 n, .int .i64 l1, .int .i64 l2, .int .i64 l3]] w fun e w' =>
      e = .returned (.tuple #[.string ⟨(lineOf ⟨2, name, frm, til, text, n, l1, l2, l3⟩).toArray⟩, .int .i64 (lineErr ⟨2, name, frm, til, text, n, l1, l2, l3⟩)]) ∧ Below w.heap.size w w' := by
  have HN := Lib.hid (fun wx => ref_name_call name hf.name wx)
  have HF := Lib.hid hf
  clear hf
  by_cases hno : nameOk name = true
  rotate_left
  · have HNO : Hid (nameOk name = false) := by show _ = _; simpa using hno
    clear hno
    have HC0 := lc_0 w 2 name frm til text n l1 l2 l3
    have HC1 := lc_1 w 2 name frm til text n l1 l2 l3
    have HC2 := lc_2 w 2 name frm til text n l1 l2 l3
    have HC3 := lc_3 w 2 name frm til text n l1 l2 l3
    have HC4 := lc_4 w 2 name frm til text n l1 l2 l3
    have HC5 := lc_5 w 2 name frm til text n l1 l2 l3
    have HC6 := lc_6 w 2 name frm til text n l1 l2 l3
    have HC7 := lc_7 w 2 name frm til text n l1 l2 l3
    have HC8 := lc_8 w 2 name frm til text n l1 l2 l3
    go_enter Tryd.func13, Tryd.ntmps13
    go_wp2_with (first | (go_at_call 30; refine (HN.out _).mono ?_; rw [HNO.out]; rintro e w1 ⟨rfl, hb1⟩; have c0 := HC0.out _ hb1; have c1 := HC1.out _ hb1; have c2 := HC2.out _ hb1; have c3 := HC3.out _ hb1; have c4 := HC4.out _ hb1; have c5 := HC5.out _ hb1; have c6 := HC6.out _ hb1; have c7 := HC7.out _ hb1; have c8 := HC8.out _ hb1))
    go_ret2
    have HE : lineErr ⟨2, name, frm, til, text, n, l1, l2, l3⟩ = 1 := by
      rw [err_2]; apply if_neg; intro hh; revert hh; rw [HNO.out]; simp
    refine ⟨by rw [HE, lineOf_err _ (by rw [HE]; decide)]; rfl, ?_⟩
    have hbel := (((Below.refl _ _).alloc (Nat.le_refl _) _).trans (hb1.mono (by rw [World.size_alloc]; omega)))
    exact ⟨hbel.os, hbel.tape, hbel.output, hbel.size, hbel.block⟩
  have HNO := Lib.hid hno
  clear hno
  by_cases hn : n = 0
  rotate_left
  · have qn : (n == 0) = false := by simpa using hn
    have HC0 := lc_0 w 2 name frm til text n l1 l2 l3
    have HC1 := lc_1 w 2 name frm til text n l1 l2 l3
    have HC2 := lc_2 w 2 name frm til text n l1 l2 l3
    have HC3 := lc_3 w 2 name frm til text n l1 l2 l3
    have HC4 := lc_4 w 2 name frm til text n l1 l2 l3
    have HC5 := lc_5 w 2 name frm til text n l1 l2 l3
    have HC6 := lc_6 w 2 name frm til text n l1 l2 l3
    have HC7 := lc_7 w 2 name frm til text n l1 l2 l3
    have HC8 := lc_8 w 2 name frm til text n l1 l2 l3
    go_enter Tryd.func13, Tryd.ntmps13
    go_wp2_with (first | (go_at_call 30; refine (HN.out _).mono ?_; rw [HNO.out]; rintro e w1 ⟨rfl, hb1⟩; have c0 := HC0.out _ hb1; have c1 := HC1.out _ hb1; have c2 := HC2.out _ hb1; have c3 := HC3.out _ hb1; have c4 := HC4.out _ hb1; have c5 := HC5.out _ hb1; have c6 := HC6.out _ hb1; have c7 := HC7.out _ hb1; have c8 := HC8.out _ hb1))
    go_ret2
    have HE : lineErr ⟨2, name, frm, til, text, n, l1, l2, l3⟩ = 1 := by
      rw [err_2]; apply if_neg; intro hh; revert hh; simp [hn]
    refine ⟨by rw [HE, lineOf_err _ (by rw [HE]; decide)]; rfl, ?_⟩
    have hbel := (((Below.refl _ _).alloc (Nat.le_refl _) _).trans (hb1.mono (by rw [World.size_alloc]; omega)))
    exact ⟨hbel.os, hbel.tape, hbel.output, hbel.size, hbel.block⟩
  subst hn
  cases hlm : limNe l1 l2 l3 with
  | true =>
    have hq : ∀ wx, Sem.run Tryd.prog (binOp .neq 24 (.agg #[.int .i64 l1, .int .i64 l2, .int .i64 l3]) (.agg #[.int .i64 0, .int .i64 0, .int .i64 0])) wx = .ok (.bool true) wx := fun wx => by rw [neq_lim, hlm]
    have HC0 := lc_0 w 2 name frm til text 0 l1 l2 l3
    have HC1 := lc_1 w 2 name frm til text 0 l1 l2 l3
    have HC2 := lc_2 w 2 name frm til text 0 l1 l2 l3
    have HC3 := lc_3 w 2 name frm til text 0 l1 l2 l3
    have HC4 := lc_4 w 2 name frm til text 0 l1 l2 l3
    have HC5 := lc_5 w 2 name frm til text 0 l1 l2 l3
    have HC6 := lc_6 w 2 name frm til text 0 l1 l2 l3
    have HC7 := lc_7 w 2 name frm til text 0 l1 l2 l3
    have HC8 := lc_8 w 2 name frm til text 0 l1 l2 l3
    go_enter Tryd.func13, Tryd.ntmps13
    go_wp2_with (first | (go_at_call 30; refine (HN.out _).mono ?_; rw [HNO.out]; rintro e w1 ⟨rfl, hb1⟩; have c0 := HC0.out _ hb1; have c1 := HC1.out _ hb1; have c2 := HC2.out _ hb1; have c3 := HC3.out _ hb1; have c4 := HC4.out _ hb1; have c5 := HC5.out _ hb1; have c6 := HC6.out _ hb1; have c7 := HC7.out _ hb1; have c8 := HC8.out _ hb1))
    go_ret2
    have HE : lineErr ⟨2, name, frm, til, text, 0, l1, l2, l3⟩ = 1 := by
      rw [err_2]; apply if_neg; intro hh; revert hh; simp only [limNe, decide_eq_true_iff] at hlm; grind
    refine ⟨by rw [HE, lineOf_err _ (by rw [HE]; decide)]; rfl, ?_⟩
    have hbel := (((Below.refl _ _).alloc (Nat.le_refl _) _).trans (hb1.mono (by rw [World.size_alloc]; omega)))
    exact ⟨hbel.os, hbel.tape, hbel.output, hbel.size, hbel.block⟩
  | false =>
    have hlz : l1 = 0 ∧ l2 = 0 ∧ l3 = 0 := by simp only [limNe, decide_eq_false_iff_not, Decidable.not_not] at hlm; exact hlm
    clear hlm
    obtain ⟨rfl, rfl, rfl⟩ := hlz
    have hq : ∀ wx, Sem.run Tryd.prog (binOp .neq 24 (.agg #[.int .i64 0, .int .i64 0, .int .i64 0]) (.agg #[.int .i64 0, .int .i64 0, .int .i64 0])) wx = .ok (.bool false) wx := fun wx => by rw [neq_lim]; rfl
    by_cases hln : 4096 < text.length
    · have hln' : 4096 < (text.length : Int) := by omega
      have HC0 := lc_0 w 2 name frm til text 0 0 0 0
      have HC1 := lc_1 w 2 name frm til text 0 0 0 0
      have HC2 := lc_2 w 2 name frm til text 0 0 0 0
      have HC3 := lc_3 w 2 name frm til text 0 0 0 0
      have HC4 := lc_4 w 2 name frm til text 0 0 0 0
      have HC5 := lc_5 w 2 name frm til text 0 0 0 0
      have HC6 := lc_6 w 2 name frm til text 0 0 0 0
      have HC7 := lc_7 w 2 name frm til text 0 0 0 0
      have HC8 := lc_8 w 2 name frm til text 0 0 0 0
      go_enter Tryd.func13, Tryd.ntmps13
      go_wp2_with (first | (go_at_call 30; refine (HN.out _).mono ?_; rw [HNO.out]; rintro e w1 ⟨rfl, hb1⟩; have c0 := HC0.out _ hb1; have c1 := HC1.out _ hb1; have c2 := HC2.out _ hb1; have c3 := HC3.out _ hb1; have c4 := HC4.out _ hb1; have c5 := HC5.out _ hb1; have c6 := HC6.out _ hb1; have c7 := HC7.out _ hb1; have c8 := HC8.out _ hb1))
      go_ret2
      have HE : lineErr ⟨2, name, frm, til, text, 0, 0, 0, 0⟩ = 2 := by rw [err_2, if_pos (by simp [HNO.out]), if_pos hln]
      refine ⟨by rw [HE, lineOf_err _ (by rw [HE]; decide)]; rfl, ?_⟩
      have hbel := (((Below.refl _ _).alloc (Nat.le_refl _) _).trans (hb1.mono (by rw [World.size_alloc]; omega)))
      exact ⟨hbel.os, hbel.tape, hbel.output, hbel.size, hbel.block⟩
    have hln' : (text.length : Int) ≤ 4096 := by omega
    have HC0 := lc_0 w 2 name frm til text 0 0 0 0
    have HC1 := lc_1 w 2 name frm til text 0 0 0 0
    have HC2 := lc_2 w 2 name frm til text 0 0 0 0
    have HC3 := lc_3 w 2 name frm til text 0 0 0 0
    have HC4 := lc_4 w 2 name frm til text 0 0 0 0
    have HC5 := lc_5 w 2 name frm til text 0 0 0 0
    have HC6 := lc_6 w 2 name frm til text 0 0 0 0
    have HC7 := lc_7 w 2 name frm til text 0 0 0 0
    have HC8 := lc_8 w 2 name frm til text 0 0 0 0
    have HXq : Hid (∃ QT : Bs, QT.length ≤ 20000 ∧ QT = quote text ∧ ∀ wx, Calls Tryd.prog 31 #[.string ⟨text.toArray⟩] wx fun e w' => e = .returned (.string ⟨QT.toArray⟩) ∧ ∃ n, w' = wx.drewN n) :=
      ⟨quote text, by have := quote_len text; omega, rfl, fun wx => ref_quote_any ⟨text.toArray⟩ wx (by show text.toArray.size ≤ _; simp; omega)⟩
    obtain ⟨QT, hqt1, hqt2, hqt3⟩ := HXq.out
    have HQ1 := Lib.hid hqt2
    have HQ2 := Lib.hid hqt3
    clear hqt2 hqt3 HXq
    have HXfrm : Hid (∃ S : Bs, S.length ≤ 20 ∧ S = Lib.itoa frm ∧ ∀ wx, Calls Tryd.prog 32 #[.int .i64 frm] wx fun e w' => e = .returned (.string ⟨S.toArray⟩) ∧ ∃ n, w' = wx.drewN n) :=
      ⟨Lib.itoa frm, itoa_len _ HF.out.frm.1 HF.out.frm.2, rfl, fun wx => int_any frm wx HF.out.frm.1 HF.out.frm.2⟩
    obtain ⟨Sfrm, hs1frm, hs2frm, hs3frm⟩ := HXfrm.out
    have HIfrm := Lib.hid hs2frm
    have HJfrm := Lib.hid hs3frm
    clear hs2frm hs3frm HXfrm
    have HXtil : Hid (∃ S : Bs, S.length ≤ 20 ∧ S = Lib.itoa til ∧ ∀ wx, Calls Tryd.prog 32 #[.int .i64 til] wx fun e w' => e = .returned (.string ⟨S.toArray⟩) ∧ ∃ n, w' = wx.drewN n) :=
      ⟨Lib.itoa til, itoa_len _ HF.out.til.1 HF.out.til.2, rfl, fun wx => int_any til wx HF.out.til.1 HF.out.til.2⟩
    obtain ⟨Stil, hs1til, hs2til, hs3til⟩ := HXtil.out
    have HItil := Lib.hid hs2til
    have HJtil := Lib.hid hs3til
    clear hs2til hs3til HXtil
    have hnl : name.length ≤ 100000 := HF.out.name
    have z0 : ¬ (9223372036854775807 < 5 + name.length) := by omega
    have z1 : ¬ (9223372036854775807 < 5 + name.length + 1) := by omega
    have z2 : ¬ (9223372036854775807 < 5 + name.length + 1 + Sfrm.length) := by omega
    have z3 : ¬ (9223372036854775807 < 5 + name.length + 1 + Sfrm.length + 1) := by omega
    have z4 : ¬ (9223372036854775807 < 5 + name.length + 1 + Sfrm.length + 1 + Stil.length) := by omega
    have z5 : ¬ (9223372036854775807 < 5 + name.length + 1 + Sfrm.length + 1 + Stil.length + 1) := by omega
    have z6 : ¬ (9223372036854775807 < 5 + name.length + 1 + Sfrm.length + 1 + Stil.length + 1 + QT.length) := by omega
    go_enter Tryd.func13, Tryd.ntmps13
    go_wp2_with (first | (go_at_call 30; refine (HN.out _).mono ?_; rw [HNO.out]; rintro e w1 ⟨rfl, hb1⟩; have c0 := HC0.out _ hb1; have c1 := HC1.out _ hb1; have c2 := HC2.out _ hb1; have c3 := HC3.out _ hb1; have c4 := HC4.out _ hb1; have c5 := HC5.out _ hb1; have c6 := HC6.out _ hb1; have c7 := HC7.out _ hb1; have c8 := HC8.out _ hb1))
    repeat (go_quiet (first | ((go_at_call 31; (with_reducible refine Calls.mono (HQ2.out _) ?_); rintro e w' ⟨rfl, nd, rfl⟩; (try first | exact ⟨rfl, _, World.drewN_drewN _ _ _⟩ | exact ⟨rfl, _, Eq.trans (World.drewN_drewN _ _ _) (congrArg (World.drewN _) (Nat.add_assoc _ _ _))⟩))) | ((go_at_call 32; (with_reducible refine Calls.mono (HJfrm.out _) ?_); rintro e w' ⟨rfl, nd, rfl⟩; (try first | exact ⟨rfl, _, World.drewN_drewN _ _ _⟩ | exact ⟨rfl, _, Eq.trans (World.drewN_drewN _ _ _) (congrArg (World.drewN _) (Nat.add_assoc _ _ _))⟩))) | ((go_at_call 32; (with_reducible refine Calls.mono (HJtil.out _) ?_); rintro e w' ⟨rfl, nd, rfl⟩; (try first | exact ⟨rfl, _, World.drewN_drewN _ _ _⟩ | exact ⟨rfl, _, Eq.trans (World.drewN_drewN _ _ _) (congrArg (World.drewN _) (Nat.add_assoc _ _ _))⟩)))); try go_wp2_with (first | ((go_at_call 31; (with_reducible refine Calls.mono (HQ2.out _) ?_); rintro e w' ⟨rfl, nd, rfl⟩; (try first | exact ⟨rfl, _, World.drewN_drewN _ _ _⟩ | exact ⟨rfl, _, Eq.trans (World.drewN_drewN _ _ _) (congrArg (World.drewN _) (Nat.add_assoc _ _ _))⟩))) | ((go_at_call 32; (with_reducible refine Calls.mono (HJfrm.out _) ?_); rintro e w' ⟨rfl, nd, rfl⟩; (try first | exact ⟨rfl, _, World.drewN_drewN _ _ _⟩ | exact ⟨rfl, _, Eq.trans (World.drewN_drewN _ _ _) (congrArg (World.drewN _) (Nat.add_assoc _ _ _))⟩))) | ((go_at_call 32; (with_reducible refine Calls.mono (HJtil.out _) ?_); rintro e w' ⟨rfl, nd, rfl⟩; (try first | exact ⟨rfl, _, World.drewN_drewN _ _ _⟩ | exact ⟨rfl, _, Eq.trans (World.drewN_drewN _ _ _) (congrArg (World.drewN _) (Nat.add_assoc _ _ _))⟩)))))
    go_ret2
    have HE : lineErr ⟨2, name, frm, til, text, 0, 0, 0, 0⟩ = 0 := by rw [err_2, if_pos (by simp [HNO.out]), if_neg hln]
    have HT : lineOf ⟨2, name, frm, til, text, 0, 0, 0, 0⟩ = lineText ⟨2, name, frm, til, text, 0, 0, 0, 0⟩ := by unfold lineOf; rw [if_pos HE]
    refine ⟨by rw [HE, HT]; exact tup_ret (by simp [lineText, wordOf, useOf, tell, ByteArray.data_append, HQ1.out, HIfrm.out, HItil.out]), ?_⟩
    have hbel := (((Below.refl _ _).alloc (Nat.le_refl _) _).trans (hb1.mono (by rw [World.size_alloc]; omega)))
    exact ⟨hbel.os, hbel.tape, hbel.output, hbel.size, hbel.block⟩
end Go.Proofs.YtelehacakbaobaaDoor


namespace Go.Proofs.YtelehacakbaobaaDoor
open Go.RowKit
set_option linter.unusedVariables false
set_option linter.unusedSimpArgs false

set_option maxRecDepth 100000 in
set_option maxHeartbeats 4000000 in
theorem ref_line_3 (name : Bs) (frm til : Int) (text : Bs) (n l1 l2 l3 : Int) (hf : TAct.Fits ⟨3, name, frm, til, text, n, l1, l2, l3⟩) (w : World) :
    Calls Tryd.prog 13 #[.agg #[.int .i64 3, .string ⟨name.toArray⟩, .int .i64 frm, .int .i64 til, .string ⟨text.toArray⟩, .int .i64 n, .int .i64 l1, .int .i64 l2, .int .i64 l3]] w fun e w' =>
      e = .returned (.tuple #[.string ⟨(lineOf ⟨3, name, frm, til, text, n, l1, l2, l3⟩).toArray⟩, .int .i64 (lineErr ⟨3, name, frm, til, text, n, l1, l2, l3⟩)]) ∧ Below w.heap.size w w' := by
  have HN := Lib.hid (fun wx => ref_name_call name hf.name wx)
  have HF := Lib.hid hf
  clear hf
  by_cases hno : nameOk name = true
  rotate_left
  · have HNO : Hid (nameOk name = false) := by show _ = _; simpa using hno
    clear hno
    have HC0 := lc_0 w 3 name frm til text n l1 l2 l3
    have HC1 := lc_1 w 3 name frm til text n l1 l2 l3
    have HC2 := lc_2 w 3 name frm til text n l1 l2 l3
    have HC3 := lc_3 w 3 name frm til text n l1 l2 l3
    have HC4 := lc_4 w 3 name frm til text n l1 l2 l3
    have HC5 := lc_5 w 3 name frm til text n l1 l2 l3
    have HC6 := lc_6 w 3 name frm til text n l1 l2 l3
    have HC7 := lc_7 w 3 name frm til text n l1 l2 l3
    have HC8 := lc_8 w 3 name frm til text n l1 l2 l3
    go_enter Tryd.func13, Tryd.ntmps13
    go_wp2_with (first | (go_at_call 30; refine (HN.out _).mono ?_; rw [HNO.out]; rintro e w1 ⟨rfl, hb1⟩; have c0 := HC0.out _ hb1; have c1 := HC1.out _ hb1; have c2 := HC2.out _ hb1; have c3 := HC3.out _ hb1; have c4 := HC4.out _ hb1; have c5 := HC5.out _ hb1; have c6 := HC6.out _ hb1; have c7 := HC7.out _ hb1; have c8 := HC8.out _ hb1))
    go_ret2
    have HE : lineErr ⟨3, name, frm, til, text, n, l1, l2, l3⟩ = 1 := by
      rw [err_3]; apply if_neg; intro hh; revert hh; rw [HNO.out]; simp
    refine ⟨by rw [HE, lineOf_err _ (by rw [HE]; decide)]; rfl, ?_⟩
    have hbel := (((Below.refl _ _).alloc (Nat.le_refl _) _).trans (hb1.mono (by rw [World.size_alloc]; omega)))
    exact ⟨hbel.os, hbel.tape, hbel.output, hbel.size, hbel.block⟩
  have HNO := Lib.hid hno
  clear hno
  by_cases hfrm : frm = 0
  rotate_left
  · have qfrm : (frm == 0) = false := by simpa using hfrm
    have HC0 := lc_0 w 3 name frm til text n l1 l2 l3
    have HC1 := lc_1 w 3 name frm til text n l1 l2 l3
    have HC2 := lc_2 w 3 name frm til text n l1 l2 l3
    have HC3 := lc_3 w 3 name frm til text n l1 l2 l3
    have HC4 := lc_4 w 3 name frm til text n l1 l2 l3
    have HC5 := lc_5 w 3 name frm til text n l1 l2 l3
    have HC6 := lc_6 w 3 name frm til text n l1 l2 l3
    have HC7 := lc_7 w 3 name frm til text n l1 l2 l3
    have HC8 := lc_8 w 3 name frm til text n l1 l2 l3
    go_enter Tryd.func13, Tryd.ntmps13
    go_wp2_with (first | (go_at_call 30; refine (HN.out _).mono ?_; rw [HNO.out]; rintro e w1 ⟨rfl, hb1⟩; have c0 := HC0.out _ hb1; have c1 := HC1.out _ hb1; have c2 := HC2.out _ hb1; have c3 := HC3.out _ hb1; have c4 := HC4.out _ hb1; have c5 := HC5.out _ hb1; have c6 := HC6.out _ hb1; have c7 := HC7.out _ hb1; have c8 := HC8.out _ hb1))
    go_ret2
    have HE : lineErr ⟨3, name, frm, til, text, n, l1, l2, l3⟩ = 1 := by
      rw [err_3]; apply if_neg; intro hh; revert hh; simp [hfrm]
    refine ⟨by rw [HE, lineOf_err _ (by rw [HE]; decide)]; rfl, ?_⟩
    have hbel := (((Below.refl _ _).alloc (Nat.le_refl _) _).trans (hb1.mono (by rw [World.size_alloc]; omega)))
    exact ⟨hbel.os, hbel.tape, hbel.output, hbel.size, hbel.block⟩
  subst hfrm
  by_cases htil : til = 0
  rotate_left
  · have qtil : (til == 0) = false := by simpa using htil
    have HC0 := lc_0 w 3 name 0 til text n l1 l2 l3
    have HC1 := lc_1 w 3 name 0 til text n l1 l2 l3
    have HC2 := lc_2 w 3 name 0 til text n l1 l2 l3
    have HC3 := lc_3 w 3 name 0 til text n l1 l2 l3
    have HC4 := lc_4 w 3 name 0 til text n l1 l2 l3
    have HC5 := lc_5 w 3 name 0 til text n l1 l2 l3
    have HC6 := lc_6 w 3 name 0 til text n l1 l2 l3
    have HC7 := lc_7 w 3 name 0 til text n l1 l2 l3
    have HC8 := lc_8 w 3 name 0 til text n l1 l2 l3
    go_enter Tryd.func13, Tryd.ntmps13
    go_wp2_with (first | (go_at_call 30; refine (HN.out _).mono ?_; rw [HNO.out]; rintro e w1 ⟨rfl, hb1⟩; have c0 := HC0.out _ hb1; have c1 := HC1.out _ hb1; have c2 := HC2.out _ hb1; have c3 := HC3.out _ hb1; have c4 := HC4.out _ hb1; have c5 := HC5.out _ hb1; have c6 := HC6.out _ hb1; have c7 := HC7.out _ hb1; have c8 := HC8.out _ hb1))
    go_ret2
    have HE : lineErr ⟨3, name, 0, til, text, n, l1, l2, l3⟩ = 1 := by
      rw [err_3]; apply if_neg; intro hh; revert hh; simp [htil]
    refine ⟨by rw [HE, lineOf_err _ (by rw [HE]; decide)]; rfl, ?_⟩
    have hbel := (((Below.refl _ _).alloc (Nat.le_refl _) _).trans (hb1.mono (by rw [World.size_alloc]; omega)))
    exact ⟨hbel.os, hbel.tape, hbel.output, hbel.size, hbel.block⟩
  subst htil
  cases htx : text with
  | cons ct tt =>
    subst htx
    have HC0 := lc_0 w 3 name 0 0 (ct :: tt) n l1 l2 l3
    have HC1 := lc_1 w 3 name 0 0 (ct :: tt) n l1 l2 l3
    have HC2 := lc_2 w 3 name 0 0 (ct :: tt) n l1 l2 l3
    have HC3 := lc_3 w 3 name 0 0 (ct :: tt) n l1 l2 l3
    have HC4 := lc_4 w 3 name 0 0 (ct :: tt) n l1 l2 l3
    have HC5 := lc_5 w 3 name 0 0 (ct :: tt) n l1 l2 l3
    have HC6 := lc_6 w 3 name 0 0 (ct :: tt) n l1 l2 l3
    have HC7 := lc_7 w 3 name 0 0 (ct :: tt) n l1 l2 l3
    have HC8 := lc_8 w 3 name 0 0 (ct :: tt) n l1 l2 l3
    go_enter Tryd.func13, Tryd.ntmps13
    go_wp2_with (first | (go_at_call 30; refine (HN.out _).mono ?_; rw [HNO.out]; rintro e w1 ⟨rfl, hb1⟩; have c0 := HC0.out _ hb1; have c1 := HC1.out _ hb1; have c2 := HC2.out _ hb1; have c3 := HC3.out _ hb1; have c4 := HC4.out _ hb1; have c5 := HC5.out _ hb1; have c6 := HC6.out _ hb1; have c7 := HC7.out _ hb1; have c8 := HC8.out _ hb1))
    go_ret2
    have HE : lineErr ⟨3, name, 0, 0, (ct :: tt), n, l1, l2, l3⟩ = 1 := by
      rw [err_3]; apply if_neg; intro hh; revert hh; simp
    refine ⟨by rw [HE, lineOf_err _ (by rw [HE]; decide)]; rfl, ?_⟩
    have hbel := (((Below.refl _ _).alloc (Nat.le_refl _) _).trans (hb1.mono (by rw [World.size_alloc]; omega)))
    exact ⟨hbel.os, hbel.tape, hbel.output, hbel.size, hbel.block⟩
  | nil =>
    subst htx
    by_cases hn : n = 0
    rotate_left
    · have qn : (n == 0) = false := by simpa using hn
      have HC0 := lc_0 w 3 name 0 0 ([] : Bs) n l1 l2 l3
      have HC1 := lc_1 w 3 name 0 0 ([] : Bs) n l1 l2 l3
      have HC2 := lc_2 w 3 name 0 0 ([] : Bs) n l1 l2 l3
      have HC3 := lc_3 w 3 name 0 0 ([] : Bs) n l1 l2 l3
      have HC4 := lc_4 w 3 name 0 0 ([] : Bs) n l1 l2 l3
      have HC5 := lc_5 w 3 name 0 0 ([] : Bs) n l1 l2 l3
      have HC6 := lc_6 w 3 name 0 0 ([] : Bs) n l1 l2 l3
      have HC7 := lc_7 w 3 name 0 0 ([] : Bs) n l1 l2 l3
      have HC8 := lc_8 w 3 name 0 0 ([] : Bs) n l1 l2 l3
      go_enter Tryd.func13, Tryd.ntmps13
      go_wp2_with (first | (go_at_call 30; refine (HN.out _).mono ?_; rw [HNO.out]; rintro e w1 ⟨rfl, hb1⟩; have c0 := HC0.out _ hb1; have c1 := HC1.out _ hb1; have c2 := HC2.out _ hb1; have c3 := HC3.out _ hb1; have c4 := HC4.out _ hb1; have c5 := HC5.out _ hb1; have c6 := HC6.out _ hb1; have c7 := HC7.out _ hb1; have c8 := HC8.out _ hb1))
      go_ret2
      have HE : lineErr ⟨3, name, 0, 0, ([] : Bs), n, l1, l2, l3⟩ = 1 := by
        rw [err_3]; apply if_neg; intro hh; revert hh; simp [hn]
      refine ⟨by rw [HE, lineOf_err _ (by rw [HE]; decide)]; rfl, ?_⟩
      have hbel := (((Below.refl _ _).alloc (Nat.le_refl _) _).trans (hb1.mono (by rw [World.size_alloc]; omega)))
      exact ⟨hbel.os, hbel.tape, hbel.output, hbel.size, hbel.block⟩
    subst hn
    cases hlm : limNe l1 l2 l3 with
    | true =>
      have hq : ∀ wx, Sem.run Tryd.prog (binOp .neq 24 (.agg #[.int .i64 l1, .int .i64 l2, .int .i64 l3]) (.agg #[.int .i64 0, .int .i64 0, .int .i64 0])) wx = .ok (.bool true) wx := fun wx => by rw [neq_lim, hlm]
      have HC0 := lc_0 w 3 name 0 0 ([] : Bs) 0 l1 l2 l3
      have HC1 := lc_1 w 3 name 0 0 ([] : Bs) 0 l1 l2 l3
      have HC2 := lc_2 w 3 name 0 0 ([] : Bs) 0 l1 l2 l3
      have HC3 := lc_3 w 3 name 0 0 ([] : Bs) 0 l1 l2 l3
      have HC4 := lc_4 w 3 name 0 0 ([] : Bs) 0 l1 l2 l3
      have HC5 := lc_5 w 3 name 0 0 ([] : Bs) 0 l1 l2 l3
      have HC6 := lc_6 w 3 name 0 0 ([] : Bs) 0 l1 l2 l3
      have HC7 := lc_7 w 3 name 0 0 ([] : Bs) 0 l1 l2 l3
      have HC8 := lc_8 w 3 name 0 0 ([] : Bs) 0 l1 l2 l3
      go_enter Tryd.func13, Tryd.ntmps13
      go_wp2_with (first | (go_at_call 30; refine (HN.out _).mono ?_; rw [HNO.out]; rintro e w1 ⟨rfl, hb1⟩; have c0 := HC0.out _ hb1; have c1 := HC1.out _ hb1; have c2 := HC2.out _ hb1; have c3 := HC3.out _ hb1; have c4 := HC4.out _ hb1; have c5 := HC5.out _ hb1; have c6 := HC6.out _ hb1; have c7 := HC7.out _ hb1; have c8 := HC8.out _ hb1))
      go_ret2
      have HE : lineErr ⟨3, name, 0, 0, ([] : Bs), 0, l1, l2, l3⟩ = 1 := by
        rw [err_3]; apply if_neg; intro hh; revert hh; simp only [limNe, decide_eq_true_iff] at hlm; grind
      refine ⟨by rw [HE, lineOf_err _ (by rw [HE]; decide)]; rfl, ?_⟩
      have hbel := (((Below.refl _ _).alloc (Nat.le_refl _) _).trans (hb1.mono (by rw [World.size_alloc]; omega)))
      exact ⟨hbel.os, hbel.tape, hbel.output, hbel.size, hbel.block⟩
    | false =>
      have hlz : l1 = 0 ∧ l2 = 0 ∧ l3 = 0 := by simp only [limNe, decide_eq_false_iff_not, Decidable.not_not] at hlm; exact hlm
      clear hlm
      obtain ⟨rfl, rfl, rfl⟩ := hlz
      have hq : ∀ wx, Sem.run Tryd.prog (binOp .neq 24 (.agg #[.int .i64 0, .int .i64 0, .int .i64 0]) (.agg #[.int .i64 0, .int .i64 0, .int .i64 0])) wx = .ok (.bool false) wx := fun wx => by rw [neq_lim]; rfl
      have HC0 := lc_0 w 3 name 0 0 ([] : Bs) 0 0 0 0
      have HC1 := lc_1 w 3 name 0 0 ([] : Bs) 0 0 0 0
      have HC2 := lc_2 w 3 name 0 0 ([] : Bs) 0 0 0 0
      have HC3 := lc_3 w 3 name 0 0 ([] : Bs) 0 0 0 0
      have HC4 := lc_4 w 3 name 0 0 ([] : Bs) 0 0 0 0
      have HC5 := lc_5 w 3 name 0 0 ([] : Bs) 0 0 0 0
      have HC6 := lc_6 w 3 name 0 0 ([] : Bs) 0 0 0 0
      have HC7 := lc_7 w 3 name 0 0 ([] : Bs) 0 0 0 0
      have HC8 := lc_8 w 3 name 0 0 ([] : Bs) 0 0 0 0
      have hnl : name.length ≤ 100000 := HF.out.name
      have z0 : ¬ (9223372036854775807 < 6 + name.length) := by omega
      go_enter Tryd.func13, Tryd.ntmps13
      go_wp2_with (first | (go_at_call 30; refine (HN.out _).mono ?_; rw [HNO.out]; rintro e w1 ⟨rfl, hb1⟩; have c0 := HC0.out _ hb1; have c1 := HC1.out _ hb1; have c2 := HC2.out _ hb1; have c3 := HC3.out _ hb1; have c4 := HC4.out _ hb1; have c5 := HC5.out _ hb1; have c6 := HC6.out _ hb1; have c7 := HC7.out _ hb1; have c8 := HC8.out _ hb1))
      go_ret2
      have HE : lineErr ⟨3, name, 0, 0, ([] : Bs), 0, 0, 0, 0⟩ = 0 := by rw [err_3, if_pos (by simp [HNO.out])]
      have HT : lineOf ⟨3, name, 0, 0, ([] : Bs), 0, 0, 0, 0⟩ = lineText ⟨3, name, 0, 0, ([] : Bs), 0, 0, 0, 0⟩ := by unfold lineOf; rw [if_pos HE]
      refine ⟨by rw [HE, HT]; exact tup_ret (by simp [lineText, wordOf, useOf, tell, ByteArray.data_append]), ?_⟩
      have hbel := (((Below.refl _ _).alloc (Nat.le_refl _) _).trans (hb1.mono (by rw [World.size_alloc]; omega)))
      exact ⟨hbel.os, hbel.tape, hbel.output, hbel.size, hbel.block⟩
end Go.Proofs.YtelehacakbaobaaDoor
