/- pangramlaw28.TapeLines answers true at any two acts. -/
import Derived.Test.YtelehacakbaobaaDoorMLaw
import Derived.Test.YtelehacakbaobaaDoorMParse
import Derived.Test.YtelehacakbaobaaDoorMLineA
import Derived.Test.YtelehacakbaobaaDoorMLineB
import Derived.Deep.RegionHeld3
import Derived.Deep.DeepFit

namespace Go.Proofs.YtelehacakbaobaaDoor
open Go.RowKit
set_option linter.unusedVariables false
set_option linter.unusedSimpArgs false

set_option maxRecDepth 100000 in
set_option maxHeartbeats 4000000 in
theorem ref_line_out (a : TAct) (hk : known a.kind = false) (w : World) :
    Calls Tryd.prog 13 #[.agg #[.int .i64 a.kind, .string ⟨a.name.toArray⟩, .int .i64 a.frm, .int .i64 a.til, .string ⟨a.text.toArray⟩, .int .i64 a.n, .int .i64 a.l1, .int .i64 a.l2, .int .i64 a.l3]] w fun e w' =>
      e = .returned (.tuple #[.string ⟨(lineOf a).toArray⟩, .int .i64 (lineErr a)]) ∧ Below w.heap.size w w' := by
  have HE : lineErr a = 1 := by unfold lineErr; rw [if_pos hk]
  have HT : lineOf a = [] := lineOf_err _ (by rw [HE]; decide)
  rw [HT, HE]
  have hk2 : a.kind < 1 ∨ 7 < a.kind := by
    simp only [known, decide_eq_false_iff_not] at hk; omega
  clear HE HT hk
  rcases hk2 with h | h
  · have h1 : ¬ (1 ≤ a.kind) := by omega
    go_enter Tryd.func13, Tryd.ntmps13
    go_wp2_with fail
    go_ret2
    exact ⟨rfl, (Below.refl _ _).alloc (Nat.le_refl _) _⟩
  · have h1 : 1 ≤ a.kind := by omega
    have h2 : ¬ (a.kind ≤ 5) := by omega
    have h3 : 5 < a.kind := by omega
    have h4 : ¬ (a.kind < 1) := by omega
    go_enter Tryd.func13, Tryd.ntmps13
    go_wp2_with fail
    go_ret2
    exact ⟨rfl, (Below.refl _ _).alloc (Nat.le_refl _) _⟩
theorem ref_line_any (a : TAct) (hf : a.Fits) (w : World) :
    Calls Tryd.prog 13 #[.agg #[.int .i64 a.kind, .string ⟨a.name.toArray⟩, .int .i64 a.frm, .int .i64 a.til, .string ⟨a.text.toArray⟩, .int .i64 a.n, .int .i64 a.l1, .int .i64 a.l2, .int .i64 a.l3]] w fun e w' =>
      e = .returned (.tuple #[.string ⟨(lineOf a).toArray⟩, .int .i64 (lineErr a)]) ∧ Below w.heap.size w w' := by
  cases hk : known a.kind with
  | false => exact ref_line_out a hk w
  | true =>
    obtain ⟨kind, name, frm, til, text, n, l1, l2, l3⟩ := a
    have h : 1 ≤ kind ∧ kind ≤ 7 := by simpa [known] using hk
    have h2 : kind = 1 ∨ kind = 2 ∨ kind = 3 ∨ kind = 4 ∨ kind = 5 ∨ kind = 6 ∨ kind = 7 := by omega
    rcases h2 with rfl | rfl | rfl | rfl | rfl | rfl | rfl
    · exact ref_line_1 name frm til text n l1 l2 l3 hf w
    · exact ref_line_2 name frm til text n l1 l2 l3 hf w
    · exact ref_line_3 name frm til text n l1 l2 l3 hf w
    · exact ref_line_4 name frm til text n l1 l2 l3 hf w
    · exact ref_line_5 name frm til text n l1 l2 l3 hf w
    · exact ref_line_6 name frm til text n l1 l2 l3 hf w
    · exact ref_line_7 name frm til text n l1 l2 l3 hf w
end Go.Proofs.YtelehacakbaobaaDoor

namespace Go.Proofs.YtelehacakbaobaaDoor
open Go.RowKit
set_option linter.unusedVariables false
set_option linter.unusedSimpArgs false

/-- Both acts in their boxes, the slice of both, and great asked. -/
theorem great_in (a o : TAct) (ha : a.Wide) (ho : o.Wide) (w : World) (B : Nat) (hB : B = w.heap.size + 2) :
    Calls Tryd.prog 12 #[.slice (some ⟨B, 0, none⟩) 2 2] (((w.alloc (.cells #[.int .i64 a.kind, .string ⟨a.name.toArray⟩, .int .i64 a.frm, .int .i64 a.til, .string ⟨a.text.toArray⟩, .int .i64 a.n, .int .i64 a.l1, .int .i64 a.l2, .int .i64 a.l3] 26)).alloc (.cells #[.int .i64 o.kind, .string ⟨o.name.toArray⟩, .int .i64 o.frm, .int .i64 o.til, .string ⟨o.text.toArray⟩, .int .i64 o.n, .int .i64 o.l1, .int .i64 o.l2, .int .i64 o.l3] 26)).alloc (.cells #[.int .i64 a.kind, .string ⟨a.name.toArray⟩, .int .i64 a.frm, .int .i64 a.til, .string ⟨a.text.toArray⟩, .int .i64 a.n, .int .i64 a.l1, .int .i64 a.l2, .int .i64 a.l3, .int .i64 o.kind, .string ⟨o.name.toArray⟩, .int .i64 o.frm, .int .i64 o.til, .string ⟨o.text.toArray⟩, .int .i64 o.n, .int .i64 o.l1, .int .i64 o.l2, .int .i64 o.l3] 26)) fun e w' =>
      e = .returned (.bool (decide (2000 < bulk a + bulk o))) ∧ HasAct w' w.heap.size a ∧ HasAct w' (w.heap.size + 1) o ∧ Below w.heap.size w w' := by
  refine (great_two a o ha ho _ B 26 (heap_at _ _ _ (by rw [hB]; simp only [World.size_alloc]))).mono ?_
  rintro e w' ⟨he, n, rfl⟩
  have h1 : HasAct (((w.alloc (.cells (cellsA a) 26)).alloc (.cells (cellsA o) 26)).alloc (.cells (cells2 a o) 26)) w.heap.size a := by
    unfold HasAct
    rw [Below.heap_alloc _ _ _ (by simp only [World.size_alloc]; omega), Below.heap_alloc _ _ _ (by simp only [World.size_alloc]; omega), heap_alloc_new]
  have h2 : HasAct (((w.alloc (.cells (cellsA a) 26)).alloc (.cells (cellsA o) 26)).alloc (.cells (cells2 a o) 26)) (w.heap.size + 1) o := by
    unfold HasAct
    rw [Below.heap_alloc _ _ _ (by simp only [World.size_alloc]; omega), heap_at _ _ _ (by simp only [World.size_alloc])]
  exact ⟨he, h1.below (below_drewN _ n) h1.lt, h2.below (below_drewN _ n) h2.lt, ((((Below.refl _ _).alloc (Nat.le_refl _) _).alloc (by simp) _).alloc (by simp; omega) _).trans ((below_drewN _ n).mono (by simp only [World.size_alloc]; omega))⟩
set_option maxRecDepth 100000 in
set_option maxHeartbeats 2000000 in
theorem lines_great (a o : TAct) (ha : a.Wide) (ho : o.Wide) (hgr : decide (2000 < bulk a + bulk o) = true) (w : World) (hG : GW w) :
    Calls Tryd.prog 4 #[.agg (cellsA a), .agg (cellsA o)] w fun e w' => e = .returned (.bool true) ∧ Below w.heap.size w w' := by
  have HG := Lib.hid hG
  have HGR := Lib.hid (great_in a o ha ho w)
  rw [hgr] at HGR
  clear hG ha ho hgr
  unfold cellsA
  go_enter Tryd.func4, Tryd.ntmps4
  go_wp2_with (first | (go_at_call 12; refine (HGR.out _ ?_).mono ?_; rotate_right; rintro e w1 ⟨rfl, ha1, ho1, hb1⟩) | (go_at_call 8; refine (awake_any _ (HG.out.below hb1)).mono ?_; rintro e w2 ⟨rfl, hb2⟩))
  · go_ret
    exact ⟨rfl, Below.then hb1 hb2⟩
  · rfl
theorem lineOf_len (a : TAct) (hf : a.Fits) : (lineOf a).length ≤ 100 + a.name.length + 3 * a.text.length := by
  unfold lineOf
  split
  · rename_i he
    obtain ⟨hk, -, -, -⟩ := err_zero a he
    have i1 := itoa_len a.frm hf.frm.1 hf.frm.2
    have i2 := itoa_len a.til hf.til.1 hf.til.2
    have i3 := itoa_len a.n hf.n.1 hf.n.2
    have i4 := itoa_len a.l1 hf.l1.1 hf.l1.2
    have i5 := itoa_len a.l2 hf.l2.1 hf.l2.2
    have i6 := itoa_len a.l3 hf.l3.1 hf.l3.2
    have hq := quote_len a.text
    have hk' : 1 ≤ a.kind ∧ a.kind ≤ 7 := by simpa [known] using hk
    have h2 : a.kind = 1 ∨ a.kind = 2 ∨ a.kind = 3 ∨ a.kind = 4 ∨ a.kind = 5 ∨ a.kind = 6 ∨ a.kind = 7 := by omega
    unfold lineText
    rcases h2 with h | h | h | h | h | h | h <;> (rw [h]; simp [wordOf, useOf, tell]; try omega)
  · simp
set_option maxRecDepth 100000 in
set_option maxHeartbeats 4000000 in
theorem lines_bad (a o : TAct) (ha : a.Wide) (ho : o.Wide) (hgr : decide (2000 < bulk a + bulk o) = false) (he : lineErr a ≠ 0) (w : World) (hG : GW w) :
    Calls Tryd.prog 4 #[.agg (cellsA a), .agg (cellsA o)] w fun e w' => e = .returned (.bool true) ∧ Below w.heap.size w w' := by
  have hs : bulk a + bulk o ≤ 2000 := by simp only [decide_eq_false_iff_not] at hgr; omega
  have hf : a.Fits := ⟨ha.frm, ha.til, ha.n, ha.l1, ha.l2, ha.l3, by unfold bulk at hs; omega, by unfold bulk at hs; omega⟩
  have HG := Lib.hid hG
  have HGR := Lib.hid (great_in a o ha ho w)
  rw [hgr] at HGR
  have HLN := Lib.hid (fun wx hg => line_any a hf wx hg)
  have HRL := Lib.hid (fun wx => ref_line_any a hf wx)
  have HSM := Lib.hid (fun wx => same_any a o wx)
  have hx : Hid (∃ (k : Int) (ln : Bs) (q : Bool), k = lineErr a ∧ ln = lineOf a ∧ q = actEq a o) := ⟨_, _, _, rfl, rfl, rfl⟩
  obtain ⟨k, ln, q, hk, hln, hq⟩ := hx.out
  have HE : ∀ wx, Sem.run Tryd.prog (binOp .eql 26 (.agg #[.int .i64 a.kind, .string ⟨a.name.toArray⟩, .int .i64 a.frm, .int .i64 a.til, .string ⟨a.text.toArray⟩, .int .i64 a.n, .int .i64 a.l1, .int .i64 a.l2, .int .i64 a.l3]) (.agg #[.int .i64 o.kind, .string ⟨o.name.toArray⟩, .int .i64 o.frm, .int .i64 o.til, .string ⟨o.text.toArray⟩, .int .i64 o.n, .int .i64 o.l1, .int .i64 o.l2, .int .i64 o.l3])) wx = .ok (.bool q) wx := fun wx => by rw [hq]; exact eql_act a o wx
  rw [← hk, ← hln] at HLN HRL
  rw [← hq] at HSM
  have hk0 : (k != 0) = true := by rw [bne_iff_ne, hk]; omega
  clear hG ha ho hgr hs hf hx hk hln hq he
  unfold cellsA
  go_enter Tryd.func4, Tryd.ntmps4
  go_wp2_with (first | (go_at_call 12; refine (HGR.out _ ?_).mono ?_; rotate_right; rintro e w1 ⟨rfl, ha1, ho1, hb1⟩; have c0 := ha1.cell 0; have c1 := ha1.cell 1; have c2 := ha1.cell 2; have c3 := ha1.cell 3; have c4 := ha1.cell 4; have c5 := ha1.cell 5; have c6 := ha1.cell 6; have c7 := ha1.cell 7; have c8 := ha1.cell 8; simp only [cellsA, List.getElem?_toArray, List.getElem?_cons_zero, List.getElem?_cons_succ] at c0 c1 c2 c3 c4 c5 c6 c7 c8) | (go_at_call 11; refine (HLN.out _ (HG.out.below hb1)).mono ?_; rintro e w2 ⟨rfl, hb2⟩; have ha2 := ha1.below hb2 ha1.lt; have ho2 := ho1.below hb2 ho1.lt; clear c0 c1 c2 c3 c4 c5 c6 c7 c8; have d0 := ha2.cell 0; have d1 := ha2.cell 1; have d2 := ha2.cell 2; have d3 := ha2.cell 3; have d4 := ha2.cell 4; have d5 := ha2.cell 5; have d6 := ha2.cell 6; have d7 := ha2.cell 7; have d8 := ha2.cell 8; simp only [cellsA, List.getElem?_toArray, List.getElem?_cons_zero, List.getElem?_cons_succ] at d0 d1 d2 d3 d4 d5 d6 d7 d8) | (go_at_call 13; refine (HRL.out _).mono ?_; rintro e w3 ⟨rfl, hb3⟩; have ha3 := ha2.below hb3 ha2.lt; have ho3 := ho2.below hb3 ho2.lt; clear d0 d1 d2 d3 d4 d5 d6 d7 d8; have c0 := ha3.cell 0; have c1 := ha3.cell 1; have c2 := ha3.cell 2; have c3 := ha3.cell 3; have c4 := ha3.cell 4; have c5 := ha3.cell 5; have c6 := ha3.cell 6; have c7 := ha3.cell 7; have c8 := ha3.cell 8; simp only [cellsA, List.getElem?_toArray, List.getElem?_cons_zero, List.getElem?_cons_succ] at c0 c1 c2 c3 c4 c5 c6 c7 c8; have d0 := ho3.cell 0; have d1 := ho3.cell 1; have d2 := ho3.cell 2; have d3 := ho3.cell 3; have d4 := ho3.cell 4; have d5 := ho3.cell 5; have d6 := ho3.cell 6; have d7 := ho3.cell 7; have d8 := ho3.cell 8; simp only [cellsA, List.getElem?_toArray, List.getElem?_cons_zero, List.getElem?_cons_succ] at d0 d1 d2 d3 d4 d5 d6 d7 d8))
  rotate_left
  · rfl
  have HB3 := Lib.hid (Below.then (Below.then hb1 hb2) hb3)
  go_region_held3 (fun w' => w'.cell? ⟨w.heap.size, 0, none⟩ = some (.int .i64 a.kind) ∧ w'.cell? ⟨w.heap.size, 1, none⟩ = some (.string ⟨a.name.toArray⟩) ∧ w'.cell? ⟨w.heap.size, 2, none⟩ = some (.int .i64 a.frm) ∧ w'.cell? ⟨w.heap.size, 3, none⟩ = some (.int .i64 a.til) ∧ w'.cell? ⟨w.heap.size, 4, none⟩ = some (.string ⟨a.text.toArray⟩) ∧ w'.cell? ⟨w.heap.size, 5, none⟩ = some (.int .i64 a.n) ∧ w'.cell? ⟨w.heap.size, 6, none⟩ = some (.int .i64 a.l1) ∧ w'.cell? ⟨w.heap.size, 7, none⟩ = some (.int .i64 a.l2) ∧ w'.cell? ⟨w.heap.size, 8, none⟩ = some (.int .i64 a.l3) ∧ w'.cell? ⟨w.heap.size + 1, 0, none⟩ = some (.int .i64 o.kind) ∧ w'.cell? ⟨w.heap.size + 1, 1, none⟩ = some (.string ⟨o.name.toArray⟩) ∧ w'.cell? ⟨w.heap.size + 1, 2, none⟩ = some (.int .i64 o.frm) ∧ w'.cell? ⟨w.heap.size + 1, 3, none⟩ = some (.int .i64 o.til) ∧ w'.cell? ⟨w.heap.size + 1, 4, none⟩ = some (.string ⟨o.text.toArray⟩) ∧ w'.cell? ⟨w.heap.size + 1, 5, none⟩ = some (.int .i64 o.n) ∧ w'.cell? ⟨w.heap.size + 1, 6, none⟩ = some (.int .i64 o.l1) ∧ w'.cell? ⟨w.heap.size + 1, 7, none⟩ = some (.int .i64 o.l2) ∧ w'.cell? ⟨w.heap.size + 1, 8, none⟩ = some (.int .i64 o.l3)) (go_keep) ((go_at_call 14; (with_reducible refine Calls.mono (HSM.out _) ?_); rintro e w4 ⟨rfl, hb4⟩; have ha4 := HasAct.below (w := w3.drew) ha3 hb4 ha3.lt; have ho4 := HasAct.below (w := w3.drew) ho3 hb4 ho3.lt; have u0 := ha4.cell 0; have u1 := ha4.cell 1; have u2 := ha4.cell 2; have u3 := ha4.cell 3; have u4 := ha4.cell 4; have u5 := ha4.cell 5; have u6 := ha4.cell 6; have u7 := ha4.cell 7; have u8 := ha4.cell 8; simp only [cellsA, List.getElem?_toArray, List.getElem?_cons_zero, List.getElem?_cons_succ] at u0 u1 u2 u3 u4 u5 u6 u7 u8; have v0 := ho4.cell 0; have v1 := ho4.cell 1; have v2 := ho4.cell 2; have v3 := ho4.cell 3; have v4 := ho4.cell 4; have v5 := ho4.cell 5; have v6 := ho4.cell 6; have v7 := ho4.cell 7; have v8 := ho4.cell 8; simp only [cellsA, List.getElem?_toArray, List.getElem?_cons_zero, List.getElem?_cons_succ] at v0 v1 v2 v3 v4 v5 v6 v7 v8))
  all_goals
    have hb5 := Below.then (HB3.out.drew) hb4
    go_wp2_with (go_at_call 8; refine (awake_any _ (HG.out.below hb5)).mono ?_; rintro e w5 ⟨rfl, hb6⟩)
    go_ret
    exact ⟨rfl, Below.then hb5 hb6⟩
set_option maxRecDepth 100000 in
set_option maxHeartbeats 4000000 in
theorem lines_ok (a o : TAct) (ha : a.Wide) (ho : o.Wide) (hgr : decide (2000 < bulk a + bulk o) = false) (he : lineErr a = 0) (w : World) (hG : GW w) :
    Calls Tryd.prog 4 #[.agg (cellsA a), .agg (cellsA o)] w fun e w' => e = .returned (.bool true) ∧ Below w.heap.size w w' := by
  have hs : bulk a + bulk o ≤ 2000 := by simp only [decide_eq_false_iff_not] at hgr; omega
  have hf : a.Fits := ⟨ha.frm, ha.til, ha.n, ha.l1, ha.l2, ha.l3, by unfold bulk at hs; omega, by unfold bulk at hs; omega⟩
  have HG := Lib.hid hG
  have HGR := Lib.hid (great_in a o ha ho w)
  rw [hgr] at HGR
  have HLN := Lib.hid (fun wx hg => line_any a hf wx hg)
  have HRL := Lib.hid (fun wx => ref_line_any a hf wx)
  have HSM := Lib.hid (fun wx => same_any a o wx)
  have hx : Hid (∃ (k : Int) (ln : Bs) (q : Bool), k = lineErr a ∧ ln = lineOf a ∧ q = actEq a o) := ⟨_, _, _, rfl, rfl, rfl⟩
  obtain ⟨k, ln, q, hk, hln, hq⟩ := hx.out
  have HE : ∀ wx, Sem.run Tryd.prog (binOp .eql 26 (.agg #[.int .i64 a.kind, .string ⟨a.name.toArray⟩, .int .i64 a.frm, .int .i64 a.til, .string ⟨a.text.toArray⟩, .int .i64 a.n, .int .i64 a.l1, .int .i64 a.l2, .int .i64 a.l3]) (.agg #[.int .i64 o.kind, .string ⟨o.name.toArray⟩, .int .i64 o.frm, .int .i64 o.til, .string ⟨o.text.toArray⟩, .int .i64 o.n, .int .i64 o.l1, .int .i64 o.l2, .int .i64 o.l3])) wx = .ok (.bool q) wx := fun wx => by rw [hq]; exact eql_act a o wx
  rw [← hk, ← hln] at HLN HRL
  rw [← hq] at HSM
  have hk0 : k = 0 := by rw [hk, he]; rfl
  have HP : Hid (∀ wx, GW wx → Calls Tryd.prog 9 #[.string ⟨ln.toArray⟩] wx fun e w' => e = .returned (.tuple #[.agg #[.int .i64 a.kind, .string ⟨a.name.toArray⟩, .int .i64 a.frm, .int .i64 a.til, .string ⟨a.text.toArray⟩, .int .i64 a.n, .int .i64 a.l1, .int .i64 a.l2, .int .i64 a.l3], .int .i64 0]) ∧ Below wx.heap.size wx w') := fun wx hg => by
    have h1 := parse_any ⟨ln.toArray⟩ (by rw [hln]; have := lineOf_len a hf; simp [ByteArray.size]; unfold bulk at hs; omega) wx hg
    rw [show parse (⟨ln.toArray⟩ : ByteArray).data.toList = some a by rw [hln]; exact parse_lineOf a hf he] at h1
    exact h1
  have HE2 : ∀ wx, Sem.run Tryd.prog (binOp .eql 26 (.agg #[.int .i64 a.kind, .string ⟨a.name.toArray⟩, .int .i64 a.frm, .int .i64 a.til, .string ⟨a.text.toArray⟩, .int .i64 a.n, .int .i64 a.l1, .int .i64 a.l2, .int .i64 a.l3]) (.agg #[.int .i64 a.kind, .string ⟨a.name.toArray⟩, .int .i64 a.frm, .int .i64 a.til, .string ⟨a.text.toArray⟩, .int .i64 a.n, .int .i64 a.l1, .int .i64 a.l2, .int .i64 a.l3])) wx = .ok (.bool true) wx := fun wx => by
    have := eql_act a a wx
    rw [show actEq a a = true by simp [actEq]] at this
    exact this
  subst hk0
  clear hG ha ho hgr hs hf hx hk hln hq he
  unfold cellsA
  go_enter Tryd.func4, Tryd.ntmps4
  go_wp2_with (first | (go_at_call 12; refine (HGR.out _ ?_).mono ?_; rotate_right; rintro e w1 ⟨rfl, ha1, ho1, hb1⟩; have c0 := ha1.cell 0; have c1 := ha1.cell 1; have c2 := ha1.cell 2; have c3 := ha1.cell 3; have c4 := ha1.cell 4; have c5 := ha1.cell 5; have c6 := ha1.cell 6; have c7 := ha1.cell 7; have c8 := ha1.cell 8; simp only [cellsA, List.getElem?_toArray, List.getElem?_cons_zero, List.getElem?_cons_succ] at c0 c1 c2 c3 c4 c5 c6 c7 c8) | (go_at_call 11; refine (HLN.out _ (HG.out.below hb1)).mono ?_; rintro e w2 ⟨rfl, hb2⟩; have ha2 := ha1.below hb2 ha1.lt; have ho2 := ho1.below hb2 ho1.lt; clear c0 c1 c2 c3 c4 c5 c6 c7 c8; have d0 := ha2.cell 0; have d1 := ha2.cell 1; have d2 := ha2.cell 2; have d3 := ha2.cell 3; have d4 := ha2.cell 4; have d5 := ha2.cell 5; have d6 := ha2.cell 6; have d7 := ha2.cell 7; have d8 := ha2.cell 8; simp only [cellsA, List.getElem?_toArray, List.getElem?_cons_zero, List.getElem?_cons_succ] at d0 d1 d2 d3 d4 d5 d6 d7 d8) | (go_at_call 13; refine (HRL.out _).mono ?_; rintro e w3 ⟨rfl, hb3⟩; have ha3 := ha2.below hb3 ha2.lt; have ho3 := ho2.below hb3 ho2.lt; clear d0 d1 d2 d3 d4 d5 d6 d7 d8; have c0 := ha3.cell 0; have c1 := ha3.cell 1; have c2 := ha3.cell 2; have c3 := ha3.cell 3; have c4 := ha3.cell 4; have c5 := ha3.cell 5; have c6 := ha3.cell 6; have c7 := ha3.cell 7; have c8 := ha3.cell 8; simp only [cellsA, List.getElem?_toArray, List.getElem?_cons_zero, List.getElem?_cons_succ] at c0 c1 c2 c3 c4 c5 c6 c7 c8; have d0 := ho3.cell 0; have d1 := ho3.cell 1; have d2 := ho3.cell 2; have d3 := ho3.cell 3; have d4 := ho3.cell 4; have d5 := ho3.cell 5; have d6 := ho3.cell 6; have d7 := ho3.cell 7; have d8 := ho3.cell 8; simp only [cellsA, List.getElem?_toArray, List.getElem?_cons_zero, List.getElem?_cons_succ] at d0 d1 d2 d3 d4 d5 d6 d7 d8))
  rotate_left
  · rfl
  have HB3 := Lib.hid (Below.then (Below.then hb1 hb2) hb3)
  go_region_held3 (fun w' => w'.cell? ⟨w.heap.size, 0, none⟩ = some (.int .i64 a.kind) ∧ w'.cell? ⟨w.heap.size, 1, none⟩ = some (.string ⟨a.name.toArray⟩) ∧ w'.cell? ⟨w.heap.size, 2, none⟩ = some (.int .i64 a.frm) ∧ w'.cell? ⟨w.heap.size, 3, none⟩ = some (.int .i64 a.til) ∧ w'.cell? ⟨w.heap.size, 4, none⟩ = some (.string ⟨a.text.toArray⟩) ∧ w'.cell? ⟨w.heap.size, 5, none⟩ = some (.int .i64 a.n) ∧ w'.cell? ⟨w.heap.size, 6, none⟩ = some (.int .i64 a.l1) ∧ w'.cell? ⟨w.heap.size, 7, none⟩ = some (.int .i64 a.l2) ∧ w'.cell? ⟨w.heap.size, 8, none⟩ = some (.int .i64 a.l3) ∧ w'.cell? ⟨w.heap.size + 1, 0, none⟩ = some (.int .i64 o.kind) ∧ w'.cell? ⟨w.heap.size + 1, 1, none⟩ = some (.string ⟨o.name.toArray⟩) ∧ w'.cell? ⟨w.heap.size + 1, 2, none⟩ = some (.int .i64 o.frm) ∧ w'.cell? ⟨w.heap.size + 1, 3, none⟩ = some (.int .i64 o.til) ∧ w'.cell? ⟨w.heap.size + 1, 4, none⟩ = some (.string ⟨o.text.toArray⟩) ∧ w'.cell? ⟨w.heap.size + 1, 5, none⟩ = some (.int .i64 o.n) ∧ w'.cell? ⟨w.heap.size + 1, 6, none⟩ = some (.int .i64 o.l1) ∧ w'.cell? ⟨w.heap.size + 1, 7, none⟩ = some (.int .i64 o.l2) ∧ w'.cell? ⟨w.heap.size + 1, 8, none⟩ = some (.int .i64 o.l3)) (go_keep) ((go_at_call 14; (with_reducible refine Calls.mono (HSM.out _) ?_); rintro e w4 ⟨rfl, hb4⟩; have ha4 := HasAct.below (w := w3.drew) ha3 hb4 ha3.lt; have ho4 := HasAct.below (w := w3.drew) ho3 hb4 ho3.lt; have u0 := ha4.cell 0; have u1 := ha4.cell 1; have u2 := ha4.cell 2; have u3 := ha4.cell 3; have u4 := ha4.cell 4; have u5 := ha4.cell 5; have u6 := ha4.cell 6; have u7 := ha4.cell 7; have u8 := ha4.cell 8; simp only [cellsA, List.getElem?_toArray, List.getElem?_cons_zero, List.getElem?_cons_succ] at u0 u1 u2 u3 u4 u5 u6 u7 u8; have v0 := ho4.cell 0; have v1 := ho4.cell 1; have v2 := ho4.cell 2; have v3 := ho4.cell 3; have v4 := ho4.cell 4; have v5 := ho4.cell 5; have v6 := ho4.cell 6; have v7 := ho4.cell 7; have v8 := ho4.cell 8; simp only [cellsA, List.getElem?_toArray, List.getElem?_cons_zero, List.getElem?_cons_succ] at v0 v1 v2 v3 v4 v5 v6 v7 v8))
  all_goals
    have hb5 := Below.then (HB3.out.drew) hb4
    go_wp2_with (first | (go_at_call 9; refine (HP.out _ (HG.out.below hb5)).mono ?_; rintro e w5 ⟨rfl, hb6⟩; have ha5 := ha4.below hb6 ha4.lt; have hb7 := Below.then hb5 hb6; have hl5 := ha5.lt; have e0 := ha5.cell 0; have e1 := ha5.cell 1; have e2 := ha5.cell 2; have e3 := ha5.cell 3; have e4 := ha5.cell 4; have e5 := ha5.cell 5; have e6 := ha5.cell 6; have e7 := ha5.cell 7; have e8 := ha5.cell 8; simp only [cellsA, List.getElem?_toArray, List.getElem?_cons_zero, List.getElem?_cons_succ] at e0 e1 e2 e3 e4 e5 e6 e7 e8) | (go_at_call 8; refine (awake_any _ (HG.out.below ?_)).mono ?_; rotate_right; rintro e w6 ⟨rfl, hb8⟩))
  · go_ret
    exact ⟨rfl, Below.then (hb7.alloc hb7.size _) hb8⟩
  · exact hb7.alloc hb7.size _
theorem lines_any (a o : TAct) (ha : a.Wide) (ho : o.Wide) (w : World) (hG : GW w) :
    Calls Tryd.prog 4 #[.agg (cellsA a), .agg (cellsA o)] w fun e w' => e = .returned (.bool true) ∧ Below w.heap.size w w' := by
  cases hgr : decide (2000 < bulk a + bulk o) with
  | true => exact lines_great a o ha ho hgr w hG
  | false =>
    by_cases he : lineErr a = 0
    · exact lines_ok a o ha ho hgr he w hG
    · exact lines_bad a o ha ho hgr he w hG
end Go.Proofs.YtelehacakbaobaaDoor
