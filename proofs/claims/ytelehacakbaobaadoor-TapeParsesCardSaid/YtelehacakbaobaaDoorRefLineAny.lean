/- What ref28.Line comes to: the same line, or the same error's number, as the plain functions lineOf and lineErr tell. -/
import Derived.Test.YtelehacakbaobaaDoorMLineA
import Derived.Test.YtelehacakbaobaaDoorMLineB

namespace Go.Proofs.YtelehacakbaobaaDoor
open Go.RowKit
set_option linter.unusedVariables false
set_option linter.unusedSimpArgs false

set_option maxRecDepth 100000 in
set_option maxHeartbeats 4000000 in
theorem ref_line_out (a : TAct) (hk : known a.kind = false) (w : World) :
    Calls Tryd.prog 13 #[.agg #[.int .i64 a.kind, .string ⟨a.name.toArray⟩, .int .i64 a.frm, .int .i64 a.til, .string ⟨a.text.toArray⟩, .int .i64 a.n, .int .i64 a.l1, .int .i64 a.l2, .int .i64 a.l3]] w fun e w' =>
      e = .returned (.tuple #[.string ⟨(lineOf a).toArray⟩, .int .i64 (lineErr a)]) ∧ Below w.heap.size w w' := by
  have HE : lineErr a = 1 := by unfold lineErr; rw [if_pos hk]
  have HT : lineOf a = [] := lineOf_err _ (by rw [HE]; decide)
  rw [HT, HE]
  have hk2 : a.kind < 1 ∨ 7 < a.kind := by
    simp only [known, decide_eq_false_iff_not] at hk; omega
  clear HE HT hk
  rcases hk2 with h | h
  · have h1 : ¬ (1 ≤ a.kind) := by omega
    go_enter Tryd.func13, Tryd.ntmps13
    go_wp2_with fail
    go_ret2
    exact ⟨rfl, (Below.refl _ _).alloc (Nat.le_refl _) _⟩
  · have h1 : 1 ≤ a.kind := by omega
    have h2 : ¬ (a.kind ≤ 5) := by omega
    have h3 : 5 < a.kind := by omega
    have h4 : ¬ (a.kind < 1) := by omega
    go_enter Tryd.func13, Tryd.ntmps13
    go_wp2_with fail
    go_ret2
    exact ⟨rfl, (Below.refl _ _).alloc (Nat.le_refl _) _⟩
theorem ref_line_any (a : TAct) (hf : a.Fits) (w : World) :
    Calls Tryd.prog 13 #[.agg #[.int .i64 a.kind, .string ⟨a.name.toArray⟩, .int .i64 a.frm, .int .i64 a.til, .string ⟨a.text.toArray⟩, .int .i64 a.n, .int .i64 a.l1, .int .i64 a.l2, .int .i64 a.l3]] w fun e w' =>
      e = .returned (.tuple #[.string ⟨(lineOf a).toArray⟩, .int .i64 (lineErr a)]) ∧ Below w.heap.size w w' := by
  cases hk : known a.kind with
  | false => exact ref_line_out a hk w
  | true =>
    obtain ⟨kind, name, frm, til, text, n, l1, l2, l3⟩ := a
    have h : 1 ≤ kind ∧ kind ≤ 7 := by simpa [known] using hk
    have h2 : kind = 1 ∨ kind = 2 ∨ kind = 3 ∨ kind = 4 ∨ kind = 5 ∨ kind = 6 ∨ kind = 7 := by omega
    rcases h2 with rfl | rfl | rfl | rfl | rfl | rfl | rfl
    · exact ref_line_1 name frm til text n l1 l2 l3 hf w
    · exact ref_line_2 name frm til text n l1 l2 l3 hf w
    · exact ref_line_3 name frm til text n l1 l2 l3 hf w
    · exact ref_line_4 name frm til text n l1 l2 l3 hf w
    · exact ref_line_5 name frm til text n l1 l2 l3 hf w
    · exact ref_line_6 name frm til text n l1 l2 l3 hf w
    · exact ref_line_7 name frm til text n l1 l2 l3 hf w
end Go.Proofs.YtelehacakbaobaaDoor
