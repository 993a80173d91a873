/- ref28.Words, ref28.Unquote, ref28.number as calls, by the plain functions. -/
import Derived.Test.YtelehacakbaobaaDoorRefWords
import Derived.Test.YtelehacakbaobaaDoorRefPlain
namespace Go.Proofs.YtelehacakbaobaaDoor
open Go.RowKit Go.Proofs.YtelehacakbaobaaDoorW.PrintWords PR
set_option linter.unusedVariables false
set_option linter.unusedSimpArgs false

/-- The words stand in new memory. -/
def WordsAt (w w' : World) (l : List Bs) (v : Value) : Prop := ∃ g cap, v = .slice (some ⟨g, 0, none⟩) l.length cap ∧ w.heap.size ≤ g ∧ g < w'.heap.size ∧ ∀ j x, l[j]? = some x → w'.cell? ⟨g, j, none⟩ = some (.string ⟨x.toArray⟩)
theorem words_open {w w' : World} {l : List Bs} {v : Value} (hl : l ≠ []) (h : Kd.R Kd.string 9 w' w.heap.size (fun _ => True) v (l.map bsOf)) : WordsAt w w' l v := by
  obtain ⟨_, inner, ⟨hi, hv⟩, hr⟩ := h
  rcases hv with ⟨_, h0⟩ | ⟨g, cap, cur, rfl, hg, hb, hn, hc, hs, ht⟩
  · exact absurd (by simpa using h0) hl
  · refine ⟨g, cap, by simp, hg, lt_of_block hb, fun j x hx => ?_⟩
    have h1 := hr.2 j (bsOf x) (by simp [hx])
    have hsz : (Kd.string).sz = 1 := rfl
    rw [hsz, Nat.mul_one] at h1
    have h2 : (inner.drop j).take 1 = [.string (bsOf x)] := h1
    have h3 : inner[j]? = some (.string (bsOf x)) := by
      have := congrArg (·[0]?) h2
      simpa [List.getElem?_take, List.getElem?_drop] using this
    have hj : j < inner.length := by
      rcases Nat.lt_or_ge j inner.length with h | h
      · exact h
      · rw [List.getElem?_eq_none h] at h3; cases h3
    have h4 : cur[j]? = some (.string (bsOf x)) := by
      rw [← ht, List.getElem?_take] at h3
      split at h3
      · simpa using h3
      · cases h3
    simp only [World.cell?, hb]
    exact h4
theorem words_any (s : Bs) (hs : s.length ≤ 1000000) (n : Nat) (h1 : 1 ≤ n) (h9 : n ≤ 9) (w : World) :
    Calls Tryd.prog 22 #[.string ⟨s.toArray⟩, .int .i64 n] w fun e w' => ∃ v, e = .returned v ∧ WordsAt w w' (splitN n s) v ∧ Below w.heap.size w w' := by
  have hf := words_f ⟨s.toArray⟩ (by show s.toArray.size ≤ _; simpa using hs) n h1 h9
  refine (pangramref28_Words.calls _ _ _ _ w hf).mono ?_
  rintro e w' ⟨v, he, hr, hb⟩
  exact ⟨v, he, words_open (split_ne _ _) hr, hb⟩
theorem refnumber_any (s : Bs) (w : World) :
    Calls Tryd.prog 24 #[.string ⟨s.toArray⟩] w fun e w' => e = .returned (.tuple #[.int .i64 (nv s), .bool (nok s)]) ∧ Below w.heap.size w w' :=
  (pangramref28_number.calls _ _ _ _ w (number_f ⟨s.toArray⟩)).mono fun e w' ⟨he, hw⟩ => ⟨he, by obtain ⟨n, rfl⟩ := hw.out; exact below_drewN w n⟩
end Go.Proofs.YtelehacakbaobaaDoor
