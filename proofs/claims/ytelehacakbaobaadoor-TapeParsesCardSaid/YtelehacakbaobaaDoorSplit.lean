/- The document's reading of a line, in plain functions: words at blanks, numbers, the act; that it reads just what parse reads. No program stands in this text. -/
import Derived.Test.YtelehacakbaobaaDoorMParse
namespace Go.Proofs.YtelehacakbaobaaDoor
open Go.RowKit
set_option linter.unusedVariables false
set_option linter.unusedSimpArgs false

/-- At blanks, at most so many words; the last one has all that is left. -/
def splitN : Nat → Bs → List Bs
  | 0, s => [s]
  | n + 1, s => if n = 0 ∨ s.contains 32 = false then [s] else cutWord s :: splitN n (cutRest s)
theorem cut_join (s : Bs) (h : s.contains 32 = true) : s = cutWord s ++ 32 :: cutRest s := by
  rw [cutWord_eq, cutRest_eq]
  induction s with
  | nil => simp at h
  | cons a s ih =>
    by_cases ha : a = 32
    · subst ha; simp
    · have h2 : (a != 32) = true := by simpa using ha
      have h3 : s.contains 32 = true := by
        rw [List.contains_cons] at h
        have : ((32 : UInt8) == a) = false := by simp; exact fun e => ha e.symm
        simpa [this] using h
      simp only [List.takeWhile_cons, List.dropWhile_cons, h2, if_true, List.cons_append]
      rw [← ih h3]
theorem cutWord_noblank (s : Bs) : ∀ c ∈ cutWord s, (c != 32) = true := by
  rw [cutWord_eq]
  intro c hc
  have := List.all_takeWhile (p := (· != (32 : UInt8))) (l := s)
  exact List.all_eq_true.1 this c hc
theorem noblank_contains (x : Bs) (h : ∀ c ∈ x, (c != 32) = true) : x.contains 32 = false := by
  rw [Bool.eq_false_iff]
  intro e
  have := h 32 (by simpa using e)
  exact absurd this (by decide)
theorem split_to (n : Nat) (x r : Bs) (h : ∀ c ∈ x, (c != 32) = true) : splitN (n + 2) (x ++ 32 :: r) = x :: splitN (n + 1) r := by
  rw [splitN, if_neg (by simp), cutWord_to x r h, cutRest_to x r h]
theorem split_all (n : Nat) (x : Bs) (h : ∀ c ∈ x, (c != 32) = true) : splitN n x = [x] := by
  cases n with
  | zero => rfl
  | succ n => rw [splitN, if_pos (.inr (noblank_contains x h))]
theorem split_one (n : Nat) (s x : Bs) (h : splitN n s = [x]) : s = x := by
  cases n with
  | zero => simpa [splitN] using h
  | succ n =>
    rw [splitN] at h
    split at h
    · simpa using h
    · injection h with _ h
      cases n with
      | zero => simp [splitN] at h
      | succ n => rw [splitN] at h; split at h <;> simp at h
theorem split_more (n : Nat) (s x y : Bs) (r : List Bs) (h : splitN n s = x :: y :: r) : ∃ s', s = x ++ 32 :: s' ∧ splitN (n - 1) s' = y :: r := by
  cases n with
  | zero => simp [splitN] at h
  | succ n =>
    rw [splitN] at h
    split at h
    · simp at h
    · rename_i hc
      injection h with h1 h2
      refine ⟨cutRest s, ?_, by simpa using h2⟩
      rw [← h1]
      exact cut_join s (by
        have := (not_or.1 hc).2
        simpa using this)
theorem split_ne (n : Nat) (s : Bs) : splitN n s ≠ [] := by
  cases n with
  | zero => simp [splitN]
  | succ n => rw [splitN]; split <;> simp
theorem split_head (n : Nat) (s : Bs) : (splitN (n + 2) s).headD [] = cutWord s := by
  rw [splitN]
  split
  · rename_i h
    have h2 : s.contains 32 = false := by simpa using h
    have : ∀ c ∈ s, (c != 32) = true := by
      intro c hc
      rw [bne_iff_ne]; intro e; subst e
      rw [Bool.eq_false_iff] at h2
      exact h2 (by simpa using hc)
    simp [cutWord_all s this]
  · rfl
theorem split_len (n : Nat) (s : Bs) : ∀ x ∈ splitN n s, x.length ≤ s.length := by
  induction n generalizing s with
  | zero => simp [splitN]
  | succ n ih =>
    rw [splitN]
    split
    · simp
    · intro x hx
      simp only [List.mem_cons] at hx
      rcases hx with rfl | hx
      · exact cutWord_len s
      · exact Nat.le_trans (ih _ x hx) (cutRest_len s)
end Go.Proofs.YtelehacakbaobaaDoor
