/- The document's numbers are just the numerals that Itoa writes. -/
import Derived.Test.YtelehacakbaobaaDoorRefNumb
namespace Go.Proofs.YtelehacakbaobaaDoor
open Go.RowKit
set_option linter.unusedVariables false
set_option linter.unusedSimpArgs false

theorem digs_snoc : ∀ (l : Bs) (acc : Nat) (c : UInt8), digs acc (l ++ [c]) = (digs acc l).bind fun v => if 48 ≤ c.toNat ∧ c.toNat ≤ 57 then some (10 * v + (c.toNat - 48)) else none
  | [], acc, c => by simp [digs]
  | a :: l, acc, c => by
    rw [List.cons_append]
    simp only [digs]
    split
    · exact digs_snoc l _ c
    · rfl
theorem dec_ge10 (u : Nat) (h : ¬ u < 10) : Lib.decDigits u = Lib.decDigits (u / 10) ++ [UInt8.ofNat (48 + u % 10)] := by rw [Lib.decDigits, dif_neg h]
theorem dec_lt10 (u : Nat) (h : u < 10) : Lib.decDigits u = [UInt8.ofNat (48 + u)] := by rw [Lib.decDigits, dif_pos h]
theorem head_app (l : Bs) (c : UInt8) (h : l ≠ []) : (l ++ [c]).head? = l.head? := by
  cases l with
  | nil => exact absurd rfl h
  | cons a l => rfl
theorem dec_zero : Lib.decDigits 0 = [48] := by rw [dec_lt10 0 (by omega)]; rfl
theorem digs_dec (u : Nat) : digs 0 (Lib.decDigits u) = some u := by
  induction u using Nat.strongRecOn with
  | _ u ih =>
    by_cases h : u < 10
    · rw [dec_lt10 u h]
      simp only [digs, digit_nat u h]
      rw [if_pos (by omega)]; congr 1; omega
    · rw [dec_ge10 u h, digs_snoc, ih (u / 10) (by omega)]
      simp only [Option.bind_some, digit_nat (u % 10) (by omega)]
      rw [if_pos (by omega)]; congr 1; omega
theorem dec_head (u : Nat) (h : (Lib.decDigits u).head? = some 48) : u = 0 := by
  induction u using Nat.strongRecOn with
  | _ u ih =>
    by_cases h10 : u < 10
    · rw [dec_lt10 u h10] at h
      simp only [List.head?_cons, Option.some.injEq] at h
      have := congrArg UInt8.toNat h
      rw [digit_nat u h10] at this
      have e : (48 : UInt8).toNat = 48 := rfl
      omega
    · rw [dec_ge10 u h10, head_app _ _ (dec_ne _)] at h
      have := ih (u / 10) (by omega) h
      omega
theorem dec_of_digs : ∀ (m : Nat) (d : Bs), d.length ≤ m → ∀ n, digs 0 d = some n → d ≠ [] → (d.head? = some 48 → d = [48]) → d = Lib.decDigits n
  | 0, d, hm, n, _, hne, _ => by
    exact absurd (List.length_eq_zero_iff.1 (by omega)) hne
  | m + 1, d, hm, n, h, hne, h48 => by
    rcases List.eq_nil_or_concat d with rfl | ⟨l, c, rfl⟩
    · exact absurd rfl hne
    rw [List.concat_eq_append] at *
    rw [digs_snoc] at h
    cases hv : digs 0 l with
    | none => rw [hv] at h; cases h
    | some v =>
      rw [hv] at h
      simp only [Option.bind_some] at h
      split at h
      · rename_i hc
        simp only [Option.some.injEq] at h
        have hcx : UInt8.ofNat (48 + (c.toNat - 48)) = c := by
          rw [show 48 + (c.toNat - 48) = c.toNat by omega]; simp
        by_cases hl : l = []
        · subst hl
          simp only [digs, Option.some.injEq] at hv
          subst hv
          rw [← h, dec_lt10 _ (by omega), show 10 * 0 + (c.toNat - 48) = c.toNat - 48 by omega, hcx]; rfl
        · have hh : (l ++ [c]).head? = l.head? := head_app l c hl
          have h0 : l.head? ≠ some 48 := by
            intro e
            have := h48 (by rw [hh]; exact e)
            have := congrArg List.length this
            simp at this
            exact hl this
          have hd := dec_of_digs m l (by simp at hm; omega) v hv hl (fun e => absurd e h0)
          have hv1 : v ≠ 0 := by
            intro e; subst e
            apply h0; rw [hd, dec_zero]; rfl
          rw [← h, dec_ge10 _ (by omega), show (10 * v + (c.toNat - 48)) / 10 = v by omega, show (10 * v + (c.toNat - 48)) % 10 = c.toNat - 48 by omega, hcx, ← hd]
      · cases h
theorem refNum_bounds (l : Bs) : -9223372036854775808 ≤ (refNum l).1 ∧ (refNum l).1 ≤ 9223372036854775807 := by
  have hw : ∀ n : Int, -9223372036854775808 ≤ wrap64 n ∧ wrap64 n ≤ 9223372036854775807 := fun n => by unfold wrap64; omega
  have hd : ∀ all d m, -9223372036854775808 ≤ (refDigs all d m).1 ∧ (refDigs all d m).1 ≤ 9223372036854775807 := by
    intro all d m
    unfold refDigs
    split
    · simp
    · split
      · simp
      · unfold finNum
        split
        · exact hw _
        · exact hw _
  unfold refNum
  split
  · exact hd _ _ _
  · exact hd _ _ _
theorem dec_head_ge (u : Nat) (c : UInt8) (h : (Lib.decDigits u).head? = some c) : 48 ≤ c.toNat := by
  have := dec_digits u c (List.mem_of_mem_head? h)
  exact this.1
theorem refNum_itoa (n : Int) (h0 : -9223372036854775808 ≤ n) (h1 : n ≤ 9223372036854775807) : refNum (Lib.itoa n) = (n, true) := by
  unfold Lib.itoa
  split
  · rename_i hn
    have hlen := dec_len 18 n.natAbs (by omega)
    have hne := dec_ne n.natAbs
    have h48 : (Lib.decDigits n.natAbs).head? ≠ some 48 := fun e => by have := dec_head _ e; omega
    have hpos : 0 < (Lib.decDigits n.natAbs).length := List.length_pos_iff.2 hne
    unfold refNum
    rw [if_pos (show (45 :: Lib.decDigits n.natAbs).head? = some 45 from rfl)]
    unfold refDigs
    simp only [List.drop_succ_cons, List.drop_zero]
    rw [if_neg (by simp only [not_or, not_and]; exact ⟨by omega, by omega, fun e => absurd e h48⟩), digs_dec]
    simp only [finNum, if_true]
    have e1 : IntKind.u64.wrap ((n.natAbs : Int) - 1) = (n.natAbs : Int) - 1 := u64_in _ (by omega) (by omega)
    rw [e1, w64 ((n.natAbs : Int) - 1) (by omega) (by omega), w64 (-((n.natAbs : Int) - 1)) (by omega) (by omega), w64 (-((n.natAbs : Int) - 1) - 1) (by omega) (by omega)]
    rw [Prod.mk.injEq]
    exact ⟨by omega, by simp only [decide_eq_true_iff]; omega⟩
  · rename_i hn
    have hlen := dec_len 18 n.toNat (by omega)
    have hne := dec_ne n.toNat
    have hpos : 0 < (Lib.decDigits n.toNat).length := List.length_pos_iff.2 hne
    have h45 : (Lib.decDigits n.toNat).head? ≠ some 45 := fun e => by
      have := dec_head_ge _ _ e
      have e2 : (45 : UInt8).toNat = 45 := rfl
      omega
    unfold refNum
    rw [if_neg h45]
    unfold refDigs
    rw [if_neg (by
      simp only [not_or, not_and]
      refine ⟨by omega, by omega, fun e => ?_⟩
      have := dec_head _ e
      rw [this, dec_zero]
      exact fun h => h rfl), digs_dec]
    simp only [finNum, Bool.false_eq_true, if_false]
    rw [w64 _ (by omega) (by omega), Prod.mk.injEq]
    exact ⟨by omega, by simp only [decide_eq_true_iff]; omega⟩
theorem refNum_back (l : Bs) (v : Int) (h : refNum l = (v, true)) : l = Lib.itoa v := by
  unfold refNum at h
  split at h
  · rename_i h45
    obtain ⟨d, rfl⟩ : ∃ d, l = 45 :: d := by
      match l, h45 with
      | a :: r, h45 => exact ⟨r, by simp only [List.head?_cons, Option.some.injEq] at h45; rw [h45]⟩
    simp only [List.drop_succ_cons, List.drop_zero] at h
    unfold refDigs at h
    split at h
    · simp at h
    · rename_i hc
      simp only [not_or, not_and] at hc
      split at h
      · simp at h
      · rename_i n hn
        have hne : d ≠ [] := by rintro rfl; simp at hc
        have h48 : d.head? ≠ some 48 := fun e => hc.2.2 e (by simp)
        have hd := dec_of_digs d.length d (Nat.le_refl _) n hn hne (fun e => absurd e h48)
        have hn0 : n ≠ 0 := by
          intro e; subst e; apply h48; rw [hd, dec_zero]; rfl
        simp only [finNum, if_true, Prod.mk.injEq, decide_eq_true_iff] at h
        obtain ⟨h, hn2⟩ := h
        have e1 : IntKind.u64.wrap ((n : Int) - 1) = (n : Int) - 1 := u64_in _ (by omega) (by omega)
        rw [e1, w64 ((n : Int) - 1) (by omega) (by omega), w64 (-((n : Int) - 1)) (by omega) (by omega), w64 (-((n : Int) - 1) - 1) (by omega) (by omega)] at h
        unfold Lib.itoa
        rw [if_pos (by omega), hd]
        congr 2; omega
  · rename_i h45
    unfold refDigs at h
    split at h
    · simp at h
    · rename_i hc
      simp only [not_or, not_and, Decidable.not_not] at hc
      split at h
      · simp at h
      · rename_i n hn
        have hne : l ≠ [] := by rintro rfl; simp at hc
        have hd := dec_of_digs l.length l (Nat.le_refl _) n hn hne hc.2.2
        simp only [finNum, Bool.false_eq_true, if_false, Prod.mk.injEq, decide_eq_true_iff] at h
        rw [w64 _ (by omega) (by omega)] at h
        unfold Lib.itoa
        rw [if_neg (by omega), hd]
        congr 1; omega
end Go.Proofs.YtelehacakbaobaaDoor
