/- The document's numbers, in the printed form and plain: ref28.number; it reads just the numerals that Itoa writes. -/
import Derived.Test.YtelehacakbaobaaDoorSplit
import Derived.Test.YtelehacakbaobaaDoorMParse
import Derived.Test.YtelehacakbaobaaDoorPRx4
namespace Go.Proofs.YtelehacakbaobaaDoor
open Go.RowKit Go.Proofs.YtelehacakbaobaaDoorW.PrintWords PR
set_option linter.unusedVariables false
set_option linter.unusedSimpArgs false

/-- Digits, behind what they are so far. -/
def digs : Nat → Bs → Option Nat
  | acc, [] => some acc
  | acc, c :: r => if 48 ≤ c.toNat ∧ c.toNat ≤ 57 then digs (10 * acc + (c.toNat - 48)) r else none
def finNum (minus : Bool) (n : Nat) : Int × Bool := if minus then (wrap64 ((wrap64 (-(wrap64 (IntKind.u64.wrap ((n : Int) - 1))))) - 1), decide (n ≤ 9223372036854775808)) else (wrap64 n, decide (n ≤ 9223372036854775807))
/-- Of the digits of a word (all: the word with its sign). -/
def refDigs (all d : Bs) (minus : Bool) : Int × Bool :=
  if d.length < 1 ∨ 19 < d.length ∨ d.head? = some 48 ∧ all ≠ [48] then (0, false) else match digs 0 d with
    | none => (0, false)
    | some n => finNum minus n
def refNum (l : Bs) : Int × Bool := if l.head? = some 45 then refDigs l (l.drop 1) true else refDigs l l false

theorem u64_in (n : Int) (h0 : 0 ≤ n) (h1 : n < 18446744073709551616) : IntKind.u64.wrap n = n := by
  have hm : IntKind.u64.min = 0 := by decide
  have hx : IntKind.u64.max = 18446744073709551615 := by decide
  have hb : IntKind.u64.bits = 64 := by decide
  have hs : IntKind.u64.signed = false := by decide
  unfold IntKind.wrap
  simp only [hb, hs, Bool.false_and, Bool.false_eq_true, if_false]
  omega
theorem digs_bound : ∀ (l : Bs) (acc n : Nat), digs acc l = some n → n < (acc + 1) * 10 ^ l.length
  | [], acc, n, h => by simp [digs] at h; subst h; simp
  | c :: r, acc, n, h => by
    simp only [digs] at h
    split at h
    · rename_i hc
      have := digs_bound r _ n h
      rw [List.length_cons, Nat.pow_succ]
      have h2 : (10 * acc + (c.toNat - 48) + 1) * 10 ^ r.length ≤ (acc + 1) * 10 * 10 ^ r.length := Nat.mul_le_mul_right _ (by omega)
      have h3 : (acc + 1) * (10 ^ r.length * 10) = (acc + 1) * 10 * 10 ^ r.length := by rw [Nat.mul_assoc, Nat.mul_comm 10]
      omega
    · cases h
theorem pow_le (a b : Nat) (h : a ≤ b) : 10 ^ a ≤ 10 ^ b := Nat.pow_le_pow_right (by omega) h
theorem number_l (d : ByteArray) (hd : d.size ≤ 19) (minus : Bool) : ∀ (n k i acc : Nat), n < k → i + n = d.size → acc < 10 ^ i →
    pangramref28_number.l0 k d minus acc i = some (match digs acc (d.data.toList.drop i) with | none => (0, false) | some v => finNum minus v)
  | 0, k + 1, i, acc, hk, hi, ha => by
    rw [pangramref28_number.l0]
    rw [if_neg (by omega), List.drop_of_length_le (by show d.data.toList.length ≤ i; have : d.data.toList.length = d.size := rfl; omega)]
    simp only [digs, finNum]
    cases minus with
    | true => simp only [if_true]; congr 3; rw [eq_iff_iff]; omega
    | false => simp only [Bool.false_eq_true, if_false]; congr 3; rw [eq_iff_iff]; omega
  | n + 1, k + 1, i, acc, hk, hi, ha => by
    have hlt : i < d.size := by omega
    have hp : 10 ^ i ≤ 10 ^ 18 := pow_le _ _ (by omega)
    have hw : wrap64 ((i : Int) + 1) = ((i + 1 : Nat) : Int) := by rw [w64 _ (by omega) (by omega)]; omega
    have hx := d[i].toNat_lt
    rw [pangramref28_number.l0]
    rw [if_pos (by omega), if_pos (by omega), bt_nat d i hlt, drop_bt d i hlt]
    by_cases h1 : 48 ≤ d[i].toNat
    · by_cases h2 : d[i].toNat ≤ 57
      · rw [if_neg (by omega), if_neg (by omega), hw]
        have e1 : IntKind.u64.wrap (10 * (acc : Int)) = ((10 * acc : Nat) : Int) := by rw [u64_in _ (by omega) (by omega)]; omega
        have e2 : (((d[i].toNat : Int) - 48) % 256) = ((d[i].toNat - 48 : Nat) : Int) := by omega
        have e3 : IntKind.u64.wrap (((10 * acc : Nat) : Int) + ((d[i].toNat - 48 : Nat) : Int)) = ((10 * acc + (d[i].toNat - 48) : Nat) : Int) := by rw [u64_in _ (by omega) (by omega)]; omega
        rw [e1, e2, e3, number_l d hd minus n k (i + 1) _ (by omega) (by omega) (by rw [Nat.pow_succ]; omega)]
        simp only [digs]
        rw [if_pos ⟨h1, h2⟩]
      · rw [if_neg (by omega), if_pos (by omega)]
        simp only [digs]
        rw [if_neg (by omega)]
    · rw [if_pos (by omega)]
      simp only [digs]
      rw [if_neg (by omega)]
theorem number_j1 (s d : ByteArray) (minus : Bool) (k : Nat) (hk : 30 ≤ k) : pangramref28_number.j1 k s d minus = some (refDigs s.data.toList d.data.toList minus) := by
  obtain ⟨k, rfl⟩ : ∃ m, k = m + 1 + 1 + 1 := ⟨k - 3, by omega⟩
  have hl : d.data.toList.length = d.size := rfl
  rw [pangramref28_number.j1]
  unfold refDigs
  by_cases h1 : d.size < 1
  · rw [if_pos (by omega), if_pos (Or.inl (by omega))]
    rw [pangramref28_number.j2]; rw [if_pos rfl]
  rw [if_neg (by omega)]
  by_cases h2 : 19 < d.size
  · rw [if_pos (by omega), if_pos (Or.inr (Or.inl (by omega)))]
    rw [pangramref28_number.j2]; rw [if_pos rfl]
  rw [if_neg (by omega), if_pos (by omega)]
  have hb := bt_nat d 0 (by omega)
  rw [show ((0 : Nat) : Int) = 0 from rfl] at hb
  have hh : d.data.toList.head? = some (d[0]'(by omega)) := first_at d (by omega)
  have hln := number_l d (by omega) minus d.size (k + 1) 0 0 (by omega) (by omega) (by simp)
  rw [show ((0 : Nat) : Int) = 0 from rfl, List.drop_zero] at hln
  rw [hb]
  by_cases h3 : d[0] = 48
  · rw [if_pos (by rw [h3]; rfl)]
    rw [Lib.toList_data]
    by_cases h4 : s.data.toList = [48]
    · rw [if_neg (by simp only [not_or, not_and, hl]; exact ⟨by omega, by omega, fun _ h => h h4⟩), h4]
      rw [pangramref28_number.j2]
      rw [if_neg (by decide), hln]
    · rw [if_pos (Or.inr (Or.inr ⟨by rw [hh, h3], h4⟩))]
      rw [pangramref28_number.j2]
      rw [if_pos (by simpa using h4)]
  · have h5 : ¬ ((d[0].toNat : Int) = 48) := by
      intro h; apply h3; rw [← UInt8.toNat_inj]; simp; omega
    rw [if_neg h5, if_neg (by rw [hh]; simp only [Option.some.injEq, not_or, not_and]; exact ⟨by omega, by omega, fun h => absurd h h3⟩)]
    rw [pangramref28_number.j2]
    rw [if_neg (by decide), hln]
theorem ext_one (s : ByteArray) (h : 1 ≤ s.size) : (s.extract 1 s.size).data.toList = s.data.toList.drop 1 := by
  rw [ByteArray.data_extract, Array.toList_extract, List.extract_eq_take_drop]
  exact List.take_of_length_le (by rw [List.length_drop]; exact Nat.le_refl _)
theorem number_f (s : ByteArray) : pangramref28_number.f (39 + 1) s = some (refNum s.data.toList) := by
  have hl : s.data.toList.length = s.size := rfl
  unfold pangramref28_number.f refNum
  rw [Lib.toList_data]
  by_cases h0 : s.data.toList = []
  · rw [if_pos h0, if_neg (by rw [h0]; simp)]
    rw [pangramref28_number.j0]
    rw [if_neg (by decide), number_j1 s s false 39 (by omega)]
  have hs : 0 < s.size := by
    rcases Nat.eq_zero_or_pos s.size with h | h
    · exact absurd (List.length_eq_zero_iff.1 (hl.trans h)) h0
    · exact h
  rw [if_neg h0, if_pos (by omega), first_at s hs]
  have hb := bt_nat s 0 hs
  rw [show ((0 : Nat) : Int) = 0 from rfl] at hb
  rw [hb]
  rw [pangramref28_number.j0]
  by_cases h4 : s[0] = 45
  · rw [if_pos (by rw [h4]; rfl), if_pos (by omega), if_pos (by rw [h4]), number_j1 s _ true 39 (by omega), ext_one s (by omega)]
  · have h5 : ¬ ((s[0].toNat : Int) = 45) := by
      intro h; apply h4; rw [← UInt8.toNat_inj]; simp; omega
    rw [if_neg (by simpa using h5), if_neg (by simpa using h4), number_j1 s s false 39 (by omega)]
end Go.Proofs.YtelehacakbaobaaDoor
