/- The document's words of a line, in the printed form and plain: ref28.Words = splitN. -/
import Derived.Test.YtelehacakbaobaaDoorSplit
import Derived.Test.YtelehacakbaobaaDoorMParse
import Derived.Test.YtelehacakbaobaaDoorPRx2
namespace Go.Proofs.YtelehacakbaobaaDoor
open Go.RowKit Go.Proofs.YtelehacakbaobaaDoorW.PrintWords PR
set_option linter.unusedVariables false
set_option linter.unusedSimpArgs false

abbrev bsOf (l : Bs) : ByteArray := ⟨l.toArray⟩
theorem ext_data (s : ByteArray) (a b : Nat) : (s.extract a b).data.toList = (s.data.toList.drop a).take (b - a) := by
  rw [ByteArray.data_extract, Array.toList_extract, List.extract_eq_take_drop]
theorem ext_bs (s : ByteArray) (a b : Nat) : s.extract a b = bsOf ((s.data.toList.drop a).take (b - a)) := bytes_ext (by rw [ext_data])
/-- No blank between two places. -/
def NoBl (l : Bs) (a b : Nat) : Prop := ∀ c ∈ (l.drop a).take (b - a), (c != 32) = true
theorem nobl_refl (l : Bs) (a : Nat) : NoBl l a a := by intro c hc; simp at hc
theorem nobl_step {l : Bs} {a b : Nat} (h : NoBl l a b) (hab : a ≤ b) (hb : b < l.length) (hne : l[b] ≠ 32) : NoBl l a (b + 1) := by
  intro c hc
  have e : (l.drop a).take (b + 1 - a) = (l.drop a).take (b - a) ++ [l[b]] := by
    rw [show b + 1 - a = (b - a) + 1 by omega, List.take_add_one]
    congr 1
    rw [List.getElem?_drop, show a + (b - a) = b by omega, List.getElem?_eq_getElem hb]; rfl
  rw [e] at hc
  simp only [List.mem_append, List.mem_singleton] at hc
  rcases hc with hc | rfl
  · exact h c hc
  · rw [bne_iff_ne]; exact hne
theorem drop_parts (l : Bs) (a b : Nat) (hab : a ≤ b) (hb : b < l.length) : l.drop a = (l.drop a).take (b - a) ++ l[b] :: l.drop (b + 1) := by
  rw [← List.drop_eq_getElem_cons hb]
  conv => lhs; rw [← List.take_append_drop (b - a) (l.drop a)]
  rw [List.drop_drop, show a + (b - a) = b by omega]
theorem words_l (s : ByteArray) (hs : s.size ≤ 1000000) (most : Nat) (hm : 1 ≤ most) (hm9 : most ≤ 9) : ∀ (n k i at_ : Nat) (out : List ByteArray), n < k → i + n = s.size → at_ ≤ i → out.length < most →
    (out.length + 1 < most → NoBl s.data.toList at_ i) → pangramref28_Words.l0 k s most out at_ i = some (out ++ (splitN (most - out.length) (s.data.toList.drop at_)).map bsOf)
  | 0, k + 1, i, at_, out, hk, hi, ha, ho, hb => by
    unfold pangramref28_Words.l0
    have hl : s.data.toList.length = s.size := rfl
    rw [if_neg (by omega), if_pos (by omega), if_pos (by omega), if_pos (by omega)]
    congr 1
    simp only [Int.toNat_natCast]
    rw [ext_bs]
    have e1 : (s.data.toList.drop at_).take (s.size - at_) = s.data.toList.drop at_ := List.take_of_length_le (by rw [List.length_drop, hl]; omega)
    rw [e1]
    by_cases h1 : out.length + 1 < most
    · have h2 := hb h1
      have : splitN (most - out.length) (s.data.toList.drop at_) = [s.data.toList.drop at_] := split_all _ _ (by
        intro c hc
        refine h2 c ?_
        rw [show i = s.size by omega, e1]; exact hc)
      rw [this]; rfl
    · rw [show most - out.length = 0 + 1 by omega]
      simp [splitN]
  | n + 1, k + 1, i, at_, out, hk, hi, ha, ho, hb => by
    have hl : s.data.toList.length = s.size := rfl
    have hlt : i < s.size := by omega
    have hw : wrap64 ((i : Int) + 1) = ((i + 1 : Nat) : Int) := by rw [w64 _ (by omega) (by omega)]; omega
    have hge : s.data.toList[i]'(by omega) = s[i] := rfl
    unfold pangramref28_Words.l0
    rw [if_pos (by omega), if_pos (by omega), bt_nat s i hlt]
    by_cases hc : s[i] = 32
    · rw [if_pos (by rw [hc]; rfl)]
      have hwo : wrap64 ((out.length : Int) + 1) = (out.length : Int) + 1 := w64 _ (by omega) (by omega)
      rw [hwo]
      by_cases h1 : out.length + 1 < most
      · rw [if_pos (by omega), if_pos (by omega), if_pos (by omega), if_pos (by omega), if_pos (by omega), hw]
        simp only [Int.toNat_natCast]
        rw [words_l s hs most hm hm9 n k (i + 1) (i + 1) _ (by omega) (by omega) (by omega) (by simp; omega) (fun _ => nobl_refl _ _)]
        congr 1
        rw [drop_parts s.data.toList at_ i ha (by omega), hge, hc, show most - out.length = (most - out.length - 2) + 2 by omega, split_to _ _ _ (hb h1), ext_bs]
        simp only [List.length_append, List.length_singleton, List.map_cons, List.append_assoc, List.singleton_append]
        rw [show most - (out.length + 1) = most - out.length - 2 + 1 by omega]
      · rw [if_neg (by omega), hw]
        rw [words_l s hs most hm hm9 n k (i + 1) at_ out (by omega) (by omega) (by omega) ho (fun h => absurd h h1)]
    · have hc2 : ¬ ((s[i].toNat : Int) = 32) := by
        intro h; apply hc; rw [← UInt8.toNat_inj]; simp; omega
      rw [if_neg hc2, hw]
      rw [words_l s hs most hm hm9 n k (i + 1) at_ out (by omega) (by omega) (by omega) ho (fun h => nobl_step (hb h) ha (by omega) (by rw [hge]; exact hc))]
theorem words_f (s : ByteArray) (hs : s.size ≤ 1000000) (most : Nat) (hm : 1 ≤ most) (hm9 : most ≤ 9) : pangramref28_Words.f (s.size + 1) s most = some ((splitN most s.data.toList).map bsOf) := by
  unfold pangramref28_Words.f
  have := words_l s hs most hm hm9 s.size (s.size + 1) 0 0 [] (by omega) (by omega) (by omega) (by simp; omega) (fun _ => nobl_refl _ _)
  simpa using this
end Go.Proofs.YtelehacakbaobaaDoor
