/- ref02.Name in its printed form answers as the plain function nameOk does. What tape.Line comes to: an act's line, or what is wrong with it. tape's reader: a word off, a number off. tape's reader: what a kind uses is read. What tape.Parse comes to: the act of a line, if there is one. A line that an act has is read as that act: parse (lineOf a) = some a. No program stands in this text. The document's example comes out: pangramlaw28.awake; tape.Same; two acts held against each other. -/
import Derived.BigQuiet
import Derived.Test.YtelehacakbaobaaDoorPRx
import Derived.Test.YtelehacakbaobaaDoorMBase
import Derived.IntWalk
import Derived.Test.YtelehacakbaobaaDoorGivenR
import Derived.Test.YtelehacakbaobaaDoorPRx1
import Derived.Lib.AppendIntMem
import Derived.WalkSpells
import Derived.Deep.RegionHeld3
import Derived.Lib.AtoiErrMem
import Derived.Lib.IndexBytes
import Derived.Lib.AtoiAllCases

namespace Go.Proofs.YtelehacakbaobaaDoor
open Go.RowKit Go.Proofs.YtelehacakbaobaaDoorW.PrintWords Go.Proofs.YtelehacakbaobaaDoor.PR
set_option linter.unusedVariables false
set_option linter.unusedSimpArgs false

theorem w64 (n : Int) (h0 : -9223372036854775808 ≤ n) (h1 : n ≤ 9223372036854775807) : wrap64 n = n := by unfold wrap64; omega
theorem letter_f (c : UInt8) : pangramref02_Letter.f (c.toNat : Int) = some (small c) := by
  unfold pangramref02_Letter.f small
  have h1 : ((97 : UInt8) ≤ c) ↔ 97 ≤ c.toNat := UInt8.le_iff_toNat_le
  have h2 : (c ≤ (122 : UInt8)) ↔ c.toNat ≤ 122 := UInt8.le_iff_toNat_le
  simp only [h1, h2]
  split
  · rename_i h
    rw [decide_eq_true (show 97 ≤ c.toNat by omega), Bool.true_and]
    congr 1
    rw [decide_eq_decide]; omega
  · rename_i h
    rw [decide_eq_false (show ¬ 97 ≤ c.toNat by omega), Bool.false_and]
theorem digit_f (c : UInt8) : pangramref02_Digit.f (c.toNat : Int) = some (digit c) := by
  unfold pangramref02_Digit.f digit
  have h1 : ((48 : UInt8) ≤ c) ↔ 48 ≤ c.toNat := UInt8.le_iff_toNat_le
  have h2 : (c ≤ (57 : UInt8)) ↔ c.toNat ≤ 57 := UInt8.le_iff_toNat_le
  simp only [h1, h2]
  split
  · rename_i h
    rw [decide_eq_true (show 48 ≤ c.toNat by omega), Bool.true_and]
    congr 1
    rw [decide_eq_decide]; omega
  · rename_i h
    rw [decide_eq_false (show ¬ 48 ≤ c.toNat by omega), Bool.false_and]
theorem under_f (c : UInt8) : ((c.toNat : Int) == 95) = (c == 95) := by
  rw [Bool.eq_iff_iff, beq_iff_eq, beq_iff_eq, ← UInt8.toNat_inj]
  show _ ↔ c.toNat = 95
  omega
theorem inner_f (c : UInt8) : pangramref02_Inner.f (c.toNat : Int) = some (inner c) := by
  unfold pangramref02_Inner.f inner
  rw [letter_f, digit_f, under_f]
  simp only [Option.bind_some]
  cases small c <;> cases digit c <;> simp
theorem keyword_l (x : ByteArray) (l : List ByteArray) (hl : l.length ≤ 1000) : ∀ (n k : Nat) (i : Nat), i + n = l.length → n < k → pangramref02_Keyword.l0 k x l i = some ((l.drop i).any fun y => y.toList == x.toList)
  | 0, k + 1, i, hi, hk => by
    unfold pangramref02_Keyword.l0
    rw [if_neg (by omega), List.drop_of_length_le (by omega)]; rfl
  | n + 1, k + 1, i, hi, hk => by
    unfold pangramref02_Keyword.l0
    rw [if_pos (by omega), if_pos (by omega), w64 _ (by omega) (by omega)]
    have e : l.drop i = rdOf ByteArray.empty l i :: l.drop (i + 1) := by
      rw [List.drop_eq_getElem_cons (by omega)]
      congr 1
      unfold rdOf
      rw [Int.toNat_natCast, List.getD_eq_getElem?_getD, List.getElem?_eq_getElem (by omega)]; rfl
    rw [e, List.any_cons]
    by_cases h : (rdOf ByteArray.empty l i).toList = x.toList
    · rw [if_pos h]; simp [h]
    · rw [if_neg h, show ((i : Int) + 1) = ((i + 1 : Nat) : Int) by omega, keyword_l x l hl n k (i + 1) (by omega) (by omega)]
      simp [h]
theorem keyword_f (k : Nat) (x : ByteArray) (hk : 12 ≤ k) : pangramref02_Keyword.f k x = some (keyword x.data.toList) := by
  unfold pangramref02_Keyword.f
  rw [show (0 : Int) = ((0 : Nat) : Int) from rfl, keyword_l x _ (by simp) 11 k 0 (by simp) (by omega)]
  unfold keyword keywords
  simp only [List.drop_zero, List.any_cons, List.any_nil, Lib.toList_data, List.contains_cons, List.contains_nil]
  congr 1
  rw [Bool.eq_iff_iff]
  simp only [Bool.or_eq_true, beq_iff_eq, Bool.false_eq_true, or_false]
  constructor <;> (intro h; simpa only [eq_comm] using h)
theorem drop_bt (x : ByteArray) (i : Nat) (h : i < x.size) : x.data.toList.drop i = x[i] :: x.data.toList.drop (i + 1) := by
  rw [List.drop_eq_getElem_cons (by show i < x.data.toList.length; simpa using h)]
  rfl
theorem bt_nat (x : ByteArray) (i : Nat) (h : i < x.size) : bt x (i : Int) = (x[i].toNat : Int) := by
  unfold bt
  simp only [Int.toNat_natCast]
  rw [dif_pos h]
/-- What is asked at the end. -/
def nameEnd (x : ByteArray) : Bool := decide (0 < x.size) && decide (x.size ≤ 20) && !keyword x.data.toList
theorem name_end (x : ByteArray) (k : Nat) (hk : 12 ≤ k) : (if (x.size : Int) > 0 then (if (x.size : Int) ≤ 20 then ((pangramref02_Keyword.f k x).bind fun t132 => (some (!t132))) else (some false)) else (some false)) = some (nameEnd x) := by
  unfold nameEnd
  rw [keyword_f k x hk]
  by_cases h1 : 0 < x.size
  · by_cases h2 : x.size ≤ 20
    · rw [if_pos (by omega), if_pos (by omega)]; simp [h1, h2]
    · rw [if_pos (by omega), if_neg (by omega)]; simp [h2]
  · rw [if_neg (by omega)]; simp [h1]
theorem name_l (x : ByteArray) (hx : x.size ≤ 9000000000000000000) : ∀ (n k : Nat) (i : Nat), 0 < i → i + n = x.size → n + 12 < k → pangramref02_Name.l0 k x i = some ((x.data.toList.drop i).all inner && nameEnd x)
  | 0, k + 1, i, h0, hi, hk => by
    unfold pangramref02_Name.l0
    rw [if_neg (by omega), name_end x k (by omega), List.drop_of_length_le (by show x.data.toList.length ≤ i; have : x.data.toList.length = x.size := rfl; omega)]
    rfl
  | n + 1, k + 1, i, h0, hi, hk => by
    unfold pangramref02_Name.l0
    rw [if_pos (by omega), if_pos (by omega), bt_nat x i (by omega), inner_f, w64 _ (by omega) (by omega), drop_bt x i (by omega)]
    simp only [Option.bind_some]
    by_cases h : inner x[i] = true
    · rw [if_pos h, if_neg (by omega), show ((i : Int) + 1) = ((i + 1 : Nat) : Int) by omega, name_l x hx n k (i + 1) (by omega) (by omega) (by omega)]
      simp [h]
    · rw [if_neg h]; simp [h]
theorem name_f (x : ByteArray) (hx : x.size ≤ 9000000000000000000) : pangramref02_Name.f (x.size + 14) x = some (nameOk x.data.toList) := by
  unfold pangramref02_Name.f
  by_cases h0 : x.size = 0
  · have e : x.data.toList = [] := List.length_eq_zero_iff.mp h0
    rw [show x.size + 14 = (x.size + 13) + 1 from rfl]
    unfold pangramref02_Name.l0
    rw [if_neg (by omega), if_neg (by omega), e]; rfl
  · rw [show x.size + 14 = (x.size + 13) + 1 from rfl, show (0 : Int) = ((0 : Nat) : Int) from rfl]
    unfold pangramref02_Name.l0
    have e0 := drop_bt x 0 (by omega)
    rw [List.drop_zero] at e0
    rw [if_pos (by omega), if_pos (by omega), bt_nat x 0 (by omega), inner_f, letter_f, w64 _ (by omega) (by omega), show (((0 : Nat) : Int) + 1) = ((1 : Nat) : Int) by omega, name_l x hx (x.size - 1) (x.size + 13) 1 (by omega) (by omega) (by omega)]
    simp only [Option.bind_some]
    have hl : x.data.toList.length = x.size := rfl
    have hE : nameEnd x = (decide ((x[0]'(by omega) :: x.data.toList.drop (0 + 1)).length ≤ 20) && !keyword (x[0]'(by omega) :: x.data.toList.drop (0 + 1))) := by
      unfold nameEnd; rw [← e0, hl, decide_eq_true (by omega), Bool.true_and]
    rw [hE, e0]
    unfold nameOk
    simp only [List.all_cons]
    cases h1 : inner (x[0]'(by omega)) <;> cases h2 : small (x[0]'(by omega)) <;> simp [Bool.and_assoc]
theorem ref_name_any (x : ByteArray) (hx : x.size ≤ 9000000000000000000) (w : World) : Calls Tryd.prog 30 #[.string x] w fun e w' => e = .returned (.bool (nameOk x.data.toList)) ∧ Below w.heap.size w w' :=
  (pangramref02_Name.calls _ x _ w (name_f x hx)).mono fun e w' ⟨he, hw⟩ => ⟨he, hw⟩
end Go.Proofs.YtelehacakbaobaaDoor

namespace Go.Proofs.YtelehacakbaobaaDoor
open Go.RowKit
set_option linter.unusedVariables false
set_option linter.unusedSimpArgs false

theorem itoa_any (n : Int) (h0 : -9223372036854775808 ≤ n) (h1 : n ≤ 9223372036854775807) (w : World) (hG : GW w) : Calls Tryd.prog 29 #[.int .i64 n] w fun e w' => e = .returned (.string ⟨(Lib.itoa n).toArray⟩) ∧ Below w.heap.size w w' :=
  (Tryd.strconv_Itoa n h0 h1 w hG.pow).mono fun e w' ⟨he, k, os, hw⟩ => ⟨he, hw ▸ Lib.below_grow _ _ (Nat.le_refl _) _ _⟩
theorem known_any (k : Int) (w : World) : Calls Tryd.prog 20 #[.int .i64 k] w fun e w' => e = .returned (.bool (known k)) ∧ w = w' := by
  by_cases h1 : 1 ≤ k
  · go_enter Tryd.func20, Tryd.ntmps20
    go_wp2
    go_ret
    refine ⟨bool_ret ?_, rfl⟩
    unfold known
    rw [Bool.eq_iff_iff]; simp; omega
  · go_enter Tryd.func20, Tryd.ntmps20
    go_wp2
    go_ret
    refine ⟨bool_ret ?_, rfl⟩
    unfold known
    rw [eq_comm, decide_eq_false_iff_not]; omega
theorem contains_use (m : Nat) (h : m ≤ 7) : Lib.contains (⟨(useOf m).toArray⟩ : ByteArray).data.toList (⟨#[110]⟩ : ByteArray).data.toList = (useOf m).contains 110 := by
  have hh : ∀ j : Fin 8, Lib.contains (useOf j.val) [110] = (useOf j.val).contains 110 := by decide +kernel
  exact hh ⟨m, by omega⟩
theorem contains_any (m : Nat) (h : m ≤ 7) (w : World) (hG : GW w) : Calls Tryd.prog 26 #[.string ⟨(useOf m).toArray⟩, .string ⟨#[110]⟩] w fun e w' => e = .returned (.bool ((useOf m).contains 110)) ∧ w = w' := by
  have hh : ∀ j : Fin 8, (⟨(useOf j.val).toArray⟩ : ByteArray).size < 100 := by decide +kernel
  have := Tryd.strings_Contains_shaped ⟨(useOf m).toArray⟩ ⟨#[110]⟩ w hG.shaped (by have h2 : (⟨(useOf m).toArray⟩ : ByteArray).size < 100 := hh ⟨m, by omega⟩; omega)
  rw [contains_use m h] at this
  exact this.mono fun e w' ⟨he, hw⟩ => ⟨he, hw.symm⟩
theorem lineOf_err (a : TAct) (h : ¬ lineErr a = 0) : lineOf a = [] := by unfold lineOf; rw [if_neg h]
/-- What stands in memory while a line is made. -/
structure LineW (B I : Nat) (w0 : World) (a : TAct) (s : ByteArray) (pos : Nat) (w : World) : Prop where
  ha : HasAct w B a
  hi : w.heap[I]? = some (.stringIter s pos)
  hb : Below B w0 w
theorem line_start {w w0 : World} {B : Nat} {a : TAct} (h : HasAct w B a) (s : ByteArray) (hb : Below B w0 w) (hB : B < w.heap.size) : LineW B w.heap.size w0 a s 0 (w.iter s 0) where
  ha := by unfold HasAct World.iter at *; rw [Below.heap_alloc _ _ _ hB]; exact h
  hi := World.iter_heap w s 0
  hb := hb.alloc (Nat.le_of_lt hB) _
theorem LineW.next {B I : Nat} {w0 w : World} {a : TAct} {s : ByteArray} {pos : Nat} (h : LineW B I w0 a s pos w) (hI : B < I) (pos' : Nat) : LineW B I w0 a s pos' (w.iterAt I s pos') where
  ha := h.ha.iterAt _ _ _ (by omega)
  hi := Lib.iterAt_heap w I s pos pos' h.hi
  hb := Lib.below_iterAt h.hb (by omega) s pos'
theorem LineW.below {B I : Nat} {w0 w w1 : World} {a : TAct} {s : ByteArray} {pos : Nat} (h : LineW B I w0 a s pos w) (hb : Below w.heap.size w w1) : LineW B I w0 a s pos w1 where
  ha := h.ha.below hb h.ha.lt
  hi := by rw [hb.block I (lt_of_block h.hi)]; exact h.hi
  hb := h.hb.trans (hb.mono (Nat.le_of_lt h.ha.lt))
theorem arr_size (l : Bs) : (⟨l.toArray⟩ : ByteArray).size = l.length := by show l.toArray.size = _; simp
theorem one_size (c : UInt8) : (⟨#[c]⟩ : ByteArray).size = 1 := rfl
theorem word_size (m : Nat) (h : m ≤ 7) : (⟨(wordOf m).toArray⟩ : ByteArray).size ≤ 10 + 0 * 200000 := by
  have hh : ∀ j : Fin 8, (⟨(wordOf j.val).toArray⟩ : ByteArray).size ≤ 10 + 0 * 200000 := by decide +kernel
  exact hh ⟨m, by omega⟩
theorem use_size (m : Nat) (h : m ≤ 7) : (⟨(useOf m).toArray⟩ : ByteArray).size ≤ 4 := by
  have hh : ∀ j : Fin 8, (⟨(useOf j.val).toArray⟩ : ByteArray).size ≤ 4 := by decide +kernel
  exact hh ⟨m, by omega⟩
theorem use_letters (m : Nat) (h : m ≤ 7) (c : UInt8) (hc : c ∈ useOf m) : c = 110 ∨ c = 116 ∨ c = 102 ∨ c = 111 ∨ c = 117 ∨ c = 108 := by
  have hh : ∀ j : Fin 8, ∀ c ∈ useOf j.val, c = 110 ∨ c = 116 ∨ c = 102 ∨ c = 111 ∨ c = 117 ∨ c = 108 := by decide +kernel
  exact hh ⟨m, by omega⟩ c hc
theorem use_mem (m pos : Nat) (hp : pos < (⟨(useOf m).toArray⟩ : ByteArray).size) : (⟨(useOf m).toArray⟩ : ByteArray)[pos] ∈ useOf m := by
  have h1 : (useOf m)[pos]'(by have h5 := arr_size (useOf m); omega) ∈ useOf m := List.getElem_mem _
  exact h1
theorem use_ascii (m : Nat) (h : m ≤ 7) (pos : Nat) (hp : pos < (⟨(useOf m).toArray⟩ : ByteArray).size) : ((⟨(useOf m).toArray⟩ : ByteArray)[pos]).toNat < 128 := by
  rcases use_letters m h _ (use_mem m pos hp) with e | e | e | e | e | e <;> rw [e] <;> decide
theorem use_last (m : Nat) (h : m ≤ 7) (pos : Nat) (hp : pos < (⟨(useOf m).toArray⟩ : ByteArray).size) (h0 : ¬ (⟨(useOf m).toArray⟩ : ByteArray)[pos] = 110) (h1 : ¬ (⟨(useOf m).toArray⟩ : ByteArray)[pos] = 116) (h2 : ¬ (⟨(useOf m).toArray⟩ : ByteArray)[pos] = 102) (h3 : ¬ (⟨(useOf m).toArray⟩ : ByteArray)[pos] = 111) (h4 : ¬ (⟨(useOf m).toArray⟩ : ByteArray)[pos] = 117) : (⟨(useOf m).toArray⟩ : ByteArray)[pos] = 108 := by
  rcases use_letters m h _ (use_mem m pos hp) with e | e | e | e | e | e
  · exact absurd e h0
  · exact absurd e h1
  · exact absurd e h2
  · exact absurd e h3
  · exact absurd e h4
  · exact e
theorem tup_ret {a b : ByteArray} {n : Int} (h : a.data.toList = b.data.toList) : Ending.returned (.tuple #[.string a, .int .i64 n]) = .returned (.tuple #[.string b, .int .i64 n]) := by rw [bytes_ext h]
theorem tab_word (m : Nat) (h : m ≤ 7) : useTab.getD (m * 2) [] = wordOf m := by
  have hh : ∀ j : Fin 8, useTab.getD (j.val * 2) [] = wordOf j.val := by decide +kernel
  exact hh ⟨m, by omega⟩
theorem tab_use (m : Nat) (h : m ≤ 7) : useTab.getD (m * 2 + 1) [] = useOf m := by
  have hh : ∀ j : Fin 8, useTab.getD (j.val * 2 + 1) [] = useOf j.val := by decide +kernel
  exact hh ⟨m, by omega⟩
/-- The line so far. -/
def LSoFar (a : TAct) (m : Nat) (pos : Nat) (t : ByteArray) : Prop := t.data.toList = wordOf m ++ ((useOf m).take pos).flatMap (tell a)
theorem lsofar_step {a : TAct} {m pos : Nat} {t x : ByteArray} (c : UInt8) (hl : pos < (⟨(useOf m).toArray⟩ : ByteArray).size) (hc : (⟨(useOf m).toArray⟩ : ByteArray)[pos] = c) (h : LSoFar a m pos t) (hx : x.data.toList = tell a c) : LSoFar a m (pos + 1) (t ++ x) := by
  unfold LSoFar at *
  have e : (useOf m).take (pos + 1) = (useOf m).take pos ++ [c] := by
    have h1 := take_succ ⟨(useOf m).toArray⟩ pos hl
    rw [hc] at h1
    simpa using h1
  rw [e, List.flatMap_append, ByteArray.data_append, Array.toList_append, h, hx]; simp
theorem LineW.drew {B I : Nat} {w0 w : World} {a : TAct} {s : ByteArray} {pos : Nat} (h : LineW B I w0 a s pos w) : LineW B I w0 a s pos w.drew := ⟨h.ha, h.hi, h.hb.drew⟩
theorem use_named (m : Nat) (h : m ≤ 7) (hc : (useOf m).contains 110 = true) (pos : Nat) (hp : pos < (⟨(useOf m).toArray⟩ : ByteArray).size) (h0 : ¬ (⟨(useOf m).toArray⟩ : ByteArray)[pos] = 110) (h1 : ¬ (⟨(useOf m).toArray⟩ : ByteArray)[pos] = 116) (h2 : ¬ (⟨(useOf m).toArray⟩ : ByteArray)[pos] = 102) (h3 : ¬ (⟨(useOf m).toArray⟩ : ByteArray)[pos] = 111) (h4 : ¬ (⟨(useOf m).toArray⟩ : ByteArray)[pos] = 117) : False := by
  have e := use_last m h pos hp h0 h1 h2 h3 h4
  have hm := use_mem m pos hp
  rw [e] at hm
  have hh : ∀ j : Fin 8, (useOf j.val).contains 110 = true → (108 : UInt8) ∈ useOf j.val → False := by decide +kernel
  exact hh ⟨m, by omega⟩ hc hm
theorem use_limits (m : Nat) (h : m ≤ 7) (h1 : 1 ≤ m) (hc : (useOf m).contains 110 = false) (pos : Nat) (hp : pos < (⟨(useOf m).toArray⟩ : ByteArray).size) : (⟨(useOf m).toArray⟩ : ByteArray)[pos] = 108 := by
  have hm := use_mem m pos hp
  have hh : ∀ j : Fin 8, 1 ≤ j.val → (useOf j.val).contains 110 = false → ∀ c ∈ useOf j.val, c = 108 := by decide +kernel
  exact hh ⟨m, by omega⟩ h1 hc _ hm
theorem itoa_len (n : Int) (h0 : -9223372036854775808 ≤ n) (h1 : n ≤ 9223372036854775807) : (Lib.itoa n).length ≤ 20 := by
  unfold Lib.itoa
  split
  · have := dec_len 18 n.natAbs (by omega)
    simp; omega
  · have := dec_len 18 n.toNat (by omega)
    omega
theorem quote_len (l : Bs) : (quote l).length ≤ 3 * l.length + 2 := by
  unfold quote; have := flat_len l; rw [List.length_cons, List.length_append]; simp only [List.length_singleton]; omega
/-- Are two acts others? -/
def actNe (x y : TAct) : Bool := decide (x ≠ y)
/-- Two acts, held against each other. -/
theorem neq_act (x y : TAct) (wx : World) : Sem.run Tryd.prog (binOp .neq 26 (.agg #[.int .i64 x.kind, .string ⟨x.name.toArray⟩, .int .i64 x.frm, .int .i64 x.til, .string ⟨x.text.toArray⟩, .int .i64 x.n, .int .i64 x.l1, .int .i64 x.l2, .int .i64 x.l3]) (.agg (cellsA y))) wx = .ok (.bool (actNe x y)) wx := by
  unfold cellsA actNe
  rw [run_neq_struct, PR.eqA26 9997]
  simp only [Result.andThen]
  congr 2
  obtain ⟨x0, x1, x2, x3, x4, x5, x6, x7, x8⟩ := x
  obtain ⟨y0, y1, y2, y3, y4, y5, y6, y7, y8⟩ := y
  rw [Bool.eq_iff_iff]
  simp only [Lib.toList_data, Bool.not_eq_true', Bool.and_eq_false_iff, beq_eq_false_iff_ne, decide_eq_true_iff, ne_eq, TAct.mk.injEq]
  grind
/-- The numbers of an act fit. -/
structure TAct.Fits (a : TAct) : Prop where
  frm : -9223372036854775808 ≤ a.frm ∧ a.frm ≤ 9223372036854775807
  til : -9223372036854775808 ≤ a.til ∧ a.til ≤ 9223372036854775807
  n : -9223372036854775808 ≤ a.n ∧ a.n ≤ 9223372036854775807
  l1 : -9223372036854775808 ≤ a.l1 ∧ a.l1 ≤ 9223372036854775807
  l2 : -9223372036854775808 ≤ a.l2 ∧ a.l2 ≤ 9223372036854775807
  l3 : -9223372036854775808 ≤ a.l3 ∧ a.l3 ≤ 9223372036854775807
  name : a.name.length ≤ 100000
  text : a.text.length ≤ 100000

set_option maxRecDepth 100000 in
set_option maxHeartbeats 2000000 in
theorem line_any (a : TAct) (hf : a.Fits) (w : World) (hG : GW w) :
    Calls Tryd.prog 11 #[.agg #[.int .i64 a.kind, .string ⟨a.name.toArray⟩, .int .i64 a.frm, .int .i64 a.til, .string ⟨a.text.toArray⟩, .int .i64 a.n, .int .i64 a.l1, .int .i64 a.l2, .int .i64 a.l3]] w fun e w' =>
      e = .returned (.tuple #[.string ⟨(lineOf a).toArray⟩, .int .i64 (lineErr a)]) ∧ Below w.heap.size w w' := by
  have HG := Lib.hid hG
  clear hG
  cases hk : known a.kind with
  | false =>
    have HL : Hid (lineErr a = 1) := by show _ = _; unfold lineErr; rw [if_pos hk]
    have HT : Hid (lineOf a = []) := by show _ = _; unfold lineOf; rw [HL.out]; rfl
    go_enter Tryd.func11, Tryd.ntmps11
    go_wp2_with (go_at_call 20; refine (known_any _ _).mono ?_; rintro e w' ⟨rfl, rfl⟩)
    go_ret2
    exact ⟨by rw [HL.out, HT.out]; rfl, (Below.refl _ _).alloc (Nat.le_refl _) _⟩
  | true =>
    obtain ⟨kind, name, frm, til, text, n, l1, l2, l3⟩ := a
    have hk' : 1 ≤ kind ∧ kind ≤ 7 := by simpa [known] using hk
    obtain ⟨m, rfl⟩ := Int.eq_ofNat_of_zero_le (show 0 ≤ kind by omega)
    have hm1 : 1 ≤ m := by omega
    have hm2 : m ≤ 7 := by omega
    have hm3 : (m : Int) < 8 := by omega
    have hm4 : 0 ≤ (m : Int) := by omega
    clear hk'
    have HK : Hid (known m = true) := hk
    have g1 : w.cell? ⟨0, m * 2, none⟩ = some (.string ⟨(wordOf m).toArray⟩) := by rw [HG.out.uses (m * 2) (by omega), tab_word m hm2]
    have g2 : w.cell? ⟨0, m * 2 + 1, none⟩ = some (.string ⟨(useOf m).toArray⟩) := by rw [HG.out.uses (m * 2 + 1) (by omega), tab_use m hm2]
    have hAs : ∀ k (h : k < (⟨(useOf m).toArray⟩ : ByteArray).size), ((⟨(useOf m).toArray⟩ : ByteArray)[k]'h).toNat < 128 := fun k h => use_ascii m hm2 k h
    have hSz : (⟨(useOf m).toArray⟩ : ByteArray).size ≤ 1000 := Nat.le_trans (use_size m hm2) (by decide)
    have hcall : ∀ wx, Calls Tryd.prog 25 #[.agg #[.int .i64 m, .string ⟨name.toArray⟩, .int .i64 frm, .int .i64 til, .string ⟨text.toArray⟩, .int .i64 n, .int .i64 l1, .int .i64 l2, .int .i64 l3], .string ⟨(useOf m).toArray⟩] wx fun e w' => e = .returned (.agg (cellsA (bare ⟨m, name, frm, til, text, n, l1, l2, l3⟩ (useOf m)))) ∧ Below wx.heap.size wx w' :=
      fun wx => bare_any ⟨m, name, frm, til, text, n, l1, l2, l3⟩ ⟨(useOf m).toArray⟩ hAs hSz wx
    have HBV : Hid (∃ BV, BV = bare ⟨m, name, frm, til, text, n, l1, l2, l3⟩ (useOf m)) := ⟨_, rfl⟩
    obtain ⟨BV, hBV⟩ := HBV.out
    rw [← hBV] at hcall
    have HC := Lib.hid hcall
    have HE := Lib.hid hBV
    clear hcall hBV hAs hSz HBV
    have hz : 0 < w.heap.size := by have := HG.out.size; omega
    go_enter Tryd.func11, Tryd.ntmps11
    go_wp2_with (go_at_call 20; refine (known_any _ _).mono ?_; rintro e w' ⟨rfl, rfl⟩)
    go_quiet (fail)
    go_wp2_with fail
    have hA : HasAct ((w.alloc (.cells #[.int .i64 m, .string ⟨name.toArray⟩, .int .i64 frm, .int .i64 til, .string ⟨text.toArray⟩, .int .i64 n, .int .i64 l1, .int .i64 l2, .int .i64 l3] 26)).drewN nq) w.heap.size ⟨m, name, frm, til, text, n, l1, l2, l3⟩ := heap_at w _ _ rfl
    have hB : Below w.heap.size w ((w.alloc (.cells #[.int .i64 m, .string ⟨name.toArray⟩, .int .i64 frm, .int .i64 til, .string ⟨text.toArray⟩, .int .i64 n, .int .i64 l1, .int .i64 l2, .int .i64 l3] 26)).drewN nq) := by
      have h := (Below.refl w.heap.size w).alloc (Nat.le_refl _) (.cells #[.int .i64 m, .string ⟨name.toArray⟩, .int .i64 frm, .int .i64 til, .string ⟨text.toArray⟩, .int .i64 n, .int .i64 l1, .int .i64 l2, .int .i64 l3] 26)
      exact ⟨h.os, h.tape, h.output, h.size, h.block⟩
    generalize ((w.alloc (.cells #[.int .i64 m, .string ⟨name.toArray⟩, .int .i64 frm, .int .i64 til, .string ⟨text.toArray⟩, .int .i64 n, .int .i64 l1, .int .i64 l2, .int .i64 l3] 26)).drewN nq) = W1 at *
    have hlt := hA.lt
    have HA := Lib.hid hA
    have c0 := hA.cell 0
    have c1 := hA.cell 1
    have c2 := hA.cell 2
    have c3 := hA.cell 3
    have c4 := hA.cell 4
    have c5 := hA.cell 5
    have c6 := hA.cell 6
    have c7 := hA.cell 7
    have c8 := hA.cell 8
    simp only [cellsA, List.getElem?_toArray, List.getElem?_cons_zero, List.getElem?_cons_succ] at c0 c1 c2 c3 c4 c5 c6 c7 c8
    clear hA
    by_cases hAB : (⟨m, name, frm, til, text, n, l1, l2, l3⟩ : TAct) = BV
    rotate_left
    · have hne : ∀ wx, Sem.run Tryd.prog (binOp .neq 26 (.agg #[.int .i64 m, .string ⟨name.toArray⟩, .int .i64 frm, .int .i64 til, .string ⟨text.toArray⟩, .int .i64 n, .int .i64 l1, .int .i64 l2, .int .i64 l3]) (.agg (cellsA BV))) wx = .ok (.bool true) wx := fun wx => by
        rw [neq_act ⟨m, name, frm, til, text, n, l1, l2, l3⟩ BV wx, show actNe ⟨m, name, frm, til, text, n, l1, l2, l3⟩ BV = true from decide_eq_true hAB]
      have HAB := Lib.hid hAB
      clear hAB
      go_region_held3 (fun w' => w'.cell? ⟨w.heap.size, 0, none⟩ = some (.int .i64 m) ∧ w'.cell? ⟨w.heap.size, 1, none⟩ = some (.string ⟨name.toArray⟩) ∧ w'.cell? ⟨w.heap.size, 2, none⟩ = some (.int .i64 frm) ∧ w'.cell? ⟨w.heap.size, 3, none⟩ = some (.int .i64 til) ∧ w'.cell? ⟨w.heap.size, 4, none⟩ = some (.string ⟨text.toArray⟩) ∧ w'.cell? ⟨w.heap.size, 5, none⟩ = some (.int .i64 n) ∧ w'.cell? ⟨w.heap.size, 6, none⟩ = some (.int .i64 l1) ∧ w'.cell? ⟨w.heap.size, 7, none⟩ = some (.int .i64 l2) ∧ w'.cell? ⟨w.heap.size, 8, none⟩ = some (.int .i64 l3)) (first | go_keep | (refine ⟨?_, ?_, ?_, ?_, ?_, ?_, ?_, ?_, ?_⟩ <;> (rw [hb1.cell (by exact hlt)]; assumption))) ((go_at_call 25; refine (HC.out _).mono ?_; rintro e w1 ⟨rfl, hb1⟩))
      go_wp2_with fail
      go_ret2
      have HLE : Hid (lineErr ⟨m, name, frm, til, text, n, l1, l2, l3⟩ = 1) := by
        show _ = _
        unfold lineErr; rw [if_neg (by simp [HK.out]), if_pos (by rw [← HE.out]; exact HAB.out)]
      refine ⟨?_, hB.drew.trans (hb1.mono hB.size)⟩
      rw [HLE.out, lineOf_err _ (by rw [HLE.out]; decide)]; rfl
    · have hne : ∀ wx, Sem.run Tryd.prog (binOp .neq 26 (.agg #[.int .i64 m, .string ⟨name.toArray⟩, .int .i64 frm, .int .i64 til, .string ⟨text.toArray⟩, .int .i64 n, .int .i64 l1, .int .i64 l2, .int .i64 l3]) (.agg (cellsA BV))) wx = .ok (.bool false) wx := fun wx => by
        rw [neq_act ⟨m, name, frm, til, text, n, l1, l2, l3⟩ BV wx, show actNe ⟨m, name, frm, til, text, n, l1, l2, l3⟩ BV = false from decide_eq_false (fun h => h hAB)]
      have HAB := Lib.hid hAB
      clear hAB
      go_region_held3 (fun w' => w'.cell? ⟨w.heap.size, 0, none⟩ = some (.int .i64 m) ∧ w'.cell? ⟨w.heap.size, 1, none⟩ = some (.string ⟨name.toArray⟩) ∧ w'.cell? ⟨w.heap.size, 2, none⟩ = some (.int .i64 frm) ∧ w'.cell? ⟨w.heap.size, 3, none⟩ = some (.int .i64 til) ∧ w'.cell? ⟨w.heap.size, 4, none⟩ = some (.string ⟨text.toArray⟩) ∧ w'.cell? ⟨w.heap.size, 5, none⟩ = some (.int .i64 n) ∧ w'.cell? ⟨w.heap.size, 6, none⟩ = some (.int .i64 l1) ∧ w'.cell? ⟨w.heap.size, 7, none⟩ = some (.int .i64 l2) ∧ w'.cell? ⟨w.heap.size, 8, none⟩ = some (.int .i64 l3)) (first | go_keep | (refine ⟨?_, ?_, ?_, ?_, ?_, ?_, ?_, ?_, ?_⟩ <;> (rw [hb1.cell (by exact hlt)]; assumption))) ((go_at_call 25; refine (HC.out _).mono ?_; rintro e w1 ⟨rfl, hb1⟩))
      have hB1 : Below w.heap.size w w1 := hB.drew.trans (hb1.mono hB.size)
      have HA1 : Hid (HasAct w1 w.heap.size ⟨m, name, frm, til, text, n, l1, l2, l3⟩) := HA.out.below (w := W1.drew) hb1 hlt
      have HG1 := Lib.hid (HG.out.below hB1)
      have HB1 := Lib.hid hB1
      have hlt1 : w.heap.size < w1.heap.size := HA1.out.lt
      clear hb1 hB1 hne c0 c1 c2 c3 c4 c5 c6 c7 c8 HA hlt HC hB hz g1 g2
      have c1 := HA1.out.cell 1
      have c4 := HA1.out.cell 4
      simp only [cellsA, List.getElem?_toArray, List.getElem?_cons_zero, List.getElem?_cons_succ] at c1 c4
      cases hct : (useOf m).contains 110 with
      | false =>
        have HCT := Lib.hid hct
        clear hct
        have HLE : Hid (lineErr ⟨m, name, frm, til, text, n, l1, l2, l3⟩ = if 4096 < text.length then 2 else 0) := by
          show _ = _
          unfold lineErr; rw [if_neg (by simp [HK.out]), if_neg (by rw [← HE.out]; simpa using HAB.out), HCT.out]; rfl
        have HBW := HB1
        have HAW := HA1
        have HGW := HG1
        have HQ := Lib.hid (fun wx => contains_any m hm2 wx)
        by_cases hln : 4096 < text.length
        · have hln' : 4096 < (text.length : Int) := by omega
          have HLN : Hid (lineErr ⟨m, name, frm, til, text, n, l1, l2, l3⟩ = 2) := by show _ = _; rw [HLE.out, if_pos hln]
          clear hln
          go_wp2_with (first | (go_at_call 26; refine (HQ.out _ HG1.out).mono ?_; rw [HCT.out]; rintro e w' ⟨rfl, rfl⟩))
          go_ret2
          refine ⟨?_, HBW.out⟩
          rw [HLN.out, lineOf_err _ (by rw [HLN.out]; decide)]; rfl
        · have hln' : (text.length : Int) ≤ 4096 := by omega
          have HLN : Hid (lineErr ⟨m, name, frm, til, text, n, l1, l2, l3⟩ = 0) := by show _ = _; rw [HLE.out, if_neg hln]
          clear hln
          go_wp2_with (first | (go_at_call 26; refine (HQ.out _ HG1.out).mono ?_; rw [HCT.out]; rintro e w' ⟨rfl, rfl⟩))
          have HS0 := line_start HAW.out ⟨(useOf m).toArray⟩ HBW.out hlt1
          generalize hI : w1.heap.size = I at *
          have hBI : w.heap.size < I := by rw [← hI]; exact HAW.out.lt
          clear hI
          have htl : text.length ≤ 4096 := by omega
          have hnl : name.length ≤ 100000 := hf.name
          have HQt : Hid (∃ QT : Bs, QT.length ≤ 20000 ∧ QT = quote text ∧ ∀ wx, Calls Tryd.prog 28 #[.string ⟨text.toArray⟩] wx fun e w' => e = .returned (.string ⟨QT.toArray⟩) ∧ Below wx.heap.size wx w') :=
            ⟨quote text, by have := quote_len text; omega, rfl, fun wx => quote_any ⟨text.toArray⟩ wx (by show text.toArray.size ≤ _; simp; omega)⟩
          obtain ⟨QT, hqt1, hqt2, hqt3⟩ := HQt.out
          have HQ1 := Lib.hid hqt2
          have HQ2 := Lib.hid hqt3
          clear hqt2 hqt3 HQt
          have HXfrm : Hid (∃ S : Bs, S.length ≤ 20 ∧ S = Lib.itoa frm ∧ ∀ wx, Below w.heap.size w wx → Calls Tryd.prog 29 #[.int .i64 frm] wx fun e w' => e = .returned (.string ⟨S.toArray⟩) ∧ Below wx.heap.size wx w') :=
            ⟨Lib.itoa frm, itoa_len _ hf.frm.1 hf.frm.2, rfl, fun wx hb => itoa_any _ hf.frm.1 hf.frm.2 wx (HG.out.below hb)⟩
          obtain ⟨Sfrm, hsfrm1, hsfrm2, hsfrm3⟩ := HXfrm.out
          have HIfrm := Lib.hid hsfrm2
          have HJfrm := Lib.hid hsfrm3
          clear hsfrm2 hsfrm3 HXfrm
          have HXtil : Hid (∃ S : Bs, S.length ≤ 20 ∧ S = Lib.itoa til ∧ ∀ wx, Below w.heap.size w wx → Calls Tryd.prog 29 #[.int .i64 til] wx fun e w' => e = .returned (.string ⟨S.toArray⟩) ∧ Below wx.heap.size wx w') :=
            ⟨Lib.itoa til, itoa_len _ hf.til.1 hf.til.2, rfl, fun wx hb => itoa_any _ hf.til.1 hf.til.2 wx (HG.out.below hb)⟩
          obtain ⟨Stil, hstil1, hstil2, hstil3⟩ := HXtil.out
          have HItil := Lib.hid hstil2
          have HJtil := Lib.hid hstil3
          clear hstil2 hstil3 HXtil
          have HXn : Hid (∃ S : Bs, S.length ≤ 20 ∧ S = Lib.itoa n ∧ ∀ wx, Below w.heap.size w wx → Calls Tryd.prog 29 #[.int .i64 n] wx fun e w' => e = .returned (.string ⟨S.toArray⟩) ∧ Below wx.heap.size wx w') :=
            ⟨Lib.itoa n, itoa_len _ hf.n.1 hf.n.2, rfl, fun wx hb => itoa_any _ hf.n.1 hf.n.2 wx (HG.out.below hb)⟩
          obtain ⟨Sn, hsn1, hsn2, hsn3⟩ := HXn.out
          have HIn := Lib.hid hsn2
          have HJn := Lib.hid hsn3
          clear hsn2 hsn3 HXn
          have HXl1 : Hid (∃ S : Bs, S.length ≤ 20 ∧ S = Lib.itoa l1 ∧ ∀ wx, Below w.heap.size w wx → Calls Tryd.prog 29 #[.int .i64 l1] wx fun e w' => e = .returned (.string ⟨S.toArray⟩) ∧ Below wx.heap.size wx w') :=
            ⟨Lib.itoa l1, itoa_len _ hf.l1.1 hf.l1.2, rfl, fun wx hb => itoa_any _ hf.l1.1 hf.l1.2 wx (HG.out.below hb)⟩
          obtain ⟨Sl1, hsl11, hsl12, hsl13⟩ := HXl1.out
          have HIl1 := Lib.hid hsl12
          have HJl1 := Lib.hid hsl13
          clear hsl12 hsl13 HXl1
          have HXl2 : Hid (∃ S : Bs, S.length ≤ 20 ∧ S = Lib.itoa l2 ∧ ∀ wx, Below w.heap.size w wx → Calls Tryd.prog 29 #[.int .i64 l2] wx fun e w' => e = .returned (.string ⟨S.toArray⟩) ∧ Below wx.heap.size wx w') :=
            ⟨Lib.itoa l2, itoa_len _ hf.l2.1 hf.l2.2, rfl, fun wx hb => itoa_any _ hf.l2.1 hf.l2.2 wx (HG.out.below hb)⟩
          obtain ⟨Sl2, hsl21, hsl22, hsl23⟩ := HXl2.out
          have HIl2 := Lib.hid hsl22
          have HJl2 := Lib.hid hsl23
          clear hsl22 hsl23 HXl2
          have HXl3 : Hid (∃ S : Bs, S.length ≤ 20 ∧ S = Lib.itoa l3 ∧ ∀ wx, Below w.heap.size w wx → Calls Tryd.prog 29 #[.int .i64 l3] wx fun e w' => e = .returned (.string ⟨S.toArray⟩) ∧ Below wx.heap.size wx w') :=
            ⟨Lib.itoa l3, itoa_len _ hf.l3.1 hf.l3.2, rfl, fun wx hb => itoa_any _ hf.l3.1 hf.l3.2 wx (HG.out.below hb)⟩
          obtain ⟨Sl3, hsl31, hsl32, hsl33⟩ := HXl3.out
          have HIl3 := Lib.hid hsl32
          have HJl3 := Lib.hid hsl33
          clear hsl32 hsl33 HXl3
          go_loopw [4] (fun v wr => ∃ (pos : Nat) (t : ByteArray), pos ≤ (⟨(useOf m).toArray⟩ : ByteArray).size ∧ v = .string t ∧ t.size ≤ 10 + pos * 200000 ∧ Hid (LSoFar ⟨m, name, frm, til, text, n, l1, l2, l3⟩ m pos t) ∧ LineW w.heap.size I w ⟨m, name, frm, til, text, n, l1, l2, l3⟩ ⟨(useOf m).toArray⟩ pos wr) (fun _ wr => (⟨(useOf m).toArray⟩ : ByteArray).size - wr.iterPos I)
          case atStart =>
            exact ⟨0, _, by omega, rfl, word_size m hm2, Lib.hid (by unfold LSoFar; simp), HS0⟩
          case round =>
            obtain ⟨pos, t, hpos, rfl, ht, hso, hW⟩ := hrel
            have hps : pos ≤ 4 := Nat.le_trans hpos (use_size m hm2)
            by_cases hp : pos < (⟨(useOf m).toArray⟩ : ByteArray).size
            · have hnx : ∀ ty, (Instr.next (.pointer (some ⟨I, 0, none⟩)) true ty).run Tryd.prog wr = _ := fun ty => Lib.run_next_ascii_at wr I ⟨(useOf m).toArray⟩ pos ty hW.hi hp (use_ascii m hm2 pos hp)
              have hW2 := hW.next hBI (pos + 1)
              have h5 : (⟨(useOf m).toArray⟩ : ByteArray)[pos] = 108 := use_limits m hm2 hm1 HCT.out pos hp
              have q0 : (((⟨(useOf m).toArray⟩ : ByteArray)[pos].toNat : Int) == 110) = false := by rw [h5]; rfl
              have q1 : (((⟨(useOf m).toArray⟩ : ByteArray)[pos].toNat : Int) == 116) = false := by rw [h5]; rfl
              have q2 : (((⟨(useOf m).toArray⟩ : ByteArray)[pos].toNat : Int) == 102) = false := by rw [h5]; rfl
              have q3 : (((⟨(useOf m).toArray⟩ : ByteArray)[pos].toNat : Int) == 111) = false := by rw [h5]; rfl
              have q4 : (((⟨(useOf m).toArray⟩ : ByteArray)[pos].toNat : Int) == 117) = false := by rw [h5]; rfl
              have q5 : (((⟨(useOf m).toArray⟩ : ByteArray)[pos].toNat : Int) == 108) = true := by rw [h5]; rfl
              have H0 := Lib.hid h5
              clear h5
              have c6 := hW2.ha.cell 6
              rw [show (cellsA ⟨m, name, frm, til, text, n, l1, l2, l3⟩)[6]? = some (.int .i64 l1) from rfl] at c6
              have c7 := hW2.ha.cell 7
              rw [show (cellsA ⟨m, name, frm, til, text, n, l1, l2, l3⟩)[7]? = some (.int .i64 l2) from rfl] at c7
              have c8 := hW2.ha.cell 8
              rw [show (cellsA ⟨m, name, frm, til, text, n, l1, l2, l3⟩)[8]? = some (.int .i64 l3) from rfl] at c8
              have hbw := Lib.hid hW2.hb
              have hl2 : w.heap.size < (wr.iterAt I (⟨(useOf m).toArray⟩ : ByteArray) (pos + 1)).heap.size := hW2.ha.lt
              have z1 : ¬ (9223372036854775807 < 1 + Sl1.length) := by omega
              have z2 : ¬ (9223372036854775807 < 1 + Sl1.length + 1) := by omega
              have z3 : ¬ (9223372036854775807 < 1 + Sl1.length + 1 + Sl2.length) := by omega
              have z4 : ¬ (9223372036854775807 < 1 + Sl1.length + 1 + Sl2.length + 1) := by omega
              have z5 : ¬ (9223372036854775807 < 1 + Sl1.length + 1 + Sl2.length + 1 + Sl3.length) := by omega
              have z6 : ¬ (9223372036854775807 < t.size + (1 + Sl1.length + 1 + Sl2.length + 1 + Sl3.length)) := by omega
              go_wp2_with fail
              go_region_held3 (fun w' => w'.cell? ⟨w.heap.size, 6, none⟩ = some (.int .i64 l1) ∧ w'.cell? ⟨w.heap.size, 7, none⟩ = some (.int .i64 l2) ∧ w'.cell? ⟨w.heap.size, 8, none⟩ = some (.int .i64 l3)) (first | go_keep | (go_split_ands; refine ⟨?_, ?_, ?_⟩ <;> (rw [hba.cell (by exact hl2)]; assumption)) | (go_split_ands; refine ⟨?_, ?_, ?_⟩ <;> (rw [hbb.cell (by exact Nat.lt_of_lt_of_le hl2 hba.size)]; assumption)) | (go_split_ands; refine ⟨?_, ?_, ?_⟩ <;> (rw [hbc.cell (by exact Nat.lt_of_lt_of_le hl2 (Nat.le_trans hba.size hbb.size))]; assumption))) (first | (go_at_call 29; ((with_reducible refine Calls.mono (HJl1.out _ ?_) ?_); (exact hbw.out.drew); rintro e wa ⟨rfl, hba⟩)) | (go_at_call 29; ((with_reducible refine Calls.mono (HJl2.out _ ?_) ?_); (exact hbw.out.drew.trans (hba.mono hbw.out.size)); rintro e wb ⟨rfl, hbb⟩)) | (go_at_call 29; ((with_reducible refine Calls.mono (HJl3.out _ ?_) ?_); (exact (hbw.out.drew.trans (hba.mono hbw.out.size)).trans (hbb.mono (Nat.le_trans hbw.out.size hba.size))); rintro e wc ⟨rfl, hbc⟩)))
              all_goals
                go_wp2_with fail
                have hW3 := (((LineW.drew hW2).below hba).below hbb).below hbc
                refine ⟨⟨pos + 1, _, by omega, rfl, ?_, Lib.hid (lsofar_step 108 hp H0.out hso.out (by simp [tell, HIl1.out, HIl2.out, HIl3.out])), hW3⟩, by simp only [World.iterPos, hW3.hi, hW.hi]; omega⟩
                simp only [ByteArray.size_append, arr_size, one_size, List.length_cons, List.length_nil]; omega
            · have hnx : ∀ ty, (Instr.next (.pointer (some ⟨I, 0, none⟩)) true ty).run Tryd.prog wr = _ := fun ty => Lib.run_next_end_at wr I ⟨(useOf m).toArray⟩ pos ty hW.hi hp
              have HF : Hid (lineOf ⟨m, name, frm, til, text, n, l1, l2, l3⟩ = t.data.toList) := by
                show _ = _
                have h4 := hso.out
                unfold LSoFar at h4
                unfold lineOf lineText
                rw [if_pos HLN.out, h4, List.take_of_length_le (by have h5 : (⟨(useOf m).toArray⟩ : ByteArray).size = (useOf m).length := by show (useOf m).toArray.size = _; simp
                                                                   omega)]
              go_wp2
              go_ret2
              refine ⟨?_, hW.hb⟩
              rw [HLN.out]
              exact tup_ret (by rw [HF.out])
      | true =>
        have HCT := Lib.hid hct
        clear hct
        cases hnm : nameOk name with
        | false =>
          have HNM := Lib.hid hnm
          clear hnm
          have HLE : Hid (lineErr ⟨m, name, frm, til, text, n, l1, l2, l3⟩ = 1) := by
            show _ = _
            unfold lineErr; rw [if_neg (by simp [HK.out]), if_neg (by rw [← HE.out]; simpa using HAB.out), HCT.out, if_pos (by simp [HNM.out])]
          have HQ := Lib.hid (fun wx => contains_any m hm2 wx)
          have HN := Lib.hid (fun wx hg => name_any ⟨name.toArray⟩ wx hg (by show name.toArray.size ≤ _; have h3 : name.length ≤ 100000 := hf.name; simp; omega))
          go_wp2_with (first | (go_at_call 26; refine (HQ.out _ HG1.out).mono ?_; rw [HCT.out]; rintro e w' ⟨rfl, rfl⟩) | (go_at_call 27; refine (HN.out _ HG1.out).mono ?_; rw [HNM.out]; rintro e w2 ⟨rfl, hb2⟩))
          go_ret2
          refine ⟨?_, HB1.out.trans (hb2.mono HB1.out.size)⟩
          rw [HLE.out, lineOf_err _ (by rw [HLE.out]; decide)]; rfl
        | true =>
          have HNM := Lib.hid hnm
          clear hnm
          have HLE : Hid (lineErr ⟨m, name, frm, til, text, n, l1, l2, l3⟩ = if 4096 < text.length then 2 else 0) := by
            show _ = _
            unfold lineErr; rw [if_neg (by simp [HK.out]), if_neg (by rw [← HE.out]; simpa using HAB.out), HCT.out, if_neg (by simp [HNM.out])]
          have HQ := Lib.hid (fun wx => contains_any m hm2 wx)
          have HN := Lib.hid (fun wx hg => name_any ⟨name.toArray⟩ wx hg (by show name.toArray.size ≤ _; have h3 : name.length ≤ 100000 := hf.name; simp; omega))
          by_cases hln : 4096 < text.length
          · have hln' : 4096 < (text.length : Int) := by omega
            have HLN : Hid (lineErr ⟨m, name, frm, til, text, n, l1, l2, l3⟩ = 2) := by show _ = _; rw [HLE.out, if_pos hln]
            clear hln
            go_wp2_with (first | (go_at_call 26; refine (HQ.out _ HG1.out).mono ?_; rw [HCT.out]; rintro e w' ⟨rfl, rfl⟩) | (go_at_call 27; refine (HN.out _ HG1.out).mono ?_; rw [HNM.out]; rintro e w2 ⟨rfl, hb2⟩; have c4w := (hb2.cell (p := ⟨w.heap.size, 4, none⟩) hlt1).trans c4))
            go_ret2
            refine ⟨?_, HB1.out.trans (hb2.mono HB1.out.size)⟩
            rw [HLN.out, lineOf_err _ (by rw [HLN.out]; decide)]; rfl
          · have hln' : (text.length : Int) ≤ 4096 := by omega
            have HLN : Hid (lineErr ⟨m, name, frm, til, text, n, l1, l2, l3⟩ = 0) := by show _ = _; rw [HLE.out, if_neg hln]
            clear hln
            go_wp2_with (first | (go_at_call 26; refine (HQ.out _ HG1.out).mono ?_; rw [HCT.out]; rintro e w' ⟨rfl, rfl⟩) | (go_at_call 27; refine (HN.out _ HG1.out).mono ?_; rw [HNM.out]; rintro e w2 ⟨rfl, hb2⟩; have c4w := (hb2.cell (p := ⟨w.heap.size, 4, none⟩) hlt1).trans c4))
            have HBW := Lib.hid (HB1.out.trans (hb2.mono HB1.out.size))
            have HAW := Lib.hid (HA1.out.below hb2 HA1.out.lt)
            have hlt1' : w.heap.size < w2.heap.size := HAW.out.lt
            clear hlt1
            have hlt1 := hlt1'
            clear hlt1' hb2 HB1 HA1 HG1 c1 c4 c4w
            have HS0 := line_start HAW.out ⟨(useOf m).toArray⟩ HBW.out hlt1
            generalize hI : w2.heap.size = I at *
            have hBI : w.heap.size < I := by rw [← hI]; exact HAW.out.lt
            clear hI
            have htl : text.length ≤ 4096 := by omega
            have hnl : name.length ≤ 100000 := hf.name
            have HQt : Hid (∃ QT : Bs, QT.length ≤ 20000 ∧ QT = quote text ∧ ∀ wx, Calls Tryd.prog 28 #[.string ⟨text.toArray⟩] wx fun e w' => e = .returned (.string ⟨QT.toArray⟩) ∧ Below wx.heap.size wx w') :=
              ⟨quote text, by have := quote_len text; omega, rfl, fun wx => quote_any ⟨text.toArray⟩ wx (by show text.toArray.size ≤ _; simp; omega)⟩
            obtain ⟨QT, hqt1, hqt2, hqt3⟩ := HQt.out
            have HQ1 := Lib.hid hqt2
            have HQ2 := Lib.hid hqt3
            clear hqt2 hqt3 HQt
            have HXfrm : Hid (∃ S : Bs, S.length ≤ 20 ∧ S = Lib.itoa frm ∧ ∀ wx, Below w.heap.size w wx → Calls Tryd.prog 29 #[.int .i64 frm] wx fun e w' => e = .returned (.string ⟨S.toArray⟩) ∧ Below wx.heap.size wx w') :=
              ⟨Lib.itoa frm, itoa_len _ hf.frm.1 hf.frm.2, rfl, fun wx hb => itoa_any _ hf.frm.1 hf.frm.2 wx (HG.out.below hb)⟩
            obtain ⟨Sfrm, hsfrm1, hsfrm2, hsfrm3⟩ := HXfrm.out
            have HIfrm := Lib.hid hsfrm2
            have HJfrm := Lib.hid hsfrm3
            clear hsfrm2 hsfrm3 HXfrm
            have HXtil : Hid (∃ S : Bs, S.length ≤ 20 ∧ S = Lib.itoa til ∧ ∀ wx, Below w.heap.size w wx → Calls Tryd.prog 29 #[.int .i64 til] wx fun e w' => e = .returned (.string ⟨S.toArray⟩) ∧ Below wx.heap.size wx w') :=
              ⟨Lib.itoa til, itoa_len _ hf.til.1 hf.til.2, rfl, fun wx hb => itoa_any _ hf.til.1 hf.til.2 wx (HG.out.below hb)⟩
            obtain ⟨Stil, hstil1, hstil2, hstil3⟩ := HXtil.out
            have HItil := Lib.hid hstil2
            have HJtil := Lib.hid hstil3
            clear hstil2 hstil3 HXtil
            have HXn : Hid (∃ S : Bs, S.length ≤ 20 ∧ S = Lib.itoa n ∧ ∀ wx, Below w.heap.size w wx → Calls Tryd.prog 29 #[.int .i64 n] wx fun e w' => e = .returned (.string ⟨S.toArray⟩) ∧ Below wx.heap.size wx w') :=
              ⟨Lib.itoa n, itoa_len _ hf.n.1 hf.n.2, rfl, fun wx hb => itoa_any _ hf.n.1 hf.n.2 wx (HG.out.below hb)⟩
            obtain ⟨Sn, hsn1, hsn2, hsn3⟩ := HXn.out
            have HIn := Lib.hid hsn2
            have HJn := Lib.hid hsn3
            clear hsn2 hsn3 HXn
            have HXl1 : Hid (∃ S : Bs, S.length ≤ 20 ∧ S = Lib.itoa l1 ∧ ∀ wx, Below w.heap.size w wx → Calls Tryd.prog 29 #[.int .i64 l1] wx fun e w' => e = .returned (.string ⟨S.toArray⟩) ∧ Below wx.heap.size wx w') :=
              ⟨Lib.itoa l1, itoa_len _ hf.l1.1 hf.l1.2, rfl, fun wx hb => itoa_any _ hf.l1.1 hf.l1.2 wx (HG.out.below hb)⟩
            obtain ⟨Sl1, hsl11, hsl12, hsl13⟩ := HXl1.out
            have HIl1 := Lib.hid hsl12
            have HJl1 := Lib.hid hsl13
            clear hsl12 hsl13 HXl1
            have HXl2 : Hid (∃ S : Bs, S.length ≤ 20 ∧ S = Lib.itoa l2 ∧ ∀ wx, Below w.heap.size w wx → Calls Tryd.prog 29 #[.int .i64 l2] wx fun e w' => e = .returned (.string ⟨S.toArray⟩) ∧ Below wx.heap.size wx w') :=
              ⟨Lib.itoa l2, itoa_len _ hf.l2.1 hf.l2.2, rfl, fun wx hb => itoa_any _ hf.l2.1 hf.l2.2 wx (HG.out.below hb)⟩
            obtain ⟨Sl2, hsl21, hsl22, hsl23⟩ := HXl2.out
            have HIl2 := Lib.hid hsl22
            have HJl2 := Lib.hid hsl23
            clear hsl22 hsl23 HXl2
            have HXl3 : Hid (∃ S : Bs, S.length ≤ 20 ∧ S = Lib.itoa l3 ∧ ∀ wx, Below w.heap.size w wx → Calls Tryd.prog 29 #[.int .i64 l3] wx fun e w' => e = .returned (.string ⟨S.toArray⟩) ∧ Below wx.heap.size wx w') :=
              ⟨Lib.itoa l3, itoa_len _ hf.l3.1 hf.l3.2, rfl, fun wx hb => itoa_any _ hf.l3.1 hf.l3.2 wx (HG.out.below hb)⟩
            obtain ⟨Sl3, hsl31, hsl32, hsl33⟩ := HXl3.out
            have HIl3 := Lib.hid hsl32
            have HJl3 := Lib.hid hsl33
            clear hsl32 hsl33 HXl3
            go_loopw [4] (fun v wr => ∃ (pos : Nat) (t : ByteArray), pos ≤ (⟨(useOf m).toArray⟩ : ByteArray).size ∧ v = .string t ∧ t.size ≤ 10 + pos * 200000 ∧ Hid (LSoFar ⟨m, name, frm, til, text, n, l1, l2, l3⟩ m pos t) ∧ LineW w.heap.size I w ⟨m, name, frm, til, text, n, l1, l2, l3⟩ ⟨(useOf m).toArray⟩ pos wr) (fun _ wr => (⟨(useOf m).toArray⟩ : ByteArray).size - wr.iterPos I)
            case atStart =>
              exact ⟨0, _, by omega, rfl, word_size m hm2, Lib.hid (by unfold LSoFar; simp), HS0⟩
            case round =>
              obtain ⟨pos, t, hpos, rfl, ht, hso, hW⟩ := hrel
              have hps : pos ≤ 4 := Nat.le_trans hpos (use_size m hm2)
              by_cases hp : pos < (⟨(useOf m).toArray⟩ : ByteArray).size
              · have hnx : ∀ ty, (Instr.next (.pointer (some ⟨I, 0, none⟩)) true ty).run Tryd.prog wr = _ := fun ty => Lib.run_next_ascii_at wr I ⟨(useOf m).toArray⟩ pos ty hW.hi hp (use_ascii m hm2 pos hp)
                have hW2 := hW.next hBI (pos + 1)
                by_cases h0 : (⟨(useOf m).toArray⟩ : ByteArray)[pos] = 110
                · have q0 : (((⟨(useOf m).toArray⟩ : ByteArray)[pos].toNat : Int) == 110) = true := by rw [h0]; rfl
                  have c1 := hW2.ha.cell 1
                  rw [show (cellsA ⟨m, name, frm, til, text, n, l1, l2, l3⟩)[1]? = some (.string ⟨name.toArray⟩) from rfl] at c1
                  have H0 := Lib.hid h0
                  clear h0
                  go_wp2
                  refine ⟨⟨pos + 1, _, by omega, rfl, ?_, Lib.hid (lsofar_step 110 hp H0.out hso.out (by simp [tell])), hW2⟩, by simp only [World.iterPos, hW2.hi, hW.hi]; omega⟩
                  simp only [ByteArray.size_append, arr_size, one_size, List.length_cons, List.length_nil]; omega
                have q0 : (((⟨(useOf m).toArray⟩ : ByteArray)[pos].toNat : Int) == 110) = false := by rw [beq_eq_false_iff_ne]; intro h; exact h0 (by rw [← UInt8.toNat_inj]; simp; omega)
                by_cases h1 : (⟨(useOf m).toArray⟩ : ByteArray)[pos] = 116
                · have q1 : (((⟨(useOf m).toArray⟩ : ByteArray)[pos].toNat : Int) == 116) = true := by rw [h1]; rfl
                  have c4 := hW2.ha.cell 4
                  rw [show (cellsA ⟨m, name, frm, til, text, n, l1, l2, l3⟩)[4]? = some (.string ⟨text.toArray⟩) from rfl] at c4
                  have H0 := Lib.hid h1
                  clear h1
                  go_wp2_with (go_at_call 28; refine (HQ2.out _).mono ?_; rintro e w5 ⟨rfl, hb5⟩)
                  have hW3 := hW2.below hb5
                  refine ⟨⟨pos + 1, _, by omega, rfl, ?_, Lib.hid (lsofar_step 116 hp H0.out hso.out (by simp [tell, HQ1.out])), hW3⟩, by simp only [World.iterPos, hW3.hi, hW.hi]; omega⟩
                  simp only [ByteArray.size_append, arr_size, one_size, List.length_cons, List.length_nil]; omega
                have q1 : (((⟨(useOf m).toArray⟩ : ByteArray)[pos].toNat : Int) == 116) = false := by rw [beq_eq_false_iff_ne]; intro h; exact h1 (by rw [← UInt8.toNat_inj]; simp; omega)
                by_cases h2 : (⟨(useOf m).toArray⟩ : ByteArray)[pos] = 102
                · have q2 : (((⟨(useOf m).toArray⟩ : ByteArray)[pos].toNat : Int) == 102) = true := by rw [h2]; rfl
                  have c2 := hW2.ha.cell 2
                  rw [show (cellsA ⟨m, name, frm, til, text, n, l1, l2, l3⟩)[2]? = some (.int .i64 frm) from rfl] at c2
                  have H0 := Lib.hid h2
                  clear h2
                  have hbw := Lib.hid hW2.hb
                  go_wp2_with (go_at_call 29; refine (HJfrm.out _ hbw.out).mono ?_; rintro e w5 ⟨rfl, hb5⟩)
                  have hW3 := hW2.below hb5
                  refine ⟨⟨pos + 1, _, by omega, rfl, ?_, Lib.hid (lsofar_step 102 hp H0.out hso.out (by simp [tell, HIfrm.out])), hW3⟩, by simp only [World.iterPos, hW3.hi, hW.hi]; omega⟩
                  simp only [ByteArray.size_append, arr_size, one_size, List.length_cons, List.length_nil]; omega
                have q2 : (((⟨(useOf m).toArray⟩ : ByteArray)[pos].toNat : Int) == 102) = false := by rw [beq_eq_false_iff_ne]; intro h; exact h2 (by rw [← UInt8.toNat_inj]; simp; omega)
                by_cases h3 : (⟨(useOf m).toArray⟩ : ByteArray)[pos] = 111
                · have q3 : (((⟨(useOf m).toArray⟩ : ByteArray)[pos].toNat : Int) == 111) = true := by rw [h3]; rfl
                  have c3 := hW2.ha.cell 3
                  rw [show (cellsA ⟨m, name, frm, til, text, n, l1, l2, l3⟩)[3]? = some (.int .i64 til) from rfl] at c3
                  have H0 := Lib.hid h3
                  clear h3
                  have hbw := Lib.hid hW2.hb
                  go_wp2_with (go_at_call 29; refine (HJtil.out _ hbw.out).mono ?_; rintro e w5 ⟨rfl, hb5⟩)
                  have hW3 := hW2.below hb5
                  refine ⟨⟨pos + 1, _, by omega, rfl, ?_, Lib.hid (lsofar_step 111 hp H0.out hso.out (by simp [tell, HItil.out])), hW3⟩, by simp only [World.iterPos, hW3.hi, hW.hi]; omega⟩
                  simp only [ByteArray.size_append, arr_size, one_size, List.length_cons, List.length_nil]; omega
                have q3 : (((⟨(useOf m).toArray⟩ : ByteArray)[pos].toNat : Int) == 111) = false := by rw [beq_eq_false_iff_ne]; intro h; exact h3 (by rw [← UInt8.toNat_inj]; simp; omega)
                by_cases h4 : (⟨(useOf m).toArray⟩ : ByteArray)[pos] = 117
                · have q4 : (((⟨(useOf m).toArray⟩ : ByteArray)[pos].toNat : Int) == 117) = true := by rw [h4]; rfl
                  have c5 := hW2.ha.cell 5
                  rw [show (cellsA ⟨m, name, frm, til, text, n, l1, l2, l3⟩)[5]? = some (.int .i64 n) from rfl] at c5
                  have H0 := Lib.hid h4
                  clear h4
                  have hbw := Lib.hid hW2.hb
                  go_wp2_with (go_at_call 29; refine (HJn.out _ hbw.out).mono ?_; rintro e w5 ⟨rfl, hb5⟩)
                  have hW3 := hW2.below hb5
                  refine ⟨⟨pos + 1, _, by omega, rfl, ?_, Lib.hid (lsofar_step 117 hp H0.out hso.out (by simp [tell, HIn.out])), hW3⟩, by simp only [World.iterPos, hW3.hi, hW.hi]; omega⟩
                  simp only [ByteArray.size_append, arr_size, one_size, List.length_cons, List.length_nil]; omega
                have q4 : (((⟨(useOf m).toArray⟩ : ByteArray)[pos].toNat : Int) == 117) = false := by rw [beq_eq_false_iff_ne]; intro h; exact h4 (by rw [← UInt8.toNat_inj]; simp; omega)
                exact (use_named m hm2 HCT.out pos hp h0 h1 h2 h3 h4).elim
              · have hnx : ∀ ty, (Instr.next (.pointer (some ⟨I, 0, none⟩)) true ty).run Tryd.prog wr = _ := fun ty => Lib.run_next_end_at wr I ⟨(useOf m).toArray⟩ pos ty hW.hi hp
                have HF : Hid (lineOf ⟨m, name, frm, til, text, n, l1, l2, l3⟩ = t.data.toList) := by
                  show _ = _
                  have h4 := hso.out
                  unfold LSoFar at h4
                  unfold lineOf lineText
                  rw [if_pos HLN.out, h4, List.take_of_length_le (by have h5 : (⟨(useOf m).toArray⟩ : ByteArray).size = (useOf m).length := by show (useOf m).toArray.size = _; simp
                                                                     omega)]
                go_wp2
                go_ret2
                refine ⟨?_, hW.hb⟩
                rw [HLN.out]
                exact tup_ret (by rw [HF.out])
end Go.Proofs.YtelehacakbaobaaDoor

namespace Go.Proofs.YtelehacakbaobaaDoor
open Go.RowKit
set_option linter.unusedVariables false
set_option linter.unusedSimpArgs false

structure TRd where
  rest : Bs
  bad : Bool
  act : TAct
/-- A reader's cells. -/
def cellsR (r : TRd) : Array Value := #[.string ⟨r.rest.toArray⟩, .bool r.bad, .int .i64 r.act.kind, .string ⟨r.act.name.toArray⟩, .int .i64 r.act.frm, .int .i64 r.act.til, .string ⟨r.act.text.toArray⟩, .int .i64 r.act.n, .int .i64 r.act.l1, .int .i64 r.act.l2, .int .i64 r.act.l3]
/-- A block that holds a reader. -/
def HasRd (w : World) (b : Nat) (r : TRd) : Prop := w.heap[b]? = some (.cells (cellsR r) 53 (0, 0))
theorem HasRd.cell {w : World} {b : Nat} {a : TRd} (h : HasRd w b a) (j : Nat) : w.cell? ⟨b, j, none⟩ = (cellsR a)[j]? := by
  unfold HasRd at h
  simp [World.cell?, h]
theorem HasRd.free {w : World} {b : Nat} {a : TRd} (h : HasRd w b a) (j : Nat) : w.frozen? ⟨b, j, none⟩ = false := by
  unfold HasRd at h
  simp [World.frozen?, h]
theorem HasRd.lt {w : World} {b : Nat} {a : TRd} (h : HasRd w b a) : b < w.heap.size := lt_of_block h
theorem HasRd.set {w : World} {b : Nat} {a a' : TRd} (h : HasRd w b a) (j : Nat) (v : Value) (hv : (cellsR a).set! j v = cellsR a') : HasRd (w.setCell ⟨b, j, none⟩ v) b a' := by
  unfold HasRd at *
  rw [heap_setCell_same w b j _ _ _ h]
  rw [← hv]; rfl
theorem HasRd.below {w w' : World} {b : Nat} {a : TRd} {B : Nat} (h : HasRd w b a) (hb : Below B w w') (hB : b < B) : HasRd w' b a := by
  unfold HasRd at *
  rw [hb.block b hB]; exact h
theorem HasRd.iterAt {w : World} {b : Nat} {a : TRd} (h : HasRd w b a) (k : Nat) (s : ByteArray) (pos : Nat) (hk : b ≠ k) : HasRd (w.iterAt k s pos) b a := by
  unfold HasRd at *
  rw [Lib.iterAt_other w k b s pos hk]; exact h
/-- What was there is as it was, but for one block. -/
structure ButRow (I : Nat) (w w' : World) : Prop where
  below : Below I w w'
  row : ∀ b, I < b → b < w.heap.size → w'.heap[b]? = w.heap[b]?
theorem ButRow.refl (I : Nat) (w : World) : ButRow I w w := ⟨Below.refl _ _, fun _ _ _ => rfl⟩
theorem ButRow.trans {I : Nat} {a b c : World} (h : ButRow I a b) (k : ButRow I b c) : ButRow I a c :=
  ⟨h.below.trans k.below, fun i h1 h2 => (k.row i h1 (Nat.lt_of_lt_of_le h2 h.below.size)).trans (h.row i h1 h2)⟩
theorem ButRow.of {I : Nat} {w w' : World} (h : Below w.heap.size w w') (hI : I ≤ w.heap.size) : ButRow I w w' := ⟨h.mono hI, fun b _ h2 => h.block b h2⟩
theorem ButRow.then {I : Nat} {a b c : World} (h : ButRow I a b) (k : Below b.heap.size b c) (hI : I ≤ a.heap.size) : ButRow I a c := h.trans (ButRow.of k (Nat.le_trans hI h.below.size))
theorem ButRow.set {I : Nat} {a w : World} (h : ButRow I a w) (j : Nat) (v : Value) : ButRow I a (w.setCell ⟨I, j, none⟩ v) :=
  ⟨h.below.setCell (Nat.le_refl _) v, fun b h1 h2 => by rw [Below.heap_setCell w _ v b (by show b ≠ I; omega)]; exact h.row b h1 h2⟩
theorem ButRow.other {I : Nat} {w w' : World} (h : ButRow I w w') (b : Nat) (hb : b ≠ I) (hl : b < w.heap.size) : w'.heap[b]? = w.heap[b]? := by
  rcases Nat.lt_or_gt_of_ne hb with h1 | h1
  · exact h.below.block b h1
  · exact h.row b h1 hl
theorem GW.low {w : World} (h : GW w) : Tryd.prog.low ≤ w.heap.size := by
  rcases Nat.lt_or_ge w.heap.size Tryd.prog.low with h1 | h1
  · have h2 : Tryd.prog.globals.size ≤ 13 := Nat.le_of_ble_eq_true (by kernel_rfl)
    obtain ⟨o, o₀, h3, _⟩ := h.shaped.2 w.heap.size (by have := h.size; omega) h1
    simp at h3
  · exact h1
/-- The variables stand while a reader turns. -/
theorem GW.butRow {w w' : World} {I : Nat} {r r' : TRd} (h : GW w) (hb : ButRow I w w') (hr : HasRd w I r) (hr' : HasRd w' I r') (hI : 13 < I) (hL : Tryd.prog.low ≤ I) : GW w' where
  shaped := h.shaped.keptBut (may := fun p => p.block = I) (by
    refine ⟨hb.below.os, hb.below.output, fun i hi => ?_⟩
    by_cases hx : i = I
    · subst hx
      unfold HasRd at hr hr'
      rw [hr, hr']
      exact ⟨rfl, rfl, rfl, fun j hj => absurd rfl hj⟩
    · rw [hb.other i hx hi]
      split <;> simp_all) (fun p hp => by rw [hp]; exact hL)
  uses := fun i hi => by rw [hb.below.cell (p := ⟨0, i, none⟩) (by show 0 < I; omega)]; exact h.uses i hi
  space := var?_below (g := 2) hb.below (by kernel_rfl) (by omega) h.space
  pow := var?_below (g := 4) hb.below (by kernel_rfl) (by omega) h.pow
  syn := let ⟨tp, p, e⟩ := h.syn; ⟨tp, p, var?_below (g := 5) hb.below (by kernel_rfl) (by omega) e⟩
  rng := let ⟨tp, p, e⟩ := h.rng; ⟨tp, p, var?_below (g := 6) hb.below (by kernel_rfl) (by omega) e⟩
  size := Nat.lt_of_lt_of_le h.size hb.below.size

def cutRest (l : Bs) : Bs := (Lib.cut l [32]).2.1
def cutWord (l : Bs) : Bs := (Lib.cut l [32]).1

set_option maxRecDepth 100000 in
theorem word_any (I : Nat) (r : TRd) (w : World) (hG : GW w) (hr : HasRd w I r) (hs : r.rest.length < 4294967281) :
    Calls Tryd.prog 19 #[.pointer (some ⟨I, 0, none⟩)] w fun e w' => e = .returned (.string ⟨(cutWord r.rest).toArray⟩) ∧ HasRd w' I { r with rest := cutRest r.rest } ∧ ButRow I w w' := by
  have HC := Lib.hid (Tryd.strings_Cut_shaped ⟨r.rest.toArray⟩ ⟨#[32]⟩ w hG.shaped (by show r.rest.toArray.size < _; simp; omega))
  have HR := Lib.hid hr
  have c0 := hr.cell 0
  have f0 := hr.free 0
  have hlt := hr.lt
  simp only [cellsR, List.getElem?_toArray, List.getElem?_cons_zero, List.getElem?_cons_succ] at c0
  clear hr hG
  go_enter Tryd.func19, Tryd.ntmps19
  go_wp2_with (first | (go_at_call 36; refine HC.out.mono ?_; rintro e w' ⟨rfl, n, rfl⟩))
  go_ret
  refine ⟨rfl, ?_, ?_⟩
  · exact (HR.out.below (below_drewN w n) hlt).set 0 _ rfl
  · exact (ButRow.of (below_drewN w n) (Nat.le_of_lt hlt)).set 0 _

def numOf (l : Bs) : Int := match Lib.atoiAll l with
  | .ok v => v
  | .range => Lib.atoiSat l
  | _ => 0
def numBad (l : Bs) : Bool := match Lib.atoiAll l with
  | .ok _ => false
  | _ => true
theorem atoi_any (l : Bs) (w : World) (hG : GW w) (hl : l.length ≤ 281474976710656) : Calls Tryd.prog 53 #[.string ⟨l.toArray⟩] w fun e w' => ∃ x, e = .returned (.tuple #[.int .i64 (numOf l), x]) ∧ (numBad l = false ∧ x = .nilIface ∨ numBad l = true ∧ ∃ N, x = .iface 109 (.pointer (some ⟨N, 0, none⟩))) ∧ Below w.heap.size w w' := by
  have hl2 : (⟨l.toArray⟩ : ByteArray).size ≤ 281474976710656 := by show l.toArray.size ≤ _; simpa using hl
  cases h : Lib.atoiAll l with
  | ok v =>
    refine (Tryd.strconv_Atoi_ok ⟨l.toArray⟩ (by omega) v (by simpa using h) w).mono ?_
    rintro e w' ⟨rfl, hw⟩
    refine ⟨_, by unfold numOf; rw [h], .inl ⟨by unfold numBad; rw [h], rfl⟩, ?_⟩
    rcases hw with rfl | ⟨t, rfl⟩
    · exact Below.refl _ _
    · exact Lib.bytesWorld_below w _ t
  | range =>
    obtain ⟨tp, p, hv⟩ := hG.rng
    refine (Tryd.strconv_Atoi_range_var ⟨l.toArray⟩ hl2 (by simpa using h) tp p w hv).mono ?_
    rintro e w' ⟨N, rfl, _, _, hb⟩
    exact ⟨_, by unfold numOf; rw [h], .inr ⟨by unfold numBad; rw [h], N, rfl⟩, hb⟩
  | _ =>
    obtain ⟨tp, p, hv⟩ := hG.syn
    refine (Tryd.strconv_Atoi_syntax_var ⟨l.toArray⟩ hl2 (fun v e => by rw [show (⟨l.toArray⟩ : ByteArray).data.toList = l by simp, h] at e; cases e) (fun e => by rw [show (⟨l.toArray⟩ : ByteArray).data.toList = l by simp, h] at e; cases e) tp p w hv).mono ?_
    rintro e w' ⟨N, rfl, _, _, hb⟩
    exact ⟨_, by unfold numOf; rw [h], .inr ⟨by unfold numBad; rw [h], N, rfl⟩, hb⟩

theorem indexByte_ge (l : Bs) (c : UInt8) : -1 ≤ Lib.indexByte l c := by
  induction l with
  | nil => simp [Lib.indexByte]
  | cons b l ih =>
    unfold Lib.indexByte
    split
    · omega
    · split <;> rename_i h1 h2 <;> omega
theorem cut_one (l : Bs) (c : UInt8) : Lib.cut l [c] = (l.takeWhile (· != c), (l.dropWhile (· != c)).drop 1, l.contains c) := by
  unfold Lib.cut
  rw [Lib.index_one]
  induction l with
  | nil => simp [Lib.indexByte]
  | cons b l ih =>
    have hge := indexByte_ge l c
    unfold Lib.indexByte
    by_cases hb : (b == c) = true
    · have : b = c := by simpa using hb
      subst this
      simp
    · have hne : ¬ b = c := by simpa using hb
      have hne2 : (b != c) = true := by simp [hne]
      have hne3 : (c == b) = false := by simp; exact fun h => hne h.symm
      rw [if_neg hb]
      by_cases hm : (Lib.indexByte l c == -1) = true
      · have hm2 : Lib.indexByte l c = -1 := by simpa using hm
        rw [if_pos hm]
        rw [hm2] at ih
        simp only [show ¬ ((0:Int) ≤ -1) by omega, if_false, Prod.mk.injEq] at ih
        obtain ⟨i1, i2, i3⟩ := ih
        simp only [show ¬ ((0:Int) ≤ -1) by omega, if_false, List.takeWhile_cons, hne2, if_true, List.dropWhile_cons, List.contains_cons, hne3, Bool.false_or, ← i3, ← i2, ← i1]
      · have hm2 : ¬ Lib.indexByte l c = -1 := by simpa using hm
        rw [if_neg hm]
        rw [if_pos (by omega)] at ih
        simp only [Prod.mk.injEq] at ih
        obtain ⟨i1, i2, i3⟩ := ih
        rw [if_pos (by omega)]
        obtain ⟨k, hk⟩ : ∃ k : Nat, Lib.indexByte l c = k := ⟨(Lib.indexByte l c).toNat, by omega⟩
        rw [hk] at i1 i2 ⊢
        simp only [Int.toNat_natCast, show (((k:Int) + 1).toNat) = k + 1 by omega, List.takeWhile_cons, hne2, if_true, List.dropWhile_cons, List.contains_cons, hne3, Bool.false_or, ← i3, ← i1, List.take_succ_cons, ← i2]
        simp
theorem cutWord_eq (l : Bs) : cutWord l = l.takeWhile (· != 32) := by unfold cutWord; rw [cut_one]
theorem cutRest_eq (l : Bs) : cutRest l = (l.dropWhile (· != 32)).drop 1 := by unfold cutRest; rw [cut_one]
theorem cutWord_len (l : Bs) : (cutWord l).length ≤ l.length := by
  rw [cutWord_eq]; exact (List.takeWhile_sublist _).length_le
theorem cutRest_len (l : Bs) : (cutRest l).length ≤ l.length := by
  rw [cutRest_eq]; exact ((List.drop_sublist 1 _).trans (List.dropWhile_sublist _)).length_le
set_option maxRecDepth 100000 in
theorem number_any (I : Nat) (r : TRd) (w : World) (hG : GW w) (hr : HasRd w I r) (hI : 13 < I) (hL : Tryd.prog.low ≤ I) (hs : r.rest.length < 4294967281) :
    Calls Tryd.prog 38 #[.pointer (some ⟨I, 0, none⟩)] w fun e w' => e = .returned (.int .i64 (numOf (cutWord r.rest))) ∧ HasRd w' I { rest := cutRest r.rest, bad := r.bad || numBad (cutWord r.rest), act := r.act } ∧ ButRow I w w' := by
  have hlt := hr.lt
  have HW := Lib.hid (word_any I r w hG hr hs)
  have HA : Hid (∀ wx, HasRd wx I { r with rest := cutRest r.rest } → ButRow I w wx → Calls Tryd.prog 53 #[.string ⟨(cutWord r.rest).toArray⟩] wx fun e w' => ∃ x, e = .returned (.tuple #[.int .i64 (numOf (cutWord r.rest)), x]) ∧ (numBad (cutWord r.rest) = false ∧ x = .nilIface ∨ numBad (cutWord r.rest) = true ∧ ∃ N, x = .iface 109 (.pointer (some ⟨N, 0, none⟩))) ∧ Below wx.heap.size wx w') :=
    fun wx hw hb => atoi_any (cutWord r.rest) wx (hG.butRow hb hr hw hI hL) (by have := cutWord_len r.rest; omega)
  have HL := Lib.hid hlt
  have hnum : Hid (∃ cw nv nb, cw = cutWord r.rest ∧ nv = numOf (cutWord r.rest) ∧ nb = numBad (cutWord r.rest)) := ⟨_, _, _, rfl, rfl, rfl⟩
  obtain ⟨cw, nv, nb, e1, e2, e3⟩ := hnum.out
  rw [← e1] at HW HA
  rw [← e1] at e2 e3
  rw [← e1, ← e2, ← e3]
  rw [← e2, ← e3] at HA
  clear hr hG hL hI hs hnum e1 e2 e3
  have HB : Hid (∀ wx, HasRd wx I { r with rest := cutRest r.rest } → wx.cell? ⟨I, 1, none⟩ = some (.bool r.bad)) := fun wx h => h.cell 1
  generalize hbd : r.bad = rb at *
  have HBD := Lib.hid hbd
  clear hbd
  cases hnb : nb <;> cases hrb : rb <;> (
    rw [hnb] at HA
    rw [hrb] at HB HW HA
    clear hnb hrb
    go_enter Tryd.func38, Tryd.ntmps38
    go_wp2_with (first | (go_at_call 19; refine HW.out.mono ?_; rintro e w1 ⟨rfl, hr1, hb1⟩) | (go_at_call 53; refine (HA.out _ hr1 hb1).mono ?_; rintro e w2 ⟨x, rfl, hx, hb2⟩; have c1 := HB.out w2 (hr1.below hb2 hr1.lt); have f1 := (hr1.below hb2 hr1.lt).free 1; simp at hx; first | subst hx | (obtain ⟨N, rfl⟩ := hx)))
    go_ret
    refine ⟨rfl, ?_, ?_⟩
    · exact (hr1.below hb2 hr1.lt).set 1 _ rfl
    · exact (hb1.then hb2 (Nat.le_of_lt HL.out)).set 1 _)
end Go.Proofs.YtelehacakbaobaaDoor

namespace Go.Proofs.YtelehacakbaobaaDoor
open Go.RowKit
set_option linter.unusedVariables false
set_option linter.unusedSimpArgs false

/-- A number off. -/
def numR (r : TRd) : TRd := { rest := cutRest r.rest, bad := r.bad || numBad (cutWord r.rest), act := r.act }
def numV (r : TRd) : Int := numOf (cutWord r.rest)
/-- What a letter reads. -/
def useR (r : TRd) (c : UInt8) : TRd :=
  if c = 110 then { r with rest := cutRest r.rest, act := { r.act with name := cutWord r.rest } }
  else if c = 116 then { rest := [], bad := r.bad || (unquote r.rest).isNone, act := { r.act with text := (unquote r.rest).getD [] } }
  else if c = 102 then { numR r with act := { r.act with frm := numV r } }
  else if c = 111 then { numR r with act := { r.act with til := numV r } }
  else if c = 117 then { numR r with act := { r.act with n := numV r } }
  else if c = 108 then { numR (numR (numR r)) with act := { r.act with l1 := numV r, l2 := numV (numR r), l3 := numV (numR (numR r)) } }
  else r

set_option maxRecDepth 100000 in
theorem rd_name (I : Nat) (r : TRd) (w : World) (hG : GW w) (hr : HasRd w I r) (hs : r.rest.length ≤ 1000000) :
    Calls Tryd.prog 21 #[.pointer (some ⟨I, 0, none⟩), .int .i32 110] w fun e w' => e = .returned (.tuple #[]) ∧ HasRd w' I (useR r 110) ∧ ButRow I w w' := by
  have HW := Lib.hid (word_any I r w hG hr (by omega))
  clear hr hG
  go_enter Tryd.func21, Tryd.ntmps21
  go_wp2_with (first | (go_at_call 19; refine HW.out.mono ?_; rintro e w1 ⟨rfl, hr1, hb1⟩; have f3 := hr1.free 3; have c3 := hr1.cell 3; simp only [cellsR, List.getElem?_toArray, List.getElem?_cons_zero, List.getElem?_cons_succ] at c3))
  go_end0
  exact ⟨rfl, hr1.set 3 _ rfl, hb1.set 3 _⟩
set_option maxRecDepth 100000 in
theorem rd_frm (I : Nat) (r : TRd) (w : World) (hG : GW w) (hr : HasRd w I r) (hI : 13 < I) (hL : Tryd.prog.low ≤ I) (hs : r.rest.length ≤ 1000000) :
    Calls Tryd.prog 21 #[.pointer (some ⟨I, 0, none⟩), .int .i32 102] w fun e w' => e = .returned (.tuple #[]) ∧ HasRd w' I (useR r 102) ∧ ButRow I w w' := by
  have HW := Lib.hid (number_any I r w hG hr hI hL (by omega))
  clear hr hG hI hL
  go_enter Tryd.func21, Tryd.ntmps21
  go_wp2_with (first | (go_at_call 38; refine HW.out.mono ?_; rintro e w1 ⟨rfl, hr1, hb1⟩; have f3 := hr1.free 4; have c3 := hr1.cell 4; simp only [cellsR, List.getElem?_toArray, List.getElem?_cons_zero, List.getElem?_cons_succ] at c3))
  go_end0
  exact ⟨rfl, hr1.set 4 _ rfl, hb1.set 4 _⟩
set_option maxRecDepth 100000 in
theorem rd_til (I : Nat) (r : TRd) (w : World) (hG : GW w) (hr : HasRd w I r) (hI : 13 < I) (hL : Tryd.prog.low ≤ I) (hs : r.rest.length ≤ 1000000) :
    Calls Tryd.prog 21 #[.pointer (some ⟨I, 0, none⟩), .int .i32 111] w fun e w' => e = .returned (.tuple #[]) ∧ HasRd w' I (useR r 111) ∧ ButRow I w w' := by
  have HW := Lib.hid (number_any I r w hG hr hI hL (by omega))
  clear hr hG hI hL
  go_enter Tryd.func21, Tryd.ntmps21
  go_wp2_with (first | (go_at_call 38; refine HW.out.mono ?_; rintro e w1 ⟨rfl, hr1, hb1⟩; have f3 := hr1.free 5; have c3 := hr1.cell 5; simp only [cellsR, List.getElem?_toArray, List.getElem?_cons_zero, List.getElem?_cons_succ] at c3))
  go_end0
  exact ⟨rfl, hr1.set 5 _ rfl, hb1.set 5 _⟩
set_option maxRecDepth 100000 in
theorem rd_fuel (I : Nat) (r : TRd) (w : World) (hG : GW w) (hr : HasRd w I r) (hI : 13 < I) (hL : Tryd.prog.low ≤ I) (hs : r.rest.length ≤ 1000000) :
    Calls Tryd.prog 21 #[.pointer (some ⟨I, 0, none⟩), .int .i32 117] w fun e w' => e = .returned (.tuple #[]) ∧ HasRd w' I (useR r 117) ∧ ButRow I w w' := by
  have HW := Lib.hid (number_any I r w hG hr hI hL (by omega))
  clear hr hG hI hL
  go_enter Tryd.func21, Tryd.ntmps21
  go_wp2_with (first | (go_at_call 38; refine HW.out.mono ?_; rintro e w1 ⟨rfl, hr1, hb1⟩; have f3 := hr1.free 7; have c3 := hr1.cell 7; simp only [cellsR, List.getElem?_toArray, List.getElem?_cons_zero, List.getElem?_cons_succ] at c3))
  go_end0
  exact ⟨rfl, hr1.set 7 _ rfl, hb1.set 7 _⟩

theorem HasRd.limits {w : World} {I : Nat} {r : TRd} (h : HasRd w I r) (a b c : Int) : HasRd (((w.setCell ⟨I, 8, none⟩ (.int .i64 a)).setCell ⟨I, 9, none⟩ (.int .i64 b)).setCell ⟨I, 10, none⟩ (.int .i64 c)) I { r with act := { r.act with l1 := a, l2 := b, l3 := c } } := by
  have h1 := h.set 8 (.int .i64 a) (a' := { r with act := { r.act with l1 := a } }) rfl
  have h2 := h1.set 9 (.int .i64 b) (a' := { r with act := { r.act with l1 := a, l2 := b } }) rfl
  exact h2.set 10 (.int .i64 c) rfl
theorem HasRd.drew {w : World} {I : Nat} {r : TRd} (h : HasRd w I r) : HasRd w.drew I r := h
theorem ButRow.drew {I : Nat} {a w : World} (h : ButRow I a w) : ButRow I a w.drew := ⟨h.below.drew, h.row⟩
theorem HasRd.text {w : World} {I : Nat} {r : TRd} (h : HasRd w I r) (t : Bs) (b : Bool) : HasRd (((w.setCell ⟨I, 6, none⟩ (.string ⟨t.toArray⟩)).setCell ⟨I, 1, none⟩ (.bool b)).setCell ⟨I, 0, none⟩ (.string ⟨#[]⟩)) I ⟨[], b, { r.act with text := t }⟩ := by
  have h1 := h.set 6 (.string ⟨t.toArray⟩) (a' := { r with act := { r.act with text := t } }) rfl
  have h2 := h1.set 1 (.bool b) (a' := { r with bad := b, act := { r.act with text := t } }) rfl
  exact h2.set 0 (.string ⟨#[]⟩) rfl
theorem unq_arg (l : Bs) (w : World) (hs : l.length ≤ 1000000) : Calls Tryd.prog 37 #[.string ⟨l.toArray⟩] w fun e w' => e = unqAns (unquote l) ∧ Below w.heap.size w w' :=
  unquote_any ⟨l.toArray⟩ w (by show l.toArray.size ≤ _; simpa using hs)
set_option maxRecDepth 100000 in
theorem rd_text (I : Nat) (r : TRd) (w : World) (hr : HasRd w I r) (hs : r.rest.length ≤ 1000000) :
    Calls Tryd.prog 21 #[.pointer (some ⟨I, 0, none⟩), .int .i32 116] w fun e w' => e = .returned (.tuple #[]) ∧ HasRd w' I (useR r 116) ∧ ButRow I w w' := by
  have HU := Lib.hid (unq_arg r.rest w hs)
  have c0 := hr.cell 0
  simp only [cellsR, List.getElem?_toArray, List.getElem?_cons_zero, List.getElem?_cons_succ] at c0
  have HR := Lib.hid hr
  have HL := Lib.hid hr.lt
  clear hr
  have HS : Hid (useR r 116 = { rest := [], bad := r.bad || (unquote r.rest).isNone, act := { r.act with text := (unquote r.rest).getD [] } }) := rfl
  have HB : Hid (∀ wx, HasRd wx I r → wx.cell? ⟨I, 1, none⟩ = some (.bool r.bad)) := fun wx h => h.cell 1
  cases hu : unquote r.rest <;> cases hb : r.bad <;> (
    rw [hu] at HU HS
    rw [hb] at HS HB
    clear hu hb
    simp only [unqAns, Option.isNone_none, Option.isNone_some, Option.getD_none, Option.getD_some, Bool.or_true, Bool.or_false, Bool.true_or, Bool.false_or] at HU HS
    go_enter Tryd.func21, Tryd.ntmps21
    go_wp2_with (first | (go_at_call 37; refine HU.out.mono ?_; rintro e w1 ⟨rfl, hb1⟩; have hr1 := HR.out.below hb1 HL.out; have c1 := HB.out w1 hr1; have c6 := hr1.cell 6; have d0 := hr1.cell 0; have f0 := hr1.free 0; have f1 := hr1.free 1; have f6 := hr1.free 6; simp only [cellsR, List.getElem?_toArray, List.getElem?_cons_zero, List.getElem?_cons_succ] at c6 d0))
    go_end0
    refine ⟨rfl, ?_, (((ButRow.of hb1 (Nat.le_of_lt HL.out)).set 6 _).set 1 _).set 0 _⟩
    rw [HS.out]
    exact hr1.text _ _)

set_option maxRecDepth 100000 in
set_option maxHeartbeats 2000000 in
theorem rd_limits (I : Nat) (r : TRd) (w : World) (hG : GW w) (hr : HasRd w I r) (hI : 13 < I) (hL : Tryd.prog.low ≤ I) (hs : r.rest.length ≤ 1000000) :
    Calls Tryd.prog 21 #[.pointer (some ⟨I, 0, none⟩), .int .i32 108] w fun e w' => e = .returned (.tuple #[]) ∧ HasRd w' I (useR r 108) ∧ ButRow I w w' := by
  have hs1 : (numR r).rest.length ≤ 1000000 := Nat.le_trans (cutRest_len _) hs
  have hs2 : (numR (numR r)).rest.length ≤ 1000000 := Nat.le_trans (cutRest_len _) hs1
  have HW1 := Lib.hid (fun wx (h : HasRd wx I r) (hb : ButRow I w wx) => number_any I r wx (hG.butRow hb hr h hI hL) h hI hL (by omega))
  have HW2 := Lib.hid (fun wx (h : HasRd wx I (numR r)) (hb : ButRow I w wx) => number_any I (numR r) wx (hG.butRow hb hr h hI hL) h hI hL (by omega))
  have HW3 := Lib.hid (fun wx (h : HasRd wx I (numR (numR r))) (hb : ButRow I w wx) => number_any I (numR (numR r)) wx (hG.butRow hb hr h hI hL) h hI hL (by omega))
  have HR := Lib.hid hr
  clear hr hG hI hL hs1 hs2
  go_enter Tryd.func21, Tryd.ntmps21
  go_wp2_with fail
  go_region_held3 (fun w' => True) (trivial) (first | (go_at_call 38; (with_reducible refine Calls.mono (HW3.out _ hr2 hb2) ?_); rintro e w3 ⟨rfl, hr3, hb3⟩; replace hb3 := hb2.trans hb3; have f8 := hr3.free 8; have f9 := hr3.free 9; have f10 := hr3.free 10; have c8 := hr3.cell 8; have c9 := hr3.cell 9; have c10 := hr3.cell 10; simp only [cellsR, List.getElem?_toArray, List.getElem?_cons_zero, List.getElem?_cons_succ] at c8 c9 c10) | (go_at_call 38; (with_reducible refine Calls.mono (HW2.out _ hr1 hb1) ?_); rintro e w2 ⟨rfl, hr2, hb2⟩; replace hr2 : HasRd w2 I (numR (numR r)) := hr2; replace hb2 := hb1.trans hb2) | (go_at_call 38; (with_reducible refine Calls.mono (HW1.out _ (HasRd.drew HR.out) (ButRow.drew (ButRow.refl _ _))) ?_); rintro e w1 ⟨rfl, hr1, hb1⟩; replace hr1 : HasRd w1 I (numR r) := hr1; replace hb1 := (ButRow.drew (ButRow.refl I w)).trans hb1))
  all_goals
    go_end0
    exact ⟨rfl, hr3.limits _ _ _, ((hb3.set 8 _).set 9 _).set 10 _⟩

/-- The letters of the kinds. -/
def letters : Bs := [110, 116, 102, 111, 117, 108]
theorem rd_any (I : Nat) (r : TRd) (w : World) (c : UInt8) (hc : c ∈ letters) (hG : GW w) (hr : HasRd w I r) (hI : 13 < I) (hL : Tryd.prog.low ≤ I) (hs : r.rest.length ≤ 1000000) :
    Calls Tryd.prog 21 #[.pointer (some ⟨I, 0, none⟩), .int .i32 c.toNat] w fun e w' => e = .returned (.tuple #[]) ∧ HasRd w' I (useR r c) ∧ ButRow I w w' := by
  simp only [letters, List.mem_cons, List.not_mem_nil, or_false] at hc
  rcases hc with rfl | rfl | rfl | rfl | rfl | rfl
  · exact rd_name I r w hG hr hs
  · exact rd_text I r w hr hs
  · exact rd_frm I r w hG hr hI hL hs
  · exact rd_til I r w hG hr hI hL hs
  · exact rd_fuel I r w hG hr hI hL hs
  · exact rd_limits I r w hG hr hI hL hs
end Go.Proofs.YtelehacakbaobaaDoor

namespace Go.Proofs.YtelehacakbaobaaDoor
open Go.RowKit
set_option linter.unusedVariables false
set_option linter.unusedSimpArgs false

/-- The last one of the first k kinds whose word it is. -/
def kindTo (first : Bs) : Nat → Int
  | 0 => 0
  | k + 1 => if known k && wordOf k == first then k else kindTo first k
/-- What a line is read as. -/
def parseR (s : Bs) : TRd := (useOf (kindTo (cutWord s) 8)).foldl useR ⟨cutRest s, false, { TAct.zero with kind := kindTo (cutWord s) 8 }⟩
/-- A line's act. -/
def parse (s : Bs) : Option TAct := if known (kindTo (cutWord s) 8) = false then none else if (parseR s).bad = true ∨ lineErr (parseR s).act ≠ 0 ∨ lineOf (parseR s).act ≠ s then none else some (parseR s).act
def parseAns (o : Option TAct) : Ending := match o with
  | some a => .returned (.tuple #[.agg (cellsA a), .int .i64 0])
  | none => .returned (.tuple #[.agg (cellsA TAct.zero), .int .i64 3])

theorem kindTo_bounds (first : Bs) (k : Nat) : 0 ≤ kindTo first k ∧ (kindTo first k ≤ 7) := by
  induction k with
  | zero => simp [kindTo]
  | succ k ih =>
    unfold kindTo
    split
    · rename_i h
      simp [known] at h
      omega
    · exact ih
theorem numOf_bounds (l : Bs) : -9223372036854775808 ≤ numOf l ∧ numOf l ≤ 9223372036854775807 := by
  unfold numOf
  split
  · rename_i h; exact Lib.atoiAll_bounds h
  · exact Lib.atoiSat_bounds l
  · omega
theorem flat_ge (l : Bs) : l.length ≤ (l.flatMap qbyte).length := by
  induction l with
  | nil => simp
  | cons a t ih =>
    rw [List.flatMap_cons, List.length_append, List.length_cons]
    have : 1 ≤ (qbyte a).length := by unfold qbyte; split <;> simp
    omega
theorem unquote_len (l t : Bs) (h : unquote l = some t) : t.length ≤ l.length := by
  have hq : quote t = l := by
    unfold unquote at h
    split at h
    · cases h
    · split at h
      · split at h
        · cases h; assumption
        · cases h
      · cases h
  rw [← hq]
  unfold quote
  have := flat_ge t
  simp only [List.length_cons, List.length_append]; omega
/-- A reader's parts are within bounds. -/
structure RdFits (r : TRd) : Prop where
  rest : r.rest.length ≤ 100000
  act : r.act.Fits
theorem RdFits.num {r : TRd} (h : RdFits r) : RdFits (numR r) := ⟨Nat.le_trans (cutRest_len _) h.rest, h.act⟩
theorem RdFits.use {r : TRd} (h : RdFits r) (c : UInt8) : RdFits (useR r c) := by
  have hb := h.act
  have hn := fun r : TRd => numOf_bounds (cutWord r.rest)
  unfold useR
  split
  · exact ⟨Nat.le_trans (cutRest_len _) h.rest, ⟨hb.frm, hb.til, hb.n, hb.l1, hb.l2, hb.l3, Nat.le_trans (cutWord_len _) h.rest, hb.text⟩⟩
  split
  · refine ⟨by simp, ⟨hb.frm, hb.til, hb.n, hb.l1, hb.l2, hb.l3, hb.name, ?_⟩⟩
    show ((unquote r.rest).getD []).length ≤ _
    cases hu : unquote r.rest with
    | none => simp
    | some t => exact Nat.le_trans (unquote_len _ _ hu) h.rest
  split
  · exact ⟨h.num.rest, ⟨hn r, hb.til, hb.n, hb.l1, hb.l2, hb.l3, hb.name, hb.text⟩⟩
  split
  · exact ⟨h.num.rest, ⟨hb.frm, hn r, hb.n, hb.l1, hb.l2, hb.l3, hb.name, hb.text⟩⟩
  split
  · exact ⟨h.num.rest, ⟨hb.frm, hb.til, hn r, hb.l1, hb.l2, hb.l3, hb.name, hb.text⟩⟩
  split
  · exact ⟨h.num.num.num.rest, ⟨hb.frm, hb.til, hb.n, hn r, hn (numR r), hn (numR (numR r)), hb.name, hb.text⟩⟩
  · exact h
theorem kindTo_step (first : Bs) (k : Nat) : kindTo first (k + 1) = if known k && wordOf k == first then (k : Int) else kindTo first k := rfl
/-- What stands in memory while a line is read. -/
structure ParseW (B : Nat) (w0 : World) (r : TRd) (w : World) : Prop where
  ha : HasAct w B TAct.zero
  hr : HasRd w (B + 1) r
  hb : Below B w0 w
theorem ParseW.lt {B : Nat} {w0 w : World} {r : TRd} (h : ParseW B w0 r w) : B + 1 < w.heap.size := h.hr.lt
theorem ParseW.but {B : Nat} {w0 w w' : World} {r r' : TRd} (h : ParseW B w0 r w) (hb : ButRow (B + 1) w w') (hr : HasRd w' (B + 1) r') : ParseW B w0 r' w' where
  ha := h.ha.below hb.below (by omega)
  hr := hr
  hb := h.hb.trans (hb.below.mono (by omega))
theorem ParseW.set {B : Nat} {w0 w : World} {r r' : TRd} (h : ParseW B w0 r w) (j : Nat) (v : Value) (hv : (cellsR r).set! j v = cellsR r') : ParseW B w0 r' (w.setCell ⟨B + 1, j, none⟩ v) := h.but ((ButRow.refl _ _).set j v) (h.hr.set j v hv)

theorem parse_ret {R : Ending → World → Prop} {tm : Array Value} {a : TAct} {n : Int} {wf : World} {B : Nat} (h : HasAct wf B a) (h2 : tm[2]? = some (.pointer (some ⟨B, 0, none⟩))) (h3 : tm[3]? = some (.int .i64 n)) (hR : R (.returned (.tuple #[.agg (cellsA a), .int .i64 n])) wf) :
    bodyPost Tryd.prog Tryd.f9 R .ret ⟨tm, []⟩ wf := by
  refine bodyPost_ret ?_ rfl hR
  have e0 := h.cell 0
  have e1 := h.cell 1
  have e2 := h.cell 2
  have e3 := h.cell 3
  have e4 := h.cell 4
  have e5 := h.cell 5
  have e6 := h.cell 6
  have e7 := h.cell 7
  have e8 := h.cell 8
  simp only [cellsA, List.getElem?_toArray, List.getElem?_cons_zero, List.getElem?_cons_succ] at e0 e1 e2 e3 e4 e5 e6 e7 e8
  simp [results, Tryd.results9, go_sem, cellsA, e0, e1, e2, e3, e4, e5, e6, e7, e8, h2, h3]
theorem below_all {w w0 : World} {b : Nat} (h : Below b w0 w) (o : TAct) : Below b w0 (((((((((w.setCell ⟨b, 0, none⟩ (.int .i64 o.kind)).setCell ⟨b, 1, none⟩ (.string ⟨o.name.toArray⟩)).setCell ⟨b, 2, none⟩ (.int .i64 o.frm)).setCell ⟨b, 3, none⟩ (.int .i64 o.til)).setCell ⟨b, 4, none⟩ (.string ⟨o.text.toArray⟩)).setCell ⟨b, 5, none⟩ (.int .i64 o.n)).setCell ⟨b, 6, none⟩ (.int .i64 o.l1)).setCell ⟨b, 7, none⟩ (.int .i64 o.l2)).setCell ⟨b, 8, none⟩ (.int .i64 o.l3)) := by
  have st : ∀ {w : World} (j : Nat) (v : Value), Below b w0 w → Below b w0 (w.setCell ⟨b, j, none⟩ v) := fun j v h => h.setCell (Nat.le_refl _) v
  exact st 8 _ (st 7 _ (st 6 _ (st 5 _ (st 4 _ (st 3 _ (st 2 _ (st 1 _ (st 0 _ h))))))))
/-- What stands in memory while a kind's things are read. -/
structure ReadW (B I : Nat) (w0 : World) (r : TRd) (s : ByteArray) (pos : Nat) (w : World) : Prop where
  pw : ParseW B w0 r w
  hi : w.heap[I]? = some (.stringIter s pos)
theorem ReadW.next {B I : Nat} {w0 w : World} {r : TRd} {s : ByteArray} {pos : Nat} (h : ReadW B I w0 r s pos w) (hI : B + 1 < I) (pos' : Nat) : ReadW B I w0 r s pos' (w.iterAt I s pos') where
  pw := ⟨h.pw.ha.iterAt _ _ _ (by omega), h.pw.hr.iterAt _ _ _ (by omega), Lib.below_iterAt h.pw.hb (by omega) s pos'⟩
  hi := Lib.iterAt_heap w I s pos pos' h.hi
theorem ReadW.but {B I : Nat} {w0 w w' : World} {r r' : TRd} {s : ByteArray} {pos : Nat} (h : ReadW B I w0 r s pos w) (hI : B + 1 < I) (hb : ButRow (B + 1) w w') (hr : HasRd w' (B + 1) r') : ReadW B I w0 r' s pos w' where
  pw := h.pw.but hb hr
  hi := by rw [hb.other I (by omega) (lt_of_block h.hi)]; exact h.hi
theorem read_start {w w0 : World} {B : Nat} {r : TRd} (h : ParseW B w0 r w) (s : ByteArray) : ReadW B w.heap.size w0 r s 0 (w.iter s 0) where
  pw := ⟨by unfold HasAct World.iter; rw [Below.heap_alloc _ _ _ h.ha.lt]; exact h.ha, by unfold HasRd World.iter; rw [Below.heap_alloc _ _ _ h.hr.lt]; exact h.hr, h.hb.alloc (Nat.le_of_lt h.ha.lt) _⟩
  hi := World.iter_heap w s 0
theorem fold_step (m pos : Nat) (r : TRd) (hp : pos < (⟨(useOf m).toArray⟩ : ByteArray).size) : ((useOf m).take (pos + 1)).foldl useR r = useR (((useOf m).take pos).foldl useR r) ((⟨(useOf m).toArray⟩ : ByteArray)[pos]) := by
  have e : (useOf m).take (pos + 1) = (useOf m).take pos ++ [(⟨(useOf m).toArray⟩ : ByteArray)[pos]] := by
    have h1 := take_succ ⟨(useOf m).toArray⟩ pos hp
    simpa using h1
  rw [e, List.foldl_append]; rfl

set_option maxRecDepth 100000 in
set_option maxHeartbeats 2000000 in
theorem parse_any (s : ByteArray) (hs : s.size ≤ 100000) (w : World) (hG : GW w) :
    Calls Tryd.prog 9 #[.string s] w fun e w' => e = parseAns (parse s.data.toList) ∧ Below w.heap.size w w' := by
  have hlow := hG.low
  have hsz := hG.size
  have hsl : s.data.toList.length ≤ 100000 := hs
  have hx : Hid (∃ F R, F = cutWord s.data.toList ∧ R = cutRest s.data.toList) := ⟨_, _, rfl, rfl⟩
  obtain ⟨F, R, hF, hR⟩ := hx.out
  have HFR := Lib.hid (And.intro hF hR)
  have HRL : Hid (R.length ≤ 100000) := by show _ ≤ _; rw [hR]; exact Nat.le_trans (cutRest_len _) hsl
  have HW : Hid (∀ wx, HasAct wx w.heap.size TAct.zero → HasRd wx (w.heap.size + 1) ⟨s.data.toList, false, TAct.zero⟩ → Below w.heap.size w wx → Calls Tryd.prog 19 #[.pointer (some ⟨w.heap.size + 1, 0, none⟩)] wx fun e w' => e = .returned (.string ⟨F.toArray⟩) ∧ ParseW w.heap.size w ⟨R, false, { TAct.zero with kind := kindTo F 0 }⟩ w') :=
    fun wx h1 h2 h3 => (word_any _ _ wx (hG.below h3) h2 (by show s.data.toList.length < _; omega)).mono fun e w' ⟨he, hr, hb⟩ => ⟨by rw [hF]; exact he, (ParseW.mk h1 h2 h3).but hb (by rw [hR]; exact hr)⟩
  have HG := Lib.hid hG
  have HSL := Lib.hid hsl
  clear hG hsl hF hR hx
  go_enter Tryd.func9, Tryd.ntmps9
  go_wp2_with (first | (go_at_call 19; refine (HW.out _ ?_ ?_ ?_).mono ?_; rotate_right; rintro e w1 ⟨rfl, hP⟩))
  rotate_left
  · unfold HasAct
    rw [Below.heap_alloc _ _ _ (by simp only [World.size_alloc]; omega), heap_alloc_new]
    rfl
  · unfold HasRd cellsR
    rw [heap_at _ _ _ (by simp only [World.size_alloc])]
    simp only [Array.toArray_toList]
    rfl
  · exact ((Below.refl _ _).alloc (Nat.le_refl _) _).alloc (by simp only [World.size_alloc]; omega) _
  go_loopw [19] (fun i wr => ∃ k : Nat, k ≤ 8 ∧ i = .int .i64 k ∧ ParseW w.heap.size w ⟨R, false, { TAct.zero with kind := kindTo F k }⟩ wr) (fun i _ => 8 - (intOf i).toNat)
  case atStart =>
    exact ⟨0, by omega, rfl, hP⟩
  case round =>
    obtain ⟨k, hk8, rfl, hW⟩ := hrel
    by_cases hk : k < 8
    · have hk' : (k : Int) < 8 := by omega
      have hk0 : (0 : Int) ≤ (k : Int) := by omega
      have hwrap : IntKind.i64.wrap ((k : Int) + 1) = ((k + 1 : Nat) : Int) := by unfold IntKind.wrap; simp [IntKind.bits]; omega
      have hlow := hW.lt
      have HK := Lib.hid (kindTo_step F k)
      cases hkn : known k with
      | false =>
        rw [hkn] at HK
        have HKN := Lib.hid hkn
        clear hkn
        go_wp2_with (go_at_call 20; refine (known_any _ _).mono ?_; rw [HKN.out]; rintro e w' ⟨rfl, rfl⟩)
        go_roundw
        case measure => simp only [intOf]; omega
        case rel => exact ⟨k + 1, by omega, rfl, by rw [HK.out]; exact hW⟩
      | true =>
        rw [hkn] at HK
        have HKN := Lib.hid hkn
        have hkb : 1 ≤ (k : Int) ∧ (k : Int) ≤ 7 := by simpa [known] using hkn
        clear hkn
        have g1 : wr.cell? ⟨0, k * 2, none⟩ = some (.string ⟨(wordOf k).toArray⟩) := by rw [(HG.out.below hW.hb).uses (k * 2) (by omega), tab_word k (by omega)]
        have f2 := hW.hr.free 2
        have c2 := hW.hr.cell 2
        simp only [cellsR, List.getElem?_toArray, List.getElem?_cons_zero, List.getElem?_cons_succ] at c2
        cases hq : (wordOf k == F) with
        | false =>
          rw [hq] at HK
          go_wp2_with (go_at_call 20; refine (known_any _ _).mono ?_; rw [HKN.out]; rintro e w' ⟨rfl, rfl⟩)
          go_roundw
          case measure => simp only [intOf]; omega
          case rel => exact ⟨k + 1, by omega, rfl, by rw [HK.out]; exact hW⟩
        | true =>
          rw [hq] at HK
          go_wp2_with (go_at_call 20; refine (known_any _ _).mono ?_; rw [HKN.out]; rintro e w' ⟨rfl, rfl⟩)
          go_roundw
          case measure => simp only [intOf]; omega
          case rel => exact ⟨k + 1, by omega, rfl, by rw [HK.out]; exact hW.set 2 _ rfl⟩
    · have hk8' : k = 8 := by omega
      subst hk8'
      clear hk hk8
      have HKB := Lib.hid (kindTo_bounds F 8)
      generalize hKd : kindTo F 8 = K at *
      have HKD := Lib.hid hKd
      clear hKd
      have c2 := hW.hr.cell 2
      simp only [cellsR, List.getElem?_toArray, List.getElem?_cons_zero, List.getElem?_cons_succ] at c2
      have a0 := hW.ha.cell 0
      have a1 := hW.ha.cell 1
      have a2 := hW.ha.cell 2
      have a3 := hW.ha.cell 3
      have a4 := hW.ha.cell 4
      have a5 := hW.ha.cell 5
      have a6 := hW.ha.cell 6
      have a7 := hW.ha.cell 7
      have a8 := hW.ha.cell 8
      simp only [cellsA, TAct.zero, List.getElem?_toArray, List.getElem?_cons_zero, List.getElem?_cons_succ] at a0 a1 a2 a3 a4 a5 a6 a7 a8
      have f0 := hW.ha.free 0
      have f1 := hW.ha.free 1
      have f2 := hW.ha.free 2
      have f3 := hW.ha.free 3
      have f4 := hW.ha.free 4
      have f5 := hW.ha.free 5
      have f6 := hW.ha.free 6
      have f7 := hW.ha.free 7
      have f8 := hW.ha.free 8
      cases hkn : known K with
      | false =>
        have HKN := Lib.hid hkn
        clear hkn
        go_wp2_with (go_at_call 20; refine (known_any _ _).mono ?_; rw [HKN.out]; rintro e w' ⟨rfl, rfl⟩)
        refine parse_ret (hW.ha.all TAct.zero) rfl rfl ⟨?_, ?_⟩
        · have : parse s.data.toList = none := by
            unfold parse; rw [← HFR.out.1, HKD.out, if_pos HKN.out]
          rw [this]; rfl
        · exact below_all hW.hb TAct.zero
      | true =>
        obtain ⟨m, rfl⟩ := Int.eq_ofNat_of_zero_le HKB.out.1
        have hm2 : m ≤ 7 := by have := HKB.out.2; omega
        have hm1 : 1 ≤ m := by have : 1 ≤ (m : Int) ∧ (m : Int) ≤ 7 := by simpa [known] using hkn
                               omega
        have hm3 : (m : Int) < 8 := by omega
        have hm4 : 0 ≤ (m : Int) := by omega
        have HKN := Lib.hid hkn
        clear hkn
        have g2 : wr.cell? ⟨0, m * 2 + 1, none⟩ = some (.string ⟨(useOf m).toArray⟩) := by rw [(HG.out.below hW.hb).uses (m * 2 + 1) (by omega), tab_use m hm2]
        have HR0 := Lib.hid (show RdFits ⟨R, false, { TAct.zero with kind := m }⟩ from ⟨HRL.out, by constructor <;> simp [TAct.zero]⟩)
        go_wp2_with (go_at_call 20; refine (known_any _ _).mono ?_; rw [HKN.out]; rintro e w' ⟨rfl, rfl⟩)
        have HS0 := read_start hW ⟨(useOf m).toArray⟩
        have hBI := hW.lt
        generalize hI : wr.heap.size = I at *
        clear hI g2 c2 a0 a1 a2 a3 a4 a5 a6 a7 a8 f0 f1 f2 f3 f4 f5 f6 f7 f8 hW
        go_loopw [] (fun wr => ∃ (pos : Nat) (r : TRd), pos ≤ (⟨(useOf m).toArray⟩ : ByteArray).size ∧ Hid (((useOf m).take pos).foldl useR ⟨R, false, { TAct.zero with kind := m }⟩ = r) ∧ Hid (RdFits r) ∧ ReadW w.heap.size I w r ⟨(useOf m).toArray⟩ pos wr) (fun wr => (⟨(useOf m).toArray⟩ : ByteArray).size - wr.iterPos I)
        case atStart =>
          exact ⟨0, _, by omega, Lib.hid (by simp), HR0, HS0⟩
        case round =>
          obtain ⟨pos, r, hpos, hfo, hfi, hW⟩ := hrel
          by_cases hp : pos < (⟨(useOf m).toArray⟩ : ByteArray).size
          · have hnx : ∀ ty, (Instr.next (.pointer (some ⟨I, 0, none⟩)) true ty).run Tryd.prog wr = _ := fun ty => Lib.run_next_ascii_at wr I ⟨(useOf m).toArray⟩ pos ty hW.hi hp (use_ascii m hm2 pos hp)
            have hW2 := hW.next hBI (pos + 1)
            have HC := Lib.hid (rd_any (w.heap.size + 1) r (wr.iterAt I (⟨(useOf m).toArray⟩ : ByteArray) (pos + 1)) ((⟨(useOf m).toArray⟩ : ByteArray)[pos]) (by
              have := use_letters m hm2 _ (use_mem m pos hp)
              simpa [letters] using this) (HG.out.below hW2.pw.hb) hW2.pw.hr (by omega) (by omega) (Nat.le_trans hfi.out.rest (by omega)))
            go_wp2_with (go_at_call 21; refine HC.out.mono ?_; rintro e w2 ⟨rfl, hr2, hb2⟩)
            have hW3 := hW2.but hBI hb2 hr2
            go_roundw
            case rel => exact ⟨pos + 1, _, by omega, Lib.hid (by rw [fold_step m pos _ hp, hfo.out]), Lib.hid (hfi.out.use _), hW3⟩
            case measure => simp only [World.iterPos, hW3.hi, hW.hi]; omega
          · have hnx : ∀ ty, (Instr.next (.pointer (some ⟨I, 0, none⟩)) true ty).run Tryd.prog wr = _ := fun ty => Lib.run_next_end_at wr I ⟨(useOf m).toArray⟩ pos ty hW.hi hp
            have HPR : Hid (parseR s.data.toList = r) := by
              show _ = _
              unfold parseR
              rw [← HFR.out.1, ← HFR.out.2, HKD.out, ← hfo.out, List.take_of_length_le (by have h5 := arr_size (useOf m); omega)]
            obtain ⟨rest, bad, kind, name, frm, til, text, n, l1, l2, l3⟩ := r
            have HLn := Lib.hid (line_any ⟨kind, name, frm, til, text, n, l1, l2, l3⟩ hfi.out.act wr (HG.out.below hW.pw.hb))
            have hHR := Lib.hid hW.pw.hr
            have hHA := Lib.hid hW.pw.ha
            have hHB := Lib.hid hW.pw.hb
            have hLE := Lib.hid (Nat.le_of_lt hW.pw.ha.lt)
            have HPA : Hid (parse s.data.toList = if bad = true ∨ lineErr ⟨kind, name, frm, til, text, n, l1, l2, l3⟩ ≠ 0 ∨ lineOf ⟨kind, name, frm, til, text, n, l1, l2, l3⟩ ≠ s.data.toList then none else some ⟨kind, name, frm, til, text, n, l1, l2, l3⟩) := by
              show _ = _
              unfold parse
              rw [HPR.out, ← HFR.out.1, HKD.out, if_neg (by simp [HKN.out])]
            have c2 := hW.pw.hr.cell 2
            have c3 := hW.pw.hr.cell 3
            have c4 := hW.pw.hr.cell 4
            have c5 := hW.pw.hr.cell 5
            have c6 := hW.pw.hr.cell 6
            have c7 := hW.pw.hr.cell 7
            have c8 := hW.pw.hr.cell 8
            have c9 := hW.pw.hr.cell 9
            have c10 := hW.pw.hr.cell 10
            simp only [cellsR, List.getElem?_toArray, List.getElem?_cons_zero, List.getElem?_cons_succ] at c2 c3 c4 c5 c6 c7 c8 c9 c10
            have hx : Hid (∃ (le : Nat) (ln : Bs), le = lineErr ⟨kind, name, frm, til, text, n, l1, l2, l3⟩ ∧ ln = lineOf ⟨kind, name, frm, til, text, n, l1, l2, l3⟩) := ⟨_, _, rfl, rfl⟩
            obtain ⟨le, ln, hle, hln⟩ := hx.out
            rw [← hle, ← hln] at HPA HLn
            clear hx hle hln hW hfo hfi HPR
            by_cases hbad : bad = true
            · subst hbad
              have HP : Hid (parse s.data.toList = none) := by show _ = _; rw [HPA.out, if_pos (.inl rfl)]
              clear HPA
              go_wp2_with (go_at_call 11; refine HLn.out.mono ?_; rintro e w2 ⟨rfl, hbl⟩; have hr2 := hHR.out.below hbl hHR.out.lt; have ha2 := hHA.out.below hbl hHA.out.lt; have b1 := hr2.cell 1; have b2 := hr2.cell 2; have b3 := hr2.cell 3; have b4 := hr2.cell 4; have b5 := hr2.cell 5; have b6 := hr2.cell 6; have b7 := hr2.cell 7; have b8 := hr2.cell 8; have b9 := hr2.cell 9; have b10 := hr2.cell 10; have a0 := ha2.cell 0; have a1 := ha2.cell 1; have a2 := ha2.cell 2; have a3 := ha2.cell 3; have a4 := ha2.cell 4; have a5 := ha2.cell 5; have a6 := ha2.cell 6; have a7 := ha2.cell 7; have a8 := ha2.cell 8; have f0 := ha2.free 0; have f1 := ha2.free 1; have f2 := ha2.free 2; have f3 := ha2.free 3; have f4 := ha2.free 4; have f5 := ha2.free 5; have f6 := ha2.free 6; have f7 := ha2.free 7; have f8 := ha2.free 8; simp only [cellsA, cellsR, TAct.zero, List.getElem?_toArray, List.getElem?_cons_zero, List.getElem?_cons_succ] at b1 b2 b3 b4 b5 b6 b7 b8 b9 b10 a0 a1 a2 a3 a4 a5 a6 a7 a8)
              refine parse_ret (ha2.all TAct.zero) rfl rfl ⟨?_, ?_⟩
              · rw [HP.out]; rfl
              · exact below_all (hHB.out.trans (hbl.mono hLE.out)) TAct.zero
            have hb0 : bad = false := by simpa using hbad
            subst hb0
            by_cases hle : le = 0
            rotate_left
            · have HP : Hid (parse s.data.toList = none) := by show _ = _; rw [HPA.out, if_pos (.inr (.inl hle))]
              have hle2 : ((le : Int) == 0) = false := by simp; omega
              clear HPA
              go_wp2_with (go_at_call 11; refine HLn.out.mono ?_; rintro e w2 ⟨rfl, hbl⟩; have hr2 := hHR.out.below hbl hHR.out.lt; have ha2 := hHA.out.below hbl hHA.out.lt; have b1 := hr2.cell 1; have b2 := hr2.cell 2; have b3 := hr2.cell 3; have b4 := hr2.cell 4; have b5 := hr2.cell 5; have b6 := hr2.cell 6; have b7 := hr2.cell 7; have b8 := hr2.cell 8; have b9 := hr2.cell 9; have b10 := hr2.cell 10; have a0 := ha2.cell 0; have a1 := ha2.cell 1; have a2 := ha2.cell 2; have a3 := ha2.cell 3; have a4 := ha2.cell 4; have a5 := ha2.cell 5; have a6 := ha2.cell 6; have a7 := ha2.cell 7; have a8 := ha2.cell 8; have f0 := ha2.free 0; have f1 := ha2.free 1; have f2 := ha2.free 2; have f3 := ha2.free 3; have f4 := ha2.free 4; have f5 := ha2.free 5; have f6 := ha2.free 6; have f7 := ha2.free 7; have f8 := ha2.free 8; simp only [cellsA, cellsR, TAct.zero, List.getElem?_toArray, List.getElem?_cons_zero, List.getElem?_cons_succ] at b1 b2 b3 b4 b5 b6 b7 b8 b9 b10 a0 a1 a2 a3 a4 a5 a6 a7 a8)
              refine parse_ret (ha2.all TAct.zero) rfl rfl ⟨?_, ?_⟩
              · rw [HP.out]; rfl
              · exact below_all (hHB.out.trans (hbl.mono hLE.out)) TAct.zero
            subst hle
            cases hls : (ln == s.toList) with
            | false =>
              have HP : Hid (parse s.data.toList = none) := by show _ = _; rw [HPA.out, if_pos (.inr (.inr (by rw [Lib.toList_data] at hls; simpa using hls)))]
              clear HPA
              go_wp2_with (go_at_call 11; refine HLn.out.mono ?_; rintro e w2 ⟨rfl, hbl⟩; have hr2 := hHR.out.below hbl hHR.out.lt; have ha2 := hHA.out.below hbl hHA.out.lt; have b1 := hr2.cell 1; have b2 := hr2.cell 2; have b3 := hr2.cell 3; have b4 := hr2.cell 4; have b5 := hr2.cell 5; have b6 := hr2.cell 6; have b7 := hr2.cell 7; have b8 := hr2.cell 8; have b9 := hr2.cell 9; have b10 := hr2.cell 10; have a0 := ha2.cell 0; have a1 := ha2.cell 1; have a2 := ha2.cell 2; have a3 := ha2.cell 3; have a4 := ha2.cell 4; have a5 := ha2.cell 5; have a6 := ha2.cell 6; have a7 := ha2.cell 7; have a8 := ha2.cell 8; have f0 := ha2.free 0; have f1 := ha2.free 1; have f2 := ha2.free 2; have f3 := ha2.free 3; have f4 := ha2.free 4; have f5 := ha2.free 5; have f6 := ha2.free 6; have f7 := ha2.free 7; have f8 := ha2.free 8; simp only [cellsA, cellsR, TAct.zero, List.getElem?_toArray, List.getElem?_cons_zero, List.getElem?_cons_succ] at b1 b2 b3 b4 b5 b6 b7 b8 b9 b10 a0 a1 a2 a3 a4 a5 a6 a7 a8)
              refine parse_ret (ha2.all TAct.zero) rfl rfl ⟨?_, ?_⟩
              · rw [HP.out]; rfl
              · exact below_all (hHB.out.trans (hbl.mono hLE.out)) TAct.zero
            | true =>
              have HP : Hid (parse s.data.toList = some ⟨kind, name, frm, til, text, n, l1, l2, l3⟩) := by
                show _ = _
                rw [HPA.out, if_neg]
                have : ln = s.data.toList := by rw [Lib.toList_data] at hls; simpa using hls
                simp [this]
              clear HPA
              go_wp2_with (go_at_call 11; refine HLn.out.mono ?_; rintro e w2 ⟨rfl, hbl⟩; have hr2 := hHR.out.below hbl hHR.out.lt; have ha2 := hHA.out.below hbl hHA.out.lt; have b1 := hr2.cell 1; have b2 := hr2.cell 2; have b3 := hr2.cell 3; have b4 := hr2.cell 4; have b5 := hr2.cell 5; have b6 := hr2.cell 6; have b7 := hr2.cell 7; have b8 := hr2.cell 8; have b9 := hr2.cell 9; have b10 := hr2.cell 10; have a0 := ha2.cell 0; have a1 := ha2.cell 1; have a2 := ha2.cell 2; have a3 := ha2.cell 3; have a4 := ha2.cell 4; have a5 := ha2.cell 5; have a6 := ha2.cell 6; have a7 := ha2.cell 7; have a8 := ha2.cell 8; have f0 := ha2.free 0; have f1 := ha2.free 1; have f2 := ha2.free 2; have f3 := ha2.free 3; have f4 := ha2.free 4; have f5 := ha2.free 5; have f6 := ha2.free 6; have f7 := ha2.free 7; have f8 := ha2.free 8; simp only [cellsA, cellsR, TAct.zero, List.getElem?_toArray, List.getElem?_cons_zero, List.getElem?_cons_succ] at b1 b2 b3 b4 b5 b6 b7 b8 b9 b10 a0 a1 a2 a3 a4 a5 a6 a7 a8)
              refine parse_ret (ha2.all ⟨kind, name, frm, til, text, n, l1, l2, l3⟩) rfl rfl ⟨?_, ?_⟩
              · rw [HP.out]; rfl
              · exact below_all (hHB.out.trans (hbl.mono hLE.out)) ⟨kind, name, frm, til, text, n, l1, l2, l3⟩
end Go.Proofs.YtelehacakbaobaaDoor

namespace Go.Proofs.YtelehacakbaobaaDoor
open Go.RowKit
set_option linter.unusedVariables false
set_option linter.unusedSimpArgs false

/-! ### Quoted texts -/
theorem qbyte_back (c : UInt8) (h : plainB c = false) : byteOf (hexd (c.toNat / 16)) (hexd (c.toNat % 16)) = c := by
  have hh : ∀ n : Fin 256, byteOf (hexd ((UInt8.ofNat n.val).toNat / 16)) (hexd ((UInt8.ofNat n.val).toNat % 16)) = UInt8.ofNat n.val := by decide +kernel
  have := hh ⟨c.toNat, c.toNat_lt⟩
  simpa using this
theorem plain_ne (c : UInt8) (h : plainB c = true) : ¬ c = 92 := by
  intro e; subst e; exact absurd h (by decide)
theorem unq_flat (t : Bs) : unq (t.flatMap qbyte) = some t := by
  induction t with
  | nil => simp [unq]
  | cons c t ih =>
    rw [List.flatMap_cons]
    by_cases h : plainB c = true
    · rw [show qbyte c = [c] by unfold qbyte; rw [if_pos h], List.singleton_append, unq_plain _ _ (plain_ne c h), ih]; rfl
    · have h2 : plainB c = false := by simpa using h
      rw [show qbyte c = [92, hexd (c.toNat / 16), hexd (c.toNat % 16)] by unfold qbyte; rw [if_neg h]]
      show unq (92 :: hexd (c.toNat / 16) :: hexd (c.toNat % 16) :: List.flatMap qbyte t) = _
      rw [unq_pair, ih, qbyte_back c h2]; rfl
theorem body_quote (t : Bs) : body (quote t) = t.flatMap qbyte := by
  unfold body quote
  simp
theorem unquote_quote (t : Bs) : unquote (quote t) = some t := by
  unfold unquote
  rw [if_neg (by unfold quote; simp [List.getLast?_cons, List.getLast?_append]), body_quote, unq_flat]
  simp
theorem unquote_back (l t : Bs) (h : unquote l = some t) : quote t = l := by
  unfold unquote at h
  split at h
  · cases h
  · split at h
    · split at h
      · cases h; assumption
      · cases h
    · cases h

/-! ### Numerals -/
theorem digit_nat (u : Nat) (h : u < 10) : (UInt8.ofNat (48 + u)).toNat = 48 + u := by
  have : (48 + u) % 256 = 48 + u := Nat.mod_eq_of_lt (by omega)
  simpa using this
theorem parse_snoc (l : Bs) (c : UInt8) (hc : 48 ≤ c.toNat ∧ c.toNat ≤ 57) (v : Nat) (h1 : v < 1844674407370955162) (h2 : v * 10 + (c.toNat - 48) < 18446744073709551616) :
    ∀ acc, Lib.parseUint10 acc l = .ok v → Lib.parseUint10 acc (l ++ [c]) = .ok (v * 10 + (c.toNat - 48)) := by
  induction l with
  | nil =>
    intro acc h
    simp only [Lib.parseUint10] at h
    injection h with h
    subst h
    simp only [List.nil_append, Lib.parseUint10]
    rw [if_pos hc, if_neg (by omega), if_neg (by omega)]
  | cons a l ih =>
    intro acc h
    rw [List.cons_append]
    unfold Lib.parseUint10 at h ⊢
    split at h
    · rename_i h3
      rw [if_pos h3]
      split at h
      · cases h
      · rename_i h4
        rw [if_neg h4]
        split at h
        · cases h
        · rename_i h5
          rw [if_neg h5]; exact ih _ h
    · cases h
theorem parse_dec (u : Nat) (h : u < 18446744073709551616) : Lib.parseUint10 0 (Lib.decDigits u) = .ok u := by
  induction u using Nat.strongRecOn with
  | _ u ih =>
    by_cases h10 : u < 10
    · rw [Lib.decDigits, dif_pos h10]
      have e := digit_nat u h10
      simp only [Lib.parseUint10]
      rw [if_pos (by omega), if_neg (by omega), if_neg (by omega), e]
      congr 1; omega
    · rw [Lib.decDigits, dif_neg h10]
      have e := digit_nat (u % 10) (by omega)
      have := parse_snoc (Lib.decDigits (u / 10)) (UInt8.ofNat (48 + u % 10)) (by omega) (u / 10) (by omega) (by omega) 0 (ih (u / 10) (by omega) (by omega))
      rw [this, e]; congr 1; omega
theorem dec_digits (u : Nat) : ∀ c ∈ Lib.decDigits u, 48 ≤ c.toNat ∧ c.toNat ≤ 57 := by
  induction u using Nat.strongRecOn with
  | _ u ih =>
    intro c hc
    by_cases h10 : u < 10
    · rw [Lib.decDigits, dif_pos h10] at hc
      simp only [List.mem_singleton] at hc
      rw [hc, digit_nat u h10]; omega
    · rw [Lib.decDigits, dif_neg h10] at hc
      simp only [List.mem_append, List.mem_singleton] at hc
      rcases hc with hc | hc
      · exact ih _ (by omega) c hc
      · rw [hc, digit_nat _ (by omega)]; omega
theorem dec_ne (u : Nat) : Lib.decDigits u ≠ [] := by
  rw [Lib.decDigits]; split <;> simp
theorem parse_mag (u : Nat) (h : u < 18446744073709551616) : Lib.parseMag (Lib.decDigits u) = .ok u := by
  unfold Lib.parseMag; rw [if_neg (dec_ne u), parse_dec u h]
theorem atoi_itoa (n : Int) (h0 : -9223372036854775808 ≤ n) (h1 : n ≤ 9223372036854775807) : Lib.atoiAll (Lib.itoa n) = .ok n := by
  unfold Lib.itoa
  split
  · rw [Lib.atoiAll_minus, parse_mag _ (by omega)]
    simp only [Lib.signed]
    rw [if_neg (by omega)]; congr 1; omega
  · have hne := dec_ne n.toNat
    have hd := dec_digits n.toNat
    have hm := parse_mag n.toNat (by omega)
    cases hl : Lib.decDigits n.toNat with
    | nil => exact absurd hl hne
    | cons c r =>
      rw [hl] at hd hm
      have hc := hd c (by simp)
      rw [Lib.atoiAll_plain c r (by omega) (by omega), hm]
      simp only [Lib.signless]
      rw [if_neg (by omega)]; congr 1; omega
theorem numOf_itoa (n : Int) (h0 : -9223372036854775808 ≤ n) (h1 : n ≤ 9223372036854775807) : numOf (Lib.itoa n) = n := by unfold numOf; rw [atoi_itoa n h0 h1]
theorem numBad_itoa (n : Int) (h0 : -9223372036854775808 ≤ n) (h1 : n ≤ 9223372036854775807) : numBad (Lib.itoa n) = false := by unfold numBad; rw [atoi_itoa n h0 h1]
theorem itoa_noblank (n : Int) : ∀ c ∈ Lib.itoa n, (c != 32) = true := by
  have key : ∀ u, ∀ c ∈ Lib.decDigits u, (c != 32) = true := by
    intro u c hc
    have := dec_digits u c hc
    rw [bne_iff_ne]; intro e; subst e
    have : (32 : UInt8).toNat = 32 := rfl
    omega
  unfold Lib.itoa
  split
  · intro c hc
    simp only [List.mem_cons] at hc
    rcases hc with rfl | hc
    · rfl
    · exact key _ c hc
  · exact key _
theorem name_noblank (l : Bs) (h : nameOk l = true) : ∀ c ∈ l, (c != 32) = true := by
  intro c hc
  unfold nameOk at h
  cases l with
  | nil => cases h
  | cons a r =>
    simp only [Bool.and_eq_true, List.all_eq_true] at h
    have := h.1.1.2 c hc
    rw [bne_iff_ne]; intro e; subst e
    exact absurd this (by decide)

/-! ### Words off -/
theorem cutWord_to (x r : Bs) (h : ∀ c ∈ x, (c != 32) = true) : cutWord (x ++ 32 :: r) = x := by
  rw [cutWord_eq, List.takeWhile_append_of_pos h]; simp
theorem cutRest_to (x r : Bs) (h : ∀ c ∈ x, (c != 32) = true) : cutRest (x ++ 32 :: r) = r := by
  rw [cutRest_eq, List.dropWhile_append_of_pos h]; simp
theorem cutWord_all (x : Bs) (h : ∀ c ∈ x, (c != 32) = true) : cutWord x = x := by
  have := List.takeWhile_append_of_pos (l₂ := []) h
  rw [cutWord_eq]; simpa using this
theorem cutRest_all (x : Bs) (h : ∀ c ∈ x, (c != 32) = true) : cutRest x = [] := by
  have := List.dropWhile_append_of_pos (l₂ := []) h
  rw [cutRest_eq]; simp at this ⊢; rw [this]; simp
theorem numR_to (n : Int) (r : Bs) (b : Bool) (a : TAct) (h0 : -9223372036854775808 ≤ n) (h1 : n ≤ 9223372036854775807) : numR ⟨Lib.itoa n ++ 32 :: r, b, a⟩ = ⟨r, b, a⟩ ∧ numV ⟨Lib.itoa n ++ 32 :: r, b, a⟩ = n := by
  unfold numR numV
  simp only [cutWord_to _ _ (itoa_noblank n), cutRest_to _ _ (itoa_noblank n), numOf_itoa n h0 h1, numBad_itoa n h0 h1, Bool.or_false, and_self]
theorem numR_all (n : Int) (b : Bool) (a : TAct) (h0 : -9223372036854775808 ≤ n) (h1 : n ≤ 9223372036854775807) : numR ⟨Lib.itoa n, b, a⟩ = ⟨[], b, a⟩ ∧ numV ⟨Lib.itoa n, b, a⟩ = n := by
  unfold numR numV
  simp only [cutWord_all _ (itoa_noblank n), cutRest_all _ (itoa_noblank n), numOf_itoa n h0 h1, numBad_itoa n h0 h1, Bool.or_false, and_self]
theorem rd_use_name_to (x r : Bs) (b : Bool) (a : TAct) (h : ∀ c ∈ x, (c != 32) = true) : useR ⟨x ++ 32 :: r, b, a⟩ 110 = ⟨r, b, { a with name := x }⟩ := by
  unfold useR; rw [if_pos rfl]; simp only [cutWord_to _ _ h, cutRest_to _ _ h]
theorem rd_use_name_all (x : Bs) (b : Bool) (a : TAct) (h : ∀ c ∈ x, (c != 32) = true) : useR ⟨x, b, a⟩ 110 = ⟨[], b, { a with name := x }⟩ := by
  unfold useR; rw [if_pos rfl]; simp only [cutWord_all _ h, cutRest_all _ h]
theorem rd_use_text (t : Bs) (b : Bool) (a : TAct) : useR ⟨quote t, b, a⟩ 116 = ⟨[], b, { a with text := t }⟩ := by
  unfold useR; rw [if_neg (by decide), if_pos rfl]; simp only [unquote_quote]; simp
theorem rd_use_frm (n : Int) (r : Bs) (b : Bool) (a : TAct) (h0 : -9223372036854775808 ≤ n) (h1 : n ≤ 9223372036854775807) : useR ⟨Lib.itoa n ++ 32 :: r, b, a⟩ 102 = ⟨r, b, { a with frm := n }⟩ := by
  unfold useR; rw [if_neg (by decide), if_neg (by decide), if_pos rfl]; rw [(numR_to n r b a h0 h1).1, (numR_to n r b a h0 h1).2]
theorem rd_use_til (n : Int) (r : Bs) (b : Bool) (a : TAct) (h0 : -9223372036854775808 ≤ n) (h1 : n ≤ 9223372036854775807) : useR ⟨Lib.itoa n ++ 32 :: r, b, a⟩ 111 = ⟨r, b, { a with til := n }⟩ := by
  unfold useR; rw [if_neg (by decide), if_neg (by decide), if_neg (by decide), if_pos rfl]; rw [(numR_to n r b a h0 h1).1, (numR_to n r b a h0 h1).2]
theorem rd_use_fuel (n : Int) (b : Bool) (a : TAct) (h0 : -9223372036854775808 ≤ n) (h1 : n ≤ 9223372036854775807) : useR ⟨Lib.itoa n, b, a⟩ 117 = ⟨[], b, { a with n := n }⟩ := by
  unfold useR; rw [if_neg (by decide), if_neg (by decide), if_neg (by decide), if_neg (by decide), if_pos rfl]; rw [(numR_all n b a h0 h1).1, (numR_all n b a h0 h1).2]
theorem rd_use_limits (x y z : Int) (b : Bool) (a : TAct) (hx : -9223372036854775808 ≤ x ∧ x ≤ 9223372036854775807) (hy : -9223372036854775808 ≤ y ∧ y ≤ 9223372036854775807) (hz : -9223372036854775808 ≤ z ∧ z ≤ 9223372036854775807) :
    useR ⟨Lib.itoa x ++ 32 :: (Lib.itoa y ++ 32 :: Lib.itoa z), b, a⟩ 108 = ⟨[], b, { a with l1 := x, l2 := y, l3 := z }⟩ := by
  unfold useR; rw [if_neg (by decide), if_neg (by decide), if_neg (by decide), if_neg (by decide), if_neg (by decide), if_pos rfl]
  rw [(numR_to x _ b a hx.1 hx.2).1, (numR_to x _ b a hx.1 hx.2).2, (numR_to y _ b a hy.1 hy.2).1, (numR_to y _ b a hy.1 hy.2).2, (numR_all z b a hz.1 hz.2).1, (numR_all z b a hz.1 hz.2).2]

/-! ### The line as a whole -/
theorem word_noblank (m : Nat) (h : m ≤ 7) : ∀ c ∈ wordOf m, (c != 32) = true := by
  have hh : ∀ j : Fin 8, ∀ c ∈ wordOf j.val, (c != 32) = true := by decide +kernel
  exact hh ⟨m, by omega⟩
theorem kind_word (m : Nat) (h1 : 1 ≤ m) (h : m ≤ 7) : kindTo (wordOf m) 8 = m := by
  have hh : ∀ j : Fin 8, 1 ≤ j.val → kindTo (wordOf j.val) 8 = j.val := by decide +kernel
  exact hh ⟨m, by omega⟩ h1
/-- What is told behind the word, read from there on. -/
theorem parse_of (m : Nat) (h1 : 1 ≤ m) (h7 : m ≤ 7) (a : TAct) (ha : a.kind = m) (r : Bs) (he : lineErr a = 0) (s : Bs) (hs : lineOf a = s) (hw : cutWord s = wordOf m) (hr : cutRest s = r)
    (hp : ∃ r', (useOf m).foldl useR ⟨r, false, { TAct.zero with kind := m }⟩ = ⟨r', false, a⟩) : parse s = some a := by
  obtain ⟨r', hp⟩ := hp
  have e : parseR s = ⟨r', false, a⟩ := by unfold parseR; rw [hw, kind_word m h1 h7, hr]; exact hp
  unfold parse
  rw [hw, kind_word m h1 h7, if_neg (by unfold known; simp; omega), e, if_neg (by simp [he, hs])]
theorem err_zero (a : TAct) (h : lineErr a = 0) : known a.kind = true ∧ a = bare a (useOf a.kind) ∧ ((useOf a.kind).contains 110 = true → nameOk a.name = true) ∧ a.text.length ≤ 4096 := by
  unfold lineErr at h
  split at h
  · cases h
  · rename_i g1
    split at h
    · cases h
    · rename_i g2
      split at h
      · cases h
      · rename_i g3
        split at h
        · cases h
        · rename_i g4
          refine ⟨by simpa using g1, by simpa using g2, ?_, by omega⟩
          intro hc
          rw [hc] at g3
          simpa using g3
theorem parse_lineOf (a : TAct) (hf : a.Fits) (he : lineErr a = 0) : parse (lineOf a) = some a := by
  obtain ⟨hk, hb, hn, _⟩ := err_zero a he
  obtain ⟨kind, name, frm, til, text, n, l1, l2, l3⟩ := a
  have hk' : 1 ≤ kind ∧ kind ≤ 7 := by simpa [known] using hk
  obtain ⟨m, rfl⟩ := Int.eq_ofNat_of_zero_le (show 0 ≤ kind by omega)
  have hm1 : 1 ≤ m := by omega
  have hm2 : m ≤ 7 := by omega
  clear hk hk'
  have hl : lineOf ⟨m, name, frm, til, text, n, l1, l2, l3⟩ = lineText ⟨m, name, frm, til, text, n, l1, l2, l3⟩ := by unfold lineOf; rw [if_pos he]
  have hm : m = 1 ∨ m = 2 ∨ m = 3 ∨ m = 4 ∨ m = 5 ∨ m = 6 ∨ m = 7 := by omega
  have hfr := hf.frm
  have hti := hf.til
  have hnn := hf.n
  have h1 := hf.l1
  have h2 := hf.l2
  have h3 := hf.l3
  dsimp only at hfr hti hnn h1 h2 h3
  rcases hm with rfl | rfl | rfl | rfl | rfl | rfl | rfl
  · have hN := name_noblank name (hn rfl)
    have hT : lineOf ⟨(1 : Nat), name, frm, til, text, n, l1, l2, l3⟩ = wordOf 1 ++ 32 :: (name ++ 32 :: quote text) := by rw [hl]; simp [lineText, useOf, tell]
    refine parse_of 1 (by omega) (by omega) _ rfl (name ++ 32 :: quote text) he _ rfl ?_ ?_ ⟨[], ?_⟩
    · rw [hT]; exact cutWord_to _ _ (word_noblank 1 (by omega))
    · rw [hT]; exact cutRest_to _ _ (word_noblank 1 (by omega))
    · show useR (useR _ 110) 116 = _
      rw [rd_use_name_to _ _ _ _ hN, rd_use_text]
      rw [hb]; rfl
  · have hN := name_noblank name (hn rfl)
    have hT : lineOf ⟨(2 : Nat), name, frm, til, text, n, l1, l2, l3⟩ = wordOf 2 ++ 32 :: (name ++ 32 :: (Lib.itoa frm ++ 32 :: (Lib.itoa til ++ 32 :: quote text))) := by rw [hl]; simp [lineText, useOf, tell]
    refine parse_of 2 (by omega) (by omega) _ rfl (name ++ 32 :: (Lib.itoa frm ++ 32 :: (Lib.itoa til ++ 32 :: quote text))) he _ rfl ?_ ?_ ⟨[], ?_⟩
    · rw [hT]; exact cutWord_to _ _ (word_noblank 2 (by omega))
    · rw [hT]; exact cutRest_to _ _ (word_noblank 2 (by omega))
    · show useR (useR (useR (useR _ 110) 102) 111) 116 = _
      rw [rd_use_name_to _ _ _ _ hN, rd_use_frm _ _ _ _ hfr.1 hfr.2, rd_use_til _ _ _ _ hti.1 hti.2, rd_use_text]
      rw [hb]; rfl
  · have hN := name_noblank name (hn rfl)
    have hT : lineOf ⟨(3 : Nat), name, frm, til, text, n, l1, l2, l3⟩ = wordOf 3 ++ 32 :: name := by rw [hl]; simp [lineText, useOf, tell]
    refine parse_of 3 (by omega) (by omega) _ rfl name he _ rfl ?_ ?_ ⟨[], ?_⟩
    · rw [hT]; exact cutWord_to _ _ (word_noblank 3 (by omega))
    · rw [hT]; exact cutRest_to _ _ (word_noblank 3 (by omega))
    · show useR _ 110 = _
      rw [rd_use_name_all _ _ _ hN]
      rw [hb]; rfl
  · have hN := name_noblank name (hn rfl)
    have hT : lineOf ⟨(4 : Nat), name, frm, til, text, n, l1, l2, l3⟩ = wordOf 4 ++ 32 :: name := by rw [hl]; simp [lineText, useOf, tell]
    refine parse_of 4 (by omega) (by omega) _ rfl name he _ rfl ?_ ?_ ⟨[], ?_⟩
    · rw [hT]; exact cutWord_to _ _ (word_noblank 4 (by omega))
    · rw [hT]; exact cutRest_to _ _ (word_noblank 4 (by omega))
    · show useR _ 110 = _
      rw [rd_use_name_all _ _ _ hN]
      rw [hb]; rfl
  · have hN := name_noblank name (hn rfl)
    have hT : lineOf ⟨(5 : Nat), name, frm, til, text, n, l1, l2, l3⟩ = wordOf 5 ++ 32 :: (name ++ 32 :: Lib.itoa n) := by rw [hl]; simp [lineText, useOf, tell]
    refine parse_of 5 (by omega) (by omega) _ rfl (name ++ 32 :: Lib.itoa n) he _ rfl ?_ ?_ ⟨[], ?_⟩
    · rw [hT]; exact cutWord_to _ _ (word_noblank 5 (by omega))
    · rw [hT]; exact cutRest_to _ _ (word_noblank 5 (by omega))
    · show useR (useR _ 110) 117 = _
      rw [rd_use_name_to _ _ _ _ hN, rd_use_fuel _ _ _ hnn.1 hnn.2]
      rw [hb]; rfl
  · have hT : lineOf ⟨(6 : Nat), name, frm, til, text, n, l1, l2, l3⟩ = wordOf 6 ++ 32 :: (Lib.itoa l1 ++ 32 :: (Lib.itoa l2 ++ 32 :: Lib.itoa l3)) := by rw [hl]; simp [lineText, useOf, tell]
    refine parse_of 6 (by omega) (by omega) _ rfl (Lib.itoa l1 ++ 32 :: (Lib.itoa l2 ++ 32 :: Lib.itoa l3)) he _ rfl ?_ ?_ ⟨[], ?_⟩
    · rw [hT]; exact cutWord_to _ _ (word_noblank 6 (by omega))
    · rw [hT]; exact cutRest_to _ _ (word_noblank 6 (by omega))
    · show useR _ 108 = _
      rw [rd_use_limits _ _ _ _ _ h1 h2 h3]
      rw [hb]; rfl
  · have hT : lineOf ⟨(7 : Nat), name, frm, til, text, n, l1, l2, l3⟩ = wordOf 7 := by rw [hl]; simp [lineText, useOf]
    refine parse_of 7 (by omega) (by omega) _ rfl [] he _ rfl ?_ ?_ ⟨[], ?_⟩
    · rw [hT]; exact cutWord_all _ (word_noblank 7 (by omega))
    · rw [hT]; exact cutRest_all _ (word_noblank 7 (by omega))
    · rw [hb]; rfl
end Go.Proofs.YtelehacakbaobaaDoor

namespace Go.Proofs.YtelehacakbaobaaDoor
open Go.RowKit
set_option linter.unusedVariables false
set_option linter.unusedSimpArgs false

def awakeA : TAct := ⟨1, [97], 0, 0, [49, 32, 35, 10], 0, 0, 0, 0⟩
theorem awake_line : lineOf awakeA = [111, 112, 101, 110, 32, 97, 32, 34, 49, 32, 35, 92, 48, 97, 34] ∧ lineErr awakeA = 0 := by decide +kernel
theorem awake_call (w : World) (hG : GW w) : Calls Tryd.prog 11 #[.agg #[.int .i64 1, .string ⟨#[97]⟩, .int .i64 0, .int .i64 0, .string ⟨#[49, 32, 35, 10]⟩, .int .i64 0, .int .i64 0, .int .i64 0, .int .i64 0]] w fun e w' =>
    e = .returned (.tuple #[.string ⟨#[111, 112, 101, 110, 32, 97, 32, 34, 49, 32, 35, 92, 48, 97, 34]⟩, .int .i64 0]) ∧ Below w.heap.size w w' := by
  have h := line_any awakeA (by constructor <;> simp [awakeA]) w hG
  rw [awake_line.1, awake_line.2] at h
  exact h
set_option maxRecDepth 100000 in
theorem awake_any (w : World) (hG : GW w) : Calls Tryd.prog 8 #[] w fun e w' => e = .returned (.bool true) ∧ Below w.heap.size w w' := by
  have HC := Lib.hid (awake_call w hG)
  clear hG
  go_enter Tryd.func8, Tryd.ntmps8
  go_wp2_with (go_at_call 11; refine HC.out.mono ?_; rintro e w' ⟨rfl, hb⟩)
  go_ret
  exact ⟨rfl, hb⟩

/-- Are two acts the same? -/
def actEq (x y : TAct) : Bool := decide (x = y)
theorem eql_act (x y : TAct) (wx : World) : Sem.run Tryd.prog (binOp .eql 26 (.agg (cellsA x)) (.agg (cellsA y))) wx = .ok (.bool (actEq x y)) wx := by
  unfold cellsA actEq
  rw [run_eql_struct, PR.eqA26 9997]
  simp only [Result.andThen]
  congr 2
  obtain ⟨x0, x1, x2, x3, x4, x5, x6, x7, x8⟩ := x
  obtain ⟨y0, y1, y2, y3, y4, y5, y6, y7, y8⟩ := y
  rw [Bool.eq_iff_iff]
  simp only [Lib.toList_data, Bool.and_eq_true, beq_iff_eq, decide_eq_true_iff, TAct.mk.injEq]
theorem actNe_eq (x y : TAct) : actNe x y = !actEq x y := by
  unfold actNe actEq
  by_cases h : x = y <;> simp [h]
theorem load_act {w : World} {b : Nat} {a : TAct} (h : HasAct w b a) : ∀ j, j < 9 → w.cell? ⟨b, j, none⟩ = (cellsA a)[j]? := fun j _ => h.cell j
set_option maxRecDepth 100000 in
set_option maxHeartbeats 1000000 in
theorem same_any (x y : TAct) (w : World) : Calls Tryd.prog 14 #[.agg #[.int .i64 x.kind, .string ⟨x.name.toArray⟩, .int .i64 x.frm, .int .i64 x.til, .string ⟨x.text.toArray⟩, .int .i64 x.n, .int .i64 x.l1, .int .i64 x.l2, .int .i64 x.l3], .agg #[.int .i64 y.kind, .string ⟨y.name.toArray⟩, .int .i64 y.frm, .int .i64 y.til, .string ⟨y.text.toArray⟩, .int .i64 y.n, .int .i64 y.l1, .int .i64 y.l2, .int .i64 y.l3]] w fun e w' =>
    e = .returned (.bool (actEq x y)) ∧ Below w.heap.size w w' := by
  have HE : ∀ wx, Sem.run Tryd.prog (binOp .eql 26 (.agg #[.int .i64 x.kind, .string ⟨x.name.toArray⟩, .int .i64 x.frm, .int .i64 x.til, .string ⟨x.text.toArray⟩, .int .i64 x.n, .int .i64 x.l1, .int .i64 x.l2, .int .i64 x.l3]) (.agg #[.int .i64 y.kind, .string ⟨y.name.toArray⟩, .int .i64 y.frm, .int .i64 y.til, .string ⟨y.text.toArray⟩, .int .i64 y.n, .int .i64 y.l1, .int .i64 y.l2, .int .i64 y.l3])) wx = .ok (.bool (actEq x y)) wx := fun wx => eql_act x y wx
  go_enter Tryd.func14, Tryd.ntmps14
  go_wp2
  go_ret
  exact ⟨rfl, ((Below.refl _ _).alloc (Nat.le_refl _) _).alloc (by simp) _⟩
end Go.Proofs.YtelehacakbaobaaDoor

namespace Go.Proofs.YtelehacakbaobaaDoor
open Go.RowKit
set_option linter.unusedVariables false
set_option linter.unusedSimpArgs false

theorem ref_name_call (l : Bs) (hl : l.length ≤ 100000) (w : World) : Calls Tryd.prog 30 #[.string ⟨l.toArray⟩] w fun e w' => e = .returned (.bool (nameOk l)) ∧ Below w.heap.size w w' :=
  ref_name_any ⟨l.toArray⟩ (by show l.toArray.size ≤ _; simp; omega) w
def limNe (a b c : Int) : Bool := decide (¬ (a = 0 ∧ b = 0 ∧ c = 0))
theorem neq_lim (a b c : Int) (wx : World) : Sem.run Tryd.prog (binOp .neq 24 (.agg #[.int .i64 a, .int .i64 b, .int .i64 c]) (.agg #[.int .i64 0, .int .i64 0, .int .i64 0])) wx = .ok (.bool (limNe a b c)) wx := by
  unfold limNe
  rw [run_neq_struct, PR.eqA24 9998]
  simp only [Result.andThen]
  congr 2
  rw [Bool.eq_iff_iff]
  simp only [Bool.not_eq_true', Bool.and_eq_false_iff, beq_eq_false_iff_ne, decide_eq_true_iff, ne_eq]
  grind
theorem err_gen (a : TAct) (h : known a.kind = true) : lineErr a = if a = bare a (useOf a.kind) ∧ ((useOf a.kind).contains 110 = true → nameOk a.name = true) then (if 4096 < a.text.length then 2 else 0) else 1 := by
  unfold lineErr
  rw [if_neg (by simp [h])]
  by_cases h1 : a = bare a (useOf a.kind)
  · rw [if_neg (by simpa using h1)]
    cases h2 : (useOf a.kind).contains 110 <;> cases h3 : nameOk a.name <;> simp [← h1]
  · rw [if_pos h1, if_neg (by simp [h1])]
theorem err_1 (name : Bs) (frm til : Int) (text : Bs) (n l1 l2 l3 : Int) : lineErr ⟨1, name, frm, til, text, n, l1, l2, l3⟩ = if (frm = 0 ∧ til = 0 ∧ n = 0 ∧ l1 = 0 ∧ l2 = 0 ∧ l3 = 0) ∧ nameOk name = true then (if 4096 < text.length then 2 else 0) else 1 := by
  rw [err_gen _ (by rfl)]; simp [useOf, bare, keep, TAct.zero]
theorem err_2 (name : Bs) (frm til : Int) (text : Bs) (n l1 l2 l3 : Int) : lineErr ⟨2, name, frm, til, text, n, l1, l2, l3⟩ = if (n = 0 ∧ l1 = 0 ∧ l2 = 0 ∧ l3 = 0) ∧ nameOk name = true then (if 4096 < text.length then 2 else 0) else 1 := by
  rw [err_gen _ (by rfl)]; simp [useOf, bare, keep, TAct.zero]
theorem err_3 (name : Bs) (frm til : Int) (text : Bs) (n l1 l2 l3 : Int) : lineErr ⟨3, name, frm, til, text, n, l1, l2, l3⟩ = if (frm = 0 ∧ til = 0 ∧ text = [] ∧ n = 0 ∧ l1 = 0 ∧ l2 = 0 ∧ l3 = 0) ∧ nameOk name = true then 0 else 1 := by
  rw [err_gen _ (by rfl)]; simp [useOf, bare, keep, TAct.zero]; grind
theorem err_4 (name : Bs) (frm til : Int) (text : Bs) (n l1 l2 l3 : Int) : lineErr ⟨4, name, frm, til, text, n, l1, l2, l3⟩ = if (frm = 0 ∧ til = 0 ∧ text = [] ∧ n = 0 ∧ l1 = 0 ∧ l2 = 0 ∧ l3 = 0) ∧ nameOk name = true then 0 else 1 := by
  rw [err_gen _ (by rfl)]; simp [useOf, bare, keep, TAct.zero]; grind
theorem err_5 (name : Bs) (frm til : Int) (text : Bs) (n l1 l2 l3 : Int) : lineErr ⟨5, name, frm, til, text, n, l1, l2, l3⟩ = if (frm = 0 ∧ til = 0 ∧ text = [] ∧ l1 = 0 ∧ l2 = 0 ∧ l3 = 0) ∧ nameOk name = true then 0 else 1 := by
  rw [err_gen _ (by rfl)]; simp [useOf, bare, keep, TAct.zero]; grind
theorem err_6 (name : Bs) (frm til : Int) (text : Bs) (n l1 l2 l3 : Int) : lineErr ⟨6, name, frm, til, text, n, l1, l2, l3⟩ = if name = [] ∧ frm = 0 ∧ til = 0 ∧ text = [] ∧ n = 0 then 0 else 1 := by
  rw [err_gen _ (by rfl)]; simp [useOf, bare, keep, TAct.zero]; grind
theorem err_7 (name : Bs) (frm til : Int) (text : Bs) (n l1 l2 l3 : Int) : lineErr ⟨7, name, frm, til, text, n, l1, l2, l3⟩ = if name = [] ∧ frm = 0 ∧ til = 0 ∧ text = [] ∧ n = 0 ∧ l1 = 0 ∧ l2 = 0 ∧ l3 = 0 then 0 else 1 := by
  rw [err_gen _ (by rfl)]; simp [useOf, bare, keep, TAct.zero]; grind

end Go.Proofs.YtelehacakbaobaaDoor

