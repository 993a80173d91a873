/- The document's reading of a quoted text, in the printed form and plain: ref28.Unquote = unquote. -/
import Derived.Test.YtelehacakbaobaaDoorSplit
import Derived.Test.YtelehacakbaobaaDoorMParse
import Derived.Test.YtelehacakbaobaaDoorPRx3
namespace Go.Proofs.YtelehacakbaobaaDoor
open Go.RowKit Go.Proofs.YtelehacakbaobaaDoorW.PrintWords PR
set_option linter.unusedVariables false
set_option linter.unusedSimpArgs false

/-- What stands between the quotes, read so that just what Quote writes is read. -/
def runq : Bs → Option Bs
  | [] => some []
  | c :: r => if c = 92 then match r with
      | a :: b :: r' => if isHex a && isHex b && !plainB (byteOf a b) then (runq r').map (byteOf a b :: ·) else none
      | _ => none
    else if plainB c then (runq r).map (c :: ·) else none
termination_by l => l.length
theorem hexd_hexv (a : UInt8) (h : isHex a = true) : hexd (hexv a) = a := by
  have hh : ∀ n : Fin 256, isHex (UInt8.ofNat n.val) = true → hexd (hexv (UInt8.ofNat n.val)) = UInt8.ofNat n.val := by decide +kernel
  have := hh ⟨a.toNat, a.toNat_lt⟩
  simpa [h] using this
theorem isHex_hexd (n : Nat) (h : n < 16) : isHex (hexd n) = true ∧ hexv (hexd n) = n := by
  have hh : ∀ n : Fin 16, isHex (hexd n.val) = true ∧ hexv (hexd n.val) = n.val := by decide +kernel
  exact hh ⟨n, h⟩
theorem byteOf_nat (a b : UInt8) : (byteOf a b).toNat = 16 * hexv a + hexv b := by
  unfold byteOf
  have h1 := hexv_lt a
  have h2 := hexv_lt b
  have : (16 * hexv a + hexv b) % 256 = 16 * hexv a + hexv b := Nat.mod_eq_of_lt (by omega)
  simpa using this
theorem qbyte_of (a b : UInt8) (ha : isHex a = true) (hb : isHex b = true) (hp : plainB (byteOf a b) = false) : qbyte (byteOf a b) = [92, a, b] := by
  unfold qbyte
  rw [if_neg (by rw [hp]; decide), byteOf_nat]
  have h1 := hexv_lt a
  have h2 := hexv_lt b
  rw [show (16 * hexv a + hexv b) / 16 = hexv a by omega, show (16 * hexv a + hexv b) % 16 = hexv b by omega, hexd_hexv a ha, hexd_hexv b hb]
theorem runq_some : ∀ (n : Nat) (l t : Bs), l.length ≤ n → runq l = some t → l = t.flatMap qbyte
  | n, [], t, _, h => by
    rw [runq] at h; cases h; rfl
  | 0, c :: r, t, hn, h => by simp at hn
  | n + 1, c :: r, t, hn, h => by
    rw [runq.eq_def] at h
    simp only at h
    split at h
    · rename_i hc
      split at h
      · rename_i a b r'
        split at h
        · rename_i hh
          simp only [Bool.and_eq_true, Bool.not_eq_true'] at hh
          cases hr : runq r' with
          | none => rw [hr] at h; cases h
          | some t' =>
            rw [hr] at h
            simp only [Option.map_some, Option.some.injEq] at h
            subst h
            rw [List.flatMap_cons, qbyte_of a b hh.1.1 hh.1.2 hh.2, ← runq_some n r' t' (by simp at hn; omega) hr, hc]; rfl
        · cases h
      · cases h
    · split at h
      · rename_i hp
        cases hr : runq r with
        | none => rw [hr] at h; cases h
        | some t' =>
          rw [hr] at h
          simp only [Option.map_some, Option.some.injEq] at h
          subst h
          rw [List.flatMap_cons, show qbyte c = [c] by unfold qbyte; rw [if_pos hp], ← runq_some n r t' (by simp at hn; omega) hr]; rfl
      · cases h
theorem runq_flat (t : Bs) : runq (t.flatMap qbyte) = some t := by
  induction t with
  | nil => rw [List.flatMap_nil, runq]
  | cons c t ih =>
    rw [List.flatMap_cons]
    by_cases h : plainB c = true
    · rw [show qbyte c = [c] by unfold qbyte; rw [if_pos h], List.singleton_append, runq.eq_def]
      simp only
      rw [if_neg (plain_ne c h), if_pos h, ih]; rfl
    · have h2 : plainB c = false := by simpa using h
      rw [show qbyte c = [92, hexd (c.toNat / 16), hexd (c.toNat % 16)] by unfold qbyte; rw [if_neg h]]
      show runq (92 :: hexd (c.toNat / 16) :: hexd (c.toNat % 16) :: List.flatMap qbyte t) = _
      rw [runq.eq_def]
      simp only
      have hl := c.toNat_lt
      rw [if_pos trivial, if_pos (by rw [qbyte_back c h2, h2, (isHex_hexd _ (by omega)).1, (isHex_hexd _ (by omega)).1]; rfl), qbyte_back c h2, ih]; rfl
/-- What the document reads of a quoted text. -/
def refUnq (l : Bs) : Option Bs := if l.length < 2 ∨ l.head? ≠ some 34 ∨ l.getLast? ≠ some 34 then none else runq (body l)
theorem quote_body (l : Bs) (h : ¬ (l.length < 2 ∨ l.head? ≠ some 34 ∨ l.getLast? ≠ some 34)) : l = 34 :: (body l ++ [34]) := by
  simp only [not_or, Decidable.not_not] at h
  obtain ⟨h1, h2, h3⟩ := h
  unfold body
  match l, h1, h2 with
  | a :: r, h1, h2 =>
    obtain rfl : a = 34 := by simpa using h2
    have hr : r ≠ [] := by rintro rfl; simp at h1
    have h4 : r.getLast hr = 34 := by
      rw [List.getLast?_cons_of_ne_nil hr, List.getLast?_eq_some_getLast hr] at h3
      simpa using h3
    have h5 := List.dropLast_concat_getLast hr
    rw [h4] at h5
    simp only [List.drop_succ_cons, List.drop_zero, List.length_cons]
    rw [show r.length + 1 - 2 = r.length - 1 by omega, ← List.dropLast_eq_take, h5]
theorem refUnq_eq (l : Bs) : refUnq l = unquote l := by
  have hiff : ∀ t, refUnq l = some t ↔ quote t = l := by
    intro t
    constructor
    · intro h
      unfold refUnq at h
      split at h
      · cases h
      · rename_i hc
        have h2 := runq_some _ _ _ (Nat.le_refl _) h
        rw [quote_body l hc, h2]; rfl
    · rintro rfl
      unfold refUnq
      rw [if_neg (by unfold quote; simp [List.getLast?_cons, List.getLast?_append]), body_quote, runq_flat]
  have hiff2 : ∀ t, unquote l = some t ↔ quote t = l := fun t => ⟨unquote_back l t, by rintro rfl; exact unquote_quote t⟩
  cases h : refUnq l with
  | some t => exact ((hiff2 t).2 ((hiff t).1 h)).symm
  | none =>
    cases h2 : unquote l with
    | none => rfl
    | some t => rw [(hiff t).2 ((hiff2 t).1 h2)] at h; cases h

/-! ### The printed form -/
def digV (c : UInt8) : Int := if isHex c then (hexv c : Int) else -1
theorem refdigit_f (c : UInt8) (k : Nat) : pangramref28_digit.f (k + 1) (c.toNat : Int) = some (digV c) := by
  have hx := c.toNat_lt
  have w0 : wrap64 (c.toNat : Int) = c.toNat := w64 _ (by omega) (by omega)
  have hA : isHex c = decide ((48 ≤ c.toNat ∧ c.toNat ≤ 57) ∨ (97 ≤ c.toNat ∧ c.toNat ≤ 102)) := rfl
  unfold pangramref28_digit.f digV hexv
  rw [hA]
  by_cases h1 : 48 ≤ c.toNat
  · rw [if_pos (by omega)]
    rw [pangramref28_digit.j0]
    by_cases h2 : c.toNat ≤ 57
    · rw [if_pos (by simp only [decide_eq_true_iff]; omega), if_pos (show decide _ = true by simp only [decide_eq_true_iff]; omega), if_pos ⟨h1, h2⟩, w0, w64 _ (by omega) (by omega)]
      congr 1; omega
    · rw [if_neg (by simp only [decide_eq_true_iff]; omega)]
      by_cases h3 : 97 ≤ c.toNat ∧ c.toNat ≤ 102
      · rw [if_pos (by omega), if_pos (by omega), if_pos (show decide _ = true by simp only [decide_eq_true_iff]; omega), if_neg (by omega), if_pos h3, w0, w64 _ (by omega) (by omega)]
        congr 1; omega
      · rw [if_neg (show ¬ (decide _ = true) by simp only [decide_eq_true_iff]; omega)]
        by_cases h4 : 97 ≤ c.toNat
        · rw [if_pos (by omega), if_neg (by omega)]
        · rw [if_neg (by omega)]
  · rw [if_neg (by omega)]
    rw [pangramref28_digit.j0]
    rw [if_neg (by decide), if_neg (by omega), if_neg (show ¬ (decide _ = true) by simp only [decide_eq_true_iff]; omega)]
theorem digV_neg (c : UInt8) : digV c < 0 ↔ isHex c = false := by
  unfold digV
  cases h : isHex c <;> simp
def ansU (acc : List Int) (o : Option Bs) : Option (ByteArray × Bool) := match o with
  | none => some ((⟨#[]⟩ : ByteArray), false)
  | some t => some (strOfNums (acc ++ t.map fun c => (c.toNat : Int)), true)
theorem plainB_iff (c : UInt8) (h : ¬ c = 92) : plainB c = decide (32 ≤ (c.toNat : Int) ∧ (c.toNat : Int) ≤ 126 ∧ ¬ (c.toNat : Int) = 34) := by
  have e1 : ((c != 34) = true) ↔ ¬ (c.toNat : Int) = 34 := by
    rw [bne_iff_ne]
    constructor
    · intro h1 h2; apply h1; rw [← UInt8.toNat_inj]; simp; omega
    · intro h1 h2; apply h1; rw [h2]; rfl
  have e2 : (c != 92) = true := by rw [bne_iff_ne]; exact h
  rw [Bool.eq_iff_iff]
  unfold plainB
  simp only [Bool.and_eq_true, decide_eq_true_iff, e1, e2, and_true, UInt8.le_iff_toNat_le]
  have e3 : (32 : UInt8).toNat = 32 := rfl
  have e4 : (126 : UInt8).toNat = 126 := rfl
  omega
theorem ansU_cons (acc : List Int) (c : UInt8) (o : Option Bs) : ansU acc (o.map (c :: ·)) = ansU (acc ++ [(c.toNat : Int)]) o := by
  cases o <;> simp [ansU]
theorem runq_esc (a b : UInt8) (r : Bs) : runq (92 :: a :: b :: r) = if isHex a && isHex b && !plainB (byteOf a b) then (runq r).map (byteOf a b :: ·) else none := by
  rw [runq.eq_def]; simp only; rw [if_pos trivial]
theorem runq_short (r : Bs) (h : r.length < 2) : runq (92 :: r) = none := by
  rw [runq.eq_def]
  match r, h with
  | [], _ => rfl
  | [a], _ => rfl
theorem runq_other (c : UInt8) (r : Bs) (h : ¬ c = 92) : runq (c :: r) = if plainB c then (runq r).map (c :: ·) else none := by
  rw [runq.eq_def]; simp only; rw [if_neg h]
theorem toNat_eq (c : UInt8) (n : Nat) (hn : n < 256) : ((c.toNat : Int) = n) ↔ c = UInt8.ofNat n := by
  constructor
  · intro h
    rw [← UInt8.toNat_inj]
    have : n % 256 = n := Nat.mod_eq_of_lt hn
    simp; omega
  · rintro rfl
    have : n % 256 = n := Nat.mod_eq_of_lt hn
    simp; omega
theorem esc_val (a b : UInt8) : (wrap64 ((wrap64 (16 * (hexv a : Int))) + (hexv b : Int))) % 256 = ((byteOf a b).toNat : Int) := by
  have l1 := hexv_lt a
  have l2 := hexv_lt b
  rw [byteOf_nat, w64 (16 * (hexv a : Int)) (by omega) (by omega), w64 (16 * (hexv a : Int) + (hexv b : Int)) (by omega) (by omega)]
  omega
theorem esc_step (c : UInt8) (acc : List Int) (X : Option (ByteArray × Bool)) (R : Option Bs) (hacc : acc.length < 140737488355328) (hgo : X = ansU (acc ++ [(c.toNat : Int)]) R) :
    (if (c.toNat : Int) ≥ 32 then (if (c.toNat : Int) ≤ 126 then (if (c.toNat : Int) = 34 then (if acc.length < 140737488355328 then X else none) else (if (c.toNat : Int) = 92 then (if acc.length < 140737488355328 then X else none) else some ((⟨#[]⟩ : ByteArray), false))) else (if acc.length < 140737488355328 then X else none)) else (if acc.length < 140737488355328 then X else none)) =
      ansU acc (if (!plainB c) = true then R.map (c :: ·) else none) := by
  simp only [if_pos hacc]
  rw [hgo]
  by_cases h92 : c = 92
  · subst h92
    rw [if_pos (by decide), if_pos (by decide), if_neg (by decide), if_pos (by decide), if_pos (by decide), ansU_cons]
  · have hp := plainB_iff c h92
    have h92' : ¬ (c.toNat : Int) = 92 := fun h => h92 ((toNat_eq c 92 (by omega)).1 h)
    rw [hp]
    by_cases g1 : (c.toNat : Int) ≥ 32
    · by_cases g2 : (c.toNat : Int) ≤ 126
      · by_cases g3 : (c.toNat : Int) = 34
        · rw [if_pos g1, if_pos g2, if_pos g3, if_pos (by simp [g3]), ansU_cons]
        · rw [if_pos g1, if_pos g2, if_neg g3, if_neg h92', if_neg (by simp only [Bool.not_eq_true', decide_eq_false_iff_not, Decidable.not_not]; exact ⟨g1, g2, g3⟩)]
          rfl
      · rw [if_pos g1, if_neg g2, if_pos (by simp only [Bool.not_eq_true', decide_eq_false_iff_not]; omega), ansU_cons]
    · rw [if_neg g1, if_pos (by simp only [Bool.not_eq_true', decide_eq_false_iff_not]; omega), ansU_cons]
theorem wr1 (i : Nat) (hi : i ≤ 1000000) : wrap64 ((i : Int) + 1) = ((i + 1 : Nat) : Int) := by rw [w64 _ (by omega) (by omega)]; omega
theorem wr2 (i : Nat) (hi : i ≤ 1000000) : wrap64 ((i : Int) + 2) = ((i + 2 : Nat) : Int) := by rw [w64 _ (by omega) (by omega)]; omega
theorem wr3 (i : Nat) (hi : i ≤ 1000000) : wrap64 ((i : Int) + 3) = ((i + 3 : Nat) : Int) := by rw [w64 _ (by omega) (by omega)]; omega
theorem wr21 (i : Nat) (hi : i ≤ 1000000) : wrap64 (((i + 2 : Nat) : Int) + 1) = ((i + 3 : Nat) : Int) := by rw [w64 _ (by omega) (by omega)]; omega
theorem unq_end (s : ByteArray) (hs : s.size ≤ 1000000) (k i : Nat) (acc : List Int) (h : i + 1 = s.size) : pangramref28_Unquote.l0 (k + 1) s acc i = some (strOfNums acc, true) := by
  rw [pangramref28_Unquote.l0, wr1 i (by omega), if_neg (by omega)]
theorem unq_other (s : ByteArray) (hs : s.size ≤ 1000000) (k i : Nat) (acc : List Int) (h : i + 1 < s.size) (ha : acc.length < 140737488355328) (hc : ¬ s[i] = 92) :
    pangramref28_Unquote.l0 (k + 1) s acc i = if plainB s[i] then pangramref28_Unquote.l0 k s (acc ++ [(s[i].toNat : Int)]) ((i + 1 : Nat) : Int) else some ((⟨#[]⟩ : ByteArray), false) := by
  have hb := bt_nat s i (by omega)
  have hc' : ¬ (s[i].toNat : Int) = 92 := fun h => hc ((toNat_eq s[i] 92 (by omega)).1 h)
  have hp := plainB_iff _ hc
  have q1 : ((i + 1 : Nat) : Int) < (s.size : Int) := by omega
  have q2 : 0 ≤ (i : Int) := by omega
  have q3 : (i : Int) < (s.size : Int) := by omega
  rw [pangramref28_Unquote.l0, wr1 i (by omega), if_pos q1, if_pos q2, if_pos q3, hb, if_neg hc', hp]
  generalize (s[i].toNat : Int) = c at *
  clear hb hp hc
  by_cases g1 : c < 32
  · rw [if_pos g1, if_neg (by simp only [decide_eq_true_iff]; omega)]
  · by_cases g2 : c > 126
    · rw [if_neg g1, if_pos g2, if_neg (by simp only [decide_eq_true_iff]; omega)]
    · by_cases g3 : c = 34
      · rw [if_neg g1, if_neg g2, if_pos g3, if_neg (by simp only [decide_eq_true_iff]; omega)]
      · rw [if_neg g1, if_neg g2, if_neg g3, if_pos ha, if_pos (by simp only [decide_eq_true_iff]; omega)]
theorem unq_cut (s : ByteArray) (hs : s.size ≤ 1000000) (k i : Nat) (acc : List Int) (h : i + 1 < s.size) (h3 : ¬ i + 3 < s.size) (hc : s[i] = 92) :
    pangramref28_Unquote.l0 (k + 2) s acc i = some ((⟨#[]⟩ : ByteArray), false) := by
  have hb := bt_nat s i (by omega)
  have q1 : ((i + 1 : Nat) : Int) < (s.size : Int) := by omega
  have q2 : 0 ≤ (i : Int) := by omega
  have q3 : (i : Int) < (s.size : Int) := by omega
  have q4 : ((i + 3 : Nat) : Int) ≥ (s.size : Int) := by omega
  have hc' : (s[i].toNat : Int) = 92 := by rw [hc]; rfl
  rw [pangramref28_Unquote.l0, wr1 i (by omega), if_pos q1, if_pos q2, if_pos q3, hb, if_pos hc', wr3 i (by omega), if_pos q4, pangramref28_Unquote.j2, if_pos rfl]
theorem unq_esc (s : ByteArray) (hs : s.size ≤ 1000000) (k i : Nat) (acc : List Int) (h3 : i + 3 < s.size) (hc : s[i] = 92) :
    pangramref28_Unquote.l0 (k + 3) s acc i = if isHex s[i + 1] = true then pangramref28_Unquote.j2 (k + 2) s acc i (decide (digV s[i + 2] < 0)) else some ((⟨#[]⟩ : ByteArray), false) := by
  have hb := bt_nat s i (by omega)
  have hb1 := bt_nat s (i + 1) (by omega)
  have hb2 := bt_nat s (i + 2) (by omega)
  have q1 : ((i + 1 : Nat) : Int) < (s.size : Int) := by omega
  have q2 : 0 ≤ (i : Int) := by omega
  have q3 : (i : Int) < (s.size : Int) := by omega
  have q4 : ¬ ((i + 3 : Nat) : Int) ≥ (s.size : Int) := by omega
  have q5 : 0 ≤ ((i + 1 : Nat) : Int) := by omega
  have q6 : 0 ≤ ((i + 2 : Nat) : Int) := by omega
  have q7 : ((i + 2 : Nat) : Int) < (s.size : Int) := by omega
  have hc' : (s[i].toNat : Int) = 92 := by rw [hc]; rfl
  rw [pangramref28_Unquote.l0, wr1 i (by omega), if_pos q1, if_pos q2, if_pos q3, hb, if_pos hc', wr3 i (by omega), if_neg q4, if_pos q5, hb1, refdigit_f, wr2 i (by omega)]
  rw [Option.bind_some]
  cases hx : isHex s[i + 1] with
  | false => rw [if_pos ((digV_neg _).2 hx), pangramref28_Unquote.j2, if_pos rfl, if_neg (by decide)]
  | true =>
    have hn : ¬ digV s[i + 1] < 0 := fun h => by rw [(digV_neg _).1 h] at hx; cases hx
    rw [if_neg hn, if_pos q6, if_pos q7, hb2, refdigit_f, if_pos rfl]
    rw [Option.bind_some]
theorem unq_j2 (s : ByteArray) (hs : s.size ≤ 1000000) (k i : Nat) (acc : List Int) (R : Option Bs) (h3 : i + 3 < s.size) (ha : acc.length < 140737488355328) (hxa : isHex s[i + 1] = true)
    (hgo : pangramref28_Unquote.l0 (k + 1) s (acc ++ [((byteOf s[i + 1] s[i + 2]).toNat : Int)]) ((i + 3 : Nat) : Int) = ansU (acc ++ [((byteOf s[i + 1] s[i + 2]).toNat : Int)]) R) :
    pangramref28_Unquote.j2 (k + 2) s acc i (decide (digV s[i + 2] < 0)) = ansU acc (if isHex s[i + 2] && !plainB (byteOf s[i + 1] s[i + 2]) then R.map (byteOf s[i + 1] s[i + 2] :: ·) else none) := by
  have hb1 := bt_nat s (i + 1) (by omega)
  have hb2 := bt_nat s (i + 2) (by omega)
  have q1 : ((i + 1 : Nat) : Int) < (s.size : Int) := by omega
  have q5 : 0 ≤ ((i + 1 : Nat) : Int) := by omega
  have q6 : 0 ≤ ((i + 2 : Nat) : Int) := by omega
  have q7 : ((i + 2 : Nat) : Int) < (s.size : Int) := by omega
  rw [pangramref28_Unquote.j2]
  cases hxb : isHex s[i + 2] with
  | false =>
    rw [if_pos (by rw [decide_eq_true_iff]; exact (digV_neg _).2 hxb), Bool.false_and, if_neg (by decide)]
    rfl
  | true =>
    have hn : ¬ digV s[i + 2] < 0 := fun h => by rw [(digV_neg _).1 h] at hxb; cases hxb
    have hda : digV s[i + 1] = hexv s[i + 1] := by unfold digV; rw [if_pos hxa]
    have hdb : digV s[i + 2] = hexv s[i + 2] := by unfold digV; rw [if_pos hxb]
    rw [if_neg (by rw [decide_eq_true_iff]; exact hn), wr1 i (by omega), if_pos q5, if_pos q1, hb1, refdigit_f]
    rw [Option.bind_some]
    rw [wr2 i (by omega), if_pos q6, if_pos q7, hb2, refdigit_f]
    rw [Option.bind_some]
    rw [hda, hdb, esc_val, wr21 i (by omega), Bool.true_and]
    exact esc_step _ acc _ _ ha hgo
theorem unq_l (s : ByteArray) (hs : s.size ≤ 1000000) : ∀ (n k i : Nat) (acc : List Int), 2 * n + 3 ≤ k → i + 1 + n = s.size → acc.length ≤ i → pangramref28_Unquote.l0 k s acc i = ansU acc (runq (rest s i)) := by
  intro n
  induction n using Nat.strongRecOn with
  | _ n ih =>
    intro k i acc hk hi ha
    have hacc : acc.length < 140737488355328 := by omega
    by_cases hlt : i + 1 < s.size
    · rw [rest_cons s i hlt]
      by_cases hc : s[i] = 92
      · rw [hc]
        by_cases h3 : i + 3 < s.size
        · obtain ⟨k, rfl⟩ : ∃ m, k = m + 3 := ⟨k - 3, by omega⟩
          have hgo := ih (n - 3) (by omega) (k + 1) (i + 3) (acc ++ [((byteOf s[i + 1] s[i + 2]).toNat : Int)]) (by omega) (by omega) (by rw [List.length_append, List.length_singleton]; omega)
          rw [unq_esc s hs k i acc h3 hc, rest_cons s (i + 1) (by omega), rest_cons s (i + 2) (by omega), runq_esc]
          cases hxa : isHex s[i + 1] with
          | false => rw [if_neg (by decide), Bool.false_and, Bool.false_and, if_neg (by decide)]; rfl
          | true => rw [if_pos rfl, Bool.true_and]; exact unq_j2 s hs k i acc _ h3 hacc hxa hgo
        · obtain ⟨k, rfl⟩ : ∃ m, k = m + 2 := ⟨k - 2, by omega⟩
          rw [unq_cut s hs k i acc hlt h3 hc, runq_short _ (rest_short s i (by omega))]
          rfl
      · obtain ⟨k, rfl⟩ : ∃ m, k = m + 1 := ⟨k - 1, by omega⟩
        rw [unq_other s hs k i acc hlt hacc hc, runq_other _ _ hc]
        cases hp : plainB s[i] with
        | false => rw [if_neg (by decide), if_neg (by decide)]; rfl
        | true =>
          rw [if_pos rfl, if_pos rfl, ansU_cons]
          exact ih (n - 1) (by omega) k (i + 1) _ (by omega) (by omega) (by rw [List.length_append, List.length_singleton]; omega)
    · obtain ⟨k, rfl⟩ : ∃ m, k = m + 1 := ⟨k - 1, by omega⟩
      rw [unq_end s hs k i acc (by omega), rest_nil s i (by omega), runq]
      simp [ansU]
theorem strOf (t : Bs) : strOfNums (t.map fun c => (c.toNat : Int)) = (⟨t.toArray⟩ : ByteArray) := by
  have h : ∀ c : UInt8, UInt8.ofNat ((c.toNat : Int)).toNat = c := fun c => by simp
  unfold strOfNums
  simp [Function.comp_def, h]
theorem unq_f (s : ByteArray) (hs : s.size ≤ 1000000) : pangramref28_Unquote.f (2 * s.size + 5) s = some ((⟨((unquote s.data.toList).getD []).toArray⟩ : ByteArray), (unquote s.data.toList).isSome) := by
  have hl : s.data.toList.length = s.size := rfl
  have hno : ∀ k, pangramref28_Unquote.j0 (k + 1) s true = some ((⟨#[]⟩ : ByteArray), false) := fun k => by rw [pangramref28_Unquote.j0, if_pos rfl]
  rw [← refUnq_eq]
  unfold pangramref28_Unquote.f refUnq
  by_cases h2 : s.size < 2
  · rw [if_pos (by omega), if_pos (Or.inl (by omega)), hno]; rfl
  have hb0 := bt_nat s 0 (by omega)
  rw [show ((0 : Nat) : Int) = 0 from rfl] at hb0
  have hwl : wrap64 ((s.size : Int) - 1) = ((s.size - 1 : Nat) : Int) := by rw [w64 _ (by omega) (by omega)]; omega
  have hbl := bt_nat s (s.size - 1) (by omega)
  rw [if_neg (by omega), if_pos (by omega), hb0, hwl, hbl, first_at s (by omega), last_at s (by omega)]
  by_cases h0 : s[0] = 34
  · rw [if_pos (by rw [h0]; rfl), if_pos (by omega), if_pos (by omega)]
    by_cases hz : s[s.size - 1] = 34
    · rw [pangramref28_Unquote.j0, if_neg (by rw [hz]; decide), if_neg (by rw [h0, hz]; simp; omega), body_rest s (by omega)]
      have := unq_l s hs (s.size - 2) (2 * s.size + 4) 1 [] (by omega) (by omega) (by simp)
      rw [show ((1 : Nat) : Int) = 1 from rfl] at this
      rw [this]
      cases hr : runq (rest s 1) with
      | none => rfl
      | some t => simp [ansU, strOf]
    · have hz' : ¬ (s[s.size - 1].toNat : Int) = 34 := fun h => hz ((toNat_eq _ 34 (by omega)).1 h)
      rw [if_pos (Or.inr (Or.inr (by simpa using hz))), show ((s[s.size - 1].toNat : Int) != 34) = true by rw [bne_iff_ne]; exact hz', hno]; rfl
  · have h0' : ¬ (s[0].toNat : Int) = 34 := fun h => h0 ((toNat_eq _ 34 (by omega)).1 h)
    rw [if_neg h0', if_pos (Or.inr (Or.inl (by simpa using h0))), hno]; rfl
theorem refunq_any (l : Bs) (hl : l.length ≤ 1000000) (w : World) : Calls Tryd.prog 23 #[.string ⟨l.toArray⟩] w fun e w' => e = .returned (.tuple #[.string ⟨((unquote l).getD []).toArray⟩, .bool (unquote l).isSome]) ∧ Below w.heap.size w w' :=
  (pangramref28_Unquote.calls _ _ _ _ w (unq_f ⟨l.toArray⟩ (by show l.toArray.size ≤ _; simpa using hl))).mono fun e w' ⟨he, hw⟩ => ⟨he, hw⟩
end Go.Proofs.YtelehacakbaobaaDoor
