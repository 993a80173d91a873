/- The document's parse of a line, in plain functions (refParse), is tape's (parse). No program stands in this text. -/
import Derived.Test.YtelehacakbaobaaDoorRefItoa
import Derived.Test.YtelehacakbaobaaDoorRefUnq
namespace Go.Proofs.YtelehacakbaobaaDoor
open Go.RowKit
set_option linter.unusedVariables false
set_option linter.unusedSimpArgs false

def uq (t : Bs) : Bs := (unquote t).getD []
def uqOk (t : Bs) : Bool := (unquote t).isSome
def nv (l : Bs) : Int := (refNum l).1
def nok (l : Bs) : Bool := (refNum l).2
/-- An act that is handed out, if all was right and it has a line. -/
def fin (a : TAct) (ok : Bool) : Option TAct := if ok = true ∧ lineErr a = 0 then some a else none
def rp1 (s : Bs) : Option TAct := match splitN 3 s with
  | [_, n, t] => fin ⟨1, n, 0, 0, uq t, 0, 0, 0, 0⟩ (uqOk t)
  | _ => none
def rp2 (s : Bs) : Option TAct := match splitN 5 s with
  | [_, n, f, o, t] => fin ⟨2, n, nv f, nv o, uq t, 0, 0, 0, 0⟩ (uqOk t && nok f && nok o)
  | _ => none
def rp34 (k : Int) (s : Bs) : Option TAct := match splitN 9 s with
  | [_, n] => fin ⟨k, n, 0, 0, [], 0, 0, 0, 0⟩ true
  | _ => none
def rp5 (s : Bs) : Option TAct := match splitN 9 s with
  | [_, n, u] => fin ⟨5, n, 0, 0, [], nv u, 0, 0, 0⟩ (nok u)
  | _ => none
def rp6 (s : Bs) : Option TAct := match splitN 9 s with
  | [_, x, y, z] => fin ⟨6, [], 0, 0, [], 0, nv x, nv y, nv z⟩ (nok x && nok y && nok z)
  | _ => none
def rp7 (s : Bs) : Option TAct := if s = wordOf 7 then fin ⟨7, [], 0, 0, [], 0, 0, 0, 0⟩ true else none
def refParse (s : Bs) : Option TAct :=
  if cutWord s = wordOf 1 then rp1 s else if cutWord s = wordOf 2 then rp2 s else if cutWord s = wordOf 3 then rp34 3 s else if cutWord s = wordOf 4 then rp34 4 s
  else if cutWord s = wordOf 5 then rp5 s else if cutWord s = wordOf 6 then rp6 s else if cutWord s = wordOf 7 then rp7 s else none

theorem parts1 (k : Nat) (s x : Bs) (h : splitN k s = [x]) : s = x := split_one k s x h
theorem parts2 (k : Nat) (s x y : Bs) (h : splitN k s = [x, y]) : s = x ++ 32 :: y := by
  obtain ⟨s', rfl, h'⟩ := split_more k s x y [] h
  rw [parts1 _ _ _ h']
theorem parts3 (k : Nat) (s x y z : Bs) (h : splitN k s = [x, y, z]) : s = x ++ 32 :: (y ++ 32 :: z) := by
  obtain ⟨s', rfl, h'⟩ := split_more k s x y [z] h
  rw [parts2 _ _ _ _ h']
theorem parts4 (k : Nat) (s x y z u : Bs) (h : splitN k s = [x, y, z, u]) : s = x ++ 32 :: (y ++ 32 :: (z ++ 32 :: u)) := by
  obtain ⟨s', rfl, h'⟩ := split_more k s x y [z, u] h
  rw [parts3 _ _ _ _ _ h']
theorem parts5 (k : Nat) (s x y z u v : Bs) (h : splitN k s = [x, y, z, u, v]) : s = x ++ 32 :: (y ++ 32 :: (z ++ 32 :: (u ++ 32 :: v))) := by
  obtain ⟨s', rfl, h'⟩ := split_more k s x y [z, u, v] h
  rw [parts4 _ _ _ _ _ _ h']
theorem head_is (k : Nat) (s x : Bs) (r : List Bs) (h : splitN (k + 2) s = x :: r) : cutWord s = x := by
  have := split_head k s
  rw [h] at this
  exact this.symm
theorem uq_back (t : Bs) (h : uqOk t = true) : quote (uq t) = t := by
  unfold uqOk at h
  unfold uq
  cases hu : unquote t with
  | none => rw [hu] at h; cases h
  | some x => exact unquote_back t x hu
theorem uq_len (t : Bs) : (uq t).length ≤ t.length := by
  unfold uq
  cases hu : unquote t with
  | none => simp
  | some x => exact unquote_len t x hu
theorem nv_back (l : Bs) (h : nok l = true) : Lib.itoa (nv l) = l := by
  have : refNum l = (nv l, true) := by
    unfold nv; unfold nok at h; rw [← h]
  exact (refNum_back l _ this).symm
theorem nv_bounds (l : Bs) : -9223372036854775808 ≤ nv l ∧ nv l ≤ 9223372036854775807 := refNum_bounds l
theorem uq_quote (t : Bs) : uq (quote t) = t ∧ uqOk (quote t) = true := by unfold uq uqOk; rw [unquote_quote]; exact ⟨rfl, rfl⟩
theorem nv_itoa (n : Int) (h0 : -9223372036854775808 ≤ n) (h1 : n ≤ 9223372036854775807) : nv (Lib.itoa n) = n ∧ nok (Lib.itoa n) = true := by unfold nv nok; rw [refNum_itoa n h0 h1]; exact ⟨rfl, rfl⟩
theorem fin_some {a b : TAct} {ok : Bool} (h : fin a ok = some b) : ok = true ∧ lineErr a = 0 ∧ b = a := by
  unfold fin at h
  split at h
  · rename_i hc
    exact ⟨hc.1, hc.2, (Option.some.inj h).symm⟩
  · cases h
theorem lineOf_text (a : TAct) (h : lineErr a = 0) : lineOf a = lineText a := by unfold lineOf; rw [if_pos h]
/-- What is read is that act whose line it is. -/
def Good (s : Bs) (a : TAct) : Prop := lineErr a = 0 ∧ lineOf a = s ∧ a.Fits
theorem good_parse {s : Bs} {a : TAct} (h : Good s a) : parse s = some a := by
  obtain ⟨h1, h2, h3⟩ := h
  rw [← h2]; exact parse_lineOf a h3 h1
theorem mem_len {k : Nat} {s x : Bs} {l : List Bs} (h : splitN k s = l) (hx : x ∈ l) (hs : s.length ≤ 100000) : x.length ≤ 100000 := by
  rw [← h] at hx
  exact Nat.le_trans (split_len k s x hx) hs
theorem rp1_good (s : Bs) (a : TAct) (hs : s.length ≤ 100000) (hw : cutWord s = wordOf 1) (h : rp1 s = some a) : Good s a := by
  unfold rp1 at h
  split at h
  · rename_i x n t hp
    obtain ⟨ok, he, rfl⟩ := fin_some h
    have hx := head_is 1 s x _ hp
    refine ⟨he, ?_, ⟨by simp, by simp, by simp, by simp, by simp, by simp, mem_len hp (by simp) hs, Nat.le_trans (uq_len t) (mem_len hp (by simp) hs)⟩⟩
    rw [lineOf_text _ he, parts3 _ _ _ _ _ hp, ← hx, hw]
    simp [lineText, useOf, tell, uq_back t ok]
  · cases h
theorem rp2_good (s : Bs) (a : TAct) (hs : s.length ≤ 100000) (hw : cutWord s = wordOf 2) (h : rp2 s = some a) : Good s a := by
  unfold rp2 at h
  split at h
  · rename_i x n f o t hp
    obtain ⟨ok, he, rfl⟩ := fin_some h
    simp only [Bool.and_eq_true] at ok
    have hx := head_is 3 s x _ hp
    refine ⟨he, ?_, ⟨nv_bounds f, nv_bounds o, by simp, by simp, by simp, by simp, mem_len hp (by simp) hs, Nat.le_trans (uq_len t) (mem_len hp (by simp) hs)⟩⟩
    rw [lineOf_text _ he, parts5 _ _ _ _ _ _ _ hp, ← hx, hw]
    simp [lineText, useOf, tell, uq_back t ok.1.1, nv_back f ok.1.2, nv_back o ok.2]
  · cases h
theorem rp34_good (k : Nat) (hk : k = 3 ∨ k = 4) (s : Bs) (a : TAct) (hs : s.length ≤ 100000) (hw : cutWord s = wordOf k) (h : rp34 k s = some a) : Good s a := by
  unfold rp34 at h
  split at h
  · rename_i x n hp
    obtain ⟨ok, he, rfl⟩ := fin_some h
    have hx := head_is 7 s x _ hp
    refine ⟨he, ?_, ⟨by simp, by simp, by simp, by simp, by simp, by simp, mem_len hp (by simp) hs, by simp⟩⟩
    rw [lineOf_text _ he, parts2 _ _ _ _ hp, ← hx, hw]
    rcases hk with rfl | rfl <;> simp [lineText, useOf, tell]
  · cases h
theorem rp5_good (s : Bs) (a : TAct) (hs : s.length ≤ 100000) (hw : cutWord s = wordOf 5) (h : rp5 s = some a) : Good s a := by
  unfold rp5 at h
  split at h
  · rename_i x n u hp
    obtain ⟨ok, he, rfl⟩ := fin_some h
    have hx := head_is 7 s x _ hp
    refine ⟨he, ?_, ⟨by simp, by simp, nv_bounds u, by simp, by simp, by simp, mem_len hp (by simp) hs, by simp⟩⟩
    rw [lineOf_text _ he, parts3 _ _ _ _ _ hp, ← hx, hw]
    simp [lineText, useOf, tell, nv_back u ok]
  · cases h
theorem rp6_good (s : Bs) (a : TAct) (hs : s.length ≤ 100000) (hw : cutWord s = wordOf 6) (h : rp6 s = some a) : Good s a := by
  unfold rp6 at h
  split at h
  · rename_i w x y z hp
    obtain ⟨ok, he, rfl⟩ := fin_some h
    simp only [Bool.and_eq_true] at ok
    have hx := head_is 7 s w _ hp
    refine ⟨he, ?_, ⟨by simp, by simp, by simp, nv_bounds x, nv_bounds y, nv_bounds z, by simp, by simp⟩⟩
    rw [lineOf_text _ he, parts4 _ _ _ _ _ _ hp, ← hx, hw]
    simp [lineText, useOf, tell, nv_back x ok.1.1, nv_back y ok.1.2, nv_back z ok.2]
  · cases h
theorem rp7_good (s : Bs) (a : TAct) (h : rp7 s = some a) : Good s a := by
  unfold rp7 at h
  split at h
  · rename_i hw
    obtain ⟨ok, he, rfl⟩ := fin_some h
    refine ⟨he, ?_, ⟨by simp, by simp, by simp, by simp, by simp, by simp, by simp, by simp⟩⟩
    rw [lineOf_text _ he, hw]
    simp [lineText, useOf]
  · cases h
theorem ref_good (s : Bs) (a : TAct) (hs : s.length ≤ 100000) (h : refParse s = some a) : Good s a := by
  unfold refParse at h
  split at h
  · exact rp1_good s a hs ‹_› h
  split at h
  · exact rp2_good s a hs ‹_› h
  split at h
  · exact rp34_good 3 (.inl rfl) s a hs ‹_› h
  split at h
  · exact rp34_good 4 (.inr rfl) s a hs ‹_› h
  split at h
  · exact rp5_good s a hs ‹_› h
  split at h
  · exact rp6_good s a hs ‹_› h
  split at h
  · exact rp7_good s a h
  · cases h

/-! ### And back -/
theorem split1 (x : Bs) : splitN 1 x = [x] := by rw [splitN, if_pos (.inl rfl)]
theorem good_ref (a : TAct) (hf : a.Fits) (he : lineErr a = 0) : refParse (lineOf a) = some a := by
  obtain ⟨hk, hb, hn, _⟩ := err_zero a he
  obtain ⟨kind, name, frm, til, text, n, l1, l2, l3⟩ := a
  have hk' : 1 ≤ kind ∧ kind ≤ 7 := by simpa [known] using hk
  obtain ⟨m, rfl⟩ := Int.eq_ofNat_of_zero_le (show 0 ≤ kind by omega)
  have hm1 : 1 ≤ m := by omega
  have hm2 : m ≤ 7 := by omega
  clear hk hk'
  have hl : lineOf ⟨m, name, frm, til, text, n, l1, l2, l3⟩ = lineText ⟨m, name, frm, til, text, n, l1, l2, l3⟩ := lineOf_text _ he
  have hm : m = 1 ∨ m = 2 ∨ m = 3 ∨ m = 4 ∨ m = 5 ∨ m = 6 ∨ m = 7 := by omega
  have hfr := hf.frm
  have hti := hf.til
  have hnn := hf.n
  have h1 := hf.l1
  have h2 := hf.l2
  have h3 := hf.l3
  dsimp only at hfr hti hnn h1 h2 h3
  have hfin : ∀ b : TAct, b = ⟨m, name, frm, til, text, n, l1, l2, l3⟩ → fin b true = some ⟨m, name, frm, til, text, n, l1, l2, l3⟩ := by
    rintro b rfl
    unfold fin; rw [if_pos ⟨rfl, he⟩]
  rcases hm with rfl | rfl | rfl | rfl | rfl | rfl | rfl
  · have hN := name_noblank name (hn rfl)
    have hW : ∀ c ∈ wordOf 1, (c != 32) = true := word_noblank 1 (by omega)
    have hT : lineOf ⟨(1 : Nat), name, frm, til, text, n, l1, l2, l3⟩ = wordOf 1 ++ 32 :: (name ++ 32 :: quote text) := by rw [hl]; simp [lineText, useOf, tell]
    rw [hT]
    unfold refParse
    rw [if_pos (cutWord_to _ _ hW)]
    unfold rp1
    rw [split_to 1 _ _ hW, split_to 0 _ _ hN, split1]
    simp only [uq_quote]
    exact hfin _ (by rw [hb]; rfl)
  · have hN := name_noblank name (hn rfl)
    have hW : ∀ c ∈ wordOf 2, (c != 32) = true := word_noblank 2 (by omega)
    have hT : lineOf ⟨(2 : Nat), name, frm, til, text, n, l1, l2, l3⟩ = wordOf 2 ++ 32 :: (name ++ 32 :: (Lib.itoa frm ++ 32 :: (Lib.itoa til ++ 32 :: quote text))) := by rw [hl]; simp [lineText, useOf, tell]
    rw [hT]
    unfold refParse
    rw [cutWord_to _ _ hW, if_neg (show ¬ wordOf 2 = wordOf 1 by decide +kernel), if_pos rfl]
    unfold rp2
    rw [split_to 3 _ _ hW, split_to 2 _ _ hN, split_to 1 _ _ (itoa_noblank _), split_to 0 _ _ (itoa_noblank _), split1]
    simp only [uq_quote, nv_itoa _ hfr.1 hfr.2, nv_itoa _ hti.1 hti.2, Bool.and_self]
    exact hfin _ (by rw [hb]; rfl)
  · have hN := name_noblank name (hn rfl)
    have hW : ∀ c ∈ wordOf 3, (c != 32) = true := word_noblank 3 (by omega)
    have hT : lineOf ⟨(3 : Nat), name, frm, til, text, n, l1, l2, l3⟩ = wordOf 3 ++ 32 :: name := by rw [hl]; simp [lineText, useOf, tell]
    rw [hT]
    unfold refParse
    rw [cutWord_to _ _ hW, if_neg (show ¬ wordOf 3 = wordOf 1 by decide +kernel), if_neg (show ¬ wordOf 3 = wordOf 2 by decide +kernel), if_pos rfl]
    unfold rp34
    rw [split_to 7 _ _ hW, split_all _ _ hN]
    exact hfin _ (by rw [hb]; rfl)
  · have hN := name_noblank name (hn rfl)
    have hW : ∀ c ∈ wordOf 4, (c != 32) = true := word_noblank 4 (by omega)
    have hT : lineOf ⟨(4 : Nat), name, frm, til, text, n, l1, l2, l3⟩ = wordOf 4 ++ 32 :: name := by rw [hl]; simp [lineText, useOf, tell]
    rw [hT]
    unfold refParse
    rw [cutWord_to _ _ hW, if_neg (show ¬ wordOf 4 = wordOf 1 by decide +kernel), if_neg (show ¬ wordOf 4 = wordOf 2 by decide +kernel), if_neg (show ¬ wordOf 4 = wordOf 3 by decide +kernel), if_pos rfl]
    unfold rp34
    rw [split_to 7 _ _ hW, split_all _ _ hN]
    exact hfin _ (by rw [hb]; rfl)
  · have hN := name_noblank name (hn rfl)
    have hW : ∀ c ∈ wordOf 5, (c != 32) = true := word_noblank 5 (by omega)
    have hT : lineOf ⟨(5 : Nat), name, frm, til, text, n, l1, l2, l3⟩ = wordOf 5 ++ 32 :: (name ++ 32 :: Lib.itoa n) := by rw [hl]; simp [lineText, useOf, tell]
    rw [hT]
    unfold refParse
    rw [cutWord_to _ _ hW, if_neg (show ¬ wordOf 5 = wordOf 1 by decide +kernel), if_neg (show ¬ wordOf 5 = wordOf 2 by decide +kernel), if_neg (show ¬ wordOf 5 = wordOf 3 by decide +kernel), if_neg (show ¬ wordOf 5 = wordOf 4 by decide +kernel), if_pos rfl]
    unfold rp5
    rw [split_to 7 _ _ hW, split_to 6 _ _ hN, split_all _ _ (itoa_noblank _)]
    simp only [nv_itoa _ hnn.1 hnn.2]
    exact hfin _ (by rw [hb]; rfl)
  · have hW : ∀ c ∈ wordOf 6, (c != 32) = true := word_noblank 6 (by omega)
    have hT : lineOf ⟨(6 : Nat), name, frm, til, text, n, l1, l2, l3⟩ = wordOf 6 ++ 32 :: (Lib.itoa l1 ++ 32 :: (Lib.itoa l2 ++ 32 :: Lib.itoa l3)) := by rw [hl]; simp [lineText, useOf, tell]
    rw [hT]
    unfold refParse
    rw [cutWord_to _ _ hW, if_neg (show ¬ wordOf 6 = wordOf 1 by decide +kernel), if_neg (show ¬ wordOf 6 = wordOf 2 by decide +kernel), if_neg (show ¬ wordOf 6 = wordOf 3 by decide +kernel), if_neg (show ¬ wordOf 6 = wordOf 4 by decide +kernel), if_neg (show ¬ wordOf 6 = wordOf 5 by decide +kernel), if_pos rfl]
    unfold rp6
    rw [split_to 7 _ _ hW, split_to 6 _ _ (itoa_noblank _), split_to 5 _ _ (itoa_noblank _), split_all _ _ (itoa_noblank _)]
    simp only [nv_itoa _ h1.1 h1.2, nv_itoa _ h2.1 h2.2, nv_itoa _ h3.1 h3.2, Bool.and_self]
    exact hfin _ (by rw [hb]; rfl)
  · have hW : ∀ c ∈ wordOf 7, (c != 32) = true := word_noblank 7 (by omega)
    have hT : lineOf ⟨(7 : Nat), name, frm, til, text, n, l1, l2, l3⟩ = wordOf 7 := by rw [hl]; simp [lineText, useOf]
    rw [hT]
    unfold refParse
    rw [cutWord_all _ hW, if_neg (show ¬ wordOf 7 = wordOf 1 by decide +kernel), if_neg (show ¬ wordOf 7 = wordOf 2 by decide +kernel), if_neg (show ¬ wordOf 7 = wordOf 3 by decide +kernel), if_neg (show ¬ wordOf 7 = wordOf 4 by decide +kernel), if_neg (show ¬ wordOf 7 = wordOf 5 by decide +kernel), if_neg (show ¬ wordOf 7 = wordOf 6 by decide +kernel), if_pos rfl]
    unfold rp7
    rw [if_pos rfl]
    exact hfin _ (by rw [hb]; rfl)
theorem foldl_fits (l : Bs) (r : TRd) (h : RdFits r) : RdFits (l.foldl useR r) := by
  induction l generalizing r with
  | nil => exact h
  | cons c l ih => exact ih _ (h.use c)
theorem parse_some (s : Bs) (a : TAct) (hs : s.length ≤ 100000) (h : parse s = some a) : Good s a := by
  unfold parse at h
  split at h
  · cases h
  · split at h
    · cases h
    · rename_i h1 h2
      obtain rfl := Option.some.inj h
      simp only [not_or, Decidable.not_not, ne_eq] at h2
      refine ⟨h2.2.1, h2.2.2, ?_⟩
      unfold parseR
      exact (foldl_fits _ _ ⟨Nat.le_trans (cutRest_len s) hs, by constructor <;> simp [TAct.zero]⟩).act
theorem refParse_eq (s : Bs) (hs : s.length ≤ 100000) : refParse s = parse s := by
  cases h : refParse s with
  | some a => exact (good_parse (ref_good s a hs h)).symm
  | none =>
    cases h2 : parse s with
    | none => rfl
    | some a =>
      obtain ⟨e1, e2, e3⟩ := parse_some s a hs h2
      rw [← e2, good_ref a e3 e1] at h; cases h
end Go.Proofs.YtelehacakbaobaaDoor
