/- What the document's answers tell numbers by: ref03.Digits and ref28.Int come to the decimal numeral. What the document's answers come to: ref28.Int (a number, told) and ref28.Quote (a text, told). Two functions of the document's answer in the printed form: ref28.Quote and ref28.Int. -/
import Derived.Test.YtelehacakbaobaaDoorMBase
import Derived.Test.YtelehacakbaobaaDoorWWords

namespace Go.Proofs.YtelehacakbaobaaDoor
open Go.RowKit
set_option linter.unusedVariables false
set_option linter.unusedSimpArgs false

theorem str_ret {a b : ByteArray} (h : a.data.toList = b.data.toList) : Ending.returned (.string a) = .returned (.string b) := by rw [bytes_ext h]
theorem dec_small {n : Nat} (h : n < 10) : Lib.decDigits n = [UInt8.ofNat (48 + n)] := by rw [Lib.decDigits, dif_pos h]
theorem dec_big {n : Nat} (h : ¬ n < 10) : Lib.decDigits n = Lib.decDigits (n / 10) ++ [UInt8.ofNat (48 + n % 10)] := by rw [Lib.decDigits, dif_neg h]
theorem ten_piece (n : Nat) (h : n < 10) : ((⟨#[48, 49, 50, 51, 52, 53, 54, 55, 56, 57]⟩ : ByteArray).extract n (n + 1)).data.toList = [UInt8.ofNat (48 + n)] := by
  have hh : ∀ j : Fin 10, ((⟨#[48, 49, 50, 51, 52, 53, 54, 55, 56, 57]⟩ : ByteArray).extract j.val (j.val + 1)).data.toList = [UInt8.ofNat (48 + j.val)] := by decide +kernel
  exact hh ⟨n, h⟩

theorem dec_len : ∀ (k n : Nat), n < 10 ^ (k + 1) → (Lib.decDigits n).length ≤ k + 1
  | 0, n, h => by rw [dec_small (by simpa using h)]; simp
  | k + 1, n, h => by
    by_cases hs : n < 10
    · rw [dec_small hs]; simp
    · rw [dec_big hs, List.length_append]
      have := dec_len k (n / 10) (by rw [Nat.pow_succ] at h; omega)
      simp; omega
/-- The last digit, as a text. -/
def tenth (n : Nat) : ByteArray := ⟨#[UInt8.ofNat (48 + n % 10)]⟩
theorem tenth_size (n : Nat) : (tenth n).size = 1 := rfl
theorem ten_slice (n : Nat) (wx : World) : Sem.run Tryd.prog (Instr.slice 9 (.string ⟨#[48, 49, 50, 51, 52, 53, 54, 55, 56, 57]⟩) (some (.int .i64 ((n : Int) % 10))) (some (.int .i64 ((n : Int) % 10 + 1))) none) wx = .ok (.string (tenth n)) wx := by
  rw [run_slice_string_if (h := Tryd.underlying9), if_pos (by refine ⟨by omega, ?_⟩; show _ ≤ ((10 : Nat) : Int); omega), if_pos (by omega)]
  congr 2
  refine bytes_ext ?_
  rw [show ((n : Int) % 10).toNat = n % 10 from by omega, show ((n : Int) % 10 + 1).toNat = n % 10 + 1 from by omega, ten_piece _ (by omega)]
  rfl
set_option maxRecDepth 100000 in
set_option maxHeartbeats 1000000 in
theorem digits_any (f : Nat) : ∀ (n : Nat) (w : World), n < f → n ≤ 9223372036854775807 → Calls Tryd.prog 49 #[.int .i64 n] w fun e w' => e = .returned (.string ⟨(Lib.decDigits n).toArray⟩) ∧ ∃ m, w' = w.drewN m := by
  induction f with
  | zero => intro n w h; omega
  | succ f ih =>
    intro n w hf hn
    by_cases h : n < 10
    · have h' : (n : Int) < 10 := by omega
      have e1 : IntKind.i64.wrap ((n : Int) + 1) = (n : Int) + 1 := IntWalk.i64_in _ (by omega)
      have HF : Hid ((⟨#[48, 49, 50, 51, 52, 53, 54, 55, 56, 57]⟩ : ByteArray).extract n (n + 1) = ⟨(Lib.decDigits n).toArray⟩) := by
        show _ = _
        exact bytes_ext (by rw [ten_piece n h, dec_small h])
      clear ih h e1
      go_enter Tryd.func49, Tryd.ntmps49
      go_wp2_with fail
      go_ret
      exact ⟨by rw [HF.out]; rfl, 0, rfl⟩
    · have hbig := h
      have h' : 10 ≤ (n : Int) := by omega
      have hdiv : ((n / 10 : Nat) : Int) = (n : Int) / 10 := by omega
      have ih2 : ∀ w, Calls Tryd.prog 49 #[.int .i64 ((n : Int) / 10)] w fun e w' => e = .returned (.string ⟨(Lib.decDigits (n / 10)).toArray⟩) ∧ ∃ m, w' = w.drewN m := fun w => by
        rw [← hdiv]; exact ih (n / 10) w (by omega) (by omega)
      have HI := Lib.hid ih2
      clear ih ih2 h hdiv
      have e0 : IntKind.i64.wrap ((n : Int) / 10) = (n : Int) / 10 := IntWalk.i64_in _ (by omega)
      have e2 : (n : Int).tmod 10 = (n : Int) % 10 := Int.tmod_eq_emod_of_nonneg (by omega)
      have e3 : ((n : Int) % 10).toNat = n % 10 := by omega
      have e4 : ((n : Int) % 10 + 1).toNat = n % 10 + 1 := by omega
      have hsl := ten_slice n
      have hlen : (Lib.decDigits (n / 10)).length ≤ 19 := dec_len 18 (n / 10) (by omega)
      have HF : Hid ((⟨(Lib.decDigits (n / 10)).toArray⟩ : ByteArray) ++ tenth n = ⟨(Lib.decDigits n).toArray⟩) := by
        show _ = _
        refine bytes_ext ?_
        rw [dec_big hbig]; simp [tenth]
      have htz := tenth_size n
      have e1 : IntKind.i64.wrap ((n : Int) % 10 + 1) = (n : Int) % 10 + 1 := IntWalk.i64_in _ (by omega)
      clear hbig
      go_enter Tryd.func49, Tryd.ntmps49
      go_wp2_with fail
      go_quiet ((go_at_call 49; exact Calls.quiet_of (HI.out _)))
      go_wp2_with fail
      go_ret
      exact ⟨by rw [← HF.out]; rfl, _, rfl⟩
end Go.Proofs.YtelehacakbaobaaDoor

namespace Go.Proofs.YtelehacakbaobaaDoor
open Go.RowKit
set_option linter.unusedVariables false
set_option linter.unusedSimpArgs false

set_option maxRecDepth 100000 in
set_option maxHeartbeats 1000000 in
theorem int_any (n : Int) (w : World) (h0 : -9223372036854775808 ≤ n) (h1 : n ≤ 9223372036854775807) : Calls Tryd.prog 32 #[.int .i64 n] w fun e w' => e = .returned (.string ⟨(Lib.itoa n).toArray⟩) ∧ ∃ m, w' = w.drewN m := by
  by_cases hn : 0 ≤ n
  · obtain ⟨m, rfl⟩ := Int.eq_ofNat_of_zero_le hn
    have HF : Hid (Lib.itoa (m : Int) = Lib.decDigits m) := by show _ = _; unfold Lib.itoa; rw [if_neg (by omega)]; rfl
    clear h0
    go_enter Tryd.func32, Tryd.ntmps32
    go_wp2_with (go_at_call 49; refine (digits_any (m + 1) m _ (by omega) (by omega)).mono ?_; rintro e w' ⟨rfl, nd, rfl⟩)
    go_ret
    exact ⟨by rw [HF.out]; rfl, _, rfl⟩
  · by_cases hmin : n = -9223372036854775808
    · subst hmin
      clear h0 h1 hn
      go_enter Tryd.func32, Tryd.ntmps32
      go_wp2_with fail
      go_ret
      refine ⟨str_ret ?_, 0, rfl⟩
      rw [show Lib.itoa (-9223372036854775808) = [45, 57, 50, 50, 51, 51, 55, 50, 48, 51, 54, 56, 53, 52, 55, 55, 53, 56, 48, 56] from by decide +kernel]
    · obtain ⟨m, hm⟩ : ∃ m : Nat, n = -(m : Int) := ⟨n.natAbs, by omega⟩
      have HF : Hid (Lib.itoa n = 45 :: Lib.decDigits m) := by show _ = _; unfold Lib.itoa; rw [if_pos (by omega), show n.natAbs = m from by omega]
      have hlen : (Lib.decDigits m).length ≤ 19 := dec_len 18 m (by omega)
      have q1 : decide (n ≥ 0) = false := by simp; omega
      have q2 : (n == -9223372036854775808) = false := by simpa using hmin
      have q3 : IntKind.i64.wrap (-n) = (m : Int) := by rw [IntWalk.i64_in _ (by omega)]; omega
      have hmm : (m : Int) ≤ 9223372036854775807 := by omega
      clear hm hn hmin
      go_enter Tryd.func32, Tryd.ntmps32
      go_wp2_with (go_at_call 49; refine (digits_any (m + 1) m _ (by omega) (by omega)).mono ?_; rintro e w' ⟨rfl, nd, rfl⟩)
      go_ret
      refine ⟨str_ret ?_, _, rfl⟩
      rw [HF.out]; simp

theorem hex_piece (n : Nat) (h : n < 16) : ((⟨#[48, 49, 50, 51, 52, 53, 54, 55, 56, 57, 97, 98, 99, 100, 101, 102]⟩ : ByteArray).extract n (n + 1)).data.toList = [hexd n] := by
  have hh : ∀ j : Fin 16, ((⟨#[48, 49, 50, 51, 52, 53, 54, 55, 56, 57, 97, 98, 99, 100, 101, 102]⟩ : ByteArray).extract j.val (j.val + 1)).data.toList = [hexd j.val] := by decide +kernel
  exact hh ⟨n, h⟩
/-- A hex digit, as a text. -/
def hexS (n : Nat) : ByteArray := ⟨#[hexd n]⟩
theorem hex_slice (i j : Int) (n : Nat) (hn : n < 16) (hi : i = n) (hj : j = n + 1) (wx : World) : Sem.run Tryd.prog (Instr.slice 9 (.string ⟨#[48, 49, 50, 51, 52, 53, 54, 55, 56, 57, 97, 98, 99, 100, 101, 102]⟩) (some (.int .i64 i)) (some (.int .i64 j)) none) wx = .ok (.string (hexS n)) wx := by
  subst hi; subst hj
  rw [run_slice_string_if (h := Tryd.underlying9), if_pos (by refine ⟨by omega, ?_⟩; show _ ≤ ((16 : Nat) : Int); omega), if_pos (by omega)]
  congr 2
  refine bytes_ext ?_
  rw [show ((n : Int)).toNat = n from by omega, show ((n : Int) + 1).toNat = n + 1 from by omega, hex_piece _ (by omega)]
  rfl
theorem ref_cases (c : UInt8) : (plainB c = true ∧ decide ((c.toNat : Int) < 32) = false ∧ decide ((c.toNat : Int) > 126) = false ∧ ((c.toNat : Int) == 34) = false ∧ ((c.toNat : Int) == 92) = false)
    ∨ (plainB c = false ∧ (decide ((c.toNat : Int) < 32) = true ∨ (decide ((c.toNat : Int) < 32) = false ∧ decide ((c.toNat : Int) > 126) = true) ∨ (decide ((c.toNat : Int) < 32) = false ∧ decide ((c.toNat : Int) > 126) = false ∧ ((c.toNat : Int) == 34) = true) ∨ (decide ((c.toNat : Int) < 32) = false ∧ decide ((c.toNat : Int) > 126) = false ∧ ((c.toNat : Int) == 34) = false ∧ ((c.toNat : Int) == 92) = true))) := by
  rcases quote_cases c with ⟨a, b, d, e, f⟩ | ⟨a, b⟩
  · refine Or.inl ⟨a, b, ?_, e, f⟩
    simp only [decide_eq_false_iff_not] at d ⊢; omega
  · refine Or.inr ⟨a, ?_⟩
    simp only [decide_eq_true_iff, decide_eq_false_iff_not] at b ⊢
    rcases b with b | ⟨b, d⟩ | ⟨b, d, e⟩ | ⟨b, d, e, f⟩
    · exact Or.inl b
    · exact Or.inr (Or.inl ⟨b, by omega⟩)
    · exact Or.inr (Or.inr (Or.inl ⟨b, by omega, e⟩))
    · exact Or.inr (Or.inr (Or.inr ⟨b, by omega, e, f⟩))
theorem one_piece (s : ByteArray) (k : Nat) (h : k < s.size) : (s.extract k (k + 1)).data.toList = [s[k]] := by
  have h' : k < s.data.toList.length := by rw [size_data]; exact h
  rw [Lib.extract_data, show k + 1 - k = 1 from by omega, List.drop_eq_getElem_cons h']
  rfl
/-- The text so far. -/
def QSoFar (s : ByteArray) (k : Nat) (t : ByteArray) : Prop := t.data.toList = 34 :: (s.data.toList.take k).flatMap qbyte

theorem qsofar_step {s : ByteArray} {k : Nat} {t x : ByteArray} (hs : s.size ≤ 1000000) (h : k < s.size) (hq : QSoFar s k t) (hx : x.data.toList = qbyte s[k]) : QSoFar s (k + 1) (t ++ x) ∧ (t ++ x).size ≤ 3000001 := by
  have h1 : QSoFar s (k + 1) (t ++ x) := by
    unfold QSoFar at *
    rw [quoted_more s k h, ByteArray.data_append, Array.toList_append, hq, hx]
  refine ⟨h1, ?_⟩
  rw [← size_data, h1]
  exact quoted_len s (k + 1) hs
theorem esc_bytes (c : UInt8) (hp : plainB c = false) : ((⟨#[92]⟩ : ByteArray) ++ hexS (c.toNat / 16) ++ hexS (c.toNat % 16)).data.toList = qbyte c := by
  unfold qbyte; rw [if_neg (by simp [hp])]; simp [hexS]
theorem hexS_size (n : Nat) : (hexS n).size = 1 := rfl
theorem bytes_assoc (t a b c : ByteArray) : t ++ a ++ b ++ c = t ++ (a ++ b ++ c) := bytes_ext (by simp)
set_option maxRecDepth 100000 in
set_option maxHeartbeats 2000000 in
theorem ref_quote_any (s : ByteArray) (w : World) (hs : s.size ≤ 1000000) : Calls Tryd.prog 31 #[.string s] w fun e w' => e = .returned (.string ⟨(quote s.data.toList).toArray⟩) ∧ ∃ m, w' = w.drewN m := by
  go_enter Tryd.func31, Tryd.ntmps31
  go_wp2
  go_loopw [4, 5] (fun v i wr => ∃ (k : Nat) (t : ByteArray), k ≤ s.size ∧ i = .int .i64 k ∧ v = .string t ∧ t.size ≤ 3000001 ∧ Hid (QSoFar s k t) ∧ ∃ n, wr = w.drewN n) (fun _ i _ => s.size - (intOf i).toNat)
  case atStart =>
    exact ⟨0, _, by omega, rfl, rfl, by decide, by show QSoFar _ _ _; simp [QSoFar], 0, rfl⟩
  case round =>
    obtain ⟨k, t, hk, rfl, rfl, ht, hq, nr, rfl⟩ := hrel
    by_cases hlt : k < s.size
    · have hc255 : (s[k].toNat : Int) ≤ 255 := by have := s[k].toNat_lt; omega
      rcases ref_cases s[k] with ⟨hp, h1, h2, h3, h4⟩ | ⟨hp, h⟩
      · have HP := Lib.hid hp
        clear hp
        go_wp2
        have hst := qsofar_step hs hlt hq.out (show (s.extract k (k + 1)).data.toList = qbyte s[k] by rw [one_piece s k hlt]; unfold qbyte; rw [if_pos HP.out])
        exact ⟨⟨k + 1, _, by omega, by go_num, rfl, hst.2, hst.1, nr, rfl⟩, by simp [intOf]; omega⟩
      · have HP := Lib.hid hp
        clear hp
        have e1 : IntKind.i64.wrap ((s[k].toNat : Int) / 16) = (s[k].toNat : Int) / 16 := IntWalk.i64_in _ (by omega)
        have e2 : IntKind.i64.wrap ((s[k].toNat : Int) / 16 + 1) = (s[k].toNat : Int) / 16 + 1 := IntWalk.i64_in _ (by omega)
        have e3 : IntKind.i64.wrap ((s[k].toNat : Int) % 16 + 1) = (s[k].toNat : Int) % 16 + 1 := IntWalk.i64_in _ (by omega)
        have e4 : (s[k].toNat : Int).tmod 16 = (s[k].toNat : Int) % 16 := Int.tmod_eq_emod_of_nonneg (by omega)
        have e5 : (s[k].toNat : Int).tdiv 16 = (s[k].toNat : Int) / 16 := Int.tdiv_eq_ediv_of_nonneg (by omega)
        have hs1 := hex_slice ((s[k].toNat : Int) / 16) ((s[k].toNat : Int) / 16 + 1) (s[k].toNat / 16) (by omega) (by omega) (by omega)
        have hs2 := hex_slice ((s[k].toNat : Int) % 16) ((s[k].toNat : Int) % 16 + 1) (s[k].toNat % 16) (by omega) (by omega) (by omega)
        have z1 := hexS_size (s[k].toNat / 16)
        have z2 := hexS_size (s[k].toNat % 16)
        have hst := qsofar_step hs hlt hq.out (esc_bytes s[k] HP.out)
        rw [← bytes_assoc] at hst
        have HST := Lib.hid hst
        clear hst
        rcases h with h1 | ⟨h1, h2⟩ | ⟨h1, h2, h3⟩ | ⟨h1, h2, h3, h4⟩
        all_goals
          go_wp2
          go_quiet (fail)
          go_wp2
          exact ⟨⟨k + 1, _, by omega, by go_num, rfl, HST.out.2, HST.out.1, _, rfl⟩, by simp [intOf]; omega⟩
    · have hk' : k = s.size := by omega
      have HF : Hid (t.data.toList ++ [34] = quote s.data.toList) := by
        show _ = _
        have := hq.out
        unfold QSoFar at this
        rw [this, hk', List.take_of_length_le (by rw [size_data]; omega)]; rfl
      clear hk'
      go_wp2
      go_ret
      refine ⟨str_ret ?_, _, rfl⟩
      rw [← HF.out]; simp
end Go.Proofs.YtelehacakbaobaaDoor

namespace Go.Proofs.YtelehacakbaobaaDoor.PR
open Go.RowKit Go.Proofs.YtelehacakbaobaaDoorW.PrintWords
def pangramref28_Quote.f (a0 : ByteArray) : Option ByteArray := if a0.size ≤ 1000000 then some ⟨(quote a0.data.toList).toArray⟩ else none
theorem pangramref28_Quote.calls (a0 : ByteArray) (r : ByteArray) (w : World) (h : pangramref28_Quote.f a0 = some r) : Calls Tryd.prog 31 #[.string a0] w fun e w' => e = .returned (.string r) ∧ Drawn0 w w' := by
  unfold pangramref28_Quote.f at h
  split at h
  · rename_i hs
    obtain rfl := Option.some.inj h
    exact (ref_quote_any a0 w hs).mono fun e w' ⟨he, hw⟩ => ⟨he, ⟨hw⟩⟩
  · cases h
def pangramref28_Int.f (a0 : Int) : Option ByteArray := if -9223372036854775808 ≤ a0 ∧ a0 ≤ 9223372036854775807 then some ⟨(Lib.itoa a0).toArray⟩ else none
theorem pangramref28_Int.calls (a0 : Int) (r : ByteArray) (w : World) (h : pangramref28_Int.f a0 = some r) : Calls Tryd.prog 32 #[.int .i64 a0] w fun e w' => e = .returned (.string r) ∧ Drawn0 w w' := by
  unfold pangramref28_Int.f at h
  split at h
  · rename_i hs
    obtain rfl := Option.some.inj h
    exact (int_any a0 w hs.1 hs.2).mono fun e w' ⟨he, hw⟩ => ⟨he, ⟨hw⟩⟩
  · cases h
end Go.Proofs.YtelehacakbaobaaDoor.PR
