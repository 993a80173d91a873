/- What ref28.Parse comes to where the first word is no kind's. -/
import Derived.Test.YtelehacakbaobaaDoorRefSteps
import Derived.Deep.Cut
namespace Go.Proofs.YtelehacakbaobaaDoor
open Go.RowKit
set_option linter.unusedVariables false
set_option linter.unusedSimpArgs false
set_option maxRecDepth 100000 in
set_option maxHeartbeats 8000000 in
theorem ref_parse_none (s : Bs) (hs : s.length ≤ 100000) (k1 : ¬ cutWord s = wordOf 1) (k2 : ¬ cutWord s = wordOf 2) (k3 : ¬ cutWord s = wordOf 3) (k4 : ¬ cutWord s = wordOf 4) (k5 : ¬ cutWord s = wordOf 5) (k6 : ¬ cutWord s = wordOf 6) (k7 : ¬ cutWord s = wordOf 7) (w : World) :
    Calls Tryd.prog 10 #[.string ⟨s.toArray⟩] w fun e w' => e = refAns none ∧ Below w.heap.size w w' := by
  have HH := Lib.hid (fun wx hP => hd_call w s hs ⟨0, [], 0, 0, [], 0, 0, 0, 0⟩ wx hP)
  have hx : Hid (∃ hd, hd = cutWord s) := ⟨_, rfl⟩
  obtain ⟨hd, hhd⟩ := hx.out
  rw [← hhd] at HH
  have q1 : (hd == [111, 112, 101, 110]) = false := by rw [beq_eq_false_iff_ne, hhd]; exact k1
  have q2 : (hd == [101, 100, 105, 116]) = false := by rw [beq_eq_false_iff_ne, hhd]; exact k2
  have q3 : (hd == [99, 108, 111, 115, 101]) = false := by rw [beq_eq_false_iff_ne, hhd]; exact k3
  have q4 : (hd == [99, 104, 101, 99, 107]) = false := by rw [beq_eq_false_iff_ne, hhd]; exact k4
  have q5 : (hd == [114, 117, 110]) = false := by rw [beq_eq_false_iff_ne, hhd]; exact k5
  have q6 : (hd == [108, 105, 109, 105, 116]) = false := by rw [beq_eq_false_iff_ne, hhd]; exact k6
  have q7 : (hd == [108, 105, 115, 116]) = false := by rw [beq_eq_false_iff_ne, hhd]; exact k7
  clear hx hhd k1 k2 k3 k4 k5 k6 k7
  go_enter Tryd.func10, Tryd.ntmps10
  go_upto_region 35 with (go_at_call 22; (with_reducible refine Calls.mono (HH.out _ ?_) ?_); rotate_right; rintro e w1 ⟨g1, cap1, L1, rfl, hL1, hc1, hg1, hg1', hP1⟩)
  · have hPf := hP1.alloc (.cells #[] 9)
    clear hc1 hL1 hg1 hg1' hP1
    generalize w1.alloc (.cells #[] 9) = wx at *
    obtain ⟨c0, c1, c2, c3, c4, c5, c6, c7, c8⟩ := acts9 hPf.hr
    obtain ⟨d0, d1, d2, d3, d4, d5, d6, d7, d8⟩ := free9 hPf.hr
    obtain ⟨n0, n1, n2, n3, n4, n5, n6, n7, n8⟩ := acts9 hPf.hn
    go_wp2
    refine rparse_ret (hPf.hr.all ⟨0, [], 0, 0, [], 0, 0, 0, 0⟩) rfl rfl ⟨rfl, below_all hPf.hb ⟨0, [], 0, 0, [], 0, 0, 0, 0⟩⟩
  · exact pw_start w
end Go.Proofs.YtelehacakbaobaaDoor
