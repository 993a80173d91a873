/- What ref28.Parse comes to at the word of kind 7. (Written by genrefparse.py.) -/
import Derived.Test.YtelehacakbaobaaDoorRefSteps
import Derived.Deep.Cut
namespace Go.Proofs.YtelehacakbaobaaDoor
open Go.RowKit
set_option linter.unusedVariables false
set_option linter.unusedSimpArgs false

set_option maxRecDepth 100000 in
set_option maxHeartbeats 8000000 in
theorem ref_parse_7nz (s : Bs) (hs : s.length ≤ 100000) (hw : cutWord s = wordOf 7) (hs7 : s = wordOf 7) (hk : lineErr ⟨7, [], 0, 0, [], 0, 0, 0, 0⟩ ≠ 0) (w : World) :
    Calls Tryd.prog 10 #[.string ⟨s.toArray⟩] w fun e w' => e = refAns (none) ∧ Below w.heap.size w w' := by
  have HH := Lib.hid (fun wx hP => hd_call w s hs ⟨0, [], 0, 0, [], 0, 0, 0, 0⟩ wx hP)
  rw [hw, show wordOf 7 = [108, 105, 115, 116] from rfl] at HH
  have HL0 : Hid (∃ (k : Int) (ln : Bs), (k != 0) = true ∧ ∀ wx, Calls Tryd.prog 13 #[.agg #[.int .i64 7, .string ⟨([] : Bs).toArray⟩, .int .i64 0, .int .i64 0, .string ⟨([] : Bs).toArray⟩, .int .i64 0, .int .i64 0, .int .i64 0, .int .i64 0]] wx fun e w' => e = .returned (.tuple #[.string ⟨ln.toArray⟩, .int .i64 k]) ∧ Below wx.heap.size wx w') := by
    refine Lib.hid ?_
    have hl := fun wx => ref_line_any ⟨7, [], 0, 0, [], 0, 0, 0, 0⟩ ⟨(by simp), (by simp), (by simp), (by simp), (by simp), (by simp), (by simp), (by simp)⟩ wx
    exact ⟨_, _, by rw [bne_iff_ne]; omega, hl⟩
  obtain ⟨k, ln, hkz, hln⟩ := HL0.out
  have HLN := Lib.hid hln
  have hsl : (s == [108, 105, 115, 116]) = true := by rw [hs7]; decide +kernel
  clear hw HL0 hln hk hs7
  go_enter Tryd.func10, Tryd.ntmps10
  go_wp2_with (first | (go_at_call 22; (with_reducible refine Calls.mono (HH.out _ ?_) ?_); rotate_right; rintro e w1 ⟨g1, cap1, L1, rfl, hL1, hc1, hg1, hg1', hP1⟩; have hne1 : ¬ g1 = w.heap.size + 1 + 1 := (by omega); have hlt1 := hP1.lt; obtain ⟨a0, a1, a2, a3, a4, a5, a6, a7, a8⟩ := acts9 hP1.ha; obtain ⟨b0, b1, b2, b3, b4, b5, b6, b7, b8⟩ := free9 hP1.ha; have hltn : w.heap.size + 1 < w1.heap.size := (by omega); have hltr : w.heap.size < w1.heap.size := (by omega); have hnn : ¬ w.heap.size + 1 = w1.heap.size := (by omega); have hnm : ¬ w.heap.size + 1 + 1 = w1.heap.size := (by omega)))
  refine wp_loop_rounds 1 ?_
  rw [rounds_succ]
  go_wp2_with (go_at_call 13; (with_reducible refine Calls.mono (HLN.out _) ?_); rintro e w9 ⟨rfl, hb9⟩; have hP9 := PW.below (((hP1.set 0 (.int .i64 7) (a' := ⟨7, [], 0, 0, [], 0, 0, 0, 0⟩) rfl).alloc _).alloc _) hb9; have hlt9 := hP9.lt; clear a0 a1 a2 a3 a4 a5 a6 a7 a8 b0 b1 b2 b3 b4 b5 b6 b7 b8; obtain ⟨c0, c1, c2, c3, c4, c5, c6, c7, c8⟩ := acts9 hP9.hr; obtain ⟨d0, d1, d2, d3, d4, d5, d6, d7, d8⟩ := free9 hP9.hr; obtain ⟨a0, a1, a2, a3, a4, a5, a6, a7, a8⟩ := acts9 hP9.ha; obtain ⟨n0, n1, n2, n3, n4, n5, n6, n7, n8⟩ := acts9 hP9.hn)
  · refine rparse_ret (hP9.hr.all ⟨0, [], 0, 0, [], 0, 0, 0, 0⟩) rfl rfl ⟨?_, below_all hP9.hb ⟨0, [], 0, 0, [], 0, 0, 0, 0⟩⟩
    rfl
  · exact pw_start w
set_option maxRecDepth 100000 in
set_option maxHeartbeats 8000000 in
theorem ref_parse_7z (s : Bs) (hs : s.length ≤ 100000) (hw : cutWord s = wordOf 7) (hs7 : s = wordOf 7) (hk : lineErr ⟨7, [], 0, 0, [], 0, 0, 0, 0⟩ = 0) (w : World) :
    Calls Tryd.prog 10 #[.string ⟨s.toArray⟩] w fun e w' => e = refAns (some ⟨7, [], 0, 0, [], 0, 0, 0, 0⟩) ∧ Below w.heap.size w w' := by
  have HH := Lib.hid (fun wx hP => hd_call w s hs ⟨0, [], 0, 0, [], 0, 0, 0, 0⟩ wx hP)
  rw [hw, show wordOf 7 = [108, 105, 115, 116] from rfl] at HH
  have HL0 : Hid (∃ (ln : Bs), ∀ wx, Calls Tryd.prog 13 #[.agg #[.int .i64 7, .string ⟨([] : Bs).toArray⟩, .int .i64 0, .int .i64 0, .string ⟨([] : Bs).toArray⟩, .int .i64 0, .int .i64 0, .int .i64 0, .int .i64 0]] wx fun e w' => e = .returned (.tuple #[.string ⟨ln.toArray⟩, .int .i64 0]) ∧ Below wx.heap.size wx w') := by
    refine Lib.hid ?_
    have hl := fun wx => ref_line_any ⟨7, [], 0, 0, [], 0, 0, 0, 0⟩ ⟨(by simp), (by simp), (by simp), (by simp), (by simp), (by simp), (by simp), (by simp)⟩ wx
    rw [hk] at hl; exact ⟨_, hl⟩
  obtain ⟨ln, hln⟩ := HL0.out
  have HLN := Lib.hid hln
  have hsl : (s == [108, 105, 115, 116]) = true := by rw [hs7]; decide +kernel
  clear hw HL0 hln hk hs7
  go_enter Tryd.func10, Tryd.ntmps10
  go_wp2_with (first | (go_at_call 22; (with_reducible refine Calls.mono (HH.out _ ?_) ?_); rotate_right; rintro e w1 ⟨g1, cap1, L1, rfl, hL1, hc1, hg1, hg1', hP1⟩; have hne1 : ¬ g1 = w.heap.size + 1 + 1 := (by omega); have hlt1 := hP1.lt; obtain ⟨a0, a1, a2, a3, a4, a5, a6, a7, a8⟩ := acts9 hP1.ha; obtain ⟨b0, b1, b2, b3, b4, b5, b6, b7, b8⟩ := free9 hP1.ha; have hltn : w.heap.size + 1 < w1.heap.size := (by omega); have hltr : w.heap.size < w1.heap.size := (by omega); have hnn : ¬ w.heap.size + 1 = w1.heap.size := (by omega); have hnm : ¬ w.heap.size + 1 + 1 = w1.heap.size := (by omega)))
  refine wp_loop_rounds 1 ?_
  rw [rounds_succ]
  go_wp2_with (go_at_call 13; (with_reducible refine Calls.mono (HLN.out _) ?_); rintro e w9 ⟨rfl, hb9⟩; have hP9 := PW.below (((hP1.set 0 (.int .i64 7) (a' := ⟨7, [], 0, 0, [], 0, 0, 0, 0⟩) rfl).alloc _).alloc _) hb9; have hlt9 := hP9.lt; clear a0 a1 a2 a3 a4 a5 a6 a7 a8 b0 b1 b2 b3 b4 b5 b6 b7 b8; obtain ⟨c0, c1, c2, c3, c4, c5, c6, c7, c8⟩ := acts9 hP9.hr; obtain ⟨d0, d1, d2, d3, d4, d5, d6, d7, d8⟩ := free9 hP9.hr; obtain ⟨a0, a1, a2, a3, a4, a5, a6, a7, a8⟩ := acts9 hP9.ha; obtain ⟨n0, n1, n2, n3, n4, n5, n6, n7, n8⟩ := acts9 hP9.hn)
  · refine rparse_ret (hP9.hr.all ⟨7, [], 0, 0, [], 0, 0, 0, 0⟩) rfl rfl ⟨?_, below_all hP9.hb ⟨7, [], 0, 0, [], 0, 0, 0, 0⟩⟩
    rfl
  · exact pw_start w
set_option maxRecDepth 100000 in
set_option maxHeartbeats 8000000 in
theorem ref_parse_7s (s : Bs) (hs : s.length ≤ 100000) (hw : cutWord s = wordOf 7) (hs7 : ¬ s = wordOf 7) (w : World) :
    Calls Tryd.prog 10 #[.string ⟨s.toArray⟩] w fun e w' => e = refAns none ∧ Below w.heap.size w w' := by
  have HH := Lib.hid (fun wx hP => hd_call w s hs ⟨0, [], 0, 0, [], 0, 0, 0, 0⟩ wx hP)
  rw [hw, show wordOf 7 = [108, 105, 115, 116] from rfl] at HH
  have hsl : (s == [108, 105, 115, 116]) = false := by rw [beq_eq_false_iff_ne]; exact hs7
  clear hw hs7
  go_enter Tryd.func10, Tryd.ntmps10
  go_upto_region 35 with (go_at_call 22; (with_reducible refine Calls.mono (HH.out _ ?_) ?_); rotate_right; rintro e w1 ⟨g1, cap1, L1, rfl, hL1, hc1, hg1, hg1', hP1⟩; have hne1 : ¬ g1 = w.heap.size + 1 + 1 := (by omega); have hlt1 := hP1.lt; obtain ⟨a0, a1, a2, a3, a4, a5, a6, a7, a8⟩ := acts9 hP1.ha; obtain ⟨b0, b1, b2, b3, b4, b5, b6, b7, b8⟩ := free9 hP1.ha)
  · have hPf := (hP1.set 0 (.int .i64 7) (a' := ⟨7, [], 0, 0, [], 0, 0, 0, 0⟩) rfl).alloc (.cells #[] 9)
    clear hc1 hL1 hg1 hg1' hP1; clear a0 a1 a2 a3 a4 a5 a6 a7 a8 b0 b1 b2 b3 b4 b5 b6 b7 b8
    generalize (w1.setCell ⟨w.heap.size + 1 + 1, 0, none⟩ (.int .i64 7)).alloc (.cells #[] 9) = wx at *
    obtain ⟨c0, c1, c2, c3, c4, c5, c6, c7, c8⟩ := acts9 hPf.hr
    obtain ⟨d0, d1, d2, d3, d4, d5, d6, d7, d8⟩ := free9 hPf.hr
    obtain ⟨n0, n1, n2, n3, n4, n5, n6, n7, n8⟩ := acts9 hPf.hn
    go_wp2
    refine rparse_ret (hPf.hr.all ⟨0, [], 0, 0, [], 0, 0, 0, 0⟩) rfl rfl ⟨rfl, below_all hPf.hb ⟨0, [], 0, 0, [], 0, 0, 0, 0⟩⟩
  · exact pw_start w
end Go.Proofs.YtelehacakbaobaaDoor
