/- What ref28.Parse comes to at the word of kind 3. (Written by genrefparse.py.) -/
import Derived.Test.YtelehacakbaobaaDoorRefSteps
namespace Go.Proofs.YtelehacakbaobaaDoor
open Go.RowKit
set_option linter.unusedVariables false
set_option linter.unusedSimpArgs false

set_option maxRecDepth 100000 in
set_option maxHeartbeats 8000000 in
theorem ref_parse_3nz (s : Bs) (hs : s.length ≤ 100000) (hw : cutWord s = wordOf 3) (x0 nm : Bs) (hsp : splitN 9 s = [x0, nm]) (hk : lineErr ⟨3, nm, 0, 0, [], 0, 0, 0, 0⟩ ≠ 0) (w : World) :
    Calls Tryd.prog 10 #[.string ⟨s.toArray⟩] w fun e w' => e = refAns (none) ∧ Below w.heap.size w w' := by
  have HH := Lib.hid (fun wx hP => hd_call w s hs ⟨0, [], 0, 0, [], 0, 0, 0, 0⟩ wx hP)
  rw [hw, show wordOf 3 = [99, 108, 111, 115, 101] from rfl] at HH
  have HW := Lib.hid (fun wx hP => ws_call w s hs 9 (by omega) (by omega) 9 rfl [x0, nm] hsp 2 rfl ⟨3, [], 0, 0, [], 0, 0, 0, 0⟩ wx hP)
  have hnm : nm.length ≤ 100000 := mem_len hsp (by simp) hs
  have HL0 : Hid (∃ (k : Int) (ln : Bs), (k != 0) = true ∧ ∀ wx, Calls Tryd.prog 13 #[.agg #[.int .i64 3, .string ⟨(nm : Bs).toArray⟩, .int .i64 0, .int .i64 0, .string ⟨([] : Bs).toArray⟩, .int .i64 0, .int .i64 0, .int .i64 0, .int .i64 0]] wx fun e w' => e = .returned (.tuple #[.string ⟨ln.toArray⟩, .int .i64 k]) ∧ Below wx.heap.size wx w') := by
    refine Lib.hid ?_
    have hl := fun wx => ref_line_any ⟨3, nm, 0, 0, [], 0, 0, 0, 0⟩ ⟨(by simp), (by simp), (by simp), (by simp), (by simp), (by simp), hnm, (by simp)⟩ wx
    exact ⟨_, _, by rw [bne_iff_ne]; omega, hl⟩
  obtain ⟨k, ln, hkz, hln⟩ := HL0.out
  have HLN := Lib.hid hln
  clear hw HL0 hln hsp hk hnm
  go_enter Tryd.func10, Tryd.ntmps10
  go_wp2_with (first | (go_at_call 22; (with_reducible refine Calls.mono (HH.out _ ?_) ?_); rotate_right; rintro e w1 ⟨g1, cap1, L1, rfl, hL1, hc1, hg1, hg1', hP1⟩; have hne1 : ¬ g1 = w.heap.size + 1 + 1 := (by omega); have hlt1 := hP1.lt; obtain ⟨a0, a1, a2, a3, a4, a5, a6, a7, a8⟩ := acts9 hP1.ha; obtain ⟨b0, b1, b2, b3, b4, b5, b6, b7, b8⟩ := free9 hP1.ha) | (go_at_call 22; (with_reducible refine Calls.mono (HW.out _ ?_) ?_); rotate_right; rintro e w2 ⟨g2, cap2, rfl, hc2, hg2, hg2', hP2⟩; have hne2 : ¬ g2 = w.heap.size + 1 + 1 := (by omega); have hlt2 := hP2.lt; clear a0 a1 a2 a3 a4 a5 a6 a7 a8 b0 b1 b2 b3 b4 b5 b6 b7 b8; have y0 := hc2 0 _ rfl; have y1 := hc2 1 _ rfl; clear hc2; obtain ⟨a0, a1, a2, a3, a4, a5, a6, a7, a8⟩ := acts9 hP2.ha; obtain ⟨b0, b1, b2, b3, b4, b5, b6, b7, b8⟩ := free9 hP2.ha))
  refine wp_loop_rounds 1 ?_
  rw [rounds_succ]
  go_wp2_with (go_at_call 13; (with_reducible refine Calls.mono (HLN.out _) ?_); rintro e w9 ⟨rfl, hb9⟩; have hP9 := PW.below ((hP2.set 1 (.string ⟨nm.toArray⟩) (a' := ⟨3, nm, 0, 0, [], 0, 0, 0, 0⟩) rfl).alloc _) hb9; have hlt9 := hP9.lt; clear a0 a1 a2 a3 a4 a5 a6 a7 a8 b0 b1 b2 b3 b4 b5 b6 b7 b8; obtain ⟨c0, c1, c2, c3, c4, c5, c6, c7, c8⟩ := acts9 hP9.hr; obtain ⟨d0, d1, d2, d3, d4, d5, d6, d7, d8⟩ := free9 hP9.hr; obtain ⟨a0, a1, a2, a3, a4, a5, a6, a7, a8⟩ := acts9 hP9.ha; obtain ⟨n0, n1, n2, n3, n4, n5, n6, n7, n8⟩ := acts9 hP9.hn)
  · refine rparse_ret (hP9.hr.all ⟨0, [], 0, 0, [], 0, 0, 0, 0⟩) rfl rfl ⟨?_, below_all hP9.hb ⟨0, [], 0, 0, [], 0, 0, 0, 0⟩⟩
    rfl
  · exact (hP1.set 0 (.int .i64 3) (a' := ⟨3, [], 0, 0, [], 0, 0, 0, 0⟩) rfl).alloc _
  · exact pw_start w
set_option maxRecDepth 100000 in
set_option maxHeartbeats 8000000 in
theorem ref_parse_3z (s : Bs) (hs : s.length ≤ 100000) (hw : cutWord s = wordOf 3) (x0 nm : Bs) (hsp : splitN 9 s = [x0, nm]) (hk : lineErr ⟨3, nm, 0, 0, [], 0, 0, 0, 0⟩ = 0) (w : World) :
    Calls Tryd.prog 10 #[.string ⟨s.toArray⟩] w fun e w' => e = refAns (some ⟨3, nm, 0, 0, [], 0, 0, 0, 0⟩) ∧ Below w.heap.size w w' := by
  have HH := Lib.hid (fun wx hP => hd_call w s hs ⟨0, [], 0, 0, [], 0, 0, 0, 0⟩ wx hP)
  rw [hw, show wordOf 3 = [99, 108, 111, 115, 101] from rfl] at HH
  have HW := Lib.hid (fun wx hP => ws_call w s hs 9 (by omega) (by omega) 9 rfl [x0, nm] hsp 2 rfl ⟨3, [], 0, 0, [], 0, 0, 0, 0⟩ wx hP)
  have hnm : nm.length ≤ 100000 := mem_len hsp (by simp) hs
  have HL0 : Hid (∃ (ln : Bs), ∀ wx, Calls Tryd.prog 13 #[.agg #[.int .i64 3, .string ⟨(nm : Bs).toArray⟩, .int .i64 0, .int .i64 0, .string ⟨([] : Bs).toArray⟩, .int .i64 0, .int .i64 0, .int .i64 0, .int .i64 0]] wx fun e w' => e = .returned (.tuple #[.string ⟨ln.toArray⟩, .int .i64 0]) ∧ Below wx.heap.size wx w') := by
    refine Lib.hid ?_
    have hl := fun wx => ref_line_any ⟨3, nm, 0, 0, [], 0, 0, 0, 0⟩ ⟨(by simp), (by simp), (by simp), (by simp), (by simp), (by simp), hnm, (by simp)⟩ wx
    rw [hk] at hl; exact ⟨_, hl⟩
  obtain ⟨ln, hln⟩ := HL0.out
  have HLN := Lib.hid hln
  clear hw HL0 hln hsp hk hnm
  go_enter Tryd.func10, Tryd.ntmps10
  go_wp2_with (first | (go_at_call 22; (with_reducible refine Calls.mono (HH.out _ ?_) ?_); rotate_right; rintro e w1 ⟨g1, cap1, L1, rfl, hL1, hc1, hg1, hg1', hP1⟩; have hne1 : ¬ g1 = w.heap.size + 1 + 1 := (by omega); have hlt1 := hP1.lt; obtain ⟨a0, a1, a2, a3, a4, a5, a6, a7, a8⟩ := acts9 hP1.ha; obtain ⟨b0, b1, b2, b3, b4, b5, b6, b7, b8⟩ := free9 hP1.ha) | (go_at_call 22; (with_reducible refine Calls.mono (HW.out _ ?_) ?_); rotate_right; rintro e w2 ⟨g2, cap2, rfl, hc2, hg2, hg2', hP2⟩; have hne2 : ¬ g2 = w.heap.size + 1 + 1 := (by omega); have hlt2 := hP2.lt; clear a0 a1 a2 a3 a4 a5 a6 a7 a8 b0 b1 b2 b3 b4 b5 b6 b7 b8; have y0 := hc2 0 _ rfl; have y1 := hc2 1 _ rfl; clear hc2; obtain ⟨a0, a1, a2, a3, a4, a5, a6, a7, a8⟩ := acts9 hP2.ha; obtain ⟨b0, b1, b2, b3, b4, b5, b6, b7, b8⟩ := free9 hP2.ha))
  refine wp_loop_rounds 1 ?_
  rw [rounds_succ]
  go_wp2_with (go_at_call 13; (with_reducible refine Calls.mono (HLN.out _) ?_); rintro e w9 ⟨rfl, hb9⟩; have hP9 := PW.below ((hP2.set 1 (.string ⟨nm.toArray⟩) (a' := ⟨3, nm, 0, 0, [], 0, 0, 0, 0⟩) rfl).alloc _) hb9; have hlt9 := hP9.lt; clear a0 a1 a2 a3 a4 a5 a6 a7 a8 b0 b1 b2 b3 b4 b5 b6 b7 b8; obtain ⟨c0, c1, c2, c3, c4, c5, c6, c7, c8⟩ := acts9 hP9.hr; obtain ⟨d0, d1, d2, d3, d4, d5, d6, d7, d8⟩ := free9 hP9.hr; obtain ⟨a0, a1, a2, a3, a4, a5, a6, a7, a8⟩ := acts9 hP9.ha; obtain ⟨n0, n1, n2, n3, n4, n5, n6, n7, n8⟩ := acts9 hP9.hn)
  · refine rparse_ret (hP9.hr.all ⟨3, nm, 0, 0, [], 0, 0, 0, 0⟩) rfl rfl ⟨?_, below_all hP9.hb ⟨3, nm, 0, 0, [], 0, 0, 0, 0⟩⟩
    rfl
  · exact (hP1.set 0 (.int .i64 3) (a' := ⟨3, [], 0, 0, [], 0, 0, 0, 0⟩) rfl).alloc _
  · exact pw_start w
set_option maxRecDepth 100000 in
set_option maxHeartbeats 8000000 in
theorem ref_parse_3s (s : Bs) (hs : s.length ≤ 100000) (hw : cutWord s = wordOf 3) (hsp : (splitN 9 s).length ≠ 2) (w : World) :
    Calls Tryd.prog 10 #[.string ⟨s.toArray⟩] w fun e w' => e = refAns none ∧ Below w.heap.size w w' := by
  have HH := Lib.hid (fun wx hP => hd_call w s hs ⟨0, [], 0, 0, [], 0, 0, 0, 0⟩ wx hP)
  rw [hw, show wordOf 3 = [99, 108, 111, 115, 101] from rfl] at HH
  have hLx : Hid (∃ L2, L2 = (splitN 9 s).length) := ⟨_, rfl⟩
  obtain ⟨L2, hL2⟩ := hLx.out
  have hLn : ((L2 : Int) == 2) = false := by rw [beq_eq_false_iff_ne, hL2]; omega
  have HW := Lib.hid (fun wx hP => ws_call w s hs 9 (by omega) (by omega) 9 rfl (splitN 9 s) rfl L2 hL2 ⟨3, [], 0, 0, [], 0, 0, 0, 0⟩ wx hP)
  clear hw hsp hL2 hLx
  go_enter Tryd.func10, Tryd.ntmps10
  go_wp2_with (first | (go_at_call 22; (with_reducible refine Calls.mono (HH.out _ ?_) ?_); rotate_right; rintro e w1 ⟨g1, cap1, L1, rfl, hL1, hc1, hg1, hg1', hP1⟩; have hne1 : ¬ g1 = w.heap.size + 1 + 1 := (by omega); have hlt1 := hP1.lt; obtain ⟨a0, a1, a2, a3, a4, a5, a6, a7, a8⟩ := acts9 hP1.ha; obtain ⟨b0, b1, b2, b3, b4, b5, b6, b7, b8⟩ := free9 hP1.ha) | (go_at_call 22; (with_reducible refine Calls.mono (HW.out _ ?_) ?_); rotate_right; rintro e w2 ⟨g2, cap2, rfl, hc2, hg2, hg2', hP2⟩; clear hc2; have hlt2 := hP2.lt; clear a0 a1 a2 a3 a4 a5 a6 a7 a8 b0 b1 b2 b3 b4 b5 b6 b7 b8; obtain ⟨c0, c1, c2, c3, c4, c5, c6, c7, c8⟩ := acts9 hP2.hr; obtain ⟨d0, d1, d2, d3, d4, d5, d6, d7, d8⟩ := free9 hP2.hr; obtain ⟨n0, n1, n2, n3, n4, n5, n6, n7, n8⟩ := acts9 hP2.hn))
  · refine rparse_ret (hP2.hr.all ⟨0, [], 0, 0, [], 0, 0, 0, 0⟩) rfl rfl ⟨rfl, below_all hP2.hb ⟨0, [], 0, 0, [], 0, 0, 0, 0⟩⟩
  · exact (hP1.set 0 (.int .i64 3) (a' := ⟨3, [], 0, 0, [], 0, 0, 0, 0⟩) rfl).alloc _
  · exact pw_start w
end Go.Proofs.YtelehacakbaobaaDoor
