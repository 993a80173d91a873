/- What ref28.Parse comes to at the word of kind 5. (Written by genrefparse.py.) -/
import Derived.Test.YtelehacakbaobaaDoorRefSteps
namespace Go.Proofs.YtelehacakbaobaaDoor
open Go.RowKit
set_option linter.unusedVariables false
set_option linter.unusedSimpArgs false

set_option maxRecDepth 100000 in
set_option maxHeartbeats 8000000 in
theorem ref_parse_5f0 (s : Bs) (hs : s.length ≤ 100000) (hw : cutWord s = wordOf 5) (x0 nm u0 : Bs) (hsp : splitN 9 s = [x0, nm, u0]) (h_q0 : nok u0 = false) (w : World) :
    Calls Tryd.prog 10 #[.string ⟨s.toArray⟩] w fun e w' => e = refAns (none) ∧ Below w.heap.size w w' := by
  have HH := Lib.hid (fun wx hP => hd_call w s hs ⟨0, [], 0, 0, [], 0, 0, 0, 0⟩ wx hP)
  rw [hw, show wordOf 5 = [114, 117, 110] from rfl] at HH
  have HW := Lib.hid (fun wx hP => ws_call w s hs 9 (by omega) (by omega) 9 rfl [x0, nm, u0] hsp 3 rfl ⟨5, [], 0, 0, [], 0, 0, 0, 0⟩ wx hP)
  have hnm : nm.length ≤ 100000 := mem_len hsp (by simp) hs
  have HM0 : Hid (∃ (v : Int), v = nv u0 ∧ ∀ wx, Calls Tryd.prog 24 #[.string ⟨u0.toArray⟩] wx fun e w' => e = .returned (.tuple #[.int .i64 v, .bool false]) ∧ Below wx.heap.size wx w') := ⟨_, rfl, fun wx => by have := refnumber_any u0 wx; rw [h_q0] at this; exact this⟩
  obtain ⟨v0, hv0, hn0⟩ := HM0.out
  have HV0 := Lib.hid hv0
  have HN0 := Lib.hid hn0
  have HL0 : Hid (∃ (k : Int) (ln : Bs), ∀ wx, Calls Tryd.prog 13 #[.agg #[.int .i64 5, .string ⟨(nm : Bs).toArray⟩, .int .i64 0, .int .i64 0, .string ⟨([] : Bs).toArray⟩, .int .i64 v0, .int .i64 0, .int .i64 0, .int .i64 0]] wx fun e w' => e = .returned (.tuple #[.string ⟨ln.toArray⟩, .int .i64 k]) ∧ Below wx.heap.size wx w') := by
    refine Lib.hid ?_
    rw [HV0.out]
    have hl := fun wx => ref_line_any ⟨5, nm, 0, 0, [], (nv u0), 0, 0, 0⟩ ⟨(by simp), (by simp), (nv_bounds _), (by simp), (by simp), (by simp), hnm, (by simp)⟩ wx
    exact ⟨_, _, hl⟩
  obtain ⟨k, ln, hln⟩ := HL0.out
  have HLN := Lib.hid hln
  clear hw HL0 hln hsp hnm h_q0 hv0 hn0 HM0
  go_enter Tryd.func10, Tryd.ntmps10
  go_wp2_with (first | (go_at_call 22; (with_reducible refine Calls.mono (HH.out _ ?_) ?_); rotate_right; rintro e w1 ⟨g1, cap1, L1, rfl, hL1, hc1, hg1, hg1', hP1⟩; have hne1 : ¬ g1 = w.heap.size + 1 + 1 := (by omega); have hlt1 := hP1.lt; obtain ⟨a0, a1, a2, a3, a4, a5, a6, a7, a8⟩ := acts9 hP1.ha; obtain ⟨b0, b1, b2, b3, b4, b5, b6, b7, b8⟩ := free9 hP1.ha) | (go_at_call 22; (with_reducible refine Calls.mono (HW.out _ ?_) ?_); rotate_right; rintro e w2 ⟨g2, cap2, rfl, hc2, hg2, hg2', hP2⟩; have hne2 : ¬ g2 = w.heap.size + 1 + 1 := (by omega); have hlt2 := hP2.lt; clear a0 a1 a2 a3 a4 a5 a6 a7 a8 b0 b1 b2 b3 b4 b5 b6 b7 b8; have y0 := hc2 0 _ rfl; have y1 := hc2 1 _ rfl; have y2 := hc2 2 _ rfl; clear hc2; obtain ⟨a0, a1, a2, a3, a4, a5, a6, a7, a8⟩ := acts9 hP2.ha; obtain ⟨b0, b1, b2, b3, b4, b5, b6, b7, b8⟩ := free9 hP2.ha))
  refine wp_loop_rounds 2 ?_
  rw [rounds_succ]
  go_wp2_with (go_at_call 24; (with_reducible refine Calls.mono (HN0.out _) ?_); rintro e w4 ⟨rfl, hb4⟩; have hP4 := PW.below ((hP2.set 1 (.string ⟨nm.toArray⟩) (a' := ⟨5, nm, 0, 0, [], 0, 0, 0, 0⟩) rfl).alloc _) hb4; have hA4 := HasArr.below (HasArr.new _ w2.heap.size (by simp only [World.size_setCell])) hb4 (by simp only [World.size_setCell, World.size_alloc]; omega); have hlt4 := hP4.lt; have hI4 : ¬ w.heap.size + 1 + 1 = w2.heap.size := (by omega); have hJ4 : ¬ g2 = w2.heap.size := (by omega); have hK4 := hA4.lt; have hG4 : g2 < w4.heap.size := (by have hz := hb4.size; simp only [World.size_setCell, World.size_alloc] at hz; omega); have na4 := hA4.c0; have nb4 := hA4.c1; have nc4 := hA4.c2; have fa4 := hA4.free 0; have fb4 := hA4.free 1; have fc4 := hA4.free 2; clear a0 a1 a2 a3 a4 a5 a6 a7 a8 b0 b1 b2 b3 b4 b5 b6 b7 b8; obtain ⟨a0, a1, a2, a3, a4, a5, a6, a7, a8⟩ := acts9 hP4.ha; obtain ⟨b0, b1, b2, b3, b4, b5, b6, b7, b8⟩ := free9 hP4.ha)
  rw [rounds_succ]
  go_wp2_with (go_at_call 13; (with_reducible refine Calls.mono (HLN.out _) ?_); rintro e w9 ⟨rfl, hb9⟩; have hP9 := PW.below ((hP4.other ⟨w2.heap.size, 0, none⟩ (by show _ < _; omega) (.int .i64 v0)).set 5 (.int .i64 v0) (a' := ⟨5, nm, 0, 0, [], v0, 0, 0, 0⟩) rfl) hb9; have hlt9 := hP9.lt; clear a0 a1 a2 a3 a4 a5 a6 a7 a8 b0 b1 b2 b3 b4 b5 b6 b7 b8; obtain ⟨c0, c1, c2, c3, c4, c5, c6, c7, c8⟩ := acts9 hP9.hr; obtain ⟨d0, d1, d2, d3, d4, d5, d6, d7, d8⟩ := free9 hP9.hr; obtain ⟨a0, a1, a2, a3, a4, a5, a6, a7, a8⟩ := acts9 hP9.ha; obtain ⟨n0, n1, n2, n3, n4, n5, n6, n7, n8⟩ := acts9 hP9.hn)
  · refine rparse_ret (hP9.hr.all ⟨0, [], 0, 0, [], 0, 0, 0, 0⟩) rfl rfl ⟨?_, below_all hP9.hb ⟨0, [], 0, 0, [], 0, 0, 0, 0⟩⟩
    rfl
  · exact (hP1.set 0 (.int .i64 5) (a' := ⟨5, [], 0, 0, [], 0, 0, 0, 0⟩) rfl).alloc _
  · exact pw_start w
set_option maxRecDepth 100000 in
set_option maxHeartbeats 8000000 in
theorem ref_parse_5nz (s : Bs) (hs : s.length ≤ 100000) (hw : cutWord s = wordOf 5) (x0 nm u0 : Bs) (hsp : splitN 9 s = [x0, nm, u0]) (h_q0 : nok u0 = true) (hk : lineErr ⟨5, nm, 0, 0, [], (nv u0), 0, 0, 0⟩ ≠ 0) (w : World) :
    Calls Tryd.prog 10 #[.string ⟨s.toArray⟩] w fun e w' => e = refAns (none) ∧ Below w.heap.size w w' := by
  have HH := Lib.hid (fun wx hP => hd_call w s hs ⟨0, [], 0, 0, [], 0, 0, 0, 0⟩ wx hP)
  rw [hw, show wordOf 5 = [114, 117, 110] from rfl] at HH
  have HW := Lib.hid (fun wx hP => ws_call w s hs 9 (by omega) (by omega) 9 rfl [x0, nm, u0] hsp 3 rfl ⟨5, [], 0, 0, [], 0, 0, 0, 0⟩ wx hP)
  have hnm : nm.length ≤ 100000 := mem_len hsp (by simp) hs
  have HM0 : Hid (∃ (v : Int), v = nv u0 ∧ ∀ wx, Calls Tryd.prog 24 #[.string ⟨u0.toArray⟩] wx fun e w' => e = .returned (.tuple #[.int .i64 v, .bool true]) ∧ Below wx.heap.size wx w') := ⟨_, rfl, fun wx => by have := refnumber_any u0 wx; rw [h_q0] at this; exact this⟩
  obtain ⟨v0, hv0, hn0⟩ := HM0.out
  have HV0 := Lib.hid hv0
  have HN0 := Lib.hid hn0
  have HL0 : Hid (∃ (k : Int) (ln : Bs), (k != 0) = true ∧ ∀ wx, Calls Tryd.prog 13 #[.agg #[.int .i64 5, .string ⟨(nm : Bs).toArray⟩, .int .i64 0, .int .i64 0, .string ⟨([] : Bs).toArray⟩, .int .i64 v0, .int .i64 0, .int .i64 0, .int .i64 0]] wx fun e w' => e = .returned (.tuple #[.string ⟨ln.toArray⟩, .int .i64 k]) ∧ Below wx.heap.size wx w') := by
    refine Lib.hid ?_
    rw [HV0.out]
    have hl := fun wx => ref_line_any ⟨5, nm, 0, 0, [], (nv u0), 0, 0, 0⟩ ⟨(by simp), (by simp), (nv_bounds _), (by simp), (by simp), (by simp), hnm, (by simp)⟩ wx
    exact ⟨_, _, by rw [bne_iff_ne]; omega, hl⟩
  obtain ⟨k, ln, hkz, hln⟩ := HL0.out
  have HLN := Lib.hid hln
  clear hw HL0 hln hsp hk hnm h_q0 hv0 hn0 HM0
  go_enter Tryd.func10, Tryd.ntmps10
  go_wp2_with (first | (go_at_call 22; (with_reducible refine Calls.mono (HH.out _ ?_) ?_); rotate_right; rintro e w1 ⟨g1, cap1, L1, rfl, hL1, hc1, hg1, hg1', hP1⟩; have hne1 : ¬ g1 = w.heap.size + 1 + 1 := (by omega); have hlt1 := hP1.lt; obtain ⟨a0, a1, a2, a3, a4, a5, a6, a7, a8⟩ := acts9 hP1.ha; obtain ⟨b0, b1, b2, b3, b4, b5, b6, b7, b8⟩ := free9 hP1.ha) | (go_at_call 22; (with_reducible refine Calls.mono (HW.out _ ?_) ?_); rotate_right; rintro e w2 ⟨g2, cap2, rfl, hc2, hg2, hg2', hP2⟩; have hne2 : ¬ g2 = w.heap.size + 1 + 1 := (by omega); have hlt2 := hP2.lt; clear a0 a1 a2 a3 a4 a5 a6 a7 a8 b0 b1 b2 b3 b4 b5 b6 b7 b8; have y0 := hc2 0 _ rfl; have y1 := hc2 1 _ rfl; have y2 := hc2 2 _ rfl; clear hc2; obtain ⟨a0, a1, a2, a3, a4, a5, a6, a7, a8⟩ := acts9 hP2.ha; obtain ⟨b0, b1, b2, b3, b4, b5, b6, b7, b8⟩ := free9 hP2.ha))
  refine wp_loop_rounds 2 ?_
  rw [rounds_succ]
  go_wp2_with (go_at_call 24; (with_reducible refine Calls.mono (HN0.out _) ?_); rintro e w4 ⟨rfl, hb4⟩; have hP4 := PW.below ((hP2.set 1 (.string ⟨nm.toArray⟩) (a' := ⟨5, nm, 0, 0, [], 0, 0, 0, 0⟩) rfl).alloc _) hb4; have hA4 := HasArr.below (HasArr.new _ w2.heap.size (by simp only [World.size_setCell])) hb4 (by simp only [World.size_setCell, World.size_alloc]; omega); have hlt4 := hP4.lt; have hI4 : ¬ w.heap.size + 1 + 1 = w2.heap.size := (by omega); have hJ4 : ¬ g2 = w2.heap.size := (by omega); have hK4 := hA4.lt; have hG4 : g2 < w4.heap.size := (by have hz := hb4.size; simp only [World.size_setCell, World.size_alloc] at hz; omega); have na4 := hA4.c0; have nb4 := hA4.c1; have nc4 := hA4.c2; have fa4 := hA4.free 0; have fb4 := hA4.free 1; have fc4 := hA4.free 2; clear a0 a1 a2 a3 a4 a5 a6 a7 a8 b0 b1 b2 b3 b4 b5 b6 b7 b8; obtain ⟨a0, a1, a2, a3, a4, a5, a6, a7, a8⟩ := acts9 hP4.ha; obtain ⟨b0, b1, b2, b3, b4, b5, b6, b7, b8⟩ := free9 hP4.ha)
  rw [rounds_succ]
  go_wp2_with (go_at_call 13; (with_reducible refine Calls.mono (HLN.out _) ?_); rintro e w9 ⟨rfl, hb9⟩; have hP9 := PW.below ((hP4.other ⟨w2.heap.size, 0, none⟩ (by show _ < _; omega) (.int .i64 v0)).set 5 (.int .i64 v0) (a' := ⟨5, nm, 0, 0, [], v0, 0, 0, 0⟩) rfl) hb9; have hlt9 := hP9.lt; clear a0 a1 a2 a3 a4 a5 a6 a7 a8 b0 b1 b2 b3 b4 b5 b6 b7 b8; obtain ⟨c0, c1, c2, c3, c4, c5, c6, c7, c8⟩ := acts9 hP9.hr; obtain ⟨d0, d1, d2, d3, d4, d5, d6, d7, d8⟩ := free9 hP9.hr; obtain ⟨a0, a1, a2, a3, a4, a5, a6, a7, a8⟩ := acts9 hP9.ha; obtain ⟨n0, n1, n2, n3, n4, n5, n6, n7, n8⟩ := acts9 hP9.hn)
  · refine rparse_ret (hP9.hr.all ⟨0, [], 0, 0, [], 0, 0, 0, 0⟩) rfl rfl ⟨?_, below_all hP9.hb ⟨0, [], 0, 0, [], 0, 0, 0, 0⟩⟩
    rfl
  · exact (hP1.set 0 (.int .i64 5) (a' := ⟨5, [], 0, 0, [], 0, 0, 0, 0⟩) rfl).alloc _
  · exact pw_start w
set_option maxRecDepth 100000 in
set_option maxHeartbeats 8000000 in
theorem ref_parse_5z (s : Bs) (hs : s.length ≤ 100000) (hw : cutWord s = wordOf 5) (x0 nm u0 : Bs) (hsp : splitN 9 s = [x0, nm, u0]) (h_q0 : nok u0 = true) (hk : lineErr ⟨5, nm, 0, 0, [], (nv u0), 0, 0, 0⟩ = 0) (w : World) :
    Calls Tryd.prog 10 #[.string ⟨s.toArray⟩] w fun e w' => e = refAns (some ⟨5, nm, 0, 0, [], (nv u0), 0, 0, 0⟩) ∧ Below w.heap.size w w' := by
  have HH := Lib.hid (fun wx hP => hd_call w s hs ⟨0, [], 0, 0, [], 0, 0, 0, 0⟩ wx hP)
  rw [hw, show wordOf 5 = [114, 117, 110] from rfl] at HH
  have HW := Lib.hid (fun wx hP => ws_call w s hs 9 (by omega) (by omega) 9 rfl [x0, nm, u0] hsp 3 rfl ⟨5, [], 0, 0, [], 0, 0, 0, 0⟩ wx hP)
  have hnm : nm.length ≤ 100000 := mem_len hsp (by simp) hs
  have HM0 : Hid (∃ (v : Int), v = nv u0 ∧ ∀ wx, Calls Tryd.prog 24 #[.string ⟨u0.toArray⟩] wx fun e w' => e = .returned (.tuple #[.int .i64 v, .bool true]) ∧ Below wx.heap.size wx w') := ⟨_, rfl, fun wx => by have := refnumber_any u0 wx; rw [h_q0] at this; exact this⟩
  obtain ⟨v0, hv0, hn0⟩ := HM0.out
  have HV0 := Lib.hid hv0
  have HN0 := Lib.hid hn0
  have HL0 : Hid (∃ (ln : Bs), ∀ wx, Calls Tryd.prog 13 #[.agg #[.int .i64 5, .string ⟨(nm : Bs).toArray⟩, .int .i64 0, .int .i64 0, .string ⟨([] : Bs).toArray⟩, .int .i64 v0, .int .i64 0, .int .i64 0, .int .i64 0]] wx fun e w' => e = .returned (.tuple #[.string ⟨ln.toArray⟩, .int .i64 0]) ∧ Below wx.heap.size wx w') := by
    refine Lib.hid ?_
    rw [HV0.out]
    have hl := fun wx => ref_line_any ⟨5, nm, 0, 0, [], (nv u0), 0, 0, 0⟩ ⟨(by simp), (by simp), (nv_bounds _), (by simp), (by simp), (by simp), hnm, (by simp)⟩ wx
    rw [hk] at hl; exact ⟨_, hl⟩
  obtain ⟨ln, hln⟩ := HL0.out
  have HLN := Lib.hid hln
  clear hw HL0 hln hsp hk hnm h_q0 hv0 hn0 HM0
  go_enter Tryd.func10, Tryd.ntmps10
  go_wp2_with (first | (go_at_call 22; (with_reducible refine Calls.mono (HH.out _ ?_) ?_); rotate_right; rintro e w1 ⟨g1, cap1, L1, rfl, hL1, hc1, hg1, hg1', hP1⟩; have hne1 : ¬ g1 = w.heap.size + 1 + 1 := (by omega); have hlt1 := hP1.lt; obtain ⟨a0, a1, a2, a3, a4, a5, a6, a7, a8⟩ := acts9 hP1.ha; obtain ⟨b0, b1, b2, b3, b4, b5, b6, b7, b8⟩ := free9 hP1.ha) | (go_at_call 22; (with_reducible refine Calls.mono (HW.out _ ?_) ?_); rotate_right; rintro e w2 ⟨g2, cap2, rfl, hc2, hg2, hg2', hP2⟩; have hne2 : ¬ g2 = w.heap.size + 1 + 1 := (by omega); have hlt2 := hP2.lt; clear a0 a1 a2 a3 a4 a5 a6 a7 a8 b0 b1 b2 b3 b4 b5 b6 b7 b8; have y0 := hc2 0 _ rfl; have y1 := hc2 1 _ rfl; have y2 := hc2 2 _ rfl; clear hc2; obtain ⟨a0, a1, a2, a3, a4, a5, a6, a7, a8⟩ := acts9 hP2.ha; obtain ⟨b0, b1, b2, b3, b4, b5, b6, b7, b8⟩ := free9 hP2.ha))
  refine wp_loop_rounds 2 ?_
  rw [rounds_succ]
  go_wp2_with (go_at_call 24; (with_reducible refine Calls.mono (HN0.out _) ?_); rintro e w4 ⟨rfl, hb4⟩; have hP4 := PW.below ((hP2.set 1 (.string ⟨nm.toArray⟩) (a' := ⟨5, nm, 0, 0, [], 0, 0, 0, 0⟩) rfl).alloc _) hb4; have hA4 := HasArr.below (HasArr.new _ w2.heap.size (by simp only [World.size_setCell])) hb4 (by simp only [World.size_setCell, World.size_alloc]; omega); have hlt4 := hP4.lt; have hI4 : ¬ w.heap.size + 1 + 1 = w2.heap.size := (by omega); have hJ4 : ¬ g2 = w2.heap.size := (by omega); have hK4 := hA4.lt; have hG4 : g2 < w4.heap.size := (by have hz := hb4.size; simp only [World.size_setCell, World.size_alloc] at hz; omega); have na4 := hA4.c0; have nb4 := hA4.c1; have nc4 := hA4.c2; have fa4 := hA4.free 0; have fb4 := hA4.free 1; have fc4 := hA4.free 2; clear a0 a1 a2 a3 a4 a5 a6 a7 a8 b0 b1 b2 b3 b4 b5 b6 b7 b8; obtain ⟨a0, a1, a2, a3, a4, a5, a6, a7, a8⟩ := acts9 hP4.ha; obtain ⟨b0, b1, b2, b3, b4, b5, b6, b7, b8⟩ := free9 hP4.ha)
  rw [rounds_succ]
  go_wp2_with (go_at_call 13; (with_reducible refine Calls.mono (HLN.out _) ?_); rintro e w9 ⟨rfl, hb9⟩; have hP9 := PW.below ((hP4.other ⟨w2.heap.size, 0, none⟩ (by show _ < _; omega) (.int .i64 v0)).set 5 (.int .i64 v0) (a' := ⟨5, nm, 0, 0, [], v0, 0, 0, 0⟩) rfl) hb9; have hlt9 := hP9.lt; clear a0 a1 a2 a3 a4 a5 a6 a7 a8 b0 b1 b2 b3 b4 b5 b6 b7 b8; obtain ⟨c0, c1, c2, c3, c4, c5, c6, c7, c8⟩ := acts9 hP9.hr; obtain ⟨d0, d1, d2, d3, d4, d5, d6, d7, d8⟩ := free9 hP9.hr; obtain ⟨a0, a1, a2, a3, a4, a5, a6, a7, a8⟩ := acts9 hP9.ha; obtain ⟨n0, n1, n2, n3, n4, n5, n6, n7, n8⟩ := acts9 hP9.hn)
  · refine rparse_ret (hP9.hr.all ⟨5, nm, 0, 0, [], v0, 0, 0, 0⟩) rfl rfl ⟨?_, below_all hP9.hb ⟨5, nm, 0, 0, [], v0, 0, 0, 0⟩⟩
    rw [← HV0.out]; rfl
  · exact (hP1.set 0 (.int .i64 5) (a' := ⟨5, [], 0, 0, [], 0, 0, 0, 0⟩) rfl).alloc _
  · exact pw_start w
set_option maxRecDepth 100000 in
set_option maxHeartbeats 8000000 in
theorem ref_parse_5s (s : Bs) (hs : s.length ≤ 100000) (hw : cutWord s = wordOf 5) (hsp : (splitN 9 s).length ≠ 3) (w : World) :
    Calls Tryd.prog 10 #[.string ⟨s.toArray⟩] w fun e w' => e = refAns none ∧ Below w.heap.size w w' := by
  have HH := Lib.hid (fun wx hP => hd_call w s hs ⟨0, [], 0, 0, [], 0, 0, 0, 0⟩ wx hP)
  rw [hw, show wordOf 5 = [114, 117, 110] from rfl] at HH
  have hLx : Hid (∃ L2, L2 = (splitN 9 s).length) := ⟨_, rfl⟩
  obtain ⟨L2, hL2⟩ := hLx.out
  have hLn : ((L2 : Int) == 3) = false := by rw [beq_eq_false_iff_ne, hL2]; omega
  have HW := Lib.hid (fun wx hP => ws_call w s hs 9 (by omega) (by omega) 9 rfl (splitN 9 s) rfl L2 hL2 ⟨5, [], 0, 0, [], 0, 0, 0, 0⟩ wx hP)
  clear hw hsp hL2 hLx
  go_enter Tryd.func10, Tryd.ntmps10
  go_wp2_with (first | (go_at_call 22; (with_reducible refine Calls.mono (HH.out _ ?_) ?_); rotate_right; rintro e w1 ⟨g1, cap1, L1, rfl, hL1, hc1, hg1, hg1', hP1⟩; have hne1 : ¬ g1 = w.heap.size + 1 + 1 := (by omega); have hlt1 := hP1.lt; obtain ⟨a0, a1, a2, a3, a4, a5, a6, a7, a8⟩ := acts9 hP1.ha; obtain ⟨b0, b1, b2, b3, b4, b5, b6, b7, b8⟩ := free9 hP1.ha) | (go_at_call 22; (with_reducible refine Calls.mono (HW.out _ ?_) ?_); rotate_right; rintro e w2 ⟨g2, cap2, rfl, hc2, hg2, hg2', hP2⟩; clear hc2; have hlt2 := hP2.lt; clear a0 a1 a2 a3 a4 a5 a6 a7 a8 b0 b1 b2 b3 b4 b5 b6 b7 b8; obtain ⟨c0, c1, c2, c3, c4, c5, c6, c7, c8⟩ := acts9 hP2.hr; obtain ⟨d0, d1, d2, d3, d4, d5, d6, d7, d8⟩ := free9 hP2.hr; obtain ⟨n0, n1, n2, n3, n4, n5, n6, n7, n8⟩ := acts9 hP2.hn))
  · refine rparse_ret (hP2.hr.all ⟨0, [], 0, 0, [], 0, 0, 0, 0⟩) rfl rfl ⟨rfl, below_all hP2.hb ⟨0, [], 0, 0, [], 0, 0, 0, 0⟩⟩
  · exact (hP1.set 0 (.int .i64 5) (a' := ⟨5, [], 0, 0, [], 0, 0, 0, 0⟩) rfl).alloc _
  · exact pw_start w
end Go.Proofs.YtelehacakbaobaaDoor
