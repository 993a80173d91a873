/- What ref28.Parse comes to at the word of kind 6. (Written by genrefparse.py.) -/
import Derived.Test.YtelehacakbaobaaDoorRefSteps
namespace Go.Proofs.YtelehacakbaobaaDoor
open Go.RowKit
set_option linter.unusedVariables false
set_option linter.unusedSimpArgs false

set_option maxRecDepth 100000 in
set_option maxHeartbeats 8000000 in
theorem ref_parse_6f0 (s : Bs) (hs : s.length ≤ 100000) (hw : cutWord s = wordOf 6) (x0 u0 u1 u2 : Bs) (hsp : splitN 9 s = [x0, u0, u1, u2]) (h_q0 : nok u0 = false) (w : World) :
    Calls Tryd.prog 10 #[.string ⟨s.toArray⟩] w fun e w' => e = refAns (none) ∧ Below w.heap.size w w' := by
  have HH := Lib.hid (fun wx hP => hd_call w s hs ⟨0, [], 0, 0, [], 0, 0, 0, 0⟩ wx hP)
  rw [hw, show wordOf 6 = [108, 105, 109, 105, 116] from rfl] at HH
  have HW := Lib.hid (fun wx hP => ws_call w s hs 9 (by omega) (by omega) 9 rfl [x0, u0, u1, u2] hsp 4 rfl ⟨6, [], 0, 0, [], 0, 0, 0, 0⟩ wx hP)
  have HM0 : Hid (∃ (v : Int), v = nv u0 ∧ ∀ wx, Calls Tryd.prog 24 #[.string ⟨u0.toArray⟩] wx fun e w' => e = .returned (.tuple #[.int .i64 v, .bool false]) ∧ Below wx.heap.size wx w') := ⟨_, rfl, fun wx => by have := refnumber_any u0 wx; rw [h_q0] at this; exact this⟩
  obtain ⟨v0, hv0, hn0⟩ := HM0.out
  have HV0 := Lib.hid hv0
  have HN0 := Lib.hid hn0
  have HM1 : Hid (∃ (v : Int) (q : Bool), v = nv u1 ∧ ∀ wx, Calls Tryd.prog 24 #[.string ⟨u1.toArray⟩] wx fun e w' => e = .returned (.tuple #[.int .i64 v, .bool q]) ∧ Below wx.heap.size wx w') := ⟨_, _, rfl, fun wx => refnumber_any u1 wx⟩
  obtain ⟨v1, q1, hv1, hn1⟩ := HM1.out
  have HV1 := Lib.hid hv1
  have HN1 := Lib.hid hn1
  have HM2 : Hid (∃ (v : Int) (q : Bool), v = nv u2 ∧ ∀ wx, Calls Tryd.prog 24 #[.string ⟨u2.toArray⟩] wx fun e w' => e = .returned (.tuple #[.int .i64 v, .bool q]) ∧ Below wx.heap.size wx w') := ⟨_, _, rfl, fun wx => refnumber_any u2 wx⟩
  obtain ⟨v2, q2, hv2, hn2⟩ := HM2.out
  have HV2 := Lib.hid hv2
  have HN2 := Lib.hid hn2
  have HL0 : Hid (∃ (k : Int) (ln : Bs), ∀ wx, Calls Tryd.prog 13 #[.agg #[.int .i64 6, .string ⟨([] : Bs).toArray⟩, .int .i64 0, .int .i64 0, .string ⟨([] : Bs).toArray⟩, .int .i64 0, .int .i64 v0, .int .i64 v1, .int .i64 v2]] wx fun e w' => e = .returned (.tuple #[.string ⟨ln.toArray⟩, .int .i64 k]) ∧ Below wx.heap.size wx w') := by
    refine Lib.hid ?_
    rw [HV0.out, HV1.out, HV2.out]
    have hl := fun wx => ref_line_any ⟨6, [], 0, 0, [], 0, (nv u0), (nv u1), (nv u2)⟩ ⟨(by simp), (by simp), (by simp), (nv_bounds _), (nv_bounds _), (nv_bounds _), (by simp), (by simp)⟩ wx
    exact ⟨_, _, hl⟩
  obtain ⟨k, ln, hln⟩ := HL0.out
  have HLN := Lib.hid hln
  clear hw HL0 hln hsp h_q0 hv0 hn0 HM0 hv1 hn1 HM1 hv2 hn2 HM2
  go_enter Tryd.func10, Tryd.ntmps10
  go_wp2_with (first | (go_at_call 22; (with_reducible refine Calls.mono (HH.out _ ?_) ?_); rotate_right; rintro e w1 ⟨g1, cap1, L1, rfl, hL1, hc1, hg1, hg1', hP1⟩; have hne1 : ¬ g1 = w.heap.size + 1 + 1 := (by omega); have hlt1 := hP1.lt; obtain ⟨a0, a1, a2, a3, a4, a5, a6, a7, a8⟩ := acts9 hP1.ha; obtain ⟨b0, b1, b2, b3, b4, b5, b6, b7, b8⟩ := free9 hP1.ha) | (go_at_call 22; (with_reducible refine Calls.mono (HW.out _ ?_) ?_); rotate_right; rintro e w2 ⟨g2, cap2, rfl, hc2, hg2, hg2', hP2⟩; have hne2 : ¬ g2 = w.heap.size + 1 + 1 := (by omega); have hlt2 := hP2.lt; clear a0 a1 a2 a3 a4 a5 a6 a7 a8 b0 b1 b2 b3 b4 b5 b6 b7 b8; have y0 := hc2 0 _ rfl; have y1 := hc2 1 _ rfl; have y2 := hc2 2 _ rfl; have y3 := hc2 3 _ rfl; clear hc2; obtain ⟨a0, a1, a2, a3, a4, a5, a6, a7, a8⟩ := acts9 hP2.ha; obtain ⟨b0, b1, b2, b3, b4, b5, b6, b7, b8⟩ := free9 hP2.ha))
  refine wp_loop_rounds 4 ?_
  rw [rounds_succ]
  go_wp2_with (go_at_call 24; (with_reducible refine Calls.mono (HN0.out _) ?_); rintro e w4 ⟨rfl, hb4⟩; have hP4 := PW.below (hP2.alloc _) hb4; have hA4 := HasArr.below (HasArr.new _ w2.heap.size rfl) hb4 (by simp only [World.size_setCell, World.size_alloc]; omega); have hlt4 := hP4.lt; have hI4 : ¬ w.heap.size + 1 + 1 = w2.heap.size := (by omega); have hJ4 : ¬ g2 = w2.heap.size := (by omega); have hK4 := hA4.lt; have t4_2 := keep0 hb4 hg2  y2; have t4_3 := keep0 hb4 hg2  y3; have hG4 : g2 < w4.heap.size := (by have hz := hb4.size; simp only [World.size_setCell, World.size_alloc] at hz; omega); have na4 := hA4.c0; have nb4 := hA4.c1; have nc4 := hA4.c2; have fa4 := hA4.free 0; have fb4 := hA4.free 1; have fc4 := hA4.free 2; clear a0 a1 a2 a3 a4 a5 a6 a7 a8 b0 b1 b2 b3 b4 b5 b6 b7 b8; obtain ⟨a0, a1, a2, a3, a4, a5, a6, a7, a8⟩ := acts9 hP4.ha; obtain ⟨b0, b1, b2, b3, b4, b5, b6, b7, b8⟩ := free9 hP4.ha)
  rw [rounds_succ]
  go_wp2_with (go_at_call 24; (with_reducible refine Calls.mono (HN1.out _) ?_); rintro e w5 ⟨rfl, hb5⟩; have hP5 := PW.below (hP4.other ⟨w2.heap.size, 0, none⟩ (by show _ < _; omega) (.int .i64 v0)) hb5; have hA5 := HasArr.below (hA4.s0 v0) hb5 (by simp only [World.size_setCell, World.size_alloc]; omega); have hlt5 := hP5.lt; have hI5 : ¬ w.heap.size + 1 + 1 = w2.heap.size := (by omega); have hJ5 : ¬ g2 = w2.heap.size := (by omega); have hK5 := hA5.lt; have t5_3 := keep1 hb5 hG4 hJ4 t4_3; have hG5 : g2 < w5.heap.size := (by have hz := hb5.size; simp only [World.size_setCell, World.size_alloc] at hz; omega); have na5 := hA5.c0; have nb5 := hA5.c1; have nc5 := hA5.c2; have fa5 := hA5.free 0; have fb5 := hA5.free 1; have fc5 := hA5.free 2; clear a0 a1 a2 a3 a4 a5 a6 a7 a8 b0 b1 b2 b3 b4 b5 b6 b7 b8; obtain ⟨a0, a1, a2, a3, a4, a5, a6, a7, a8⟩ := acts9 hP5.ha; obtain ⟨b0, b1, b2, b3, b4, b5, b6, b7, b8⟩ := free9 hP5.ha)
  rw [rounds_succ]
  go_wp2_with (go_at_call 24; (with_reducible refine Calls.mono (HN2.out _) ?_); rintro e w6 ⟨rfl, hb6⟩; have hP6 := PW.below (hP5.other ⟨w2.heap.size, 1, none⟩ (by show _ < _; omega) (.int .i64 v1)) hb6; have hA6 := HasArr.below (hA5.s1 v1) hb6 (by simp only [World.size_setCell, World.size_alloc]; omega); have hlt6 := hP6.lt; have hI6 : ¬ w.heap.size + 1 + 1 = w2.heap.size := (by omega); have hJ6 : ¬ g2 = w2.heap.size := (by omega); have hK6 := hA6.lt; have hG6 : g2 < w6.heap.size := (by have hz := hb6.size; simp only [World.size_setCell, World.size_alloc] at hz; omega); have na6 := hA6.c0; have nb6 := hA6.c1; have nc6 := hA6.c2; have fa6 := hA6.free 0; have fb6 := hA6.free 1; have fc6 := hA6.free 2; clear a0 a1 a2 a3 a4 a5 a6 a7 a8 b0 b1 b2 b3 b4 b5 b6 b7 b8; obtain ⟨a0, a1, a2, a3, a4, a5, a6, a7, a8⟩ := acts9 hP6.ha; obtain ⟨b0, b1, b2, b3, b4, b5, b6, b7, b8⟩ := free9 hP6.ha)
  rw [rounds_succ]
  go_wp2_with (go_at_call 13; (with_reducible refine Calls.mono (HLN.out _) ?_); rintro e w9 ⟨rfl, hb9⟩; have hP9 := PW.below ((((hP6.other ⟨w2.heap.size, 2, none⟩ (by show _ < _; omega) (.int .i64 v2)).set 6 (.int .i64 v0) (a' := ⟨6, [], 0, 0, [], 0, v0, 0, 0⟩) rfl).set 7 (.int .i64 v1) (a' := ⟨6, [], 0, 0, [], 0, v0, v1, 0⟩) rfl).set 8 (.int .i64 v2) (a' := ⟨6, [], 0, 0, [], 0, v0, v1, v2⟩) rfl) hb9; have hlt9 := hP9.lt; clear a0 a1 a2 a3 a4 a5 a6 a7 a8 b0 b1 b2 b3 b4 b5 b6 b7 b8; obtain ⟨c0, c1, c2, c3, c4, c5, c6, c7, c8⟩ := acts9 hP9.hr; obtain ⟨d0, d1, d2, d3, d4, d5, d6, d7, d8⟩ := free9 hP9.hr; obtain ⟨a0, a1, a2, a3, a4, a5, a6, a7, a8⟩ := acts9 hP9.ha; obtain ⟨n0, n1, n2, n3, n4, n5, n6, n7, n8⟩ := acts9 hP9.hn)
  · refine rparse_ret (hP9.hr.all ⟨0, [], 0, 0, [], 0, 0, 0, 0⟩) rfl rfl ⟨?_, below_all hP9.hb ⟨0, [], 0, 0, [], 0, 0, 0, 0⟩⟩
    rfl
  · exact (hP1.set 0 (.int .i64 6) (a' := ⟨6, [], 0, 0, [], 0, 0, 0, 0⟩) rfl).alloc _
  · exact pw_start w
set_option maxRecDepth 100000 in
set_option maxHeartbeats 8000000 in
theorem ref_parse_6f1 (s : Bs) (hs : s.length ≤ 100000) (hw : cutWord s = wordOf 6) (x0 u0 u1 u2 : Bs) (hsp : splitN 9 s = [x0, u0, u1, u2]) (h_q0 : nok u0 = true) (h_q1 : nok u1 = false) (w : World) :
    Calls Tryd.prog 10 #[.string ⟨s.toArray⟩] w fun e w' => e = refAns (none) ∧ Below w.heap.size w w' := by
  have HH := Lib.hid (fun wx hP => hd_call w s hs ⟨0, [], 0, 0, [], 0, 0, 0, 0⟩ wx hP)
  rw [hw, show wordOf 6 = [108, 105, 109, 105, 116] from rfl] at HH
  have HW := Lib.hid (fun wx hP => ws_call w s hs 9 (by omega) (by omega) 9 rfl [x0, u0, u1, u2] hsp 4 rfl ⟨6, [], 0, 0, [], 0, 0, 0, 0⟩ wx hP)
  have HM0 : Hid (∃ (v : Int), v = nv u0 ∧ ∀ wx, Calls Tryd.prog 24 #[.string ⟨u0.toArray⟩] wx fun e w' => e = .returned (.tuple #[.int .i64 v, .bool true]) ∧ Below wx.heap.size wx w') := ⟨_, rfl, fun wx => by have := refnumber_any u0 wx; rw [h_q0] at this; exact this⟩
  obtain ⟨v0, hv0, hn0⟩ := HM0.out
  have HV0 := Lib.hid hv0
  have HN0 := Lib.hid hn0
  have HM1 : Hid (∃ (v : Int), v = nv u1 ∧ ∀ wx, Calls Tryd.prog 24 #[.string ⟨u1.toArray⟩] wx fun e w' => e = .returned (.tuple #[.int .i64 v, .bool false]) ∧ Below wx.heap.size wx w') := ⟨_, rfl, fun wx => by have := refnumber_any u1 wx; rw [h_q1] at this; exact this⟩
  obtain ⟨v1, hv1, hn1⟩ := HM1.out
  have HV1 := Lib.hid hv1
  have HN1 := Lib.hid hn1
  have HM2 : Hid (∃ (v : Int) (q : Bool), v = nv u2 ∧ ∀ wx, Calls Tryd.prog 24 #[.string ⟨u2.toArray⟩] wx fun e w' => e = .returned (.tuple #[.int .i64 v, .bool q]) ∧ Below wx.heap.size wx w') := ⟨_, _, rfl, fun wx => refnumber_any u2 wx⟩
  obtain ⟨v2, q2, hv2, hn2⟩ := HM2.out
  have HV2 := Lib.hid hv2
  have HN2 := Lib.hid hn2
  have HL0 : Hid (∃ (k : Int) (ln : Bs), ∀ wx, Calls Tryd.prog 13 #[.agg #[.int .i64 6, .string ⟨([] : Bs).toArray⟩, .int .i64 0, .int .i64 0, .string ⟨([] : Bs).toArray⟩, .int .i64 0, .int .i64 v0, .int .i64 v1, .int .i64 v2]] wx fun e w' => e = .returned (.tuple #[.string ⟨ln.toArray⟩, .int .i64 k]) ∧ Below wx.heap.size wx w') := by
    refine Lib.hid ?_
    rw [HV0.out, HV1.out, HV2.out]
    have hl := fun wx => ref_line_any ⟨6, [], 0, 0, [], 0, (nv u0), (nv u1), (nv u2)⟩ ⟨(by simp), (by simp), (by simp), (nv_bounds _), (nv_bounds _), (nv_bounds _), (by simp), (by simp)⟩ wx
    exact ⟨_, _, hl⟩
  obtain ⟨k, ln, hln⟩ := HL0.out
  have HLN := Lib.hid hln
  clear hw HL0 hln hsp h_q0 h_q1 hv0 hn0 HM0 hv1 hn1 HM1 hv2 hn2 HM2
  go_enter Tryd.func10, Tryd.ntmps10
  go_wp2_with (first | (go_at_call 22; (with_reducible refine Calls.mono (HH.out _ ?_) ?_); rotate_right; rintro e w1 ⟨g1, cap1, L1, rfl, hL1, hc1, hg1, hg1', hP1⟩; have hne1 : ¬ g1 = w.heap.size + 1 + 1 := (by omega); have hlt1 := hP1.lt; obtain ⟨a0, a1, a2, a3, a4, a5, a6, a7, a8⟩ := acts9 hP1.ha; obtain ⟨b0, b1, b2, b3, b4, b5, b6, b7, b8⟩ := free9 hP1.ha) | (go_at_call 22; (with_reducible refine Calls.mono (HW.out _ ?_) ?_); rotate_right; rintro e w2 ⟨g2, cap2, rfl, hc2, hg2, hg2', hP2⟩; have hne2 : ¬ g2 = w.heap.size + 1 + 1 := (by omega); have hlt2 := hP2.lt; clear a0 a1 a2 a3 a4 a5 a6 a7 a8 b0 b1 b2 b3 b4 b5 b6 b7 b8; have y0 := hc2 0 _ rfl; have y1 := hc2 1 _ rfl; have y2 := hc2 2 _ rfl; have y3 := hc2 3 _ rfl; clear hc2; obtain ⟨a0, a1, a2, a3, a4, a5, a6, a7, a8⟩ := acts9 hP2.ha; obtain ⟨b0, b1, b2, b3, b4, b5, b6, b7, b8⟩ := free9 hP2.ha))
  refine wp_loop_rounds 4 ?_
  rw [rounds_succ]
  go_wp2_with (go_at_call 24; (with_reducible refine Calls.mono (HN0.out _) ?_); rintro e w4 ⟨rfl, hb4⟩; have hP4 := PW.below (hP2.alloc _) hb4; have hA4 := HasArr.below (HasArr.new _ w2.heap.size rfl) hb4 (by simp only [World.size_setCell, World.size_alloc]; omega); have hlt4 := hP4.lt; have hI4 : ¬ w.heap.size + 1 + 1 = w2.heap.size := (by omega); have hJ4 : ¬ g2 = w2.heap.size := (by omega); have hK4 := hA4.lt; have t4_2 := keep0 hb4 hg2  y2; have t4_3 := keep0 hb4 hg2  y3; have hG4 : g2 < w4.heap.size := (by have hz := hb4.size; simp only [World.size_setCell, World.size_alloc] at hz; omega); have na4 := hA4.c0; have nb4 := hA4.c1; have nc4 := hA4.c2; have fa4 := hA4.free 0; have fb4 := hA4.free 1; have fc4 := hA4.free 2; clear a0 a1 a2 a3 a4 a5 a6 a7 a8 b0 b1 b2 b3 b4 b5 b6 b7 b8; obtain ⟨a0, a1, a2, a3, a4, a5, a6, a7, a8⟩ := acts9 hP4.ha; obtain ⟨b0, b1, b2, b3, b4, b5, b6, b7, b8⟩ := free9 hP4.ha)
  rw [rounds_succ]
  go_wp2_with (go_at_call 24; (with_reducible refine Calls.mono (HN1.out _) ?_); rintro e w5 ⟨rfl, hb5⟩; have hP5 := PW.below (hP4.other ⟨w2.heap.size, 0, none⟩ (by show _ < _; omega) (.int .i64 v0)) hb5; have hA5 := HasArr.below (hA4.s0 v0) hb5 (by simp only [World.size_setCell, World.size_alloc]; omega); have hlt5 := hP5.lt; have hI5 : ¬ w.heap.size + 1 + 1 = w2.heap.size := (by omega); have hJ5 : ¬ g2 = w2.heap.size := (by omega); have hK5 := hA5.lt; have t5_3 := keep1 hb5 hG4 hJ4 t4_3; have hG5 : g2 < w5.heap.size := (by have hz := hb5.size; simp only [World.size_setCell, World.size_alloc] at hz; omega); have na5 := hA5.c0; have nb5 := hA5.c1; have nc5 := hA5.c2; have fa5 := hA5.free 0; have fb5 := hA5.free 1; have fc5 := hA5.free 2; clear a0 a1 a2 a3 a4 a5 a6 a7 a8 b0 b1 b2 b3 b4 b5 b6 b7 b8; obtain ⟨a0, a1, a2, a3, a4, a5, a6, a7, a8⟩ := acts9 hP5.ha; obtain ⟨b0, b1, b2, b3, b4, b5, b6, b7, b8⟩ := free9 hP5.ha)
  rw [rounds_succ]
  go_wp2_with (go_at_call 24; (with_reducible refine Calls.mono (HN2.out _) ?_); rintro e w6 ⟨rfl, hb6⟩; have hP6 := PW.below (hP5.other ⟨w2.heap.size, 1, none⟩ (by show _ < _; omega) (.int .i64 v1)) hb6; have hA6 := HasArr.below (hA5.s1 v1) hb6 (by simp only [World.size_setCell, World.size_alloc]; omega); have hlt6 := hP6.lt; have hI6 : ¬ w.heap.size + 1 + 1 = w2.heap.size := (by omega); have hJ6 : ¬ g2 = w2.heap.size := (by omega); have hK6 := hA6.lt; have hG6 : g2 < w6.heap.size := (by have hz := hb6.size; simp only [World.size_setCell, World.size_alloc] at hz; omega); have na6 := hA6.c0; have nb6 := hA6.c1; have nc6 := hA6.c2; have fa6 := hA6.free 0; have fb6 := hA6.free 1; have fc6 := hA6.free 2; clear a0 a1 a2 a3 a4 a5 a6 a7 a8 b0 b1 b2 b3 b4 b5 b6 b7 b8; obtain ⟨a0, a1, a2, a3, a4, a5, a6, a7, a8⟩ := acts9 hP6.ha; obtain ⟨b0, b1, b2, b3, b4, b5, b6, b7, b8⟩ := free9 hP6.ha)
  rw [rounds_succ]
  go_wp2_with (go_at_call 13; (with_reducible refine Calls.mono (HLN.out _) ?_); rintro e w9 ⟨rfl, hb9⟩; have hP9 := PW.below ((((hP6.other ⟨w2.heap.size, 2, none⟩ (by show _ < _; omega) (.int .i64 v2)).set 6 (.int .i64 v0) (a' := ⟨6, [], 0, 0, [], 0, v0, 0, 0⟩) rfl).set 7 (.int .i64 v1) (a' := ⟨6, [], 0, 0, [], 0, v0, v1, 0⟩) rfl).set 8 (.int .i64 v2) (a' := ⟨6, [], 0, 0, [], 0, v0, v1, v2⟩) rfl) hb9; have hlt9 := hP9.lt; clear a0 a1 a2 a3 a4 a5 a6 a7 a8 b0 b1 b2 b3 b4 b5 b6 b7 b8; obtain ⟨c0, c1, c2, c3, c4, c5, c6, c7, c8⟩ := acts9 hP9.hr; obtain ⟨d0, d1, d2, d3, d4, d5, d6, d7, d8⟩ := free9 hP9.hr; obtain ⟨a0, a1, a2, a3, a4, a5, a6, a7, a8⟩ := acts9 hP9.ha; obtain ⟨n0, n1, n2, n3, n4, n5, n6, n7, n8⟩ := acts9 hP9.hn)
  · refine rparse_ret (hP9.hr.all ⟨0, [], 0, 0, [], 0, 0, 0, 0⟩) rfl rfl ⟨?_, below_all hP9.hb ⟨0, [], 0, 0, [], 0, 0, 0, 0⟩⟩
    rfl
  · exact (hP1.set 0 (.int .i64 6) (a' := ⟨6, [], 0, 0, [], 0, 0, 0, 0⟩) rfl).alloc _
  · exact pw_start w
set_option maxRecDepth 100000 in
set_option maxHeartbeats 8000000 in
theorem ref_parse_6f2 (s : Bs) (hs : s.length ≤ 100000) (hw : cutWord s = wordOf 6) (x0 u0 u1 u2 : Bs) (hsp : splitN 9 s = [x0, u0, u1, u2]) (h_q0 : nok u0 = true) (h_q1 : nok u1 = true) (h_q2 : nok u2 = false) (w : World) :
    Calls Tryd.prog 10 #[.string ⟨s.toArray⟩] w fun e w' => e = refAns (none) ∧ Below w.heap.size w w' := by
  have HH := Lib.hid (fun wx hP => hd_call w s hs ⟨0, [], 0, 0, [], 0, 0, 0, 0⟩ wx hP)
  rw [hw, show wordOf 6 = [108, 105, 109, 105, 116] from rfl] at HH
  have HW := Lib.hid (fun wx hP => ws_call w s hs 9 (by omega) (by omega) 9 rfl [x0, u0, u1, u2] hsp 4 rfl ⟨6, [], 0, 0, [], 0, 0, 0, 0⟩ wx hP)
  have HM0 : Hid (∃ (v : Int), v = nv u0 ∧ ∀ wx, Calls Tryd.prog 24 #[.string ⟨u0.toArray⟩] wx fun e w' => e = .returned (.tuple #[.int .i64 v, .bool true]) ∧ Below wx.heap.size wx w') := ⟨_, rfl, fun wx => by have := refnumber_any u0 wx; rw [h_q0] at this; exact this⟩
  obtain ⟨v0, hv0, hn0⟩ := HM0.out
  have HV0 := Lib.hid hv0
  have HN0 := Lib.hid hn0
  have HM1 : Hid (∃ (v : Int), v = nv u1 ∧ ∀ wx, Calls Tryd.prog 24 #[.string ⟨u1.toArray⟩] wx fun e w' => e = .returned (.tuple #[.int .i64 v, .bool true]) ∧ Below wx.heap.size wx w') := ⟨_, rfl, fun wx => by have := refnumber_any u1 wx; rw [h_q1] at this; exact this⟩
  obtain ⟨v1, hv1, hn1⟩ := HM1.out
  have HV1 := Lib.hid hv1
  have HN1 := Lib.hid hn1
  have HM2 : Hid (∃ (v : Int), v = nv u2 ∧ ∀ wx, Calls Tryd.prog 24 #[.string ⟨u2.toArray⟩] wx fun e w' => e = .returned (.tuple #[.int .i64 v, .bool false]) ∧ Below wx.heap.size wx w') := ⟨_, rfl, fun wx => by have := refnumber_any u2 wx; rw [h_q2] at this; exact this⟩
  obtain ⟨v2, hv2, hn2⟩ := HM2.out
  have HV2 := Lib.hid hv2
  have HN2 := Lib.hid hn2
  have HL0 : Hid (∃ (k : Int) (ln : Bs), ∀ wx, Calls Tryd.prog 13 #[.agg #[.int .i64 6, .string ⟨([] : Bs).toArray⟩, .int .i64 0, .int .i64 0, .string ⟨([] : Bs).toArray⟩, .int .i64 0, .int .i64 v0, .int .i64 v1, .int .i64 v2]] wx fun e w' => e = .returned (.tuple #[.string ⟨ln.toArray⟩, .int .i64 k]) ∧ Below wx.heap.size wx w') := by
    refine Lib.hid ?_
    rw [HV0.out, HV1.out, HV2.out]
    have hl := fun wx => ref_line_any ⟨6, [], 0, 0, [], 0, (nv u0), (nv u1), (nv u2)⟩ ⟨(by simp), (by simp), (by simp), (nv_bounds _), (nv_bounds _), (nv_bounds _), (by simp), (by simp)⟩ wx
    exact ⟨_, _, hl⟩
  obtain ⟨k, ln, hln⟩ := HL0.out
  have HLN := Lib.hid hln
  clear hw HL0 hln hsp h_q0 h_q1 h_q2 hv0 hn0 HM0 hv1 hn1 HM1 hv2 hn2 HM2
  go_enter Tryd.func10, Tryd.ntmps10
  go_wp2_with (first | (go_at_call 22; (with_reducible refine Calls.mono (HH.out _ ?_) ?_); rotate_right; rintro e w1 ⟨g1, cap1, L1, rfl, hL1, hc1, hg1, hg1', hP1⟩; have hne1 : ¬ g1 = w.heap.size + 1 + 1 := (by omega); have hlt1 := hP1.lt; obtain ⟨a0, a1, a2, a3, a4, a5, a6, a7, a8⟩ := acts9 hP1.ha; obtain ⟨b0, b1, b2, b3, b4, b5, b6, b7, b8⟩ := free9 hP1.ha) | (go_at_call 22; (with_reducible refine Calls.mono (HW.out _ ?_) ?_); rotate_right; rintro e w2 ⟨g2, cap2, rfl, hc2, hg2, hg2', hP2⟩; have hne2 : ¬ g2 = w.heap.size + 1 + 1 := (by omega); have hlt2 := hP2.lt; clear a0 a1 a2 a3 a4 a5 a6 a7 a8 b0 b1 b2 b3 b4 b5 b6 b7 b8; have y0 := hc2 0 _ rfl; have y1 := hc2 1 _ rfl; have y2 := hc2 2 _ rfl; have y3 := hc2 3 _ rfl; clear hc2; obtain ⟨a0, a1, a2, a3, a4, a5, a6, a7, a8⟩ := acts9 hP2.ha; obtain ⟨b0, b1, b2, b3, b4, b5, b6, b7, b8⟩ := free9 hP2.ha))
  refine wp_loop_rounds 4 ?_
  rw [rounds_succ]
  go_wp2_with (go_at_call 24; (with_reducible refine Calls.mono (HN0.out _) ?_); rintro e w4 ⟨rfl, hb4⟩; have hP4 := PW.below (hP2.alloc _) hb4; have hA4 := HasArr.below (HasArr.new _ w2.heap.size rfl) hb4 (by simp only [World.size_setCell, World.size_alloc]; omega); have hlt4 := hP4.lt; have hI4 : ¬ w.heap.size + 1 + 1 = w2.heap.size := (by omega); have hJ4 : ¬ g2 = w2.heap.size := (by omega); have hK4 := hA4.lt; have t4_2 := keep0 hb4 hg2  y2; have t4_3 := keep0 hb4 hg2  y3; have hG4 : g2 < w4.heap.size := (by have hz := hb4.size; simp only [World.size_setCell, World.size_alloc] at hz; omega); have na4 := hA4.c0; have nb4 := hA4.c1; have nc4 := hA4.c2; have fa4 := hA4.free 0; have fb4 := hA4.free 1; have fc4 := hA4.free 2; clear a0 a1 a2 a3 a4 a5 a6 a7 a8 b0 b1 b2 b3 b4 b5 b6 b7 b8; obtain ⟨a0, a1, a2, a3, a4, a5, a6, a7, a8⟩ := acts9 hP4.ha; obtain ⟨b0, b1, b2, b3, b4, b5, b6, b7, b8⟩ := free9 hP4.ha)
  rw [rounds_succ]
  go_wp2_with (go_at_call 24; (with_reducible refine Calls.mono (HN1.out _) ?_); rintro e w5 ⟨rfl, hb5⟩; have hP5 := PW.below (hP4.other ⟨w2.heap.size, 0, none⟩ (by show _ < _; omega) (.int .i64 v0)) hb5; have hA5 := HasArr.below (hA4.s0 v0) hb5 (by simp only [World.size_setCell, World.size_alloc]; omega); have hlt5 := hP5.lt; have hI5 : ¬ w.heap.size + 1 + 1 = w2.heap.size := (by omega); have hJ5 : ¬ g2 = w2.heap.size := (by omega); have hK5 := hA5.lt; have t5_3 := keep1 hb5 hG4 hJ4 t4_3; have hG5 : g2 < w5.heap.size := (by have hz := hb5.size; simp only [World.size_setCell, World.size_alloc] at hz; omega); have na5 := hA5.c0; have nb5 := hA5.c1; have nc5 := hA5.c2; have fa5 := hA5.free 0; have fb5 := hA5.free 1; have fc5 := hA5.free 2; clear a0 a1 a2 a3 a4 a5 a6 a7 a8 b0 b1 b2 b3 b4 b5 b6 b7 b8; obtain ⟨a0, a1, a2, a3, a4, a5, a6, a7, a8⟩ := acts9 hP5.ha; obtain ⟨b0, b1, b2, b3, b4, b5, b6, b7, b8⟩ := free9 hP5.ha)
  rw [rounds_succ]
  go_wp2_with (go_at_call 24; (with_reducible refine Calls.mono (HN2.out _) ?_); rintro e w6 ⟨rfl, hb6⟩; have hP6 := PW.below (hP5.other ⟨w2.heap.size, 1, none⟩ (by show _ < _; omega) (.int .i64 v1)) hb6; have hA6 := HasArr.below (hA5.s1 v1) hb6 (by simp only [World.size_setCell, World.size_alloc]; omega); have hlt6 := hP6.lt; have hI6 : ¬ w.heap.size + 1 + 1 = w2.heap.size := (by omega); have hJ6 : ¬ g2 = w2.heap.size := (by omega); have hK6 := hA6.lt; have hG6 : g2 < w6.heap.size := (by have hz := hb6.size; simp only [World.size_setCell, World.size_alloc] at hz; omega); have na6 := hA6.c0; have nb6 := hA6.c1; have nc6 := hA6.c2; have fa6 := hA6.free 0; have fb6 := hA6.free 1; have fc6 := hA6.free 2; clear a0 a1 a2 a3 a4 a5 a6 a7 a8 b0 b1 b2 b3 b4 b5 b6 b7 b8; obtain ⟨a0, a1, a2, a3, a4, a5, a6, a7, a8⟩ := acts9 hP6.ha; obtain ⟨b0, b1, b2, b3, b4, b5, b6, b7, b8⟩ := free9 hP6.ha)
  rw [rounds_succ]
  go_wp2_with (go_at_call 13; (with_reducible refine Calls.mono (HLN.out _) ?_); rintro e w9 ⟨rfl, hb9⟩; have hP9 := PW.below ((((hP6.other ⟨w2.heap.size, 2, none⟩ (by show _ < _; omega) (.int .i64 v2)).set 6 (.int .i64 v0) (a' := ⟨6, [], 0, 0, [], 0, v0, 0, 0⟩) rfl).set 7 (.int .i64 v1) (a' := ⟨6, [], 0, 0, [], 0, v0, v1, 0⟩) rfl).set 8 (.int .i64 v2) (a' := ⟨6, [], 0, 0, [], 0, v0, v1, v2⟩) rfl) hb9; have hlt9 := hP9.lt; clear a0 a1 a2 a3 a4 a5 a6 a7 a8 b0 b1 b2 b3 b4 b5 b6 b7 b8; obtain ⟨c0, c1, c2, c3, c4, c5, c6, c7, c8⟩ := acts9 hP9.hr; obtain ⟨d0, d1, d2, d3, d4, d5, d6, d7, d8⟩ := free9 hP9.hr; obtain ⟨a0, a1, a2, a3, a4, a5, a6, a7, a8⟩ := acts9 hP9.ha; obtain ⟨n0, n1, n2, n3, n4, n5, n6, n7, n8⟩ := acts9 hP9.hn)
  · refine rparse_ret (hP9.hr.all ⟨0, [], 0, 0, [], 0, 0, 0, 0⟩) rfl rfl ⟨?_, below_all hP9.hb ⟨0, [], 0, 0, [], 0, 0, 0, 0⟩⟩
    rfl
  · exact (hP1.set 0 (.int .i64 6) (a' := ⟨6, [], 0, 0, [], 0, 0, 0, 0⟩) rfl).alloc _
  · exact pw_start w
set_option maxRecDepth 100000 in
set_option maxHeartbeats 8000000 in
theorem ref_parse_6nz (s : Bs) (hs : s.length ≤ 100000) (hw : cutWord s = wordOf 6) (x0 u0 u1 u2 : Bs) (hsp : splitN 9 s = [x0, u0, u1, u2]) (h_q0 : nok u0 = true) (h_q1 : nok u1 = true) (h_q2 : nok u2 = true) (hk : lineErr ⟨6, [], 0, 0, [], 0, (nv u0), (nv u1), (nv u2)⟩ ≠ 0) (w : World) :
    Calls Tryd.prog 10 #[.string ⟨s.toArray⟩] w fun e w' => e = refAns (none) ∧ Below w.heap.size w w' := by
  have HH := Lib.hid (fun wx hP => hd_call w s hs ⟨0, [], 0, 0, [], 0, 0, 0, 0⟩ wx hP)
  rw [hw, show wordOf 6 = [108, 105, 109, 105, 116] from rfl] at HH
  have HW := Lib.hid (fun wx hP => ws_call w s hs 9 (by omega) (by omega) 9 rfl [x0, u0, u1, u2] hsp 4 rfl ⟨6, [], 0, 0, [], 0, 0, 0, 0⟩ wx hP)
  have HM0 : Hid (∃ (v : Int), v = nv u0 ∧ ∀ wx, Calls Tryd.prog 24 #[.string ⟨u0.toArray⟩] wx fun e w' => e = .returned (.tuple #[.int .i64 v, .bool true]) ∧ Below wx.heap.size wx w') := ⟨_, rfl, fun wx => by have := refnumber_any u0 wx; rw [h_q0] at this; exact this⟩
  obtain ⟨v0, hv0, hn0⟩ := HM0.out
  have HV0 := Lib.hid hv0
  have HN0 := Lib.hid hn0
  have HM1 : Hid (∃ (v : Int), v = nv u1 ∧ ∀ wx, Calls Tryd.prog 24 #[.string ⟨u1.toArray⟩] wx fun e w' => e = .returned (.tuple #[.int .i64 v, .bool true]) ∧ Below wx.heap.size wx w') := ⟨_, rfl, fun wx => by have := refnumber_any u1 wx; rw [h_q1] at this; exact this⟩
  obtain ⟨v1, hv1, hn1⟩ := HM1.out
  have HV1 := Lib.hid hv1
  have HN1 := Lib.hid hn1
  have HM2 : Hid (∃ (v : Int), v = nv u2 ∧ ∀ wx, Calls Tryd.prog 24 #[.string ⟨u2.toArray⟩] wx fun e w' => e = .returned (.tuple #[.int .i64 v, .bool true]) ∧ Below wx.heap.size wx w') := ⟨_, rfl, fun wx => by have := refnumber_any u2 wx; rw [h_q2] at this; exact this⟩
  obtain ⟨v2, hv2, hn2⟩ := HM2.out
  have HV2 := Lib.hid hv2
  have HN2 := Lib.hid hn2
  have HL0 : Hid (∃ (k : Int) (ln : Bs), (k != 0) = true ∧ ∀ wx, Calls Tryd.prog 13 #[.agg #[.int .i64 6, .string ⟨([] : Bs).toArray⟩, .int .i64 0, .int .i64 0, .string ⟨([] : Bs).toArray⟩, .int .i64 0, .int .i64 v0, .int .i64 v1, .int .i64 v2]] wx fun e w' => e = .returned (.tuple #[.string ⟨ln.toArray⟩, .int .i64 k]) ∧ Below wx.heap.size wx w') := by
    refine Lib.hid ?_
    rw [HV0.out, HV1.out, HV2.out]
    have hl := fun wx => ref_line_any ⟨6, [], 0, 0, [], 0, (nv u0), (nv u1), (nv u2)⟩ ⟨(by simp), (by simp), (by simp), (nv_bounds _), (nv_bounds _), (nv_bounds _), (by simp), (by simp)⟩ wx
    exact ⟨_, _, by rw [bne_iff_ne]; omega, hl⟩
  obtain ⟨k, ln, hkz, hln⟩ := HL0.out
  have HLN := Lib.hid hln
  clear hw HL0 hln hsp hk h_q0 h_q1 h_q2 hv0 hn0 HM0 hv1 hn1 HM1 hv2 hn2 HM2
  go_enter Tryd.func10, Tryd.ntmps10
  go_wp2_with (first | (go_at_call 22; (with_reducible refine Calls.mono (HH.out _ ?_) ?_); rotate_right; rintro e w1 ⟨g1, cap1, L1, rfl, hL1, hc1, hg1, hg1', hP1⟩; have hne1 : ¬ g1 = w.heap.size + 1 + 1 := (by omega); have hlt1 := hP1.lt; obtain ⟨a0, a1, a2, a3, a4, a5, a6, a7, a8⟩ := acts9 hP1.ha; obtain ⟨b0, b1, b2, b3, b4, b5, b6, b7, b8⟩ := free9 hP1.ha) | (go_at_call 22; (with_reducible refine Calls.mono (HW.out _ ?_) ?_); rotate_right; rintro e w2 ⟨g2, cap2, rfl, hc2, hg2, hg2', hP2⟩; have hne2 : ¬ g2 = w.heap.size + 1 + 1 := (by omega); have hlt2 := hP2.lt; clear a0 a1 a2 a3 a4 a5 a6 a7 a8 b0 b1 b2 b3 b4 b5 b6 b7 b8; have y0 := hc2 0 _ rfl; have y1 := hc2 1 _ rfl; have y2 := hc2 2 _ rfl; have y3 := hc2 3 _ rfl; clear hc2; obtain ⟨a0, a1, a2, a3, a4, a5, a6, a7, a8⟩ := acts9 hP2.ha; obtain ⟨b0, b1, b2, b3, b4, b5, b6, b7, b8⟩ := free9 hP2.ha))
  refine wp_loop_rounds 4 ?_
  rw [rounds_succ]
  go_wp2_with (go_at_call 24; (with_reducible refine Calls.mono (HN0.out _) ?_); rintro e w4 ⟨rfl, hb4⟩; have hP4 := PW.below (hP2.alloc _) hb4; have hA4 := HasArr.below (HasArr.new _ w2.heap.size rfl) hb4 (by simp only [World.size_setCell, World.size_alloc]; omega); have hlt4 := hP4.lt; have hI4 : ¬ w.heap.size + 1 + 1 = w2.heap.size := (by omega); have hJ4 : ¬ g2 = w2.heap.size := (by omega); have hK4 := hA4.lt; have t4_2 := keep0 hb4 hg2  y2; have t4_3 := keep0 hb4 hg2  y3; have hG4 : g2 < w4.heap.size := (by have hz := hb4.size; simp only [World.size_setCell, World.size_alloc] at hz; omega); have na4 := hA4.c0; have nb4 := hA4.c1; have nc4 := hA4.c2; have fa4 := hA4.free 0; have fb4 := hA4.free 1; have fc4 := hA4.free 2; clear a0 a1 a2 a3 a4 a5 a6 a7 a8 b0 b1 b2 b3 b4 b5 b6 b7 b8; obtain ⟨a0, a1, a2, a3, a4, a5, a6, a7, a8⟩ := acts9 hP4.ha; obtain ⟨b0, b1, b2, b3, b4, b5, b6, b7, b8⟩ := free9 hP4.ha)
  rw [rounds_succ]
  go_wp2_with (go_at_call 24; (with_reducible refine Calls.mono (HN1.out _) ?_); rintro e w5 ⟨rfl, hb5⟩; have hP5 := PW.below (hP4.other ⟨w2.heap.size, 0, none⟩ (by show _ < _; omega) (.int .i64 v0)) hb5; have hA5 := HasArr.below (hA4.s0 v0) hb5 (by simp only [World.size_setCell, World.size_alloc]; omega); have hlt5 := hP5.lt; have hI5 : ¬ w.heap.size + 1 + 1 = w2.heap.size := (by omega); have hJ5 : ¬ g2 = w2.heap.size := (by omega); have hK5 := hA5.lt; have t5_3 := keep1 hb5 hG4 hJ4 t4_3; have hG5 : g2 < w5.heap.size := (by have hz := hb5.size; simp only [World.size_setCell, World.size_alloc] at hz; omega); have na5 := hA5.c0; have nb5 := hA5.c1; have nc5 := hA5.c2; have fa5 := hA5.free 0; have fb5 := hA5.free 1; have fc5 := hA5.free 2; clear a0 a1 a2 a3 a4 a5 a6 a7 a8 b0 b1 b2 b3 b4 b5 b6 b7 b8; obtain ⟨a0, a1, a2, a3, a4, a5, a6, a7, a8⟩ := acts9 hP5.ha; obtain ⟨b0, b1, b2, b3, b4, b5, b6, b7, b8⟩ := free9 hP5.ha)
  rw [rounds_succ]
  go_wp2_with (go_at_call 24; (with_reducible refine Calls.mono (HN2.out _) ?_); rintro e w6 ⟨rfl, hb6⟩; have hP6 := PW.below (hP5.other ⟨w2.heap.size, 1, none⟩ (by show _ < _; omega) (.int .i64 v1)) hb6; have hA6 := HasArr.below (hA5.s1 v1) hb6 (by simp only [World.size_setCell, World.size_alloc]; omega); have hlt6 := hP6.lt; have hI6 : ¬ w.heap.size + 1 + 1 = w2.heap.size := (by omega); have hJ6 : ¬ g2 = w2.heap.size := (by omega); have hK6 := hA6.lt; have hG6 : g2 < w6.heap.size := (by have hz := hb6.size; simp only [World.size_setCell, World.size_alloc] at hz; omega); have na6 := hA6.c0; have nb6 := hA6.c1; have nc6 := hA6.c2; have fa6 := hA6.free 0; have fb6 := hA6.free 1; have fc6 := hA6.free 2; clear a0 a1 a2 a3 a4 a5 a6 a7 a8 b0 b1 b2 b3 b4 b5 b6 b7 b8; obtain ⟨a0, a1, a2, a3, a4, a5, a6, a7, a8⟩ := acts9 hP6.ha; obtain ⟨b0, b1, b2, b3, b4, b5, b6, b7, b8⟩ := free9 hP6.ha)
  rw [rounds_succ]
  go_wp2_with (go_at_call 13; (with_reducible refine Calls.mono (HLN.out _) ?_); rintro e w9 ⟨rfl, hb9⟩; have hP9 := PW.below ((((hP6.other ⟨w2.heap.size, 2, none⟩ (by show _ < _; omega) (.int .i64 v2)).set 6 (.int .i64 v0) (a' := ⟨6, [], 0, 0, [], 0, v0, 0, 0⟩) rfl).set 7 (.int .i64 v1) (a' := ⟨6, [], 0, 0, [], 0, v0, v1, 0⟩) rfl).set 8 (.int .i64 v2) (a' := ⟨6, [], 0, 0, [], 0, v0, v1, v2⟩) rfl) hb9; have hlt9 := hP9.lt; clear a0 a1 a2 a3 a4 a5 a6 a7 a8 b0 b1 b2 b3 b4 b5 b6 b7 b8; obtain ⟨c0, c1, c2, c3, c4, c5, c6, c7, c8⟩ := acts9 hP9.hr; obtain ⟨d0, d1, d2, d3, d4, d5, d6, d7, d8⟩ := free9 hP9.hr; obtain ⟨a0, a1, a2, a3, a4, a5, a6, a7, a8⟩ := acts9 hP9.ha; obtain ⟨n0, n1, n2, n3, n4, n5, n6, n7, n8⟩ := acts9 hP9.hn)
  · refine rparse_ret (hP9.hr.all ⟨0, [], 0, 0, [], 0, 0, 0, 0⟩) rfl rfl ⟨?_, below_all hP9.hb ⟨0, [], 0, 0, [], 0, 0, 0, 0⟩⟩
    rfl
  · exact (hP1.set 0 (.int .i64 6) (a' := ⟨6, [], 0, 0, [], 0, 0, 0, 0⟩) rfl).alloc _
  · exact pw_start w
set_option maxRecDepth 100000 in
set_option maxHeartbeats 8000000 in
theorem ref_parse_6z (s : Bs) (hs : s.length ≤ 100000) (hw : cutWord s = wordOf 6) (x0 u0 u1 u2 : Bs) (hsp : splitN 9 s = [x0, u0, u1, u2]) (h_q0 : nok u0 = true) (h_q1 : nok u1 = true) (h_q2 : nok u2 = true) (hk : lineErr ⟨6, [], 0, 0, [], 0, (nv u0), (nv u1), (nv u2)⟩ = 0) (w : World) :
    Calls Tryd.prog 10 #[.string ⟨s.toArray⟩] w fun e w' => e = refAns (some ⟨6, [], 0, 0, [], 0, (nv u0), (nv u1), (nv u2)⟩) ∧ Below w.heap.size w w' := by
  have HH := Lib.hid (fun wx hP => hd_call w s hs ⟨0, [], 0, 0, [], 0, 0, 0, 0⟩ wx hP)
  rw [hw, show wordOf 6 = [108, 105, 109, 105, 116] from rfl] at HH
  have HW := Lib.hid (fun wx hP => ws_call w s hs 9 (by omega) (by omega) 9 rfl [x0, u0, u1, u2] hsp 4 rfl ⟨6, [], 0, 0, [], 0, 0, 0, 0⟩ wx hP)
  have HM0 : Hid (∃ (v : Int), v = nv u0 ∧ ∀ wx, Calls Tryd.prog 24 #[.string ⟨u0.toArray⟩] wx fun e w' => e = .returned (.tuple #[.int .i64 v, .bool true]) ∧ Below wx.heap.size wx w') := ⟨_, rfl, fun wx => by have := refnumber_any u0 wx; rw [h_q0] at this; exact this⟩
  obtain ⟨v0, hv0, hn0⟩ := HM0.out
  have HV0 := Lib.hid hv0
  have HN0 := Lib.hid hn0
  have HM1 : Hid (∃ (v : Int), v = nv u1 ∧ ∀ wx, Calls Tryd.prog 24 #[.string ⟨u1.toArray⟩] wx fun e w' => e = .returned (.tuple #[.int .i64 v, .bool true]) ∧ Below wx.heap.size wx w') := ⟨_, rfl, fun wx => by have := refnumber_any u1 wx; rw [h_q1] at this; exact this⟩
  obtain ⟨v1, hv1, hn1⟩ := HM1.out
  have HV1 := Lib.hid hv1
  have HN1 := Lib.hid hn1
  have HM2 : Hid (∃ (v : Int), v = nv u2 ∧ ∀ wx, Calls Tryd.prog 24 #[.string ⟨u2.toArray⟩] wx fun e w' => e = .returned (.tuple #[.int .i64 v, .bool true]) ∧ Below wx.heap.size wx w') := ⟨_, rfl, fun wx => by have := refnumber_any u2 wx; rw [h_q2] at this; exact this⟩
  obtain ⟨v2, hv2, hn2⟩ := HM2.out
  have HV2 := Lib.hid hv2
  have HN2 := Lib.hid hn2
  have HL0 : Hid (∃ (ln : Bs), ∀ wx, Calls Tryd.prog 13 #[.agg #[.int .i64 6, .string ⟨([] : Bs).toArray⟩, .int .i64 0, .int .i64 0, .string ⟨([] : Bs).toArray⟩, .int .i64 0, .int .i64 v0, .int .i64 v1, .int .i64 v2]] wx fun e w' => e = .returned (.tuple #[.string ⟨ln.toArray⟩, .int .i64 0]) ∧ Below wx.heap.size wx w') := by
    refine Lib.hid ?_
    rw [HV0.out, HV1.out, HV2.out]
    have hl := fun wx => ref_line_any ⟨6, [], 0, 0, [], 0, (nv u0), (nv u1), (nv u2)⟩ ⟨(by simp), (by simp), (by simp), (nv_bounds _), (nv_bounds _), (nv_bounds _), (by simp), (by simp)⟩ wx
    rw [hk] at hl; exact ⟨_, hl⟩
  obtain ⟨ln, hln⟩ := HL0.out
  have HLN := Lib.hid hln
  clear hw HL0 hln hsp hk h_q0 h_q1 h_q2 hv0 hn0 HM0 hv1 hn1 HM1 hv2 hn2 HM2
  go_enter Tryd.func10, Tryd.ntmps10
  go_wp2_with (first | (go_at_call 22; (with_reducible refine Calls.mono (HH.out _ ?_) ?_); rotate_right; rintro e w1 ⟨g1, cap1, L1, rfl, hL1, hc1, hg1, hg1', hP1⟩; have hne1 : ¬ g1 = w.heap.size + 1 + 1 := (by omega); have hlt1 := hP1.lt; obtain ⟨a0, a1, a2, a3, a4, a5, a6, a7, a8⟩ := acts9 hP1.ha; obtain ⟨b0, b1, b2, b3, b4, b5, b6, b7, b8⟩ := free9 hP1.ha) | (go_at_call 22; (with_reducible refine Calls.mono (HW.out _ ?_) ?_); rotate_right; rintro e w2 ⟨g2, cap2, rfl, hc2, hg2, hg2', hP2⟩; have hne2 : ¬ g2 = w.heap.size + 1 + 1 := (by omega); have hlt2 := hP2.lt; clear a0 a1 a2 a3 a4 a5 a6 a7 a8 b0 b1 b2 b3 b4 b5 b6 b7 b8; have y0 := hc2 0 _ rfl; have y1 := hc2 1 _ rfl; have y2 := hc2 2 _ rfl; have y3 := hc2 3 _ rfl; clear hc2; obtain ⟨a0, a1, a2, a3, a4, a5, a6, a7, a8⟩ := acts9 hP2.ha; obtain ⟨b0, b1, b2, b3, b4, b5, b6, b7, b8⟩ := free9 hP2.ha))
  refine wp_loop_rounds 4 ?_
  rw [rounds_succ]
  go_wp2_with (go_at_call 24; (with_reducible refine Calls.mono (HN0.out _) ?_); rintro e w4 ⟨rfl, hb4⟩; have hP4 := PW.below (hP2.alloc _) hb4; have hA4 := HasArr.below (HasArr.new _ w2.heap.size rfl) hb4 (by simp only [World.size_setCell, World.size_alloc]; omega); have hlt4 := hP4.lt; have hI4 : ¬ w.heap.size + 1 + 1 = w2.heap.size := (by omega); have hJ4 : ¬ g2 = w2.heap.size := (by omega); have hK4 := hA4.lt; have t4_2 := keep0 hb4 hg2  y2; have t4_3 := keep0 hb4 hg2  y3; have hG4 : g2 < w4.heap.size := (by have hz := hb4.size; simp only [World.size_setCell, World.size_alloc] at hz; omega); have na4 := hA4.c0; have nb4 := hA4.c1; have nc4 := hA4.c2; have fa4 := hA4.free 0; have fb4 := hA4.free 1; have fc4 := hA4.free 2; clear a0 a1 a2 a3 a4 a5 a6 a7 a8 b0 b1 b2 b3 b4 b5 b6 b7 b8; obtain ⟨a0, a1, a2, a3, a4, a5, a6, a7, a8⟩ := acts9 hP4.ha; obtain ⟨b0, b1, b2, b3, b4, b5, b6, b7, b8⟩ := free9 hP4.ha)
  rw [rounds_succ]
  go_wp2_with (go_at_call 24; (with_reducible refine Calls.mono (HN1.out _) ?_); rintro e w5 ⟨rfl, hb5⟩; have hP5 := PW.below (hP4.other ⟨w2.heap.size, 0, none⟩ (by show _ < _; omega) (.int .i64 v0)) hb5; have hA5 := HasArr.below (hA4.s0 v0) hb5 (by simp only [World.size_setCell, World.size_alloc]; omega); have hlt5 := hP5.lt; have hI5 : ¬ w.heap.size + 1 + 1 = w2.heap.size := (by omega); have hJ5 : ¬ g2 = w2.heap.size := (by omega); have hK5 := hA5.lt; have t5_3 := keep1 hb5 hG4 hJ4 t4_3; have hG5 : g2 < w5.heap.size := (by have hz := hb5.size; simp only [World.size_setCell, World.size_alloc] at hz; omega); have na5 := hA5.c0; have nb5 := hA5.c1; have nc5 := hA5.c2; have fa5 := hA5.free 0; have fb5 := hA5.free 1; have fc5 := hA5.free 2; clear a0 a1 a2 a3 a4 a5 a6 a7 a8 b0 b1 b2 b3 b4 b5 b6 b7 b8; obtain ⟨a0, a1, a2, a3, a4, a5, a6, a7, a8⟩ := acts9 hP5.ha; obtain ⟨b0, b1, b2, b3, b4, b5, b6, b7, b8⟩ := free9 hP5.ha)
  rw [rounds_succ]
  go_wp2_with (go_at_call 24; (with_reducible refine Calls.mono (HN2.out _) ?_); rintro e w6 ⟨rfl, hb6⟩; have hP6 := PW.below (hP5.other ⟨w2.heap.size, 1, none⟩ (by show _ < _; omega) (.int .i64 v1)) hb6; have hA6 := HasArr.below (hA5.s1 v1) hb6 (by simp only [World.size_setCell, World.size_alloc]; omega); have hlt6 := hP6.lt; have hI6 : ¬ w.heap.size + 1 + 1 = w2.heap.size := (by omega); have hJ6 : ¬ g2 = w2.heap.size := (by omega); have hK6 := hA6.lt; have hG6 : g2 < w6.heap.size := (by have hz := hb6.size; simp only [World.size_setCell, World.size_alloc] at hz; omega); have na6 := hA6.c0; have nb6 := hA6.c1; have nc6 := hA6.c2; have fa6 := hA6.free 0; have fb6 := hA6.free 1; have fc6 := hA6.free 2; clear a0 a1 a2 a3 a4 a5 a6 a7 a8 b0 b1 b2 b3 b4 b5 b6 b7 b8; obtain ⟨a0, a1, a2, a3, a4, a5, a6, a7, a8⟩ := acts9 hP6.ha; obtain ⟨b0, b1, b2, b3, b4, b5, b6, b7, b8⟩ := free9 hP6.ha)
  rw [rounds_succ]
  go_wp2_with (go_at_call 13; (with_reducible refine Calls.mono (HLN.out _) ?_); rintro e w9 ⟨rfl, hb9⟩; have hP9 := PW.below ((((hP6.other ⟨w2.heap.size, 2, none⟩ (by show _ < _; omega) (.int .i64 v2)).set 6 (.int .i64 v0) (a' := ⟨6, [], 0, 0, [], 0, v0, 0, 0⟩) rfl).set 7 (.int .i64 v1) (a' := ⟨6, [], 0, 0, [], 0, v0, v1, 0⟩) rfl).set 8 (.int .i64 v2) (a' := ⟨6, [], 0, 0, [], 0, v0, v1, v2⟩) rfl) hb9; have hlt9 := hP9.lt; clear a0 a1 a2 a3 a4 a5 a6 a7 a8 b0 b1 b2 b3 b4 b5 b6 b7 b8; obtain ⟨c0, c1, c2, c3, c4, c5, c6, c7, c8⟩ := acts9 hP9.hr; obtain ⟨d0, d1, d2, d3, d4, d5, d6, d7, d8⟩ := free9 hP9.hr; obtain ⟨a0, a1, a2, a3, a4, a5, a6, a7, a8⟩ := acts9 hP9.ha; obtain ⟨n0, n1, n2, n3, n4, n5, n6, n7, n8⟩ := acts9 hP9.hn)
  · refine rparse_ret (hP9.hr.all ⟨6, [], 0, 0, [], 0, v0, v1, v2⟩) rfl rfl ⟨?_, below_all hP9.hb ⟨6, [], 0, 0, [], 0, v0, v1, v2⟩⟩
    rw [← HV0.out, ← HV1.out, ← HV2.out]; rfl
  · exact (hP1.set 0 (.int .i64 6) (a' := ⟨6, [], 0, 0, [], 0, 0, 0, 0⟩) rfl).alloc _
  · exact pw_start w
set_option maxRecDepth 100000 in
set_option maxHeartbeats 8000000 in
theorem ref_parse_6s (s : Bs) (hs : s.length ≤ 100000) (hw : cutWord s = wordOf 6) (hsp : (splitN 9 s).length ≠ 4) (w : World) :
    Calls Tryd.prog 10 #[.string ⟨s.toArray⟩] w fun e w' => e = refAns none ∧ Below w.heap.size w w' := by
  have HH := Lib.hid (fun wx hP => hd_call w s hs ⟨0, [], 0, 0, [], 0, 0, 0, 0⟩ wx hP)
  rw [hw, show wordOf 6 = [108, 105, 109, 105, 116] from rfl] at HH
  have hLx : Hid (∃ L2, L2 = (splitN 9 s).length) := ⟨_, rfl⟩
  obtain ⟨L2, hL2⟩ := hLx.out
  have hLn : ((L2 : Int) == 4) = false := by rw [beq_eq_false_iff_ne, hL2]; omega
  have HW := Lib.hid (fun wx hP => ws_call w s hs 9 (by omega) (by omega) 9 rfl (splitN 9 s) rfl L2 hL2 ⟨6, [], 0, 0, [], 0, 0, 0, 0⟩ wx hP)
  clear hw hsp hL2 hLx
  go_enter Tryd.func10, Tryd.ntmps10
  go_wp2_with (first | (go_at_call 22; (with_reducible refine Calls.mono (HH.out _ ?_) ?_); rotate_right; rintro e w1 ⟨g1, cap1, L1, rfl, hL1, hc1, hg1, hg1', hP1⟩; have hne1 : ¬ g1 = w.heap.size + 1 + 1 := (by omega); have hlt1 := hP1.lt; obtain ⟨a0, a1, a2, a3, a4, a5, a6, a7, a8⟩ := acts9 hP1.ha; obtain ⟨b0, b1, b2, b3, b4, b5, b6, b7, b8⟩ := free9 hP1.ha) | (go_at_call 22; (with_reducible refine Calls.mono (HW.out _ ?_) ?_); rotate_right; rintro e w2 ⟨g2, cap2, rfl, hc2, hg2, hg2', hP2⟩; clear hc2; have hlt2 := hP2.lt; clear a0 a1 a2 a3 a4 a5 a6 a7 a8 b0 b1 b2 b3 b4 b5 b6 b7 b8; obtain ⟨c0, c1, c2, c3, c4, c5, c6, c7, c8⟩ := acts9 hP2.hr; obtain ⟨d0, d1, d2, d3, d4, d5, d6, d7, d8⟩ := free9 hP2.hr; obtain ⟨n0, n1, n2, n3, n4, n5, n6, n7, n8⟩ := acts9 hP2.hn))
  · refine rparse_ret (hP2.hr.all ⟨0, [], 0, 0, [], 0, 0, 0, 0⟩) rfl rfl ⟨rfl, below_all hP2.hb ⟨0, [], 0, 0, [], 0, 0, 0, 0⟩⟩
  · exact (hP1.set 0 (.int .i64 6) (a' := ⟨6, [], 0, 0, [], 0, 0, 0, 0⟩) rfl).alloc _
  · exact pw_start w
end Go.Proofs.YtelehacakbaobaaDoor
