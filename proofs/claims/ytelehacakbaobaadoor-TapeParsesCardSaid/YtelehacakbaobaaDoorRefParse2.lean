/- What ref28.Parse comes to at the word of kind 2. (Written by genrefparse.py.) -/
import Derived.Test.YtelehacakbaobaaDoorRefSteps
namespace Go.Proofs.YtelehacakbaobaaDoor
open Go.RowKit
set_option linter.unusedVariables false
set_option linter.unusedSimpArgs false

set_option maxRecDepth 100000 in
set_option maxHeartbeats 8000000 in
theorem ref_parse_2f0 (s : Bs) (hs : s.length ≤ 100000) (hw : cutWord s = wordOf 2) (x0 nm f0 o0 tx : Bs) (hsp : splitN 5 s = [x0, nm, f0, o0, tx]) (h_qt : uqOk tx = false) (w : World) :
    Calls Tryd.prog 10 #[.string ⟨s.toArray⟩] w fun e w' => e = refAns (none) ∧ Below w.heap.size w w' := by
  have HH := Lib.hid (fun wx hP => hd_call w s hs ⟨0, [], 0, 0, [], 0, 0, 0, 0⟩ wx hP)
  rw [hw, show wordOf 2 = [101, 100, 105, 116] from rfl] at HH
  have HW := Lib.hid (fun wx hP => ws_call w s hs 5 (by omega) (by omega) 5 rfl [x0, nm, f0, o0, tx] hsp 5 rfl ⟨2, [], 0, 0, [], 0, 0, 0, 0⟩ wx hP)
  have hnm : nm.length ≤ 100000 := mem_len hsp (by simp) hs
  have HU0 : Hid (∃ (TX : Bs), TX = uq tx ∧ ∀ wx, Calls Tryd.prog 23 #[.string ⟨tx.toArray⟩] wx fun e w' => e = .returned (.tuple #[.string ⟨TX.toArray⟩, .bool false]) ∧ Below wx.heap.size wx w') := ⟨_, rfl, fun wx => by have := refunq_any tx (by have := mem_len hsp (x := tx) (by simp) hs; omega) wx; rw [show (unquote tx).isSome = false from h_qt] at this; exact this⟩
  obtain ⟨TX, htx, hun⟩ := HU0.out
  have HTX := Lib.hid htx
  have HUN := Lib.hid hun
  have htl : (uq tx).length ≤ 100000 := Nat.le_trans (uq_len tx) (mem_len hsp (by simp) hs)
  have HM0 : Hid (∃ (v : Int) (q : Bool), v = nv f0 ∧ ∀ wx, Calls Tryd.prog 24 #[.string ⟨f0.toArray⟩] wx fun e w' => e = .returned (.tuple #[.int .i64 v, .bool q]) ∧ Below wx.heap.size wx w') := ⟨_, _, rfl, fun wx => refnumber_any f0 wx⟩
  obtain ⟨v0, q0, hv0, hn0⟩ := HM0.out
  have HV0 := Lib.hid hv0
  have HN0 := Lib.hid hn0
  have HM1 : Hid (∃ (v : Int) (q : Bool), v = nv o0 ∧ ∀ wx, Calls Tryd.prog 24 #[.string ⟨o0.toArray⟩] wx fun e w' => e = .returned (.tuple #[.int .i64 v, .bool q]) ∧ Below wx.heap.size wx w') := ⟨_, _, rfl, fun wx => refnumber_any o0 wx⟩
  obtain ⟨v1, q1, hv1, hn1⟩ := HM1.out
  have HV1 := Lib.hid hv1
  have HN1 := Lib.hid hn1
  have HL0 : Hid (∃ (k : Int) (ln : Bs), ∀ wx, Calls Tryd.prog 13 #[.agg #[.int .i64 2, .string ⟨(nm : Bs).toArray⟩, .int .i64 v0, .int .i64 v1, .string ⟨(TX : Bs).toArray⟩, .int .i64 0, .int .i64 0, .int .i64 0, .int .i64 0]] wx fun e w' => e = .returned (.tuple #[.string ⟨ln.toArray⟩, .int .i64 k]) ∧ Below wx.heap.size wx w') := by
    refine Lib.hid ?_
    rw [HTX.out, HV0.out, HV1.out]
    have hl := fun wx => ref_line_any ⟨2, nm, (nv f0), (nv o0), (uq tx), 0, 0, 0, 0⟩ ⟨(nv_bounds _), (nv_bounds _), (by simp), (by simp), (by simp), (by simp), hnm, htl⟩ wx
    exact ⟨_, _, hl⟩
  obtain ⟨k, ln, hln⟩ := HL0.out
  have HLN := Lib.hid hln
  clear hw HL0 hln hsp hnm htl htx hun HU0 h_qt hv0 hn0 HM0 hv1 hn1 HM1
  go_enter Tryd.func10, Tryd.ntmps10
  go_wp2_with (first | (go_at_call 22; (with_reducible refine Calls.mono (HH.out _ ?_) ?_); rotate_right; rintro e w1 ⟨g1, cap1, L1, rfl, hL1, hc1, hg1, hg1', hP1⟩; have hne1 : ¬ g1 = w.heap.size + 1 + 1 := (by omega); have hlt1 := hP1.lt; obtain ⟨a0, a1, a2, a3, a4, a5, a6, a7, a8⟩ := acts9 hP1.ha; obtain ⟨b0, b1, b2, b3, b4, b5, b6, b7, b8⟩ := free9 hP1.ha) | (go_at_call 22; (with_reducible refine Calls.mono (HW.out _ ?_) ?_); rotate_right; rintro e w2 ⟨g2, cap2, rfl, hc2, hg2, hg2', hP2⟩; have hne2 : ¬ g2 = w.heap.size + 1 + 1 := (by omega); have hlt2 := hP2.lt; clear a0 a1 a2 a3 a4 a5 a6 a7 a8 b0 b1 b2 b3 b4 b5 b6 b7 b8; have y0 := hc2 0 _ rfl; have y1 := hc2 1 _ rfl; have y2 := hc2 2 _ rfl; have y3 := hc2 3 _ rfl; have y4 := hc2 4 _ rfl; clear hc2; obtain ⟨a0, a1, a2, a3, a4, a5, a6, a7, a8⟩ := acts9 hP2.ha; obtain ⟨b0, b1, b2, b3, b4, b5, b6, b7, b8⟩ := free9 hP2.ha) | (go_at_call 23; (with_reducible refine Calls.mono (HUN.out _) ?_); rintro e w3 ⟨rfl, hb3⟩; have hP3 := PW.below (hP2.set 1 (.string ⟨nm.toArray⟩) (a' := ⟨2, nm, 0, 0, [], 0, 0, 0, 0⟩) rfl) hb3; have hlt3 := hP3.lt; have hg3 : g2 < w3.heap.size := (by have hz3 := hb3.size; simp only [World.size_setCell] at hz3; omega); clear a0 a1 a2 a3 a4 a5 a6 a7 a8 b0 b1 b2 b3 b4 b5 b6 b7 b8; have z0 := keep1 hb3 hg2 hne2 y0; have z1 := keep1 hb3 hg2 hne2 y1; have z2 := keep1 hb3 hg2 hne2 y2; have z3 := keep1 hb3 hg2 hne2 y3; have z4 := keep1 hb3 hg2 hne2 y4; obtain ⟨a0, a1, a2, a3, a4, a5, a6, a7, a8⟩ := acts9 hP3.ha; obtain ⟨b0, b1, b2, b3, b4, b5, b6, b7, b8⟩ := free9 hP3.ha))
  refine wp_loop_rounds 3 ?_
  rw [rounds_succ]
  go_wp2_with (go_at_call 24; (with_reducible refine Calls.mono (HN0.out _) ?_); rintro e w4 ⟨rfl, hb4⟩; have hP4 := PW.below ((hP3.set 4 (.string ⟨TX.toArray⟩) (a' := ⟨2, nm, 0, 0, TX, 0, 0, 0, 0⟩) rfl).alloc _) hb4; have hA4 := HasArr.below (HasArr.new _ w3.heap.size (by simp only [World.size_setCell])) hb4 (by simp only [World.size_setCell, World.size_alloc]; omega); have hlt4 := hP4.lt; have hI4 : ¬ w.heap.size + 1 + 1 = w3.heap.size := (by omega); have hJ4 : ¬ g2 = w3.heap.size := (by omega); have hK4 := hA4.lt; have t4_3 := keep2 hb4 hg3 hne2 z3; have hG4 : g2 < w4.heap.size := (by have hz := hb4.size; simp only [World.size_setCell, World.size_alloc] at hz; omega); have na4 := hA4.c0; have nb4 := hA4.c1; have nc4 := hA4.c2; have fa4 := hA4.free 0; have fb4 := hA4.free 1; have fc4 := hA4.free 2; clear a0 a1 a2 a3 a4 a5 a6 a7 a8 b0 b1 b2 b3 b4 b5 b6 b7 b8; obtain ⟨a0, a1, a2, a3, a4, a5, a6, a7, a8⟩ := acts9 hP4.ha; obtain ⟨b0, b1, b2, b3, b4, b5, b6, b7, b8⟩ := free9 hP4.ha)
  rw [rounds_succ]
  go_wp2_with (go_at_call 24; (with_reducible refine Calls.mono (HN1.out _) ?_); rintro e w5 ⟨rfl, hb5⟩; have hP5 := PW.below (hP4.other ⟨w3.heap.size, 0, none⟩ (by show _ < _; omega) (.int .i64 v0)) hb5; have hA5 := HasArr.below (hA4.s0 v0) hb5 (by simp only [World.size_setCell, World.size_alloc]; omega); have hlt5 := hP5.lt; have hI5 : ¬ w.heap.size + 1 + 1 = w3.heap.size := (by omega); have hJ5 : ¬ g2 = w3.heap.size := (by omega); have hK5 := hA5.lt; have hG5 : g2 < w5.heap.size := (by have hz := hb5.size; simp only [World.size_setCell, World.size_alloc] at hz; omega); have na5 := hA5.c0; have nb5 := hA5.c1; have nc5 := hA5.c2; have fa5 := hA5.free 0; have fb5 := hA5.free 1; have fc5 := hA5.free 2; clear a0 a1 a2 a3 a4 a5 a6 a7 a8 b0 b1 b2 b3 b4 b5 b6 b7 b8; obtain ⟨a0, a1, a2, a3, a4, a5, a6, a7, a8⟩ := acts9 hP5.ha; obtain ⟨b0, b1, b2, b3, b4, b5, b6, b7, b8⟩ := free9 hP5.ha)
  rw [rounds_succ]
  go_wp2_with fail
  rotate_left
  · exact (hP1.set 0 (.int .i64 2) (a' := ⟨2, [], 0, 0, [], 0, 0, 0, 0⟩) rfl).alloc _
  · exact pw_start w
  go_region
  all_goals
    go_wp2_with (go_at_call 13; (with_reducible refine Calls.mono (HLN.out _) ?_); rintro e w9 ⟨rfl, hb9⟩; have hP9 := PW.below ((((hP5.other ⟨w3.heap.size, 1, none⟩ (by show _ < _; omega) (.int .i64 v1)).set 2 (.int .i64 v0) (a' := ⟨2, nm, v0, 0, TX, 0, 0, 0, 0⟩) rfl).set 3 (.int .i64 v1) (a' := ⟨2, nm, v0, v1, TX, 0, 0, 0, 0⟩) rfl).drew) hb9; have hlt9 := hP9.lt; clear a0 a1 a2 a3 a4 a5 a6 a7 a8 b0 b1 b2 b3 b4 b5 b6 b7 b8; obtain ⟨c0, c1, c2, c3, c4, c5, c6, c7, c8⟩ := acts9 hP9.hr; obtain ⟨d0, d1, d2, d3, d4, d5, d6, d7, d8⟩ := free9 hP9.hr; obtain ⟨a0, a1, a2, a3, a4, a5, a6, a7, a8⟩ := acts9 hP9.ha; obtain ⟨n0, n1, n2, n3, n4, n5, n6, n7, n8⟩ := acts9 hP9.hn)
    refine rparse_ret (hP9.hr.all ⟨0, [], 0, 0, [], 0, 0, 0, 0⟩) rfl rfl ⟨?_, below_all hP9.hb ⟨0, [], 0, 0, [], 0, 0, 0, 0⟩⟩
    rfl
set_option maxRecDepth 100000 in
set_option maxHeartbeats 8000000 in
theorem ref_parse_2f1 (s : Bs) (hs : s.length ≤ 100000) (hw : cutWord s = wordOf 2) (x0 nm f0 o0 tx : Bs) (hsp : splitN 5 s = [x0, nm, f0, o0, tx]) (h_qt : uqOk tx = true) (h_q0 : nok f0 = false) (w : World) :
    Calls Tryd.prog 10 #[.string ⟨s.toArray⟩] w fun e w' => e = refAns (none) ∧ Below w.heap.size w w' := by
  have HH := Lib.hid (fun wx hP => hd_call w s hs ⟨0, [], 0, 0, [], 0, 0, 0, 0⟩ wx hP)
  rw [hw, show wordOf 2 = [101, 100, 105, 116] from rfl] at HH
  have HW := Lib.hid (fun wx hP => ws_call w s hs 5 (by omega) (by omega) 5 rfl [x0, nm, f0, o0, tx] hsp 5 rfl ⟨2, [], 0, 0, [], 0, 0, 0, 0⟩ wx hP)
  have hnm : nm.length ≤ 100000 := mem_len hsp (by simp) hs
  have HU0 : Hid (∃ (TX : Bs), TX = uq tx ∧ ∀ wx, Calls Tryd.prog 23 #[.string ⟨tx.toArray⟩] wx fun e w' => e = .returned (.tuple #[.string ⟨TX.toArray⟩, .bool true]) ∧ Below wx.heap.size wx w') := ⟨_, rfl, fun wx => by have := refunq_any tx (by have := mem_len hsp (x := tx) (by simp) hs; omega) wx; rw [show (unquote tx).isSome = true from h_qt] at this; exact this⟩
  obtain ⟨TX, htx, hun⟩ := HU0.out
  have HTX := Lib.hid htx
  have HUN := Lib.hid hun
  have htl : (uq tx).length ≤ 100000 := Nat.le_trans (uq_len tx) (mem_len hsp (by simp) hs)
  have HM0 : Hid (∃ (v : Int), v = nv f0 ∧ ∀ wx, Calls Tryd.prog 24 #[.string ⟨f0.toArray⟩] wx fun e w' => e = .returned (.tuple #[.int .i64 v, .bool false]) ∧ Below wx.heap.size wx w') := ⟨_, rfl, fun wx => by have := refnumber_any f0 wx; rw [h_q0] at this; exact this⟩
  obtain ⟨v0, hv0, hn0⟩ := HM0.out
  have HV0 := Lib.hid hv0
  have HN0 := Lib.hid hn0
  have HM1 : Hid (∃ (v : Int) (q : Bool), v = nv o0 ∧ ∀ wx, Calls Tryd.prog 24 #[.string ⟨o0.toArray⟩] wx fun e w' => e = .returned (.tuple #[.int .i64 v, .bool q]) ∧ Below wx.heap.size wx w') := ⟨_, _, rfl, fun wx => refnumber_any o0 wx⟩
  obtain ⟨v1, q1, hv1, hn1⟩ := HM1.out
  have HV1 := Lib.hid hv1
  have HN1 := Lib.hid hn1
  have HL0 : Hid (∃ (k : Int) (ln : Bs), ∀ wx, Calls Tryd.prog 13 #[.agg #[.int .i64 2, .string ⟨(nm : Bs).toArray⟩, .int .i64 v0, .int .i64 v1, .string ⟨(TX : Bs).toArray⟩, .int .i64 0, .int .i64 0, .int .i64 0, .int .i64 0]] wx fun e w' => e = .returned (.tuple #[.string ⟨ln.toArray⟩, .int .i64 k]) ∧ Below wx.heap.size wx w') := by
    refine Lib.hid ?_
    rw [HTX.out, HV0.out, HV1.out]
    have hl := fun wx => ref_line_any ⟨2, nm, (nv f0), (nv o0), (uq tx), 0, 0, 0, 0⟩ ⟨(nv_bounds _), (nv_bounds _), (by simp), (by simp), (by simp), (by simp), hnm, htl⟩ wx
    exact ⟨_, _, hl⟩
  obtain ⟨k, ln, hln⟩ := HL0.out
  have HLN := Lib.hid hln
  clear hw HL0 hln hsp hnm htl htx hun HU0 h_qt h_q0 hv0 hn0 HM0 hv1 hn1 HM1
  go_enter Tryd.func10, Tryd.ntmps10
  go_wp2_with (first | (go_at_call 22; (with_reducible refine Calls.mono (HH.out _ ?_) ?_); rotate_right; rintro e w1 ⟨g1, cap1, L1, rfl, hL1, hc1, hg1, hg1', hP1⟩; have hne1 : ¬ g1 = w.heap.size + 1 + 1 := (by omega); have hlt1 := hP1.lt; obtain ⟨a0, a1, a2, a3, a4, a5, a6, a7, a8⟩ := acts9 hP1.ha; obtain ⟨b0, b1, b2, b3, b4, b5, b6, b7, b8⟩ := free9 hP1.ha) | (go_at_call 22; (with_reducible refine Calls.mono (HW.out _ ?_) ?_); rotate_right; rintro e w2 ⟨g2, cap2, rfl, hc2, hg2, hg2', hP2⟩; have hne2 : ¬ g2 = w.heap.size + 1 + 1 := (by omega); have hlt2 := hP2.lt; clear a0 a1 a2 a3 a4 a5 a6 a7 a8 b0 b1 b2 b3 b4 b5 b6 b7 b8; have y0 := hc2 0 _ rfl; have y1 := hc2 1 _ rfl; have y2 := hc2 2 _ rfl; have y3 := hc2 3 _ rfl; have y4 := hc2 4 _ rfl; clear hc2; obtain ⟨a0, a1, a2, a3, a4, a5, a6, a7, a8⟩ := acts9 hP2.ha; obtain ⟨b0, b1, b2, b3, b4, b5, b6, b7, b8⟩ := free9 hP2.ha) | (go_at_call 23; (with_reducible refine Calls.mono (HUN.out _) ?_); rintro e w3 ⟨rfl, hb3⟩; have hP3 := PW.below (hP2.set 1 (.string ⟨nm.toArray⟩) (a' := ⟨2, nm, 0, 0, [], 0, 0, 0, 0⟩) rfl) hb3; have hlt3 := hP3.lt; have hg3 : g2 < w3.heap.size := (by have hz3 := hb3.size; simp only [World.size_setCell] at hz3; omega); clear a0 a1 a2 a3 a4 a5 a6 a7 a8 b0 b1 b2 b3 b4 b5 b6 b7 b8; have z0 := keep1 hb3 hg2 hne2 y0; have z1 := keep1 hb3 hg2 hne2 y1; have z2 := keep1 hb3 hg2 hne2 y2; have z3 := keep1 hb3 hg2 hne2 y3; have z4 := keep1 hb3 hg2 hne2 y4; obtain ⟨a0, a1, a2, a3, a4, a5, a6, a7, a8⟩ := acts9 hP3.ha; obtain ⟨b0, b1, b2, b3, b4, b5, b6, b7, b8⟩ := free9 hP3.ha))
  refine wp_loop_rounds 3 ?_
  rw [rounds_succ]
  go_wp2_with (go_at_call 24; (with_reducible refine Calls.mono (HN0.out _) ?_); rintro e w4 ⟨rfl, hb4⟩; have hP4 := PW.below ((hP3.set 4 (.string ⟨TX.toArray⟩) (a' := ⟨2, nm, 0, 0, TX, 0, 0, 0, 0⟩) rfl).alloc _) hb4; have hA4 := HasArr.below (HasArr.new _ w3.heap.size (by simp only [World.size_setCell])) hb4 (by simp only [World.size_setCell, World.size_alloc]; omega); have hlt4 := hP4.lt; have hI4 : ¬ w.heap.size + 1 + 1 = w3.heap.size := (by omega); have hJ4 : ¬ g2 = w3.heap.size := (by omega); have hK4 := hA4.lt; have t4_3 := keep2 hb4 hg3 hne2 z3; have hG4 : g2 < w4.heap.size := (by have hz := hb4.size; simp only [World.size_setCell, World.size_alloc] at hz; omega); have na4 := hA4.c0; have nb4 := hA4.c1; have nc4 := hA4.c2; have fa4 := hA4.free 0; have fb4 := hA4.free 1; have fc4 := hA4.free 2; clear a0 a1 a2 a3 a4 a5 a6 a7 a8 b0 b1 b2 b3 b4 b5 b6 b7 b8; obtain ⟨a0, a1, a2, a3, a4, a5, a6, a7, a8⟩ := acts9 hP4.ha; obtain ⟨b0, b1, b2, b3, b4, b5, b6, b7, b8⟩ := free9 hP4.ha)
  rw [rounds_succ]
  go_wp2_with (go_at_call 24; (with_reducible refine Calls.mono (HN1.out _) ?_); rintro e w5 ⟨rfl, hb5⟩; have hP5 := PW.below (hP4.other ⟨w3.heap.size, 0, none⟩ (by show _ < _; omega) (.int .i64 v0)) hb5; have hA5 := HasArr.below (hA4.s0 v0) hb5 (by simp only [World.size_setCell, World.size_alloc]; omega); have hlt5 := hP5.lt; have hI5 : ¬ w.heap.size + 1 + 1 = w3.heap.size := (by omega); have hJ5 : ¬ g2 = w3.heap.size := (by omega); have hK5 := hA5.lt; have hG5 : g2 < w5.heap.size := (by have hz := hb5.size; simp only [World.size_setCell, World.size_alloc] at hz; omega); have na5 := hA5.c0; have nb5 := hA5.c1; have nc5 := hA5.c2; have fa5 := hA5.free 0; have fb5 := hA5.free 1; have fc5 := hA5.free 2; clear a0 a1 a2 a3 a4 a5 a6 a7 a8 b0 b1 b2 b3 b4 b5 b6 b7 b8; obtain ⟨a0, a1, a2, a3, a4, a5, a6, a7, a8⟩ := acts9 hP5.ha; obtain ⟨b0, b1, b2, b3, b4, b5, b6, b7, b8⟩ := free9 hP5.ha)
  rw [rounds_succ]
  go_wp2_with fail
  rotate_left
  · exact (hP1.set 0 (.int .i64 2) (a' := ⟨2, [], 0, 0, [], 0, 0, 0, 0⟩) rfl).alloc _
  · exact pw_start w
  go_region
  all_goals
    go_wp2_with (go_at_call 13; (with_reducible refine Calls.mono (HLN.out _) ?_); rintro e w9 ⟨rfl, hb9⟩; have hP9 := PW.below ((((hP5.other ⟨w3.heap.size, 1, none⟩ (by show _ < _; omega) (.int .i64 v1)).set 2 (.int .i64 v0) (a' := ⟨2, nm, v0, 0, TX, 0, 0, 0, 0⟩) rfl).set 3 (.int .i64 v1) (a' := ⟨2, nm, v0, v1, TX, 0, 0, 0, 0⟩) rfl).drew) hb9; have hlt9 := hP9.lt; clear a0 a1 a2 a3 a4 a5 a6 a7 a8 b0 b1 b2 b3 b4 b5 b6 b7 b8; obtain ⟨c0, c1, c2, c3, c4, c5, c6, c7, c8⟩ := acts9 hP9.hr; obtain ⟨d0, d1, d2, d3, d4, d5, d6, d7, d8⟩ := free9 hP9.hr; obtain ⟨a0, a1, a2, a3, a4, a5, a6, a7, a8⟩ := acts9 hP9.ha; obtain ⟨n0, n1, n2, n3, n4, n5, n6, n7, n8⟩ := acts9 hP9.hn)
    refine rparse_ret (hP9.hr.all ⟨0, [], 0, 0, [], 0, 0, 0, 0⟩) rfl rfl ⟨?_, below_all hP9.hb ⟨0, [], 0, 0, [], 0, 0, 0, 0⟩⟩
    rfl
set_option maxRecDepth 100000 in
set_option maxHeartbeats 8000000 in
theorem ref_parse_2f2 (s : Bs) (hs : s.length ≤ 100000) (hw : cutWord s = wordOf 2) (x0 nm f0 o0 tx : Bs) (hsp : splitN 5 s = [x0, nm, f0, o0, tx]) (h_qt : uqOk tx = true) (h_q0 : nok f0 = true) (h_q1 : nok o0 = false) (w : World) :
    Calls Tryd.prog 10 #[.string ⟨s.toArray⟩] w fun e w' => e = refAns (none) ∧ Below w.heap.size w w' := by
  have HH := Lib.hid (fun wx hP => hd_call w s hs ⟨0, [], 0, 0, [], 0, 0, 0, 0⟩ wx hP)
  rw [hw, show wordOf 2 = [101, 100, 105, 116] from rfl] at HH
  have HW := Lib.hid (fun wx hP => ws_call w s hs 5 (by omega) (by omega) 5 rfl [x0, nm, f0, o0, tx] hsp 5 rfl ⟨2, [], 0, 0, [], 0, 0, 0, 0⟩ wx hP)
  have hnm : nm.length ≤ 100000 := mem_len hsp (by simp) hs
  have HU0 : Hid (∃ (TX : Bs), TX = uq tx ∧ ∀ wx, Calls Tryd.prog 23 #[.string ⟨tx.toArray⟩] wx fun e w' => e = .returned (.tuple #[.string ⟨TX.toArray⟩, .bool true]) ∧ Below wx.heap.size wx w') := ⟨_, rfl, fun wx => by have := refunq_any tx (by have := mem_len hsp (x := tx) (by simp) hs; omega) wx; rw [show (unquote tx).isSome = true from h_qt] at this; exact this⟩
  obtain ⟨TX, htx, hun⟩ := HU0.out
  have HTX := Lib.hid htx
  have HUN := Lib.hid hun
  have htl : (uq tx).length ≤ 100000 := Nat.le_trans (uq_len tx) (mem_len hsp (by simp) hs)
  have HM0 : Hid (∃ (v : Int), v = nv f0 ∧ ∀ wx, Calls Tryd.prog 24 #[.string ⟨f0.toArray⟩] wx fun e w' => e = .returned (.tuple #[.int .i64 v, .bool true]) ∧ Below wx.heap.size wx w') := ⟨_, rfl, fun wx => by have := refnumber_any f0 wx; rw [h_q0] at this; exact this⟩
  obtain ⟨v0, hv0, hn0⟩ := HM0.out
  have HV0 := Lib.hid hv0
  have HN0 := Lib.hid hn0
  have HM1 : Hid (∃ (v : Int), v = nv o0 ∧ ∀ wx, Calls Tryd.prog 24 #[.string ⟨o0.toArray⟩] wx fun e w' => e = .returned (.tuple #[.int .i64 v, .bool false]) ∧ Below wx.heap.size wx w') := ⟨_, rfl, fun wx => by have := refnumber_any o0 wx; rw [h_q1] at this; exact this⟩
  obtain ⟨v1, hv1, hn1⟩ := HM1.out
  have HV1 := Lib.hid hv1
  have HN1 := Lib.hid hn1
  have HL0 : Hid (∃ (k : Int) (ln : Bs), ∀ wx, Calls Tryd.prog 13 #[.agg #[.int .i64 2, .string ⟨(nm : Bs).toArray⟩, .int .i64 v0, .int .i64 v1, .string ⟨(TX : Bs).toArray⟩, .int .i64 0, .int .i64 0, .int .i64 0, .int .i64 0]] wx fun e w' => e = .returned (.tuple #[.string ⟨ln.toArray⟩, .int .i64 k]) ∧ Below wx.heap.size wx w') := by
    refine Lib.hid ?_
    rw [HTX.out, HV0.out, HV1.out]
    have hl := fun wx => ref_line_any ⟨2, nm, (nv f0), (nv o0), (uq tx), 0, 0, 0, 0⟩ ⟨(nv_bounds _), (nv_bounds _), (by simp), (by simp), (by simp), (by simp), hnm, htl⟩ wx
    exact ⟨_, _, hl⟩
  obtain ⟨k, ln, hln⟩ := HL0.out
  have HLN := Lib.hid hln
  clear hw HL0 hln hsp hnm htl htx hun HU0 h_qt h_q0 h_q1 hv0 hn0 HM0 hv1 hn1 HM1
  go_enter Tryd.func10, Tryd.ntmps10
  go_wp2_with (first | (go_at_call 22; (with_reducible refine Calls.mono (HH.out _ ?_) ?_); rotate_right; rintro e w1 ⟨g1, cap1, L1, rfl, hL1, hc1, hg1, hg1', hP1⟩; have hne1 : ¬ g1 = w.heap.size + 1 + 1 := (by omega); have hlt1 := hP1.lt; obtain ⟨a0, a1, a2, a3, a4, a5, a6, a7, a8⟩ := acts9 hP1.ha; obtain ⟨b0, b1, b2, b3, b4, b5, b6, b7, b8⟩ := free9 hP1.ha) | (go_at_call 22; (with_reducible refine Calls.mono (HW.out _ ?_) ?_); rotate_right; rintro e w2 ⟨g2, cap2, rfl, hc2, hg2, hg2', hP2⟩; have hne2 : ¬ g2 = w.heap.size + 1 + 1 := (by omega); have hlt2 := hP2.lt; clear a0 a1 a2 a3 a4 a5 a6 a7 a8 b0 b1 b2 b3 b4 b5 b6 b7 b8; have y0 := hc2 0 _ rfl; have y1 := hc2 1 _ rfl; have y2 := hc2 2 _ rfl; have y3 := hc2 3 _ rfl; have y4 := hc2 4 _ rfl; clear hc2; obtain ⟨a0, a1, a2, a3, a4, a5, a6, a7, a8⟩ := acts9 hP2.ha; obtain ⟨b0, b1, b2, b3, b4, b5, b6, b7, b8⟩ := free9 hP2.ha) | (go_at_call 23; (with_reducible refine Calls.mono (HUN.out _) ?_); rintro e w3 ⟨rfl, hb3⟩; have hP3 := PW.below (hP2.set 1 (.string ⟨nm.toArray⟩) (a' := ⟨2, nm, 0, 0, [], 0, 0, 0, 0⟩) rfl) hb3; have hlt3 := hP3.lt; have hg3 : g2 < w3.heap.size := (by have hz3 := hb3.size; simp only [World.size_setCell] at hz3; omega); clear a0 a1 a2 a3 a4 a5 a6 a7 a8 b0 b1 b2 b3 b4 b5 b6 b7 b8; have z0 := keep1 hb3 hg2 hne2 y0; have z1 := keep1 hb3 hg2 hne2 y1; have z2 := keep1 hb3 hg2 hne2 y2; have z3 := keep1 hb3 hg2 hne2 y3; have z4 := keep1 hb3 hg2 hne2 y4; obtain ⟨a0, a1, a2, a3, a4, a5, a6, a7, a8⟩ := acts9 hP3.ha; obtain ⟨b0, b1, b2, b3, b4, b5, b6, b7, b8⟩ := free9 hP3.ha))
  refine wp_loop_rounds 3 ?_
  rw [rounds_succ]
  go_wp2_with (go_at_call 24; (with_reducible refine Calls.mono (HN0.out _) ?_); rintro e w4 ⟨rfl, hb4⟩; have hP4 := PW.below ((hP3.set 4 (.string ⟨TX.toArray⟩) (a' := ⟨2, nm, 0, 0, TX, 0, 0, 0, 0⟩) rfl).alloc _) hb4; have hA4 := HasArr.below (HasArr.new _ w3.heap.size (by simp only [World.size_setCell])) hb4 (by simp only [World.size_setCell, World.size_alloc]; omega); have hlt4 := hP4.lt; have hI4 : ¬ w.heap.size + 1 + 1 = w3.heap.size := (by omega); have hJ4 : ¬ g2 = w3.heap.size := (by omega); have hK4 := hA4.lt; have t4_3 := keep2 hb4 hg3 hne2 z3; have hG4 : g2 < w4.heap.size := (by have hz := hb4.size; simp only [World.size_setCell, World.size_alloc] at hz; omega); have na4 := hA4.c0; have nb4 := hA4.c1; have nc4 := hA4.c2; have fa4 := hA4.free 0; have fb4 := hA4.free 1; have fc4 := hA4.free 2; clear a0 a1 a2 a3 a4 a5 a6 a7 a8 b0 b1 b2 b3 b4 b5 b6 b7 b8; obtain ⟨a0, a1, a2, a3, a4, a5, a6, a7, a8⟩ := acts9 hP4.ha; obtain ⟨b0, b1, b2, b3, b4, b5, b6, b7, b8⟩ := free9 hP4.ha)
  rw [rounds_succ]
  go_wp2_with (go_at_call 24; (with_reducible refine Calls.mono (HN1.out _) ?_); rintro e w5 ⟨rfl, hb5⟩; have hP5 := PW.below (hP4.other ⟨w3.heap.size, 0, none⟩ (by show _ < _; omega) (.int .i64 v0)) hb5; have hA5 := HasArr.below (hA4.s0 v0) hb5 (by simp only [World.size_setCell, World.size_alloc]; omega); have hlt5 := hP5.lt; have hI5 : ¬ w.heap.size + 1 + 1 = w3.heap.size := (by omega); have hJ5 : ¬ g2 = w3.heap.size := (by omega); have hK5 := hA5.lt; have hG5 : g2 < w5.heap.size := (by have hz := hb5.size; simp only [World.size_setCell, World.size_alloc] at hz; omega); have na5 := hA5.c0; have nb5 := hA5.c1; have nc5 := hA5.c2; have fa5 := hA5.free 0; have fb5 := hA5.free 1; have fc5 := hA5.free 2; clear a0 a1 a2 a3 a4 a5 a6 a7 a8 b0 b1 b2 b3 b4 b5 b6 b7 b8; obtain ⟨a0, a1, a2, a3, a4, a5, a6, a7, a8⟩ := acts9 hP5.ha; obtain ⟨b0, b1, b2, b3, b4, b5, b6, b7, b8⟩ := free9 hP5.ha)
  rw [rounds_succ]
  go_wp2_with fail
  rotate_left
  · exact (hP1.set 0 (.int .i64 2) (a' := ⟨2, [], 0, 0, [], 0, 0, 0, 0⟩) rfl).alloc _
  · exact pw_start w
  go_region
  all_goals
    go_wp2_with (go_at_call 13; (with_reducible refine Calls.mono (HLN.out _) ?_); rintro e w9 ⟨rfl, hb9⟩; have hP9 := PW.below ((((hP5.other ⟨w3.heap.size, 1, none⟩ (by show _ < _; omega) (.int .i64 v1)).set 2 (.int .i64 v0) (a' := ⟨2, nm, v0, 0, TX, 0, 0, 0, 0⟩) rfl).set 3 (.int .i64 v1) (a' := ⟨2, nm, v0, v1, TX, 0, 0, 0, 0⟩) rfl).drew) hb9; have hlt9 := hP9.lt; clear a0 a1 a2 a3 a4 a5 a6 a7 a8 b0 b1 b2 b3 b4 b5 b6 b7 b8; obtain ⟨c0, c1, c2, c3, c4, c5, c6, c7, c8⟩ := acts9 hP9.hr; obtain ⟨d0, d1, d2, d3, d4, d5, d6, d7, d8⟩ := free9 hP9.hr; obtain ⟨a0, a1, a2, a3, a4, a5, a6, a7, a8⟩ := acts9 hP9.ha; obtain ⟨n0, n1, n2, n3, n4, n5, n6, n7, n8⟩ := acts9 hP9.hn)
    refine rparse_ret (hP9.hr.all ⟨0, [], 0, 0, [], 0, 0, 0, 0⟩) rfl rfl ⟨?_, below_all hP9.hb ⟨0, [], 0, 0, [], 0, 0, 0, 0⟩⟩
    rfl
set_option maxRecDepth 100000 in
set_option maxHeartbeats 8000000 in
theorem ref_parse_2nz (s : Bs) (hs : s.length ≤ 100000) (hw : cutWord s = wordOf 2) (x0 nm f0 o0 tx : Bs) (hsp : splitN 5 s = [x0, nm, f0, o0, tx]) (h_qt : uqOk tx = true) (h_q0 : nok f0 = true) (h_q1 : nok o0 = true) (hk : lineErr ⟨2, nm, (nv f0), (nv o0), (uq tx), 0, 0, 0, 0⟩ ≠ 0) (w : World) :
    Calls Tryd.prog 10 #[.string ⟨s.toArray⟩] w fun e w' => e = refAns (none) ∧ Below w.heap.size w w' := by
  have HH := Lib.hid (fun wx hP => hd_call w s hs ⟨0, [], 0, 0, [], 0, 0, 0, 0⟩ wx hP)
  rw [hw, show wordOf 2 = [101, 100, 105, 116] from rfl] at HH
  have HW := Lib.hid (fun wx hP => ws_call w s hs 5 (by omega) (by omega) 5 rfl [x0, nm, f0, o0, tx] hsp 5 rfl ⟨2, [], 0, 0, [], 0, 0, 0, 0⟩ wx hP)
  have hnm : nm.length ≤ 100000 := mem_len hsp (by simp) hs
  have HU0 : Hid (∃ (TX : Bs), TX = uq tx ∧ ∀ wx, Calls Tryd.prog 23 #[.string ⟨tx.toArray⟩] wx fun e w' => e = .returned (.tuple #[.string ⟨TX.toArray⟩, .bool true]) ∧ Below wx.heap.size wx w') := ⟨_, rfl, fun wx => by have := refunq_any tx (by have := mem_len hsp (x := tx) (by simp) hs; omega) wx; rw [show (unquote tx).isSome = true from h_qt] at this; exact this⟩
  obtain ⟨TX, htx, hun⟩ := HU0.out
  have HTX := Lib.hid htx
  have HUN := Lib.hid hun
  have htl : (uq tx).length ≤ 100000 := Nat.le_trans (uq_len tx) (mem_len hsp (by simp) hs)
  have HM0 : Hid (∃ (v : Int), v = nv f0 ∧ ∀ wx, Calls Tryd.prog 24 #[.string ⟨f0.toArray⟩] wx fun e w' => e = .returned (.tuple #[.int .i64 v, .bool true]) ∧ Below wx.heap.size wx w') := ⟨_, rfl, fun wx => by have := refnumber_any f0 wx; rw [h_q0] at this; exact this⟩
  obtain ⟨v0, hv0, hn0⟩ := HM0.out
  have HV0 := Lib.hid hv0
  have HN0 := Lib.hid hn0
  have HM1 : Hid (∃ (v : Int), v = nv o0 ∧ ∀ wx, Calls Tryd.prog 24 #[.string ⟨o0.toArray⟩] wx fun e w' => e = .returned (.tuple #[.int .i64 v, .bool true]) ∧ Below wx.heap.size wx w') := ⟨_, rfl, fun wx => by have := refnumber_any o0 wx; rw [h_q1] at this; exact this⟩
  obtain ⟨v1, hv1, hn1⟩ := HM1.out
  have HV1 := Lib.hid hv1
  have HN1 := Lib.hid hn1
  have HL0 : Hid (∃ (k : Int) (ln : Bs), (k != 0) = true ∧ ∀ wx, Calls Tryd.prog 13 #[.agg #[.int .i64 2, .string ⟨(nm : Bs).toArray⟩, .int .i64 v0, .int .i64 v1, .string ⟨(TX : Bs).toArray⟩, .int .i64 0, .int .i64 0, .int .i64 0, .int .i64 0]] wx fun e w' => e = .returned (.tuple #[.string ⟨ln.toArray⟩, .int .i64 k]) ∧ Below wx.heap.size wx w') := by
    refine Lib.hid ?_
    rw [HTX.out, HV0.out, HV1.out]
    have hl := fun wx => ref_line_any ⟨2, nm, (nv f0), (nv o0), (uq tx), 0, 0, 0, 0⟩ ⟨(nv_bounds _), (nv_bounds _), (by simp), (by simp), (by simp), (by simp), hnm, htl⟩ wx
    exact ⟨_, _, by rw [bne_iff_ne]; omega, hl⟩
  obtain ⟨k, ln, hkz, hln⟩ := HL0.out
  have HLN := Lib.hid hln
  clear hw HL0 hln hsp hk hnm htl htx hun HU0 h_qt h_q0 h_q1 hv0 hn0 HM0 hv1 hn1 HM1
  go_enter Tryd.func10, Tryd.ntmps10
  go_wp2_with (first | (go_at_call 22; (with_reducible refine Calls.mono (HH.out _ ?_) ?_); rotate_right; rintro e w1 ⟨g1, cap1, L1, rfl, hL1, hc1, hg1, hg1', hP1⟩; have hne1 : ¬ g1 = w.heap.size + 1 + 1 := (by omega); have hlt1 := hP1.lt; obtain ⟨a0, a1, a2, a3, a4, a5, a6, a7, a8⟩ := acts9 hP1.ha; obtain ⟨b0, b1, b2, b3, b4, b5, b6, b7, b8⟩ := free9 hP1.ha) | (go_at_call 22; (with_reducible refine Calls.mono (HW.out _ ?_) ?_); rotate_right; rintro e w2 ⟨g2, cap2, rfl, hc2, hg2, hg2', hP2⟩; have hne2 : ¬ g2 = w.heap.size + 1 + 1 := (by omega); have hlt2 := hP2.lt; clear a0 a1 a2 a3 a4 a5 a6 a7 a8 b0 b1 b2 b3 b4 b5 b6 b7 b8; have y0 := hc2 0 _ rfl; have y1 := hc2 1 _ rfl; have y2 := hc2 2 _ rfl; have y3 := hc2 3 _ rfl; have y4 := hc2 4 _ rfl; clear hc2; obtain ⟨a0, a1, a2, a3, a4, a5, a6, a7, a8⟩ := acts9 hP2.ha; obtain ⟨b0, b1, b2, b3, b4, b5, b6, b7, b8⟩ := free9 hP2.ha) | (go_at_call 23; (with_reducible refine Calls.mono (HUN.out _) ?_); rintro e w3 ⟨rfl, hb3⟩; have hP3 := PW.below (hP2.set 1 (.string ⟨nm.toArray⟩) (a' := ⟨2, nm, 0, 0, [], 0, 0, 0, 0⟩) rfl) hb3; have hlt3 := hP3.lt; have hg3 : g2 < w3.heap.size := (by have hz3 := hb3.size; simp only [World.size_setCell] at hz3; omega); clear a0 a1 a2 a3 a4 a5 a6 a7 a8 b0 b1 b2 b3 b4 b5 b6 b7 b8; have z0 := keep1 hb3 hg2 hne2 y0; have z1 := keep1 hb3 hg2 hne2 y1; have z2 := keep1 hb3 hg2 hne2 y2; have z3 := keep1 hb3 hg2 hne2 y3; have z4 := keep1 hb3 hg2 hne2 y4; obtain ⟨a0, a1, a2, a3, a4, a5, a6, a7, a8⟩ := acts9 hP3.ha; obtain ⟨b0, b1, b2, b3, b4, b5, b6, b7, b8⟩ := free9 hP3.ha))
  refine wp_loop_rounds 3 ?_
  rw [rounds_succ]
  go_wp2_with (go_at_call 24; (with_reducible refine Calls.mono (HN0.out _) ?_); rintro e w4 ⟨rfl, hb4⟩; have hP4 := PW.below ((hP3.set 4 (.string ⟨TX.toArray⟩) (a' := ⟨2, nm, 0, 0, TX, 0, 0, 0, 0⟩) rfl).alloc _) hb4; have hA4 := HasArr.below (HasArr.new _ w3.heap.size (by simp only [World.size_setCell])) hb4 (by simp only [World.size_setCell, World.size_alloc]; omega); have hlt4 := hP4.lt; have hI4 : ¬ w.heap.size + 1 + 1 = w3.heap.size := (by omega); have hJ4 : ¬ g2 = w3.heap.size := (by omega); have hK4 := hA4.lt; have t4_3 := keep2 hb4 hg3 hne2 z3; have hG4 : g2 < w4.heap.size := (by have hz := hb4.size; simp only [World.size_setCell, World.size_alloc] at hz; omega); have na4 := hA4.c0; have nb4 := hA4.c1; have nc4 := hA4.c2; have fa4 := hA4.free 0; have fb4 := hA4.free 1; have fc4 := hA4.free 2; clear a0 a1 a2 a3 a4 a5 a6 a7 a8 b0 b1 b2 b3 b4 b5 b6 b7 b8; obtain ⟨a0, a1, a2, a3, a4, a5, a6, a7, a8⟩ := acts9 hP4.ha; obtain ⟨b0, b1, b2, b3, b4, b5, b6, b7, b8⟩ := free9 hP4.ha)
  rw [rounds_succ]
  go_wp2_with (go_at_call 24; (with_reducible refine Calls.mono (HN1.out _) ?_); rintro e w5 ⟨rfl, hb5⟩; have hP5 := PW.below (hP4.other ⟨w3.heap.size, 0, none⟩ (by show _ < _; omega) (.int .i64 v0)) hb5; have hA5 := HasArr.below (hA4.s0 v0) hb5 (by simp only [World.size_setCell, World.size_alloc]; omega); have hlt5 := hP5.lt; have hI5 : ¬ w.heap.size + 1 + 1 = w3.heap.size := (by omega); have hJ5 : ¬ g2 = w3.heap.size := (by omega); have hK5 := hA5.lt; have hG5 : g2 < w5.heap.size := (by have hz := hb5.size; simp only [World.size_setCell, World.size_alloc] at hz; omega); have na5 := hA5.c0; have nb5 := hA5.c1; have nc5 := hA5.c2; have fa5 := hA5.free 0; have fb5 := hA5.free 1; have fc5 := hA5.free 2; clear a0 a1 a2 a3 a4 a5 a6 a7 a8 b0 b1 b2 b3 b4 b5 b6 b7 b8; obtain ⟨a0, a1, a2, a3, a4, a5, a6, a7, a8⟩ := acts9 hP5.ha; obtain ⟨b0, b1, b2, b3, b4, b5, b6, b7, b8⟩ := free9 hP5.ha)
  rw [rounds_succ]
  go_wp2_with fail
  rotate_left
  · exact (hP1.set 0 (.int .i64 2) (a' := ⟨2, [], 0, 0, [], 0, 0, 0, 0⟩) rfl).alloc _
  · exact pw_start w
  go_region
  all_goals
    go_wp2_with (go_at_call 13; (with_reducible refine Calls.mono (HLN.out _) ?_); rintro e w9 ⟨rfl, hb9⟩; have hP9 := PW.below ((((hP5.other ⟨w3.heap.size, 1, none⟩ (by show _ < _; omega) (.int .i64 v1)).set 2 (.int .i64 v0) (a' := ⟨2, nm, v0, 0, TX, 0, 0, 0, 0⟩) rfl).set 3 (.int .i64 v1) (a' := ⟨2, nm, v0, v1, TX, 0, 0, 0, 0⟩) rfl).drew) hb9; have hlt9 := hP9.lt; clear a0 a1 a2 a3 a4 a5 a6 a7 a8 b0 b1 b2 b3 b4 b5 b6 b7 b8; obtain ⟨c0, c1, c2, c3, c4, c5, c6, c7, c8⟩ := acts9 hP9.hr; obtain ⟨d0, d1, d2, d3, d4, d5, d6, d7, d8⟩ := free9 hP9.hr; obtain ⟨a0, a1, a2, a3, a4, a5, a6, a7, a8⟩ := acts9 hP9.ha; obtain ⟨n0, n1, n2, n3, n4, n5, n6, n7, n8⟩ := acts9 hP9.hn)
    refine rparse_ret (hP9.hr.all ⟨0, [], 0, 0, [], 0, 0, 0, 0⟩) rfl rfl ⟨?_, below_all hP9.hb ⟨0, [], 0, 0, [], 0, 0, 0, 0⟩⟩
    rfl
set_option maxRecDepth 100000 in
set_option maxHeartbeats 8000000 in
theorem ref_parse_2z (s : Bs) (hs : s.length ≤ 100000) (hw : cutWord s = wordOf 2) (x0 nm f0 o0 tx : Bs) (hsp : splitN 5 s = [x0, nm, f0, o0, tx]) (h_qt : uqOk tx = true) (h_q0 : nok f0 = true) (h_q1 : nok o0 = true) (hk : lineErr ⟨2, nm, (nv f0), (nv o0), (uq tx), 0, 0, 0, 0⟩ = 0) (w : World) :
    Calls Tryd.prog 10 #[.string ⟨s.toArray⟩] w fun e w' => e = refAns (some ⟨2, nm, (nv f0), (nv o0), (uq tx), 0, 0, 0, 0⟩) ∧ Below w.heap.size w w' := by
  have HH := Lib.hid (fun wx hP => hd_call w s hs ⟨0, [], 0, 0, [], 0, 0, 0, 0⟩ wx hP)
  rw [hw, show wordOf 2 = [101, 100, 105, 116] from rfl] at HH
  have HW := Lib.hid (fun wx hP => ws_call w s hs 5 (by omega) (by omega) 5 rfl [x0, nm, f0, o0, tx] hsp 5 rfl ⟨2, [], 0, 0, [], 0, 0, 0, 0⟩ wx hP)
  have hnm : nm.length ≤ 100000 := mem_len hsp (by simp) hs
  have HU0 : Hid (∃ (TX : Bs), TX = uq tx ∧ ∀ wx, Calls Tryd.prog 23 #[.string ⟨tx.toArray⟩] wx fun e w' => e = .returned (.tuple #[.string ⟨TX.toArray⟩, .bool true]) ∧ Below wx.heap.size wx w') := ⟨_, rfl, fun wx => by have := refunq_any tx (by have := mem_len hsp (x := tx) (by simp) hs; omega) wx; rw [show (unquote tx).isSome = true from h_qt] at this; exact this⟩
  obtain ⟨TX, htx, hun⟩ := HU0.out
  have HTX := Lib.hid htx
  have HUN := Lib.hid hun
  have htl : (uq tx).length ≤ 100000 := Nat.le_trans (uq_len tx) (mem_len hsp (by simp) hs)
  have HM0 : Hid (∃ (v : Int), v = nv f0 ∧ ∀ wx, Calls Tryd.prog 24 #[.string ⟨f0.toArray⟩] wx fun e w' => e = .returned (.tuple #[.int .i64 v, .bool true]) ∧ Below wx.heap.size wx w') := ⟨_, rfl, fun wx => by have := refnumber_any f0 wx; rw [h_q0] at this; exact this⟩
  obtain ⟨v0, hv0, hn0⟩ := HM0.out
  have HV0 := Lib.hid hv0
  have HN0 := Lib.hid hn0
  have HM1 : Hid (∃ (v : Int), v = nv o0 ∧ ∀ wx, Calls Tryd.prog 24 #[.string ⟨o0.toArray⟩] wx fun e w' => e = .returned (.tuple #[.int .i64 v, .bool true]) ∧ Below wx.heap.size wx w') := ⟨_, rfl, fun wx => by have := refnumber_any o0 wx; rw [h_q1] at this; exact this⟩
  obtain ⟨v1, hv1, hn1⟩ := HM1.out
  have HV1 := Lib.hid hv1
  have HN1 := Lib.hid hn1
  have HL0 : Hid (∃ (ln : Bs), ∀ wx, Calls Tryd.prog 13 #[.agg #[.int .i64 2, .string ⟨(nm : Bs).toArray⟩, .int .i64 v0, .int .i64 v1, .string ⟨(TX : Bs).toArray⟩, .int .i64 0, .int .i64 0, .int .i64 0, .int .i64 0]] wx fun e w' => e = .returned (.tuple #[.string ⟨ln.toArray⟩, .int .i64 0]) ∧ Below wx.heap.size wx w') := by
    refine Lib.hid ?_
    rw [HTX.out, HV0.out, HV1.out]
    have hl := fun wx => ref_line_any ⟨2, nm, (nv f0), (nv o0), (uq tx), 0, 0, 0, 0⟩ ⟨(nv_bounds _), (nv_bounds _), (by simp), (by simp), (by simp), (by simp), hnm, htl⟩ wx
    rw [hk] at hl; exact ⟨_, hl⟩
  obtain ⟨ln, hln⟩ := HL0.out
  have HLN := Lib.hid hln
  clear hw HL0 hln hsp hk hnm htl htx hun HU0 h_qt h_q0 h_q1 hv0 hn0 HM0 hv1 hn1 HM1
  go_enter Tryd.func10, Tryd.ntmps10
  go_wp2_with (first | (go_at_call 22; (with_reducible refine Calls.mono (HH.out _ ?_) ?_); rotate_right; rintro e w1 ⟨g1, cap1, L1, rfl, hL1, hc1, hg1, hg1', hP1⟩; have hne1 : ¬ g1 = w.heap.size + 1 + 1 := (by omega); have hlt1 := hP1.lt; obtain ⟨a0, a1, a2, a3, a4, a5, a6, a7, a8⟩ := acts9 hP1.ha; obtain ⟨b0, b1, b2, b3, b4, b5, b6, b7, b8⟩ := free9 hP1.ha) | (go_at_call 22; (with_reducible refine Calls.mono (HW.out _ ?_) ?_); rotate_right; rintro e w2 ⟨g2, cap2, rfl, hc2, hg2, hg2', hP2⟩; have hne2 : ¬ g2 = w.heap.size + 1 + 1 := (by omega); have hlt2 := hP2.lt; clear a0 a1 a2 a3 a4 a5 a6 a7 a8 b0 b1 b2 b3 b4 b5 b6 b7 b8; have y0 := hc2 0 _ rfl; have y1 := hc2 1 _ rfl; have y2 := hc2 2 _ rfl; have y3 := hc2 3 _ rfl; have y4 := hc2 4 _ rfl; clear hc2; obtain ⟨a0, a1, a2, a3, a4, a5, a6, a7, a8⟩ := acts9 hP2.ha; obtain ⟨b0, b1, b2, b3, b4, b5, b6, b7, b8⟩ := free9 hP2.ha) | (go_at_call 23; (with_reducible refine Calls.mono (HUN.out _) ?_); rintro e w3 ⟨rfl, hb3⟩; have hP3 := PW.below (hP2.set 1 (.string ⟨nm.toArray⟩) (a' := ⟨2, nm, 0, 0, [], 0, 0, 0, 0⟩) rfl) hb3; have hlt3 := hP3.lt; have hg3 : g2 < w3.heap.size := (by have hz3 := hb3.size; simp only [World.size_setCell] at hz3; omega); clear a0 a1 a2 a3 a4 a5 a6 a7 a8 b0 b1 b2 b3 b4 b5 b6 b7 b8; have z0 := keep1 hb3 hg2 hne2 y0; have z1 := keep1 hb3 hg2 hne2 y1; have z2 := keep1 hb3 hg2 hne2 y2; have z3 := keep1 hb3 hg2 hne2 y3; have z4 := keep1 hb3 hg2 hne2 y4; obtain ⟨a0, a1, a2, a3, a4, a5, a6, a7, a8⟩ := acts9 hP3.ha; obtain ⟨b0, b1, b2, b3, b4, b5, b6, b7, b8⟩ := free9 hP3.ha))
  refine wp_loop_rounds 3 ?_
  rw [rounds_succ]
  go_wp2_with (go_at_call 24; (with_reducible refine Calls.mono (HN0.out _) ?_); rintro e w4 ⟨rfl, hb4⟩; have hP4 := PW.below ((hP3.set 4 (.string ⟨TX.toArray⟩) (a' := ⟨2, nm, 0, 0, TX, 0, 0, 0, 0⟩) rfl).alloc _) hb4; have hA4 := HasArr.below (HasArr.new _ w3.heap.size (by simp only [World.size_setCell])) hb4 (by simp only [World.size_setCell, World.size_alloc]; omega); have hlt4 := hP4.lt; have hI4 : ¬ w.heap.size + 1 + 1 = w3.heap.size := (by omega); have hJ4 : ¬ g2 = w3.heap.size := (by omega); have hK4 := hA4.lt; have t4_3 := keep2 hb4 hg3 hne2 z3; have hG4 : g2 < w4.heap.size := (by have hz := hb4.size; simp only [World.size_setCell, World.size_alloc] at hz; omega); have na4 := hA4.c0; have nb4 := hA4.c1; have nc4 := hA4.c2; have fa4 := hA4.free 0; have fb4 := hA4.free 1; have fc4 := hA4.free 2; clear a0 a1 a2 a3 a4 a5 a6 a7 a8 b0 b1 b2 b3 b4 b5 b6 b7 b8; obtain ⟨a0, a1, a2, a3, a4, a5, a6, a7, a8⟩ := acts9 hP4.ha; obtain ⟨b0, b1, b2, b3, b4, b5, b6, b7, b8⟩ := free9 hP4.ha)
  rw [rounds_succ]
  go_wp2_with (go_at_call 24; (with_reducible refine Calls.mono (HN1.out _) ?_); rintro e w5 ⟨rfl, hb5⟩; have hP5 := PW.below (hP4.other ⟨w3.heap.size, 0, none⟩ (by show _ < _; omega) (.int .i64 v0)) hb5; have hA5 := HasArr.below (hA4.s0 v0) hb5 (by simp only [World.size_setCell, World.size_alloc]; omega); have hlt5 := hP5.lt; have hI5 : ¬ w.heap.size + 1 + 1 = w3.heap.size := (by omega); have hJ5 : ¬ g2 = w3.heap.size := (by omega); have hK5 := hA5.lt; have hG5 : g2 < w5.heap.size := (by have hz := hb5.size; simp only [World.size_setCell, World.size_alloc] at hz; omega); have na5 := hA5.c0; have nb5 := hA5.c1; have nc5 := hA5.c2; have fa5 := hA5.free 0; have fb5 := hA5.free 1; have fc5 := hA5.free 2; clear a0 a1 a2 a3 a4 a5 a6 a7 a8 b0 b1 b2 b3 b4 b5 b6 b7 b8; obtain ⟨a0, a1, a2, a3, a4, a5, a6, a7, a8⟩ := acts9 hP5.ha; obtain ⟨b0, b1, b2, b3, b4, b5, b6, b7, b8⟩ := free9 hP5.ha)
  rw [rounds_succ]
  go_wp2_with fail
  rotate_left
  · exact (hP1.set 0 (.int .i64 2) (a' := ⟨2, [], 0, 0, [], 0, 0, 0, 0⟩) rfl).alloc _
  · exact pw_start w
  go_region
  all_goals
    go_wp2_with (go_at_call 13; (with_reducible refine Calls.mono (HLN.out _) ?_); rintro e w9 ⟨rfl, hb9⟩; have hP9 := PW.below ((((hP5.other ⟨w3.heap.size, 1, none⟩ (by show _ < _; omega) (.int .i64 v1)).set 2 (.int .i64 v0) (a' := ⟨2, nm, v0, 0, TX, 0, 0, 0, 0⟩) rfl).set 3 (.int .i64 v1) (a' := ⟨2, nm, v0, v1, TX, 0, 0, 0, 0⟩) rfl).drew) hb9; have hlt9 := hP9.lt; clear a0 a1 a2 a3 a4 a5 a6 a7 a8 b0 b1 b2 b3 b4 b5 b6 b7 b8; obtain ⟨c0, c1, c2, c3, c4, c5, c6, c7, c8⟩ := acts9 hP9.hr; obtain ⟨d0, d1, d2, d3, d4, d5, d6, d7, d8⟩ := free9 hP9.hr; obtain ⟨a0, a1, a2, a3, a4, a5, a6, a7, a8⟩ := acts9 hP9.ha; obtain ⟨n0, n1, n2, n3, n4, n5, n6, n7, n8⟩ := acts9 hP9.hn)
    refine rparse_ret (hP9.hr.all ⟨2, nm, v0, v1, TX, 0, 0, 0, 0⟩) rfl rfl ⟨?_, below_all hP9.hb ⟨2, nm, v0, v1, TX, 0, 0, 0, 0⟩⟩
    rw [← HTX.out, ← HV0.out, ← HV1.out]; rfl
set_option maxRecDepth 100000 in
set_option maxHeartbeats 8000000 in
theorem ref_parse_2s (s : Bs) (hs : s.length ≤ 100000) (hw : cutWord s = wordOf 2) (hsp : (splitN 5 s).length ≠ 5) (w : World) :
    Calls Tryd.prog 10 #[.string ⟨s.toArray⟩] w fun e w' => e = refAns none ∧ Below w.heap.size w w' := by
  have HH := Lib.hid (fun wx hP => hd_call w s hs ⟨0, [], 0, 0, [], 0, 0, 0, 0⟩ wx hP)
  rw [hw, show wordOf 2 = [101, 100, 105, 116] from rfl] at HH
  have hLx : Hid (∃ L2, L2 = (splitN 5 s).length) := ⟨_, rfl⟩
  obtain ⟨L2, hL2⟩ := hLx.out
  have hLn : ((L2 : Int) == 5) = false := by rw [beq_eq_false_iff_ne, hL2]; omega
  have HW := Lib.hid (fun wx hP => ws_call w s hs 5 (by omega) (by omega) 5 rfl (splitN 5 s) rfl L2 hL2 ⟨2, [], 0, 0, [], 0, 0, 0, 0⟩ wx hP)
  clear hw hsp hL2 hLx
  go_enter Tryd.func10, Tryd.ntmps10
  go_wp2_with (first | (go_at_call 22; (with_reducible refine Calls.mono (HH.out _ ?_) ?_); rotate_right; rintro e w1 ⟨g1, cap1, L1, rfl, hL1, hc1, hg1, hg1', hP1⟩; have hne1 : ¬ g1 = w.heap.size + 1 + 1 := (by omega); have hlt1 := hP1.lt; obtain ⟨a0, a1, a2, a3, a4, a5, a6, a7, a8⟩ := acts9 hP1.ha; obtain ⟨b0, b1, b2, b3, b4, b5, b6, b7, b8⟩ := free9 hP1.ha) | (go_at_call 22; (with_reducible refine Calls.mono (HW.out _ ?_) ?_); rotate_right; rintro e w2 ⟨g2, cap2, rfl, hc2, hg2, hg2', hP2⟩; clear hc2; have hlt2 := hP2.lt; clear a0 a1 a2 a3 a4 a5 a6 a7 a8 b0 b1 b2 b3 b4 b5 b6 b7 b8; obtain ⟨c0, c1, c2, c3, c4, c5, c6, c7, c8⟩ := acts9 hP2.hr; obtain ⟨d0, d1, d2, d3, d4, d5, d6, d7, d8⟩ := free9 hP2.hr; obtain ⟨n0, n1, n2, n3, n4, n5, n6, n7, n8⟩ := acts9 hP2.hn))
  · refine rparse_ret (hP2.hr.all ⟨0, [], 0, 0, [], 0, 0, 0, 0⟩) rfl rfl ⟨rfl, below_all hP2.hb ⟨0, [], 0, 0, [], 0, 0, 0, 0⟩⟩
  · exact (hP1.set 0 (.int .i64 2) (a' := ⟨2, [], 0, 0, [], 0, 0, 0, 0⟩) rfl).alloc _
  · exact pw_start w
end Go.Proofs.YtelehacakbaobaaDoor
