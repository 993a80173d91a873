/- pangramlaw28.TapeParses answers true at any text. -/
import Derived.Test.YtelehacakbaobaaDoorMLaw
import Derived.Test.YtelehacakbaobaaDoorRefParse
namespace Go.Proofs.YtelehacakbaobaaDoor
open Go.RowKit
set_option linter.unusedVariables false
set_option linter.unusedSimpArgs false

set_option maxRecDepth 100000 in
set_option maxHeartbeats 2000000 in
theorem parses_great (s : Bs) (hs : 500 < s.length) (w : World) (hG : GW w) :
    Calls Tryd.prog 3 #[.string ⟨s.toArray⟩] w fun e w' => e = .returned (.bool true) ∧ Below w.heap.size w w' := by
  have hs' : 500 < (s.length : Int) := by omega
  have HA := Lib.hid (awake_any w hG)
  clear hG hs
  go_enter Tryd.func3, Tryd.ntmps3
  go_wp2_with (go_at_call 8; refine HA.out.mono ?_; rintro e w1 ⟨rfl, hb1⟩)
  go_ret
  exact ⟨rfl, hb1⟩
theorem ne_self (kind frm til n l1 l2 l3 : Int) (name text : Bs) (wx : World) : Sem.run Tryd.prog (binOp .neq 26 (.agg #[.int .i64 kind, .string ⟨name.toArray⟩, .int .i64 frm, .int .i64 til, .string ⟨text.toArray⟩, .int .i64 n, .int .i64 l1, .int .i64 l2, .int .i64 l3]) (.agg #[.int .i64 kind, .string ⟨name.toArray⟩, .int .i64 frm, .int .i64 til, .string ⟨text.toArray⟩, .int .i64 n, .int .i64 l1, .int .i64 l2, .int .i64 l3])) wx = .ok (.bool false) wx := by
  have := neq_act ⟨kind, name, frm, til, text, n, l1, l2, l3⟩ ⟨kind, name, frm, til, text, n, l1, l2, l3⟩ wx
  rw [show actNe ⟨kind, name, frm, til, text, n, l1, l2, l3⟩ ⟨kind, name, frm, til, text, n, l1, l2, l3⟩ = false by simp [actNe]] at this
  exact this
set_option maxRecDepth 100000 in
set_option maxHeartbeats 4000000 in
theorem parses_none (s : Bs) (hs : s.length ≤ 500) (hp : parse s = none) (w : World) (hG : GW w) :
    Calls Tryd.prog 3 #[.string ⟨s.toArray⟩] w fun e w' => e = .returned (.bool true) ∧ Below w.heap.size w w' := by
  have hs' : (s.length : Int) ≤ 500 := by omega
  have HP : Hid (Calls Tryd.prog 9 #[.string ⟨s.toArray⟩] w fun e w' => e = .returned (.tuple #[.agg #[.int .i64 0, .string ⟨#[]⟩, .int .i64 0, .int .i64 0, .string ⟨#[]⟩, .int .i64 0, .int .i64 0, .int .i64 0, .int .i64 0], .int .i64 3]) ∧ Below w.heap.size w w') := by
    have h1 := parse_any ⟨s.toArray⟩ (by show s.toArray.size ≤ _; simp; omega) w hG
    rw [show parse (⟨s.toArray⟩ : ByteArray).data.toList = none by simpa using hp] at h1
    exact h1
  have HR : Hid (∀ wx, Calls Tryd.prog 10 #[.string ⟨s.toArray⟩] wx fun e w' => e = .returned (.tuple #[.agg #[.int .i64 0, .string ⟨#[]⟩, .int .i64 0, .int .i64 0, .string ⟨#[]⟩, .int .i64 0, .int .i64 0, .int .i64 0, .int .i64 0], .bool false]) ∧ Below wx.heap.size wx w') := fun wx => by
    have h1 := ref_parse_any s (by omega) wx
    rw [hp] at h1
    exact h1
  have HE := fun wx => ne_self 0 0 0 0 0 0 0 [] [] wx
  have HG := Lib.hid hG
  clear hG hs hp
  go_enter Tryd.func3, Tryd.ntmps3
  go_wp2_with (first | (go_at_call 9; (with_reducible refine Calls.mono HP.out ?_); rintro e w1 ⟨rfl, hb1⟩) | (go_at_call 10; (with_reducible refine Calls.mono (HR.out _) ?_); rintro e w2 ⟨rfl, hb2⟩; have ha2 : HasAct w2 w1.heap.size ⟨0, [], 0, 0, [], 0, 0, 0, 0⟩ := (HasAct.below (heap_alloc_new w1 _) hb2 (by simp only [World.size_alloc]; omega)); obtain ⟨a0, a1, a2, a3, a4, a5, a6, a7, a8⟩ := acts9 ha2; have hl2 := ha2.lt) | (go_at_call 8; refine (awake_any _ ?_).mono ?_; rotate_right; rintro e w3 ⟨rfl, hb3⟩))
  · go_ret
    have h2 := Below.then (hb1.alloc hb1.size _) hb2
    exact ⟨rfl, Below.then (h2.alloc h2.size _) hb3⟩
  · have h2 := Below.then (hb1.alloc hb1.size _) hb2
    exact HG.out.below (h2.alloc h2.size _)
set_option maxRecDepth 100000 in
set_option maxHeartbeats 4000000 in
theorem parses_some (s : Bs) (hs : s.length ≤ 500) (a : TAct) (hp : parse s = some a) (w : World) (hG : GW w) :
    Calls Tryd.prog 3 #[.string ⟨s.toArray⟩] w fun e w' => e = .returned (.bool true) ∧ Below w.heap.size w w' := by
  have hs' : (s.length : Int) ≤ 500 := by omega
  obtain ⟨g1, g2, g3⟩ := parse_some s a (by omega) hp
  obtain ⟨kind, name, frm, til, text, n, l1, l2, l3⟩ := a
  have HP : Hid (Calls Tryd.prog 9 #[.string ⟨s.toArray⟩] w fun e w' => e = .returned (.tuple #[.agg #[.int .i64 kind, .string ⟨name.toArray⟩, .int .i64 frm, .int .i64 til, .string ⟨text.toArray⟩, .int .i64 n, .int .i64 l1, .int .i64 l2, .int .i64 l3], .int .i64 0]) ∧ Below w.heap.size w w') := by
    have h1 := parse_any ⟨s.toArray⟩ (by show s.toArray.size ≤ _; simp; omega) w hG
    rw [show parse (⟨s.toArray⟩ : ByteArray).data.toList = some ⟨kind, name, frm, til, text, n, l1, l2, l3⟩ by simpa using hp] at h1
    exact h1
  have HR : Hid (∀ wx, Calls Tryd.prog 10 #[.string ⟨s.toArray⟩] wx fun e w' => e = .returned (.tuple #[.agg #[.int .i64 kind, .string ⟨name.toArray⟩, .int .i64 frm, .int .i64 til, .string ⟨text.toArray⟩, .int .i64 n, .int .i64 l1, .int .i64 l2, .int .i64 l3], .bool true]) ∧ Below wx.heap.size wx w') := fun wx => by
    have h1 := ref_parse_any s (by omega) wx
    rw [hp] at h1
    exact h1
  have HL : Hid (∀ wx, GW wx → Calls Tryd.prog 11 #[.agg #[.int .i64 kind, .string ⟨name.toArray⟩, .int .i64 frm, .int .i64 til, .string ⟨text.toArray⟩, .int .i64 n, .int .i64 l1, .int .i64 l2, .int .i64 l3]] wx fun e w' => e = .returned (.tuple #[.string ⟨s.toArray⟩, .int .i64 0]) ∧ Below wx.heap.size wx w') := fun wx hg => by
    have h1 := line_any ⟨kind, name, frm, til, text, n, l1, l2, l3⟩ g3 wx hg
    rw [g1, g2] at h1
    exact h1
  have HE := fun wx => ne_self kind frm til n l1 l2 l3 name text wx
  have HG := Lib.hid hG
  clear hG hs hp g1 g2 g3
  go_enter Tryd.func3, Tryd.ntmps3
  go_wp2_with (first | (go_at_call 9; (with_reducible refine Calls.mono HP.out ?_); rintro e w1 ⟨rfl, hb1⟩) | (go_at_call 10; (with_reducible refine Calls.mono (HR.out _) ?_); rintro e w2 ⟨rfl, hb2⟩; have ha2 : HasAct w2 w1.heap.size ⟨kind, name, frm, til, text, n, l1, l2, l3⟩ := (HasAct.below (heap_alloc_new w1 _) hb2 (by simp only [World.size_alloc]; omega)); obtain ⟨a0, a1, a2, a3, a4, a5, a6, a7, a8⟩ := acts9 ha2; have hl2 := ha2.lt) | (go_at_call 11; (with_reducible refine Calls.mono (HL.out _ ?_) ?_); rotate_right; rintro e w3 ⟨rfl, hb3⟩) | (go_at_call 8; refine (awake_any _ ?_).mono ?_; rotate_right; rintro e w4 ⟨rfl, hb4⟩))
  · go_ret
    have h2 := Below.then (hb1.alloc hb1.size _) hb2
    have h3 := Below.then (h2.alloc h2.size _) hb3
    exact ⟨rfl, Below.then h3 hb4⟩
  · have h2 := Below.then (hb1.alloc hb1.size _) hb2
    have h3 := Below.then (h2.alloc h2.size _) hb3
    exact HG.out.below h3
  · have h2 := Below.then (hb1.alloc hb1.size _) hb2
    exact HG.out.below (h2.alloc h2.size _)
theorem parses_any (s : Bs) (w : World) (hG : GW w) :
    Calls Tryd.prog 3 #[.string ⟨s.toArray⟩] w fun e w' => e = .returned (.bool true) ∧ Below w.heap.size w w' := by
  rcases Nat.lt_or_ge 500 s.length with h | h
  · exact parses_great s h w hG
  · cases hp : parse s with
    | none => exact parses_none s h hp w hG
    | some a => exact parses_some s h a hp w hG
end Go.Proofs.YtelehacakbaobaaDoor
