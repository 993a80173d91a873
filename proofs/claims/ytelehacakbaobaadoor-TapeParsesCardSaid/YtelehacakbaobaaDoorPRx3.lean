/- Written by a program (the kit's printer) for this claim: functions of the translation as plain Lean functions, and that the calls come to them. -/
import Derived.Test.YtelehacakbaobaaDoorPRx0
import Derived.Test.YtelehacakbaobaaDoorPRx2
namespace Go.Proofs.YtelehacakbaobaaDoor.PR
open Go.RowKit Go.Proofs.YtelehacakbaobaaDoorW.PrintWords Go.Proofs.YtelehacakbaobaaDoorW.PrintLast Go.Proofs.YtelehacakbaobaaDoorW.PrintMore
attribute [local go_sem] max2_int min2_int max_two min_two max_three min_three max_four min_four   -- for this text's walks alone
set_option linter.unusedVariables false
set_option linter.unusedSimpArgs false

/-! ### pangramref28_Unquote: function 23 -/
mutual
def pangramref28_Unquote.j0 : Nat → ByteArray → Bool → Option (ByteArray × Bool)
  | 0, _, _ => none
  | k + 1, x0, x22 => if x22 = true then (some ((⟨#[]⟩ : ByteArray), false)) else (pangramref28_Unquote.l0 k x0 ([] : List Int) 1)
def pangramref28_Unquote.l0 : Nat → ByteArray → List Int → Int → Option (ByteArray × Bool)
  | 0, _, _, _ => none
  | k + 1, x0, x4, x5 => if (wrap64 (x5 + 1)) < (x0.size : Int) then (if 0 ≤ x5 then (if x5 < (x0.size : Int) then (if (bt x0 x5) = 92 then (if (wrap64 (x5 + 3)) ≥ (x0.size : Int) then (pangramref28_Unquote.j2 k x0 x4 x5 true) else (if 0 ≤ (wrap64 (x5 + 1)) then ((pangramref28_digit.f k (bt x0 (wrap64 (x5 + 1)))).bind fun t107 => (if t107 < 0 then (pangramref28_Unquote.j2 k x0 x4 x5 true) else (if 0 ≤ (wrap64 (x5 + 2)) then (if (wrap64 (x5 + 2)) < (x0.size : Int) then ((pangramref28_digit.f k (bt x0 (wrap64 (x5 + 2)))).bind fun t108 => (pangramref28_Unquote.j2 k x0 x4 x5 (decide (t108 < 0)))) else (none)) else (none)))) else (none))) else (if (bt x0 x5) < 32 then (some ((⟨#[]⟩ : ByteArray), false)) else (if (bt x0 x5) > 126 then (some ((⟨#[]⟩ : ByteArray), false)) else (if (bt x0 x5) = 34 then (some ((⟨#[]⟩ : ByteArray), false)) else (if x4.length < 140737488355328 then (pangramref28_Unquote.l0 k x0 (x4 ++ [bt x0 x5]) (wrap64 (x5 + 1))) else (none)))))) else (none)) else (none)) else (some (strOfNums x4, true))
def pangramref28_Unquote.j2 : Nat → ByteArray → List Int → Int → Bool → Option (ByteArray × Bool)
  | 0, _, _, _, _ => none
  | k + 1, x0, x4, x5, x55 => if x55 = true then (some ((⟨#[]⟩ : ByteArray), false)) else (if 0 ≤ (wrap64 (x5 + 1)) then (if (wrap64 (x5 + 1)) < (x0.size : Int) then ((pangramref28_digit.f k (bt x0 (wrap64 (x5 + 1)))).bind fun t109 => (if 0 ≤ (wrap64 (x5 + 2)) then (if (wrap64 (x5 + 2)) < (x0.size : Int) then ((pangramref28_digit.f k (bt x0 (wrap64 (x5 + 2)))).bind fun t110 => (if ((wrap64 ((wrap64 (16 * t109)) + t110)) % 256) ≥ 32 then (if ((wrap64 ((wrap64 (16 * t109)) + t110)) % 256) ≤ 126 then (if ((wrap64 ((wrap64 (16 * t109)) + t110)) % 256) = 34 then (if x4.length < 140737488355328 then (pangramref28_Unquote.l0 k x0 (x4 ++ [(wrap64 ((wrap64 (16 * t109)) + t110)) % 256]) (wrap64 ((wrap64 (x5 + 2)) + 1))) else (none)) else (if ((wrap64 ((wrap64 (16 * t109)) + t110)) % 256) = 92 then (if x4.length < 140737488355328 then (pangramref28_Unquote.l0 k x0 (x4 ++ [(wrap64 ((wrap64 (16 * t109)) + t110)) % 256]) (wrap64 ((wrap64 (x5 + 2)) + 1))) else (none)) else (some ((⟨#[]⟩ : ByteArray), false)))) else (if x4.length < 140737488355328 then (pangramref28_Unquote.l0 k x0 (x4 ++ [(wrap64 ((wrap64 (16 * t109)) + t110)) % 256]) (wrap64 ((wrap64 (x5 + 2)) + 1))) else (none))) else (if x4.length < 140737488355328 then (pangramref28_Unquote.l0 k x0 (x4 ++ [(wrap64 ((wrap64 (16 * t109)) + t110)) % 256]) (wrap64 ((wrap64 (x5 + 2)) + 1))) else (none)))) else (none)) else (none))) else (none)) else (none))
end
def pangramref28_Unquote.f (k : Nat) (a0 : ByteArray) : Option (ByteArray × Bool) := if (a0.size : Int) < 2 then (pangramref28_Unquote.j0 k a0 true) else (if 0 < (a0.size : Int) then (if (bt a0 0) = 34 then (if 0 ≤ (wrap64 ((a0.size : Int) - 1)) then (if (wrap64 ((a0.size : Int) - 1)) < (a0.size : Int) then (pangramref28_Unquote.j0 k a0 ((bt a0 (wrap64 ((a0.size : Int) - 1))) != 34)) else (none)) else (none)) else (pangramref28_Unquote.j0 k a0 true)) else (none))
theorem pangramref28_Unquote.mono_l : ∀ k, (∀ y0 y1, LeO (pangramref28_Unquote.j0 k y0 y1) (pangramref28_Unquote.j0 (k + 1) y0 y1)) ∧ (∀ y0 y1 y2, LeO (pangramref28_Unquote.l0 k y0 y1 y2) (pangramref28_Unquote.l0 (k + 1) y0 y1 y2)) ∧ (∀ y0 y1 y2 y3, LeO (pangramref28_Unquote.j2 k y0 y1 y2 y3) (pangramref28_Unquote.j2 (k + 1) y0 y1 y2 y3))
  | 0 => ⟨fun _ _ r h => by simp [pangramref28_Unquote.j0] at h, fun _ _ _ r h => by simp [pangramref28_Unquote.l0] at h, fun _ _ _ _ r h => by simp [pangramref28_Unquote.j2] at h⟩
  | k + 1 => by
    obtain ⟨ih0, ih1, ih2⟩ := pangramref28_Unquote.mono_l k
    refine ⟨?_, ?_, ?_⟩
    · intro y0 y1
      unfold pangramref28_Unquote.j0
      repeat' first
      | (with_reducible exact ih0 _ _)
      | (with_reducible exact ih1 _ _ _)
      | (with_reducible exact ih2 _ _ _ _)
      | (with_reducible exact pangramref28_digit.mono _ _)
      | (with_reducible exact LeO.refl _)
      | (with_reducible exact LeO.none _)
      | (with_reducible refine LeO.ite ?_ ?_)
      | (with_reducible refine LeO.bind ?_ (fun _ => ?_))
      | exact ih0 _ _
      | exact ih1 _ _ _
      | exact ih2 _ _ _ _
      | exact pangramref28_digit.mono _ _
      | exact LeO.none _
      | refine LeO.ite ?_ ?_
      | refine LeO.bind ?_ (fun _ => ?_)
    · intro y0 y1 y2
      unfold pangramref28_Unquote.l0
      repeat' first
      | (with_reducible exact ih0 _ _)
      | (with_reducible exact ih1 _ _ _)
      | (with_reducible exact ih2 _ _ _ _)
      | (with_reducible exact pangramref28_digit.mono _ _)
      | (with_reducible exact LeO.refl _)
      | (with_reducible exact LeO.none _)
      | (with_reducible refine LeO.ite ?_ ?_)
      | (with_reducible refine LeO.bind ?_ (fun _ => ?_))
      | exact ih0 _ _
      | exact ih1 _ _ _
      | exact ih2 _ _ _ _
      | exact pangramref28_digit.mono _ _
      | exact LeO.none _
      | refine LeO.ite ?_ ?_
      | refine LeO.bind ?_ (fun _ => ?_)
    · intro y0 y1 y2 y3
      unfold pangramref28_Unquote.j2
      repeat' first
      | (with_reducible exact ih0 _ _)
      | (with_reducible exact ih1 _ _ _)
      | (with_reducible exact ih2 _ _ _ _)
      | (with_reducible exact pangramref28_digit.mono _ _)
      | (with_reducible exact LeO.refl _)
      | (with_reducible exact LeO.none _)
      | (with_reducible refine LeO.ite ?_ ?_)
      | (with_reducible refine LeO.bind ?_ (fun _ => ?_))
      | exact ih0 _ _
      | exact ih1 _ _ _
      | exact ih2 _ _ _ _
      | exact pangramref28_digit.mono _ _
      | exact LeO.none _
      | refine LeO.ite ?_ ?_
      | refine LeO.bind ?_ (fun _ => ?_)
theorem pangramref28_Unquote.mono : ∀ a0 k, LeO (pangramref28_Unquote.f k a0) (pangramref28_Unquote.f (k + 1) a0) := by
  intro a0 k
  obtain ⟨ih0, ih1, ih2⟩ := pangramref28_Unquote.mono_l k
  unfold pangramref28_Unquote.f
  repeat' first
      | (with_reducible exact ih0 _ _)
      | (with_reducible exact ih1 _ _ _)
      | (with_reducible exact ih2 _ _ _ _)
      | (with_reducible exact pangramref28_digit.mono _ _)
      | (with_reducible exact LeO.refl _)
      | (with_reducible exact LeO.none _)
      | (with_reducible refine LeO.ite ?_ ?_)
      | (with_reducible refine LeO.bind ?_ (fun _ => ?_))
      | exact ih0 _ _
      | exact ih1 _ _ _
      | exact ih2 _ _ _ _
      | exact pangramref28_digit.mono _ _
      | exact LeO.none _
      | refine LeO.ite ?_ ?_
      | refine LeO.bind ?_ (fun _ => ?_)
set_option maxHeartbeats 8000000 in
set_option maxRecDepth 100000 in
theorem pangramref28_Unquote.calls (k : Nat) (a0 : ByteArray) (r1 : ByteArray) (r2 : Bool) (w : World) (h : pangramref28_Unquote.f k a0 = some (r1, r2)) :
    Calls Tryd.prog 23 #[.string a0] w fun e w' => e = .returned (.tuple #[.string r1, .bool r2]) ∧ Below w.heap.size w w' := by
  have HB := Aside0.mk (Below.refl w.heap.size w)
  have H : (if (a0.size : Int) < 2 then (pangramref28_Unquote.j0 k a0 true) else (if 0 < (a0.size : Int) then (if (bt a0 0) = 34 then (if 0 ≤ (wrap64 ((a0.size : Int) - 1)) then (if (wrap64 ((a0.size : Int) - 1)) < (a0.size : Int) then (pangramref28_Unquote.j0 k a0 ((bt a0 (wrap64 ((a0.size : Int) - 1))) != 34)) else (none)) else (none)) else (pangramref28_Unquote.j0 k a0 true)) else (none))) = some (r1, r2) := h
  clear h
  have HC2 := Aside0.mk H
  clear H
  go_enter Tryd.func23, Tryd.ntmps23
  go_upto_region 1 with (fail)
  repeat (go_quiet (fail); go_upto_region 1 with (fail))
  go_cut [22] (fun v22 wc => ∃ (kq : Nat) (x22_1 : Bool), v22 = .bool x22_1 ∧ Aside0 (pangramref28_Unquote.j0 kq a0 x22_1 = some (r1, r2)) ∧ Aside0 (kq ≤ k) ∧ Aside0 (Below w.heap.size w wc))
  case first =>
    have H := HC2.out
    clear HC2
    by_cases c3 : (a0.size : Int) < 2
    · rw [if_pos c3] at H
      have c3b0 : decide ((a0.size : Int) < 2) = true := decide_eq_true c3
      have c3b1 : decide (a0.size < 2) = true := decide_eq_true (by omega)
      clear c3
      (first | rw [c3b0] | (simp only [i64_w, i32_w]; rw [c3b0]) | skip)
      have H' := Aside0.mk H
      clear H
      go_wp2
      repeat (go_quiet (fail); try go_wp2)
      go_meet
      case rel => exact ⟨_, (true), (by first | rfl | (simp; done) | (simp [*]; done)), H', ⟨by first | omega | exact Nat.le_refl _⟩, ⟨by repeat (first | (with_reducible first | exact HB.out | apply below_alloc | apply pw_below_drewN | apply below_drew1) | exact HB.out)⟩⟩
    · rw [if_neg c3] at H
      have c3b0 : decide ((a0.size : Int) < 2) = false := decide_eq_false c3
      have c3b1 : decide (a0.size < 2) = false := decide_eq_false (by omega)
      clear c3
      (first | rw [c3b0] | (simp only [i64_w, i32_w]; rw [c3b0]) | skip)
      by_cases c4 : 0 < (a0.size : Int)
      · rw [if_pos c4] at H
        have c4b0 : decide (0 < (a0.size : Int)) = true := decide_eq_true c4
        have c4b1 : decide (0 < a0.size) = true := decide_eq_true (by omega)
        clear c4
        by_cases c6 : (bt a0 0) = 34
        · rw [if_pos c6] at H
          have c6b0 : ((bt a0 0) == 34) = true := beq_iff_eq.mpr c6
          have c6b1 : ((bt a0 0) != 34) = false := bne_eq_false_iff_eq.mpr c6
          clear c6
          obtain ⟨ji7, hji7⟩ : ∃ j_ : Int, (wrap64 ((a0.size : Int) - 1)) = j_ := ⟨_, rfl⟩
          replace H : (if 0 ≤ (ji7) then (if (ji7) < (a0.size : Int) then (pangramref28_Unquote.j0 k a0 ((bt a0 (ji7)) != 34)) else (none)) else (none)) = some (r1, r2) := by first | (rw [hji7] at H; exact H) | (simp only [hji7] at H ⊢; exact H)
          have hji7w : (IntKind.i64.wrap ((a0.size : Int) - 1)) = ji7 := (i64_w _).trans hji7
          by_cases c8 : 0 ≤ (ji7)
          · rw [if_pos c8] at H
            have c8b0 : decide (0 ≤ (ji7)) = true := decide_eq_true c8
            clear c8
            by_cases c9 : (ji7) < (a0.size : Int)
            · rw [if_pos c9] at H
              have c9b0 : decide ((ji7) < (a0.size : Int)) = true := decide_eq_true c9
              clear c9
              have H' := Aside0.mk H
              clear H
              have p5 : 0 ≤ (0 : Int) := (by omega)
              have q5 : 0 < a0.size := (by have : (0 : Int) < (a0.size : Int) := of_decide_eq_true (by first | (with_reducible assumption) | assumption); omega)
              have hx5 : ∀ h : 0 < a0.size, ((a0[0]'h).toNat : Int) = bt a0 0 := bt_at a0 0
              clear p5
              have qi5 : (0 < (a0.size : Int)) = True := eq_true (of_decide_eq_true (by first | (with_reducible assumption) | assumption))
              replace q5 := eq_true q5
              have p10 : 0 ≤ ((ji7) : Int) := of_decide_eq_true (by first | (with_reducible assumption) | assumption)
              have q10 : (ji7) < (a0.size : Int) := of_decide_eq_true (by first | (with_reducible assumption) | assumption)
              have hx10 := bt_at a0 (ji7)
              replace p10 := eq_true p10
              replace q10 := eq_true q10
              go_wp2
              repeat (go_quiet (fail); try go_wp2)
              go_meet
              case rel => exact ⟨_, (((bt a0 (ji7)) != 34)), (by first | rfl | (simp; done) | (simp only [← hji7] <;> (first | rfl | simp)) | (simp [*]; done)), H', ⟨by first | omega | exact Nat.le_refl _⟩, ⟨by repeat (first | (with_reducible first | exact HB.out | apply below_alloc | apply pw_below_drewN | apply below_drew1) | exact HB.out)⟩⟩
            · rw [if_neg c9] at H
              exact absurd H (by simp)
          · rw [if_neg c8] at H
            exact absurd H (by simp)
        · rw [if_neg c6] at H
          have c6b0 : ((bt a0 0) == 34) = false := beq_eq_false_iff_ne.mpr c6
          have c6b1 : ((bt a0 0) != 34) = true := bne_iff_ne.mpr c6
          have H' := Aside0.mk H
          clear H
          have p5 : 0 ≤ (0 : Int) := (by omega)
          have q5 : 0 < a0.size := (by have : (0 : Int) < (a0.size : Int) := of_decide_eq_true (by first | (with_reducible assumption) | assumption); omega)
          have hx5 : ∀ h : 0 < a0.size, ((a0[0]'h).toNat : Int) = bt a0 0 := bt_at a0 0
          clear p5
          have qi5 : (0 < (a0.size : Int)) = True := eq_true (of_decide_eq_true (by first | (with_reducible assumption) | assumption))
          replace q5 := eq_true q5
          go_wp2
          repeat (go_quiet (fail); try go_wp2)
          go_meet
          case rel => exact ⟨_, (true), (by first | rfl | (simp; done) | (simp [*]; done)), H', ⟨by first | omega | exact Nat.le_refl _⟩, ⟨by repeat (first | (with_reducible first | exact HB.out | apply below_alloc | apply pw_below_drewN | apply below_drew1) | exact HB.out)⟩⟩
      · rw [if_neg c4] at H
        exact absurd H (by simp)
  case rest =>
    clear HC2
    try clear p1
    try clear q1
    try clear hx1
    try clear c2
    try clear p2
    try clear c3
    try clear c3b0
    try clear c3b1
    try clear c4
    try clear c4b0
    try clear c4b1
    try clear p5
    try clear q5
    try clear hx5
    try clear qi5
    try clear c6
    try clear c6b0
    try clear c6b1
    try clear p6
    try clear c8
    try clear c8b0
    try clear c9
    try clear c9b0
    try clear p10
    try clear q10
    try clear hx10
    try clear p10
    try clear p5
    try clear q10
    try clear q5
    obtain ⟨kq, x22_1, rfl, HA, HJ1, HB⟩ := hcut
    cases kq with
    | zero => exact absurd HA.out (by simp [pangramref28_Unquote.j0])
    | succ kj1 =>
      have H := HA.out
      clear HA
      simp only [pangramref28_Unquote.j0] at H
      by_cases c11 : x22_1 = true
      · subst c11
        have H1 : (some ((⟨#[]⟩ : ByteArray), false)) = some (r1, r2) := by rw [if_pos rfl] at H; exact H
        clear H
        have H := H1
        clear H1
        simp only [Option.some.injEq, Prod.mk.injEq] at H
        obtain ⟨rfl, rfl⟩ := H
        go_wp2
        repeat (go_quiet (fail); try go_wp2)
        go_ret2
        exact ⟨by first | rfl | (simp [errW_none, errW_some] <;> rfl) | (simp [*, errW_none, errW_some] <;> rfl), by repeat (first | (with_reducible first | exact HB.out | apply below_alloc | apply pw_below_drewN | apply below_drew1) | exact HB.out)⟩
      · replace c11 := Bool.eq_false_iff.mpr c11
        subst c11
        have H1 : (pangramref28_Unquote.l0 kj1 a0 ([] : List Int) 1) = some (r1, r2) := by rw [if_neg (show ¬ (false = true) by decide)] at H; exact H
        clear H
        have H := H1
        clear H1
        have H' := Aside0.mk H
        clear H
        go_wp2
        repeat (go_quiet (fail); try go_wp2)
        go_loopg [4, 5] kj1 (fun kq v4 v5 w' => ∃ (x4_2 : List Int) (x5_2 : Int), v5 = .int .i64 x5_2 ∧ Aside0 (pangramref28_Unquote.l0 kq a0 x4_2 x5_2 = some (r1, r2)) ∧ Aside0 (kq ≤ kj1) ∧ Aside0 (Kd.R (Kd.int .u8) 5 w' w.heap.size (fun _ => True) v4 x4_2) ∧ Aside0 (Below w.heap.size w w'))
        case atStart => exact ⟨(([] : List Int)), (1), (by first | rfl | (simp; done) | (simp [*]; done)), H', ⟨Nat.le_refl _⟩, ⟨by first | exact Kd.R_nil _ _ _ _ _ | exact Kd.N_nil _ _ _ _ _ | exact Kd.V_nil _ _ _ _ _ | exact Kd.Q_nil _ _ _ _ _ | exact Kd.S_nil _ _ _ _ _⟩, ⟨by repeat (first | (with_reducible first | exact HB.out | apply below_alloc | apply pw_below_drewN | apply below_drew1) | exact HB.out)⟩⟩
        case round =>
          clear H'
          try clear c1
          try clear p1
          try clear q1
          try clear hx1
          try clear c2
          try clear p2
          try clear c3
          try clear c3b0
          try clear c3b1
          try clear c4
          try clear c4b0
          try clear c4b1
          try clear p5
          try clear q5
          try clear hx5
          try clear qi5
          try clear c6
          try clear c6b0
          try clear c6b1
          try clear p6
          try clear c8
          try clear c8b0
          try clear c9
          try clear c9b0
          try clear p10
          try clear q10
          try clear hx10
          try clear c11
          try clear p1
          try clear p10
          try clear p2
          try clear p5
          try clear p6
          try clear q1
          try clear q10
          try clear q5
          obtain ⟨x4_2, x5_2, rfl, HA, HK2, HO_4, HB⟩ := hrel
          cases gk with
          | zero => exact absurd HA.out (by simp [pangramref28_Unquote.l0])
          | succ k2 =>
            have H := HA.out
            clear HA
            simp only [pangramref28_Unquote.l0] at H
            by_cases c12 : (wrap64 (x5_2 + 1)) < (a0.size : Int)
            · rw [if_pos c12] at H
              have c12b0 : decide ((wrap64 (x5_2 + 1)) < (a0.size : Int)) = true := decide_eq_true c12
              clear c12
              by_cases c13 : 0 ≤ x5_2
              · rw [if_pos c13] at H
                have c13b0 : decide (0 ≤ x5_2) = true := decide_eq_true c13
                clear c13
                by_cases c14 : x5_2 < (a0.size : Int)
                · rw [if_pos c14] at H
                  have c14b0 : decide (x5_2 < (a0.size : Int)) = true := decide_eq_true c14
                  clear c14
                  by_cases c16 : (bt a0 x5_2) = 92
                  · rw [if_pos c16] at H
                    have c16b0 : ((bt a0 x5_2) == 92) = true := beq_iff_eq.mpr c16
                    have c16b1 : ((bt a0 x5_2) != 92) = false := bne_eq_false_iff_eq.mpr c16
                    clear c16
                    have HC17 := Aside0.mk H
                    clear H
                    have p15 : 0 ≤ (x5_2 : Int) := of_decide_eq_true (by first | (with_reducible assumption) | assumption)
                    have q15 : x5_2 < (a0.size : Int) := of_decide_eq_true (by first | (with_reducible assumption) | assumption)
                    have hx15 := bt_at a0 x5_2
                    replace p15 := eq_true p15
                    replace q15 := eq_true q15
                    go_upto_region 9 with (fail)
                    repeat (go_quiet (fail); go_upto_region 9 with (fail))
                    go_cut [55] (fun v55 wc => ∃ (kq : Nat) (x55_16 : Bool), v55 = .bool x55_16 ∧ Aside0 (pangramref28_Unquote.j2 kq a0 x4_2 x5_2 x55_16 = some (r1, r2)) ∧ Aside0 (kq ≤ k2) ∧ Aside0 (Kd.R (Kd.int .u8) 5 wc w.heap.size (fun _ => True) u4 x4_2) ∧ Aside0 (Below w.heap.size w wc))
                    case first =>
                      have H := HC17.out
                      clear HC17
                      by_cases c18 : (wrap64 (x5_2 + 3)) ≥ (a0.size : Int)
                      · rw [if_pos c18] at H
                        have c18b0 : decide ((a0.size : Int) ≤ (wrap64 (x5_2 + 3))) = true := decide_eq_true c18
                        clear c18
                        (first | rw [c18b0] | (simp only [i64_w, i32_w]; rw [c18b0]) | skip)
                        have H' := Aside0.mk H
                        clear H
                        go_wp2
                        repeat (go_quiet (fail); try go_wp2)
                        go_meet
                        case rel => exact ⟨_, (true), (by first | rfl | (simp; done) | (simp [*]; done)), H', ⟨by have := HJ1.out; have := HK2.out; first | omega | exact Nat.le_refl _⟩, ⟨by (with_reducible repeat (first | apply Kd.R_alloc | apply Kd.R_drewN | apply Kd.R_drew)); exact HO_4.out⟩, ⟨by repeat (first | (with_reducible first | exact HB.out | apply below_alloc | apply pw_below_drewN | apply below_drew1) | exact HB.out)⟩⟩
                      · rw [if_neg c18] at H
                        have c18b0 : decide ((a0.size : Int) ≤ (wrap64 (x5_2 + 3))) = false := decide_eq_false c18
                        clear c18
                        (first | rw [c18b0] | (simp only [i64_w, i32_w]; rw [c18b0]) | skip)
                        obtain ⟨ji19, hji19⟩ : ∃ j_ : Int, (wrap64 (x5_2 + 1)) = j_ := ⟨_, rfl⟩
                        replace H : (if 0 ≤ (ji19) then ((pangramref28_digit.f k2 (bt a0 (ji19))).bind fun t107 => (if t107 < 0 then (pangramref28_Unquote.j2 k2 a0 x4_2 x5_2 true) else (if 0 ≤ (wrap64 (x5_2 + 2)) then (if (wrap64 (x5_2 + 2)) < (a0.size : Int) then ((pangramref28_digit.f k2 (bt a0 (wrap64 (x5_2 + 2)))).bind fun t108 => (pangramref28_Unquote.j2 k2 a0 x4_2 x5_2 (decide (t108 < 0)))) else (none)) else (none)))) else (none)) = some (r1, r2) := by first | (rw [hji19] at H; exact H) | (simp only [hji19] at H ⊢; exact H)
                        (try rw [hji19] at c12b0)
                        have hji19w : (IntKind.i64.wrap (x5_2 + 1)) = ji19 := (i64_w _).trans hji19
                        by_cases c20 : 0 ≤ (ji19)
                        · rw [if_pos c20] at H
                          have c20b0 : decide (0 ≤ (ji19)) = true := decide_eq_true c20
                          clear c20
                          replace H := Option.bind_eq_some_iff.mp H
                          obtain ⟨t107, A220, H⟩ := H
                          replace H : (if t107 < 0 then (pangramref28_Unquote.j2 k2 a0 x4_2 x5_2 true) else (if 0 ≤ (wrap64 (x5_2 + 2)) then (if (wrap64 (x5_2 + 2)) < (a0.size : Int) then ((pangramref28_digit.f k2 (bt a0 (wrap64 (x5_2 + 2)))).bind fun t108 => (pangramref28_Unquote.j2 k2 a0 x4_2 x5_2 (decide (t108 < 0)))) else (none)) else (none))) = some (r1, r2) := H
                          have A22 := Aside0.mk A220
                          clear A220
                          by_cases c23 : t107 < 0
                          · rw [if_pos c23] at H
                            have c23b0 : decide (t107 < 0) = true := decide_eq_true c23
                            clear c23
                            have H' := Aside0.mk H
                            clear H
                            have p21 : 0 ≤ ((ji19) : Int) := of_decide_eq_true (by first | (with_reducible assumption) | assumption)
                            have q21 : (ji19) < (a0.size : Int) := of_decide_eq_true (by first | (with_reducible assumption) | assumption)
                            have hx21 := bt_at a0 (ji19)
                            replace p21 := eq_true p21
                            replace q21 := eq_true q21
                            go_wp2_with (first | (go_at_call 39; (with_reducible refine (pangramref28_digit.calls k2 (bt a0 (ji19)) t107 _ A22.out).mono ?_); rintro e w' ⟨rfl, ⟨nd, rfl⟩⟩; (try first | exact ⟨rfl, _, World.drewN_drewN _ _ _⟩ | exact ⟨rfl, _, Eq.trans (World.drewN_drewN _ _ _) (congrArg (World.drewN _) (Nat.add_assoc _ _ _))⟩)))
                            repeat (go_quiet (first | (go_at_call 39; (with_reducible refine (pangramref28_digit.calls k2 (bt a0 (ji19)) t107 _ A22.out).mono ?_); rintro e w' ⟨rfl, ⟨nd, rfl⟩⟩; (try first | exact ⟨rfl, _, World.drewN_drewN _ _ _⟩ | exact ⟨rfl, _, Eq.trans (World.drewN_drewN _ _ _) (congrArg (World.drewN _) (Nat.add_assoc _ _ _))⟩))); try go_wp2_with (first | (go_at_call 39; (with_reducible refine (pangramref28_digit.calls k2 (bt a0 (ji19)) t107 _ A22.out).mono ?_); rintro e w' ⟨rfl, ⟨nd, rfl⟩⟩; (try first | exact ⟨rfl, _, World.drewN_drewN _ _ _⟩ | exact ⟨rfl, _, Eq.trans (World.drewN_drewN _ _ _) (congrArg (World.drewN _) (Nat.add_assoc _ _ _))⟩))))
                            go_meet
                            case rel => exact ⟨_, (true), (by first | rfl | (simp; done) | (simp [*]; done)), H', ⟨by have := HJ1.out; have := HK2.out; first | omega | exact Nat.le_refl _⟩, ⟨by (with_reducible repeat (first | apply Kd.R_alloc | apply Kd.R_drewN | apply Kd.R_drew)); exact HO_4.out⟩, ⟨by repeat (first | (with_reducible first | exact HB.out | apply below_alloc | apply pw_below_drewN | apply below_drew1) | exact HB.out)⟩⟩
                          · rw [if_neg c23] at H
                            have c23b0 : decide (t107 < 0) = false := decide_eq_false c23
                            clear c23
                            obtain ⟨ji24, hji24⟩ : ∃ j_ : Int, (wrap64 (x5_2 + 2)) = j_ := ⟨_, rfl⟩
                            replace H : (if 0 ≤ (ji24) then (if (ji24) < (a0.size : Int) then ((pangramref28_digit.f k2 (bt a0 (ji24))).bind fun t108 => (pangramref28_Unquote.j2 k2 a0 x4_2 x5_2 (decide (t108 < 0)))) else (none)) else (none)) = some (r1, r2) := by first | (rw [hji24] at H; exact H) | (simp only [hji24] at H ⊢; exact H)
                            (try rw [hji24] at A22)
                            have hji24w : (IntKind.i64.wrap (x5_2 + 2)) = ji24 := (i64_w _).trans hji24
                            by_cases c25 : 0 ≤ (ji24)
                            · rw [if_pos c25] at H
                              have c25b0 : decide (0 ≤ (ji24)) = true := decide_eq_true c25
                              clear c25
                              by_cases c26 : (ji24) < (a0.size : Int)
                              · rw [if_pos c26] at H
                                have c26b0 : decide ((ji24) < (a0.size : Int)) = true := decide_eq_true c26
                                clear c26
                                replace H := Option.bind_eq_some_iff.mp H
                                obtain ⟨t108, A280, H⟩ := H
                                replace H : (pangramref28_Unquote.j2 k2 a0 x4_2 x5_2 (decide (t108 < 0))) = some (r1, r2) := H
                                have A28 := Aside0.mk A280
                                clear A280
                                have H' := Aside0.mk H
                                clear H
                                have p21 : 0 ≤ ((ji19) : Int) := of_decide_eq_true (by first | (with_reducible assumption) | assumption)
                                have q21 : (ji19) < (a0.size : Int) := of_decide_eq_true (by first | (with_reducible assumption) | assumption)
                                have hx21 := bt_at a0 (ji19)
                                replace p21 := eq_true p21
                                replace q21 := eq_true q21
                                go_wp2_with (first | (go_at_call 39; (with_reducible refine (pangramref28_digit.calls k2 (bt a0 (ji19)) t107 _ A22.out).mono ?_); rintro e w' ⟨rfl, ⟨nd, rfl⟩⟩; (try first | exact ⟨rfl, _, World.drewN_drewN _ _ _⟩ | exact ⟨rfl, _, Eq.trans (World.drewN_drewN _ _ _) (congrArg (World.drewN _) (Nat.add_assoc _ _ _))⟩); have p27 : 0 ≤ ((ji24) : Int) := of_decide_eq_true (by first | (with_reducible assumption) | assumption); have q27 : (ji24) < (a0.size : Int) := of_decide_eq_true (by first | (with_reducible assumption) | assumption); have hx27 := bt_at a0 (ji24); replace p27 := eq_true p27; replace q27 := eq_true q27) | (go_at_call 39; (with_reducible refine (pangramref28_digit.calls k2 (bt a0 (ji24)) t108 _ A28.out).mono ?_); rintro e w' ⟨rfl, ⟨nd, rfl⟩⟩; (try first | exact ⟨rfl, _, World.drewN_drewN _ _ _⟩ | exact ⟨rfl, _, Eq.trans (World.drewN_drewN _ _ _) (congrArg (World.drewN _) (Nat.add_assoc _ _ _))⟩)))
                                repeat (go_quiet (first | (go_at_call 39; (with_reducible refine (pangramref28_digit.calls k2 (bt a0 (ji19)) t107 _ A22.out).mono ?_); rintro e w' ⟨rfl, ⟨nd, rfl⟩⟩; (try first | exact ⟨rfl, _, World.drewN_drewN _ _ _⟩ | exact ⟨rfl, _, Eq.trans (World.drewN_drewN _ _ _) (congrArg (World.drewN _) (Nat.add_assoc _ _ _))⟩); have p27 : 0 ≤ ((ji24) : Int) := of_decide_eq_true (by first | (with_reducible assumption) | assumption); have q27 : (ji24) < (a0.size : Int) := of_decide_eq_true (by first | (with_reducible assumption) | assumption); have hx27 := bt_at a0 (ji24); replace p27 := eq_true p27; replace q27 := eq_true q27) | (go_at_call 39; (with_reducible refine (pangramref28_digit.calls k2 (bt a0 (ji24)) t108 _ A28.out).mono ?_); rintro e w' ⟨rfl, ⟨nd, rfl⟩⟩; (try first | exact ⟨rfl, _, World.drewN_drewN _ _ _⟩ | exact ⟨rfl, _, Eq.trans (World.drewN_drewN _ _ _) (congrArg (World.drewN _) (Nat.add_assoc _ _ _))⟩))); try go_wp2_with (first | (go_at_call 39; (with_reducible refine (pangramref28_digit.calls k2 (bt a0 (ji19)) t107 _ A22.out).mono ?_); rintro e w' ⟨rfl, ⟨nd, rfl⟩⟩; (try first | exact ⟨rfl, _, World.drewN_drewN _ _ _⟩ | exact ⟨rfl, _, Eq.trans (World.drewN_drewN _ _ _) (congrArg (World.drewN _) (Nat.add_assoc _ _ _))⟩); have p27 : 0 ≤ ((ji24) : Int) := of_decide_eq_true (by first | (with_reducible assumption) | assumption); have q27 : (ji24) < (a0.size : Int) := of_decide_eq_true (by first | (with_reducible assumption) | assumption); have hx27 := bt_at a0 (ji24); replace p27 := eq_true p27; replace q27 := eq_true q27) | (go_at_call 39; (with_reducible refine (pangramref28_digit.calls k2 (bt a0 (ji24)) t108 _ A28.out).mono ?_); rintro e w' ⟨rfl, ⟨nd, rfl⟩⟩; (try first | exact ⟨rfl, _, World.drewN_drewN _ _ _⟩ | exact ⟨rfl, _, Eq.trans (World.drewN_drewN _ _ _) (congrArg (World.drewN _) (Nat.add_assoc _ _ _))⟩))))
                                go_meet
                                case rel => exact ⟨_, (decide (t108 < 0)), (by first | rfl | (simp; done) | (simp [*]; done)), H', ⟨by have := HJ1.out; have := HK2.out; first | omega | exact Nat.le_refl _⟩, ⟨by (with_reducible repeat (first | apply Kd.R_alloc | apply Kd.R_drewN | apply Kd.R_drew)); exact HO_4.out⟩, ⟨by repeat (first | (with_reducible first | exact HB.out | apply below_alloc | apply pw_below_drewN | apply below_drew1) | exact HB.out)⟩⟩
                              · rw [if_neg c26] at H
                                exact absurd H (by simp)
                            · rw [if_neg c25] at H
                              exact absurd H (by simp)
                        · rw [if_neg c20] at H
                          exact absurd H (by simp)
                    case rest =>
                      clear HC17
                      try clear c1
                      try clear p1
                      try clear q1
                      try clear hx1
                      try clear c2
                      try clear p2
                      try clear q2
                      try clear hx2
                      try clear c3
                      try clear c3b0
                      try clear c3b1
                      try clear c4
                      try clear c4b0
                      try clear c4b1
                      try clear p5
                      try clear q5
                      try clear hx5
                      try clear qi5
                      try clear c6
                      try clear c6b0
                      try clear c6b1
                      try clear p6
                      try clear c8
                      try clear c8b0
                      try clear c9
                      try clear c9b0
                      try clear p10
                      try clear q10
                      try clear hx10
                      try clear c11
                      try clear c12
                      try clear c12b0
                      try clear c13
                      try clear c13b0
                      try clear c14
                      try clear c14b0
                      try clear p15
                      try clear q15
                      try clear hx15
                      try clear c16
                      try clear c16b0
                      try clear c16b1
                      try clear c18
                      try clear c18b0
                      try clear c20
                      try clear c20b0
                      try clear p21
                      try clear q21
                      try clear hx21
                      try clear c23
                      try clear c23b0
                      try clear c25
                      try clear c25b0
                      try clear c26
                      try clear c26b0
                      try clear p27
                      try clear q27
                      try clear hx27
                      try clear p1
                      try clear p10
                      try clear p15
                      try clear p2
                      try clear p21
                      try clear p27
                      try clear p5
                      try clear p6
                      try clear q1
                      try clear q10
                      try clear q15
                      try clear q21
                      try clear q27
                      try clear q5
                      obtain ⟨kq, x55_16, rfl, HA, HJ16, HO_4, HB⟩ := hcut
                      cases kq with
                      | zero => exact absurd HA.out (by simp [pangramref28_Unquote.j2])
                      | succ kj16 =>
                        have H := HA.out
                        clear HA
                        simp only [pangramref28_Unquote.j2] at H
                        by_cases c29 : x55_16 = true
                        · subst c29
                          have H1 : (some ((⟨#[]⟩ : ByteArray), false)) = some (r1, r2) := by rw [if_pos rfl] at H; exact H
                          clear H
                          have H := H1
                          clear H1
                          simp only [Option.some.injEq, Prod.mk.injEq] at H
                          obtain ⟨rfl, rfl⟩ := H
                          go_wp2
                          repeat (go_quiet (fail); try go_wp2)
                          go_ret2
                          exact ⟨by first | rfl | (simp [errW_none, errW_some] <;> rfl) | (simp [*, errW_none, errW_some] <;> rfl), by repeat (first | (with_reducible first | exact HB.out | apply below_alloc | apply pw_below_drewN | apply below_drew1) | exact HB.out)⟩
                        · replace c29 := Bool.eq_false_iff.mpr c29
                          subst c29
                          have H1 : (if 0 ≤ (wrap64 (x5_2 + 1)) then (if (wrap64 (x5_2 + 1)) < (a0.size : Int) then ((pangramref28_digit.f kj16 (bt a0 (wrap64 (x5_2 + 1)))).bind fun t109 => (if 0 ≤ (wrap64 (x5_2 + 2)) then (if (wrap64 (x5_2 + 2)) < (a0.size : Int) then ((pangramref28_digit.f kj16 (bt a0 (wrap64 (x5_2 + 2)))).bind fun t110 => (if ((wrap64 ((wrap64 (16 * t109)) + t110)) % 256) ≥ 32 then (if ((wrap64 ((wrap64 (16 * t109)) + t110)) % 256) ≤ 126 then (if ((wrap64 ((wrap64 (16 * t109)) + t110)) % 256) = 34 then (if x4_2.length < 140737488355328 then (pangramref28_Unquote.l0 kj16 a0 (x4_2 ++ [(wrap64 ((wrap64 (16 * t109)) + t110)) % 256]) (wrap64 ((wrap64 (x5_2 + 2)) + 1))) else (none)) else (if ((wrap64 ((wrap64 (16 * t109)) + t110)) % 256) = 92 then (if x4_2.length < 140737488355328 then (pangramref28_Unquote.l0 kj16 a0 (x4_2 ++ [(wrap64 ((wrap64 (16 * t109)) + t110)) % 256]) (wrap64 ((wrap64 (x5_2 + 2)) + 1))) else (none)) else (some ((⟨#[]⟩ : ByteArray), false)))) else (if x4_2.length < 140737488355328 then (pangramref28_Unquote.l0 kj16 a0 (x4_2 ++ [(wrap64 ((wrap64 (16 * t109)) + t110)) % 256]) (wrap64 ((wrap64 (x5_2 + 2)) + 1))) else (none))) else (if x4_2.length < 140737488355328 then (pangramref28_Unquote.l0 kj16 a0 (x4_2 ++ [(wrap64 ((wrap64 (16 * t109)) + t110)) % 256]) (wrap64 ((wrap64 (x5_2 + 2)) + 1))) else (none)))) else (none)) else (none))) else (none)) else (none)) = some (r1, r2) := by rw [if_neg (show ¬ (false = true) by decide)] at H; exact H
                          clear H
                          have H := H1
                          clear H1
                          obtain ⟨ji30, hji30⟩ : ∃ j_ : Int, (wrap64 (x5_2 + 1)) = j_ := ⟨_, rfl⟩
                          replace H : (if 0 ≤ (ji30) then (if (ji30) < (a0.size : Int) then ((pangramref28_digit.f kj16 (bt a0 (ji30))).bind fun t109 => (if 0 ≤ (wrap64 (x5_2 + 2)) then (if (wrap64 (x5_2 + 2)) < (a0.size : Int) then ((pangramref28_digit.f kj16 (bt a0 (wrap64 (x5_2 + 2)))).bind fun t110 => (if ((wrap64 ((wrap64 (16 * t109)) + t110)) % 256) ≥ 32 then (if ((wrap64 ((wrap64 (16 * t109)) + t110)) % 256) ≤ 126 then (if ((wrap64 ((wrap64 (16 * t109)) + t110)) % 256) = 34 then (if x4_2.length < 140737488355328 then (pangramref28_Unquote.l0 kj16 a0 (x4_2 ++ [(wrap64 ((wrap64 (16 * t109)) + t110)) % 256]) (wrap64 ((wrap64 (x5_2 + 2)) + 1))) else (none)) else (if ((wrap64 ((wrap64 (16 * t109)) + t110)) % 256) = 92 then (if x4_2.length < 140737488355328 then (pangramref28_Unquote.l0 kj16 a0 (x4_2 ++ [(wrap64 ((wrap64 (16 * t109)) + t110)) % 256]) (wrap64 ((wrap64 (x5_2 + 2)) + 1))) else (none)) else (some ((⟨#[]⟩ : ByteArray), false)))) else (if x4_2.length < 140737488355328 then (pangramref28_Unquote.l0 kj16 a0 (x4_2 ++ [(wrap64 ((wrap64 (16 * t109)) + t110)) % 256]) (wrap64 ((wrap64 (x5_2 + 2)) + 1))) else (none))) else (if x4_2.length < 140737488355328 then (pangramref28_Unquote.l0 kj16 a0 (x4_2 ++ [(wrap64 ((wrap64 (16 * t109)) + t110)) % 256]) (wrap64 ((wrap64 (x5_2 + 2)) + 1))) else (none)))) else (none)) else (none))) else (none)) else (none)) = some (r1, r2) := by first | (rw [hji30] at H; exact H) | (simp only [hji30] at H ⊢; exact H)
                          (try rw [hji30] at c12b0)
                          have hji30w : (IntKind.i64.wrap (x5_2 + 1)) = ji30 := (i64_w _).trans hji30
                          by_cases c31 : 0 ≤ (ji30)
                          · rw [if_pos c31] at H
                            have c31b0 : decide (0 ≤ (ji30)) = true := decide_eq_true c31
                            clear c31
                            by_cases c32 : (ji30) < (a0.size : Int)
                            · rw [if_pos c32] at H
                              have c32b0 : decide ((ji30) < (a0.size : Int)) = true := decide_eq_true c32
                              clear c32
                              replace H := Option.bind_eq_some_iff.mp H
                              obtain ⟨t109, A340, H⟩ := H
                              replace H : (if 0 ≤ (wrap64 (x5_2 + 2)) then (if (wrap64 (x5_2 + 2)) < (a0.size : Int) then ((pangramref28_digit.f kj16 (bt a0 (wrap64 (x5_2 + 2)))).bind fun t110 => (if ((wrap64 ((wrap64 (16 * t109)) + t110)) % 256) ≥ 32 then (if ((wrap64 ((wrap64 (16 * t109)) + t110)) % 256) ≤ 126 then (if ((wrap64 ((wrap64 (16 * t109)) + t110)) % 256) = 34 then (if x4_2.length < 140737488355328 then (pangramref28_Unquote.l0 kj16 a0 (x4_2 ++ [(wrap64 ((wrap64 (16 * t109)) + t110)) % 256]) (wrap64 ((wrap64 (x5_2 + 2)) + 1))) else (none)) else (if ((wrap64 ((wrap64 (16 * t109)) + t110)) % 256) = 92 then (if x4_2.length < 140737488355328 then (pangramref28_Unquote.l0 kj16 a0 (x4_2 ++ [(wrap64 ((wrap64 (16 * t109)) + t110)) % 256]) (wrap64 ((wrap64 (x5_2 + 2)) + 1))) else (none)) else (some ((⟨#[]⟩ : ByteArray), false)))) else (if x4_2.length < 140737488355328 then (pangramref28_Unquote.l0 kj16 a0 (x4_2 ++ [(wrap64 ((wrap64 (16 * t109)) + t110)) % 256]) (wrap64 ((wrap64 (x5_2 + 2)) + 1))) else (none))) else (if x4_2.length < 140737488355328 then (pangramref28_Unquote.l0 kj16 a0 (x4_2 ++ [(wrap64 ((wrap64 (16 * t109)) + t110)) % 256]) (wrap64 ((wrap64 (x5_2 + 2)) + 1))) else (none)))) else (none)) else (none)) = some (r1, r2) := H
                              have A34 := Aside0.mk A340
                              clear A340
                              obtain ⟨ji35, hji35⟩ : ∃ j_ : Int, (wrap64 (x5_2 + 2)) = j_ := ⟨_, rfl⟩
                              replace H : (if 0 ≤ (ji35) then (if (ji35) < (a0.size : Int) then ((pangramref28_digit.f kj16 (bt a0 (ji35))).bind fun t110 => (if ((wrap64 ((wrap64 (16 * t109)) + t110)) % 256) ≥ 32 then (if ((wrap64 ((wrap64 (16 * t109)) + t110)) % 256) ≤ 126 then (if ((wrap64 ((wrap64 (16 * t109)) + t110)) % 256) = 34 then (if x4_2.length < 140737488355328 then (pangramref28_Unquote.l0 kj16 a0 (x4_2 ++ [(wrap64 ((wrap64 (16 * t109)) + t110)) % 256]) (wrap64 ((ji35) + 1))) else (none)) else (if ((wrap64 ((wrap64 (16 * t109)) + t110)) % 256) = 92 then (if x4_2.length < 140737488355328 then (pangramref28_Unquote.l0 kj16 a0 (x4_2 ++ [(wrap64 ((wrap64 (16 * t109)) + t110)) % 256]) (wrap64 ((ji35) + 1))) else (none)) else (some ((⟨#[]⟩ : ByteArray), false)))) else (if x4_2.length < 140737488355328 then (pangramref28_Unquote.l0 kj16 a0 (x4_2 ++ [(wrap64 ((wrap64 (16 * t109)) + t110)) % 256]) (wrap64 ((ji35) + 1))) else (none))) else (if x4_2.length < 140737488355328 then (pangramref28_Unquote.l0 kj16 a0 (x4_2 ++ [(wrap64 ((wrap64 (16 * t109)) + t110)) % 256]) (wrap64 ((ji35) + 1))) else (none)))) else (none)) else (none)) = some (r1, r2) := by first | (rw [hji35] at H; exact H) | (simp only [hji35] at H ⊢; exact H)
                              (try rw [hji35] at A34)
                              have hji35w : (IntKind.i64.wrap (x5_2 + 2)) = ji35 := (i64_w _).trans hji35
                              by_cases c36 : 0 ≤ (ji35)
                              · rw [if_pos c36] at H
                                have c36b0 : decide (0 ≤ (ji35)) = true := decide_eq_true c36
                                clear c36
                                by_cases c37 : (ji35) < (a0.size : Int)
                                · rw [if_pos c37] at H
                                  have c37b0 : decide ((ji35) < (a0.size : Int)) = true := decide_eq_true c37
                                  clear c37
                                  replace H := Option.bind_eq_some_iff.mp H
                                  obtain ⟨t110, A390, H⟩ := H
                                  replace H : (if ((wrap64 ((wrap64 (16 * t109)) + t110)) % 256) ≥ 32 then (if ((wrap64 ((wrap64 (16 * t109)) + t110)) % 256) ≤ 126 then (if ((wrap64 ((wrap64 (16 * t109)) + t110)) % 256) = 34 then (if x4_2.length < 140737488355328 then (pangramref28_Unquote.l0 kj16 a0 (x4_2 ++ [(wrap64 ((wrap64 (16 * t109)) + t110)) % 256]) (wrap64 ((ji35) + 1))) else (none)) else (if ((wrap64 ((wrap64 (16 * t109)) + t110)) % 256) = 92 then (if x4_2.length < 140737488355328 then (pangramref28_Unquote.l0 kj16 a0 (x4_2 ++ [(wrap64 ((wrap64 (16 * t109)) + t110)) % 256]) (wrap64 ((ji35) + 1))) else (none)) else (some ((⟨#[]⟩ : ByteArray), false)))) else (if x4_2.length < 140737488355328 then (pangramref28_Unquote.l0 kj16 a0 (x4_2 ++ [(wrap64 ((wrap64 (16 * t109)) + t110)) % 256]) (wrap64 ((ji35) + 1))) else (none))) else (if x4_2.length < 140737488355328 then (pangramref28_Unquote.l0 kj16 a0 (x4_2 ++ [(wrap64 ((wrap64 (16 * t109)) + t110)) % 256]) (wrap64 ((ji35) + 1))) else (none))) = some (r1, r2) := H
                                  have A39 := Aside0.mk A390
                                  clear A390
                                  by_cases c40 : ((wrap64 ((wrap64 (16 * t109)) + t110)) % 256) ≥ 32
                                  · rw [if_pos c40] at H
                                    have c40b0 : decide (32 ≤ ((wrap64 ((wrap64 (16 * t109)) + t110)) % 256)) = true := decide_eq_true c40
                                    clear c40
                                    by_cases c41 : ((wrap64 ((wrap64 (16 * t109)) + t110)) % 256) ≤ 126
                                    · rw [if_pos c41] at H
                                      have c41b0 : decide (((wrap64 ((wrap64 (16 * t109)) + t110)) % 256) ≤ 126) = true := decide_eq_true c41
                                      clear c41
                                      by_cases c42 : ((wrap64 ((wrap64 (16 * t109)) + t110)) % 256) = 34
                                      · rw [if_pos c42] at H
                                        have c42b0 : (((wrap64 ((wrap64 (16 * t109)) + t110)) % 256) == 34) = true := beq_iff_eq.mpr c42
                                        have c42b1 : (((wrap64 ((wrap64 (16 * t109)) + t110)) % 256) != 34) = false := bne_eq_false_iff_eq.mpr c42
                                        clear c42
                                        by_cases c43 : x4_2.length < 140737488355328
                                        · rw [if_pos c43] at H
                                          have LMc43 := Aside0.mk c43
                                          clear c43
                                          obtain ⟨y111, hy111⟩ : ∃ y_ : List Int, y_ = (x4_2 ++ [(wrap64 ((wrap64 (16 * t109)) + t110)) % 256]) := ⟨_, rfl⟩
                                          replace H : (pangramref28_Unquote.l0 kj16 a0 y111 (wrap64 ((ji35) + 1))) = some (r1, r2) := by first | (rw [hy111]; with_reducible exact H) | (have H2_ := (Option.bind_some _ _).symm.trans H; rw [hy111]; with_reducible exact H2_) | (have H2_ := (Option.bind_some _ _).symm.trans H; with_reducible exact H2_) | with_reducible exact H | (rw [hy111]; exact H) | exact H
                                          have Ny111 := Aside0.mk hy111
                                          clear hy111
                                          have H' := Aside0.mk H
                                          clear H
                                          have p33 : 0 ≤ ((ji30) : Int) := of_decide_eq_true (by first | (with_reducible assumption) | assumption)
                                          have q33 : (ji30) < (a0.size : Int) := of_decide_eq_true (by first | (with_reducible assumption) | assumption)
                                          have hx33 := bt_at a0 (ji30)
                                          replace p33 := eq_true p33
                                          replace q33 := eq_true q33
                                          go_wp2_with (first | (go_at_call 39; (with_reducible refine (pangramref28_digit.calls kj16 (bt a0 (ji30)) t109 _ A34.out).mono ?_); rintro e w' ⟨rfl, ⟨nd, rfl⟩⟩; (try first | exact ⟨rfl, _, World.drewN_drewN _ _ _⟩ | exact ⟨rfl, _, Eq.trans (World.drewN_drewN _ _ _) (congrArg (World.drewN _) (Nat.add_assoc _ _ _))⟩); have p38 : 0 ≤ ((ji35) : Int) := of_decide_eq_true (by first | (with_reducible assumption) | assumption); have q38 : (ji35) < (a0.size : Int) := of_decide_eq_true (by first | (with_reducible assumption) | assumption); have hx38 := bt_at a0 (ji35); replace p38 := eq_true p38; replace q38 := eq_true q38) | (go_at_call 39; (with_reducible refine (pangramref28_digit.calls kj16 (bt a0 (ji35)) t110 _ A39.out).mono ?_); rintro e w' ⟨rfl, ⟨nd, rfl⟩⟩; (try first | exact ⟨rfl, _, World.drewN_drewN _ _ _⟩ | exact ⟨rfl, _, Eq.trans (World.drewN_drewN _ _ _) (congrArg (World.drewN _) (Nat.add_assoc _ _ _))⟩)) | ((with_reducible refine gate_builtin (b := .append) (xs := #[.tmp 95, .tmp 97]) rfl ?_); (try (refine gate_guard (by rfl) ?_; dsimp only)); at_builtin; refine Kd.R_append (Kd.int .u8) (w0 := w) w.heap.size rfl (.tmp 95) (.tmp 97) 47 5 (.int .u8 0) 1 rfl Tryd.underlying47 info5 rfl (by decide) (by omega) u4 x4_2 ((wrap64 ((wrap64 (16 * t109)) + t110)) % 256) [.int .u8 ((wrap64 ((wrap64 (16 * t109)) + t110)) % 256)] (fun _ => True) (fun _ => False) rfl rfl ?aP (fun _ hk => hk.elim) ?aF ?aO ?aB ?aS ?aL ?_; (case aP => exact rfl); (case aB => exact (by repeat (first | (with_reducible first | exact HB.out | apply below_alloc | apply pw_below_drewN | apply below_drew1) | exact HB.out))); (case aF => exact (fun _ _ => trivial)); (case aO => exact (by (with_reducible repeat (first | apply Kd.R_alloc | apply Kd.R_drewN | apply Kd.R_drew)); exact HO_4.out)); (case aS => exact (below_size (by repeat (first | (with_reducible first | exact HB.out | apply below_alloc | apply pw_below_drewN | apply below_drew1) | exact HB.out)))); (case aL => have := LMc43.out; omega); intro v112 w44 ho hb hg hat; rw [← Ny111.out] at ho; have n0_ := Aside0.mk (hb); have n1_ := Aside0.mk (ho); clear HB; clear HO_4; have HB := n0_; have HO113 := n1_; clear n0_ n1_; clear ho hb hg hat))
                                          repeat (go_quiet (first | (go_at_call 39; (with_reducible refine (pangramref28_digit.calls kj16 (bt a0 (ji30)) t109 _ A34.out).mono ?_); rintro e w' ⟨rfl, ⟨nd, rfl⟩⟩; (try first | exact ⟨rfl, _, World.drewN_drewN _ _ _⟩ | exact ⟨rfl, _, Eq.trans (World.drewN_drewN _ _ _) (congrArg (World.drewN _) (Nat.add_assoc _ _ _))⟩); have p38 : 0 ≤ ((ji35) : Int) := of_decide_eq_true (by first | (with_reducible assumption) | assumption); have q38 : (ji35) < (a0.size : Int) := of_decide_eq_true (by first | (with_reducible assumption) | assumption); have hx38 := bt_at a0 (ji35); replace p38 := eq_true p38; replace q38 := eq_true q38) | (go_at_call 39; (with_reducible refine (pangramref28_digit.calls kj16 (bt a0 (ji35)) t110 _ A39.out).mono ?_); rintro e w' ⟨rfl, ⟨nd, rfl⟩⟩; (try first | exact ⟨rfl, _, World.drewN_drewN _ _ _⟩ | exact ⟨rfl, _, Eq.trans (World.drewN_drewN _ _ _) (congrArg (World.drewN _) (Nat.add_assoc _ _ _))⟩)) | ((with_reducible refine gate_builtin (b := .append) (xs := #[.tmp 95, .tmp 97]) rfl ?_); (try (refine gate_guard (by rfl) ?_; dsimp only)); at_builtin; refine Kd.R_append (Kd.int .u8) (w0 := w) w.heap.size rfl (.tmp 95) (.tmp 97) 47 5 (.int .u8 0) 1 rfl Tryd.underlying47 info5 rfl (by decide) (by omega) u4 x4_2 ((wrap64 ((wrap64 (16 * t109)) + t110)) % 256) [.int .u8 ((wrap64 ((wrap64 (16 * t109)) + t110)) % 256)] (fun _ => True) (fun _ => False) rfl rfl ?aP (fun _ hk => hk.elim) ?aF ?aO ?aB ?aS ?aL ?_; (case aP => exact rfl); (case aB => exact (by repeat (first | (with_reducible first | exact HB.out | apply below_alloc | apply pw_below_drewN | apply below_drew1) | exact HB.out))); (case aF => exact (fun _ _ => trivial)); (case aO => exact (by (with_reducible repeat (first | apply Kd.R_alloc | apply Kd.R_drewN | apply Kd.R_drew)); exact HO_4.out)); (case aS => exact (below_size (by repeat (first | (with_reducible first | exact HB.out | apply below_alloc | apply pw_below_drewN | apply below_drew1) | exact HB.out)))); (case aL => have := LMc43.out; omega); intro v112 w44 ho hb hg hat; rw [← Ny111.out] at ho; have n0_ := Aside0.mk (hb); have n1_ := Aside0.mk (ho); clear HB; clear HO_4; have HB := n0_; have HO113 := n1_; clear n0_ n1_; clear ho hb hg hat)); try go_wp2_with (first | (go_at_call 39; (with_reducible refine (pangramref28_digit.calls kj16 (bt a0 (ji30)) t109 _ A34.out).mono ?_); rintro e w' ⟨rfl, ⟨nd, rfl⟩⟩; (try first | exact ⟨rfl, _, World.drewN_drewN _ _ _⟩ | exact ⟨rfl, _, Eq.trans (World.drewN_drewN _ _ _) (congrArg (World.drewN _) (Nat.add_assoc _ _ _))⟩); have p38 : 0 ≤ ((ji35) : Int) := of_decide_eq_true (by first | (with_reducible assumption) | assumption); have q38 : (ji35) < (a0.size : Int) := of_decide_eq_true (by first | (with_reducible assumption) | assumption); have hx38 := bt_at a0 (ji35); replace p38 := eq_true p38; replace q38 := eq_true q38) | (go_at_call 39; (with_reducible refine (pangramref28_digit.calls kj16 (bt a0 (ji35)) t110 _ A39.out).mono ?_); rintro e w' ⟨rfl, ⟨nd, rfl⟩⟩; (try first | exact ⟨rfl, _, World.drewN_drewN _ _ _⟩ | exact ⟨rfl, _, Eq.trans (World.drewN_drewN _ _ _) (congrArg (World.drewN _) (Nat.add_assoc _ _ _))⟩)) | ((with_reducible refine gate_builtin (b := .append) (xs := #[.tmp 95, .tmp 97]) rfl ?_); (try (refine gate_guard (by rfl) ?_; dsimp only)); at_builtin; refine Kd.R_append (Kd.int .u8) (w0 := w) w.heap.size rfl (.tmp 95) (.tmp 97) 47 5 (.int .u8 0) 1 rfl Tryd.underlying47 info5 rfl (by decide) (by omega) u4 x4_2 ((wrap64 ((wrap64 (16 * t109)) + t110)) % 256) [.int .u8 ((wrap64 ((wrap64 (16 * t109)) + t110)) % 256)] (fun _ => True) (fun _ => False) rfl rfl ?aP (fun _ hk => hk.elim) ?aF ?aO ?aB ?aS ?aL ?_; (case aP => exact rfl); (case aB => exact (by repeat (first | (with_reducible first | exact HB.out | apply below_alloc | apply pw_below_drewN | apply below_drew1) | exact HB.out))); (case aF => exact (fun _ _ => trivial)); (case aO => exact (by (with_reducible repeat (first | apply Kd.R_alloc | apply Kd.R_drewN | apply Kd.R_drew)); exact HO_4.out)); (case aS => exact (below_size (by repeat (first | (with_reducible first | exact HB.out | apply below_alloc | apply pw_below_drewN | apply below_drew1) | exact HB.out)))); (case aL => have := LMc43.out; omega); intro v112 w44 ho hb hg hat; rw [← Ny111.out] at ho; have n0_ := Aside0.mk (hb); have n1_ := Aside0.mk (ho); clear HB; clear HO_4; have HB := n0_; have HO113 := n1_; clear n0_ n1_; clear ho hb hg hat)))
                                          go_roundg kj16
                                          case measure => have := HJ1.out; have := HK2.out; have := HJ16.out; omega
                                          case rel => exact ⟨(y111), (wrap64 ((ji35) + 1)), (by first | rfl | (simp; done) | (simp only [← hji35] <;> (first | rfl | simp)) | (simp [*]; done)), H', ⟨by have := HJ1.out; have := HK2.out; have := HJ16.out; omega⟩, ⟨by (with_reducible repeat (first | apply Kd.R_alloc | apply Kd.R_drewN | apply Kd.R_drew)); exact HO113.out⟩, ⟨by repeat (first | (with_reducible first | exact HB.out | apply below_alloc | apply pw_below_drewN | apply below_drew1) | exact HB.out)⟩⟩
                                        · rw [if_neg c43] at H
                                          exact absurd H (by simp)
                                      · rw [if_neg c42] at H
                                        have c42b0 : (((wrap64 ((wrap64 (16 * t109)) + t110)) % 256) == 34) = false := beq_eq_false_iff_ne.mpr c42
                                        have c42b1 : (((wrap64 ((wrap64 (16 * t109)) + t110)) % 256) != 34) = true := bne_iff_ne.mpr c42
                                        by_cases c45 : ((wrap64 ((wrap64 (16 * t109)) + t110)) % 256) = 92
                                        · rw [if_pos c45] at H
                                          have c45b0 : (((wrap64 ((wrap64 (16 * t109)) + t110)) % 256) == 92) = true := beq_iff_eq.mpr c45
                                          have c45b1 : (((wrap64 ((wrap64 (16 * t109)) + t110)) % 256) != 92) = false := bne_eq_false_iff_eq.mpr c45
                                          clear c45
                                          by_cases c46 : x4_2.length < 140737488355328
                                          · rw [if_pos c46] at H
                                            have LMc46 := Aside0.mk c46
                                            clear c46
                                            obtain ⟨y114, hy114⟩ : ∃ y_ : List Int, y_ = (x4_2 ++ [(wrap64 ((wrap64 (16 * t109)) + t110)) % 256]) := ⟨_, rfl⟩
                                            replace H : (pangramref28_Unquote.l0 kj16 a0 y114 (wrap64 ((ji35) + 1))) = some (r1, r2) := by first | (rw [hy114]; with_reducible exact H) | (have H2_ := (Option.bind_some _ _).symm.trans H; rw [hy114]; with_reducible exact H2_) | (have H2_ := (Option.bind_some _ _).symm.trans H; with_reducible exact H2_) | with_reducible exact H | (rw [hy114]; exact H) | exact H
                                            have Ny114 := Aside0.mk hy114
                                            clear hy114
                                            have H' := Aside0.mk H
                                            clear H
                                            have p33 : 0 ≤ ((ji30) : Int) := of_decide_eq_true (by first | (with_reducible assumption) | assumption)
                                            have q33 : (ji30) < (a0.size : Int) := of_decide_eq_true (by first | (with_reducible assumption) | assumption)
                                            have hx33 := bt_at a0 (ji30)
                                            replace p33 := eq_true p33
                                            replace q33 := eq_true q33
                                            go_wp2_with (first | (go_at_call 39; (with_reducible refine (pangramref28_digit.calls kj16 (bt a0 (ji30)) t109 _ A34.out).mono ?_); rintro e w' ⟨rfl, ⟨nd, rfl⟩⟩; (try first | exact ⟨rfl, _, World.drewN_drewN _ _ _⟩ | exact ⟨rfl, _, Eq.trans (World.drewN_drewN _ _ _) (congrArg (World.drewN _) (Nat.add_assoc _ _ _))⟩); have p38 : 0 ≤ ((ji35) : Int) := of_decide_eq_true (by first | (with_reducible assumption) | assumption); have q38 : (ji35) < (a0.size : Int) := of_decide_eq_true (by first | (with_reducible assumption) | assumption); have hx38 := bt_at a0 (ji35); replace p38 := eq_true p38; replace q38 := eq_true q38) | (go_at_call 39; (with_reducible refine (pangramref28_digit.calls kj16 (bt a0 (ji35)) t110 _ A39.out).mono ?_); rintro e w' ⟨rfl, ⟨nd, rfl⟩⟩; (try first | exact ⟨rfl, _, World.drewN_drewN _ _ _⟩ | exact ⟨rfl, _, Eq.trans (World.drewN_drewN _ _ _) (congrArg (World.drewN _) (Nat.add_assoc _ _ _))⟩)) | ((with_reducible refine gate_builtin (b := .append) (xs := #[.tmp 95, .tmp 97]) rfl ?_); (try (refine gate_guard (by rfl) ?_; dsimp only)); at_builtin; refine Kd.R_append (Kd.int .u8) (w0 := w) w.heap.size rfl (.tmp 95) (.tmp 97) 47 5 (.int .u8 0) 1 rfl Tryd.underlying47 info5 rfl (by decide) (by omega) u4 x4_2 ((wrap64 ((wrap64 (16 * t109)) + t110)) % 256) [.int .u8 ((wrap64 ((wrap64 (16 * t109)) + t110)) % 256)] (fun _ => True) (fun _ => False) rfl rfl ?aP (fun _ hk => hk.elim) ?aF ?aO ?aB ?aS ?aL ?_; (case aP => exact rfl); (case aB => exact (by repeat (first | (with_reducible first | exact HB.out | apply below_alloc | apply pw_below_drewN | apply below_drew1) | exact HB.out))); (case aF => exact (fun _ _ => trivial)); (case aO => exact (by (with_reducible repeat (first | apply Kd.R_alloc | apply Kd.R_drewN | apply Kd.R_drew)); exact HO_4.out)); (case aS => exact (below_size (by repeat (first | (with_reducible first | exact HB.out | apply below_alloc | apply pw_below_drewN | apply below_drew1) | exact HB.out)))); (case aL => have := LMc46.out; omega); intro v115 w47 ho hb hg hat; rw [← Ny114.out] at ho; have n0_ := Aside0.mk (hb); have n1_ := Aside0.mk (ho); clear HB; clear HO_4; have HB := n0_; have HO116 := n1_; clear n0_ n1_; clear ho hb hg hat))
                                            repeat (go_quiet (first | (go_at_call 39; (with_reducible refine (pangramref28_digit.calls kj16 (bt a0 (ji30)) t109 _ A34.out).mono ?_); rintro e w' ⟨rfl, ⟨nd, rfl⟩⟩; (try first | exact ⟨rfl, _, World.drewN_drewN _ _ _⟩ | exact ⟨rfl, _, Eq.trans (World.drewN_drewN _ _ _) (congrArg (World.drewN _) (Nat.add_assoc _ _ _))⟩); have p38 : 0 ≤ ((ji35) : Int) := of_decide_eq_true (by first | (with_reducible assumption) | assumption); have q38 : (ji35) < (a0.size : Int) := of_decide_eq_true (by first | (with_reducible assumption) | assumption); have hx38 := bt_at a0 (ji35); replace p38 := eq_true p38; replace q38 := eq_true q38) | (go_at_call 39; (with_reducible refine (pangramref28_digit.calls kj16 (bt a0 (ji35)) t110 _ A39.out).mono ?_); rintro e w' ⟨rfl, ⟨nd, rfl⟩⟩; (try first | exact ⟨rfl, _, World.drewN_drewN _ _ _⟩ | exact ⟨rfl, _, Eq.trans (World.drewN_drewN _ _ _) (congrArg (World.drewN _) (Nat.add_assoc _ _ _))⟩)) | ((with_reducible refine gate_builtin (b := .append) (xs := #[.tmp 95, .tmp 97]) rfl ?_); (try (refine gate_guard (by rfl) ?_; dsimp only)); at_builtin; refine Kd.R_append (Kd.int .u8) (w0 := w) w.heap.size rfl (.tmp 95) (.tmp 97) 47 5 (.int .u8 0) 1 rfl Tryd.underlying47 info5 rfl (by decide) (by omega) u4 x4_2 ((wrap64 ((wrap64 (16 * t109)) + t110)) % 256) [.int .u8 ((wrap64 ((wrap64 (16 * t109)) + t110)) % 256)] (fun _ => True) (fun _ => False) rfl rfl ?aP (fun _ hk => hk.elim) ?aF ?aO ?aB ?aS ?aL ?_; (case aP => exact rfl); (case aB => exact (by repeat (first | (with_reducible first | exact HB.out | apply below_alloc | apply pw_below_drewN | apply below_drew1) | exact HB.out))); (case aF => exact (fun _ _ => trivial)); (case aO => exact (by (with_reducible repeat (first | apply Kd.R_alloc | apply Kd.R_drewN | apply Kd.R_drew)); exact HO_4.out)); (case aS => exact (below_size (by repeat (first | (with_reducible first | exact HB.out | apply below_alloc | apply pw_below_drewN | apply below_drew1) | exact HB.out)))); (case aL => have := LMc46.out; omega); intro v115 w47 ho hb hg hat; rw [← Ny114.out] at ho; have n0_ := Aside0.mk (hb); have n1_ := Aside0.mk (ho); clear HB; clear HO_4; have HB := n0_; have HO116 := n1_; clear n0_ n1_; clear ho hb hg hat)); try go_wp2_with (first | (go_at_call 39; (with_reducible refine (pangramref28_digit.calls kj16 (bt a0 (ji30)) t109 _ A34.out).mono ?_); rintro e w' ⟨rfl, ⟨nd, rfl⟩⟩; (try first | exact ⟨rfl, _, World.drewN_drewN _ _ _⟩ | exact ⟨rfl, _, Eq.trans (World.drewN_drewN _ _ _) (congrArg (World.drewN _) (Nat.add_assoc _ _ _))⟩); have p38 : 0 ≤ ((ji35) : Int) := of_decide_eq_true (by first | (with_reducible assumption) | assumption); have q38 : (ji35) < (a0.size : Int) := of_decide_eq_true (by first | (with_reducible assumption) | assumption); have hx38 := bt_at a0 (ji35); replace p38 := eq_true p38; replace q38 := eq_true q38) | (go_at_call 39; (with_reducible refine (pangramref28_digit.calls kj16 (bt a0 (ji35)) t110 _ A39.out).mono ?_); rintro e w' ⟨rfl, ⟨nd, rfl⟩⟩; (try first | exact ⟨rfl, _, World.drewN_drewN _ _ _⟩ | exact ⟨rfl, _, Eq.trans (World.drewN_drewN _ _ _) (congrArg (World.drewN _) (Nat.add_assoc _ _ _))⟩)) | ((with_reducible refine gate_builtin (b := .append) (xs := #[.tmp 95, .tmp 97]) rfl ?_); (try (refine gate_guard (by rfl) ?_; dsimp only)); at_builtin; refine Kd.R_append (Kd.int .u8) (w0 := w) w.heap.size rfl (.tmp 95) (.tmp 97) 47 5 (.int .u8 0) 1 rfl Tryd.underlying47 info5 rfl (by decide) (by omega) u4 x4_2 ((wrap64 ((wrap64 (16 * t109)) + t110)) % 256) [.int .u8 ((wrap64 ((wrap64 (16 * t109)) + t110)) % 256)] (fun _ => True) (fun _ => False) rfl rfl ?aP (fun _ hk => hk.elim) ?aF ?aO ?aB ?aS ?aL ?_; (case aP => exact rfl); (case aB => exact (by repeat (first | (with_reducible first | exact HB.out | apply below_alloc | apply pw_below_drewN | apply below_drew1) | exact HB.out))); (case aF => exact (fun _ _ => trivial)); (case aO => exact (by (with_reducible repeat (first | apply Kd.R_alloc | apply Kd.R_drewN | apply Kd.R_drew)); exact HO_4.out)); (case aS => exact (below_size (by repeat (first | (with_reducible first | exact HB.out | apply below_alloc | apply pw_below_drewN | apply below_drew1) | exact HB.out)))); (case aL => have := LMc46.out; omega); intro v115 w47 ho hb hg hat; rw [← Ny114.out] at ho; have n0_ := Aside0.mk (hb); have n1_ := Aside0.mk (ho); clear HB; clear HO_4; have HB := n0_; have HO116 := n1_; clear n0_ n1_; clear ho hb hg hat)))
                                            go_roundg kj16
                                            case measure => have := HJ1.out; have := HK2.out; have := HJ16.out; omega
                                            case rel => exact ⟨(y114), (wrap64 ((ji35) + 1)), (by first | rfl | (simp; done) | (simp only [← hji35] <;> (first | rfl | simp)) | (simp [*]; done)), H', ⟨by have := HJ1.out; have := HK2.out; have := HJ16.out; omega⟩, ⟨by (with_reducible repeat (first | apply Kd.R_alloc | apply Kd.R_drewN | apply Kd.R_drew)); exact HO116.out⟩, ⟨by repeat (first | (with_reducible first | exact HB.out | apply below_alloc | apply pw_below_drewN | apply below_drew1) | exact HB.out)⟩⟩
                                          · rw [if_neg c46] at H
                                            exact absurd H (by simp)
                                        · rw [if_neg c45] at H
                                          have c45b0 : (((wrap64 ((wrap64 (16 * t109)) + t110)) % 256) == 92) = false := beq_eq_false_iff_ne.mpr c45
                                          have c45b1 : (((wrap64 ((wrap64 (16 * t109)) + t110)) % 256) != 92) = true := bne_iff_ne.mpr c45
                                          simp only [Option.some.injEq, Prod.mk.injEq] at H
                                          obtain ⟨rfl, rfl⟩ := H
                                          have p33 : 0 ≤ ((ji30) : Int) := of_decide_eq_true (by first | (with_reducible assumption) | assumption)
                                          have q33 : (ji30) < (a0.size : Int) := of_decide_eq_true (by first | (with_reducible assumption) | assumption)
                                          have hx33 := bt_at a0 (ji30)
                                          replace p33 := eq_true p33
                                          replace q33 := eq_true q33
                                          go_wp2_with (first | (go_at_call 39; (with_reducible refine (pangramref28_digit.calls kj16 (bt a0 (ji30)) t109 _ A34.out).mono ?_); rintro e w' ⟨rfl, ⟨nd, rfl⟩⟩; (try first | exact ⟨rfl, _, World.drewN_drewN _ _ _⟩ | exact ⟨rfl, _, Eq.trans (World.drewN_drewN _ _ _) (congrArg (World.drewN _) (Nat.add_assoc _ _ _))⟩); have p38 : 0 ≤ ((ji35) : Int) := of_decide_eq_true (by first | (with_reducible assumption) | assumption); have q38 : (ji35) < (a0.size : Int) := of_decide_eq_true (by first | (with_reducible assumption) | assumption); have hx38 := bt_at a0 (ji35); replace p38 := eq_true p38; replace q38 := eq_true q38) | (go_at_call 39; (with_reducible refine (pangramref28_digit.calls kj16 (bt a0 (ji35)) t110 _ A39.out).mono ?_); rintro e w' ⟨rfl, ⟨nd, rfl⟩⟩; (try first | exact ⟨rfl, _, World.drewN_drewN _ _ _⟩ | exact ⟨rfl, _, Eq.trans (World.drewN_drewN _ _ _) (congrArg (World.drewN _) (Nat.add_assoc _ _ _))⟩)))
                                          repeat (go_quiet (first | (go_at_call 39; (with_reducible refine (pangramref28_digit.calls kj16 (bt a0 (ji30)) t109 _ A34.out).mono ?_); rintro e w' ⟨rfl, ⟨nd, rfl⟩⟩; (try first | exact ⟨rfl, _, World.drewN_drewN _ _ _⟩ | exact ⟨rfl, _, Eq.trans (World.drewN_drewN _ _ _) (congrArg (World.drewN _) (Nat.add_assoc _ _ _))⟩); have p38 : 0 ≤ ((ji35) : Int) := of_decide_eq_true (by first | (with_reducible assumption) | assumption); have q38 : (ji35) < (a0.size : Int) := of_decide_eq_true (by first | (with_reducible assumption) | assumption); have hx38 := bt_at a0 (ji35); replace p38 := eq_true p38; replace q38 := eq_true q38) | (go_at_call 39; (with_reducible refine (pangramref28_digit.calls kj16 (bt a0 (ji35)) t110 _ A39.out).mono ?_); rintro e w' ⟨rfl, ⟨nd, rfl⟩⟩; (try first | exact ⟨rfl, _, World.drewN_drewN _ _ _⟩ | exact ⟨rfl, _, Eq.trans (World.drewN_drewN _ _ _) (congrArg (World.drewN _) (Nat.add_assoc _ _ _))⟩))); try go_wp2_with (first | (go_at_call 39; (with_reducible refine (pangramref28_digit.calls kj16 (bt a0 (ji30)) t109 _ A34.out).mono ?_); rintro e w' ⟨rfl, ⟨nd, rfl⟩⟩; (try first | exact ⟨rfl, _, World.drewN_drewN _ _ _⟩ | exact ⟨rfl, _, Eq.trans (World.drewN_drewN _ _ _) (congrArg (World.drewN _) (Nat.add_assoc _ _ _))⟩); have p38 : 0 ≤ ((ji35) : Int) := of_decide_eq_true (by first | (with_reducible assumption) | assumption); have q38 : (ji35) < (a0.size : Int) := of_decide_eq_true (by first | (with_reducible assumption) | assumption); have hx38 := bt_at a0 (ji35); replace p38 := eq_true p38; replace q38 := eq_true q38) | (go_at_call 39; (with_reducible refine (pangramref28_digit.calls kj16 (bt a0 (ji35)) t110 _ A39.out).mono ?_); rintro e w' ⟨rfl, ⟨nd, rfl⟩⟩; (try first | exact ⟨rfl, _, World.drewN_drewN _ _ _⟩ | exact ⟨rfl, _, Eq.trans (World.drewN_drewN _ _ _) (congrArg (World.drewN _) (Nat.add_assoc _ _ _))⟩))))
                                          go_ret2
                                          exact ⟨by first | rfl | (simp [errW_none, errW_some] <;> rfl) | (simp only [← hji30, ← hji35]; first | rfl | (simp [errW_none, errW_some] <;> rfl)) | (simp [*, errW_none, errW_some] <;> rfl), by repeat (first | (with_reducible first | exact HB.out | apply below_alloc | apply pw_below_drewN | apply below_drew1) | exact HB.out)⟩
                                    · rw [if_neg c41] at H
                                      have c41b0 : decide (((wrap64 ((wrap64 (16 * t109)) + t110)) % 256) ≤ 126) = false := decide_eq_false c41
                                      clear c41
                                      by_cases c48 : x4_2.length < 140737488355328
                                      · rw [if_pos c48] at H
                                        have LMc48 := Aside0.mk c48
                                        clear c48
                                        obtain ⟨y117, hy117⟩ : ∃ y_ : List Int, y_ = (x4_2 ++ [(wrap64 ((wrap64 (16 * t109)) + t110)) % 256]) := ⟨_, rfl⟩
                                        replace H : (pangramref28_Unquote.l0 kj16 a0 y117 (wrap64 ((ji35) + 1))) = some (r1, r2) := by first | (rw [hy117]; with_reducible exact H) | (have H2_ := (Option.bind_some _ _).symm.trans H; rw [hy117]; with_reducible exact H2_) | (have H2_ := (Option.bind_some _ _).symm.trans H; with_reducible exact H2_) | with_reducible exact H | (rw [hy117]; exact H) | exact H
                                        have Ny117 := Aside0.mk hy117
                                        clear hy117
                                        have H' := Aside0.mk H
                                        clear H
                                        have p33 : 0 ≤ ((ji30) : Int) := of_decide_eq_true (by first | (with_reducible assumption) | assumption)
                                        have q33 : (ji30) < (a0.size : Int) := of_decide_eq_true (by first | (with_reducible assumption) | assumption)
                                        have hx33 := bt_at a0 (ji30)
                                        replace p33 := eq_true p33
                                        replace q33 := eq_true q33
                                        go_wp2_with (first | (go_at_call 39; (with_reducible refine (pangramref28_digit.calls kj16 (bt a0 (ji30)) t109 _ A34.out).mono ?_); rintro e w' ⟨rfl, ⟨nd, rfl⟩⟩; (try first | exact ⟨rfl, _, World.drewN_drewN _ _ _⟩ | exact ⟨rfl, _, Eq.trans (World.drewN_drewN _ _ _) (congrArg (World.drewN _) (Nat.add_assoc _ _ _))⟩); have p38 : 0 ≤ ((ji35) : Int) := of_decide_eq_true (by first | (with_reducible assumption) | assumption); have q38 : (ji35) < (a0.size : Int) := of_decide_eq_true (by first | (with_reducible assumption) | assumption); have hx38 := bt_at a0 (ji35); replace p38 := eq_true p38; replace q38 := eq_true q38) | (go_at_call 39; (with_reducible refine (pangramref28_digit.calls kj16 (bt a0 (ji35)) t110 _ A39.out).mono ?_); rintro e w' ⟨rfl, ⟨nd, rfl⟩⟩; (try first | exact ⟨rfl, _, World.drewN_drewN _ _ _⟩ | exact ⟨rfl, _, Eq.trans (World.drewN_drewN _ _ _) (congrArg (World.drewN _) (Nat.add_assoc _ _ _))⟩)) | ((with_reducible refine gate_builtin (b := .append) (xs := #[.tmp 95, .tmp 97]) rfl ?_); (try (refine gate_guard (by rfl) ?_; dsimp only)); at_builtin; refine Kd.R_append (Kd.int .u8) (w0 := w) w.heap.size rfl (.tmp 95) (.tmp 97) 47 5 (.int .u8 0) 1 rfl Tryd.underlying47 info5 rfl (by decide) (by omega) u4 x4_2 ((wrap64 ((wrap64 (16 * t109)) + t110)) % 256) [.int .u8 ((wrap64 ((wrap64 (16 * t109)) + t110)) % 256)] (fun _ => True) (fun _ => False) rfl rfl ?aP (fun _ hk => hk.elim) ?aF ?aO ?aB ?aS ?aL ?_; (case aP => exact rfl); (case aB => exact (by repeat (first | (with_reducible first | exact HB.out | apply below_alloc | apply pw_below_drewN | apply below_drew1) | exact HB.out))); (case aF => exact (fun _ _ => trivial)); (case aO => exact (by (with_reducible repeat (first | apply Kd.R_alloc | apply Kd.R_drewN | apply Kd.R_drew)); exact HO_4.out)); (case aS => exact (below_size (by repeat (first | (with_reducible first | exact HB.out | apply below_alloc | apply pw_below_drewN | apply below_drew1) | exact HB.out)))); (case aL => have := LMc48.out; omega); intro v118 w49 ho hb hg hat; rw [← Ny117.out] at ho; have n0_ := Aside0.mk (hb); have n1_ := Aside0.mk (ho); clear HB; clear HO_4; have HB := n0_; have HO119 := n1_; clear n0_ n1_; clear ho hb hg hat))
                                        repeat (go_quiet (first | (go_at_call 39; (with_reducible refine (pangramref28_digit.calls kj16 (bt a0 (ji30)) t109 _ A34.out).mono ?_); rintro e w' ⟨rfl, ⟨nd, rfl⟩⟩; (try first | exact ⟨rfl, _, World.drewN_drewN _ _ _⟩ | exact ⟨rfl, _, Eq.trans (World.drewN_drewN _ _ _) (congrArg (World.drewN _) (Nat.add_assoc _ _ _))⟩); have p38 : 0 ≤ ((ji35) : Int) := of_decide_eq_true (by first | (with_reducible assumption) | assumption); have q38 : (ji35) < (a0.size : Int) := of_decide_eq_true (by first | (with_reducible assumption) | assumption); have hx38 := bt_at a0 (ji35); replace p38 := eq_true p38; replace q38 := eq_true q38) | (go_at_call 39; (with_reducible refine (pangramref28_digit.calls kj16 (bt a0 (ji35)) t110 _ A39.out).mono ?_); rintro e w' ⟨rfl, ⟨nd, rfl⟩⟩; (try first | exact ⟨rfl, _, World.drewN_drewN _ _ _⟩ | exact ⟨rfl, _, Eq.trans (World.drewN_drewN _ _ _) (congrArg (World.drewN _) (Nat.add_assoc _ _ _))⟩)) | ((with_reducible refine gate_builtin (b := .append) (xs := #[.tmp 95, .tmp 97]) rfl ?_); (try (refine gate_guard (by rfl) ?_; dsimp only)); at_builtin; refine Kd.R_append (Kd.int .u8) (w0 := w) w.heap.size rfl (.tmp 95) (.tmp 97) 47 5 (.int .u8 0) 1 rfl Tryd.underlying47 info5 rfl (by decide) (by omega) u4 x4_2 ((wrap64 ((wrap64 (16 * t109)) + t110)) % 256) [.int .u8 ((wrap64 ((wrap64 (16 * t109)) + t110)) % 256)] (fun _ => True) (fun _ => False) rfl rfl ?aP (fun _ hk => hk.elim) ?aF ?aO ?aB ?aS ?aL ?_; (case aP => exact rfl); (case aB => exact (by repeat (first | (with_reducible first | exact HB.out | apply below_alloc | apply pw_below_drewN | apply below_drew1) | exact HB.out))); (case aF => exact (fun _ _ => trivial)); (case aO => exact (by (with_reducible repeat (first | apply Kd.R_alloc | apply Kd.R_drewN | apply Kd.R_drew)); exact HO_4.out)); (case aS => exact (below_size (by repeat (first | (with_reducible first | exact HB.out | apply below_alloc | apply pw_below_drewN | apply below_drew1) | exact HB.out)))); (case aL => have := LMc48.out; omega); intro v118 w49 ho hb hg hat; rw [← Ny117.out] at ho; have n0_ := Aside0.mk (hb); have n1_ := Aside0.mk (ho); clear HB; clear HO_4; have HB := n0_; have HO119 := n1_; clear n0_ n1_; clear ho hb hg hat)); try go_wp2_with (first | (go_at_call 39; (with_reducible refine (pangramref28_digit.calls kj16 (bt a0 (ji30)) t109 _ A34.out).mono ?_); rintro e w' ⟨rfl, ⟨nd, rfl⟩⟩; (try first | exact ⟨rfl, _, World.drewN_drewN _ _ _⟩ | exact ⟨rfl, _, Eq.trans (World.drewN_drewN _ _ _) (congrArg (World.drewN _) (Nat.add_assoc _ _ _))⟩); have p38 : 0 ≤ ((ji35) : Int) := of_decide_eq_true (by first | (with_reducible assumption) | assumption); have q38 : (ji35) < (a0.size : Int) := of_decide_eq_true (by first | (with_reducible assumption) | assumption); have hx38 := bt_at a0 (ji35); replace p38 := eq_true p38; replace q38 := eq_true q38) | (go_at_call 39; (with_reducible refine (pangramref28_digit.calls kj16 (bt a0 (ji35)) t110 _ A39.out).mono ?_); rintro e w' ⟨rfl, ⟨nd, rfl⟩⟩; (try first | exact ⟨rfl, _, World.drewN_drewN _ _ _⟩ | exact ⟨rfl, _, Eq.trans (World.drewN_drewN _ _ _) (congrArg (World.drewN _) (Nat.add_assoc _ _ _))⟩)) | ((with_reducible refine gate_builtin (b := .append) (xs := #[.tmp 95, .tmp 97]) rfl ?_); (try (refine gate_guard (by rfl) ?_; dsimp only)); at_builtin; refine Kd.R_append (Kd.int .u8) (w0 := w) w.heap.size rfl (.tmp 95) (.tmp 97) 47 5 (.int .u8 0) 1 rfl Tryd.underlying47 info5 rfl (by decide) (by omega) u4 x4_2 ((wrap64 ((wrap64 (16 * t109)) + t110)) % 256) [.int .u8 ((wrap64 ((wrap64 (16 * t109)) + t110)) % 256)] (fun _ => True) (fun _ => False) rfl rfl ?aP (fun _ hk => hk.elim) ?aF ?aO ?aB ?aS ?aL ?_; (case aP => exact rfl); (case aB => exact (by repeat (first | (with_reducible first | exact HB.out | apply below_alloc | apply pw_below_drewN | apply below_drew1) | exact HB.out))); (case aF => exact (fun _ _ => trivial)); (case aO => exact (by (with_reducible repeat (first | apply Kd.R_alloc | apply Kd.R_drewN | apply Kd.R_drew)); exact HO_4.out)); (case aS => exact (below_size (by repeat (first | (with_reducible first | exact HB.out | apply below_alloc | apply pw_below_drewN | apply below_drew1) | exact HB.out)))); (case aL => have := LMc48.out; omega); intro v118 w49 ho hb hg hat; rw [← Ny117.out] at ho; have n0_ := Aside0.mk (hb); have n1_ := Aside0.mk (ho); clear HB; clear HO_4; have HB := n0_; have HO119 := n1_; clear n0_ n1_; clear ho hb hg hat)))
                                        go_roundg kj16
                                        case measure => have := HJ1.out; have := HK2.out; have := HJ16.out; omega
                                        case rel => exact ⟨(y117), (wrap64 ((ji35) + 1)), (by first | rfl | (simp; done) | (simp only [← hji35] <;> (first | rfl | simp)) | (simp [*]; done)), H', ⟨by have := HJ1.out; have := HK2.out; have := HJ16.out; omega⟩, ⟨by (with_reducible repeat (first | apply Kd.R_alloc | apply Kd.R_drewN | apply Kd.R_drew)); exact HO119.out⟩, ⟨by repeat (first | (with_reducible first | exact HB.out | apply below_alloc | apply pw_below_drewN | apply below_drew1) | exact HB.out)⟩⟩
                                      · rw [if_neg c48] at H
                                        exact absurd H (by simp)
                                  · rw [if_neg c40] at H
                                    have c40b0 : decide (32 ≤ ((wrap64 ((wrap64 (16 * t109)) + t110)) % 256)) = false := decide_eq_false c40
                                    clear c40
                                    by_cases c50 : x4_2.length < 140737488355328
                                    · rw [if_pos c50] at H
                                      have LMc50 := Aside0.mk c50
                                      clear c50
                                      obtain ⟨y120, hy120⟩ : ∃ y_ : List Int, y_ = (x4_2 ++ [(wrap64 ((wrap64 (16 * t109)) + t110)) % 256]) := ⟨_, rfl⟩
                                      replace H : (pangramref28_Unquote.l0 kj16 a0 y120 (wrap64 ((ji35) + 1))) = some (r1, r2) := by first | (rw [hy120]; with_reducible exact H) | (have H2_ := (Option.bind_some _ _).symm.trans H; rw [hy120]; with_reducible exact H2_) | (have H2_ := (Option.bind_some _ _).symm.trans H; with_reducible exact H2_) | with_reducible exact H | (rw [hy120]; exact H) | exact H
                                      have Ny120 := Aside0.mk hy120
                                      clear hy120
                                      have H' := Aside0.mk H
                                      clear H
                                      have p33 : 0 ≤ ((ji30) : Int) := of_decide_eq_true (by first | (with_reducible assumption) | assumption)
                                      have q33 : (ji30) < (a0.size : Int) := of_decide_eq_true (by first | (with_reducible assumption) | assumption)
                                      have hx33 := bt_at a0 (ji30)
                                      replace p33 := eq_true p33
                                      replace q33 := eq_true q33
                                      go_wp2_with (first | (go_at_call 39; (with_reducible refine (pangramref28_digit.calls kj16 (bt a0 (ji30)) t109 _ A34.out).mono ?_); rintro e w' ⟨rfl, ⟨nd, rfl⟩⟩; (try first | exact ⟨rfl, _, World.drewN_drewN _ _ _⟩ | exact ⟨rfl, _, Eq.trans (World.drewN_drewN _ _ _) (congrArg (World.drewN _) (Nat.add_assoc _ _ _))⟩); have p38 : 0 ≤ ((ji35) : Int) := of_decide_eq_true (by first | (with_reducible assumption) | assumption); have q38 : (ji35) < (a0.size : Int) := of_decide_eq_true (by first | (with_reducible assumption) | assumption); have hx38 := bt_at a0 (ji35); replace p38 := eq_true p38; replace q38 := eq_true q38) | (go_at_call 39; (with_reducible refine (pangramref28_digit.calls kj16 (bt a0 (ji35)) t110 _ A39.out).mono ?_); rintro e w' ⟨rfl, ⟨nd, rfl⟩⟩; (try first | exact ⟨rfl, _, World.drewN_drewN _ _ _⟩ | exact ⟨rfl, _, Eq.trans (World.drewN_drewN _ _ _) (congrArg (World.drewN _) (Nat.add_assoc _ _ _))⟩)) | ((with_reducible refine gate_builtin (b := .append) (xs := #[.tmp 95, .tmp 97]) rfl ?_); (try (refine gate_guard (by rfl) ?_; dsimp only)); at_builtin; refine Kd.R_append (Kd.int .u8) (w0 := w) w.heap.size rfl (.tmp 95) (.tmp 97) 47 5 (.int .u8 0) 1 rfl Tryd.underlying47 info5 rfl (by decide) (by omega) u4 x4_2 ((wrap64 ((wrap64 (16 * t109)) + t110)) % 256) [.int .u8 ((wrap64 ((wrap64 (16 * t109)) + t110)) % 256)] (fun _ => True) (fun _ => False) rfl rfl ?aP (fun _ hk => hk.elim) ?aF ?aO ?aB ?aS ?aL ?_; (case aP => exact rfl); (case aB => exact (by repeat (first | (with_reducible first | exact HB.out | apply below_alloc | apply pw_below_drewN | apply below_drew1) | exact HB.out))); (case aF => exact (fun _ _ => trivial)); (case aO => exact (by (with_reducible repeat (first | apply Kd.R_alloc | apply Kd.R_drewN | apply Kd.R_drew)); exact HO_4.out)); (case aS => exact (below_size (by repeat (first | (with_reducible first | exact HB.out | apply below_alloc | apply pw_below_drewN | apply below_drew1) | exact HB.out)))); (case aL => have := LMc50.out; omega); intro v121 w51 ho hb hg hat; rw [← Ny120.out] at ho; have n0_ := Aside0.mk (hb); have n1_ := Aside0.mk (ho); clear HB; clear HO_4; have HB := n0_; have HO122 := n1_; clear n0_ n1_; clear ho hb hg hat))
                                      repeat (go_quiet (first | (go_at_call 39; (with_reducible refine (pangramref28_digit.calls kj16 (bt a0 (ji30)) t109 _ A34.out).mono ?_); rintro e w' ⟨rfl, ⟨nd, rfl⟩⟩; (try first | exact ⟨rfl, _, World.drewN_drewN _ _ _⟩ | exact ⟨rfl, _, Eq.trans (World.drewN_drewN _ _ _) (congrArg (World.drewN _) (Nat.add_assoc _ _ _))⟩); have p38 : 0 ≤ ((ji35) : Int) := of_decide_eq_true (by first | (with_reducible assumption) | assumption); have q38 : (ji35) < (a0.size : Int) := of_decide_eq_true (by first | (with_reducible assumption) | assumption); have hx38 := bt_at a0 (ji35); replace p38 := eq_true p38; replace q38 := eq_true q38) | (go_at_call 39; (with_reducible refine (pangramref28_digit.calls kj16 (bt a0 (ji35)) t110 _ A39.out).mono ?_); rintro e w' ⟨rfl, ⟨nd, rfl⟩⟩; (try first | exact ⟨rfl, _, World.drewN_drewN _ _ _⟩ | exact ⟨rfl, _, Eq.trans (World.drewN_drewN _ _ _) (congrArg (World.drewN _) (Nat.add_assoc _ _ _))⟩)) | ((with_reducible refine gate_builtin (b := .append) (xs := #[.tmp 95, .tmp 97]) rfl ?_); (try (refine gate_guard (by rfl) ?_; dsimp only)); at_builtin; refine Kd.R_append (Kd.int .u8) (w0 := w) w.heap.size rfl (.tmp 95) (.tmp 97) 47 5 (.int .u8 0) 1 rfl Tryd.underlying47 info5 rfl (by decide) (by omega) u4 x4_2 ((wrap64 ((wrap64 (16 * t109)) + t110)) % 256) [.int .u8 ((wrap64 ((wrap64 (16 * t109)) + t110)) % 256)] (fun _ => True) (fun _ => False) rfl rfl ?aP (fun _ hk => hk.elim) ?aF ?aO ?aB ?aS ?aL ?_; (case aP => exact rfl); (case aB => exact (by repeat (first | (with_reducible first | exact HB.out | apply below_alloc | apply pw_below_drewN | apply below_drew1) | exact HB.out))); (case aF => exact (fun _ _ => trivial)); (case aO => exact (by (with_reducible repeat (first | apply Kd.R_alloc | apply Kd.R_drewN | apply Kd.R_drew)); exact HO_4.out)); (case aS => exact (below_size (by repeat (first | (with_reducible first | exact HB.out | apply below_alloc | apply pw_below_drewN | apply below_drew1) | exact HB.out)))); (case aL => have := LMc50.out; omega); intro v121 w51 ho hb hg hat; rw [← Ny120.out] at ho; have n0_ := Aside0.mk (hb); have n1_ := Aside0.mk (ho); clear HB; clear HO_4; have HB := n0_; have HO122 := n1_; clear n0_ n1_; clear ho hb hg hat)); try go_wp2_with (first | (go_at_call 39; (with_reducible refine (pangramref28_digit.calls kj16 (bt a0 (ji30)) t109 _ A34.out).mono ?_); rintro e w' ⟨rfl, ⟨nd, rfl⟩⟩; (try first | exact ⟨rfl, _, World.drewN_drewN _ _ _⟩ | exact ⟨rfl, _, Eq.trans (World.drewN_drewN _ _ _) (congrArg (World.drewN _) (Nat.add_assoc _ _ _))⟩); have p38 : 0 ≤ ((ji35) : Int) := of_decide_eq_true (by first | (with_reducible assumption) | assumption); have q38 : (ji35) < (a0.size : Int) := of_decide_eq_true (by first | (with_reducible assumption) | assumption); have hx38 := bt_at a0 (ji35); replace p38 := eq_true p38; replace q38 := eq_true q38) | (go_at_call 39; (with_reducible refine (pangramref28_digit.calls kj16 (bt a0 (ji35)) t110 _ A39.out).mono ?_); rintro e w' ⟨rfl, ⟨nd, rfl⟩⟩; (try first | exact ⟨rfl, _, World.drewN_drewN _ _ _⟩ | exact ⟨rfl, _, Eq.trans (World.drewN_drewN _ _ _) (congrArg (World.drewN _) (Nat.add_assoc _ _ _))⟩)) | ((with_reducible refine gate_builtin (b := .append) (xs := #[.tmp 95, .tmp 97]) rfl ?_); (try (refine gate_guard (by rfl) ?_; dsimp only)); at_builtin; refine Kd.R_append (Kd.int .u8) (w0 := w) w.heap.size rfl (.tmp 95) (.tmp 97) 47 5 (.int .u8 0) 1 rfl Tryd.underlying47 info5 rfl (by decide) (by omega) u4 x4_2 ((wrap64 ((wrap64 (16 * t109)) + t110)) % 256) [.int .u8 ((wrap64 ((wrap64 (16 * t109)) + t110)) % 256)] (fun _ => True) (fun _ => False) rfl rfl ?aP (fun _ hk => hk.elim) ?aF ?aO ?aB ?aS ?aL ?_; (case aP => exact rfl); (case aB => exact (by repeat (first | (with_reducible first | exact HB.out | apply below_alloc | apply pw_below_drewN | apply below_drew1) | exact HB.out))); (case aF => exact (fun _ _ => trivial)); (case aO => exact (by (with_reducible repeat (first | apply Kd.R_alloc | apply Kd.R_drewN | apply Kd.R_drew)); exact HO_4.out)); (case aS => exact (below_size (by repeat (first | (with_reducible first | exact HB.out | apply below_alloc | apply pw_below_drewN | apply below_drew1) | exact HB.out)))); (case aL => have := LMc50.out; omega); intro v121 w51 ho hb hg hat; rw [← Ny120.out] at ho; have n0_ := Aside0.mk (hb); have n1_ := Aside0.mk (ho); clear HB; clear HO_4; have HB := n0_; have HO122 := n1_; clear n0_ n1_; clear ho hb hg hat)))
                                      go_roundg kj16
                                      case measure => have := HJ1.out; have := HK2.out; have := HJ16.out; omega
                                      case rel => exact ⟨(y120), (wrap64 ((ji35) + 1)), (by first | rfl | (simp; done) | (simp only [← hji35] <;> (first | rfl | simp)) | (simp [*]; done)), H', ⟨by have := HJ1.out; have := HK2.out; have := HJ16.out; omega⟩, ⟨by (with_reducible repeat (first | apply Kd.R_alloc | apply Kd.R_drewN | apply Kd.R_drew)); exact HO122.out⟩, ⟨by repeat (first | (with_reducible first | exact HB.out | apply below_alloc | apply pw_below_drewN | apply below_drew1) | exact HB.out)⟩⟩
                                    · rw [if_neg c50] at H
                                      exact absurd H (by simp)
                                · rw [if_neg c37] at H
                                  exact absurd H (by simp)
                              · rw [if_neg c36] at H
                                exact absurd H (by simp)
                            · rw [if_neg c32] at H
                              exact absurd H (by simp)
                          · rw [if_neg c31] at H
                            exact absurd H (by simp)
                  · rw [if_neg c16] at H
                    have c16b0 : ((bt a0 x5_2) == 92) = false := beq_eq_false_iff_ne.mpr c16
                    have c16b1 : ((bt a0 x5_2) != 92) = true := bne_iff_ne.mpr c16
                    by_cases c52 : (bt a0 x5_2) < 32
                    · rw [if_pos c52] at H
                      have c52b0 : decide ((bt a0 x5_2) < 32) = true := decide_eq_true c52
                      clear c52
                      simp only [Option.some.injEq, Prod.mk.injEq] at H
                      obtain ⟨rfl, rfl⟩ := H
                      have p15 : 0 ≤ (x5_2 : Int) := of_decide_eq_true (by first | (with_reducible assumption) | assumption)
                      have q15 : x5_2 < (a0.size : Int) := of_decide_eq_true (by first | (with_reducible assumption) | assumption)
                      have hx15 := bt_at a0 x5_2
                      replace p15 := eq_true p15
                      replace q15 := eq_true q15
                      go_wp2
                      repeat (go_quiet (fail); try go_wp2)
                      go_ret2
                      exact ⟨by first | rfl | (simp [errW_none, errW_some] <;> rfl) | (simp [*, errW_none, errW_some] <;> rfl), by repeat (first | (with_reducible first | exact HB.out | apply below_alloc | apply pw_below_drewN | apply below_drew1) | exact HB.out)⟩
                    · rw [if_neg c52] at H
                      have c52b0 : decide ((bt a0 x5_2) < 32) = false := decide_eq_false c52
                      clear c52
                      by_cases c53 : (bt a0 x5_2) > 126
                      · rw [if_pos c53] at H
                        have c53b0 : decide (126 < (bt a0 x5_2)) = true := decide_eq_true c53
                        clear c53
                        simp only [Option.some.injEq, Prod.mk.injEq] at H
                        obtain ⟨rfl, rfl⟩ := H
                        have p15 : 0 ≤ (x5_2 : Int) := of_decide_eq_true (by first | (with_reducible assumption) | assumption)
                        have q15 : x5_2 < (a0.size : Int) := of_decide_eq_true (by first | (with_reducible assumption) | assumption)
                        have hx15 := bt_at a0 x5_2
                        replace p15 := eq_true p15
                        replace q15 := eq_true q15
                        go_wp2
                        repeat (go_quiet (fail); try go_wp2)
                        go_ret2
                        exact ⟨by first | rfl | (simp [errW_none, errW_some] <;> rfl) | (simp [*, errW_none, errW_some] <;> rfl), by repeat (first | (with_reducible first | exact HB.out | apply below_alloc | apply pw_below_drewN | apply below_drew1) | exact HB.out)⟩
                      · rw [if_neg c53] at H
                        have c53b0 : decide (126 < (bt a0 x5_2)) = false := decide_eq_false c53
                        clear c53
                        by_cases c54 : (bt a0 x5_2) = 34
                        · rw [if_pos c54] at H
                          have c54b0 : ((bt a0 x5_2) == 34) = true := beq_iff_eq.mpr c54
                          have c54b1 : ((bt a0 x5_2) != 34) = false := bne_eq_false_iff_eq.mpr c54
                          clear c54
                          simp only [Option.some.injEq, Prod.mk.injEq] at H
                          obtain ⟨rfl, rfl⟩ := H
                          have p15 : 0 ≤ (x5_2 : Int) := of_decide_eq_true (by first | (with_reducible assumption) | assumption)
                          have q15 : x5_2 < (a0.size : Int) := of_decide_eq_true (by first | (with_reducible assumption) | assumption)
                          have hx15 := bt_at a0 x5_2
                          replace p15 := eq_true p15
                          replace q15 := eq_true q15
                          go_wp2
                          repeat (go_quiet (fail); try go_wp2)
                          go_ret2
                          exact ⟨by first | rfl | (simp [errW_none, errW_some] <;> rfl) | (simp [*, errW_none, errW_some] <;> rfl), by repeat (first | (with_reducible first | exact HB.out | apply below_alloc | apply pw_below_drewN | apply below_drew1) | exact HB.out)⟩
                        · rw [if_neg c54] at H
                          have c54b0 : ((bt a0 x5_2) == 34) = false := beq_eq_false_iff_ne.mpr c54
                          have c54b1 : ((bt a0 x5_2) != 34) = true := bne_iff_ne.mpr c54
                          by_cases c55 : x4_2.length < 140737488355328
                          · rw [if_pos c55] at H
                            have LMc55 := Aside0.mk c55
                            clear c55
                            obtain ⟨y123, hy123⟩ : ∃ y_ : List Int, y_ = (x4_2 ++ [bt a0 x5_2]) := ⟨_, rfl⟩
                            replace H : (pangramref28_Unquote.l0 k2 a0 y123 (wrap64 (x5_2 + 1))) = some (r1, r2) := by first | (rw [hy123]; with_reducible exact H) | (have H2_ := (Option.bind_some _ _).symm.trans H; rw [hy123]; with_reducible exact H2_) | (have H2_ := (Option.bind_some _ _).symm.trans H; with_reducible exact H2_) | with_reducible exact H | (rw [hy123]; exact H) | exact H
                            have Ny123 := Aside0.mk hy123
                            clear hy123
                            have H' := Aside0.mk H
                            clear H
                            have p15 : 0 ≤ (x5_2 : Int) := of_decide_eq_true (by first | (with_reducible assumption) | assumption)
                            have q15 : x5_2 < (a0.size : Int) := of_decide_eq_true (by first | (with_reducible assumption) | assumption)
                            have hx15 := bt_at a0 x5_2
                            replace p15 := eq_true p15
                            replace q15 := eq_true q15
                            go_wp2_with (first | ((with_reducible refine gate_builtin (b := .append) (xs := #[.tmp 95, .tmp 97]) rfl ?_); (try (refine gate_guard (by rfl) ?_; dsimp only)); at_builtin; refine Kd.R_append (Kd.int .u8) (w0 := w) w.heap.size rfl (.tmp 95) (.tmp 97) 47 5 (.int .u8 0) 1 rfl Tryd.underlying47 info5 rfl (by decide) (by omega) u4 x4_2 (bt a0 x5_2) [.int .u8 (bt a0 x5_2)] (fun _ => True) (fun _ => False) rfl rfl ?aP (fun _ hk => hk.elim) ?aF ?aO ?aB ?aS ?aL ?_; (case aP => exact rfl); (case aB => exact (by repeat (first | (with_reducible first | exact HB.out | apply below_alloc | apply pw_below_drewN | apply below_drew1) | exact HB.out))); (case aF => exact (fun _ _ => trivial)); (case aO => exact (by (with_reducible repeat (first | apply Kd.R_alloc | apply Kd.R_drewN | apply Kd.R_drew)); exact HO_4.out)); (case aS => exact (below_size (by repeat (first | (with_reducible first | exact HB.out | apply below_alloc | apply pw_below_drewN | apply below_drew1) | exact HB.out)))); (case aL => have := LMc55.out; omega); intro v124 w56 ho hb hg hat; rw [← Ny123.out] at ho; have n0_ := Aside0.mk (hb); have n1_ := Aside0.mk (ho); clear HB; clear HO_4; have HB := n0_; have HO125 := n1_; clear n0_ n1_; clear ho hb hg hat))
                            repeat (go_quiet (first | ((with_reducible refine gate_builtin (b := .append) (xs := #[.tmp 95, .tmp 97]) rfl ?_); (try (refine gate_guard (by rfl) ?_; dsimp only)); at_builtin; refine Kd.R_append (Kd.int .u8) (w0 := w) w.heap.size rfl (.tmp 95) (.tmp 97) 47 5 (.int .u8 0) 1 rfl Tryd.underlying47 info5 rfl (by decide) (by omega) u4 x4_2 (bt a0 x5_2) [.int .u8 (bt a0 x5_2)] (fun _ => True) (fun _ => False) rfl rfl ?aP (fun _ hk => hk.elim) ?aF ?aO ?aB ?aS ?aL ?_; (case aP => exact rfl); (case aB => exact (by repeat (first | (with_reducible first | exact HB.out | apply below_alloc | apply pw_below_drewN | apply below_drew1) | exact HB.out))); (case aF => exact (fun _ _ => trivial)); (case aO => exact (by (with_reducible repeat (first | apply Kd.R_alloc | apply Kd.R_drewN | apply Kd.R_drew)); exact HO_4.out)); (case aS => exact (below_size (by repeat (first | (with_reducible first | exact HB.out | apply below_alloc | apply pw_below_drewN | apply below_drew1) | exact HB.out)))); (case aL => have := LMc55.out; omega); intro v124 w56 ho hb hg hat; rw [← Ny123.out] at ho; have n0_ := Aside0.mk (hb); have n1_ := Aside0.mk (ho); clear HB; clear HO_4; have HB := n0_; have HO125 := n1_; clear n0_ n1_; clear ho hb hg hat)); try go_wp2_with (first | ((with_reducible refine gate_builtin (b := .append) (xs := #[.tmp 95, .tmp 97]) rfl ?_); (try (refine gate_guard (by rfl) ?_; dsimp only)); at_builtin; refine Kd.R_append (Kd.int .u8) (w0 := w) w.heap.size rfl (.tmp 95) (.tmp 97) 47 5 (.int .u8 0) 1 rfl Tryd.underlying47 info5 rfl (by decide) (by omega) u4 x4_2 (bt a0 x5_2) [.int .u8 (bt a0 x5_2)] (fun _ => True) (fun _ => False) rfl rfl ?aP (fun _ hk => hk.elim) ?aF ?aO ?aB ?aS ?aL ?_; (case aP => exact rfl); (case aB => exact (by repeat (first | (with_reducible first | exact HB.out | apply below_alloc | apply pw_below_drewN | apply below_drew1) | exact HB.out))); (case aF => exact (fun _ _ => trivial)); (case aO => exact (by (with_reducible repeat (first | apply Kd.R_alloc | apply Kd.R_drewN | apply Kd.R_drew)); exact HO_4.out)); (case aS => exact (below_size (by repeat (first | (with_reducible first | exact HB.out | apply below_alloc | apply pw_below_drewN | apply below_drew1) | exact HB.out)))); (case aL => have := LMc55.out; omega); intro v124 w56 ho hb hg hat; rw [← Ny123.out] at ho; have n0_ := Aside0.mk (hb); have n1_ := Aside0.mk (ho); clear HB; clear HO_4; have HB := n0_; have HO125 := n1_; clear n0_ n1_; clear ho hb hg hat)))
                            go_roundg k2
                            case measure => have := HJ1.out; have := HK2.out; omega
                            case rel => exact ⟨(y123), (wrap64 (x5_2 + 1)), (by first | rfl | (simp; done) | (simp [*]; done)), H', ⟨by have := HJ1.out; have := HK2.out; omega⟩, ⟨by (with_reducible repeat (first | apply Kd.R_alloc | apply Kd.R_drewN | apply Kd.R_drew)); exact HO125.out⟩, ⟨by repeat (first | (with_reducible first | exact HB.out | apply below_alloc | apply pw_below_drewN | apply below_drew1) | exact HB.out)⟩⟩
                          · rw [if_neg c55] at H
                            exact absurd H (by simp)
                · rw [if_neg c14] at H
                  exact absurd H (by simp)
              · rw [if_neg c13] at H
                exact absurd H (by simp)
            · rw [if_neg c12] at H
              have c12b0 : decide ((wrap64 (x5_2 + 1)) < (a0.size : Int)) = false := decide_eq_false c12
              clear c12
              simp only [Option.some.injEq, Prod.mk.injEq] at H
              obtain ⟨rfl, rfl⟩ := H
              have hcv57 := own_string (P := Tryd.prog) Tryd.underlying47 Tryd.underlying5 Tryd.underlying9 (Kd.own_of_R HO_4.out)
              go_wp2
              repeat (go_quiet (fail); try go_wp2)
              go_ret2
              exact ⟨by first | rfl | (simp [errW_none, errW_some] <;> rfl) | (simp [*, errW_none, errW_some] <;> rfl), by repeat (first | (with_reducible first | exact HB.out | apply below_alloc | apply pw_below_drewN | apply below_drew1) | exact HB.out)⟩

end Go.Proofs.YtelehacakbaobaaDoor.PR
