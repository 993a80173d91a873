/- For any two acts tape.Line tells the line that the document's answer tells, or the same error's number; the line is read again as the act; two acts are told to be the same just if they are: pangramlaw28.TapeLines returns true. Conditions: the listed package-level variables hold what the program's text lays (the card ties them). -/
import Derived.Test.YtelehacakbaobaaDoorMLines
import Derived.Test.YtelehacakbaobaaDoorTie
import Derived.Test.YtelehacakbaobaaDoorCards
import Derived.SevenTiedAt

namespace Go.Proofs.YtelehacakbaobaaDoor
open Go.ChangeShapes Go.WideShapes Go.ChangeAt Go.RowKit
set_option linter.unusedVariables false

def zeroActV : Value := .agg #[.int .i64 0, .string ⟨#[]⟩, .int .i64 0, .int .i64 0, .string ⟨#[]⟩, .int .i64 0, .int .i64 0, .int .i64 0, .int .i64 0]
theorem own : ownKnob Tryd.prog.godebug = none := by kernel_rfl
theorem door_met (os : Os) (args : Array Value) : laidMetH Tryd.prog (laidL Unit) ((World.doorLaid Tryd.prog 400 os).forCall (fun _ _ => 0) ⟨#[], args, []⟩).memory :=
  laidMetH_of_parts3 (fuel := 8) (laidMet_of_run' 8 (by kernel_rfl) (by kernel_rfl)) (by kernel_rfl) (by kernel_rfl)
theorem paramsL : Tryd.f4.params = #[26, 26] := by kernel_rfl

theorem act_read : Tryd.prog.readableRec 26 = true ∧ 26 < Tryd.prog.types.size := ⟨by kernel_rfl, of_decide_eq_true (by kernel_rfl)⟩
theorem readL : ∀ t ∈ Tryd.f4.params.toList, Tryd.prog.readableRec t = true ∧ t < Tryd.prog.types.size := by
  rw [paramsL]
  intro t ht
  have h : t = 26 := by simpa using ht
  subst h
  exact act_read
theorem specL {H : Type} (ds : List (DataW H)) (h : ds.length = Tryd.f4.params.size) : Rows.tapeLinesSpec.fn H ds = { results := [.lit (.bool true)], args := ds } := by
  rw [paramsL] at h
  match ds, h with
  | [x, y], _ => rfl
set_option maxRecDepth 100000 in
theorem lines_lifted (os : Os) (started : os.Started) (H : Type) (enc : TypeId × Value → H) :
    ReturnsInHanded {} Tryd.checked os 4 .any (fun w args => (Rows.tapeLinesSpec.pre enc Tryd.prog Tryd.f4 [] false w args ∧ laidMetH Tryd.prog (laidL Unit) w) ∧ sizedMet enc Tryd.prog Tryd.f4 (OpenSpec.ofChange Rows.tapeLinesSpec) false w args)
      (Rows.tapeLinesSpec.post enc Tryd.prog Tryd.f4 false true false false) := by
  refine returns_laid (C := Tryd.checked) own started (by kernel_rfl) Tryd.func4
    (ChangeSpec.witness_shaped (enc := enc) (C := Tryd.checked) (os := os) (X := fun w _ => laidMetH Tryd.prog (laidL Unit) w) false (World.doorLaid Tryd.prog 400 os) #[zeroActV, zeroActV] 8 rfl (World.shaped_of_RefB (by kernel_rfl) (by kernel_rfl)) (by kernel_rfl) (by kernel_rfl) (by kernel_rfl) (door_met os _)) ?_
  intro W base args ds gs before hval0 hW _ hsz0 hL hsh
  have hG := gw_of_laid hL hsh
  have hval : ∀ (j : Nat) t v, Tryd.f4.params[j]? = some t → args[j]? = some v → Value.okWide Tryd.prog W .any base t v := hval0
  have hW' := hW
  obtain ⟨p, q, hA0, hV, rfl, hfz, hnd⟩ := hW
  have hA : DataW.TrodAll enc Tryd.prog W 0 (fun _ => true) true Tryd.f4.params.toList args.toList ds p := hA0
  have hsz : (DataW.weightsEach Tryd.prog (Tryd.f4.params.toList ++ Rows.tapeLinesSpec.plain.varTypes Tryd.prog) (ds ++ gs)).all (· ≤ reachBytes) = true := hsz0
  rw [paramsL] at hA hval hsz
  obtain ⟨v0, v1, d0, d1, p0, p1, rfl, rfl, rfl, h0, h1⟩ := trodAll_two hA
  obtain ⟨rfl, rfl⟩ := trodVars_none hV
  have hw0 : (d0.weights Tryd.prog 26).all (· ≤ reachBytes) = true ∧ (d1.weights Tryd.prog 26).all (· ≤ reachBytes) = true := by
    simp only [List.cons_append, List.nil_append, List.append_nil, DataW.weightsEach, List.all_append, Bool.and_eq_true] at hsz
    exact ⟨hsz.1, hsz.2.1⟩
  obtain ⟨a, rfl, ha⟩ := open_act (hval 0 _ v0 rfl rfl) h0 hw0.1
  obtain ⟨o, rfl, ho⟩ := open_act (hval 1 _ v1 rfl rfl) h1 hw0.2
  refine (lines_any a o ha ho W hG).mono fun e W' ⟨he, hb⟩ => ?_
  subst he
  exact ⟨_, rfl, law_post (tb := 4) (by kernel_rfl) readL rfl (by kernel_rfl) (by kernel_rfl) specL hW' hb⟩

theorem tapeLines_holds : Rows.TapeLinesSaid :=
  OpenClaim.holds_of_wide 4 Tryd.f4 rfl rfl rfl rfl rfl rfl rfl ⟨rfl, rfl, rfl, rfl, rfl⟩ rfl rfl rfl rfl rfl (by kernel_rfl) Tryd.func4 (by kernel_rfl)
    (of_decide_eq_true (by kernel_rfl)) (by unfold Func.isWrapper; first | (rw [if_pos (by decide +kernel)]; kernel_rfl) | (rw [if_neg (by decide +kernel)]; exact ⟨rfl, rfl⟩))
    (fun os started H enc _ => lines_lifted os started H enc)
theorem tapeLines_card : Rows.TapeLinesCardSaid :=
  Claim7.holds_tied_plain_at .later [] [.data, .data, .data, .sentinel, .sentinel, .listed, .data, .data] true (true, "1880a72377a3068533b8b8fec0c49885f5f4f4dcb67f96d60b5d8689a3acfdc7") true
    tapeLines_holds (fun _ h => by cases h) (by kernel_rfl) (fun _ h => by cases h) tapeLines_row_tie rfl ⟨rfl, rfl⟩ (by kernel_rfl) rfl
    (fun f fn hf hfn => by
      obtain rfl : f = 4 := Option.some.inj ((show Tryd.prog.funcNamed "pangram/pangramlaw28.TapeLines" = some 4 by kernel_rfl).symm.trans hf) |>.symm
      obtain rfl : fn = Tryd.f4 := (Option.some.inj (Tryd.func4.symm.trans hfn)).symm
      exact ⟨by kernel_rfl, fun j t ht => by
        rw [paramsL] at ht
        have hm : t ∈ [26] := by have := Array.mem_of_getElem? ht; simpa using this
        have hall : ([26].all fun u => !Tryd.prog.wantsStandIn u) = true := by kernel_rfl
        exact (show Tryd.prog.wantsStandIn t = false by simpa using List.all_eq_true.1 hall t hm)⟩)
    (by kernel_rfl)
#print axioms tapeLines_card
end Go.Proofs.YtelehacakbaobaaDoor
