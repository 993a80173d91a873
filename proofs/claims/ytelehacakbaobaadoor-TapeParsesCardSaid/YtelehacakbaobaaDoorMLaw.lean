/- What the listed package-level variables give the calls of this claim, and the frame of a proof of a row: the variables' contents and the world's shape, both handed to the walk. An act that comes in: its cells; how it reads; how large it is. pangramlaw28.great at two acts. pangramlaw28.great at two acts. -/
import Derived.Test.YtelehacakbaobaaDoorRows
import Derived.Test.YtelehacakbaobaaDoorMBase
import Derived.ProofKit
import Derived.LaidMore
import Derived.OpenShut
import Derived.Stop.LaidErr
import Derived.HandedShaped
import Derived.Stop.Joined
import Derived.WideKeyArgs
import Derived.ChangeSame
import Derived.Below
import Derived.Test.YtelehacakbaobaaDoorPRx5

namespace Go.Proofs.YtelehacakbaobaaDoor
open Go.ChangeShapes Go.WideShapes Go.ChangeAt Go.RowKit
set_option linter.unusedVariables false

/-- A table of pairs of strings, as data. -/
def pairData {H : Type} (l : List (List UInt8 × List UInt8)) : DataW H := .agg (l.map fun x => .agg [.lit (.string x.1), .lit (.string x.2)])
theorem str_one {H : Type} {enc : TypeId × Value → H} {P : Program} {w : World} {base : Nat} {sp : Nat → Bool} {held : Bool} {m : Nat} {s : TypeId} {cs : List Value} {x : List UInt8} {y : DataW H × List MemPlace}
    (hs : P.underlying s = some .string) (hy : y.1 = .lit (.string x)) (h : DataW.trod enc P w base sp held m s cs = some y) : cs = [.string ⟨x.toArray⟩] := by
  obtain ⟨b, hb, rfl, _⟩ := DataW.trod_string hs h
  simp only [DataW.lit.injEq, Lit.string.injEq] at hy
  subst hy
  rw [hb]
theorem pair_one {H : Type} {enc : TypeId × Value → H} {P : Program} {w : World} {base : Nat} {sp : Nat → Bool} {held : Bool} {m : Nat} {e s : TypeId} {cs : List Value} {a b : List UInt8} {y : DataW H × List MemPlace}
    (he : P.underlying e = some (.array 2 s)) (hs : P.underlying s = some .string) (hcs : P.cellsOf s = 1) (hce : P.cellsOf e = 2)
    (hy : y.1 = .agg [.lit (.string a), .lit (.string b)]) (h : DataW.trod enc P w base sp held m e cs = some y) : cs = [.string ⟨a.toArray⟩, .string ⟨b.toArray⟩] := by
  obtain ⟨xs, n, rfl, rfl, hl, hx, hel⟩ := DataW.trod_array he h
  simp only [DataW.agg.injEq] at hy
  rw [hce] at hl
  match xs, hx with
  | [y0, y1], _ =>
    simp only [List.map_cons, List.map_nil, List.cons.injEq, and_true] at hy
    match cs, hl with
    | [c0, c1], _ =>
      have h0 := hel 0 (by omega)
      have h1 := hel 1 (by omega)
      rw [hcs] at h0 h1
      have e0 := str_one hs hy.1 h0
      have e1 := str_one hs hy.2 h1
      simp at e0 e1
      rw [e0, e1]
theorem pairs_cells {H : Type} {enc : TypeId × Value → H} {P : Program} {w : World} {base : Nat} {sp : Nat → Bool} {held : Bool} {fuel : Nat} {t e s : TypeId} {n : Nat} {cs : List Value} {l : List (List UInt8 × List UInt8)} {p : List MemPlace}
    (ht : P.underlying t = some (.array n e)) (he : P.underlying e = some (.array 2 s)) (hs : P.underlying s = some .string) (hcs : P.cellsOf s = 1) (hce : P.cellsOf e = 2)
    (h : DataW.trod enc P w base sp held fuel t cs = some (pairData l, p)) (j : Nat) (hj : j < l.length) : cs[j * 2]? = some (.string ⟨(l[j].1).toArray⟩) ∧ cs[j * 2 + 1]? = some (.string ⟨(l[j].2).toArray⟩) := by
  obtain ⟨xs, m, rfl, hx, hl, hxn, hel⟩ := DataW.trod_array ht h
  simp only [pairData, Prod.mk.injEq, DataW.agg.injEq] at hx
  have hlen : l.length = xs.length := by have := congrArg List.length hx.1; simpa using this
  have hj2 : j < xs.length := by omega
  have hm := hel j (by omega)
  rw [List.getElem?_eq_getElem hj2, hce] at hm
  have hy : (xs[j]).1 = .agg [.lit (.string l[j].1), .lit (.string l[j].2)] := by
    have := congrArg (·[j]?) hx.1
    simp only [List.getElem?_map, List.getElem?_eq_getElem hj2, List.getElem?_eq_getElem hj, Option.map_some, Option.some.injEq] at this
    exact this.symm
  have h2 := pair_one he hs hcs hce hy hm
  have a0 := congrArg (·[0]?) h2
  have a1 := congrArg (·[1]?) h2
  simp only [List.getElem?_take, List.getElem?_drop, List.getElem?_cons_zero, List.getElem?_cons_succ] at a0 a1
  rw [if_pos (by omega)] at a0 a1
  exact ⟨by simpa using a0, a1⟩

def usePairs : List (List UInt8 × List UInt8) := [([], []), ([111, 112, 101, 110], [110, 116]), ([101, 100, 105, 116], [110, 102, 111, 116]), ([99, 108, 111, 115, 101], [110]), ([99, 104, 101, 99, 107], [110]), ([114, 117, 110], [110, 117]), ([108, 105, 109, 105, 116], [108]), ([108, 105, 115, 116], [])]
theorem uses_data {H : Type} : (Rows.laid_pangram_tape_uses : DataW H) = pairData usePairs := rfl
theorem uses_tab (i : Nat) (h : i < 16) : useTab.getD i [] = if i % 2 = 0 then (usePairs.getD (i / 2) ([], [])).1 else (usePairs.getD (i / 2) ([], [])).2 := by
  have hh : ∀ j : Fin 16, useTab.getD j.val [] = if j.val % 2 = 0 then (usePairs.getD (j.val / 2) ([], [])).1 else (usePairs.getD (j.val / 2) ([], [])).2 := by decide +kernel
  exact hh ⟨i, h⟩
abbrev laidL (H : Type) : List (String × DataW H) := [("math/bits.deBruijn32tab", Rows.laid_math_bits_deBruijn32tab), ("math/bits.deBruijn64tab", Rows.laid_math_bits_deBruijn64tab), ("internal/strconv.uint64pow10", Rows.laid_internal_strconv_uint64pow10), ("strconv.ErrRange", Rows.laid_strconv_ErrRange), ("strconv.ErrSyntax", Rows.laid_strconv_ErrSyntax), ("unicode.White_Space", Rows.laid_unicode_White_Space), ("strings.asciiSpace", Rows.laid_strings_asciiSpace), ("pangram/tape.uses", Rows.laid_pangram_tape_uses)]

theorem gUses : Tryd.prog.globalNamed "pangram/tape.uses" = some 0 := by kernel_rfl
theorem gSpace : Tryd.prog.globalNamed "strings.asciiSpace" = some 2 := by kernel_rfl
theorem gPow : Tryd.prog.globalNamed "internal/strconv.uint64pow10" = some 4 := by kernel_rfl
theorem gSyn : Tryd.prog.globalNamed "strconv.ErrSyntax" = some 5 := by kernel_rfl
theorem gRng : Tryd.prog.globalNamed "strconv.ErrRange" = some 6 := by kernel_rfl
theorem errStar : "*" ++ "errors.errorString" = "*errors.errorString" := by decide
theorem errRow (u : TypeId) (h : Tryd.prog.typeName? 3 u = some "*errors.errorString") : u = 142 :=
  typeName_ptr_named (nm := "errors.errorString") (by rw [errStar]; kernel_rfl) (by kernel_rfl) (by decide) u (by rw [errStar]; exact h)
theorem laid_plain : ((laidL Unit).all fun x => x.2.handleName?.isNone) = true := by kernel_rfl

set_option maxRecDepth 100000 in
theorem gw_of_laid {W : World} (hL : laidMetH Tryd.prog (laidL Unit) W) (hsh : W.ShapedOpen Tryd.prog) : GW W := by
  rw [MakeChecks.laidMetH_plain _ _ _ laid_plain] at hL
  have h3 := hL.tail.tail
  have h4 := h3.tail
  have h5 := h4.tail
  have h7 := h5.tail.tail
  have h8 := h7.tail
  have gs : 13 < W.heap.size := by
    have hl : 13 < (begin Tryd.prog (fun _ _ => 0) default).world.heap.size := Nat.le_of_ble_eq_true (by kernel_rfl)
    have hg : Tryd.prog.globals.size ≤ 13 := Nat.le_of_ble_eq_true (by kernel_rfl)
    obtain ⟨o, _, ho, _⟩ := hsh.2 13 hg hl
    exact lt_of_block ho
  refine ⟨hsh, ?_, ?_, ?_, ?_, ?_, gs⟩
  · obtain ⟨ps, ⟨g, t, cs, fuel, p, q, hg, ht, hvar, hd, _, _⟩, _, _⟩ := h8
    obtain rfl := Option.some.inj (gUses.symm.trans hg)
    obtain rfl := Option.some.inj ((show (Tryd.prog.globals[0]?).map (·.type) = some 56 by kernel_rfl).symm.trans ht)
    rw [uses_data] at hd
    intro i hi
    have hc := World.var?_cell hg hvar i
    have hp := pairs_cells Tryd.underlying56 Tryd.underlying55 Tryd.underlying9 (show Tryd.prog.cellsOf 9 = 1 by kernel_rfl) (show Tryd.prog.cellsOf 55 = 2 by kernel_rfl) hd (i / 2) (by show i / 2 < 8; omega)
    rw [uses_tab i hi]
    have hlt : i / 2 < usePairs.length := by show i / 2 < 8; omega
    rw [List.getD_eq_getElem?_getD, List.getElem?_eq_getElem hlt]
    by_cases he : i % 2 = 0
    · rw [if_pos he]
      have : i / 2 * 2 = i := by omega
      rw [this] at hp
      rw [hc]; simpa using hp.1
    · rw [if_neg he]
      have : i / 2 * 2 + 1 = i := by omega
      rw [this] at hp
      rw [hc]; simpa using hp.2
  · exact Lib.tabIs_of_head gSpace (by kernel_rfl) Tryd.underlying98 (by kernel_rfl) (by kernel_rfl) (by kernel_rfl) h7
  · exact Lib.tabIs_of_head gPow (by kernel_rfl) Tryd.underlying121 (by kernel_rfl) (by kernel_rfl) (by kernel_rfl) h3
  · obtain ⟨a, _, hv, _⟩ := laid_sentinel h5 gSyn (show (Tryd.prog.globals[5]?).map (·.type) = some 74 by kernel_rfl) Tryd.underlying74 errRow Tryd.underlying142 Tryd.underlying144 rfl rfl Tryd.underlying9 (by kernel_rfl) (by kernel_rfl)
    exact ⟨_, _, hv⟩
  · obtain ⟨a, _, hv, _⟩ := laid_sentinel h4 gRng (show (Tryd.prog.globals[6]?).map (·.type) = some 74 by kernel_rfl) Tryd.underlying74 errRow Tryd.underlying142 Tryd.underlying144 rfl rfl Tryd.underlying9 (by kernel_rfl) (by kernel_rfl)
    exact ⟨_, _, hv⟩

/-- THE FRAME: the walk is handed the sizes, the listed variables' contents and the world's shape. -/
theorem returns_laid {H : Type} {enc : TypeId × Value → H} {a : Assume} {C : Checked} {os : Os} {f : FuncId} {fn : Func} {s : ChangeSpec} {conds : List PathCond} {apart fresh handsOn again : Bool} {laid : List (String × DataW Unit)}
    (own : ownKnob C.prog.godebug = none) (started : os.Started) (noInit : C.prog.inits.idxOf? f = none) (hfn : C.prog.funcs[f]? = some fn)
    (witness : ∃ (w : World) (tape : Tape) (i : Input), w.os = os ∧ (w.forCall tape i).Shaped C.prog ∧ i.vars = [] ∧ Input.okWide C.prog (w.forCall tape i) .any w.heap.size f i ∧
      ((s.pre enc C.prog fn conds apart (w.forCall tape i).memory i.args ∧ laidMetH C.prog laid (w.forCall tape i).memory) ∧ sizedMet enc C.prog fn (OpenSpec.ofChange s) apart (w.forCall tape i).memory i.args) ∧ a.holds C.prog (lone (Frame.enter C.prog f i.args .normal) [] (w.forCall tape i)))
    (contract : ∀ (W : World) (base : Nat) (args : Array Value) (ds gs : List (DataW H)) (before : List MemPlace),
      (∀ (j : Nat) t v, fn.params[j]? = some t → args[j]? = some v → Value.okWide C.prog W .any base t v) →
      DataW.Whole enc C.prog fn.params.toList s.vars apart W args.toList ds gs before →
      conds.all (PathCond.test C.prog ⟨fn.params.toList, ds, s.plain.varTypes C.prog, gs⟩) = true →
      (DataW.weightsEach C.prog (fn.params.toList ++ s.plain.varTypes C.prog) (ds ++ gs)).all (· ≤ reachBytes) = true → laidMetH C.prog laid W → W.ShapedOpen C.prog →
      Calls C.prog f args W fun e W' => ∃ v, e = .returned v ∧ s.post enc C.prog fn apart fresh handsOn again W args v W') :
    ReturnsInHanded a C os f .any (fun w args => (s.pre enc C.prog fn conds apart w args ∧ laidMetH C.prog laid w) ∧ sizedMet enc C.prog fn (OpenSpec.ofChange s) apart w args) (s.post enc C.prog fn apart fresh handsOn again) := by
  refine returnsInHanded_of_calls own started noInit witness ?_
  intro w tape i _ hsh _ hok hpre hholds
  obtain ⟨_, _, _, fn', hfn', _, _, _, _, hval⟩ := hok
  have e : fn' = fn := Option.some.inj (hfn'.symm.trans hfn)
  subst e
  obtain ⟨⟨⟨ds, gs, before, hw, hc⟩, hx⟩, hz⟩ := hpre
  have hw' := DataW.Whole.of_heap (w' := w.forCall tape i) (by rfl) hw
  refine (contract (w.forCall tape i) w.heap.size i.args ds gs before hval hw' hc (hz.weights hw) (laidMetH.of_heap (by rfl) hx) hsh).mono fun e W' ⟨v, he, hp⟩ => ?_
  subst he
  exact ChangeSpec.post_blind hp

section
variable {H : Type} {enc : TypeId × Value → H} {P : Program}
theorem trodAll_stays (hl : laidOutB P = true) {W W' : World} {sp' : Nat → Bool} {base : Nat} : ∀ (ts : List TypeId) (vs : List Value) (ds : List (DataW H)) (ps : List MemPlace), (∀ t ∈ ts, P.readableRec t = true ∧ t < P.types.size) →
    DataW.TrodAll enc P W base (fun _ => true) true ts vs ds ps → (∀ p ∈ ps, W.sameAt W' p) → (∀ p ∈ ps, sp' p.block = true) → DataW.TrodAll enc P W' base sp' true ts vs ds ps
  | [], vs, ds, ps, _, h, _, _ => by
    obtain ⟨rfl, rfl, rfl⟩ := trodAll_nil h
    exact rfl
  | t :: ts, vs, ds, ps, ht, h, h1, h2 => by
    obtain ⟨v, vs', d, ds', p, q, rfl, rfl, rfl, hd, hr⟩ := trodAll_cons h
    exact ⟨p, q, WideElems.Trod_stays hl (ht t (by simp)).1 (ht t (by simp)).2 hd (fun x hx => h1 x (by simp [hx])) (fun x hx => h2 x (by simp [hx])), trodAll_stays hl ts vs' ds' q (fun t' h' => ht t' (by simp [h'])) hr (fun x hx => h1 x (by simp [hx])) (fun x hx => h2 x (by simp [hx])), rfl⟩
theorem trodAll_len {w : World} {base : Nat} {sp : Nat → Bool} {held : Bool} : ∀ {ts : List TypeId} {vs : List Value} {ds : List (DataW H)} {ps : List MemPlace}, DataW.TrodAll enc P w base sp held ts vs ds ps → ds.length = ts.length
  | [], _, _, _, h => by
    obtain ⟨rfl, rfl, _⟩ := trodAll_nil h
    rfl
  | _ :: _, _, _, _, h => by
    obtain ⟨v, vs1, d, ds1, a, b, rfl, rfl, rfl, _, h2⟩ := trodAll_cons h
    have := trodAll_len h2
    simp [this]
theorem post_of_below {f : Func} {s : ChangeSpec} {apart fresh handsOn again : Bool} {W W' : World} {args : Array Value} {v : Value} {ds gs : List (DataW H)} {before pa pv : List MemPlace}
    (hW : DataW.Whole enc P f.params.toList s.vars apart W args.toList ds gs before)
    (hres : ∀ (b : Nat) (sp : Nat → Bool) (hd : Bool), DataW.TrodAll enc P W' b sp hd f.resultTypes.toList (v.resultList f.resultTypes.size) (s.fn H (ds ++ gs)).results [])
    (hargs : ∀ sp : Nat → Bool, (∀ p ∈ before, sp p.block = true) → DataW.TrodAll enc P W' 0 sp true f.params.toList args.toList (s.fn H (ds ++ gs)).args pa)
    (hvars : ∀ sp : Nat → Bool, (∀ p ∈ before, sp p.block = true) → DataW.TrodVars enc P W' sp s.vars (s.fn H (ds ++ gs)).vars pv)
    (hps : before = pa ++ pv) (hb : Below W.heap.size W W')
    (hok : ∀ (j : Nat) (t : TypeId) (r : Value), f.resultTypes[j]? = some t → (v.resultList f.resultTypes.size)[j]? = some r → Value.okWide P W' .any 0 t r) :
    s.post enc P f apart fresh handsOn again W args v W' := by
  have hlt : ∀ p ∈ before, p.block < W.heap.size := fun p hp => hW.lt p hp
  have hold : ∀ p ∈ before, (fun b => decide (b < W.heap.size)) p.block = true := fun p hp => by simpa using hlt p hp
  refine ⟨ds, gs, before, [], pa, pv, hW, hres _ _ _, hargs _ hold, hvars _ hold, World.keptBut_mono (fun p hp => ⟨hp, ?_⟩) (hb.frame (· ∈ before)), fun _ => ?_⟩
  · rw [hps, List.mem_append] at hp
    exact Or.inr hp
  · obtain ⟨_, _, _, _, _, hz, hn⟩ := hW
    refine ⟨hok, _, _, ([] ++ pa) ++ pv, ⟨[] ++ pa, pv, trodAll_append (hargs _ (fun _ _ => rfl)) (hres _ _ _), hvars _ (fun _ _ => rfl), rfl, ?_, ?_⟩, ?_⟩
    · intro b off hp
      have hin : MemPlace.cell b off ∈ before := by rw [hps]; simpa using hp
      rw [hb.frozen (hlt _ hin)]
      exact hz b off hin
    · intro ha
      have := hn ha
      rw [hps] at this
      simpa using this
    · intro p hp _
      rw [hps]
      simpa using hp
/-- The law's post: true, the arguments read as before. -/
theorem law_post {f : Func} {s : ChangeSpec} {apart fresh handsOn again : Bool} {W W' : World} {args : Array Value} {ds gs : List (DataW H)} {before : List MemPlace} {tb : TypeId}
    (hl : laidOutB P = true) (ht : ∀ t ∈ f.params.toList, P.readableRec t = true ∧ t < P.types.size) (hv : s.vars = []) (hr : f.resultTypes = #[tb]) (hb4 : P.underlying tb = some .bool)
    (hs : ∀ ds : List (DataW H), ds.length = f.params.size → s.fn H ds = { results := [.lit (.bool true)], args := ds })
    (hW : DataW.Whole enc P f.params.toList s.vars apart W args.toList ds gs before) (hb : Below W.heap.size W W') :
    s.post enc P f apart fresh handsOn again W args (.bool true) W' := by
  have hW' := hW
  have hlt : ∀ p ∈ before, p.block < W.heap.size := fun p hp => hW.lt p hp
  obtain ⟨p, q, hA, hV, rfl, _, _⟩ := hW
  rw [hv] at hV
  obtain ⟨rfl, rfl⟩ := trodVars_none hV
  have hlen := trodAll_len hA
  have hfn : s.fn H (ds ++ []) = { results := [.lit (.bool true)], args := ds } := by rw [List.append_nil]; exact hs ds (by rw [hlen]; simp)
  refine post_of_below (pa := p) (pv := []) hW' ?_ ?_ ?_ rfl hb ?_
  · intro b sp hd
    rw [hfn, hr]
    exact trodAll_mk1 (shut_bool hb4 _)
  · intro sp hsp
    rw [hfn]
    exact trodAll_stays hl _ _ _ _ ht hA (fun x hx => hb.same (hlt x (by simpa using hx))) (fun x hx => hsp x (by simpa using hx))
  · intro sp _
    rw [hfn, hv]
    exact rfl
  · exact ok_one hr rfl (okWide_bool_mk hb4 _)
end
end Go.Proofs.YtelehacakbaobaaDoor

namespace Go.Proofs.YtelehacakbaobaaDoor
open Go.ChangeShapes Go.WideShapes Go.ChangeAt Go.RowKit
set_option linter.unusedVariables false
set_option linter.unusedSimpArgs false

/-- An act as it may come in: its numbers are ints, its texts can be held. -/
structure TAct.Wide (a : TAct) : Prop where
  kind : -9223372036854775808 ≤ a.kind ∧ a.kind ≤ 9223372036854775807
  frm : -9223372036854775808 ≤ a.frm ∧ a.frm ≤ 9223372036854775807
  til : -9223372036854775808 ≤ a.til ∧ a.til ≤ 9223372036854775807
  n : -9223372036854775808 ≤ a.n ∧ a.n ≤ 9223372036854775807
  l1 : -9223372036854775808 ≤ a.l1 ∧ a.l1 ≤ 9223372036854775807
  l2 : -9223372036854775808 ≤ a.l2 ∧ a.l2 ≤ 9223372036854775807
  l3 : -9223372036854775808 ≤ a.l3 ∧ a.l3 ≤ 9223372036854775807
  name : a.name.length ≤ 140737488351232
  text : a.text.length ≤ 140737488351232
theorem wf_i64 {k : Int} (h : (Lit.int .i64 k).wf = true) : -9223372036854775808 ≤ k ∧ k ≤ 9223372036854775807 := by
  have h1 : IntKind.i64.min = -9223372036854775808 := by decide
  have h2 : IntKind.i64.max = 9223372036854775807 := by decide
  simp only [Lit.wf, Bool.and_eq_true, decide_eq_true_iff] at h
  omega
theorem list_of (s : ByteArray) : (⟨(s.data.toList).toArray⟩ : ByteArray) = s := by cases s; simp
theorem list9 {α : Type} {l : List α} (h : l.length = 9) : ∃ a b c d e f g i j, l = [a, b, c, d, e, f, g, i, j] := by
  match l, h with
  | [a, b, c, d, e, f, g, i, j], _ => exact ⟨a, b, c, d, e, f, g, i, j, rfl⟩
theorem list7 {α : Type} {l : List α} (h : l.length = 7) : ∃ a b c d e f g, l = [a, b, c, d, e, f, g] := by
  match l, h with
  | [a, b, c, d, e, f, g], _ => exact ⟨a, b, c, d, e, f, g, rfl⟩
theorem list3 {α : Type} {l : List α} (h : l.length = 3) : ∃ a b c, l = [a, b, c] := by
  match l, h with
  | [a, b, c], _ => exact ⟨a, b, c, rfl⟩
theorem cInt : Tryd.prog.cellsOf 3 = 1 := by kernel_rfl
theorem cStr : Tryd.prog.cellsOf 9 = 1 := by kernel_rfl
theorem cLim : Tryd.prog.cellsOf 24 = 3 := by kernel_rfl
theorem cAct : Tryd.prog.cellsOf 26 = 9 := by kernel_rfl
section
variable {H : Type} {enc : TypeId × Value → H}
theorem one_int {W : World} {base : Nat} {sp : Nat → Bool} {held : Bool} {n : Nat} {c : Value} {y : DataW H × List MemPlace} (h : DataW.trod enc Tryd.prog W base sp held n 3 [c] = some y) : ∃ k, c = .int .i64 k ∧ -9223372036854775808 ≤ k ∧ k ≤ 9223372036854775807 := by
  obtain ⟨k, h1, _, h3⟩ := DataW.trod_int Tryd.underlying3 h
  exact ⟨k, by simpa using h1, wf_i64 h3⟩
theorem one_str {W : World} {base : Nat} {sp : Nat → Bool} {held : Bool} {n : Nat} {c : Value} {y : DataW H × List MemPlace} (h : DataW.trod enc Tryd.prog W base sp held n 9 [c] = some y) : ∃ l : Bs, c = .string ⟨l.toArray⟩ ∧ y.1 = .lit (.string l) := by
  obtain ⟨s, h1, rfl, h3⟩ := DataW.trod_string Tryd.underlying9 h
  exact ⟨s.data.toList, by rw [list_of]; simpa using h1, rfl⟩
set_option maxRecDepth 100000 in
theorem open_act {W : World} {r : Reach} {b0 base : Nat} {sp : Nat → Bool} {held : Bool} {v : Value} {d : DataW H} {p : List MemPlace} (hv : Value.okWide Tryd.prog W r b0 26 v)
    (h : DataW.Trod enc Tryd.prog W base sp held 26 v d p) (hw : (d.weights Tryd.prog 26).all (· ≤ reachBytes) = true) : ∃ a : TAct, v = .agg (cellsA a) ∧ a.Wide := by
  obtain ⟨cs, rfl, hsz⟩ := okWide_struct Tryd.underlying26 hv
  obtain ⟨l⟩ := cs
  obtain ⟨c0, c1, c2, c3, c4, c5, c6, c7, c8, rfl⟩ := list9 (hsz.trans cAct)
  obtain ⟨fuel, hf⟩ := h
  obtain ⟨xs, n, rfl, hx, _, hxs, hel⟩ := DataW.trod_struct Tryd.underlying26 hf
  obtain ⟨x0, x1, x2, x3, x4, x5, x6, rfl⟩ := list7 hxs
  simp only [Prod.mk.injEq, List.map_cons, List.map_nil] at hx
  have e0 := hel 0 _ rfl
  have e1 := hel 1 _ rfl
  have e2 := hel 2 _ rfl
  have e3 := hel 3 _ rfl
  have e4 := hel 4 _ rfl
  have e5 := hel 5 _ rfl
  have e6 := hel 6 _ rfl
  simp only [cInt, cStr, cLim, Value.cells, List.drop_zero, List.drop_succ_cons, List.take_succ_cons, List.take_zero, List.getElem?_cons_zero, List.getElem?_cons_succ] at e0 e1 e2 e3 e4 e5 e6
  obtain ⟨kind, rfl, hkind⟩ := one_int e0
  obtain ⟨name, rfl, hname⟩ := one_str e1
  obtain ⟨frm, rfl, hfrm⟩ := one_int e2
  obtain ⟨til, rfl, htil⟩ := one_int e3
  obtain ⟨text, rfl, htext⟩ := one_str e4
  obtain ⟨nn, rfl, hnn⟩ := one_int e5
  obtain ⟨ys, m, rfl, hy, _, hys, hel2⟩ := DataW.trod_struct Tryd.underlying24 e6
  obtain ⟨y0, y1, y2, rfl⟩ := list3 hys
  have g0 := hel2 0 _ rfl
  have g1 := hel2 1 _ rfl
  have g2 := hel2 2 _ rfl
  simp only [cInt, List.drop_zero, List.drop_succ_cons, List.take_succ_cons, List.take_zero, List.getElem?_cons_zero, List.getElem?_cons_succ] at g0 g1 g2
  obtain ⟨l1, rfl, hl1⟩ := one_int g0
  obtain ⟨l2, rfl, hl2⟩ := one_int g1
  obtain ⟨l3, rfl, hl3⟩ := one_int g2
  rw [hx.1] at hw
  simp only [DataW.weights, Tryd.underlying26, List.map_cons, List.map_nil, DataW.weightsEach, hname, htext, List.all_append, List.all_cons, List.all_nil, Bool.and_eq_true, decide_eq_true_iff, Bool.and_true] at hw
  refine ⟨⟨kind, name, frm, til, text, nn, l1, l2, l3⟩, rfl, ⟨hkind, hfrm, htil, hnn, hl1, hl2, hl3, ?_, ?_⟩⟩
  · have : name.length ≤ reachBytes := by simp_all
    exact Nat.le_trans this (by decide)
  · have : text.length ≤ reachBytes := by simp_all
    exact Nat.le_trans this (by decide)
end
end Go.Proofs.YtelehacakbaobaaDoor

namespace Go.Proofs.YtelehacakbaobaaDoor
open Go.RowKit
set_option linter.unusedVariables false
set_option linter.unusedSimpArgs false

/-- An act, as the printed functions spell it. -/
def sA (a : TAct) : PR.S26 := ⟨a.kind, ⟨a.name.toArray⟩, a.frm, a.til, ⟨a.text.toArray⟩, a.n, ⟨a.l1, a.l2, a.l3⟩⟩
def bulk (a : TAct) : Nat := a.name.length + a.text.length
theorem sA_f1 (a : TAct) : ((sA a).f1.size : Int) = a.name.length := by show ((a.name.toArray).size : Int) = _; simp
theorem sA_f4 (a : TAct) : ((sA a).f4.size : Int) = a.text.length := by show ((a.text.toArray).size : Int) = _; simp
theorem rd_0 (x y : PR.S26) : PR.rd_T26 [x, y] 0 = x := rfl
theorem rd_1 (x y : PR.S26) : PR.rd_T26 [x, y] 1 = y := rfl
theorem great_f (a o : TAct) (ha : a.Wide) (ho : o.Wide) : PR.pangramlaw28_great.f 3 [sA a, sA o] = some (decide (2000 < bulk a + bulk o)) := by
  have h1 := ha.name
  have h2 := ha.text
  have h3 := ho.name
  have h4 := ho.text
  have e1 : wrap64 (0 + ((sA a).f1.size : Int)) = a.name.length := by rw [sA_f1]; unfold wrap64; omega
  have e2 : wrap64 ((a.name.length : Int) + ((sA a).f4.size : Int)) = (bulk a : Int) := by rw [sA_f4]; unfold wrap64 bulk; omega
  have e3 : wrap64 ((bulk a : Int) + ((sA o).f1.size : Int)) = ((bulk a + o.name.length : Nat) : Int) := by rw [sA_f1]; unfold wrap64 bulk; omega
  have e4 : wrap64 (((bulk a + o.name.length : Nat) : Int) + ((sA o).f4.size : Int)) = ((bulk a + bulk o : Nat) : Int) := by rw [sA_f4]; unfold wrap64 bulk; omega
  unfold PR.pangramlaw28_great.f
  unfold PR.pangramlaw28_great.l0
  rw [if_pos (by simp), if_pos (by omega), if_pos (by omega), rd_0, e1, e2, show wrap64 (0 + 1) = 1 by unfold wrap64; omega]
  unfold PR.pangramlaw28_great.l0
  rw [if_pos (by simp), if_pos (by omega), if_pos (by omega), rd_1, e3, e4, show wrap64 (1 + 1) = 2 by unfold wrap64; omega]
  unfold PR.pangramlaw28_great.l0
  rw [if_neg (by simp), if_neg (by simp)]
  congr 1
  rw [Bool.eq_iff_iff]
  simp only [decide_eq_true_iff]
  omega
/-- A block with two acts. -/
def cells2 (a o : TAct) : Array Value := #[.int .i64 a.kind, .string ⟨a.name.toArray⟩, .int .i64 a.frm, .int .i64 a.til, .string ⟨a.text.toArray⟩, .int .i64 a.n, .int .i64 a.l1, .int .i64 a.l2, .int .i64 a.l3, .int .i64 o.kind, .string ⟨o.name.toArray⟩, .int .i64 o.frm, .int .i64 o.til, .string ⟨o.text.toArray⟩, .int .i64 o.n, .int .i64 o.l1, .int .i64 o.l2, .int .i64 o.l3]
theorem reads_two (a o : TAct) (w : World) (B : Nat) (T : TypeId) (h : w.heap[B]? = some (.cells (cells2 a o) T (0, 0))) : YtelehacakbaobaaDoorW.PrintWords.Kd.C PR.k26 w (some ⟨B, 0, none⟩) 2 [sA a, sA o] := by
  have hc : ∀ j, w.cell? ⟨B, j, none⟩ = (cells2 a o)[j]? := fun j => by simp [World.cell?, h]
  refine ⟨rfl, by omega, fun _ => ⟨⟨B, 0, none⟩, rfl, fun j p hp => ?_⟩⟩
  match j, hp with
  | 0, hp =>
    obtain rfl : sA a = p := by simpa using hp
    refine ⟨_, rfl, PR.k26_mk w (sA a), fun i u hu => ?_⟩
    have hi : i < 9 := by
      rcases Nat.lt_or_ge i 9 with h1 | h1
      · exact h1
      · rw [List.getElem?_eq_none (by simpa using h1)] at hu; cases hu
    have hs : PR.k26.sz = 9 := by rfl
    rw [hs, show (⟨B, 0, none⟩ : Addr).add (0 * 9 + i) = ⟨B, i, none⟩ by simp [Addr.add] <;> omega]
    rw [hc, ← hu]
    match i, hi with
    | 0, _ => rfl | 1, _ => rfl | 2, _ => rfl | 3, _ => rfl | 4, _ => rfl | 5, _ => rfl | 6, _ => rfl | 7, _ => rfl | 8, _ => rfl
  | 1, hp =>
    obtain rfl : sA o = p := by simpa using hp
    refine ⟨_, rfl, PR.k26_mk w (sA o), fun i u hu => ?_⟩
    have hi : i < 9 := by
      rcases Nat.lt_or_ge i 9 with h1 | h1
      · exact h1
      · rw [List.getElem?_eq_none (by simpa using h1)] at hu; cases hu
    have hs : PR.k26.sz = 9 := by rfl
    rw [hs, show (⟨B, 0, none⟩ : Addr).add (1 * 9 + i) = ⟨B, 9 + i, none⟩ by simp [Addr.add] <;> omega]
    rw [hc, ← hu]
    match i, hi with
    | 0, _ => rfl | 1, _ => rfl | 2, _ => rfl | 3, _ => rfl | 4, _ => rfl | 5, _ => rfl | 6, _ => rfl | 7, _ => rfl | 8, _ => rfl
  | j + 2, hp => simp at hp
theorem great_two (a o : TAct) (ha : a.Wide) (ho : o.Wide) (w : World) (B : Nat) (T : TypeId) (h : w.heap[B]? = some (.cells (cells2 a o) T (0, 0))) :
    Calls Tryd.prog 12 #[.slice (some ⟨B, 0, none⟩) 2 2] w fun e w' => e = .returned (.bool (decide (2000 < bulk a + bulk o))) ∧ ∃ n, w' = w.drewN n :=
  (PR.pangramlaw28_great.calls 3 _ 2 [sA a, sA o] _ w (reads_two a o w B T h) (by simp) (great_f a o ha ho)).mono fun e w' ⟨he, hw⟩ => ⟨he, hw.out⟩
end Go.Proofs.YtelehacakbaobaaDoor
