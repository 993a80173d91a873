/- The package-level variables that the calls of this claim read: what they hold, and that it stays so while only new memory is made. Plain functions on bytes: what the layers lex and tape compute. No program stands in this text. DERIVED: THE SHELF's CONTRACTS AT THIS DUMP, IN PLAIN WORDS (tools/lay-plain.mjs out of 'TrydShelf.lean', which tools/lay-shelf.mjs wrote): THE SAME DECLARATIONS UNDER THE SAME NAMES: 'import', 'namespace', 'open', 'def', 'theorem' AND NOTHING ELSE: no command of the shelf's: FOR A HAND-IN. Each laying: the table of numbers ('.._ren') and one theorem, a field a fact of the dump's own or the kernel's comparison; each contract: ONE APPLICATION. What the functions of package lex that names go through come to. What lex.Keyword and lex.Name come to. Rows of bytes that the call makes; a byte in two hex digits. What tape.Quote comes to: a text, told. What tape.Unquote comes to: what a text tells. What tape.bare comes to: an act without what its kind doesn't use. -/
import Derived.Test.YtelehacakbaobaaDoorProg
import Derived.WalkKit
import Derived.WalkSmall
import Derived.Lib.LaidTab
import Derived.Lib.ItoaNum
import Derived.Lib.Space
import Derived.ChangeAgain
import Derived.Lib.Hide
import Derived.Lib.AtoiAll
import Derived.Lib.IndexMore
import Derived.Lib.Fields
import Derived.Shelf.Strings.Builder1
import Derived.Shelf.Small.Strs
import Derived.Shelf.Strings.BuilderF
import Derived.Shelf.Strings.BuilderK
import Derived.Shelf.Strconv.Atoi
import Derived.Shelf.Strconv.Itoa0
import Derived.Shelf.Strconv.Itoa1
import Derived.Shelf.LaysM
import Derived.Shelf.Strconv.Itoa2
import Derived.Shelf.Strconv.Itoa3
import Derived.Shelf.Strconv.AtoiErrFast
import Derived.Shelf.Strconv.ParseIntEmpty
import Derived.Shelf.Strconv.AtoiFail
import Derived.Shelf.Strconv.Clone
import Derived.Shelf.Strconv.SyntaxError
import Derived.Shelf.LaysC
import Derived.Shelf.Strconv.ToError
import Derived.Shelf.Strconv.Lower
import Derived.Shelf.Strconv.ParseUint10
import Derived.Shelf.Strconv.ParseUint10Empty
import Derived.Shelf.Strconv.ParseUint10Any
import Derived.Shelf.Strconv.ParseInt10
import Derived.Shelf.Strconv.AtoiLong
import Derived.Shelf.Strconv.AtoiInnerAll
import Derived.Shelf.Strconv.RangeError
import Derived.Shelf.Strconv.ToErrorRange
import Derived.Shelf.Strconv.AtoiAll
import Derived.Shelf.Strconv.ErrVarAll
import Derived.Shelf.Strings.Search1
import Derived.Shelf.Strings.Search2
import Derived.Shelf.Strings.Search3
import Derived.Shelf.Strings.Cut
import Derived.Shelf.Strings.Shaped
import Derived.Shelf.Strings.Fields
import Derived.Shelf.Strings.SplitShaped
import Derived.Shelf.Strings.FieldsAny
import Derived.Shelf.Slices.Turned
import Derived.Handy
import Derived.BigQuiet
import Derived.Deep.QuietTactic
import Derived.Deep.RegionHeld3
import Derived.Deep.AppendLies
import Derived.Laws.Rows
import Derived.Lib.UnsafeStr
import Derived.Lib.OthersKept

namespace Go.Proofs.YtelehacakbaobaaDoor
open Go.RowKit

/-- The words and letters of the kinds of acts, as the table lays them. -/
def useTab : List (List UInt8) := [[], [], [111, 112, 101, 110], [110, 116], [101, 100, 105, 116], [110, 102, 111, 116], [99, 108, 111, 115, 101], [110], [99, 104, 101, 99, 107], [110], [114, 117, 110], [110, 117], [108, 105, 109, 105, 116], [108], [108, 105, 115, 116], []]
/-- What is known of the package-level variables. -/
structure GW (w : World) : Prop where
  shaped : w.ShapedOpen Tryd.prog
  uses : ∀ i, i < 16 → w.cell? ⟨0, i, none⟩ = some (.string ⟨(useTab.getD i []).toArray⟩)
  space : Lib.TabIs Tryd.prog w "strings.asciiSpace" .u8 Lib.asciiSpaceTab
  pow : Lib.TabIs Tryd.prog w "internal/strconv.uint64pow10" .u64 Lib.pow10Tab
  syn : ∃ tp p, w.var? Tryd.prog "strconv.ErrSyntax" = some #[.iface tp p]
  rng : ∃ tp p, w.var? Tryd.prog "strconv.ErrRange" = some #[.iface tp p]
  size : 13 < w.heap.size

theorem GW.below {w w' : World} (h : GW w) (hb : Below w.heap.size w w') : GW w' where
  shaped := h.shaped.keptBut (hb.frame (fun _ => False)) (fun _ hp => hp.elim)
  uses := fun i hi => by rw [hb.cell (p := ⟨0, i, none⟩) (by have := h.size; show 0 < w.heap.size; omega)]; exact h.uses i hi
  space := var?_below (g := 2) hb (by kernel_rfl) (by have := h.size; omega) h.space
  pow := var?_below (g := 4) hb (by kernel_rfl) (by have := h.size; omega) h.pow
  syn := let ⟨tp, p, e⟩ := h.syn; ⟨tp, p, var?_below (g := 5) hb (by kernel_rfl) (by have := h.size; omega) e⟩
  rng := let ⟨tp, p, e⟩ := h.rng; ⟨tp, p, var?_below (g := 6) hb (by kernel_rfl) (by have := h.size; omega) e⟩
  size := Nat.lt_of_lt_of_le h.size hb.size
theorem below_drewN (w : World) (n : Nat) : Below w.heap.size w (w.drewN n) := by
  induction n generalizing w with
  | zero => exact Below.refl _ _
  | succ n ih => rw [← World.drew_drewN]; exact (ih w).drew
theorem GW.drewN {w : World} (h : GW w) (n : Nat) : GW (w.drewN n) := h.below (below_drewN w n)
/-- Calls one behind the other. -/
theorem Below.then {w w1 w2 : World} (h : Below w.heap.size w w1) (k : Below w1.heap.size w1 w2) : Below w.heap.size w w2 :=
  h.trans (k.mono h.size)
end Go.Proofs.YtelehacakbaobaaDoor

namespace Go.Proofs.YtelehacakbaobaaDoor
abbrev Bs := List UInt8

def small (c : UInt8) : Bool := 97 ≤ c && c ≤ 122
def digit (c : UInt8) : Bool := 48 ≤ c && c ≤ 57
def inner (c : UInt8) : Bool := small c || digit c || c == 95
def keywords : List Bs := [[102, 117, 110], [108, 101, 116], [114, 101, 99], [105, 110], [105, 102], [116, 104, 101, 110], [101, 108, 115, 101], [116, 114, 117, 101], [102, 97, 108, 115, 101], [105, 110, 116], [98, 111, 111, 108]]
def keyword (l : Bs) : Bool := keywords.contains l
def runN (p : UInt8 → Bool) (l : Bs) : Nat := (l.takeWhile p).length
def nameOk (l : Bs) : Bool := match l with
  | [] => false
  | c :: r => small c && (c :: r).all inner && decide ((c :: r).length ≤ 20) && !keyword (c :: r)

theorem runN_all (p : UInt8 → Bool) (l : Bs) : (runN p l = l.length) ↔ l.all p = true := by
  induction l with
  | nil => simp [runN]
  | cons a t ih =>
    by_cases h : p a = true
    · simp only [runN, List.takeWhile_cons, h, if_true, List.length_cons, List.all_cons, Bool.true_and] at ih ⊢
      rw [← ih]; omega
    · simp [runN, h]

/-! ### Acts -/
structure TAct where
  kind : Int
  name : Bs
  frm : Int
  til : Int
  text : Bs
  n : Int
  l1 : Int
  l2 : Int
  l3 : Int
  deriving DecidableEq, Inhabited
def TAct.zero : TAct := ⟨0, [], 0, 0, [], 0, 0, 0, 0⟩

def hexd (n : Nat) : UInt8 := if n < 10 then UInt8.ofNat (48 + n) else UInt8.ofNat (87 + n)
def plainB (c : UInt8) : Bool := 32 ≤ c && c ≤ 126 && c != 34 && c != 92
def qbyte (c : UInt8) : Bs := if plainB c then [c] else [92, hexd (c.toNat / 16), hexd (c.toNat % 16)]
def quote (l : Bs) : Bs := 34 :: (l.flatMap qbyte ++ [34])

/-- A hex digit's number; 0: it is none. -/
def hexv (c : UInt8) : Nat := if 48 ≤ c.toNat ∧ c.toNat ≤ 57 then c.toNat - 48 else if 97 ≤ c.toNat ∧ c.toNat ≤ 102 then c.toNat - 87 else 0
def isHex (c : UInt8) : Bool := decide ((48 ≤ c.toNat ∧ c.toNat ≤ 57) ∨ (97 ≤ c.toNat ∧ c.toNat ≤ 102))
def byteOf (a b : UInt8) : UInt8 := UInt8.ofNat (16 * hexv a + hexv b)
/-- What stands between the quotes, taken back, whatever the digits are. -/
def unq : Bs → Option Bs
  | [] => some []
  | c :: r => if c = 92 then match r with
      | a :: b :: r' => (unq r').map (byteOf a b :: ·)
      | _ => none
    else (unq r).map (c :: ·)
termination_by l => l.length
/-- What stands between the first byte and the last one. -/
def body (l : Bs) : Bs := (l.drop 1).take (l.length - 2)
def unquote (l : Bs) : Option Bs := if l.length < 2 ∨ l.head? ≠ some 34 ∨ l.getLast? ≠ some 34 then none else match unq (body l) with
  | some t => if quote t = l then some t else none
  | none => none

/-- What a letter keeps of an act. -/
def keep (a out : TAct) (c : UInt8) : TAct :=
  if c = 110 then { out with name := a.name } else if c = 116 then { out with text := a.text } else if c = 102 then { out with frm := a.frm }
  else if c = 111 then { out with til := a.til } else if c = 117 then { out with n := a.n } else if c = 108 then { out with l1 := a.l1, l2 := a.l2, l3 := a.l3 } else out
def bare (a : TAct) (use : Bs) : TAct := use.foldl (keep a) { TAct.zero with kind := a.kind }
def known (k : Int) : Bool := decide (1 ≤ k ∧ k ≤ 7)
/-- What a letter tells of an act. -/
def tell (a : TAct) (c : UInt8) : Bs :=
  if c = 110 then 32 :: a.name else if c = 116 then 32 :: quote a.text else if c = 102 then 32 :: Lib.itoa a.frm else if c = 111 then 32 :: Lib.itoa a.til
  else if c = 117 then 32 :: Lib.itoa a.n else if c = 108 then 32 :: Lib.itoa a.l1 ++ (32 :: Lib.itoa a.l2) ++ (32 :: Lib.itoa a.l3) else []
def wordOf (k : Int) : Bs := if k = 1 then [111, 112, 101, 110] else if k = 2 then [101, 100, 105, 116] else if k = 3 then [99, 108, 111, 115, 101] else if k = 4 then [99, 104, 101, 99, 107] else if k = 5 then [114, 117, 110] else if k = 6 then [108, 105, 109, 105, 116] else if k = 7 then [108, 105, 115, 116] else []
def useOf (k : Int) : Bs := if k = 1 then [110, 116] else if k = 2 then [110, 102, 111, 116] else if k = 3 then [110] else if k = 4 then [110] else if k = 5 then [110, 117] else if k = 6 then [108] else []
/-- What is wrong with an act: 0: nothing. -/
def lineErr (a : TAct) : Nat := if known a.kind = false then 1 else if a ≠ bare a (useOf a.kind) then 1 else if (useOf a.kind).contains 110 && !nameOk a.name then 1 else if 4096 < a.text.length then 2 else 0
def lineText (a : TAct) : Bs := wordOf a.kind ++ (useOf a.kind).flatMap (tell a)
def lineOf (a : TAct) : Bs := if lineErr a = 0 then lineText a else []
end Go.Proofs.YtelehacakbaobaaDoor

namespace Go.Proofs
open Go.Shelf
def Tryd.lays169_ren : Go.Shelf.Ren := ⟨fun | 169 => 35 | n => n, fun | 70 => 70 | 9 => 9 | 0 => 0 | 72 => 72 | 37 => 47 | 127 => 88 | 3 => 3 | 5 => 5 | n => n, fun | n => n⟩
theorem Tryd.lays169 : Go.Proofs.Lays.n169 Tryd.prog Tryd.lays169_ren := {
  mixed := by kernel_rfl
  f169 := Tryd.func35.trans (congrArg some (by kernel_rfl))
  t0 := Tryd.underlying0
  a0 := Tryd.isAgg0
  z0 := Tryd.sizeOf0
  v0 := Tryd.zeroValue0
  t3 := Tryd.underlying3
  a3 := Tryd.isAgg3
  z3 := Tryd.sizeOf3
  v3 := Tryd.zeroValue3
  t9 := Tryd.underlying9
  a9 := Tryd.isAgg9
  z9 := Tryd.sizeOf9
  v9 := Tryd.zeroValue9
  t37 := Tryd.underlying47
  a37 := Tryd.isAgg47
  z37 := Tryd.sizeOf47
  v37 := Tryd.zeroValue47
  t70 := Tryd.underlying70
  a70 := Tryd.isAgg70
  z70 := Tryd.sizeOf70
  v70 := Tryd.zeroValue70
  t72 := Tryd.underlying72
  a72 := Tryd.isAgg72
  z72 := Tryd.sizeOf72
  v72 := Tryd.zeroValue72
  t127 := Tryd.underlying88
  a127 := Tryd.isAgg88
  z127 := Tryd.sizeOf88
  v127 := Tryd.zeroValue88 }
theorem Tryd.Builder_Extra_169 : Builder.Extra Tryd.prog Tryd.lays169_ren := {
  sizeBuilder := by kernel_rfl
  liesBuilder := by kernel_rfl
  t5 := Tryd.underlying5
  a5 := Tryd.isAgg5
  z5 := Tryd.sizeOf5
  v5 := Tryd.zeroValue5
  infoByte := by kernel_rfl
  cellsByte := by kernel_rfl
  sizeByte := by kernel_rfl
  neB5 := by decide }
def Tryd.lays137_ren : Go.Shelf.Ren := ⟨fun | 137 => 52 | 217 => 61 | 266 => 74 | n => n, fun | 9 => 9 | 5 => 5 | 3 => 3 | n => n, fun | n => n⟩
theorem Tryd.lays137 : Go.Proofs.Lays.n137 Tryd.prog Tryd.lays137_ren := {
  mixed := by kernel_rfl
  f137 := Tryd.func52.trans (congrArg some (by kernel_rfl))
  f217 := Tryd.func61.trans (congrArg some (by kernel_rfl))
  f266 := Tryd.func74.trans (congrArg some (by kernel_rfl))
  t3 := Tryd.underlying3
  a3 := Tryd.isAgg3
  z3 := Tryd.sizeOf3
  v3 := Tryd.zeroValue3
  t5 := Tryd.underlying5
  a5 := Tryd.isAgg5
  z5 := Tryd.sizeOf5
  v5 := Tryd.zeroValue5
  t9 := Tryd.underlying9
  a9 := Tryd.isAgg9
  z9 := Tryd.sizeOf9
  v9 := Tryd.zeroValue9 }
open Go.RowKit in
/-- strings.IndexByte: "IndexByte returns the index of the first instance of c in s, or -1 if c is not present in s.": IT RETURNS 'Lib.indexByte s c'; the world is as it was. (LAID: no walk: one application.) -/
theorem Tryd.strings_IndexByte (s : ByteArray) (c : Int) (w : World) :
    Calls Tryd.prog 52 #[.string s, .int .u8 c] w fun e w' => e = .returned (.int .i64 (Lib.indexByte s.data.toList c.toNat.toUInt8)) ∧ w' = w := Any.strings_IndexByte Tryd.lays137 s c w
open Go.RowKit in
/-- (*strings.Builder).String: "String returns the accumulated string.": WHATEVER THE BUILDER HOLDS; THE FORM '_f': OF A BUILDER THAT MAY HAVE BEEN READ BEFORE; AND IT IS A BUILDER STILL, holding the same bytes: it can be written on. (LAID: no walk: one application.) -/
theorem Tryd.Builder_String_any_f (B b : Nat) (l : List UInt8) (w : World) (h : Lib.IsBuilderF 72 5 B b (Lib.byteCells l) w) (hBw : B ≤ w.heap.size) :
    Calls Tryd.prog 35 #[.pointer (some ⟨b, 0, none⟩)] w fun e w' => e = .returned (.string ⟨l.toArray⟩) ∧ (Lib.IsBuilderF 72 5 B b (Lib.byteCells l) w' ∧ Below B w w') := Any.Builder_String_any_f Tryd.lays169 Tryd.Builder_Extra_169 B b l w h hBw
open Go.RowKit in
/-- (*strings.Builder).String: "String returns the accumulated string.": WHATEVER THE BUILDER HOLDS; THE FORM '_k': OVER 'Lib.IsBuilderF' (a builder that 'String()' may have read), AND WITH THE FRAME THAT REACHES ABOVE THE BUILDER: 'Lib.OthersKept': every block that is not b and is no row of uint8's stands as it stood: the iterator of a range among them. (LAID: no walk: one application.) -/
theorem Tryd.Builder_String_any_k (B b : Nat) (l : List UInt8) (w : World) (h : Lib.IsBuilderF 72 5 B b (Lib.byteCells l) w) (hBw : B ≤ w.heap.size) :
    Calls Tryd.prog 35 #[.pointer (some ⟨b, 0, none⟩)] w fun e w' => e = .returned (.string ⟨l.toArray⟩) ∧ (Lib.IsBuilderF 72 5 B b (Lib.byteCells l) w' ∧ Below B w w' ∧ Lib.OthersKept 5 (some b) w w') := Any.Builder_String_any_k Tryd.lays169 Tryd.Builder_Extra_169 B b l w h hBw
def Tryd.laysM171_ren : Go.Shelf.Ren := ⟨fun | 171 => 29 | 243 => 45 | 246 => 58 | 283 => 70 | 284 => 71 | 285 => 72 | 286 => 73 | 129 => 83 | 317 => 82 | 318 => 84 | 319 => 85 | 320 => 86 | 337 => 92 | 338 => 93 | n => n, fun | 3 => 3 | 9 => 9 | 2 => 2 | 4 => 4 | 171 => 101 | 0 => 0 | 53 => 83 | 37 => 47 | 5 => 5 | 173 => 104 | 212 => 121 | 51 => 112 | 20 => 20 | 213 => 122 | 46 => 87 | 232 => 147 | 233 => 148 | n => n, fun | 17 => 4 | 18 => 7 | 19 => 8 | n => n⟩
theorem Tryd.laysM171 : Go.Proofs.LaysM.n171 Tryd.prog Tryd.laysM171_ren := {
  mixed := by kernel_rfl
  f129 := Tryd.func83.trans (congrArg some (by kernel_rfl))
  f171 := Tryd.func29.trans (congrArg some (by kernel_rfl))
  f243 := Tryd.func45.trans (congrArg some (by kernel_rfl))
  f246 := Tryd.func58.trans (congrArg some (by kernel_rfl))
  f283 := Tryd.func70.trans (congrArg some (by kernel_rfl))
  f284 := Tryd.func71.trans (congrArg some (by kernel_rfl))
  f285 := Tryd.func72.trans (congrArg some (by kernel_rfl))
  f286 := Tryd.func73.trans (congrArg some (by kernel_rfl))
  f317 := Tryd.func82.trans (congrArg some (by kernel_rfl))
  f318 := Tryd.func84.trans (congrArg some (by kernel_rfl))
  f319 := Tryd.func85.trans (congrArg some (by kernel_rfl))
  f320 := Tryd.func86.trans (congrArg some (by kernel_rfl))
  f337 := Tryd.func92.trans (congrArg some (by kernel_rfl))
  f338 := Tryd.func93.trans (congrArg some (by kernel_rfl))
  t0 := Tryd.underlying0
  a0 := Tryd.isAgg0
  z0 := Tryd.sizeOf0
  v0 := Tryd.zeroValue0
  t2 := Tryd.underlying2
  a2 := Tryd.isAgg2
  z2 := Tryd.sizeOf2
  v2 := Tryd.zeroValue2
  t3 := Tryd.underlying3
  a3 := Tryd.isAgg3
  z3 := Tryd.sizeOf3
  v3 := Tryd.zeroValue3
  t4 := Tryd.underlying4
  a4 := Tryd.isAgg4
  z4 := Tryd.sizeOf4
  v4 := Tryd.zeroValue4
  t5 := Tryd.underlying5
  a5 := Tryd.isAgg5
  z5 := Tryd.sizeOf5
  v5 := Tryd.zeroValue5
  t9 := Tryd.underlying9
  a9 := Tryd.isAgg9
  z9 := Tryd.sizeOf9
  v9 := Tryd.zeroValue9
  t20 := Tryd.underlying20
  a20 := Tryd.isAgg20
  z20 := Tryd.sizeOf20
  v20 := Tryd.zeroValue20
  t37 := Tryd.underlying47
  a37 := Tryd.isAgg47
  z37 := Tryd.sizeOf47
  v37 := Tryd.zeroValue47
  t46 := Tryd.underlying87
  a46 := Tryd.isAgg87
  z46 := Tryd.sizeOf87
  v46 := Tryd.zeroValue87
  t51 := Tryd.underlying112
  a51 := Tryd.isAgg112
  z51 := Tryd.sizeOf112
  v51 := Tryd.zeroValue112
  t53 := Tryd.underlying83
  a53 := Tryd.isAgg83
  z53 := Tryd.sizeOf83
  v53 := Tryd.zeroValue83
  t171 := Tryd.underlying101
  a171 := Tryd.isAgg101
  z171 := Tryd.sizeOf101
  v171 := Tryd.zeroValue101
  t173 := Tryd.underlying104
  a173 := Tryd.isAgg104
  z173 := Tryd.sizeOf104
  v173 := Tryd.zeroValue104
  t212 := Tryd.underlying121
  a212 := Tryd.isAgg121
  z212 := Tryd.sizeOf121
  v212 := Tryd.zeroValue121
  t213 := Tryd.underlying122
  a213 := Tryd.isAgg122
  z213 := Tryd.sizeOf122
  t232 := Tryd.underlying147
  a232 := Tryd.isAgg147
  z232 := Tryd.sizeOf147
  v232 := Tryd.zeroValue147
  t233 := Tryd.underlying148
  a233 := Tryd.isAgg148
  z233 := Tryd.sizeOf148
  v233 := Tryd.zeroValue148
  g17 := by kernel_rfl
  g18 := by kernel_rfl
  g19 := by kernel_rfl
  i0 := by kernel_rfl
  i2 := by kernel_rfl
  i3 := by kernel_rfl
  i4 := by kernel_rfl
  i5 := by kernel_rfl
  i9 := by kernel_rfl
  i20 := by kernel_rfl
  i37 := by kernel_rfl
  i46 := by kernel_rfl
  i51 := by kernel_rfl
  i53 := by kernel_rfl
  i171 := by kernel_rfl
  i173 := by kernel_rfl
  i212 := by kernel_rfl
  i232 := by kernel_rfl
  i233 := by kernel_rfl
  m17 := by kernel_rfl
  m18 := by kernel_rfl
  m19 := by kernel_rfl }
open Go.RowKit Go.Sort Go.Lib in
/-- strconv.Itoa: "Itoa is equivalent to FormatInt(int64(i), 10).": i's DECIMAL NUMERAL ('Lib.itoa': a '-' where i is negative, then the digits), FOR EVERY int. The world behind the call: the world before it, new blocks behind the heap (the library's 'var a [24]byte'), draws. (LAID: no walk: one application.) -/
theorem Tryd.strconv_Itoa (n : Int) (h0 : -9223372036854775808 ≤ n) (h1 : n ≤ 9223372036854775807) (w : World) (htab : Lib.TabIs Tryd.prog w "internal/strconv.uint64pow10" .u64 Lib.pow10Tab) :
    Calls Tryd.prog 29 #[.int .i64 n] w fun e w' => e = .returned (.string ⟨(Lib.itoa n).toArray⟩) ∧ ∃ k os, w' = grow (w.drewN k) os := Any.strconv_Itoa Tryd.laysM171 n h0 h1 w htab
def Tryd.laysC172_ren : Go.Shelf.Ren := ⟨fun | 172 => 53 | 244 => 62 | 245 => 63 | 247 => 75 | 279 => 76 | 280 => 77 | 281 => 78 | 282 => 79 | 287 => 87 | 316 => 88 | 171 => 29 | 205 => 89 | 321 => 94 | 322 => 95 | 243 => 45 | 246 => 58 | 283 => 70 | 284 => 71 | 285 => 72 | 286 => 73 | 129 => 83 | 317 => 82 | 318 => 84 | 319 => 85 | 320 => 86 | 337 => 92 | 338 => 93 | n => n, fun | 9 => 9 | 3 => 3 | 75 => 74 | 76 => 75 | 4 => 4 | 5 => 5 | 167 => 106 | 37 => 47 | 0 => 0 | 85 => 107 | 2 => 2 | 168 => 109 | 53 => 83 | 175 => 124 | 46 => 87 | 210 => 127 | 127 => 88 | 145 => 144 | 143 => 142 | 21 => 21 | 171 => 101 | 173 => 104 | 212 => 121 | 51 => 112 | 20 => 20 | 213 => 122 | 232 => 147 | 233 => 148 | 80 => 54 | n => n, fun | 15 => 5 | 16 => 6 | 17 => 4 | 18 => 7 | 19 => 8 | n => n⟩
theorem Tryd.laysC172 : Go.Proofs.LaysC.n172 Tryd.prog Tryd.laysC172_ren := {
  mixed := by kernel_rfl
  f129 := Tryd.func83.trans (congrArg some (by kernel_rfl))
  f171 := Tryd.func29.trans (congrArg some (by kernel_rfl))
  f172 := Tryd.func53.trans (congrArg some (by kernel_rfl))
  f205 := Tryd.func89.trans (congrArg some (by kernel_rfl))
  f243 := Tryd.func45.trans (congrArg some (by kernel_rfl))
  f244 := Tryd.func62.trans (congrArg some (by kernel_rfl))
  f245 := Tryd.func63.trans (congrArg some (by kernel_rfl))
  f246 := Tryd.func58.trans (congrArg some (by kernel_rfl))
  f247 := Tryd.func75.trans (congrArg some (by kernel_rfl))
  f279 := Tryd.func76.trans (congrArg some (by kernel_rfl))
  f280 := Tryd.func77.trans (congrArg some (by kernel_rfl))
  f281 := Tryd.func78.trans (congrArg some (by kernel_rfl))
  f282 := Tryd.func79.trans (congrArg some (by kernel_rfl))
  f283 := Tryd.func70.trans (congrArg some (by kernel_rfl))
  f284 := Tryd.func71.trans (congrArg some (by kernel_rfl))
  f285 := Tryd.func72.trans (congrArg some (by kernel_rfl))
  f286 := Tryd.func73.trans (congrArg some (by kernel_rfl))
  f287 := Tryd.func87.trans (congrArg some (by kernel_rfl))
  f316 := Tryd.func88.trans (congrArg some (by kernel_rfl))
  f317 := Tryd.func82.trans (congrArg some (by kernel_rfl))
  f318 := Tryd.func84.trans (congrArg some (by kernel_rfl))
  f319 := Tryd.func85.trans (congrArg some (by kernel_rfl))
  f320 := Tryd.func86.trans (congrArg some (by kernel_rfl))
  f321 := Tryd.func94.trans (congrArg some (by kernel_rfl))
  f322 := Tryd.func95.trans (congrArg some (by kernel_rfl))
  f337 := Tryd.func92.trans (congrArg some (by kernel_rfl))
  f338 := Tryd.func93.trans (congrArg some (by kernel_rfl))
  t0 := Tryd.underlying0
  a0 := Tryd.isAgg0
  z0 := Tryd.sizeOf0
  v0 := Tryd.zeroValue0
  t2 := Tryd.underlying2
  a2 := Tryd.isAgg2
  z2 := Tryd.sizeOf2
  v2 := Tryd.zeroValue2
  t3 := Tryd.underlying3
  a3 := Tryd.isAgg3
  z3 := Tryd.sizeOf3
  v3 := Tryd.zeroValue3
  t4 := Tryd.underlying4
  a4 := Tryd.isAgg4
  z4 := Tryd.sizeOf4
  v4 := Tryd.zeroValue4
  t5 := Tryd.underlying5
  a5 := Tryd.isAgg5
  z5 := Tryd.sizeOf5
  v5 := Tryd.zeroValue5
  t9 := Tryd.underlying9
  a9 := Tryd.isAgg9
  z9 := Tryd.sizeOf9
  v9 := Tryd.zeroValue9
  t20 := Tryd.underlying20
  a20 := Tryd.isAgg20
  z20 := Tryd.sizeOf20
  v20 := Tryd.zeroValue20
  t21 := Tryd.underlying21
  a21 := Tryd.isAgg21
  z21 := Tryd.sizeOf21
  v21 := Tryd.zeroValue21
  t37 := Tryd.underlying47
  a37 := Tryd.isAgg47
  z37 := Tryd.sizeOf47
  v37 := Tryd.zeroValue47
  t46 := Tryd.underlying87
  a46 := Tryd.isAgg87
  z46 := Tryd.sizeOf87
  v46 := Tryd.zeroValue87
  t51 := Tryd.underlying112
  a51 := Tryd.isAgg112
  z51 := Tryd.sizeOf112
  v51 := Tryd.zeroValue112
  t53 := Tryd.underlying83
  a53 := Tryd.isAgg83
  z53 := Tryd.sizeOf83
  v53 := Tryd.zeroValue83
  t75 := Tryd.underlying74
  a75 := Tryd.isAgg74
  z75 := Tryd.sizeOf74
  v75 := Tryd.zeroValue74
  t76 := Tryd.underlying75
  a76 := Tryd.isAgg75
  z76 := Tryd.sizeOf75
  v76 := Tryd.zeroValue75
  t85 := Tryd.underlying107
  a85 := Tryd.isAgg107
  z85 := Tryd.sizeOf107
  v85 := Tryd.zeroValue107
  t127 := Tryd.underlying88
  a127 := Tryd.isAgg88
  z127 := Tryd.sizeOf88
  v127 := Tryd.zeroValue88
  t143 := Tryd.underlying142
  a143 := Tryd.isAgg142
  z143 := Tryd.sizeOf142
  v143 := Tryd.zeroValue142
  t145 := Tryd.underlying144
  a145 := Tryd.isAgg144
  z145 := Tryd.sizeOf144
  v145 := Tryd.zeroValue144
  t167 := Tryd.underlying106
  a167 := Tryd.isAgg106
  z167 := Tryd.sizeOf106
  v167 := Tryd.zeroValue106
  t168 := Tryd.underlying109
  a168 := Tryd.isAgg109
  z168 := Tryd.sizeOf109
  v168 := Tryd.zeroValue109
  t171 := Tryd.underlying101
  a171 := Tryd.isAgg101
  z171 := Tryd.sizeOf101
  v171 := Tryd.zeroValue101
  t173 := Tryd.underlying104
  a173 := Tryd.isAgg104
  z173 := Tryd.sizeOf104
  v173 := Tryd.zeroValue104
  t175 := Tryd.underlying124
  a175 := Tryd.isAgg124
  z175 := Tryd.sizeOf124
  v175 := Tryd.zeroValue124
  t210 := Tryd.underlying127
  a210 := Tryd.isAgg127
  z210 := Tryd.sizeOf127
  v210 := Tryd.zeroValue127
  t212 := Tryd.underlying121
  a212 := Tryd.isAgg121
  z212 := Tryd.sizeOf121
  v212 := Tryd.zeroValue121
  t213 := Tryd.underlying122
  a213 := Tryd.isAgg122
  z213 := Tryd.sizeOf122
  t232 := Tryd.underlying147
  a232 := Tryd.isAgg147
  z232 := Tryd.sizeOf147
  v232 := Tryd.zeroValue147
  t233 := Tryd.underlying148
  a233 := Tryd.isAgg148
  z233 := Tryd.sizeOf148
  v233 := Tryd.zeroValue148
  g15 := by kernel_rfl
  g16 := by kernel_rfl
  g17 := by kernel_rfl
  g18 := by kernel_rfl
  g19 := by kernel_rfl
  t80 := Tryd.underlying54
  a80 := Tryd.isAgg54
  z80 := Tryd.sizeOf54
  v80 := Tryd.zeroValue54
  i0 := by kernel_rfl
  i2 := by kernel_rfl
  i3 := by kernel_rfl
  i4 := by kernel_rfl
  i5 := by kernel_rfl
  i9 := by kernel_rfl
  i20 := by kernel_rfl
  i21 := by kernel_rfl
  i37 := by kernel_rfl
  i46 := by kernel_rfl
  i51 := by kernel_rfl
  i53 := by kernel_rfl
  i75 := by kernel_rfl
  i76 := by kernel_rfl
  i80 := by kernel_rfl
  i85 := by kernel_rfl
  i127 := by kernel_rfl
  i143 := by kernel_rfl
  i145 := by kernel_rfl
  i167 := by kernel_rfl
  i168 := by kernel_rfl
  i171 := by kernel_rfl
  i173 := by kernel_rfl
  i175 := by kernel_rfl
  i210 := by kernel_rfl
  i212 := by kernel_rfl
  i232 := by kernel_rfl
  i233 := by kernel_rfl
  m15 := by kernel_rfl
  m16 := by kernel_rfl
  m17 := by kernel_rfl
  m18 := by kernel_rfl
  m19 := by kernel_rfl
  c0 := by kernel_rfl
  c2 := by kernel_rfl
  c3 := by kernel_rfl
  c4 := by kernel_rfl
  c5 := by kernel_rfl
  c9 := by kernel_rfl
  c20 := by kernel_rfl
  c21 := by kernel_rfl
  c37 := by kernel_rfl
  c46 := by kernel_rfl
  c51 := by kernel_rfl
  c53 := by kernel_rfl
  c75 := by kernel_rfl
  c76 := by kernel_rfl
  c80 := by kernel_rfl
  c85 := by kernel_rfl
  c127 := by kernel_rfl
  c143 := by kernel_rfl
  c145 := by kernel_rfl
  c167 := by kernel_rfl
  c168 := by kernel_rfl
  c171 := by kernel_rfl
  c173 := by kernel_rfl
  c175 := by kernel_rfl
  c210 := by kernel_rfl
  c212 := by kernel_rfl
  c213 := by kernel_rfl
  c232 := by kernel_rfl
  c233 := by kernel_rfl }
open Go.RowKit in
/-- strconv.Atoi, AT EVERY STRING THAT SPELLS AN int ('Lib.atoiAll .. = .ok v'; of whatever length: leading zeros count): v, AND NO ERROR. The world: as it was, or with the one new row that '[]byte(..)' lays. (LAID: no walk: one application.) -/
theorem Tryd.strconv_Atoi_ok (s : ByteArray) (hmax : s.size ≤ 9223372036854775806) (v : Int) (h : Lib.atoiAll s.data.toList = .ok v) (w : World) :
    Calls Tryd.prog 53 #[.string s] w fun e w' => e = .returned (.tuple #[.int .i64 v, .nilIface]) ∧ (w' = w ∨ ∃ t, w' = Lib.bytesWorld w 5 t) := Any.strconv_Atoi_ok Tryd.laysC172 s hmax v h w
open Go.RowKit in
theorem Tryd.strconv_Atoi_syntax_var (s : ByteArray) (hlim : s.size ≤ 281474976710656) (h0 : ∀ v, Lib.atoiAll s.data.toList ≠ .ok v) (h1 : Lib.atoiAll s.data.toList ≠ .range) (tp : TypeId) (p : Value) (w : World) (hvar : w.var? Tryd.prog "strconv.ErrSyntax" = some #[.iface tp p]) :
    Calls Tryd.prog 53 #[.string s] w fun e w' => ∃ N, e = .returned (.tuple #[.int .i64 0, .iface 109 (.pointer (some ⟨N, 0, none⟩))]) ∧ w.heap.size ≤ N ∧ w'.heap[N]? = some (.cells #[.string ⟨#[65, 116, 111, 105]⟩, .string s, .iface tp p] 127 (0, 0)) ∧ Below w.heap.size w w' := Any.strconv_Atoi_syntax_var Tryd.laysC172 s hlim (by cases h : Lib.atoiAll s.data.toList with | ok v => exact absurd h (h0 v) | range => exact absurd h h1 | _ => rfl) tp p w hvar
open Go.RowKit in
theorem Tryd.strconv_Atoi_range_var (s : ByteArray) (hlim : s.size ≤ 281474976710656) (h : Lib.atoiAll s.data.toList = .range) (tp : TypeId) (p : Value) (w : World) (hvar : w.var? Tryd.prog "strconv.ErrRange" = some #[.iface tp p]) :
    Calls Tryd.prog 53 #[.string s] w fun e w' => ∃ N, e = .returned (.tuple #[.int .i64 (Lib.atoiSat s.data.toList), .iface 109 (.pointer (some ⟨N, 0, none⟩))]) ∧ w.heap.size ≤ N ∧ w'.heap[N]? = some (.cells #[.string ⟨#[65, 116, 111, 105]⟩, .string s, .iface tp p] 127 (0, 0)) ∧ Below w.heap.size w w' := Any.strconv_Atoi_range_var Tryd.laysC172 s hlim h tp p w hvar
def Tryd.laysM144_ren : Go.Shelf.Ren := ⟨fun | 144 => 26 | 143 => 40 | 219 => 54 | 217 => 61 | 225 => 64 | 224 => 65 | 267 => 66 | 266 => 74 | 314 => 80 | n => n, fun | 9 => 9 | 4 => 4 | 3 => 3 | 5 => 5 | 46 => 87 | 146 => 113 | 51 => 112 | n => n, fun | 1 => 1 | n => n⟩
theorem Tryd.laysM144 : Go.Proofs.LaysM.n144 Tryd.prog Tryd.laysM144_ren := {
  mixed := by kernel_rfl
  f143 := Tryd.func40.trans (congrArg some (by kernel_rfl))
  f144 := Tryd.func26.trans (congrArg some (by kernel_rfl))
  f217 := Tryd.func61.trans (congrArg some (by kernel_rfl))
  f219 := Tryd.func54.trans (congrArg some (by kernel_rfl))
  f224 := Tryd.func65.trans (congrArg some (by kernel_rfl))
  f225 := Tryd.func64.trans (congrArg some (by kernel_rfl))
  f266 := Tryd.func74.trans (congrArg some (by kernel_rfl))
  f267 := Tryd.func66.trans (congrArg some (by kernel_rfl))
  f314 := Tryd.func80.trans (congrArg some (by kernel_rfl))
  t3 := Tryd.underlying3
  a3 := Tryd.isAgg3
  z3 := Tryd.sizeOf3
  v3 := Tryd.zeroValue3
  t4 := Tryd.underlying4
  a4 := Tryd.isAgg4
  z4 := Tryd.sizeOf4
  v4 := Tryd.zeroValue4
  t5 := Tryd.underlying5
  a5 := Tryd.isAgg5
  z5 := Tryd.sizeOf5
  v5 := Tryd.zeroValue5
  t9 := Tryd.underlying9
  a9 := Tryd.isAgg9
  z9 := Tryd.sizeOf9
  v9 := Tryd.zeroValue9
  t46 := Tryd.underlying87
  a46 := Tryd.isAgg87
  z46 := Tryd.sizeOf87
  v46 := Tryd.zeroValue87
  t51 := Tryd.underlying112
  a51 := Tryd.isAgg112
  z51 := Tryd.sizeOf112
  v51 := Tryd.zeroValue112
  t146 := Tryd.underlying113
  a146 := Tryd.isAgg113
  z146 := Tryd.sizeOf113
  v146 := Tryd.zeroValue113
  g1 := by kernel_rfl
  i3 := by kernel_rfl
  i4 := by kernel_rfl
  i5 := by kernel_rfl
  i9 := by kernel_rfl
  i46 := by kernel_rfl
  i51 := by kernel_rfl
  i146 := by kernel_rfl
  m1 := by kernel_rfl
  s1_3 := fun w h => Go.Proofs.cell_of_shapedOpen_int (zero := #[.int .i64 0]) (t := 3) h (of_decide_eq_true (by kernel_rfl)) (by kernel_rfl) rfl (by kernel_rfl) (by kernel_rfl) Tryd.underlying3 }
open Go.RowKit Go.Lib in
theorem Tryd.strings_Contains_shaped (s sub : ByteArray) (w : World) (h : w.ShapedOpen Tryd.prog) (hs : s.size < 4294967281) :
    Calls Tryd.prog 26 #[.string s, .string sub] w fun e w' => e = .returned (.bool (Lib.contains s.data.toList sub.data.toList)) ∧ w' = w := Any.strings_Contains_shaped Tryd.laysM144 s sub w h hs
def Tryd.laysM145_ren : Go.Shelf.Ren := ⟨fun | 145 => 36 | 220 => 51 | 219 => 54 | 217 => 61 | 225 => 64 | 224 => 65 | 267 => 66 | 266 => 74 | 314 => 80 | n => n, fun | 9 => 9 | 4 => 4 | 59 => 78 | 3 => 3 | 5 => 5 | 46 => 87 | 146 => 113 | 51 => 112 | n => n, fun | 1 => 1 | n => n⟩
theorem Tryd.laysM145 : Go.Proofs.LaysM.n145 Tryd.prog Tryd.laysM145_ren := {
  mixed := by kernel_rfl
  f145 := Tryd.func36.trans (congrArg some (by kernel_rfl))
  f217 := Tryd.func61.trans (congrArg some (by kernel_rfl))
  f219 := Tryd.func54.trans (congrArg some (by kernel_rfl))
  f220 := Tryd.func51.trans (congrArg some (by kernel_rfl))
  f224 := Tryd.func65.trans (congrArg some (by kernel_rfl))
  f225 := Tryd.func64.trans (congrArg some (by kernel_rfl))
  f266 := Tryd.func74.trans (congrArg some (by kernel_rfl))
  f267 := Tryd.func66.trans (congrArg some (by kernel_rfl))
  f314 := Tryd.func80.trans (congrArg some (by kernel_rfl))
  t3 := Tryd.underlying3
  a3 := Tryd.isAgg3
  z3 := Tryd.sizeOf3
  v3 := Tryd.zeroValue3
  t4 := Tryd.underlying4
  a4 := Tryd.isAgg4
  z4 := Tryd.sizeOf4
  v4 := Tryd.zeroValue4
  t5 := Tryd.underlying5
  a5 := Tryd.isAgg5
  z5 := Tryd.sizeOf5
  v5 := Tryd.zeroValue5
  t9 := Tryd.underlying9
  a9 := Tryd.isAgg9
  z9 := Tryd.sizeOf9
  v9 := Tryd.zeroValue9
  t46 := Tryd.underlying87
  a46 := Tryd.isAgg87
  z46 := Tryd.sizeOf87
  v46 := Tryd.zeroValue87
  t51 := Tryd.underlying112
  a51 := Tryd.isAgg112
  z51 := Tryd.sizeOf112
  v51 := Tryd.zeroValue112
  t59 := Tryd.underlying78
  a59 := Tryd.isAgg78
  z59 := Tryd.sizeOf78
  v59 := Tryd.zeroValue78
  t146 := Tryd.underlying113
  a146 := Tryd.isAgg113
  z146 := Tryd.sizeOf113
  v146 := Tryd.zeroValue113
  g1 := by kernel_rfl
  i3 := by kernel_rfl
  i4 := by kernel_rfl
  i5 := by kernel_rfl
  i9 := by kernel_rfl
  i46 := by kernel_rfl
  i51 := by kernel_rfl
  i59 := by kernel_rfl
  i146 := by kernel_rfl
  m1 := by kernel_rfl
  s1_3 := fun w h => Go.Proofs.cell_of_shapedOpen_int (zero := #[.int .i64 0]) (t := 3) h (of_decide_eq_true (by kernel_rfl)) (by kernel_rfl) rfl (by kernel_rfl) (by kernel_rfl) Tryd.underlying3 }
open Go.RowKit Go.Lib in
theorem Tryd.strings_Cut_shaped (s sep : ByteArray) (w : World) (h : w.ShapedOpen Tryd.prog) (hs : s.size < 4294967281) :
    Calls Tryd.prog 36 #[.string s, .string sep] w fun e w' => e = .returned (.tuple #[.string ⟨(Lib.cut s.data.toList sep.data.toList).1.toArray⟩, .string ⟨(Lib.cut s.data.toList sep.data.toList).2.1.toArray⟩, .bool (Lib.cut s.data.toList sep.data.toList).2.2]) ∧ ∃ n, w' = w.drewN n := Any.strings_Cut_shaped Tryd.laysM145 s sep w h hs
def Tryd.laysM157_ren : Go.Shelf.Ren := ⟨fun | 157 => 57 | 229 => 68 | 199 => 69 | 261 => 81 | 311 => 90 | 312 => 91 | n => n, fun | 9 => 9 | 31 => 59 | 3 => 3 | 5 => 5 | 4 => 4 | 119 => 98 | 0 => 0 | 40 => 100 | 152 => 115 | 21 => 21 | 154 => 117 | 51 => 112 | 141 => 119 | 196 => 132 | 193 => 129 | 198 => 135 | 49 => 133 | 194 => 130 | 201 => 138 | 226 => 145 | 46 => 87 | 227 => 146 | n => n, fun | 0 => 2 | 6 => 3 | n => n⟩
theorem Tryd.laysM157 : Go.Proofs.LaysM.n157 Tryd.prog Tryd.laysM157_ren := {
  mixed := by kernel_rfl
  f157 := Tryd.func57.trans (congrArg some (by kernel_rfl))
  f199 := Tryd.func69.trans (congrArg some (by kernel_rfl))
  f229 := Tryd.func68.trans (congrArg some (by kernel_rfl))
  f261 := Tryd.func81.trans (congrArg some (by kernel_rfl))
  f311 := Tryd.func90.trans (congrArg some (by kernel_rfl))
  f312 := Tryd.func91.trans (congrArg some (by kernel_rfl))
  t0 := Tryd.underlying0
  a0 := Tryd.isAgg0
  z0 := Tryd.sizeOf0
  v0 := Tryd.zeroValue0
  t3 := Tryd.underlying3
  a3 := Tryd.isAgg3
  z3 := Tryd.sizeOf3
  v3 := Tryd.zeroValue3
  t4 := Tryd.underlying4
  a4 := Tryd.isAgg4
  z4 := Tryd.sizeOf4
  v4 := Tryd.zeroValue4
  t5 := Tryd.underlying5
  a5 := Tryd.isAgg5
  z5 := Tryd.sizeOf5
  v5 := Tryd.zeroValue5
  t9 := Tryd.underlying9
  a9 := Tryd.isAgg9
  z9 := Tryd.sizeOf9
  v9 := Tryd.zeroValue9
  t21 := Tryd.underlying21
  a21 := Tryd.isAgg21
  z21 := Tryd.sizeOf21
  v21 := Tryd.zeroValue21
  t31 := Tryd.underlying59
  a31 := Tryd.isAgg59
  z31 := Tryd.sizeOf59
  v31 := Tryd.zeroValue59
  t40 := Tryd.underlying100
  a40 := Tryd.isAgg100
  z40 := Tryd.sizeOf100
  v40 := Tryd.zeroValue100
  t46 := Tryd.underlying87
  a46 := Tryd.isAgg87
  z46 := Tryd.sizeOf87
  v46 := Tryd.zeroValue87
  t49 := Tryd.underlying133
  a49 := Tryd.isAgg133
  z49 := Tryd.sizeOf133
  v49 := Tryd.zeroValue133
  t51 := Tryd.underlying112
  a51 := Tryd.isAgg112
  z51 := Tryd.sizeOf112
  v51 := Tryd.zeroValue112
  t119 := Tryd.underlying98
  a119 := Tryd.isAgg98
  z119 := Tryd.sizeOf98
  t141 := Tryd.underlying119
  a141 := Tryd.isAgg119
  z141 := Tryd.sizeOf119
  v141 := Tryd.zeroValue119
  t152 := Tryd.underlying115
  a152 := Tryd.isAgg115
  z152 := Tryd.sizeOf115
  v152 := Tryd.zeroValue115
  t154 := Tryd.underlying117
  a154 := Tryd.isAgg117
  z154 := Tryd.sizeOf117
  v154 := Tryd.zeroValue117
  t193 := Tryd.underlying129
  a193 := Tryd.isAgg129
  z193 := Tryd.sizeOf129
  v193 := Tryd.zeroValue129
  t194 := Tryd.underlying130
  a194 := Tryd.isAgg130
  z194 := Tryd.sizeOf130
  v194 := Tryd.zeroValue130
  t196 := Tryd.underlying132
  a196 := Tryd.isAgg132
  z196 := Tryd.sizeOf132
  v196 := Tryd.zeroValue132
  t198 := Tryd.underlying135
  a198 := Tryd.isAgg135
  z198 := Tryd.sizeOf135
  v198 := Tryd.zeroValue135
  t201 := Tryd.underlying138
  a201 := Tryd.isAgg138
  z201 := Tryd.sizeOf138
  v201 := Tryd.zeroValue138
  t226 := Tryd.underlying145
  a226 := Tryd.isAgg145
  z226 := Tryd.sizeOf145
  v226 := Tryd.zeroValue145
  t227 := Tryd.underlying146
  a227 := Tryd.isAgg146
  z227 := Tryd.sizeOf146
  v227 := Tryd.zeroValue146
  g0 := by kernel_rfl
  g6 := by kernel_rfl
  i0 := by kernel_rfl
  i3 := by kernel_rfl
  i4 := by kernel_rfl
  i5 := by kernel_rfl
  i9 := by kernel_rfl
  i21 := by kernel_rfl
  i31 := by kernel_rfl
  i40 := by kernel_rfl
  i46 := by kernel_rfl
  i49 := by kernel_rfl
  i51 := by kernel_rfl
  i141 := by kernel_rfl
  i152 := by kernel_rfl
  i154 := by kernel_rfl
  i193 := by kernel_rfl
  i194 := by kernel_rfl
  i196 := by kernel_rfl
  i198 := by kernel_rfl
  i201 := by kernel_rfl
  i226 := by kernel_rfl
  i227 := by kernel_rfl
  m0 := by kernel_rfl
  m6 := by kernel_rfl }
open Go.RowKit Go.Lib in
/-- strings.Fields on ASCII bytes. (The table: 'Lib.TabIs', as strings.TrimSpace's contract asks it.) (LAID: no walk: one application.) -/
theorem Tryd.strings_Fields_laid (s : ByteArray) (w : World) (hs : s.size < 4294967281) (hascii : ∀ (j : Nat) b, s.data.toList[j]? = some b → b.toNat < 128) (htab : Lib.TabIs Tryd.prog w "strings.asciiSpace" .u8 Lib.asciiSpaceTab) :
    Calls Tryd.prog 57 #[.string s] w fun e w' =>
      e = .returned (.slice (some ⟨w.heap.size, 0, none⟩) (Lib.fields s.data.toList).length (Lib.fields s.data.toList).length) ∧ w' = w.alloc (.cells ((Lib.fields s.data.toList).map fun l => Value.string ⟨l.toArray⟩).toArray 9) := Any.strings_Fields_laid Tryd.laysM157 s w hs hascii htab
def Tryd.lays110_ren : Go.Shelf.Ren := ⟨fun | 110 => 56 | 109 => 67 | n => n, fun | 31 => 59 | 9 => 9 | 4 => 4 | 3 => 3 | 0 => 0 | n => n, fun | n => n⟩
theorem Tryd.lays110 : Go.Proofs.Lays.n110 Tryd.prog Tryd.lays110_ren := {
  mixed := by kernel_rfl
  f109 := Tryd.func67.trans (congrArg some (by kernel_rfl))
  f110 := Tryd.func56.trans (congrArg some (by kernel_rfl))
  t0 := Tryd.underlying0
  a0 := Tryd.isAgg0
  z0 := Tryd.sizeOf0
  v0 := Tryd.zeroValue0
  t3 := Tryd.underlying3
  a3 := Tryd.isAgg3
  z3 := Tryd.sizeOf3
  v3 := Tryd.zeroValue3
  t4 := Tryd.underlying4
  a4 := Tryd.isAgg4
  z4 := Tryd.sizeOf4
  v4 := Tryd.zeroValue4
  t9 := Tryd.underlying9
  a9 := Tryd.isAgg9
  z9 := Tryd.sizeOf9
  v9 := Tryd.zeroValue9
  t31 := Tryd.underlying59
  a31 := Tryd.isAgg59
  z31 := Tryd.sizeOf59
  v31 := Tryd.zeroValue59 }
open Go.Lib in
/-- slices.Contains at []string: "Contains reports whether v is present in s.": IT RETURNS 'Lib.containsS (the elements) v', which is true just where v is among them ('Lib.containsS_iff'); the world is as it was. ITS CALLEE slices.Index IS MET BY ITS OWN CONTRACT OFF THE SHELF (lay that first): no loop is walked here. (LAID: no walk: one application.) -/
theorem Tryd.slices_Contains_string (b off n c : Nat) (zs : List ByteArray) (x : ByteArray) (w : World) (hz : n ≤ zs.length) (hbig : n ≤ 9223372036854775807) (hc : ∀ j, j < zs.length → w.cell? ⟨b, off + j, none⟩ = some (.string (zs.getD j ByteArray.empty))) :
    Calls Tryd.prog 56 #[.slice (some ⟨b, off, none⟩) n c, .string x] w fun e w' => e = .returned (.bool (Lib.containsS (zs.take n) x)) ∧ w' = w := Any.slices_Contains_string Tryd.lays110 b off n c zs x w hz hbig hc
end Go.Proofs

namespace Go.Proofs.YtelehacakbaobaaDoor
open Go.RowKit
set_option linter.unusedVariables false
set_option linter.unusedSimpArgs false

theorem u8_le (a b : UInt8) : (a ≤ b) ↔ ((a.toNat : Int) ≤ (b.toNat : Int)) := by rw [UInt8.le_iff_toNat_le]; omega
theorem u8_beq (a b : UInt8) : (a == b) = ((a.toNat : Int) == (b.toNat : Int)) := by
  rw [Bool.eq_iff_iff]; simp only [beq_iff_eq, ← UInt8.toNat_inj]; omega
theorem bool_ret {a b : Bool} (h : a = b) : Ending.returned (.bool a) = .returned (.bool b) := by rw [h]
theorem small_dec (c : UInt8) (h : 97 ≤ (c.toNat : Int)) : decide ((c.toNat : Int) ≤ 122) = small c := by
  unfold small; rw [Bool.eq_iff_iff]; simp [u8_le]; omega
theorem small_not (c : UInt8) (h : (c.toNat : Int) < 97) : small c = false := by
  unfold small; rw [Bool.eq_false_iff]; simp [u8_le]; omega
theorem digit_dec (c : UInt8) (h : 48 ≤ (c.toNat : Int)) : decide ((c.toNat : Int) ≤ 57) = digit c := by
  unfold digit; rw [Bool.eq_iff_iff]; simp [u8_le]; omega
theorem digit_not (c : UInt8) (h : (c.toNat : Int) < 48) : digit c = false := by
  unfold digit; rw [Bool.eq_false_iff]; simp [u8_le]; omega

set_option maxHeartbeats 400000 in
theorem small_any (c : UInt8) (w : World) : Calls Tryd.prog 41 #[.int .u8 c.toNat] w fun e w' => e = .returned (.bool (small c)) ∧ w = w' := by
  go_enter Tryd.func41, Tryd.ntmps41
  go_wp2
  · have h : 97 ≤ (c.toNat : Int) := by assumption
    go_ret; exact ⟨bool_ret (small_dec c h), rfl⟩
  · have h : (c.toNat : Int) < 97 := by assumption
    go_ret; exact ⟨bool_ret (small_not c h).symm, rfl⟩
set_option maxHeartbeats 400000 in
theorem digit_any (c : UInt8) (w : World) : Calls Tryd.prog 55 #[.int .u8 c.toNat] w fun e w' => e = .returned (.bool (digit c)) ∧ w = w' := by
  go_enter Tryd.func55, Tryd.ntmps55
  go_wp2
  · have h : 48 ≤ (c.toNat : Int) := by assumption
    go_ret; exact ⟨bool_ret (digit_dec c h), rfl⟩
  · have h : (c.toNat : Int) < 48 := by assumption
    go_ret; exact ⟨bool_ret (digit_not c h).symm, rfl⟩
set_option maxHeartbeats 400000 in
theorem inner_any (c : UInt8) (w : World) : Calls Tryd.prog 43 #[.int .u8 c.toNat] w fun e w' => e = .returned (.bool (inner c)) ∧ w = w' := by
  go_enter Tryd.func43, Tryd.ntmps43
  go_wp2_with (first | (go_at_call 41; refine (small_any _ _).mono ?_; rintro e w' ⟨rfl, rfl⟩) | (go_at_call 55; refine (digit_any _ _).mono ?_; rintro e w' ⟨rfl, rfl⟩))
  · have h : small c = true := by assumption
    go_ret; exact ⟨bool_ret (by simp [inner, h]), rfl⟩
  · have h : digit c = true := by assumption
    go_ret; exact ⟨bool_ret (by simp [inner, h]), rfl⟩
  · have h : ¬ small c = true := by assumption
    have h' : ¬ digit c = true := by assumption
    go_ret; exact ⟨bool_ret (by simp [inner, h, h', u8_beq]), rfl⟩
set_option maxRecDepth 100000 in
set_option maxHeartbeats 400000 in
theorem run_any (s : ByteArray) (at_ : Nat) (f : Nat) (p : UInt8 → Bool) (hp : Hid (∀ (c : UInt8) (w : World), Calls Tryd.prog f #[.int .u8 c.toNat] w fun e w' => e = .returned (.bool (p c)) ∧ w = w')) (hcf : ∀ args w, Sem.run Tryd.prog (callFunc f args) w = .ok (.enter f args) w) (hs : s.size ≤ 1000000000) (ha : at_ ≤ s.size) (w : World) :
    Calls Tryd.prog 42 #[.string s, .int .i64 at_, .func (.func f) #[] #[]] w fun e w' => e = .returned (.int .i64 (runN p (s.data.toList.drop at_))) ∧ w = w' := by
  go_enter Tryd.func42, Tryd.ntmps42
  go_wp2_with fail
  go_loop [7] (fun i => ∃ k : Nat, at_ + k ≤ s.size ∧ i = .int .i64 k ∧ k + runN p (s.data.toList.drop (at_ + k)) = runN p (s.data.toList.drop at_)) (fun i => s.size - at_ - (intOf i).toNat)
  case atStart => exact ⟨0, by omega, rfl, by simp⟩
  case round =>
    obtain ⟨k, hk, rfl, hr⟩ := hrel
    have HR := Lib.hid hr
    clear hr
    by_cases hlt : at_ + k < s.size
    · have hd : s.data.toList.drop (at_ + k) = s[at_ + k] :: s.data.toList.drop (at_ + k + 1) := by
        rw [List.drop_eq_getElem_cons (by simpa using hlt)]; rfl
      have HD := Lib.hid hd
      clear hd
      cases hc : p s[at_ + k] with
      | true =>
        have HC := Lib.hid hc
        clear hc
        go_wp2_with fail
        refine (hp.out _ _).mono ?_
        rintro e w' ⟨rfl, rfl⟩
        rw [HC.out]
        go_wp2_with fail
        go_round
        case rel => 
          refine ⟨k + 1, by omega, by go_num, ?_⟩
          have h1 : runN p (s.data.toList.drop (at_ + k)) = 1 + runN p (s.data.toList.drop (at_ + k + 1)) := by rw [HD.out]; simp [runN, HC.out]; omega
          rw [← HR.out, h1, show at_ + (k + 1) = at_ + k + 1 from by omega]; omega
        case measure => simp [intOf]; omega
      | false =>
        have HC := Lib.hid hc
        clear hc
        go_wp2_with fail
        refine (hp.out _ _).mono ?_
        rintro e w' ⟨rfl, rfl⟩
        rw [HC.out]
        go_wp2_with fail
        go_ret
        refine ⟨?_, rfl⟩
        have h1 : runN p (s.data.toList.drop (at_ + k)) = 0 := by rw [HD.out]; simp [runN, HC.out]
        rw [← HR.out, h1]; rfl
    · go_wp2_with fail
      go_ret
      refine ⟨?_, rfl⟩
      have h1 : runN p (s.data.toList.drop (at_ + k)) = 0 := by
        rw [List.drop_of_length_le (by simp; omega)]; rfl
      rw [← HR.out, h1]; rfl
theorem callee_inner : ∀ args w, Sem.run Tryd.prog (callFunc 43 args) w = .ok (.enter 43 args) w := fun _ _ => by kernel_rfl
theorem fields_words : Lib.fields [32, 102, 117, 110, 32, 108, 101, 116, 32, 114, 101, 99, 32, 105, 110, 32, 105, 102, 32, 116, 104, 101, 110, 32, 101, 108, 115, 101, 32, 116, 114, 117, 101, 32, 102, 97, 108, 115, 101, 32, 105, 110, 116, 32, 98, 111, 111, 108, 32] = keywords := by decide +kernel
end Go.Proofs.YtelehacakbaobaaDoor

namespace Go.Proofs.YtelehacakbaobaaDoor
open Go.RowKit
set_option linter.unusedVariables false
set_option linter.unusedSimpArgs false

theorem bytes_ext {a b : ByteArray} (h : a.data.toList = b.data.toList) : a = b := by
  cases a; cases b; congr 1; exact Array.ext' h
theorem containsS_keywords (x : ByteArray) : Lib.containsS ((keywords.map fun l => (⟨l.toArray⟩ : ByteArray)).take 11) x = keyword x.data.toList := by
  rw [Bool.eq_iff_iff, Lib.containsS_iff, show (keywords.map fun l => (⟨l.toArray⟩ : ByteArray)).take 11 = keywords.map fun l => (⟨l.toArray⟩ : ByteArray) from rfl]
  unfold keyword
  rw [List.contains_iff_mem, List.mem_map]
  constructor
  · rintro ⟨l, hl, rfl⟩; simpa using hl
  · intro h; exact ⟨_, h, bytes_ext (by simp)⟩
theorem words_ascii : ∀ (j : Nat) b, (⟨#[32, 102, 117, 110, 32, 108, 101, 116, 32, 114, 101, 99, 32, 105, 110, 32, 105, 102, 32, 116, 104, 101, 110, 32, 101, 108, 115, 101, 32, 116, 114, 117, 101, 32, 102, 97, 108, 115, 101, 32, 105, 110, 116, 32, 98, 111, 111, 108, 32]⟩ : ByteArray).data.toList[j]? = some b → b.toNat < 128 := by
  intro j b h
  have hm : b ∈ ([32, 102, 117, 110, 32, 108, 101, 116, 32, 114, 101, 99, 32, 105, 110, 32, 105, 102, 32, 116, 104, 101, 110, 32, 101, 108, 115, 101, 32, 116, 114, 117, 101, 32, 102, 97, 108, 115, 101, 32, 105, 110, 116, 32, 98, 111, 111, 108, 32] : List UInt8) := List.mem_of_getElem? h
  have : ∀ c ∈ ([32, 102, 117, 110, 32, 108, 101, 116, 32, 114, 101, 99, 32, 105, 110, 32, 105, 102, 32, 116, 104, 101, 110, 32, 101, 108, 115, 101, 32, 116, 114, 117, 101, 32, 102, 97, 108, 115, 101, 32, 105, 110, 116, 32, 98, 111, 111, 108, 32] : List UInt8), c.toNat < 128 := by decide
  exact this b hm
/-- The words in their block. -/
def wordCells : Array Value := (keywords.map fun l => Value.string ⟨l.toArray⟩).toArray
theorem wordCells_at (w : World) (t : TypeId) (j : Nat) (h : j < 11) : (w.alloc (.cells wordCells t)).cell? ⟨w.heap.size, 0 + j, none⟩ = some (.string ((keywords.map fun l => (⟨l.toArray⟩ : ByteArray)).getD j ByteArray.empty)) := by
  rw [Nat.zero_add, World.cell?_alloc_new]
  have hj : ∀ j : Fin 11, wordCells[j.val]? = some (.string ((keywords.map fun l => (⟨l.toArray⟩ : ByteArray)).getD j.val ByteArray.empty)) := by
    intro j
    match j with
    | 0 => rfl | 1 => rfl | 2 => rfl | 3 => rfl | 4 => rfl | 5 => rfl | 6 => rfl | 7 => rfl | 8 => rfl | 9 => rfl | 10 => rfl
  exact hj ⟨j, h⟩
set_option maxRecDepth 100000 in
set_option maxHeartbeats 400000 in
theorem keyword_any (s : ByteArray) (w : World) (hG : GW w) : Calls Tryd.prog 44 #[.string s] w fun e w' => e = .returned (.bool (keyword s.data.toList)) ∧ Below w.heap.size w w' := by
  have HG := Lib.hid hG
  clear hG
  go_enter Tryd.func44, Tryd.ntmps44
  go_wp2_with fail
  refine (Tryd.strings_Fields_laid _ _ (by decide +kernel) words_ascii HG.out.space).mono ?_
  rw [fields_words]
  rintro e w' ⟨rfl, rfl⟩
  rw [show keywords.length = 11 from rfl, show (List.map (fun l => Value.string { data := l.toArray }) keywords).toArray = wordCells from rfl]
  go_wp2_with fail
  refine (Tryd.slices_Contains_string w.heap.size 0 11 11 (keywords.map fun l => (⟨l.toArray⟩ : ByteArray)) s _ (by decide) (by decide) (fun j hj => wordCells_at w _ j (by simpa [keywords] using hj))).mono ?_
  rw [containsS_keywords]
  rintro e w' ⟨rfl, rfl⟩
  go_wp2_with fail
  go_ret
  exact ⟨rfl, (Below.refl _ _).alloc (Nat.le_refl _) _⟩

theorem size_data (s : ByteArray) : s.data.toList.length = s.size := by simp
theorem isEmpty_iff (s : ByteArray) : s.toList.isEmpty = decide (s.size = 0) := by
  rw [Lib.toList_data, ← size_data]
  cases s.data.toList <;> simp
theorem nameOk_head (s : ByteArray) (h0 : 0 < s.size) : nameOk s.data.toList = (small s[0] && decide (runN inner s.data.toList = s.size) && decide (s.size ≤ 20) && !keyword s.data.toList) := by
  have e : s.data.toList = s[0] :: s.data.toList.drop 1 := by
    have := List.drop_eq_getElem_cons (l := s.data.toList) (i := 0) (by rw [size_data]; exact h0)
    rw [List.drop_zero] at this
    exact this
  have e2 : decide (runN inner s.data.toList = s.size) = s.data.toList.all inner := by
    rw [Bool.eq_iff_iff, decide_eq_true_iff, ← runN_all, size_data]
  have e3 : decide (s.size ≤ 20) = decide (s.data.toList.length ≤ 20) := by rw [size_data]
  rw [e2, e3]
  generalize s[0] = c at *
  generalize s.data.toList = l at *
  rw [e]
  rfl
set_option maxRecDepth 100000 in
set_option maxHeartbeats 400000 in
theorem name_any (s : ByteArray) (w : World) (hG : GW w) (hs : s.size ≤ 1000000000) : Calls Tryd.prog 27 #[.string s] w fun e w' => e = .returned (.bool (nameOk s.data.toList)) ∧ Below w.heap.size w w' := by
  have HG := Lib.hid hG
  clear hG
  by_cases hz : s.size = 0
  · have he : s.toList.isEmpty = true := by rw [isEmpty_iff]; simpa using hz
    have HF : Hid (nameOk s.data.toList = false) := by
      have : s.data.toList = [] := List.eq_nil_of_length_eq_zero (by rw [size_data]; exact hz)
      show nameOk s.data.toList = false
      rw [this]; rfl
    clear hz
    go_enter Tryd.func27, Tryd.ntmps27
    go_wp2_with fail
    go_ret
    exact ⟨bool_ret HF.out.symm, Below.refl _ _⟩
  · have he : s.toList.isEmpty = false := by rw [isEmpty_iff]; simpa using hz
    have h0 : 0 < s.size := by omega
    have HF := Lib.hid (nameOk_head s h0)
    clear hz
    go_enter Tryd.func27, Tryd.ntmps27
    go_wp2_with (first
      | (go_at_call 41; refine (small_any _ _).mono ?_; rintro e w' ⟨rfl, rfl⟩)
      | (go_at_call 42; refine (run_any s 0 43 inner (Lib.hid inner_any) callee_inner hs (Nat.zero_le _) _).mono ?_; rintro e w' ⟨rfl, rfl⟩)
      | (go_at_call 44; refine (keyword_any s _ HG.out).mono ?_; rintro e w' ⟨rfl, hb⟩))
    · have h1 : small s[0] = true := by assumption
      have h2 : (runN inner s.data.toList : Int) = s.size := by assumption
      have h3 : (s.size : Int) ≤ 20 := by assumption
      go_ret
      refine ⟨bool_ret ?_, by assumption⟩
      rw [HF.out, h1, decide_eq_true (Int.ofNat.inj h2), decide_eq_true (Int.ofNat_le.1 h3)]; rfl
    · have h1 : small s[0] = true := by assumption
      have h2 : (runN inner s.data.toList : Int) = s.size := by assumption
      have h3 : 20 < (s.size : Int) := by assumption
      go_ret
      refine ⟨bool_ret ?_, Below.refl _ _⟩
      rw [HF.out, decide_eq_false (p := s.size ≤ 20) (by omega)]; simp
    · have h1 : small s[0] = true := by assumption
      have h2 : ¬ (runN inner s.data.toList : Int) = s.size := by assumption
      go_ret
      refine ⟨bool_ret ?_, Below.refl _ _⟩
      rw [HF.out, decide_eq_false (p := runN inner s.data.toList = s.size) (by omega)]; simp
    · have h1 : ¬ small s[0] = true := by assumption
      go_ret
      refine ⟨bool_ret ?_, Below.refl _ _⟩
      rw [HF.out, Bool.eq_false_iff.2 h1]; rfl
end Go.Proofs.YtelehacakbaobaaDoor

namespace Go.Proofs.YtelehacakbaobaaDoor
open Go.RowKit
set_option linter.unusedVariables false
set_option linter.unusedSimpArgs false

theorem info_u8 : (Tryd.prog.info? 5).map (fun i => (i.zero, i.size, i.bytes)) = some (some (.int .u8 0), 1, 1) := by kernel_rfl
theorem quote_cases (c : UInt8) : (plainB c = true ∧ decide ((c.toNat : Int) < 32) = false ∧ decide (127 ≤ (c.toNat : Int)) = false ∧ ((c.toNat : Int) == 34) = false ∧ ((c.toNat : Int) == 92) = false)
    ∨ (plainB c = false ∧ (decide ((c.toNat : Int) < 32) = true ∨ (decide ((c.toNat : Int) < 32) = false ∧ decide (127 ≤ (c.toNat : Int)) = true) ∨ (decide ((c.toNat : Int) < 32) = false ∧ decide (127 ≤ (c.toNat : Int)) = false ∧ ((c.toNat : Int) == 34) = true) ∨ (decide ((c.toNat : Int) < 32) = false ∧ decide (127 ≤ (c.toNat : Int)) = false ∧ ((c.toNat : Int) == 34) = false ∧ ((c.toNat : Int) == 92) = true))) := by
  have hp : plainB c = true ↔ (32 ≤ (c.toNat : Int) ∧ (c.toNat : Int) ≤ 126 ∧ (c.toNat : Int) ≠ 34 ∧ (c.toNat : Int) ≠ 92) := by
    unfold plainB
    simp only [Bool.and_eq_true, decide_eq_true_iff, u8_le, bne_iff_ne, ne_eq, ← UInt8.toNat_inj]
    constructor
    · rintro ⟨⟨⟨a, b⟩, h3⟩, h4⟩; exact ⟨a, b, by intro h; exact h3 (by simp; omega), by intro h; exact h4 (by simp; omega)⟩
    · rintro ⟨a, b, h3, h4⟩; exact ⟨⟨⟨a, b⟩, by intro h; simp at h; omega⟩, by intro h; simp at h; omega⟩
  simp only [decide_eq_true_iff, decide_eq_false_iff_not, beq_iff_eq, beq_eq_false_iff_ne, ← Bool.not_eq_true, hp]
  omega
theorem and15 (c : UInt8) : bits BinOp.and IntKind.u8 (c.toNat : Int) 15 = ((c.toNat % 16 : Nat) : Int) := by
  have h : ∀ n : Fin 256, bits BinOp.and IntKind.u8 (n.val : Int) 15 = ((n.val % 16 : Nat) : Int) := by decide +kernel
  exact h ⟨c.toNat, c.toNat_lt⟩
theorem hex_bounds (c : UInt8) : 0 ≤ (c.toNat : Int) / 16 ∧ (c.toNat : Int) / 16 < 16 ∧ 0 ≤ bits BinOp.and IntKind.u8 (c.toNat : Int) 15 ∧ bits BinOp.and IntKind.u8 (c.toNat : Int) 15 < 16 := by
  rw [and15]; have := c.toNat_lt; omega
theorem hex_at (i : Int) (n : Nat) (h0 : n < 16) (hi : i.toNat = n) (h : i.toNat < (⟨#[48, 49, 50, 51, 52, 53, 54, 55, 56, 57, 97, 98, 99, 100, 101, 102]⟩ : ByteArray).size) : ((⟨#[48, 49, 50, 51, 52, 53, 54, 55, 56, 57, 97, 98, 99, 100, 101, 102]⟩ : ByteArray)[i.toNat]'h) = hexd n := by
  subst hi
  have hh : ∀ j : Fin 16, ((⟨#[48, 49, 50, 51, 52, 53, 54, 55, 56, 57, 97, 98, 99, 100, 101, 102]⟩ : ByteArray)[j.val]'j.isLt) = hexd j.val := by decide +kernel
  exact hh ⟨i.toNat, h0⟩
/-- A row of bytes that the call has made. -/
def OwnB (w : World) (B : Nat) (v : Value) (l : Bs) : Prop := w.ownsRow B 5 1 v l.length (Lib.byteCells l)

theorem ownB_more {w : World} {B : Nat} {v : Value} {l m : Bs} {n : Nat} {cs : List Value} (h : w.ownsRow B 5 1 v (l.length + n) (Lib.byteCells l ++ cs)) (hc : cs = Lib.byteCells m) (hn : m.length = n) : OwnB w B v (l ++ m) := by
  unfold OwnB
  rw [List.length_append, hn, Lib.byteCells_append, ← hc]
  exact h
theorem own_ge {w : World} {B : Nat} {e : TypeId} {v : Value} {n : Nat} {xs : List Value} (h : w.ownsRow B e 1 v n xs) : ∀ k, v.ownBlock = some k → B ≤ k := fun k hk => (h.lt k hk).1
theorem qbyte_len (c : UInt8) : (qbyte c).length ≤ 3 := by unfold qbyte; split <;> simp
theorem flat_len (l : Bs) : (l.flatMap qbyte).length ≤ 3 * l.length := by
  induction l with
  | nil => simp
  | cons a t ih => rw [List.flatMap_cons, List.length_append, List.length_cons]; have := qbyte_len a; omega
theorem take_succ (s : ByteArray) (k : Nat) (h : k < s.size) : s.data.toList.take (k + 1) = s.data.toList.take k ++ [s[k]] := by
  rw [List.take_succ_eq_append_getElem (by rw [size_data]; exact h)]; rfl
theorem quoted_more (s : ByteArray) (k : Nat) (h : k < s.size) : 34 :: (s.data.toList.take (k + 1)).flatMap qbyte = (34 :: (s.data.toList.take k).flatMap qbyte) ++ qbyte s[k] := by
  rw [take_succ s k h, List.flatMap_append]; simp
theorem quoted_len (s : ByteArray) (k : Nat) (hs : s.size ≤ 1000000) : (34 :: (s.data.toList.take k).flatMap qbyte).length ≤ 3000001 := by
  have := flat_len (s.data.toList.take k)
  have h2 : (s.data.toList.take k).length ≤ s.size := by rw [List.length_take, size_data]; omega
  rw [List.length_cons]; omega
theorem cells_three (c : UInt8) (x y : Int) (hx : x = (hexd (c.toNat / 16)).toNat) (hy : y = (hexd (c.toNat % 16)).toNat) (hp : plainB c = false) : [Value.int .u8 92, .int .u8 x, .int .u8 y] = Lib.byteCells (qbyte c) := by
  unfold qbyte; rw [if_neg (by simp [hp])]; subst hx; subst hy; rfl
/-- One byte is appended to a row of the call's own. -/
theorem append_byte {ops : Array Oper} {rest : List Oper} {o : Oper} {a : Go.Act} {Q : Exit → Go.Act → World → Prop} (hgd : o.guard = none) (s x : Operand)
    (ho : o.op = .call { callee := .builtin .append, args := #[s, x], argTypes := #[47, 47] }) (B : Nat) (v : Value) (l : Bs) (c : UInt8) (wr : World) (hs : a.eval s = v) (hown : OwnB wr B v l)
    (hx : a.eval x = .slice (some ⟨wr.heap.size, 0, none⟩) 1 1) (hl : l.length ≤ 1000000000) (hB : B ≤ wr.heap.size)
    (h : ∀ v' w', OwnB w' B v' (l ++ [c]) → Below B wr w' → wpList Tryd.prog ops Q rest (a.put o.dst v') w') : wpList Tryd.prog ops Q (o :: rest) a (wr.alloc (.cells #[.int .u8 c.toNat] 5)) := by
  obtain ⟨i0, hi, hz0, hz1, hz2⟩ := info_parts info_u8
  refine wpList_append_own _ hgd s x 47 ho B 5 i0 (.int .u8 0) 1 1 Tryd.underlying47 hi hz0 hz1 hz2 rfl (by decide) v l.length (Lib.byteCells l) hs (World.ownsRow.alloc hown _) ⟨wr.heap.size, 0, none⟩ 1 1 [.int .u8 c.toNat] hx rfl ?_ ?_ (by unfold maxLen; omega) (by omega) (by simp; omega) ?_
  · intro j u hu
    match j, hu with
    | 0, hu =>
      simp only [List.getElem?_cons_zero, Option.some.injEq] at hu
      subst hu
      simp [Addr.add]
  · intro u hu; simp at hu; subst hu; rfl
  · intro v' w' h1 h2 _
    refine h v' w' ?_ (((Below.refl B wr).alloc hB _).grown h2 (by simp; omega) (own_ge hown))
    unfold OwnB
    rw [List.length_append, Lib.byteCells_append]
    exact h1
theorem strOfNums_bytes (l : Bs) : strOfNums (l.map fun b => (b.toNat : Int)) = ⟨l.toArray⟩ := by
  unfold strOfNums
  congr 2
  rw [List.map_map]
  conv => rhs; rw [← List.map_id l]
  refine List.map_congr_left fun b _ => ?_
  simp
/-- A row of bytes, as a string. -/
theorem ownB_string {w : World} {B : Nat} {v : Value} {l : Bs} (h : OwnB w B v l) : (convert 47 9 v).run Tryd.prog w = .ok (.string ⟨l.toArray⟩) w := by
  have hc : Lib.byteCells l = (l.map fun b => (b.toNat : Int)).map (Value.int .u8) := by simp [Lib.byteCells]
  rcases Nat.eq_zero_or_pos l.length with h0 | h0
  · have hl : l = [] := List.eq_nil_of_length_eq_zero h0
    subst hl
    rcases h.2 with ⟨rfl, _⟩ | ⟨g, cap, cur, rfl, _⟩
    · exact run_convert_bytes_nil w _ _ Tryd.underlying47 Tryd.underlying5 0 0 _ Tryd.underlying9
    · exact run_convert_bytes_arg w _ _ Tryd.underlying47 Tryd.underlying5 g 0 0 cap [] rfl (fun i hi => by omega) _ Tryd.underlying9
  · obtain ⟨g, cap, rfl, _, _⟩ := World.ownsRow.form h h0
    rw [← strOfNums_bytes]
    refine run_convert_bytes_arg w _ _ Tryd.underlying47 Tryd.underlying5 g 0 l.length cap _ (by simp) (fun i hi => ?_) _ Tryd.underlying9
    have hx := World.ownsRow.cells h (g := g) rfl i (.int .u8 ((l.map fun b => (b.toNat : Int)).getD i 0)) (by rw [hc, List.getElem?_map, List.getD_eq_getElem?_getD, List.getElem?_eq_getElem (by simpa using hi)]; simp)
    have ha : (⟨g, 0, none⟩ : Addr).add i = ⟨g, 0 + i, none⟩ := by unfold Addr.add; split <;> simp_all
    rw [ha] at hx
    exact hx
end Go.Proofs.YtelehacakbaobaaDoor

namespace Go.Proofs.YtelehacakbaobaaDoor
open Go.RowKit
set_option linter.unusedVariables false
set_option linter.unusedSimpArgs false

set_option maxRecDepth 100000 in
set_option maxHeartbeats 1000000 in
theorem quote_any (s : ByteArray) (w : World) (hs : s.size ≤ 1000000) : Calls Tryd.prog 28 #[.string s] w fun e w' => e = .returned (.string ⟨(quote s.data.toList).toArray⟩) ∧ Below w.heap.size w w' := by
  obtain ⟨i0, hi, hz0, hz1, hz2⟩ := info_parts info_u8
  have HI := Lib.hid (And.intro hi (And.intro hz0 (And.intro hz1 hz2)))
  clear hi hz0 hz1 hz2
  go_enter Tryd.func28, Tryd.ntmps28
  go_wp2
  go_loopw [3, 4] (fun v i wr => ∃ k : Nat, k ≤ s.size ∧ i = .int .i64 k ∧ OwnB wr w.heap.size v (34 :: (s.data.toList.take k).flatMap qbyte) ∧ Below w.heap.size w wr) (fun _ i _ => s.size - (intOf i).toNat)
  case atStart =>
    refine ⟨0, by omega, rfl, ?_, (Below.refl _ w).alloc (Nat.le_refl _) _⟩
    exact World.ownsRow_lit w #[.int .u8 34] 1 (Nat.le_refl _) (by decide) rfl
  case round =>
    obtain ⟨k, hk, rfl, hown, hb⟩ := hrel
    by_cases hlt : k < s.size
    · rcases quote_cases s[k] with ⟨hp, h1, h2, h3, h4⟩ | ⟨hp, h⟩
      · have HP := Lib.hid hp
        clear hp
        have hl := quoted_len s k hs
        have HO := Lib.hid hown
        clear hown
        go_wp2_with (at_builtin; refine append_byte rfl _ _ rfl w.heap.size u3 _ s[k] wr rfl HO.out rfl (by omega) hb.size ?_; intro v' w1 h1 h2)
        go_roundw
        case rel =>
          refine ⟨k + 1, by omega, by go_num, ?_, hb.trans h2⟩
          rw [quoted_more s k hlt]
          have e : qbyte s[k] = [s[k]] := by unfold qbyte; rw [if_pos HP.out]
          rw [e]; exact h1
        case measure => simp [intOf]; omega
      · have HP := Lib.hid hp
        clear hp
        rcases h with h1 | ⟨h1, h2⟩ | ⟨h1, h2, h3⟩ | ⟨h1, h2, h3, h4⟩
        all_goals go_wp2
        all_goals
          obtain ⟨hi, hz0, hz1, hz2⟩ := HI.out
          unfold OwnB at hown
          have h255 : (s[k].toNat : Int) ≤ 255 := by have := s[k].toNat_lt; omega
          obtain ⟨ha, hb', hc, hd⟩ := hex_bounds s[k]
          have hl := quoted_len s k hs
          generalize hL : (34 :: (s.data.toList.take k).flatMap qbyte) = L at *
          have HL := Lib.hid hL
          clear hL
          go_region_held3 (fun w' => True) (exact trivial) ((refine step_append_lies _ (by rfl) _ _ _ (by rfl) w.heap.size 5 i0 _ 1 1 Tryd.underlying47 hi hz0 hz1 hz2 rfl (by omega) u3 _ _ (by rfl) ((hown.alloc _).drew) ⟨wr.heap.size, 0, none⟩ 3 3 [.int .u8 92, .int .u8 _, .int .u8 _] (by rfl) (by rfl) (World.news_of_block (cs := #[.int .u8 92, _, _]) (t := 5) (fr := (0, 0)) (heap_alloc_new wr _)) (by simp [Value.oneCell']) (by omega) (by unfold maxLen; omega) (by omega) (by have := hb.size; simp; omega) (wr.heap.size + 1) (by simp) ?_; intro gg cap w1 hown1 hgrow hat hgl))
          all_goals
            clear hi hz0 hz1 hz2
            go_wp2
            go_roundw
            case rel =>
              refine ⟨k + 1, by omega, by go_num, ?_, ?_⟩
              · rw [quoted_more s k hlt, HL.out]
                exact ownB_more hown1 (cells_three _ _ _ (by rw [hex_at _ (s[k].toNat / 16) (by omega) (by omega)]) (by rw [hex_at _ (s[k].toNat % 16) (by omega) (by rw [and15]; omega)]) HP.out) (by unfold qbyte; rw [if_neg (by simp [HP.out])]; rfl)
              · exact ((hb.alloc hb.size _).drew).grown hgrow (by have := hb.size; simp; omega) (own_ge hown)
            case measure => simp [intOf]; omega
    · have hl := quoted_len s k hs
      have hk' : k = s.size := by omega
      have HK := Lib.hid hk'
      have HO := Lib.hid hown
      clear hown hk'
      have HF : Hid (34 :: (s.data.toList.take k).flatMap qbyte ++ [34] = quote s.data.toList) := by
        show _ = _
        rw [HK.out, List.take_of_length_le (by rw [size_data]; omega)]; rfl
      go_wp2_with (at_builtin; refine append_byte rfl _ _ rfl w.heap.size u3 _ 34 wr rfl HO.out rfl (by omega) hb.size ?_; intro v' w1 h1 h2; have hcv := ownB_string h1; rw [HF.out] at hcv)
      go_ret
      exact ⟨rfl, hb.trans h2⟩
end Go.Proofs.YtelehacakbaobaaDoor

namespace Go.Proofs.YtelehacakbaobaaDoor
open Go.RowKit
set_option linter.unusedVariables false
set_option linter.unusedSimpArgs false

/-- What Unquote answers. -/
def unqAns (o : Option Bs) : Ending := match o with
  | some t => .returned (.tuple #[.string ⟨t.toArray⟩, .bool true])
  | none => .returned (.tuple #[.string ⟨#[]⟩, .bool false])
def rest (s : ByteArray) (k : Nat) : Bs := (s.data.toList.take (s.size - 1)).drop k
theorem body_rest (s : ByteArray) (h : 2 ≤ s.size) : body s.data.toList = rest s 1 := by
  unfold body rest
  rw [size_data, List.drop_take, show s.size - 1 - 1 = s.size - 2 from by omega]
theorem rest_cons (s : ByteArray) (k : Nat) (h : k + 1 < s.size) : rest s k = s[k] :: rest s (k + 1) := by
  unfold rest
  rw [List.drop_eq_getElem_cons (by rw [List.length_take, size_data]; omega), List.getElem_take]; rfl
theorem rest_nil (s : ByteArray) (k : Nat) (h : s.size ≤ k + 1) : rest s k = [] := by
  unfold rest
  exact List.drop_of_length_le (by rw [List.length_take, size_data]; omega)

theorem OwnB.below {w w1 : World} {B : Nat} {v : Value} {l : Bs} (h : OwnB w B v l) (hb : Below w.heap.size w w1) : OwnB w1 B v l :=
  World.ownsRow.kept h ⟨hb.os, hb.tape, hb.output, hb.size, fun i hi _ => hb.block i hi⟩ (by cases v.ownBlock <;> simp) (row := none)
theorem unquote_none1 (s : ByteArray) (h : s.size < 2) : unquote s.data.toList = none := by unfold unquote; rw [if_pos (Or.inl (by rw [size_data]; exact h))]
theorem first_at (s : ByteArray) (h : 0 < s.size) : s.data.toList.head? = some s[0] := by
  rw [List.head?_eq_getElem?, List.getElem?_eq_getElem (by rw [size_data]; exact h)]; rfl
theorem last_at (s : ByteArray) (h : 0 < s.size) : s.data.toList.getLast? = some (s[s.size - 1]'(by omega)) := by
  rw [List.getLast?_eq_getElem?, size_data, List.getElem?_eq_getElem (by rw [size_data]; omega)]; rfl
theorem unquote_none2 (s : ByteArray) (h0 : 2 ≤ s.size) (h : ¬ s[0] = 34) : unquote s.data.toList = none := by
  unfold unquote; rw [if_pos (Or.inr (Or.inl (by rw [first_at s (by omega)]; simpa using h)))]
theorem unquote_none3 (s : ByteArray) (h0 : 2 ≤ s.size) (h : ¬ s[s.size - 1] = 34) : unquote s.data.toList = none := by
  unfold unquote; rw [if_pos (Or.inr (Or.inr (by rw [last_at s (by omega)]; simpa using h)))]
theorem unquote_some (s : ByteArray) (h0 : 2 ≤ s.size) (h1 : s[0] = 34) (h2 : s[s.size - 1] = 34) : unquote s.data.toList = match unq (rest s 1) with | some t => if quote t = s.data.toList then some t else none | none => none := by
  unfold unquote
  rw [if_neg (by rw [first_at s (by omega), last_at s (by omega), size_data, h1, h2]; simp; omega), body_rest s h0]
  all_goals rfl
theorem unq_plain (c : UInt8) (r : Bs) (h : ¬ c = 92) : unq (c :: r) = (unq r).map (c :: ·) := by rw [unq.eq_def]; simp only [if_neg h]
theorem unq_pair (a b : UInt8) (r : Bs) : unq (92 :: a :: b :: r) = (unq r).map (byteOf a b :: ·) := by rw [unq.eq_def]; simp only [if_pos]
theorem unq_short (r : Bs) (h : r.length < 2) : unq (92 :: r) = none := by
  rw [unq.eq_def]
  match r, h with
  | [], _ => rfl
  | [a], _ => rfl
theorem rest_len (s : ByteArray) (k : Nat) : (rest s k).length = s.size - 1 - k := by
  unfold rest; rw [List.length_drop, List.length_take, size_data]; omega
theorem rest_short (s : ByteArray) (k : Nat) (h : ¬ k + 2 + 1 < s.size) : (rest s (k + 1)).length < 2 := by rw [rest_len]; omega
theorem hexv_lt (c : UInt8) : hexv c < 16 := by
  unfold hexv
  split
  · omega
  · split <;> omega
theorem hexv_index (c : UInt8) : max 0 (Lib.indexByte [48, 49, 50, 51, 52, 53, 54, 55, 56, 57, 97, 98, 99, 100, 101, 102] c) = (hexv c : Int) := by
  have h : ∀ n : Fin 256, max 0 (Lib.indexByte [48, 49, 50, 51, 52, 53, 54, 55, 56, 57, 97, 98, 99, 100, 101, 102] (UInt8.ofNat n.val)) = (hexv (UInt8.ofNat n.val) : Int) := by decide +kernel
  have := h ⟨c.toNat, c.toNat_lt⟩
  simpa using this
theorem byte_or (a b : UInt8) : bits BinOp.or IntKind.i64 (wrap64 (max 0 (Lib.indexByte [48, 49, 50, 51, 52, 53, 54, 55, 56, 57, 97, 98, 99, 100, 101, 102] a) * 16)) (max 0 (Lib.indexByte [48, 49, 50, 51, 52, 53, 54, 55, 56, 57, 97, 98, 99, 100, 101, 102] b)) % 256 = ((byteOf a b).toNat : Int) := by
  rw [hexv_index, hexv_index]
  have h : ∀ x y : Fin 16, bits BinOp.or IntKind.i64 (wrap64 ((x.val : Int) * 16)) (y.val : Int) % 256 = ((UInt8.ofNat (16 * x.val + y.val)).toNat : Int) := by decide +kernel
  exact h ⟨hexv a, hexv_lt a⟩ ⟨hexv b, hexv_lt b⟩
set_option maxRecDepth 100000 in
set_option maxHeartbeats 1000000 in
theorem unquote_any (s : ByteArray) (w : World) (hs : s.size ≤ 1000000) : Calls Tryd.prog 37 #[.string s] w fun e w' => e = unqAns (unquote s.data.toList) ∧ Below w.heap.size w w' := by
  rcases Nat.lt_or_ge s.size 2 with h2 | h5
  · have HF := Lib.hid (unquote_none1 s h2)
    have h2' : (s.size : Int) < 2 := by omega
    clear h2
    go_enter Tryd.func37, Tryd.ntmps37
    go_wp2
    go_ret2
    exact ⟨by rw [HF.out]; rfl, Below.refl _ _⟩
  by_cases h3 : s[0] = 34
  rotate_left
  · have HF := Lib.hid (unquote_none2 s h5 h3)
    have h2' : (s.size : Int) ≥ 2 := by omega
    have q3 : ((s[0].toNat : Int) != 34) = true := by rw [bne_iff_ne]; intro h; exact h3 (by rw [← UInt8.toNat_inj]; simp; omega)
    clear h3
    go_enter Tryd.func37, Tryd.ntmps37
    go_wp2
    go_ret2
    exact ⟨by rw [HF.out]; rfl, Below.refl _ _⟩
  by_cases h4 : s[s.size - 1] = 34
  rotate_left
  · have HF := Lib.hid (unquote_none3 s h5 h4)
    have h2' : (s.size : Int) ≥ 2 := by omega
    have q3 : ((s[0].toNat : Int) != 34) = false := by rw [h3]; rfl
    have q4 : ((s[s.size - 1].toNat : Int) != 34) = true := by rw [bne_iff_ne]; intro h; exact h4 (by rw [← UInt8.toNat_inj]; simp; omega)
    clear h3 h4
    go_enter Tryd.func37, Tryd.ntmps37
    go_wp2
    go_ret2
    exact ⟨by rw [HF.out]; rfl, Below.refl _ _⟩
  have HB := Lib.hid (unquote_some s h5 h3 h4)
  have q2 : (s.size : Int) ≥ 2 := by omega
  have q3 : ((s[0].toNat : Int) != 34) = false := by rw [h3]; rfl
  have q4 : ((s[s.size - 1].toNat : Int) != 34) = false := by rw [h4]; rfl
  clear h3 h4
  go_enter Tryd.func37, Tryd.ntmps37
  go_wp2
  go_loopw [4, 5] (fun v i wr => ∃ (k : Nat) (out : Bs), 1 ≤ k ∧ k + 1 ≤ s.size ∧ out.length ≤ k ∧ i = .int .i64 k ∧ OwnB wr w.heap.size v out ∧ Below w.heap.size w wr ∧ Hid (unq (rest s 1) = (unq (rest s k)).map (out ++ ·))) (fun _ i _ => s.size - (intOf i).toNat)
  case atStart =>
    exact ⟨1, [], by omega, by omega, by simp, rfl, World.ownsRow_nil w _ _ _, Below.refl _ _, by show _ = _; simp⟩
  case round =>
    obtain ⟨k, out, hk1, hk, hol, rfl, hown, hb, hr⟩ := hrel
    have HO := Lib.hid hown
    clear hown
    by_cases hlt : k + 1 < s.size
    · by_cases hc : s[k] = 92
      · have qc : ((s[k].toNat : Int) != 92) = false := by rw [hc]; rfl
        have HC := Lib.hid hc
        clear hc
        by_cases hk2 : k + 2 + 1 < s.size
        · have w1 : IntKind.i64.wrap ((k : Int) + 1) = (k : Int) + 1 := IntWalk.i64_in _ (by omega)
          have w2 : IntKind.i64.wrap ((k : Int) + 2) = (k : Int) + 2 := IntWalk.i64_in _ (by omega)
          have n1 : ((k : Int) + 1).toNat = k + 1 := by omega
          have n2 : ((k : Int) + 2).toNat = k + 2 := by omega
          have p1 : 0 ≤ (k : Int) + 1 := by omega
          have p2 : 0 ≤ (k : Int) + 2 := by omega
          have l1 : (k : Int) + 1 < (s.size : Int) := by omega
          have l2 : (k : Int) + 2 < (s.size : Int) := by omega
          go_wp2_with fail
          go_quiet ((go_at_call 52; exact Calls.quiet_of_same (Tryd.strings_IndexByte _ _ _)))
          have hv := byte_or s[k + 1] s[k + 2]
          go_wp2_with (at_builtin; refine append_byte rfl _ _ rfl w.heap.size u4 out (byteOf s[k + 1] s[k + 2]) (wr.drewN nq) rfl (show OwnB (wr.drewN nq) _ _ _ from HO.out) rfl (by omega) hb.size ?_; intro v' w1 h1 hb2)
          go_roundw
          case rel =>
            refine ⟨k + 3, out ++ [byteOf s[k + 1] s[k + 2]], by omega, by omega, by simp; omega, by go_num, h1, (Below.trans (b := wr.drewN nq) ⟨hb.os, hb.tape, hb.output, hb.size, hb.block⟩ hb2), ?_⟩
            show _ = _
            rw [hr.out, rest_cons s k hlt, rest_cons s (k + 1) (by omega), rest_cons s (k + 2) (by omega), HC.out, unq_pair, Option.map_map]
            congr 1; funext x; simp
          case measure => simp [intOf]; omega
        · go_wp2_with fail
          go_ret2
          refine ⟨?_, hb⟩
          rw [HB.out, hr.out, rest_cons s k hlt, HC.out, unq_short _ (rest_short s k hk2)]; rfl
      · have qc : ((s[k].toNat : Int) != 92) = true := by
          rw [bne_iff_ne]; intro h; exact hc (by rw [← UInt8.toNat_inj]; simp; omega)
        have HC := Lib.hid hc
        clear hc
        go_wp2_with (at_builtin; refine append_byte rfl _ _ rfl w.heap.size u4 out s[k] wr rfl HO.out rfl (by omega) hb.size ?_; intro v' w1 h1 hb2)
        go_roundw
        case rel =>
          refine ⟨k + 1, out ++ [s[k]], by omega, by omega, by simp; omega, by go_num, h1, hb.trans hb2, ?_⟩
          show _ = _
          rw [hr.out, rest_cons s k hlt, unq_plain _ _ HC.out, Option.map_map]
          congr 1; funext x; simp
        case measure => simp [intOf]; omega
    · have hk' : k + 1 = s.size := by omega
      have HK := Lib.hid hk'
      clear hk'
      have HU : Hid (unquote s.data.toList = if quote out = s.data.toList then some out else none) := by
        show _ = _
        rw [HB.out, hr.out, rest_nil s k (by omega)]; simp [unq]
      have hsz : (⟨out.toArray⟩ : ByteArray).size ≤ 1000000 := by show out.toArray.size ≤ _; simp; omega
      have hcv1 := ownB_string HO.out
      have HCV := Lib.hid (fun w' (h : OwnB w' w.heap.size u4 out) => ownB_string h)
      have hki : (s.size : Int) - 1 ≤ (k : Int) := by omega
      by_cases hq : quote out = s.data.toList
      · have HQ := Lib.hid hq
        clear hq
        have qq : (quote out == s.toList) = true := by rw [Lib.toList_data]; simp [HQ.out]
        go_wp2_with (go_at_call 28; refine (quote_any ⟨out.toArray⟩ _ hsz).mono ?_; rintro e w1 ⟨rfl, hb1⟩; have hcv2 := HCV.out w1 (OwnB.below HO.out hb1))
        go_ret2
        refine ⟨?_, hb.trans (hb1.mono hb.size)⟩
        rw [HU.out, if_pos HQ.out]; rfl
      · have HQ := Lib.hid hq
        clear hq
        have qq : (quote out == s.toList) = false := by rw [Lib.toList_data]; simpa using HQ.out
        go_wp2_with (go_at_call 28; refine (quote_any ⟨out.toArray⟩ _ hsz).mono ?_; rintro e w1 ⟨rfl, hb1⟩; have hcv2 := HCV.out w1 (OwnB.below HO.out hb1))
        go_ret2
        refine ⟨?_, hb.trans (hb1.mono hb.size)⟩
        rw [HU.out, if_neg HQ.out]; rfl
end Go.Proofs.YtelehacakbaobaaDoor

namespace Go.Proofs.YtelehacakbaobaaDoor
open Go.RowKit
set_option linter.unusedVariables false
set_option linter.unusedSimpArgs false

/-- An act's cells. -/
def cellsA (a : TAct) : Array Value := #[.int .i64 a.kind, .string ⟨a.name.toArray⟩, .int .i64 a.frm, .int .i64 a.til, .string ⟨a.text.toArray⟩, .int .i64 a.n, .int .i64 a.l1, .int .i64 a.l2, .int .i64 a.l3]
/-- A block that holds an act. -/
def HasAct (w : World) (b : Nat) (a : TAct) : Prop := w.heap[b]? = some (.cells (cellsA a) 26 (0, 0))
theorem HasAct.cell {w : World} {b : Nat} {a : TAct} (h : HasAct w b a) (j : Nat) : w.cell? ⟨b, j, none⟩ = (cellsA a)[j]? := by
  unfold HasAct at h
  simp [World.cell?, h]
theorem HasAct.free {w : World} {b : Nat} {a : TAct} (h : HasAct w b a) (j : Nat) : w.frozen? ⟨b, j, none⟩ = false := by
  unfold HasAct at h
  simp [World.frozen?, h]
theorem HasAct.lt {w : World} {b : Nat} {a : TAct} (h : HasAct w b a) : b < w.heap.size := lt_of_block h
theorem HasAct.set {w : World} {b : Nat} {a a' : TAct} (h : HasAct w b a) (j : Nat) (v : Value) (hv : (cellsA a).set! j v = cellsA a') : HasAct (w.setCell ⟨b, j, none⟩ v) b a' := by
  unfold HasAct at *
  rw [heap_setCell_same w b j _ _ _ h]
  rw [← hv]; rfl
theorem HasAct.other {w : World} {b : Nat} {a : TAct} (h : HasAct w b a) (x : Addr) (hx : b ≠ x.block) (v : Value) : HasAct (w.setCell x v) b a := by
  unfold HasAct at *
  rw [heap_setCell_other w x b v hx]; exact h
theorem HasAct.iterAt {w : World} {b : Nat} {a : TAct} (h : HasAct w b a) (k : Nat) (s : ByteArray) (pos : Nat) (hk : b ≠ k) : HasAct (w.iterAt k s pos) b a := by
  unfold HasAct at *
  rw [Lib.iterAt_other w k b s pos hk]; exact h
theorem HasAct.below {w w' : World} {b : Nat} {a : TAct} {B : Nat} (h : HasAct w b a) (hb : Below B w w') (hB : b < B) : HasAct w' b a := by
  unfold HasAct at *
  rw [hb.block b hB]; exact h
/-- An act, stored cell by cell. -/
theorem HasAct.all {w : World} {b : Nat} {z : TAct} (h : HasAct w b z) (o : TAct) : HasAct (((((((((w.setCell ⟨b, 0, none⟩ (.int .i64 o.kind)).setCell ⟨b, 1, none⟩ (.string ⟨o.name.toArray⟩)).setCell ⟨b, 2, none⟩ (.int .i64 o.frm)).setCell ⟨b, 3, none⟩ (.int .i64 o.til)).setCell ⟨b, 4, none⟩ (.string ⟨o.text.toArray⟩)).setCell ⟨b, 5, none⟩ (.int .i64 o.n)).setCell ⟨b, 6, none⟩ (.int .i64 o.l1)).setCell ⟨b, 7, none⟩ (.int .i64 o.l2)).setCell ⟨b, 8, none⟩ (.int .i64 o.l3)) b o := by
  have h0 := h.set 0 (.int .i64 o.kind) (a' := { z with kind := o.kind }) rfl
  have h1 := h0.set 1 (.string ⟨o.name.toArray⟩) (a' := { z with kind := o.kind, name := o.name }) rfl
  have h2 := h1.set 2 (.int .i64 o.frm) (a' := { z with kind := o.kind, name := o.name, frm := o.frm }) rfl
  have h3 := h2.set 3 (.int .i64 o.til) (a' := { z with kind := o.kind, name := o.name, frm := o.frm, til := o.til }) rfl
  have h4 := h3.set 4 (.string ⟨o.text.toArray⟩) (a' := { z with kind := o.kind, name := o.name, frm := o.frm, til := o.til, text := o.text }) rfl
  have h5 := h4.set 5 (.int .i64 o.n) (a' := { z with kind := o.kind, name := o.name, frm := o.frm, til := o.til, text := o.text, n := o.n }) rfl
  have h6 := h5.set 6 (.int .i64 o.l1) (a' := { o with l2 := z.l2, l3 := z.l3 }) rfl
  have h7 := h6.set 7 (.int .i64 o.l2) (a' := { o with l3 := z.l3 }) rfl
  exact h7.set 8 (.int .i64 o.l3) (a' := o) rfl
/-- What stands in memory while an act is gone through. -/
structure BareW (B : Nat) (w0 : World) (a o : TAct) (s : ByteArray) (pos : Nat) (w : World) : Prop where
  ha : HasAct w B a
  hr : HasAct w (B + 1) TAct.zero
  ho : HasAct w (B + 2) o
  hi : w.heap[B + 3]? = some (.stringIter s pos)
  hb : Below B w0 w
theorem BareW.next {B : Nat} {w0 w : World} {a o : TAct} {s : ByteArray} {pos : Nat} (h : BareW B w0 a o s pos w) (pos' : Nat) : BareW B w0 a o s pos' (w.iterAt (B + 3) s pos') where
  ha := h.ha.iterAt _ _ _ (by omega)
  hr := h.hr.iterAt _ _ _ (by omega)
  ho := h.ho.iterAt _ _ _ (by omega)
  hi := Lib.iterAt_heap w (B + 3) s pos pos' h.hi
  hb := Lib.below_iterAt h.hb (by omega) s pos'
theorem BareW.store {B : Nat} {w0 w : World} {a o o' : TAct} {s : ByteArray} {pos : Nat} (h : BareW B w0 a o s pos w) (j : Nat) (v : Value) (hv : (cellsA o).set! j v = cellsA o') : BareW B w0 a o' s pos (w.setCell ⟨B + 2, j, none⟩ v) where
  ha := h.ha.other _ (by simp) _
  hr := h.hr.other _ (by simp) _
  ho := h.ho.set j v hv
  hi := by rw [heap_setCell_other w _ (B + 3) v (by simp)]; exact h.hi
  hb := h.hb.setCell (by show B ≤ B + 2; omega) v

theorem heap_at (w : World) (o : Obj) (n : Nat) (hn : n = w.heap.size) : (w.alloc o).heap[n]? = some o := by subst hn; exact heap_alloc_new w o
theorem bare_start (w : World) (a : TAct) (use : ByteArray) : BareW w.heap.size w a { TAct.zero with kind := a.kind } use 0 ((((w.alloc (.cells (cellsA a) 26)).alloc (.cells (cellsA TAct.zero) 26)).alloc (.cells (cellsA { TAct.zero with kind := a.kind }) 26)).iter use 0) where
  ha := by
    unfold HasAct World.iter
    rw [Below.heap_alloc _ _ _ (by simp only [World.size_alloc]; omega), Below.heap_alloc _ _ _ (by simp only [World.size_alloc]; omega), Below.heap_alloc _ _ _ (by simp only [World.size_alloc]; omega), heap_alloc_new]
  hr := by
    unfold HasAct World.iter
    rw [Below.heap_alloc _ _ _ (by simp only [World.size_alloc]; omega), Below.heap_alloc _ _ _ (by simp only [World.size_alloc]; omega)]
    exact heap_at _ _ _ (by simp only [World.size_alloc])
  ho := by
    unfold HasAct World.iter
    rw [Below.heap_alloc _ _ _ (by simp only [World.size_alloc]; omega)]
    exact heap_at _ _ _ (by simp only [World.size_alloc])
  hi := heap_at _ _ _ (by simp only [World.size_alloc])
  hb := ((((Below.refl _ w).alloc (Nat.le_refl _) _).alloc (by simp) _).alloc (by simp; omega) _).alloc (by simp; omega) _
theorem keep_110 (a o : TAct) (c : UInt8) (h : c = 110) : keep a o c = { o with name := a.name } := by subst h; rfl
theorem keep_116 (a o : TAct) (c : UInt8) (h : c = 116) : keep a o c = { o with text := a.text } := by subst h; rfl
theorem keep_102 (a o : TAct) (c : UInt8) (h : c = 102) : keep a o c = { o with frm := a.frm } := by subst h; rfl
theorem keep_111 (a o : TAct) (c : UInt8) (h : c = 111) : keep a o c = { o with til := a.til } := by subst h; rfl
theorem keep_117 (a o : TAct) (c : UInt8) (h : c = 117) : keep a o c = { o with n := a.n } := by subst h; rfl
theorem keep_108 (a o : TAct) (c : UInt8) (h : c = 108) : keep a o c = { o with l1 := a.l1, l2 := a.l2, l3 := a.l3 } := by subst h; rfl
theorem keep_else (a o : TAct) (c : UInt8) (h0 : ¬ c = 110) (h1 : ¬ c = 116) (h2 : ¬ c = 102) (h3 : ¬ c = 111) (h4 : ¬ c = 117) (h5 : ¬ c = 108) : keep a o c = o := by
  unfold keep; rw [if_neg h0, if_neg h1, if_neg h2, if_neg h3, if_neg h4, if_neg h5]
theorem foldl_take (a : TAct) (s : ByteArray) (k : Nat) (h : k < s.size) (o : TAct) : (s.data.toList.take (k + 1)).foldl (keep a) o = keep a ((s.data.toList.take k).foldl (keep a) o) s[k] := by
  rw [take_succ s k h, List.foldl_append]; rfl

set_option maxRecDepth 100000 in
set_option maxHeartbeats 2000000 in
theorem bare_any (a : TAct) (use : ByteArray) (ha : ∀ k (h : k < use.size), (use[k]'h).toNat < 128) (hs : use.size ≤ 1000) (w : World) :
    Calls Tryd.prog 25 #[.agg #[.int .i64 a.kind, .string ⟨a.name.toArray⟩, .int .i64 a.frm, .int .i64 a.til, .string ⟨a.text.toArray⟩, .int .i64 a.n, .int .i64 a.l1, .int .i64 a.l2, .int .i64 a.l3], .string use] w fun e w' =>
      e = .returned (.agg (cellsA (bare a use.data.toList))) ∧ Below w.heap.size w w' := by
  have HA := Lib.hid ha
  clear ha
  go_enter Tryd.func25, Tryd.ntmps25
  go_wp2
  go_loopw [] (fun wr => ∃ (pos : Nat) (o : TAct), pos ≤ use.size ∧ Hid ((use.data.toList.take pos).foldl (keep a) { TAct.zero with kind := a.kind } = o) ∧ BareW w.heap.size w a o use pos wr) (fun wr => use.size - wr.iterPos (w.heap.size + 3))
  case atStart =>
    refine ⟨0, _, by omega, Lib.hid rfl, ?_⟩
    exact bare_start w a use
  case round =>
    obtain ⟨pos, o, hpos, ho, hW⟩ := hrel
    by_cases hp : pos < use.size
    · have hnx : ∀ ty, (Instr.next (.pointer (some ⟨w.heap.size + 3, 0, none⟩)) true ty).run Tryd.prog wr = _ := fun ty => Lib.run_next_ascii_at wr (w.heap.size + 3) use pos ty hW.hi hp (HA.out pos hp)
      have hW2 := hW.next (pos + 1)
      have HO : Hid ((use.data.toList.take (pos + 1)).foldl (keep a) { TAct.zero with kind := a.kind } = keep a o use[pos]) := by
        show _ = _
        rw [foldl_take a use pos hp, ho.out]
      by_cases h0 : use[pos] = 110
      · have q0 : ((use[pos].toNat : Int) == 110) = true := by rw [h0]; rfl
        have HK := Lib.hid (keep_110 a o use[pos] h0)
        clear h0
        have c1 := hW2.ha.cell 1
        have f1 := hW2.ho.free 1
        have d1 := hW2.ho.cell 1
        rw [show (cellsA a)[1]? = some (.string ⟨a.name.toArray⟩) from rfl] at c1
        rw [show (cellsA o)[1]? = some (.string ⟨o.name.toArray⟩) from rfl] at d1
        go_wp2
        have hW3 := hW2.store 1 (.string ⟨a.name.toArray⟩) (o' := keep a o use[pos]) (by rw [HK.out]; rfl)
        exact ⟨⟨pos + 1, _, by omega, HO, hW3⟩, by simp only [World.iterPos, hW3.hi, hW.hi]; omega⟩
      have q0 : ((use[pos].toNat : Int) == 110) = false := by rw [beq_eq_false_iff_ne]; intro h; exact h0 (by rw [← UInt8.toNat_inj]; simp; omega)
      by_cases h1 : use[pos] = 116
      · have q1 : ((use[pos].toNat : Int) == 116) = true := by rw [h1]; rfl
        have HK := Lib.hid (keep_116 a o use[pos] h1)
        clear h1
        have c4 := hW2.ha.cell 4
        have f4 := hW2.ho.free 4
        have d4 := hW2.ho.cell 4
        rw [show (cellsA a)[4]? = some (.string ⟨a.text.toArray⟩) from rfl] at c4
        rw [show (cellsA o)[4]? = some (.string ⟨o.text.toArray⟩) from rfl] at d4
        go_wp2
        have hW3 := hW2.store 4 (.string ⟨a.text.toArray⟩) (o' := keep a o use[pos]) (by rw [HK.out]; rfl)
        exact ⟨⟨pos + 1, _, by omega, HO, hW3⟩, by simp only [World.iterPos, hW3.hi, hW.hi]; omega⟩
      have q1 : ((use[pos].toNat : Int) == 116) = false := by rw [beq_eq_false_iff_ne]; intro h; exact h1 (by rw [← UInt8.toNat_inj]; simp; omega)
      by_cases h2 : use[pos] = 102
      · have q2 : ((use[pos].toNat : Int) == 102) = true := by rw [h2]; rfl
        have HK := Lib.hid (keep_102 a o use[pos] h2)
        clear h2
        have c2 := hW2.ha.cell 2
        have f2 := hW2.ho.free 2
        have d2 := hW2.ho.cell 2
        rw [show (cellsA a)[2]? = some (.int .i64 a.frm) from rfl] at c2
        rw [show (cellsA o)[2]? = some (.int .i64 o.frm) from rfl] at d2
        go_wp2
        have hW3 := hW2.store 2 (.int .i64 a.frm) (o' := keep a o use[pos]) (by rw [HK.out]; rfl)
        exact ⟨⟨pos + 1, _, by omega, HO, hW3⟩, by simp only [World.iterPos, hW3.hi, hW.hi]; omega⟩
      have q2 : ((use[pos].toNat : Int) == 102) = false := by rw [beq_eq_false_iff_ne]; intro h; exact h2 (by rw [← UInt8.toNat_inj]; simp; omega)
      by_cases h3 : use[pos] = 111
      · have q3 : ((use[pos].toNat : Int) == 111) = true := by rw [h3]; rfl
        have HK := Lib.hid (keep_111 a o use[pos] h3)
        clear h3
        have c3 := hW2.ha.cell 3
        have f3 := hW2.ho.free 3
        have d3 := hW2.ho.cell 3
        rw [show (cellsA a)[3]? = some (.int .i64 a.til) from rfl] at c3
        rw [show (cellsA o)[3]? = some (.int .i64 o.til) from rfl] at d3
        go_wp2
        have hW3 := hW2.store 3 (.int .i64 a.til) (o' := keep a o use[pos]) (by rw [HK.out]; rfl)
        exact ⟨⟨pos + 1, _, by omega, HO, hW3⟩, by simp only [World.iterPos, hW3.hi, hW.hi]; omega⟩
      have q3 : ((use[pos].toNat : Int) == 111) = false := by rw [beq_eq_false_iff_ne]; intro h; exact h3 (by rw [← UInt8.toNat_inj]; simp; omega)
      by_cases h4 : use[pos] = 117
      · have q4 : ((use[pos].toNat : Int) == 117) = true := by rw [h4]; rfl
        have HK := Lib.hid (keep_117 a o use[pos] h4)
        clear h4
        have c5 := hW2.ha.cell 5
        have f5 := hW2.ho.free 5
        have d5 := hW2.ho.cell 5
        rw [show (cellsA a)[5]? = some (.int .i64 a.n) from rfl] at c5
        rw [show (cellsA o)[5]? = some (.int .i64 o.n) from rfl] at d5
        go_wp2
        have hW3 := hW2.store 5 (.int .i64 a.n) (o' := keep a o use[pos]) (by rw [HK.out]; rfl)
        exact ⟨⟨pos + 1, _, by omega, HO, hW3⟩, by simp only [World.iterPos, hW3.hi, hW.hi]; omega⟩
      have q4 : ((use[pos].toNat : Int) == 117) = false := by rw [beq_eq_false_iff_ne]; intro h; exact h4 (by rw [← UInt8.toNat_inj]; simp; omega)
      by_cases h5 : use[pos] = 108
      · have q5 : ((use[pos].toNat : Int) == 108) = true := by rw [h5]; rfl
        have HK := Lib.hid (keep_108 a o use[pos] h5)
        clear h5
        have c6 := hW2.ha.cell 6
        have f6 := hW2.ho.free 6
        have d6 := hW2.ho.cell 6
        rw [show (cellsA a)[6]? = some (.int .i64 a.l1) from rfl] at c6
        rw [show (cellsA o)[6]? = some (.int .i64 o.l1) from rfl] at d6
        have c7 := hW2.ha.cell 7
        have f7 := hW2.ho.free 7
        have d7 := hW2.ho.cell 7
        rw [show (cellsA a)[7]? = some (.int .i64 a.l2) from rfl] at c7
        rw [show (cellsA o)[7]? = some (.int .i64 o.l2) from rfl] at d7
        have c8 := hW2.ha.cell 8
        have f8 := hW2.ho.free 8
        have d8 := hW2.ho.cell 8
        rw [show (cellsA a)[8]? = some (.int .i64 a.l3) from rfl] at c8
        rw [show (cellsA o)[8]? = some (.int .i64 o.l3) from rfl] at d8
        go_wp2
        have hW3 := ((hW2.store 6 (.int .i64 a.l1) (o' := { o with l1 := a.l1 }) rfl).store 7 (.int .i64 a.l2) (o' := { o with l1 := a.l1, l2 := a.l2 }) rfl).store 8 (.int .i64 a.l3) (o' := keep a o use[pos]) (by rw [HK.out]; rfl)
        exact ⟨⟨pos + 1, _, by omega, HO, hW3⟩, by simp only [World.iterPos, hW3.hi, hW.hi]; omega⟩
      have q5 : ((use[pos].toNat : Int) == 108) = false := by rw [beq_eq_false_iff_ne]; intro h; exact h5 (by rw [← UInt8.toNat_inj]; simp; omega)
      have HK := Lib.hid (keep_else a o use[pos] h0 h1 h2 h3 h4 h5)
      clear h0 h1 h2 h3 h4 h5
      go_wp2
      rw [HK.out] at HO
      exact ⟨⟨pos + 1, _, by omega, HO, hW2⟩, by simp only [World.iterPos, hW2.hi, hW.hi]; omega⟩
    · have hnx : ∀ ty, (Instr.next (.pointer (some ⟨w.heap.size + 3, 0, none⟩)) true ty).run Tryd.prog wr = _ := fun ty => Lib.run_next_end_at wr (w.heap.size + 3) use pos ty hW.hi hp
      have hpe : pos = use.size := by omega
      have HF : Hid (o = bare a use.data.toList) := by
        show _ = _
        rw [← ho.out, hpe, List.take_of_length_le (by rw [size_data]; omega)]; rfl
      clear hpe
      have d0 := hW.ho.cell 0
      rw [show (cellsA o)[0]? = some (.int .i64 o.kind) from rfl] at d0
      have r0 := hW.hr.cell 0
      rw [show (cellsA TAct.zero)[0]? = some (.int .i64 0) from rfl] at r0
      have f0 := hW.hr.free 0
      have d1 := hW.ho.cell 1
      rw [show (cellsA o)[1]? = some (.string ⟨o.name.toArray⟩) from rfl] at d1
      have r1 := hW.hr.cell 1
      rw [show (cellsA TAct.zero)[1]? = some (.string ⟨#[]⟩) from rfl] at r1
      have f1 := hW.hr.free 1
      have d2 := hW.ho.cell 2
      rw [show (cellsA o)[2]? = some (.int .i64 o.frm) from rfl] at d2
      have r2 := hW.hr.cell 2
      rw [show (cellsA TAct.zero)[2]? = some (.int .i64 0) from rfl] at r2
      have f2 := hW.hr.free 2
      have d3 := hW.ho.cell 3
      rw [show (cellsA o)[3]? = some (.int .i64 o.til) from rfl] at d3
      have r3 := hW.hr.cell 3
      rw [show (cellsA TAct.zero)[3]? = some (.int .i64 0) from rfl] at r3
      have f3 := hW.hr.free 3
      have d4 := hW.ho.cell 4
      rw [show (cellsA o)[4]? = some (.string ⟨o.text.toArray⟩) from rfl] at d4
      have r4 := hW.hr.cell 4
      rw [show (cellsA TAct.zero)[4]? = some (.string ⟨#[]⟩) from rfl] at r4
      have f4 := hW.hr.free 4
      have d5 := hW.ho.cell 5
      rw [show (cellsA o)[5]? = some (.int .i64 o.n) from rfl] at d5
      have r5 := hW.hr.cell 5
      rw [show (cellsA TAct.zero)[5]? = some (.int .i64 0) from rfl] at r5
      have f5 := hW.hr.free 5
      have d6 := hW.ho.cell 6
      rw [show (cellsA o)[6]? = some (.int .i64 o.l1) from rfl] at d6
      have r6 := hW.hr.cell 6
      rw [show (cellsA TAct.zero)[6]? = some (.int .i64 0) from rfl] at r6
      have f6 := hW.hr.free 6
      have d7 := hW.ho.cell 7
      rw [show (cellsA o)[7]? = some (.int .i64 o.l2) from rfl] at d7
      have r7 := hW.hr.cell 7
      rw [show (cellsA TAct.zero)[7]? = some (.int .i64 0) from rfl] at r7
      have f7 := hW.hr.free 7
      have d8 := hW.ho.cell 8
      rw [show (cellsA o)[8]? = some (.int .i64 o.l3) from rfl] at d8
      have r8 := hW.hr.cell 8
      rw [show (cellsA TAct.zero)[8]? = some (.int .i64 0) from rfl] at r8
      have f8 := hW.hr.free 8
      have hres := hW.hr.all o
      have hbel : Below w.heap.size w (((((((((wr.setCell ⟨w.heap.size + 1, 0, none⟩ (.int .i64 o.kind)).setCell ⟨w.heap.size + 1, 1, none⟩ (.string ⟨o.name.toArray⟩)).setCell ⟨w.heap.size + 1, 2, none⟩ (.int .i64 o.frm)).setCell ⟨w.heap.size + 1, 3, none⟩ (.int .i64 o.til)).setCell ⟨w.heap.size + 1, 4, none⟩ (.string ⟨o.text.toArray⟩)).setCell ⟨w.heap.size + 1, 5, none⟩ (.int .i64 o.n)).setCell ⟨w.heap.size + 1, 6, none⟩ (.int .i64 o.l1)).setCell ⟨w.heap.size + 1, 7, none⟩ (.int .i64 o.l2)).setCell ⟨w.heap.size + 1, 8, none⟩ (.int .i64 o.l3)) := (((((((((hW.hb.setCell (by show w.heap.size ≤ w.heap.size + 1; omega) _).setCell (by show w.heap.size ≤ w.heap.size + 1; omega) _).setCell (by show w.heap.size ≤ w.heap.size + 1; omega) _).setCell (by show w.heap.size ≤ w.heap.size + 1; omega) _).setCell (by show w.heap.size ≤ w.heap.size + 1; omega) _).setCell (by show w.heap.size ≤ w.heap.size + 1; omega) _).setCell (by show w.heap.size ≤ w.heap.size + 1; omega) _).setCell (by show w.heap.size ≤ w.heap.size + 1; omega) _).setCell (by show w.heap.size ≤ w.heap.size + 1; omega) _)
      have HRES := Lib.hid hres
      have HBEL := Lib.hid hbel
      clear hres hbel
      go_wp2
      have hres := HRES.out
      have hbel := HBEL.out
      generalize (((((((((wr.setCell ⟨w.heap.size + 1, 0, none⟩ (.int .i64 o.kind)).setCell ⟨w.heap.size + 1, 1, none⟩ (.string ⟨o.name.toArray⟩)).setCell ⟨w.heap.size + 1, 2, none⟩ (.int .i64 o.frm)).setCell ⟨w.heap.size + 1, 3, none⟩ (.int .i64 o.til)).setCell ⟨w.heap.size + 1, 4, none⟩ (.string ⟨o.text.toArray⟩)).setCell ⟨w.heap.size + 1, 5, none⟩ (.int .i64 o.n)).setCell ⟨w.heap.size + 1, 6, none⟩ (.int .i64 o.l1)).setCell ⟨w.heap.size + 1, 7, none⟩ (.int .i64 o.l2)).setCell ⟨w.heap.size + 1, 8, none⟩ (.int .i64 o.l3)) = w9 at *
      have e0 := hres.cell 0
      rw [show (cellsA o)[0]? = some (.int .i64 o.kind) from rfl] at e0
      have e1 := hres.cell 1
      rw [show (cellsA o)[1]? = some (.string ⟨o.name.toArray⟩) from rfl] at e1
      have e2 := hres.cell 2
      rw [show (cellsA o)[2]? = some (.int .i64 o.frm) from rfl] at e2
      have e3 := hres.cell 3
      rw [show (cellsA o)[3]? = some (.int .i64 o.til) from rfl] at e3
      have e4 := hres.cell 4
      rw [show (cellsA o)[4]? = some (.string ⟨o.text.toArray⟩) from rfl] at e4
      have e5 := hres.cell 5
      rw [show (cellsA o)[5]? = some (.int .i64 o.n) from rfl] at e5
      have e6 := hres.cell 6
      rw [show (cellsA o)[6]? = some (.int .i64 o.l1) from rfl] at e6
      have e7 := hres.cell 7
      rw [show (cellsA o)[7]? = some (.int .i64 o.l2) from rfl] at e7
      have e8 := hres.cell 8
      rw [show (cellsA o)[8]? = some (.int .i64 o.l3) from rfl] at e8
      exact bodyPost_ret (v := .agg (cellsA o)) (by simp [results, Tryd.results25, go_sem, cellsA, e0, e1, e2, e3, e4, e5, e6, e7, e8]) rfl ⟨by rw [← HF.out], hbel⟩
end Go.Proofs.YtelehacakbaobaaDoor
