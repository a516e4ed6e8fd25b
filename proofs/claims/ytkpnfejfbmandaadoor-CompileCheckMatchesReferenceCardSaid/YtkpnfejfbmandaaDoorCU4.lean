import Derived.Shelf.Strings.Builder1
import Derived.Shelf.Strings.Builder2
import Derived.Shelf.Strings.OnBuilder
import Derived.Shelf.Small.Strs
import Derived.Shelf.Small.Wraps
import Derived.Shelf.Strings.BuilderF
import Derived.Shelf.Strings.BuilderK
import Derived.Shelf.Utf8.RuneCount
import Derived.Shelf.Strings.Builder2Cap
import Derived.Shelf.Strings.Search1
import Derived.Shelf.Strings.Search2
import Derived.Shelf.Strings.Search3
import Derived.Shelf.Strings.Cut
import Derived.Shelf.Strings.Count
import Derived.Shelf.LaysM
import Derived.Shelf.Strings.Shaped
import Derived.Shelf.Strings.Prefix
import Derived.Shelf.Strings.Split
import Derived.Shelf.Strings.SplitShaped
import Derived.Shelf.Unicode.Decode
import Derived.Shelf.Strings.RuneCount
import Derived.Shelf.Strings.Explode
import Derived.Shelf.Bits.Mul64
import Derived.Shelf.Strings.Repeat
import Derived.Shelf.Unicode.DecodeSlow
import Derived.Shelf.Unicode.DecodeAny
import Derived.Shelf.Strings.FieldsFuncAny
import Derived.Shelf.Strings.FieldsFuncGrows
import Derived.Shelf.Strings.BuilderCap
import Derived.Test.YtkpnfejfbmandaaDoorProg
import Derived.Test.YtkpnfejfbmandaaDoorCU2
import Derived.Test.YtkpnfejfbmandaaDoorCU3
import Derived.Laws.RangeString
import Derived.Laws.RangeAny
/-
  DERIVED: THE SHELF's CONTRACTS AT THIS DUMP, IN PLAIN WORDS (tools/lay-plain.mjs out of 'TrydShelf.lean', which tools/lay-shelf.mjs wrote): THE SAME DECLARATIONS UNDER THE SAME NAMES: 'import', 'namespace', 'open', 'def', 'theorem' AND NOTHING ELSE: no command of the shelf's: FOR A HAND-IN. Each laying: the table of numbers ('.._ren') and one theorem, a field a fact of the dump's own or the kernel's comparison; each contract: ONE APPLICATION.
-/
namespace Go.Proofs
set_option linter.unusedVariables false
set_option linter.unusedSimpArgs false
open Go.Shelf
def Tryd.lays169_ren : Go.Shelf.Ren := ⟨fun | 169 => 29 | n => n, fun | 70 => 53 | 9 => 9 | 0 => 0 | 72 => 56 | 37 => 54 | 127 => 109 | 3 => 3 | 5 => 5 | n => n, fun | n => n⟩
theorem Tryd.lays169 : Go.Proofs.Lays.n169 Tryd.prog Tryd.lays169_ren := {
  mixed := by kernel_rfl
  f169 := Tryd.func29.trans (congrArg some (by kernel_rfl))
  t0 := Tryd.underlying0
  a0 := Tryd.isAgg0
  z0 := Tryd.sizeOf0
  v0 := Tryd.zeroValue0
  t3 := Tryd.underlying3
  a3 := Tryd.isAgg3
  z3 := Tryd.sizeOf3
  v3 := Tryd.zeroValue3
  t9 := Tryd.underlying9
  a9 := Tryd.isAgg9
  z9 := Tryd.sizeOf9
  v9 := Tryd.zeroValue9
  t37 := Tryd.underlying54
  a37 := Tryd.isAgg54
  z37 := Tryd.sizeOf54
  v37 := Tryd.zeroValue54
  t70 := Tryd.underlying53
  a70 := Tryd.isAgg53
  z70 := Tryd.sizeOf53
  v70 := Tryd.zeroValue53
  t72 := Tryd.underlying56
  a72 := Tryd.isAgg56
  z72 := Tryd.sizeOf56
  v72 := Tryd.zeroValue56
  t127 := Tryd.underlying109
  a127 := Tryd.isAgg109
  z127 := Tryd.sizeOf109
  v127 := Tryd.zeroValue109 }
theorem Tryd.Builder_Extra_169 : Builder.Extra Tryd.prog Tryd.lays169_ren := {
  sizeBuilder := by kernel_rfl
  liesBuilder := by kernel_rfl
  t5 := Tryd.underlying5
  a5 := Tryd.isAgg5
  z5 := Tryd.sizeOf5
  v5 := Tryd.zeroValue5
  infoByte := by kernel_rfl
  cellsByte := by kernel_rfl
  sizeByte := by kernel_rfl
  neB5 := by decide }
def Tryd.lays156_ren : Go.Shelf.Ren := ⟨fun | 156 => 72 | 165 => 26 | 166 => 27 | 169 => 29 | 240 => 49 | 241 => 50 | 276 => 73 | 277 => 74 | n => n, fun | 31 => 114 | 9 => 9 | 3 => 3 | 4 => 4 | 0 => 0 | 20 => 20 | 72 => 56 | 76 => 60 | 70 => 53 | 37 => 54 | 75 => 59 | 127 => 109 | 164 => 150 | 5 => 5 | 80 => 63 | n => n, fun | n => n⟩
theorem Tryd.lays156 : Go.Proofs.Lays.n156 Tryd.prog Tryd.lays156_ren := {
  mixed := by kernel_rfl
  f156 := Tryd.func72.trans (congrArg some (by kernel_rfl))
  f165 := Tryd.func26.trans (congrArg some (by kernel_rfl))
  f166 := Tryd.func27.trans (congrArg some (by kernel_rfl))
  f169 := Tryd.func29.trans (congrArg some (by kernel_rfl))
  f240 := Tryd.func49.trans (congrArg some (by kernel_rfl))
  f241 := Tryd.func50.trans (congrArg some (by kernel_rfl))
  f276 := Tryd.func73.trans (congrArg some (by kernel_rfl))
  f277 := Tryd.func74.trans (congrArg some (by kernel_rfl))
  t0 := Tryd.underlying0
  a0 := Tryd.isAgg0
  z0 := Tryd.sizeOf0
  v0 := Tryd.zeroValue0
  t3 := Tryd.underlying3
  a3 := Tryd.isAgg3
  z3 := Tryd.sizeOf3
  v3 := Tryd.zeroValue3
  t4 := Tryd.underlying4
  a4 := Tryd.isAgg4
  z4 := Tryd.sizeOf4
  v4 := Tryd.zeroValue4
  t9 := Tryd.underlying9
  a9 := Tryd.isAgg9
  z9 := Tryd.sizeOf9
  v9 := Tryd.zeroValue9
  t20 := Tryd.underlying20
  a20 := Tryd.isAgg20
  z20 := Tryd.sizeOf20
  v20 := Tryd.zeroValue20
  t31 := Tryd.underlying114
  a31 := Tryd.isAgg114
  z31 := Tryd.sizeOf114
  v31 := Tryd.zeroValue114
  t37 := Tryd.underlying54
  a37 := Tryd.isAgg54
  z37 := Tryd.sizeOf54
  v37 := Tryd.zeroValue54
  t70 := Tryd.underlying53
  a70 := Tryd.isAgg53
  z70 := Tryd.sizeOf53
  v70 := Tryd.zeroValue53
  t72 := Tryd.underlying56
  a72 := Tryd.isAgg56
  z72 := Tryd.sizeOf56
  v72 := Tryd.zeroValue56
  t75 := Tryd.underlying59
  a75 := Tryd.isAgg59
  z75 := Tryd.sizeOf59
  v75 := Tryd.zeroValue59
  t76 := Tryd.underlying60
  a76 := Tryd.isAgg60
  z76 := Tryd.sizeOf60
  v76 := Tryd.zeroValue60
  t127 := Tryd.underlying109
  a127 := Tryd.isAgg109
  z127 := Tryd.sizeOf109
  v127 := Tryd.zeroValue109
  t164 := Tryd.underlying150
  a164 := Tryd.isAgg150
  z164 := Tryd.sizeOf150
  v164 := Tryd.zeroValue150 }
theorem Tryd.Builder_Extra_156 : Builder.Extra Tryd.prog Tryd.lays156_ren := {
  sizeBuilder := by kernel_rfl
  liesBuilder := by kernel_rfl
  t5 := Tryd.underlying5
  a5 := Tryd.isAgg5
  z5 := Tryd.sizeOf5
  v5 := Tryd.zeroValue5
  infoByte := by kernel_rfl
  cellsByte := by kernel_rfl
  sizeByte := by kernel_rfl
  neB5 := by decide }
open Go.RowKit in
/-- No element: the empty string; the world is as it was. (Whatever the slice's address and capacity: a nil slice too.) (LAID: no walk: one application.) -/
theorem Tryd.strings_Join_none (a : Option Addr) (c : Nat) (sep : ByteArray) (w : World) :
    Calls Tryd.prog 72 #[.slice a 0 c, .string sep] w fun e w' => e = .returned (.string ⟨#[]⟩) ∧ w' = w := Any.strings_Join_none Tryd.lays156 Tryd.Builder_Extra_156 a c sep w
open Go.RowKit in
/-- strings.Join: "Join concatenates the elements of its first argument to create a single string. The separator string sep is placed between elements in the resulting string.": HOWEVER MANY ELEMENTS. Below the heap's end the world is as it was. (LAID: no walk: one application.) -/
theorem Tryd.strings_Join (bk o c : Nat) (xs : List ByteArray) (sep : ByteArray) (w : World) (hcells : ∀ (j : Nat) x, xs[j]? = some x → w.cell? ⟨bk, o + j, none⟩ = some (.string x)) (hbk : bk < w.heap.size) (hN : xs.length ≤ 140737488355328) (hcap : xs.length ≤ c) (hlen : (Lib.join (xs.map (·.data.toList)) sep.data.toList).length ≤ 140737488355328) :
    Calls Tryd.prog 72 #[.slice (some ⟨bk, o, none⟩) xs.length c, .string sep] w fun e w' => e = .returned (.string ⟨(Lib.join (xs.map (·.data.toList)) sep.data.toList).toArray⟩) ∧ Below w.heap.size w w' := Any.strings_Join Tryd.lays156 Tryd.Builder_Extra_156 bk o c xs sep w hcells hbk hN hcap hlen
def Tryd.lays137_ren : Go.Shelf.Ren := ⟨fun | 137 => 123 | 217 => 98 | 266 => 109 | n => n, fun | 9 => 9 | 5 => 5 | 3 => 3 | n => n, fun | n => n⟩
theorem Tryd.lays137 : Go.Proofs.Lays.n137 Tryd.prog Tryd.lays137_ren := {
  mixed := by kernel_rfl
  f137 := Tryd.func123.trans (congrArg some (by kernel_rfl))
  f217 := Tryd.func98.trans (congrArg some (by kernel_rfl))
  f266 := Tryd.func109.trans (congrArg some (by kernel_rfl))
  t3 := Tryd.underlying3
  a3 := Tryd.isAgg3
  z3 := Tryd.sizeOf3
  v3 := Tryd.zeroValue3
  t5 := Tryd.underlying5
  a5 := Tryd.isAgg5
  z5 := Tryd.sizeOf5
  v5 := Tryd.zeroValue5
  t9 := Tryd.underlying9
  a9 := Tryd.isAgg9
  z9 := Tryd.sizeOf9
  v9 := Tryd.zeroValue9 }
open Go.RowKit in
/-- strings.IndexByte: "IndexByte returns the index of the first instance of c in s, or -1 if c is not present in s.": IT RETURNS 'Lib.indexByte s c'; the world is as it was. (LAID: no walk: one application.) -/
theorem Tryd.strings_IndexByte (s : ByteArray) (c : Int) (w : World) :
    Calls Tryd.prog 123 #[.string s, .int .u8 c] w fun e w' => e = .returned (.int .i64 (Lib.indexByte s.data.toList c.toNat.toUInt8)) ∧ w' = w := Any.strings_IndexByte Tryd.lays137 s c w
def Tryd.lays210_ren : Go.Shelf.Ren := ⟨fun | 210 => 90 | 206 => 48 | n => n, fun | 9 => 9 | 4 => 4 | 3 => 3 | n => n, fun | n => n⟩
def Tryd.lays103_ren : Go.Shelf.Ren := ⟨fun | 103 => 76 | 210 => 90 | 206 => 48 | n => n, fun | 9 => 9 | 4 => 4 | 24 => 157 | 3 => 3 | n => n, fun | n => n⟩
theorem Tryd.lays103 : Go.Proofs.Lays.n103 Tryd.prog Tryd.lays103_ren := {
  mixed := by kernel_rfl
  f103 := Tryd.func76.trans (congrArg some (by kernel_rfl))
  f206 := Tryd.func48.trans (congrArg some (by kernel_rfl))
  f210 := Tryd.func90.trans (congrArg some (by kernel_rfl))
  t3 := Tryd.underlying3
  a3 := Tryd.isAgg3
  z3 := Tryd.sizeOf3
  v3 := Tryd.zeroValue3
  t4 := Tryd.underlying4
  a4 := Tryd.isAgg4
  z4 := Tryd.sizeOf4
  v4 := Tryd.zeroValue4
  t9 := Tryd.underlying9
  a9 := Tryd.isAgg9
  z9 := Tryd.sizeOf9
  v9 := Tryd.zeroValue9
  t24 := Tryd.underlying157
  a24 := Tryd.isAgg157
  z24 := Tryd.sizeOf157
  v24 := Tryd.zeroValue157 }
open Go.RowKit in
/-- strings.CutPrefix: "CutPrefix returns s without the provided leading prefix string and reports whether it found the prefix. If s doesn't start with prefix, CutPrefix returns s, false. If prefix is the empty string, CutPrefix returns s, true.": IT RETURNS '(Lib.trimPrefix s p, Lib.hasPrefix s p)'; the world is as it was. (LAID: no walk: one application.) -/
theorem Tryd.strings_CutPrefix (s p : ByteArray) (w : World) :
    Calls Tryd.prog 76 #[.string s, .string p] w fun e w' => e = .returned (.tuple #[.string ⟨(Lib.trimPrefix s.data.toList p.data.toList).toArray⟩, .bool (Lib.hasPrefix s.data.toList p.data.toList)]) ∧ w' = w := Any.strings_CutPrefix Tryd.lays103 s p w
open Go.RowKit in
/-- (*strings.Builder).String: "String returns the accumulated string.": WHATEVER THE BUILDER HOLDS; THE FORM '_k': OVER 'Lib.IsBuilderF' (a builder that 'String()' may have read), AND WITH THE FRAME THAT REACHES ABOVE THE BUILDER: 'Lib.OthersKept': every block that is not b and is no row of uint8's stands as it stood: the iterator of a range among them. (LAID: no walk: one application.) -/
theorem Tryd.Builder_String_any_k (B b : Nat) (l : List UInt8) (w : World) (h : Lib.IsBuilderF 56 5 B b (Lib.byteCells l) w) (hBw : B ≤ w.heap.size) :
    Calls Tryd.prog 29 #[.pointer (some ⟨b, 0, none⟩)] w fun e w' => e = .returned (.string ⟨l.toArray⟩) ∧ (Lib.IsBuilderF 56 5 B b (Lib.byteCells l) w' ∧ Below B w w' ∧ Lib.OthersKept 5 (some b) w w') := Any.Builder_String_any_k Tryd.lays169 Tryd.Builder_Extra_169 B b l w h hBw
def Tryd.lays219_ren : Go.Shelf.Ren := ⟨fun | 219 => 89 | 217 => 98 | 225 => 99 | 224 => 100 | 267 => 101 | 266 => 109 | 314 => 110 | n => n, fun | 9 => 9 | 3 => 3 | 4 => 4 | 5 => 5 | 46 => 49 | 146 => 104 | 51 => 103 | n => n, fun | 1 => 2 | n => n⟩
def Tryd.lays145_ren : Go.Shelf.Ren := ⟨fun | 145 => 51 | 220 => 75 | 219 => 89 | 217 => 98 | 225 => 99 | 224 => 100 | 267 => 101 | 266 => 109 | 314 => 110 | n => n, fun | 9 => 9 | 4 => 4 | 59 => 110 | 3 => 3 | 5 => 5 | 46 => 49 | 146 => 104 | 51 => 103 | n => n, fun | 1 => 2 | n => n⟩
theorem Tryd.lays145 : Go.Proofs.Lays.n145 Tryd.prog Tryd.lays145_ren := {
  mixed := by kernel_rfl
  f145 := Tryd.func51.trans (congrArg some (by kernel_rfl))
  f217 := Tryd.func98.trans (congrArg some (by kernel_rfl))
  f219 := Tryd.func89.trans (congrArg some (by kernel_rfl))
  f220 := Tryd.func75.trans (congrArg some (by kernel_rfl))
  f224 := Tryd.func100.trans (congrArg some (by kernel_rfl))
  f225 := Tryd.func99.trans (congrArg some (by kernel_rfl))
  f266 := Tryd.func109.trans (congrArg some (by kernel_rfl))
  f267 := Tryd.func101.trans (congrArg some (by kernel_rfl))
  f314 := Tryd.func110.trans (congrArg some (by kernel_rfl))
  t3 := Tryd.underlying3
  a3 := Tryd.isAgg3
  z3 := Tryd.sizeOf3
  v3 := Tryd.zeroValue3
  t4 := Tryd.underlying4
  a4 := Tryd.isAgg4
  z4 := Tryd.sizeOf4
  v4 := Tryd.zeroValue4
  t5 := Tryd.underlying5
  a5 := Tryd.isAgg5
  z5 := Tryd.sizeOf5
  v5 := Tryd.zeroValue5
  t9 := Tryd.underlying9
  a9 := Tryd.isAgg9
  z9 := Tryd.sizeOf9
  v9 := Tryd.zeroValue9
  t46 := Tryd.underlying49
  a46 := Tryd.isAgg49
  z46 := Tryd.sizeOf49
  v46 := Tryd.zeroValue49
  t51 := Tryd.underlying103
  a51 := Tryd.isAgg103
  z51 := Tryd.sizeOf103
  v51 := Tryd.zeroValue103
  t59 := Tryd.underlying110
  a59 := Tryd.isAgg110
  z59 := Tryd.sizeOf110
  v59 := Tryd.zeroValue110
  t146 := Tryd.underlying104
  a146 := Tryd.isAgg104
  z146 := Tryd.sizeOf104
  v146 := Tryd.zeroValue104
  g1 := by kernel_rfl }
open Go.RowKit Go.Lib in
/-- strings.Cut: "Cut slices s around the first instance of sep, returning the text before and after sep. The found result reports whether sep appears in s. If sep does not appear in s, cut returns s, "", false.": IT RETURNS 'Lib.cut s sep'; the world is as it was but for the count of draws. (LAID: no walk: one application.) -/
theorem Tryd.strings_Cut (s sep : ByteArray) (m : Int) (w : World) (hs : s.size < 4294967281) (hm : w.cell? ⟨2, 0, none⟩ = some (.int .i64 m)) :
    Calls Tryd.prog 51 #[.string s, .string sep] w fun e w' => e = .returned (.tuple #[.string ⟨(Lib.cut s.data.toList sep.data.toList).1.toArray⟩, .string ⟨(Lib.cut s.data.toList sep.data.toList).2.1.toArray⟩, .bool (Lib.cut s.data.toList sep.data.toList).2.2]) ∧ ∃ n, w' = w.drewN n := Any.strings_Cut Tryd.lays145 s sep m w hs hm
def Tryd.lays99_ren : Go.Shelf.Ren := ⟨fun | 99 => 25 | 206 => 48 | n => n, fun | 9 => 9 | 4 => 4 | 3 => 3 | n => n, fun | n => n⟩
theorem Tryd.lays99 : Go.Proofs.Lays.n99 Tryd.prog Tryd.lays99_ren := {
  mixed := by kernel_rfl
  f99 := Tryd.func25.trans (congrArg some (by kernel_rfl))
  f206 := Tryd.func48.trans (congrArg some (by kernel_rfl))
  t3 := Tryd.underlying3
  a3 := Tryd.isAgg3
  z3 := Tryd.sizeOf3
  v3 := Tryd.zeroValue3
  t4 := Tryd.underlying4
  a4 := Tryd.isAgg4
  z4 := Tryd.sizeOf4
  v4 := Tryd.zeroValue4
  t9 := Tryd.underlying9
  a9 := Tryd.isAgg9
  z9 := Tryd.sizeOf9
  v9 := Tryd.zeroValue9 }
open Go.RowKit Go.Lib in
/-- strings.HasPrefix: "HasPrefix reports whether the string s begins with prefix.": IT RETURNS 'Lib.hasPrefix s prefix'; the world is as it was. (LAID: no walk: one application.) -/
theorem Tryd.strings_HasPrefix (s p : ByteArray) (w : World) :
    Calls Tryd.prog 25 #[.string s, .string p] w fun e w' => e = .returned (.bool (Lib.hasPrefix s.data.toList p.data.toList)) ∧ w' = w := Any.strings_HasPrefix Tryd.lays99 s p w
def Tryd.lays221_ren : Go.Shelf.Ren := ⟨fun | 221 => 95 | 268 => 106 | 138 => 107 | 143 => 108 | 195 => 119 | 197 => 120 | 218 => 121 | 219 => 89 | 260 => 124 | 217 => 98 | 225 => 99 | 224 => 100 | 267 => 101 | 266 => 109 | 314 => 110 | n => n, fun | 9 => 9 | 3 => 3 | 31 => 114 | 4 => 4 | 0 => 0 | 105 => 187 | 21 => 21 | 5 => 5 | 46 => 49 | 119 => 190 | 139 => 193 | 138 => 192 | 146 => 104 | 51 => 103 | n => n, fun | 1 => 2 | 3 => 3 | 4 => 4 | n => n⟩
def Tryd.lays146_ren : Go.Shelf.Ren := ⟨fun | 146 => 83 | 221 => 95 | 268 => 106 | 138 => 107 | 143 => 108 | 195 => 119 | 197 => 120 | 218 => 121 | 219 => 89 | 260 => 124 | 217 => 98 | 225 => 99 | 224 => 100 | 267 => 101 | 266 => 109 | 314 => 110 | n => n, fun | 9 => 9 | 31 => 114 | 3 => 3 | 4 => 4 | 0 => 0 | 105 => 187 | 21 => 21 | 5 => 5 | 46 => 49 | 119 => 190 | 139 => 193 | 138 => 192 | 146 => 104 | 51 => 103 | n => n, fun | 1 => 2 | 3 => 3 | 4 => 4 | n => n⟩
theorem Tryd.lays146 : Go.Proofs.Lays.n146 Tryd.prog Tryd.lays146_ren := {
  mixed := by kernel_rfl
  f138 := Tryd.func107.trans (congrArg some (by kernel_rfl))
  f143 := Tryd.func108.trans (congrArg some (by kernel_rfl))
  f146 := Tryd.func83.trans (congrArg some (by kernel_rfl))
  f195 := Tryd.func119.trans (congrArg some (by kernel_rfl))
  f197 := Tryd.func120.trans (congrArg some (by kernel_rfl))
  f217 := Tryd.func98.trans (congrArg some (by kernel_rfl))
  f218 := Tryd.func121.trans (congrArg some (by kernel_rfl))
  f219 := Tryd.func89.trans (congrArg some (by kernel_rfl))
  f221 := Tryd.func95.trans (congrArg some (by kernel_rfl))
  f224 := Tryd.func100.trans (congrArg some (by kernel_rfl))
  f225 := Tryd.func99.trans (congrArg some (by kernel_rfl))
  f260 := Tryd.func124.trans (congrArg some (by kernel_rfl))
  f266 := Tryd.func109.trans (congrArg some (by kernel_rfl))
  f267 := Tryd.func101.trans (congrArg some (by kernel_rfl))
  f268 := Tryd.func106.trans (congrArg some (by kernel_rfl))
  f314 := Tryd.func110.trans (congrArg some (by kernel_rfl))
  t0 := Tryd.underlying0
  a0 := Tryd.isAgg0
  z0 := Tryd.sizeOf0
  v0 := Tryd.zeroValue0
  t3 := Tryd.underlying3
  a3 := Tryd.isAgg3
  z3 := Tryd.sizeOf3
  v3 := Tryd.zeroValue3
  t4 := Tryd.underlying4
  a4 := Tryd.isAgg4
  z4 := Tryd.sizeOf4
  v4 := Tryd.zeroValue4
  t5 := Tryd.underlying5
  a5 := Tryd.isAgg5
  z5 := Tryd.sizeOf5
  v5 := Tryd.zeroValue5
  t9 := Tryd.underlying9
  a9 := Tryd.isAgg9
  z9 := Tryd.sizeOf9
  v9 := Tryd.zeroValue9
  t21 := Tryd.underlying21
  a21 := Tryd.isAgg21
  z21 := Tryd.sizeOf21
  v21 := Tryd.zeroValue21
  t31 := Tryd.underlying114
  a31 := Tryd.isAgg114
  z31 := Tryd.sizeOf114
  v31 := Tryd.zeroValue114
  t46 := Tryd.underlying49
  a46 := Tryd.isAgg49
  z46 := Tryd.sizeOf49
  v46 := Tryd.zeroValue49
  t51 := Tryd.underlying103
  a51 := Tryd.isAgg103
  z51 := Tryd.sizeOf103
  v51 := Tryd.zeroValue103
  t105 := Tryd.underlying187
  a105 := Tryd.isAgg187
  z105 := Tryd.sizeOf187
  v105 := Tryd.zeroValue187
  t119 := Tryd.underlying190
  a119 := Tryd.isAgg190
  z119 := Tryd.sizeOf190
  t138 := Tryd.underlying192
  a138 := Tryd.isAgg192
  z138 := Tryd.sizeOf192
  v138 := Tryd.zeroValue192
  t139 := Tryd.underlying193
  a139 := Tryd.isAgg193
  z139 := Tryd.sizeOf193
  v139 := Tryd.zeroValue193
  t146 := Tryd.underlying104
  a146 := Tryd.isAgg104
  z146 := Tryd.sizeOf104
  v146 := Tryd.zeroValue104
  g1 := by kernel_rfl
  g3 := by kernel_rfl
  g4 := by kernel_rfl }
open Go.RowKit Go.Lib in
/-- strings.Split. (LAID: no walk: one application.) -/
theorem Tryd.strings_Split (s sep : ByteArray) (m : Int) (w : World) (hs : s.size < 4294967281) (hm : w.cell? ⟨2, 0, none⟩ = some (.int .i64 m)) (h1 : 1 ≤ sep.size) :
    Calls Tryd.prog 83 #[.string s, .string sep] w fun e w' =>
      e = .returned (.slice (some ⟨w.heap.size, 0, none⟩) (Lib.countB s sep + 1) (Lib.countB s sep + 1)) ∧ w' = w.alloc (.cells ((Lib.splitB sep 0 (Lib.countB s sep) s).map Value.string).toArray 9) := Any.strings_Split Tryd.lays146 (by kernel_rfl) s sep m w hs hm h1
def Tryd.lays229_ren : Go.Shelf.Ren := ⟨fun | 229 => 53 | n => n, fun | 9 => 9 | 40 => 116 | 31 => 114 | 152 => 159 | 3 => 3 | 0 => 0 | 4 => 4 | 21 => 21 | 154 => 161 | n => n, fun | n => n⟩
theorem Tryd.lays229 : Go.Proofs.Lays.n229 Tryd.prog Tryd.lays229_ren := {
  mixed := by kernel_rfl
  f229 := Tryd.func53.trans (congrArg some (by kernel_rfl))
  t0 := Tryd.underlying0
  a0 := Tryd.isAgg0
  z0 := Tryd.sizeOf0
  v0 := Tryd.zeroValue0
  t3 := Tryd.underlying3
  a3 := Tryd.isAgg3
  z3 := Tryd.sizeOf3
  v3 := Tryd.zeroValue3
  t4 := Tryd.underlying4
  a4 := Tryd.isAgg4
  z4 := Tryd.sizeOf4
  v4 := Tryd.zeroValue4
  t9 := Tryd.underlying9
  a9 := Tryd.isAgg9
  z9 := Tryd.sizeOf9
  v9 := Tryd.zeroValue9
  t21 := Tryd.underlying21
  a21 := Tryd.isAgg21
  z21 := Tryd.sizeOf21
  v21 := Tryd.zeroValue21
  t31 := Tryd.underlying114
  a31 := Tryd.isAgg114
  z31 := Tryd.sizeOf114
  v31 := Tryd.zeroValue114
  t40 := Tryd.underlying116
  a40 := Tryd.isAgg116
  z40 := Tryd.sizeOf116
  v40 := Tryd.zeroValue116
  t152 := Tryd.underlying159
  a152 := Tryd.isAgg159
  z152 := Tryd.sizeOf159
  v152 := Tryd.zeroValue159
  t154 := Tryd.underlying161
  a154 := Tryd.isAgg161
  z154 := Tryd.sizeOf161
  v154 := Tryd.zeroValue161 }
open Go.RowKit Go.Lib in
theorem Tryd.strings_FieldsFunc_runes (g : Nat) (lb : Array Value) (eg : ∀ args w, (callFunc g args).run Tryd.prog w = .ok (.enter g args) w) (p : Nat → Bool) (s : ByteArray) (w : World) (hs : s.size ≤ 4294967296) (hp : PredAtRunes Tryd.prog g lb p w) :
    Calls Tryd.prog 53 #[.string s, .func (.func g) #[] lb] w fun e w' => ∃ A, e = .returned (.slice (some ⟨A, 0, none⟩) (Lib.goFieldsP p s).length (Lib.goFieldsP p s).length) ∧ w.heap.size ≤ A ∧
      w'.ownsRow w.heap.size 9 1 (.slice (some ⟨A, 0, none⟩) (Lib.goFieldsP p s).length (Lib.goFieldsP p s).length) (Lib.goFieldsP p s).length ((Lib.goFieldsP p s).map Value.string) ∧ Below w.heap.size w w' := Any.strings_FieldsFunc_runes Tryd.lays229 g lb eg p s w hs hp (by kernel_rfl) (by kernel_rfl)
end Go.Proofs

/- Merged texts: Nm Nf Sp. -/
/- Contracts of value.IsName and value.Split. -/
namespace Go.Proofs.YtkpnfejfbmandaaDoor.Px
open Go.RowKit Go.Proofs.YtkpnfejfbmandaaDoorW.PrintWords Go.Proofs.YtkpnfejfbmandaaDoorW.PrintLast Go.Proofs.YtkpnfejfbmandaaDoorW.PrintMore
set_option linter.unusedVariables false
set_option linter.unusedSimpArgs false
/-- value.letter at a rune. -/
def letR (c : Int) : Bool := (decide (97 ≤ c) && decide (c ≤ 122)) || (decide (65 ≤ c) && decide (c ≤ 90))
theorem value_letter_is (c : Int) : value_letter.f c = some (letR c) := by
  unfold value_letter.f letR
  repeat' split
  all_goals
    congr 1
    symm
    first
    | (simp only [Bool.or_eq_true, Bool.and_eq_true, decide_eq_true_eq]; omega)
    | (simp only [Bool.or_eq_false_iff, Bool.and_eq_false_iff, decide_eq_false_iff_not]; omega)
    | (rw [Bool.eq_iff_iff]; simp only [Bool.or_eq_true, Bool.and_eq_true, decide_eq_true_eq]; omega)
def nmR (first : Bool) (c : Int) : Bool := letR c || (!first && (c == 95 || (decide (48 ≤ c) && decide (c ≤ 57))))
theorem nmR_high {first : Bool} {c : Int} (h : 128 ≤ c) : nmR first c = false := by
  unfold nmR letR
  have : (c == 95) = false := by rw [beq_eq_false_iff_ne]; omega
  rw [this, decide_eq_false (show ¬ c ≤ 122 by omega), decide_eq_false (show ¬ c ≤ 90 by omega), decide_eq_false (show ¬ c ≤ 57 by omega)]
  simp
theorem nmR_byte (first : Bool) (b : UInt8) : nmR first (b.toNat : Int) = (letB b || (!first && (b == 95 || digB b))) := by
  unfold nmR letR letB digB
  have h95 : ((b.toNat : Int) == 95) = (b == 95) := by
    rw [Bool.eq_iff_iff, beq_iff_eq, beq_iff_eq]
    exact ⟨fun h => UInt8.toNat_inj.1 (by have : b.toNat = 95 := by omega
                                          rw [this]; rfl), fun h => by rw [h]; rfl⟩
  rw [h95]
  have a1 : decide ((97 : Int) ≤ (b.toNat : Int)) = decide (97 ≤ b.toNat) := by rw [decide_eq_decide]; omega
  have a2 : decide ((b.toNat : Int) ≤ (122 : Int)) = decide (b.toNat ≤ 122) := by rw [decide_eq_decide]; omega
  have a3 : decide ((65 : Int) ≤ (b.toNat : Int)) = decide (65 ≤ b.toNat) := by rw [decide_eq_decide]; omega
  have a4 : decide ((b.toNat : Int) ≤ (90 : Int)) = decide (b.toNat ≤ 90) := by rw [decide_eq_decide]; omega
  have a5 : decide ((48 : Int) ≤ (b.toNat : Int)) = decide (48 ≤ b.toNat) := by rw [decide_eq_decide]; omega
  have a6 : decide ((b.toNat : Int) ≤ (57 : Int)) = decide (b.toNat ≤ 57) := by rw [decide_eq_decide]; omega
  rw [a1, a2, a3, a4, a5, a6]
theorem nm_step (s : ByteArray) (pos : Nat) (h : pos < s.size) : nmGo (pos == 0) (s.data.toList.drop pos) = (nmR (pos == 0) ((Utf8.decode s pos).1 : Int) && nmGo false (s.data.toList.drop (pos + (Utf8.decode s pos).2))) ∧
    1 ≤ (Utf8.decode s pos).2 ∧ (nmR (pos == 0) ((Utf8.decode s pos).1 : Int) = true → (Utf8.decode s pos).2 = 1) := by
  have hl : pos < s.data.toList.length := by rw [data_length]; exact h
  have hb : s.data.toList[pos] = s[pos]'h := by simp [ByteArray.getElem_eq_getElem_data]
  have hd := List.drop_eq_getElem_cons hl
  rw [hb] at hd
  by_cases ha : (s[pos]'h).toNat < 128
  · rw [decode_ascii s pos h ha, hd]
    exact ⟨by rw [nmGo, nmR_byte], Nat.le_refl _, fun _ => rfl⟩
  · obtain ⟨d1, d2⟩ := decode_high s pos h (by omega)
    have hn : nmR (pos == 0) ((Utf8.decode s pos).1 : Int) = false := nmR_high (by omega)
    have hn2 : nmR (pos == 0) ((s[pos]'h).toNat : Int) = false := nmR_high (by omega)
    rw [nmR_byte] at hn2
    exact ⟨by rw [hn, hd, nmGo, hn2]; rfl, d2, fun e => by rw [hn] at e; cases e⟩
def NmRel (s : ByteArray) (w wr : World) : Prop := ∃ (nd pos : Nat), wr = (w.drewN nd).iter s pos ∧ pos ≤ s.size ∧ nmGo (pos == 0) (s.data.toList.drop pos) = nmGo true s.data.toList
set_option maxHeartbeats 1000000 in
set_option maxRecDepth 1000000 in
theorem isName_any (s : ByteArray) (w : World) : Calls Tryd.prog 77 #[.string s] w fun e w' => e = .returned (.bool (nameL s.data.toList)) ∧ Below w.heap.size w w' := by
  by_cases h0 : s.toList = []
  · have e1 : (s.toList = []) = True := eq_true h0
    have hn : nameL s.data.toList = false := by rw [← ByteArray.toList_eq, h0]; rfl
    go_enter Tryd.func77, Tryd.ntmps77
    go_wp2
    go_ret
    exact ⟨by rw [hn]; rfl, Below.refl _ _⟩
  have e2 : s.toList.isEmpty = false := by simp [h0]
  by_cases h32 : (s.size : Int) > 32
  · have hn : nameL s.data.toList = false := by
      unfold nameL
      rw [decide_eq_false (show ¬ s.data.toList.length ≤ 32 by rw [data_length]; omega)]; simp
    have e3 : decide ((32 : Int) < s.size) = true := decide_eq_true h32
    clear h0
    go_enter Tryd.func77, Tryd.ntmps77
    go_wp2
    go_ret
    exact ⟨by rw [hn]; rfl, Below.refl _ _⟩
  have e3 : decide ((32 : Int) < s.size) = false := decide_eq_false h32
  have hR : nameL s.data.toList = nmGo true s.data.toList := by
    unfold nameL
    rw [decide_eq_true (show s.data.toList.length ≤ 32 by rw [data_length]; omega)]
    rw [ByteArray.toList_eq] at h0
    cases h : s.data.toList with
    | nil => exact absurd h h0
    | cons _ _ => rfl
  rw [hR]
  have hs : (s.size : Int) ≤ 32 := by omega
  clear h0 h32 hR
  have hR := Aside0.mk (rfl : nmGo true s.data.toList = nmGo true s.data.toList)
  generalize hR' : nmGo true s.data.toList = R at *
  go_enter Tryd.func77, Tryd.ntmps77
  go_wp2
  go_loopw [3] (fun n wr => NmRel s w wr) (fun _ wr => s.size - wr.iterPos w.heap.size)
  case atStart => exact ⟨0, 0, rfl, Nat.zero_le _, rfl⟩
  case round =>
    obtain ⟨nd, pos, rfl, hpos, hgo⟩ := hrel
    by_cases hp : pos < s.size
    · have hnx : ∀ ty, (Instr.next (.pointer (some ⟨w.heap.size, 0, none⟩)) true ty).run Tryd.prog ((w.drewN nd).iter s pos) = _ := fun ty => run_next_any (w.drewN nd) s pos ty hp
      obtain ⟨hst, hwd, hw1⟩ := nm_step s pos hp
      rw [hst, hR'] at hgo
      clear hst
      generalize hwe : (Utf8.decode s pos).2 = wd at *
      generalize hce : ((Utf8.decode s pos).1 : Int) = c at *
      clear hce
      replace hgo := Aside0.mk hgo
      replace hw1 := Aside0.mk hw1
      have drw : ∀ n, ((w.drewN nd).iter s (pos + wd)).drewN n = (w.drewN (nd + n)).iter s (pos + wd) := fun n => by simp [World.iter, World.alloc, World.drewN, Nat.add_assoc]
      have stay : ∀ n, nmR (pos == 0) c = true → NmRel s w (((w.drewN nd).iter s (pos + wd)).drewN n) := fun n h => by
        have h1 := hw1.out h
        refine ⟨nd + n, pos + wd, drw n, by omega, ?_⟩
        rw [hR', ← hgo.out, h, Bool.true_and]
        have : (pos + wd == 0) = false := by rw [beq_eq_false_iff_ne]; omega
        rw [this]
      have off : nmR (pos == 0) c = false → R = false := fun h => by rw [← hgo.out, h, Bool.false_and]
      have frm : ∀ n, Below w.heap.size w (((w.drewN nd).iter s (pos + wd)).drewN n) := fun n => by
        rw [drw]; exact (pw_below_drewN (Below.refl _ w) (nd + n)).alloc (Nat.le_refl _) _
      have msr : ∀ n, s.size - (((w.drewN nd).iter s (pos + wd)).drewN n).iterPos w.heap.size < s.size - ((w.drewN nd).iter s pos).iterPos w.heap.size := fun n => by
        have e1 : ((w.drewN nd).iter s pos).iterPos w.heap.size = pos := World.iterPos_iter (w.drewN nd) s pos
        have e2 : (((w.drewN nd).iter s (pos + wd)).drewN n).iterPos w.heap.size = pos + wd := by
          rw [drw]; exact World.iterPos_iter (w.drewN (nd + n)) s (pos + wd)
        rw [e1, e2]; omega
      replace stay := Aside0.mk stay
      replace off := Aside0.mk off
      replace frm := Aside0.mk frm
      replace msr := Aside0.mk msr
      clear drw hgo
      go_wp2_with fail
      refine (value_letter.calls c (letR c) _ (value_letter_is c)).mono ?_
      rintro e w1 ⟨rfl, ⟨n, rfl⟩⟩
      replace stay := Aside0.mk (stay.out n)
      replace frm := Aside0.mk (frm.out n)
      replace msr := Aside0.mk (msr.out n)
      generalize ((w.drewN nd).iter s (pos + wd)).drewN n = w1 at *
      by_cases hl : letR c = true
      · rw [hl]
        go_wp2
        go_roundw
        case rel => exact stay.out (by simp [nmR, hl])
        case measure => exact msr.out
      have hl : letR c = false := by simpa using hl
      rw [hl]
      by_cases hp0 : pos = 0
      · have hb0 : ((pos : Int) == 0) = true := by rw [beq_iff_eq]; omega
        have hR := off.out (by simp [nmR, hl, hp0])
        go_wp2
        go_ret
        exact ⟨by rw [hR]; rfl, frm.out⟩
      have hb0 : ((pos : Int) == 0) = false := by rw [beq_eq_false_iff_ne]; omega
      have hn0 : (pos == 0) = false := by rw [beq_eq_false_iff_ne]; exact hp0
      by_cases h95 : c = 95
      · have hb95 : (c != 95) = false := by simp [h95]
        have hb95' : (c == 95) = true := by simp [h95]
        go_wp2
        go_roundw
        case rel => exact stay.out (by simp [nmR, hl, hn0, hb95'])
        case measure => exact msr.out
      have hb95 : (c != 95) = true := by simp [h95]
      have hb95' : (c == 95) = false := by simp [h95]
      by_cases h48 : c < 48
      · have hb48 : decide (c < 48) = true := decide_eq_true h48
        have hR := off.out (by simp [nmR, hl, hn0, hb95']; omega)
        go_wp2
        go_ret
        exact ⟨by rw [hR]; rfl, frm.out⟩
      have hb48 : decide (c < 48) = false := decide_eq_false h48
      by_cases h57 : 57 < c
      · have hb57 : decide (57 < c) = true := decide_eq_true h57
        have hR := off.out (by simp [nmR, hl, hn0, hb95']; omega)
        go_wp2
        go_ret
        exact ⟨by rw [hR]; rfl, frm.out⟩
      have hb57 : decide (57 < c) = false := decide_eq_false h57
      go_wp2
      go_roundw
      case rel => exact stay.out (by simp [nmR, hl, hn0, hb95']; omega)
      case measure => exact msr.out
    · have hnx : ∀ ty, (Instr.next (.pointer (some ⟨w.heap.size, 0, none⟩)) true ty).run Tryd.prog ((w.drewN nd).iter s pos) = _ := fun ty => run_next_end (w.drewN nd) s pos ty hp
      rw [List.drop_eq_nil_of_le (by rw [data_length]; omega), hR'] at hgo
      go_wp2
      go_ret
      exact ⟨by rw [← hgo]; rfl, (pw_below_drewN (Below.refl _ w) nd).alloc (Nat.le_refl _) _⟩
end Go.Proofs.YtkpnfejfbmandaaDoor.Px
/- Contracts of slices.ContainsFunc and IndexFunc at value.Split's closure. -/
namespace Go.Proofs.YtkpnfejfbmandaaDoor.Px
open Go.RowKit Go.Proofs.YtkpnfejfbmandaaDoorW.PrintWords Go.Proofs.YtkpnfejfbmandaaDoorW.PrintLast Go.Proofs.YtkpnfejfbmandaaDoorW.PrintMore
set_option linter.unusedVariables false
set_option linter.unusedSimpArgs false
set_option maxRecDepth 100000 in
theorem notName_any (s : ByteArray) (w : World) : Calls Tryd.prog 85 #[.string s] w fun e w' => e = .returned (.bool (!nameL s.data.toList)) ∧ Below w.heap.size w w' := by
  go_enter Tryd.func85, Tryd.ntmps85
  go_wp2_with fail
  refine (isName_any s _).mono ?_
  rintro e w1 ⟨rfl, HB⟩
  cases hb : nameL s.data.toList
  · go_wp2
    go_ret
    exact ⟨by rw [hb]; rfl, HB⟩
  · go_wp2
    go_ret
    exact ⟨by rw [hb]; rfl, HB⟩
def IxRel (xs : List ByteArray) (w : World) (v : Value) (wr : World) : Prop := ∃ i : Nat, i ≤ xs.length ∧ v = .int .i64 i ∧ (lsX xs).all nameL = ((lsX xs).drop i).all nameL ∧ Below w.heap.size w wr
where lsX (xs : List ByteArray) : List (List UInt8) := xs.map (·.data.toList)
theorem lsX_drop (xs : List ByteArray) (i : Nat) (h : i < xs.length) : ((IxRel.lsX xs).drop i).all nameL = (nameL xs[i].data.toList && ((IxRel.lsX xs).drop (i + 1)).all nameL) := by
  have hl : i < (IxRel.lsX xs).length := by unfold IxRel.lsX; rw [List.length_map]; exact h
  rw [List.drop_eq_getElem_cons hl, List.all_cons]
  simp [IxRel.lsX]
theorem rd_at (a : List ByteArray) (i : Nat) (h : i < a.length) : rdOf ByteArray.empty a (i : Int) = a[i] := by simp [rdOf, List.getD_eq_getElem?_getD, h]
set_option maxHeartbeats 1000000 in
set_option maxRecDepth 100000 in
theorem indexFunc_any (xs : List ByteArray) (A : Option Addr) (c : Nat) (w : World) (hC : Kd.C Kd.string w A xs.length xs) (hc : xs.length ≤ c) :
    Calls Tryd.prog 96 #[.slice A xs.length c, .func (.func 85) #[] #[]] w fun e w' => ∃ n : Int, e = .returned (.int .i64 n) ∧ decide (0 ≤ n) = !(xs.map (·.data.toList)).all nameL ∧ Below w.heap.size w w' := by
  have hm := Kd.C_max hC
  replace hC := Aside0.mk hC
  go_enter Tryd.func96, Tryd.ntmps96
  go_wp2
  go_loopw [8] (fun v wr => IxRel xs w v wr) (fun v _ => xs.length - (intOf v).toNat)
  case atStart => exact ⟨0, Nat.zero_le _, rfl, rfl, Below.refl _ _⟩
  case round =>
    obtain ⟨i, hi, rfl, hE, HB⟩ := hrel
    replace hE := Aside0.mk hE
    replace HB := Aside0.mk HB
    by_cases hlt : i < xs.length
    case neg =>
      obtain rfl : i = xs.length := by omega
      have hE2 := Aside0.mk (show (xs.map (·.data.toList)).all nameL = true by
        have := hE.out
        rw [List.drop_eq_nil_of_le (by simp [IxRel.lsX])] at this
        exact this)
      clear hE
      go_wp2
      go_ret
      exact ⟨_, rfl, by rw [hE2.out]; rfl, HB.out⟩
    obtain ⟨ad, rfl, hcell⟩ := Kd.at_string (Kd.C_below hC.out HB.out) (i : Int) (by omega) (by omega)
    rw [rd_at xs i hlt, Int.toNat_natCast] at hcell
    have hEx := Aside0.mk (hE.out.trans (lsX_drop xs i hlt))
    clear hE
    generalize xs[i] = x at *
    go_wp2_with fail
    refine (notName_any x _).mono ?_
    rintro e w2 ⟨rfl, HB2⟩
    replace HB := Aside0.mk (below_step HB.out HB2)
    clear HB2 hcell
    cases hb0 : nameL x.data.toList with
    | false =>
      have hE2 := Aside0.mk (show (xs.map (·.data.toList)).all nameL = false by
        have := hEx.out
        rw [hb0, Bool.false_and] at this
        exact this)
      clear hEx hb0
      go_wp2
      go_ret
      exact ⟨_, rfl, by rw [hE2.out]; exact decide_eq_true (by omega), HB.out⟩
    | true =>
      have hE2 := Aside0.mk (show (IxRel.lsX xs).all nameL = ((IxRel.lsX xs).drop (i + 1)).all nameL by rw [hEx.out, hb0, Bool.true_and])
      clear hEx hb0
      go_wp2
      go_roundw
      case rel => exact ⟨i + 1, by omega, by simp [intOf], hE2.out, HB.out⟩
      case measure => simp [intOf]; omega
set_option maxRecDepth 100000 in
theorem containsFunc_any (xs : List ByteArray) (A : Option Addr) (c : Nat) (w : World) (hC : Kd.C Kd.string w A xs.length xs) (hc : xs.length ≤ c) :
    Calls Tryd.prog 84 #[.slice A xs.length c, .func (.func 85) #[] #[]] w fun e w' => e = .returned (.bool (!(xs.map (·.data.toList)).all nameL)) ∧ Below w.heap.size w w' := by
  go_enter Tryd.func84, Tryd.ntmps84
  go_wp2_with fail
  refine (indexFunc_any xs A c _ hC hc).mono ?_
  rintro e w1 ⟨n, rfl, hn, HB⟩
  generalize hR : (!(xs.map (·.data.toList)).all nameL) = R at *
  go_wp2
  go_ret
  exact ⟨by rw [hR]; rfl, HB⟩
end Go.Proofs.YtkpnfejfbmandaaDoor.Px
/- Contract of value.Split. -/
namespace Go.Proofs.YtkpnfejfbmandaaDoor.Px
open Go.RowKit Go.Proofs.YtkpnfejfbmandaaDoorW.PrintWords Go.Proofs.YtkpnfejfbmandaaDoorW.PrintLast Go.Proofs.YtkpnfejfbmandaaDoorW.PrintMore
set_option linter.unusedVariables false
set_option linter.unusedSimpArgs false
/-- What the package-level variables hold: lex.shapes, as the program's text lays it; bytealg.MaxLen, whatever number it is. -/
structure Glob (w : World) : Prop where
  mx : ∃ m, w.cell? ⟨2, 0, none⟩ = some (.int .i64 m)
theorem Glob.below {w w1 : World} (h : Glob w) (hb : Below w.heap.size w w1) : Glob w1 := by
  obtain ⟨m, hm⟩ := h.mx
  exact ⟨⟨m, (hb.cell (World.block_lt_of_cell? _ _ hm)).trans hm⟩⟩
theorem split_len (s : ByteArray) : (Lib.splitB ⟨#[46]⟩ 0 (Lib.countB s ⟨#[46]⟩) s).length = Lib.countB s ⟨#[46]⟩ + 1 := Lib.splitB_all _ (by decide) 0 _ s rfl
theorem split_data (s : ByteArray) : (Lib.splitB ⟨#[46]⟩ 0 (Lib.countB s ⟨#[46]⟩) s).map (·.data.toList) = Lib.split s.data.toList [46] := Lib.splitB_data _ 0 _ s
def pathE (s : ByteArray) : Int := if pathL s.data.toList = true then 0 else 11
theorem pathE_t {s : ByteArray} (h : pathL s.data.toList = true) : pathE s = 0 := if_pos h
theorem pathE_f {s : ByteArray} (h : pathL s.data.toList = false) : pathE s = 11 := if_neg (by rw [h]; decide)
set_option maxHeartbeats 1000000 in
set_option maxRecDepth 100000 in
theorem split_any (s : ByteArray) (w : World) (hs : s.size ≤ 65536) (hG : Glob w) :
    Calls Tryd.prog 63 #[.string s] w fun e w' => ∃ v, e = .returned (.tuple #[v, .int .i64 (pathE s)]) ∧ Below w.heap.size w w' := by
  by_cases h0 : s.toList = []
  · have e1 : (s.toList = []) = True := eq_true h0
    have hn := pathE_t (s := s) (by rw [← ByteArray.toList_eq, h0]; rfl)
    go_enter Tryd.func63, Tryd.ntmps63
    go_wp2
    go_ret2
    exact ⟨_, by rw [hn]; rfl, Below.refl _ _⟩
  have e2 : s.toList.isEmpty = false := by simp [h0]
  have hP : pathL s.data.toList = (decide ((Lib.split s.data.toList [46]).length ≤ 8) && (Lib.split s.data.toList [46]).all nameL) := by
    unfold pathL
    rw [← ByteArray.toList_eq, e2, Bool.false_or]
  obtain ⟨m, hm⟩ := hG.mx
  have hsp := Tryd.strings_Split s ⟨#[46]⟩ m w (by omega) hm (by decide)
  have hL := split_len s
  have hD := split_data s
  rw [← hL] at hsp
  generalize Lib.splitB ⟨#[46]⟩ 0 (Lib.countB s ⟨#[46]⟩) s = xs at *
  have hmx : xs.length ≤ 70000 := by rw [hL]; have := Lib.countB_le ⟨#[46]⟩ (by decide) _ s (Nat.le_refl _); omega
  clear hL
  replace hP := Aside0.mk hP
  replace hD := Aside0.mk hD
  replace hsp := Aside0.mk hsp
  clear h0 hm
  go_enter Tryd.func63, Tryd.ntmps63
  go_wp2_with fail
  refine hsp.out.mono ?_
  rintro e w1 ⟨rfl, rfl⟩
  have hO : Kd.R Kd.string 9 (w.alloc (.cells (xs.map Value.string).toArray 9)) w.heap.size (fun _ => True) (.slice (some ⟨w.heap.size, 0, none⟩) xs.length xs.length) xs :=
    Kd.R_of_own (own_lit_of (enc := Value.string) w w.heap.size 9 xs (Nat.le_refl _) (by omega)) (fun _ _ => trivial)
  have hC := Aside0.mk (Kd.R_reads' hO).2.2
  have hB := Aside0.mk ((Below.refl w.heap.size w).alloc (Nat.le_refl _) (.cells (xs.map Value.string).toArray 9))
  clear hO hsp
  generalize w.alloc (.cells (xs.map Value.string).toArray 9) = w1 at *
  by_cases h8 : xs.length ≤ 8
  · have h8b : decide ((8 : Int) < (xs.length : Int)) = false := decide_eq_false (by omega)
    go_wp2_with fail
    refine (containsFunc_any xs _ _ _ hC.out (Nat.le_refl _)).mono ?_
    rintro e w2 ⟨rfl, HB2⟩
    have HB := Aside0.mk (below_step hB.out HB2)
    clear HB2 hB hC
    cases hb : (xs.map (·.data.toList)).all nameL with
    | true =>
      have hR := Aside0.mk (show pathE s = 0 from pathE_t <| by rw [hP.out, ← hD.out, hb, List.length_map, decide_eq_true h8]; rfl)
      go_wp2
      go_ret2
      exact ⟨_, by rw [hR.out]; rfl, HB.out⟩
    | false =>
      have hR := Aside0.mk (show pathE s = 11 from pathE_f <| by rw [hP.out, ← hD.out, hb, Bool.and_false])
      go_wp2
      go_ret2
      exact ⟨_, by rw [hR.out]; rfl, HB.out⟩
  · have h8b : decide ((8 : Int) < (xs.length : Int)) = true := decide_eq_true (by omega)
    have hR := Aside0.mk (show pathE s = 11 from pathE_f <| by rw [hP.out, ← hD.out, List.length_map, decide_eq_false h8, Bool.false_and])
    go_wp2
    go_ret2
    exact ⟨_, by rw [hR.out]; rfl, hB.out⟩
end Go.Proofs.YtkpnfejfbmandaaDoor.Px
