/-
  DERIVED: THE SHELF's CONTRACTS AT THIS DUMP, IN PLAIN WORDS (tools/lay-plain.mjs out of 'TryzShelf.lean', which tools/lay-shelf.mjs wrote): THE SAME DECLARATIONS UNDER THE SAME NAMES: 'import', 'namespace', 'open', 'def', 'theorem' AND NOTHING ELSE: no command of the shelf's: FOR A HAND-IN. Each laying: the table of numbers ('.._ren') and one theorem, a field a fact of the dump's own or the kernel's comparison; each contract: ONE APPLICATION.
-/
import Derived.Shelf.Strings.Builder1
import Derived.Shelf.Strings.Builder2
import Derived.Shelf.Strings.OnBuilder
import Derived.Shelf.Small.Utf8
import Derived.Shelf.Small.Strs
import Derived.Shelf.Strings.BuilderF
import Derived.Shelf.Strings.BuilderK
import Derived.Shelf.Strings.BuilderRune
import Derived.Shelf.Strings.Search1
import Derived.Shelf.Strings.Search2
import Derived.Shelf.Strings.Search3
import Derived.Shelf.Strings.Count
import Derived.Shelf.LaysM
import Derived.Shelf.Strings.Shaped
import Derived.Shelf.Strings.Split
import Derived.Shelf.Strings.SplitShaped
import Derived.Shelf.Unicode.Latin
import Derived.Shelf.Unicode.Decode
import Derived.Shelf.Strings.RuneCount
import Derived.Shelf.Strings.Explode
import Derived.Shelf.Unicode.DecodeSlow
import Derived.Shelf.Unicode.DecodeAny
import Derived.Shelf.Unicode.CaseLookup
import Derived.Shelf.Unicode.CaseConvert
import Derived.Shelf.Unicode.CaseTo
import Derived.Shelf.Unicode.CaseLaid
import Derived.Shelf.Strings.MapAny
import Derived.Shelf.Strings.CaseAny
import Derived.Test.YtfjcgbbphkfkgaaGreatDoorProg
namespace Go.Proofs
open Go.Shelf
def Tryz.lays159_ren : Go.Shelf.Ren := ⟨fun | 159 => 143 | 165 => 149 | 166 => 150 | 167 => 151 | 169 => 152 | 230 => 153 | 204 => 154 | 240 => 156 | 241 => 157 | 197 => 140 | 118 => 158 | 168 => 159 | 270 => 160 | 262 => 161 | 276 => 162 | 277 => 163 | 260 => 145 | 242 => 164 | 313 => 165 | 278 => 166 | 274 => 167 | 275 => 168 | n => n, fun | 9 => 9 | 4 => 4 | 3 => 3 | 5 => 5 | 72 => 182 | 0 => 0 | 76 => 186 | 75 => 185 | 107 => 191 | 70 => 180 | 20 => 20 | 37 => 75 | 127 => 199 | 21 => 21 | 105 => 157 | 164 => 204 | 162 => 209 | 203 => 172 | 119 => 192 | 46 => 155 | 139 => 195 | 138 => 194 | 51 => 196 | 160 => 210 | 208 => 216 | 206 => 214 | 80 => 189 | n => n, fun | 13 => 4 | 3 => 2 | 4 => 3 | n => n⟩
theorem Tryz.lays159 : Go.Proofs.Lays.n159 Tryz.prog Tryz.lays159_ren := {
  mixed := by kernel_rfl
  f118 := Tryz.func158.trans (congrArg some (by kernel_rfl))
  f159 := Tryz.func143.trans (congrArg some (by kernel_rfl))
  f165 := Tryz.func149.trans (congrArg some (by kernel_rfl))
  f166 := Tryz.func150.trans (congrArg some (by kernel_rfl))
  f167 := Tryz.func151.trans (congrArg some (by kernel_rfl))
  f168 := Tryz.func159.trans (congrArg some (by kernel_rfl))
  f169 := Tryz.func152.trans (congrArg some (by kernel_rfl))
  f197 := Tryz.func140.trans (congrArg some (by kernel_rfl))
  f204 := Tryz.func154.trans (congrArg some (by kernel_rfl))
  f230 := Tryz.func153.trans (congrArg some (by kernel_rfl))
  f240 := Tryz.func156.trans (congrArg some (by kernel_rfl))
  f241 := Tryz.func157.trans (congrArg some (by kernel_rfl))
  f242 := Tryz.func164.trans (congrArg some (by kernel_rfl))
  f260 := Tryz.func145.trans (congrArg some (by kernel_rfl))
  f262 := Tryz.func161.trans (congrArg some (by kernel_rfl))
  f270 := Tryz.func160.trans (congrArg some (by kernel_rfl))
  f274 := Tryz.func167.trans (congrArg some (by kernel_rfl))
  f275 := Tryz.func168.trans (congrArg some (by kernel_rfl))
  f276 := Tryz.func162.trans (congrArg some (by kernel_rfl))
  f277 := Tryz.func163.trans (congrArg some (by kernel_rfl))
  f278 := Tryz.func166.trans (congrArg some (by kernel_rfl))
  f313 := Tryz.func165.trans (congrArg some (by kernel_rfl))
  t0 := Tryz.underlying0
  a0 := Tryz.isAgg0
  z0 := Tryz.sizeOf0
  v0 := Tryz.zeroValue0
  t3 := Tryz.underlying3
  a3 := Tryz.isAgg3
  z3 := Tryz.sizeOf3
  v3 := Tryz.zeroValue3
  t4 := Tryz.underlying4
  a4 := Tryz.isAgg4
  z4 := Tryz.sizeOf4
  v4 := Tryz.zeroValue4
  t5 := Tryz.underlying5
  a5 := Tryz.isAgg5
  z5 := Tryz.sizeOf5
  v5 := Tryz.zeroValue5
  t9 := Tryz.underlying9
  a9 := Tryz.isAgg9
  z9 := Tryz.sizeOf9
  v9 := Tryz.zeroValue9
  t20 := Tryz.underlying20
  a20 := Tryz.isAgg20
  z20 := Tryz.sizeOf20
  v20 := Tryz.zeroValue20
  t21 := Tryz.underlying21
  a21 := Tryz.isAgg21
  z21 := Tryz.sizeOf21
  v21 := Tryz.zeroValue21
  t37 := Tryz.underlying75
  a37 := Tryz.isAgg75
  z37 := Tryz.sizeOf75
  v37 := Tryz.zeroValue75
  t46 := Tryz.underlying155
  a46 := Tryz.isAgg155
  z46 := Tryz.sizeOf155
  v46 := Tryz.zeroValue155
  t51 := Tryz.underlying196
  a51 := Tryz.isAgg196
  z51 := Tryz.sizeOf196
  v51 := Tryz.zeroValue196
  t70 := Tryz.underlying180
  a70 := Tryz.isAgg180
  z70 := Tryz.sizeOf180
  v70 := Tryz.zeroValue180
  t72 := Tryz.underlying182
  a72 := Tryz.isAgg182
  z72 := Tryz.sizeOf182
  v72 := Tryz.zeroValue182
  t75 := Tryz.underlying185
  a75 := Tryz.isAgg185
  z75 := Tryz.sizeOf185
  v75 := Tryz.zeroValue185
  t76 := Tryz.underlying186
  a76 := Tryz.isAgg186
  z76 := Tryz.sizeOf186
  v76 := Tryz.zeroValue186
  t105 := Tryz.underlying157
  a105 := Tryz.isAgg157
  z105 := Tryz.sizeOf157
  v105 := Tryz.zeroValue157
  t107 := Tryz.underlying191
  a107 := Tryz.isAgg191
  z107 := Tryz.sizeOf191
  v107 := Tryz.zeroValue191
  t119 := Tryz.underlying192
  a119 := Tryz.isAgg192
  z119 := Tryz.sizeOf192
  t127 := Tryz.underlying199
  a127 := Tryz.isAgg199
  z127 := Tryz.sizeOf199
  v127 := Tryz.zeroValue199
  t138 := Tryz.underlying194
  a138 := Tryz.isAgg194
  z138 := Tryz.sizeOf194
  v138 := Tryz.zeroValue194
  t139 := Tryz.underlying195
  a139 := Tryz.isAgg195
  z139 := Tryz.sizeOf195
  v139 := Tryz.zeroValue195
  t160 := Tryz.underlying210
  a160 := Tryz.isAgg210
  z160 := Tryz.sizeOf210
  v160 := Tryz.zeroValue210
  t162 := Tryz.underlying209
  a162 := Tryz.isAgg209
  z162 := Tryz.sizeOf209
  v162 := Tryz.zeroValue209
  t164 := Tryz.underlying204
  a164 := Tryz.isAgg204
  z164 := Tryz.sizeOf204
  v164 := Tryz.zeroValue204
  t203 := Tryz.underlying172
  a203 := Tryz.isAgg172
  z203 := Tryz.sizeOf172
  v203 := Tryz.zeroValue172
  t206 := Tryz.underlying214
  a206 := Tryz.isAgg214
  z206 := Tryz.sizeOf214
  v206 := Tryz.zeroValue214
  t208 := Tryz.underlying216
  a208 := Tryz.isAgg216
  z208 := Tryz.sizeOf216
  v208 := Tryz.zeroValue216
  g3 := by kernel_rfl
  g4 := by kernel_rfl
  g13 := by kernel_rfl }
theorem Tryz.Builder_Extra_159 : Builder.Extra Tryz.prog Tryz.lays159_ren := {
  sizeBuilder := by kernel_rfl
  liesBuilder := by kernel_rfl
  t5 := Tryz.underlying5
  a5 := Tryz.isAgg5
  z5 := Tryz.sizeOf5
  v5 := Tryz.zeroValue5
  infoByte := by kernel_rfl
  cellsByte := by kernel_rfl
  sizeByte := by kernel_rfl
  neB5 := by decide }
def Tryz.lays137_ren : Go.Shelf.Ren := ⟨fun | 137 => 83 | 217 => 105 | 266 => 121 | n => n, fun | 9 => 9 | 5 => 5 | 3 => 3 | n => n, fun | n => n⟩
theorem Tryz.lays137 : Go.Proofs.Lays.n137 Tryz.prog Tryz.lays137_ren := {
  mixed := by kernel_rfl
  f137 := Tryz.func83.trans (congrArg some (by kernel_rfl))
  f217 := Tryz.func105.trans (congrArg some (by kernel_rfl))
  f266 := Tryz.func121.trans (congrArg some (by kernel_rfl))
  t3 := Tryz.underlying3
  a3 := Tryz.isAgg3
  z3 := Tryz.sizeOf3
  v3 := Tryz.zeroValue3
  t5 := Tryz.underlying5
  a5 := Tryz.isAgg5
  z5 := Tryz.sizeOf5
  v5 := Tryz.zeroValue5
  t9 := Tryz.underlying9
  a9 := Tryz.isAgg9
  z9 := Tryz.sizeOf9
  v9 := Tryz.zeroValue9 }
open Go.RowKit in
/-- strings.IndexByte: "IndexByte returns the index of the first instance of c in s, or -1 if c is not present in s.": IT RETURNS 'Lib.indexByte s c'; the world is as it was. (LAID: no walk: one application.) -/
theorem Tryz.strings_IndexByte (s : ByteArray) (c : Int) (w : World) :
    Calls Tryz.prog 83 #[.string s, .int .u8 c] w fun e w' => e = .returned (.int .i64 (Lib.indexByte s.data.toList c.toNat.toUInt8)) ∧ w' = w := Any.strings_IndexByte Tryz.lays137 s c w
open Go.RowKit Go.Lib in
/-- **strings.ToLower AT EVERY STRING, VALID UTF-8 OR NOT.** (LAID: no walk: one application.) -/
theorem Tryz.strings_ToLower_any (s : ByteArray) (w : World) (hs : s.size < 35184372088832) (hV : CaseVar 4 caseA w) (hT : Lib.Utf8Tabs 2 3 w) :
    Calls Tryz.prog 143 #[.string s] w fun e w' => e = .returned (.string ⟨(Lib.toLowerD s.data.toList).toArray⟩) ∧ Below w.heap.size w w' := Any.strings_ToLower_any Tryz.lays159 Tryz.Builder_Extra_159 s w hs hV hT
end Go.Proofs
