/-
  DERIVED: THE SHELF's CONTRACTS AT THIS DUMP, IN PLAIN WORDS (tools/lay-plain.mjs out of 'TryzShelf.lean', which tools/lay-shelf.mjs wrote): THE SAME DECLARATIONS UNDER THE SAME NAMES: 'import', 'namespace', 'open', 'def', 'theorem' AND NOTHING ELSE: no command of the shelf's: FOR A HAND-IN. Each laying: the table of numbers ('.._ren') and one theorem, a field a fact of the dump's own or the kernel's comparison; each contract: ONE APPLICATION.
-/
import Derived.Shelf.Strings.Builder1
import Derived.Shelf.Strings.Builder2
import Derived.Shelf.Strings.OnBuilder
import Derived.Shelf.Small.Utf8
import Derived.Shelf.Small.Strs
import Derived.Shelf.Strings.BuilderF
import Derived.Shelf.Strings.BuilderK
import Derived.Shelf.Strings.BuilderRune
import Derived.Shelf.Strings.Search1
import Derived.Shelf.Unicode.Latin
import Derived.Shelf.Unicode.Decode
import Derived.Shelf.Unicode.DecodeSlow
import Derived.Shelf.Unicode.DecodeAny
import Derived.Shelf.Unicode.CaseLookup
import Derived.Shelf.Unicode.CaseConvert
import Derived.Shelf.Unicode.CaseTo
import Derived.Shelf.Unicode.CaseLaid
import Derived.Shelf.Strings.MapAny
import Derived.Shelf.Strings.CaseAny
import Derived.Test.YtockgemmkjdnkaaGreatDoorProg
namespace Go.Proofs
open Go.Shelf
def Tryz.lays159_ren:Go.Shelf.Ren:=⟨fun | 159=>112 | 165=>114 | 166=>115 | 167=>116 | 169=>117 | 230=>118 | 204=>119 | 240=>120 | 241=>121 | 197=>122 | 118=>123 | 168=>124 | 270=>125 | 262=>126 | 276=>127 | 277=>128 | 260=>129 | 242=>130 | 313=>131 | 278=>132 | 274=>133 | 275=>134 | n=>n,fun | 9=>9 | 4=>4 | 3=>3 | 5=>5 | 72=>160 | 0=>0 | 76=>164 | 75=>163 | 107=>169 | 70=>158 | 20=>20 | 37=>67 | 127=>170 | 21=>21 | 105=>139 | 164=>176 | 162=>181 | 203=>149 | 119=>182 | 46=>136 | 139=>185 | 138=>184 | 51=>186 | 160=>187 | 208=>193 | 206=>191 | 80=>167 | n=>n,fun | 13=>2 | 3=>3 | 4=>4 | n=>n⟩
theorem Tryz.lays159:Go.Proofs.Lays.n159 Tryz.prog Tryz.lays159_ren:={
  mixed:=by kernel_rfl
  f118:=Tryz.func123.trans (congrArg some (by kernel_rfl))
  f159:=Tryz.func112.trans (congrArg some (by kernel_rfl))
  f165:=Tryz.func114.trans (congrArg some (by kernel_rfl))
  f166:=Tryz.func115.trans (congrArg some (by kernel_rfl))
  f167:=Tryz.func116.trans (congrArg some (by kernel_rfl))
  f168:=Tryz.func124.trans (congrArg some (by kernel_rfl))
  f169:=Tryz.func117.trans (congrArg some (by kernel_rfl))
  f197:=Tryz.func122.trans (congrArg some (by kernel_rfl))
  f204:=Tryz.func119.trans (congrArg some (by kernel_rfl))
  f230:=Tryz.func118.trans (congrArg some (by kernel_rfl))
  f240:=Tryz.func120.trans (congrArg some (by kernel_rfl))
  f241:=Tryz.func121.trans (congrArg some (by kernel_rfl))
  f242:=Tryz.func130.trans (congrArg some (by kernel_rfl))
  f260:=Tryz.func129.trans (congrArg some (by kernel_rfl))
  f262:=Tryz.func126.trans (congrArg some (by kernel_rfl))
  f270:=Tryz.func125.trans (congrArg some (by kernel_rfl))
  f274:=Tryz.func133.trans (congrArg some (by kernel_rfl))
  f275:=Tryz.func134.trans (congrArg some (by kernel_rfl))
  f276:=Tryz.func127.trans (congrArg some (by kernel_rfl))
  f277:=Tryz.func128.trans (congrArg some (by kernel_rfl))
  f278:=Tryz.func132.trans (congrArg some (by kernel_rfl))
  f313:=Tryz.func131.trans (congrArg some (by kernel_rfl))
  t0:=Tryz.underlying0
  a0:=Tryz.isAgg0
  z0:=Tryz.sizeOf0
  v0:=Tryz.zeroValue0
  t3:=Tryz.underlying3
  a3:=Tryz.isAgg3
  z3:=Tryz.sizeOf3
  v3:=Tryz.zeroValue3
  t4:=Tryz.underlying4
  a4:=Tryz.isAgg4
  z4:=Tryz.sizeOf4
  v4:=Tryz.zeroValue4
  t5:=Tryz.underlying5
  a5:=Tryz.isAgg5
  z5:=Tryz.sizeOf5
  v5:=Tryz.zeroValue5
  t9:=Tryz.underlying9
  a9:=Tryz.isAgg9
  z9:=Tryz.sizeOf9
  v9:=Tryz.zeroValue9
  t20:=Tryz.underlying20
  a20:=Tryz.isAgg20
  z20:=Tryz.sizeOf20
  v20:=Tryz.zeroValue20
  t21:=Tryz.underlying21
  a21:=Tryz.isAgg21
  z21:=Tryz.sizeOf21
  v21:=Tryz.zeroValue21
  t37:=Tryz.underlying67
  a37:=Tryz.isAgg67
  z37:=Tryz.sizeOf67
  v37:=Tryz.zeroValue67
  t46:=Tryz.underlying136
  a46:=Tryz.isAgg136
  z46:=Tryz.sizeOf136
  v46:=Tryz.zeroValue136
  t51:=Tryz.underlying186
  a51:=Tryz.isAgg186
  z51:=Tryz.sizeOf186
  v51:=Tryz.zeroValue186
  t70:=Tryz.underlying158
  a70:=Tryz.isAgg158
  z70:=Tryz.sizeOf158
  v70:=Tryz.zeroValue158
  t72:=Tryz.underlying160
  a72:=Tryz.isAgg160
  z72:=Tryz.sizeOf160
  v72:=Tryz.zeroValue160
  t75:=Tryz.underlying163
  a75:=Tryz.isAgg163
  z75:=Tryz.sizeOf163
  v75:=Tryz.zeroValue163
  t76:=Tryz.underlying164
  a76:=Tryz.isAgg164
  z76:=Tryz.sizeOf164
  v76:=Tryz.zeroValue164
  t105:=Tryz.underlying139
  a105:=Tryz.isAgg139
  z105:=Tryz.sizeOf139
  v105:=Tryz.zeroValue139
  t107:=Tryz.underlying169
  a107:=Tryz.isAgg169
  z107:=Tryz.sizeOf169
  v107:=Tryz.zeroValue169
  t119:=Tryz.underlying182
  a119:=Tryz.isAgg182
  z119:=Tryz.sizeOf182
  t127:=Tryz.underlying170
  a127:=Tryz.isAgg170
  z127:=Tryz.sizeOf170
  v127:=Tryz.zeroValue170
  t138:=Tryz.underlying184
  a138:=Tryz.isAgg184
  z138:=Tryz.sizeOf184
  v138:=Tryz.zeroValue184
  t139:=Tryz.underlying185
  a139:=Tryz.isAgg185
  z139:=Tryz.sizeOf185
  v139:=Tryz.zeroValue185
  t160:=Tryz.underlying187
  a160:=Tryz.isAgg187
  z160:=Tryz.sizeOf187
  v160:=Tryz.zeroValue187
  t162:=Tryz.underlying181
  a162:=Tryz.isAgg181
  z162:=Tryz.sizeOf181
  v162:=Tryz.zeroValue181
  t164:=Tryz.underlying176
  a164:=Tryz.isAgg176
  z164:=Tryz.sizeOf176
  v164:=Tryz.zeroValue176
  t203:=Tryz.underlying149
  a203:=Tryz.isAgg149
  z203:=Tryz.sizeOf149
  v203:=Tryz.zeroValue149
  t206:=Tryz.underlying191
  a206:=Tryz.isAgg191
  z206:=Tryz.sizeOf191
  v206:=Tryz.zeroValue191
  t208:=Tryz.underlying193
  a208:=Tryz.isAgg193
  z208:=Tryz.sizeOf193
  v208:=Tryz.zeroValue193
  g3:=by kernel_rfl
  g4:=by kernel_rfl
  g13:=by kernel_rfl }
theorem Tryz.Builder_Extra_159:Builder.Extra Tryz.prog Tryz.lays159_ren:={
  sizeBuilder:=by kernel_rfl
  liesBuilder:=by kernel_rfl
  t5:=Tryz.underlying5
  a5:=Tryz.isAgg5
  z5:=Tryz.sizeOf5
  v5:=Tryz.zeroValue5
  infoByte:=by kernel_rfl
  cellsByte:=by kernel_rfl
  sizeByte:=by kernel_rfl
  neB5:=by decide }
def Tryz.lays137_ren:Go.Shelf.Ren:=⟨fun | 137=>63 | 217=>80 | 266=>96 | n=>n,fun | 9=>9 | 5=>5 | 3=>3 | n=>n,fun | n=>n⟩
theorem Tryz.lays137:Go.Proofs.Lays.n137 Tryz.prog Tryz.lays137_ren:={
  mixed:=by kernel_rfl
  f137:=Tryz.func63.trans (congrArg some (by kernel_rfl))
  f217:=Tryz.func80.trans (congrArg some (by kernel_rfl))
  f266:=Tryz.func96.trans (congrArg some (by kernel_rfl))
  t3:=Tryz.underlying3
  a3:=Tryz.isAgg3
  z3:=Tryz.sizeOf3
  v3:=Tryz.zeroValue3
  t5:=Tryz.underlying5
  a5:=Tryz.isAgg5
  z5:=Tryz.sizeOf5
  v5:=Tryz.zeroValue5
  t9:=Tryz.underlying9
  a9:=Tryz.isAgg9
  z9:=Tryz.sizeOf9
  v9:=Tryz.zeroValue9 }
open Go.RowKit in
/-- strings.IndexByte: "IndexByte returns the index of the first instance of c in s, or -1 if c is not present in s.": IT RETURNS 'Lib.indexByte s c'; the world is as it was. (LAID: no walk: one application.) -/
theorem Tryz.strings_IndexByte (s:ByteArray) (c:Int) (w:World):
    Calls Tryz.prog 63 #[.string s,.int .u8 c] w fun e w'=>e=.returned (.int .i64 (Lib.indexByte s.data.toList c.toNat.toUInt8))∧w'=w:=Any.strings_IndexByte Tryz.lays137 s c w
open Go.RowKit Go.Lib in
/-- **strings.ToLower AT EVERY STRING, VALID UTF-8 OR NOT.** (LAID: no walk: one application.) -/
theorem Tryz.strings_ToLower_any (s:ByteArray) (w:World) (hs:s.size<35184372088832) (hV:CaseVar 2 caseA w) (hT:Lib.Utf8Tabs 3 4 w):
    Calls Tryz.prog 112 #[.string s] w fun e w'=>e=.returned (.string ⟨(Lib.toLowerD s.data.toList).toArray⟩)∧Below w.heap.size w w':=Any.strings_ToLower_any Tryz.lays159 Tryz.Builder_Extra_159 s w hs hV hT
end Go.Proofs
