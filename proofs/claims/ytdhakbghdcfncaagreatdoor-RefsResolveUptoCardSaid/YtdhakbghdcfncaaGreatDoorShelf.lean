/-
  DERIVED: THE SHELF's CONTRACTS AT THIS DUMP, IN PLAIN WORDS (tools/lay-plain.mjs out of 'TryzShelf.lean', which tools/lay-shelf.mjs wrote): THE SAME DECLARATIONS UNDER THE SAME NAMES: 'import', 'namespace', 'open', 'def', 'theorem' AND NOTHING ELSE: no command of the shelf's: FOR A HAND-IN. Each laying: the table of numbers ('.._ren') and one theorem, a field a fact of the dump's own or the kernel's comparison; each contract: ONE APPLICATION.
-/
import Derived.Shelf.Strings.Builder1
import Derived.Shelf.Strings.Builder2
import Derived.Shelf.Strings.OnBuilder
import Derived.Shelf.Small.Utf8
import Derived.Shelf.Small.Strs
import Derived.Shelf.Small.Wraps
import Derived.Shelf.Strings.BuilderF
import Derived.Shelf.Strings.BuilderK
import Derived.Shelf.Strings.BuilderRune
import Derived.Shelf.Strings.Search1
import Derived.Shelf.Strings.Search2
import Derived.Shelf.Strings.Search3
import Derived.Shelf.Strings.Cut
import Derived.Shelf.Strings.Count
import Derived.Shelf.LaysM
import Derived.Shelf.Strings.Shaped
import Derived.Shelf.Strings.Prefix
import Derived.Shelf.Strings.Split
import Derived.Shelf.Strings.Fields
import Derived.Shelf.Strings.SplitShaped
import Derived.Shelf.Unicode.Latin
import Derived.Shelf.Unicode.DecodeSlow
import Derived.Shelf.Unicode.DecodeAny
import Derived.Shelf.Unicode.Is16White
import Derived.Shelf.Unicode.IsSpaceAny
import Derived.Shelf.Unicode.CaseLookup
import Derived.Shelf.Unicode.CaseConvert
import Derived.Shelf.Unicode.CaseTo
import Derived.Shelf.Unicode.CaseLaid
import Derived.Shelf.Strings.MapAny
import Derived.Shelf.Strings.CaseAny
import Derived.Shelf.Unicode.Is16Any
import Derived.Shelf.Unicode.Is32Any
import Derived.Shelf.Unicode.ExclAny
import Derived.Test.YtdhakbghdcfncaaGreatDoorProg
namespace Go.Proofs
open Go.Shelf
def Tryz.lays169_ren:Go.Shelf.Ren:=⟨fun | 169=>128 | n=>n,fun | 70=>180 | 9=>9 | 0=>0 | 72=>182 | 37=>154 | 127=>195 | 3=>3 | 5=>5 | n=>n,fun | n=>n⟩
theorem Tryz.lays169:Go.Proofs.Lays.n169 Tryz.prog Tryz.lays169_ren:={
  mixed:=by kernel_rfl
  f169:=Tryz.func128.trans (congrArg some (by kernel_rfl))
  t0:=Tryz.underlying0
  a0:=Tryz.isAgg0
  z0:=Tryz.sizeOf0
  v0:=Tryz.zeroValue0
  t3:=Tryz.underlying3
  a3:=Tryz.isAgg3
  z3:=Tryz.sizeOf3
  v3:=Tryz.zeroValue3
  t9:=Tryz.underlying9
  a9:=Tryz.isAgg9
  z9:=Tryz.sizeOf9
  v9:=Tryz.zeroValue9
  t37:=Tryz.underlying154
  a37:=Tryz.isAgg154
  z37:=Tryz.sizeOf154
  v37:=Tryz.zeroValue154
  t70:=Tryz.underlying180
  a70:=Tryz.isAgg180
  z70:=Tryz.sizeOf180
  v70:=Tryz.zeroValue180
  t72:=Tryz.underlying182
  a72:=Tryz.isAgg182
  z72:=Tryz.sizeOf182
  v72:=Tryz.zeroValue182
  t127:=Tryz.underlying195
  a127:=Tryz.isAgg195
  z127:=Tryz.sizeOf195
  v127:=Tryz.zeroValue195 }
theorem Tryz.Builder_Extra_169:Builder.Extra Tryz.prog Tryz.lays169_ren:={
  sizeBuilder:=by kernel_rfl
  liesBuilder:=by kernel_rfl
  t5:=Tryz.underlying5
  a5:=Tryz.isAgg5
  z5:=Tryz.sizeOf5
  v5:=Tryz.zeroValue5
  infoByte:=by kernel_rfl
  cellsByte:=by kernel_rfl
  sizeByte:=by kernel_rfl
  neB5:=by decide }
open Go.RowKit in
/-- (*strings.Builder).String: "String returns the accumulated string.": OF A BUILDER THAT HOLDS AT LEAST ONE BYTE. ✋ THE MODEL FREEZES THOSE BYTES IN THE BUFFER (unsafe.String): a later write INTO them ends the model's run without an answer; a later append BEHIND them goes on. The statement's order of evaluation is drawn: one draw. (LAID: no walk: one application.) -/
theorem Tryz.Builder_String (B b:Nat) (l:List UInt8) (w:World) (h:Lib.IsBuilder 182 5 B b (Lib.byteCells l) w) (h0:l≠[]):
    Calls Tryz.prog 128 #[.pointer (some ⟨b,0,none⟩)] w fun e w'=>e=.returned (.string ⟨l.toArray⟩)∧Below B w w':=Any.Builder_String Tryz.lays169 Tryz.Builder_Extra_169 B b l w h h0
open Go.RowKit in
/-- (*strings.Builder).String OF A BUILDER THAT HOLDS NO BYTE: the empty string. (Its buffer is nil, or a row of which it has taken nothing yet; where that row has NO capacity the model lays one new block for unsafe.SliceData's 'some address'.) One draw. (LAID: no walk: one application.) -/
theorem Tryz.Builder_String_empty (B b:Nat) (w:World) (h:Lib.IsBuilder 182 5 B b [] w) (hBw:B≤w.heap.size):
    Calls Tryz.prog 128 #[.pointer (some ⟨b,0,none⟩)] w fun e w'=>e=.returned (.string ⟨#[]⟩)∧Below B w w':=Any.Builder_String_empty Tryz.lays169 Tryz.Builder_Extra_169 B b w h hBw
open Go.RowKit in
/-- (*strings.Builder).String: "String returns the accumulated string.": WHATEVER THE BUILDER HOLDS. (LAID: no walk: one application.) -/
theorem Tryz.Builder_String_any (B b:Nat) (l:List UInt8) (w:World) (h:Lib.IsBuilder 182 5 B b (Lib.byteCells l) w) (hBw:B≤w.heap.size):
    Calls Tryz.prog 128 #[.pointer (some ⟨b,0,none⟩)] w fun e w'=>e=.returned (.string ⟨l.toArray⟩)∧Below B w w':=Any.Builder_String_any Tryz.lays169 Tryz.Builder_Extra_169 B b l w h hBw
def Tryz.lays241_ren:Go.Shelf.Ren:=⟨fun | 241=>132 | 277=>138 | n=>n,fun | 70=>180 | 3=>3 | 0=>0 | 72=>182 | 37=>154 | 5=>5 | n=>n,fun | n=>n⟩
theorem Tryz.lays241:Go.Proofs.Lays.n241 Tryz.prog Tryz.lays241_ren:={
  mixed:=by kernel_rfl
  f241:=Tryz.func132.trans (congrArg some (by kernel_rfl))
  f277:=Tryz.func138.trans (congrArg some (by kernel_rfl))
  t0:=Tryz.underlying0
  a0:=Tryz.isAgg0
  z0:=Tryz.sizeOf0
  v0:=Tryz.zeroValue0
  t3:=Tryz.underlying3
  a3:=Tryz.isAgg3
  z3:=Tryz.sizeOf3
  v3:=Tryz.zeroValue3
  t37:=Tryz.underlying154
  a37:=Tryz.isAgg154
  z37:=Tryz.sizeOf154
  v37:=Tryz.zeroValue154
  t70:=Tryz.underlying180
  a70:=Tryz.isAgg180
  z70:=Tryz.sizeOf180
  v70:=Tryz.zeroValue180
  t72:=Tryz.underlying182
  a72:=Tryz.isAgg182
  z72:=Tryz.sizeOf182
  v72:=Tryz.zeroValue182 }
theorem Tryz.Builder_Extra_241:Builder.Extra Tryz.prog Tryz.lays241_ren:={
  sizeBuilder:=by kernel_rfl
  liesBuilder:=by kernel_rfl
  t5:=Tryz.underlying5
  a5:=Tryz.isAgg5
  z5:=Tryz.sizeOf5
  v5:=Tryz.zeroValue5
  infoByte:=by kernel_rfl
  cellsByte:=by kernel_rfl
  sizeByte:=by kernel_rfl
  neB5:=by decide }
open Go.RowKit in
/-- (*strings.Builder).grow (no doc but "grow copies the buffer to a new, larger buffer so that there are at least n bytes of capacity beyond len(b.buf)."): AT A BUILDER WITHOUT A BUFFER: a new row of whatever bytes for its buffer, none of them its own yet. Three draws. (LAID: no walk: one application.) -/
theorem Tryz.Builder_grow_fresh (B b n:Nat) (w:World) (hB:B≤b) (hbk:w.heap[b]? = some (.cells #[.pointer (some ⟨b,0,none⟩),.slice none 0 0] 182 (0,0))) (hBw:B≤w.heap.size) (hn:n≤281474976710656):
    Calls Tryz.prog 132 #[.pointer (some ⟨b,0,none⟩),.int .i64 n] w fun e w'=>e=.returned (.tuple #[])∧(Lib.BuilderAt 182 5 B b (.pointer (some ⟨b,0,none⟩)) [] w'∧Below B w w'):=Any.Builder_grow_fresh Tryz.lays241 Tryz.Builder_Extra_241 B b n w hB hbk hBw hn
def Tryz.lays165_ren:Go.Shelf.Ren:=⟨fun | 165=>125 | 240=>131 | 241=>132 | 276=>137 | 277=>138 | n=>n,fun | 70=>180 | 3=>3 | 0=>0 | 4=>4 | 9=>9 | 20=>20 | 72=>182 | 37=>154 | 164=>200 | 5=>5 | n=>n,fun | n=>n⟩
theorem Tryz.lays165:Go.Proofs.Lays.n165 Tryz.prog Tryz.lays165_ren:={
  mixed:=by kernel_rfl
  f165:=Tryz.func125.trans (congrArg some (by kernel_rfl))
  f240:=Tryz.func131.trans (congrArg some (by kernel_rfl))
  f241:=Tryz.func132.trans (congrArg some (by kernel_rfl))
  f276:=Tryz.func137.trans (congrArg some (by kernel_rfl))
  f277:=Tryz.func138.trans (congrArg some (by kernel_rfl))
  t0:=Tryz.underlying0
  a0:=Tryz.isAgg0
  z0:=Tryz.sizeOf0
  v0:=Tryz.zeroValue0
  t3:=Tryz.underlying3
  a3:=Tryz.isAgg3
  z3:=Tryz.sizeOf3
  v3:=Tryz.zeroValue3
  t4:=Tryz.underlying4
  a4:=Tryz.isAgg4
  z4:=Tryz.sizeOf4
  v4:=Tryz.zeroValue4
  t9:=Tryz.underlying9
  a9:=Tryz.isAgg9
  z9:=Tryz.sizeOf9
  v9:=Tryz.zeroValue9
  t20:=Tryz.underlying20
  a20:=Tryz.isAgg20
  z20:=Tryz.sizeOf20
  v20:=Tryz.zeroValue20
  t37:=Tryz.underlying154
  a37:=Tryz.isAgg154
  z37:=Tryz.sizeOf154
  v37:=Tryz.zeroValue154
  t70:=Tryz.underlying180
  a70:=Tryz.isAgg180
  z70:=Tryz.sizeOf180
  v70:=Tryz.zeroValue180
  t72:=Tryz.underlying182
  a72:=Tryz.isAgg182
  z72:=Tryz.sizeOf182
  v72:=Tryz.zeroValue182
  t164:=Tryz.underlying200
  a164:=Tryz.isAgg200
  z164:=Tryz.sizeOf200
  v164:=Tryz.zeroValue200 }
theorem Tryz.Builder_Extra_165:Builder.Extra Tryz.prog Tryz.lays165_ren:={
  sizeBuilder:=by kernel_rfl
  liesBuilder:=by kernel_rfl
  t5:=Tryz.underlying5
  a5:=Tryz.isAgg5
  z5:=Tryz.sizeOf5
  v5:=Tryz.zeroValue5
  infoByte:=by kernel_rfl
  cellsByte:=by kernel_rfl
  sizeByte:=by kernel_rfl
  neB5:=by decide }
open Go.RowKit in
/-- (*strings.Builder).Grow AT A BUILDER THAT HAS NOT BEEN WRITTEN ('var b strings.Builder; b.Grow(n)'): "Grow grows b's capacity, if necessary, to guarantee space for another n bytes.": it holds no byte behind it as before it. (LAID: no walk: one application.) -/
theorem Tryz.Builder_Grow_fresh (B b n:Nat) (w:World) (hB:B≤b) (hbk:w.heap[b]? = some (.cells #[.pointer none,.slice none 0 0] 182 (0,0))) (hBw:B≤w.heap.size) (hn:n≤281474976710656):
    Calls Tryz.prog 125 #[.pointer (some ⟨b,0,none⟩),.int .i64 n] w fun e w'=>e=.returned (.tuple #[])∧(Lib.BuilderAt 182 5 B b (.pointer (some ⟨b,0,none⟩)) [] w'∧Below B w w'):=Any.Builder_Grow_fresh Tryz.lays165 Tryz.Builder_Extra_165 B b n w hB hbk hBw hn
def Tryz.lays159_ren:Go.Shelf.Ren:=⟨fun | 159=>122 | 165=>125 | 166=>126 | 167=>127 | 169=>128 | 230=>129 | 204=>130 | 240=>131 | 241=>132 | 197=>119 | 118=>133 | 168=>134 | 270=>135 | 262=>136 | 276=>137 | 277=>138 | 260=>124 | 242=>139 | 313=>140 | 278=>141 | 274=>142 | 275=>143 | n=>n,fun | 9=>9 | 4=>4 | 3=>3 | 5=>5 | 72=>182 | 0=>0 | 76=>186 | 75=>185 | 107=>191 | 70=>180 | 20=>20 | 37=>154 | 127=>195 | 21=>21 | 105=>151 | 164=>200 | 162=>205 | 203=>172 | 119=>95 | 46=>149 | 139=>194 | 138=>193 | 51=>123 | 160=>206 | 208=>212 | 206=>210 | 80=>189 | n=>n,fun | 13=>5 | 3=>3 | 4=>4 | n=>n⟩
theorem Tryz.lays159:Go.Proofs.Lays.n159 Tryz.prog Tryz.lays159_ren:={
  mixed:=by kernel_rfl
  f118:=Tryz.func133.trans (congrArg some (by kernel_rfl))
  f159:=Tryz.func122.trans (congrArg some (by kernel_rfl))
  f165:=Tryz.func125.trans (congrArg some (by kernel_rfl))
  f166:=Tryz.func126.trans (congrArg some (by kernel_rfl))
  f167:=Tryz.func127.trans (congrArg some (by kernel_rfl))
  f168:=Tryz.func134.trans (congrArg some (by kernel_rfl))
  f169:=Tryz.func128.trans (congrArg some (by kernel_rfl))
  f197:=Tryz.func119.trans (congrArg some (by kernel_rfl))
  f204:=Tryz.func130.trans (congrArg some (by kernel_rfl))
  f230:=Tryz.func129.trans (congrArg some (by kernel_rfl))
  f240:=Tryz.func131.trans (congrArg some (by kernel_rfl))
  f241:=Tryz.func132.trans (congrArg some (by kernel_rfl))
  f242:=Tryz.func139.trans (congrArg some (by kernel_rfl))
  f260:=Tryz.func124.trans (congrArg some (by kernel_rfl))
  f262:=Tryz.func136.trans (congrArg some (by kernel_rfl))
  f270:=Tryz.func135.trans (congrArg some (by kernel_rfl))
  f274:=Tryz.func142.trans (congrArg some (by kernel_rfl))
  f275:=Tryz.func143.trans (congrArg some (by kernel_rfl))
  f276:=Tryz.func137.trans (congrArg some (by kernel_rfl))
  f277:=Tryz.func138.trans (congrArg some (by kernel_rfl))
  f278:=Tryz.func141.trans (congrArg some (by kernel_rfl))
  f313:=Tryz.func140.trans (congrArg some (by kernel_rfl))
  t0:=Tryz.underlying0
  a0:=Tryz.isAgg0
  z0:=Tryz.sizeOf0
  v0:=Tryz.zeroValue0
  t3:=Tryz.underlying3
  a3:=Tryz.isAgg3
  z3:=Tryz.sizeOf3
  v3:=Tryz.zeroValue3
  t4:=Tryz.underlying4
  a4:=Tryz.isAgg4
  z4:=Tryz.sizeOf4
  v4:=Tryz.zeroValue4
  t5:=Tryz.underlying5
  a5:=Tryz.isAgg5
  z5:=Tryz.sizeOf5
  v5:=Tryz.zeroValue5
  t9:=Tryz.underlying9
  a9:=Tryz.isAgg9
  z9:=Tryz.sizeOf9
  v9:=Tryz.zeroValue9
  t20:=Tryz.underlying20
  a20:=Tryz.isAgg20
  z20:=Tryz.sizeOf20
  v20:=Tryz.zeroValue20
  t21:=Tryz.underlying21
  a21:=Tryz.isAgg21
  z21:=Tryz.sizeOf21
  v21:=Tryz.zeroValue21
  t37:=Tryz.underlying154
  a37:=Tryz.isAgg154
  z37:=Tryz.sizeOf154
  v37:=Tryz.zeroValue154
  t46:=Tryz.underlying149
  a46:=Tryz.isAgg149
  z46:=Tryz.sizeOf149
  v46:=Tryz.zeroValue149
  t51:=Tryz.underlying123
  a51:=Tryz.isAgg123
  z51:=Tryz.sizeOf123
  v51:=Tryz.zeroValue123
  t70:=Tryz.underlying180
  a70:=Tryz.isAgg180
  z70:=Tryz.sizeOf180
  v70:=Tryz.zeroValue180
  t72:=Tryz.underlying182
  a72:=Tryz.isAgg182
  z72:=Tryz.sizeOf182
  v72:=Tryz.zeroValue182
  t75:=Tryz.underlying185
  a75:=Tryz.isAgg185
  z75:=Tryz.sizeOf185
  v75:=Tryz.zeroValue185
  t76:=Tryz.underlying186
  a76:=Tryz.isAgg186
  z76:=Tryz.sizeOf186
  v76:=Tryz.zeroValue186
  t105:=Tryz.underlying151
  a105:=Tryz.isAgg151
  z105:=Tryz.sizeOf151
  v105:=Tryz.zeroValue151
  t107:=Tryz.underlying191
  a107:=Tryz.isAgg191
  z107:=Tryz.sizeOf191
  v107:=Tryz.zeroValue191
  t119:=Tryz.underlying95
  a119:=Tryz.isAgg95
  z119:=Tryz.sizeOf95
  t127:=Tryz.underlying195
  a127:=Tryz.isAgg195
  z127:=Tryz.sizeOf195
  v127:=Tryz.zeroValue195
  t138:=Tryz.underlying193
  a138:=Tryz.isAgg193
  z138:=Tryz.sizeOf193
  v138:=Tryz.zeroValue193
  t139:=Tryz.underlying194
  a139:=Tryz.isAgg194
  z139:=Tryz.sizeOf194
  v139:=Tryz.zeroValue194
  t160:=Tryz.underlying206
  a160:=Tryz.isAgg206
  z160:=Tryz.sizeOf206
  v160:=Tryz.zeroValue206
  t162:=Tryz.underlying205
  a162:=Tryz.isAgg205
  z162:=Tryz.sizeOf205
  v162:=Tryz.zeroValue205
  t164:=Tryz.underlying200
  a164:=Tryz.isAgg200
  z164:=Tryz.sizeOf200
  v164:=Tryz.zeroValue200
  t203:=Tryz.underlying172
  a203:=Tryz.isAgg172
  z203:=Tryz.sizeOf172
  v203:=Tryz.zeroValue172
  t206:=Tryz.underlying210
  a206:=Tryz.isAgg210
  z206:=Tryz.sizeOf210
  v206:=Tryz.zeroValue210
  t208:=Tryz.underlying212
  a208:=Tryz.isAgg212
  z208:=Tryz.sizeOf212
  v208:=Tryz.zeroValue212
  g3:=by kernel_rfl
  g4:=by kernel_rfl
  g13:=by kernel_rfl }
theorem Tryz.Builder_Extra_159:Builder.Extra Tryz.prog Tryz.lays159_ren:={
  sizeBuilder:=by kernel_rfl
  liesBuilder:=by kernel_rfl
  t5:=Tryz.underlying5
  a5:=Tryz.isAgg5
  z5:=Tryz.sizeOf5
  v5:=Tryz.zeroValue5
  infoByte:=by kernel_rfl
  cellsByte:=by kernel_rfl
  sizeByte:=by kernel_rfl
  neB5:=by decide }
open Go.RowKit in
/-- strings.ToLower: "ToLower returns s with all Unicode letters mapped to their lower case.": ON ASCII TEXT OF AT MOST 2^47 BYTES. Below the heap's end the world is as it was: where a letter turns, the call makes a builder and its buffer. (LAID: no walk: one application.) -/
theorem Tryz.strings_ToLower_ascii (s:ByteArray) (w:World) (hs:s.size≤140737488355328) (hascii:∀ (j:Nat) (b:UInt8),s.data.toList[j]? = some b→b.toNat<128):
    Calls Tryz.prog 122 #[.string s] w fun e w'=>e=.returned (.string ⟨(Lib.toLowerA s.data.toList).toArray⟩)∧Below w.heap.size w w':=Any.strings_ToLower_ascii Tryz.lays159 Tryz.Builder_Extra_159 s w hs hascii
def Tryz.lays118_ren:Go.Shelf.Ren:=⟨fun | 118=>133 | n=>n,fun | 21=>21 | 3=>3 | 4=>4 | n=>n,fun | n=>n⟩
theorem Tryz.lays118:Go.Proofs.Lays.n118 Tryz.prog Tryz.lays118_ren:={
  mixed:=by kernel_rfl
  f118:=Tryz.func133.trans (congrArg some (by kernel_rfl))
  t3:=Tryz.underlying3
  a3:=Tryz.isAgg3
  z3:=Tryz.sizeOf3
  v3:=Tryz.zeroValue3
  t4:=Tryz.underlying4
  a4:=Tryz.isAgg4
  z4:=Tryz.sizeOf4
  v4:=Tryz.zeroValue4
  t21:=Tryz.underlying21
  a21:=Tryz.isAgg21
  z21:=Tryz.sizeOf21
  v21:=Tryz.zeroValue21 }
/-- utf8.RuneLen: "RuneLen returns the number of bytes in the UTF-8 encoding of the rune. It returns -1 if the rune is not a valid value to encode in UTF-8.": IT RETURNS 'Lib.runeLen r'; the world is as it was. (LAID: no walk: one application.) -/
theorem Tryz.utf8_RuneLen (r:Int) (w:World):
    Calls Tryz.prog 133 #[.int .i32 r] w fun e w'=>e=.returned (.int .i64 (Lib.runeLen r))∧w'=w:=Any.utf8_RuneLen Tryz.lays118 r w
def Tryz.lays137_ren:Go.Shelf.Ren:=⟨fun | 137=>68 | 217=>87 | 266=>102 | n=>n,fun | 9=>9 | 5=>5 | 3=>3 | n=>n,fun | n=>n⟩
theorem Tryz.lays137:Go.Proofs.Lays.n137 Tryz.prog Tryz.lays137_ren:={
  mixed:=by kernel_rfl
  f137:=Tryz.func68.trans (congrArg some (by kernel_rfl))
  f217:=Tryz.func87.trans (congrArg some (by kernel_rfl))
  f266:=Tryz.func102.trans (congrArg some (by kernel_rfl))
  t3:=Tryz.underlying3
  a3:=Tryz.isAgg3
  z3:=Tryz.sizeOf3
  v3:=Tryz.zeroValue3
  t5:=Tryz.underlying5
  a5:=Tryz.isAgg5
  z5:=Tryz.sizeOf5
  v5:=Tryz.zeroValue5
  t9:=Tryz.underlying9
  a9:=Tryz.isAgg9
  z9:=Tryz.sizeOf9
  v9:=Tryz.zeroValue9 }
open Go.RowKit in
/-- strings.IndexByte: "IndexByte returns the index of the first instance of c in s, or -1 if c is not present in s.": IT RETURNS 'Lib.indexByte s c'; the world is as it was. (LAID: no walk: one application.) -/
theorem Tryz.strings_IndexByte (s:ByteArray) (c:Int) (w:World):
    Calls Tryz.prog 68 #[.string s,.int .u8 c] w fun e w'=>e=.returned (.int .i64 (Lib.indexByte s.data.toList c.toNat.toUInt8))∧w'=w:=Any.strings_IndexByte Tryz.lays137 s c w
def Tryz.lays210_ren:Go.Shelf.Ren:=⟨fun | 210=>61 | 206=>79 | n=>n,fun | 9=>9 | 4=>4 | 3=>3 | n=>n,fun | n=>n⟩
theorem Tryz.lays210:Go.Proofs.Lays.n210 Tryz.prog Tryz.lays210_ren:={
  mixed:=by kernel_rfl
  f206:=Tryz.func79.trans (congrArg some (by kernel_rfl))
  f210:=Tryz.func61.trans (congrArg some (by kernel_rfl))
  t3:=Tryz.underlying3
  a3:=Tryz.isAgg3
  z3:=Tryz.sizeOf3
  v3:=Tryz.zeroValue3
  t4:=Tryz.underlying4
  a4:=Tryz.isAgg4
  z4:=Tryz.sizeOf4
  v4:=Tryz.zeroValue4
  t9:=Tryz.underlying9
  a9:=Tryz.isAgg9
  z9:=Tryz.sizeOf9
  v9:=Tryz.zeroValue9 }
open Go.RowKit in
/-- internal/stringslite.CutPrefix (what strings.CutPrefix calls). (LAID: no walk: one application.) -/
theorem Tryz.stringslite_CutPrefix (s p:ByteArray) (w:World):
    Calls Tryz.prog 61 #[.string s,.string p] w fun e w'=>e=.returned (.tuple #[.string ⟨(Lib.trimPrefix s.data.toList p.data.toList).toArray⟩,.bool (Lib.hasPrefix s.data.toList p.data.toList)])∧w'=w:=Any.stringslite_CutPrefix Tryz.lays210 s p w
def Tryz.lays103_ren:Go.Shelf.Ren:=⟨fun | 103=>37 | 210=>61 | 206=>79 | n=>n,fun | 9=>9 | 4=>4 | 24=>54 | 3=>3 | n=>n,fun | n=>n⟩
theorem Tryz.lays103:Go.Proofs.Lays.n103 Tryz.prog Tryz.lays103_ren:={
  mixed:=by kernel_rfl
  f103:=Tryz.func37.trans (congrArg some (by kernel_rfl))
  f206:=Tryz.func79.trans (congrArg some (by kernel_rfl))
  f210:=Tryz.func61.trans (congrArg some (by kernel_rfl))
  t3:=Tryz.underlying3
  a3:=Tryz.isAgg3
  z3:=Tryz.sizeOf3
  v3:=Tryz.zeroValue3
  t4:=Tryz.underlying4
  a4:=Tryz.isAgg4
  z4:=Tryz.sizeOf4
  v4:=Tryz.zeroValue4
  t9:=Tryz.underlying9
  a9:=Tryz.isAgg9
  z9:=Tryz.sizeOf9
  v9:=Tryz.zeroValue9
  t24:=Tryz.underlying54
  a24:=Tryz.isAgg54
  z24:=Tryz.sizeOf54
  v24:=Tryz.zeroValue54 }
open Go.RowKit in
/-- strings.CutPrefix: "CutPrefix returns s without the provided leading prefix string and reports whether it found the prefix. If s doesn't start with prefix, CutPrefix returns s, false. If prefix is the empty string, CutPrefix returns s, true.": IT RETURNS '(Lib.trimPrefix s p, Lib.hasPrefix s p)'; the world is as it was. (LAID: no walk: one application.) -/
theorem Tryz.strings_CutPrefix (s p:ByteArray) (w:World):
    Calls Tryz.prog 37 #[.string s,.string p] w fun e w'=>e=.returned (.tuple #[.string ⟨(Lib.trimPrefix s.data.toList p.data.toList).toArray⟩,.bool (Lib.hasPrefix s.data.toList p.data.toList)])∧w'=w:=Any.strings_CutPrefix Tryz.lays103 s p w
open Go.RowKit in
/-- (*strings.Builder).String: "String returns the accumulated string.": OF A BUILDER THAT HOLDS AT LEAST ONE BYTE. ✋ THE MODEL FREEZES THOSE BYTES IN THE BUFFER (unsafe.String): a later write INTO them ends the model's run without an answer; a later append BEHIND them goes on. The statement's order of evaluation is drawn: one draw. THE FORM '_f': IT SAYS BESIDES THAT THE BUILDER IS A BUILDER STILL ('Lib.IsBuilderF', the same bytes): SO IT CAN BE WRITTEN ON: 'b.WriteString(b.String()[:k])'. (LAID: no walk: one application.) -/
theorem Tryz.Builder_String_f (B b:Nat) (l:List UInt8) (w:World) (h:Lib.IsBuilderF 182 5 B b (Lib.byteCells l) w) (h0:l≠[]):
    Calls Tryz.prog 128 #[.pointer (some ⟨b,0,none⟩)] w fun e w'=>e=.returned (.string ⟨l.toArray⟩)∧(Lib.IsBuilderF 182 5 B b (Lib.byteCells l) w'∧Below B w w'):=Any.Builder_String_f Tryz.lays169 Tryz.Builder_Extra_169 B b l w h h0
open Go.RowKit in
/-- (*strings.Builder).String OF A BUILDER THAT HOLDS NO BYTE: the empty string; THE FORM '_f': a builder still. (LAID: no walk: one application.) -/
theorem Tryz.Builder_String_empty_f (B b:Nat) (w:World) (h:Lib.IsBuilderF 182 5 B b [] w) (hBw:B≤w.heap.size):
    Calls Tryz.prog 128 #[.pointer (some ⟨b,0,none⟩)] w fun e w'=>e=.returned (.string ⟨#[]⟩)∧(Lib.IsBuilderF 182 5 B b [] w'∧Below B w w'):=Any.Builder_String_empty_f Tryz.lays169 Tryz.Builder_Extra_169 B b w h hBw
open Go.RowKit in
/-- (*strings.Builder).String: "String returns the accumulated string.": WHATEVER THE BUILDER HOLDS; THE FORM '_f': OF A BUILDER THAT MAY HAVE BEEN READ BEFORE; AND IT IS A BUILDER STILL, holding the same bytes: it can be written on. (LAID: no walk: one application.) -/
theorem Tryz.Builder_String_any_f (B b:Nat) (l:List UInt8) (w:World) (h:Lib.IsBuilderF 182 5 B b (Lib.byteCells l) w) (hBw:B≤w.heap.size):
    Calls Tryz.prog 128 #[.pointer (some ⟨b,0,none⟩)] w fun e w'=>e=.returned (.string ⟨l.toArray⟩)∧(Lib.IsBuilderF 182 5 B b (Lib.byteCells l) w'∧Below B w w'):=Any.Builder_String_any_f Tryz.lays169 Tryz.Builder_Extra_169 B b l w h hBw
open Go.RowKit in
/-- (*strings.Builder).String: "String returns the accumulated string.": OF A BUILDER THAT HOLDS AT LEAST ONE BYTE. ✋ THE MODEL FREEZES THOSE BYTES IN THE BUFFER (unsafe.String): a later write INTO them ends the model's run without an answer; a later append BEHIND them goes on. The statement's order of evaluation is drawn: one draw. THE FORM '_k': OVER 'Lib.IsBuilderF' (a builder that 'String()' may have read), AND WITH THE FRAME THAT REACHES ABOVE THE BUILDER: 'Lib.OthersKept': every block that is not b and is no row of uint8's stands as it stood: the iterator of a range among them. (LAID: no walk: one application.) -/
theorem Tryz.Builder_String_k (B b:Nat) (l:List UInt8) (w:World) (h:Lib.IsBuilderF 182 5 B b (Lib.byteCells l) w) (h0:l≠[]):
    Calls Tryz.prog 128 #[.pointer (some ⟨b,0,none⟩)] w fun e w'=>e=.returned (.string ⟨l.toArray⟩)∧(Lib.IsBuilderF 182 5 B b (Lib.byteCells l) w'∧Below B w w'∧Lib.OthersKept 5 (some b) w w'):=Any.Builder_String_k Tryz.lays169 Tryz.Builder_Extra_169 B b l w h h0
open Go.RowKit in
/-- (*strings.Builder).String OF A BUILDER THAT HOLDS NO BYTE: the empty string; THE FORM '_k': OVER 'Lib.IsBuilderF' (a builder that 'String()' may have read), AND WITH THE FRAME THAT REACHES ABOVE THE BUILDER: 'Lib.OthersKept': every block that is not b and is no row of uint8's stands as it stood: the iterator of a range among them. (LAID: no walk: one application.) -/
theorem Tryz.Builder_String_empty_k (B b:Nat) (w:World) (h:Lib.IsBuilderF 182 5 B b [] w) (hBw:B≤w.heap.size):
    Calls Tryz.prog 128 #[.pointer (some ⟨b,0,none⟩)] w fun e w'=>e=.returned (.string ⟨#[]⟩)∧(Lib.IsBuilderF 182 5 B b [] w'∧Below B w w'∧Lib.OthersKept 5 (some b) w w'):=Any.Builder_String_empty_k Tryz.lays169 Tryz.Builder_Extra_169 B b w h hBw
open Go.RowKit in
/-- (*strings.Builder).String: "String returns the accumulated string.": WHATEVER THE BUILDER HOLDS; THE FORM '_k': OVER 'Lib.IsBuilderF' (a builder that 'String()' may have read), AND WITH THE FRAME THAT REACHES ABOVE THE BUILDER: 'Lib.OthersKept': every block that is not b and is no row of uint8's stands as it stood: the iterator of a range among them. (LAID: no walk: one application.) -/
theorem Tryz.Builder_String_any_k (B b:Nat) (l:List UInt8) (w:World) (h:Lib.IsBuilderF 182 5 B b (Lib.byteCells l) w) (hBw:B≤w.heap.size):
    Calls Tryz.prog 128 #[.pointer (some ⟨b,0,none⟩)] w fun e w'=>e=.returned (.string ⟨l.toArray⟩)∧(Lib.IsBuilderF 182 5 B b (Lib.byteCells l) w'∧Below B w w'∧Lib.OthersKept 5 (some b) w w'):=Any.Builder_String_any_k Tryz.lays169 Tryz.Builder_Extra_169 B b l w h hBw
def Tryz.lays217_ren:Go.Shelf.Ren:=⟨fun | 217=>87 | 266=>102 | n=>n,fun | 9=>9 | 5=>5 | 3=>3 | n=>n,fun | n=>n⟩
theorem Tryz.lays217:Go.Proofs.Lays.n217 Tryz.prog Tryz.lays217_ren:={
  mixed:=by kernel_rfl
  f217:=Tryz.func87.trans (congrArg some (by kernel_rfl))
  f266:=Tryz.func102.trans (congrArg some (by kernel_rfl))
  t3:=Tryz.underlying3
  a3:=Tryz.isAgg3
  z3:=Tryz.sizeOf3
  v3:=Tryz.zeroValue3
  t5:=Tryz.underlying5
  a5:=Tryz.isAgg5
  z5:=Tryz.sizeOf5
  v5:=Tryz.zeroValue5
  t9:=Tryz.underlying9
  a9:=Tryz.isAgg9
  z9:=Tryz.sizeOf9
  v9:=Tryz.zeroValue9 }
open Go.RowKit Go.Lib in
/-- internal/stringslite.IndexByte (what strings.IndexByte calls): IT RETURNS 'Lib.indexByte s c'; the world is as it was. (LAID: no walk: one application.) -/
theorem Tryz.stringslite_IndexByte (s:ByteArray) (c:Int) (w:World):
    Calls Tryz.prog 87 #[.string s,.int .u8 c] w fun e w'=>e=.returned (.int .i64 (Lib.indexByte s.data.toList c.toNat.toUInt8))∧w'=w:=Any.stringslite_IndexByte Tryz.lays217 s c w
def Tryz.lays224_ren:Go.Shelf.Ren:=⟨fun | 224=>96 | n=>n,fun | 3=>3 | n=>n,fun | n=>n⟩
theorem Tryz.lays224:Go.Proofs.Lays.n224 Tryz.prog Tryz.lays224_ren:={
  mixed:=by kernel_rfl
  f224:=Tryz.func96.trans (congrArg some (by kernel_rfl))
  t3:=Tryz.underlying3
  a3:=Tryz.isAgg3
  z3:=Tryz.sizeOf3
  v3:=Tryz.zeroValue3 }
open Go.RowKit Go.Lib in
/-- internal/bytealg.Cutover: "Cutover reports the number of failures of IndexByte we should tolerate before switching over to Index. n is the number of bytes processed so far.": on amd64: (n + 16) / 8. (LAID: no walk: one application.) -/
theorem Tryz.bytealg_Cutover (n:Int) (h0:0≤n) (h1:n<4611686018427387904) (w:World):
    Calls Tryz.prog 96 #[.int .i64 n] w fun e w'=>e=.returned (.int .i64 ((n+16) / 8))∧w'=w:=Any.bytealg_Cutover Tryz.lays224 n h0 h1 w
def Tryz.lays314_ren:Go.Shelf.Ren:=⟨fun | 314=>108 | n=>n,fun | 9=>9 | 51=>123 | 3=>3 | 4=>4 | 5=>5 | 46=>149 | n=>n,fun | n=>n⟩
theorem Tryz.lays314:Go.Proofs.Lays.n314 Tryz.prog Tryz.lays314_ren:={
  mixed:=by kernel_rfl
  f314:=Tryz.func108.trans (congrArg some (by kernel_rfl))
  t3:=Tryz.underlying3
  a3:=Tryz.isAgg3
  z3:=Tryz.sizeOf3
  v3:=Tryz.zeroValue3
  t4:=Tryz.underlying4
  a4:=Tryz.isAgg4
  z4:=Tryz.sizeOf4
  v4:=Tryz.zeroValue4
  t5:=Tryz.underlying5
  a5:=Tryz.isAgg5
  z5:=Tryz.sizeOf5
  v5:=Tryz.zeroValue5
  t9:=Tryz.underlying9
  a9:=Tryz.isAgg9
  z9:=Tryz.sizeOf9
  v9:=Tryz.zeroValue9
  t46:=Tryz.underlying149
  a46:=Tryz.isAgg149
  z46:=Tryz.sizeOf149
  v46:=Tryz.zeroValue149
  t51:=Tryz.underlying123
  a51:=Tryz.isAgg123
  z51:=Tryz.sizeOf123
  v51:=Tryz.zeroValue123 }
open Go.RowKit Go.Lib in
/-- hashStr: "returns the hash and the appropriate multiplicative factor for use in Rabin-Karp algorithm": THE HASH OF ALL OF sep, AND 16777619 ^ len(sep), both in uint32. (LAID: no walk: one application.) -/
theorem Tryz.bytealg_hashStr (sep:ByteArray) (hs:sep.size<4294967281) (w:World):
    Calls Tryz.prog 108 #[.string sep] w fun e w'=>e=.returned (.tuple #[.int .u32 (RK.H sep.data.toList % 4294967296),.int .u32 (16777619 ^ sep.size % 4294967296)])∧w'=w:=Any.bytealg_hashStr Tryz.lays314 sep hs w
def Tryz.lays267_ren:Go.Shelf.Ren:=⟨fun | 267=>97 | 314=>108 | n=>n,fun | 9=>9 | 3=>3 | 146=>163 | 51=>123 | 4=>4 | 5=>5 | 46=>149 | n=>n,fun | n=>n⟩
theorem Tryz.lays267:Go.Proofs.Lays.n267 Tryz.prog Tryz.lays267_ren:={
  mixed:=by kernel_rfl
  f267:=Tryz.func97.trans (congrArg some (by kernel_rfl))
  f314:=Tryz.func108.trans (congrArg some (by kernel_rfl))
  t3:=Tryz.underlying3
  a3:=Tryz.isAgg3
  z3:=Tryz.sizeOf3
  v3:=Tryz.zeroValue3
  t4:=Tryz.underlying4
  a4:=Tryz.isAgg4
  z4:=Tryz.sizeOf4
  v4:=Tryz.zeroValue4
  t5:=Tryz.underlying5
  a5:=Tryz.isAgg5
  z5:=Tryz.sizeOf5
  v5:=Tryz.zeroValue5
  t9:=Tryz.underlying9
  a9:=Tryz.isAgg9
  z9:=Tryz.sizeOf9
  v9:=Tryz.zeroValue9
  t46:=Tryz.underlying149
  a46:=Tryz.isAgg149
  z46:=Tryz.sizeOf149
  v46:=Tryz.zeroValue149
  t51:=Tryz.underlying123
  a51:=Tryz.isAgg123
  z51:=Tryz.sizeOf123
  v51:=Tryz.zeroValue123
  t146:=Tryz.underlying163
  a146:=Tryz.isAgg163
  z146:=Tryz.sizeOf163
  v146:=Tryz.zeroValue163 }
open Go.RowKit Go.Lib in
theorem Tryz.bytealg_IndexRabinKarp (s sep:ByteArray) (h1:1≤sep.size) (h2:sep.size≤s.size) (hs:s.size<4294967281) (w:World):
    Calls Tryz.prog 97 #[.string s,.string sep] w fun e w'=>e=.returned (.int .i64 (Lib.index s.data.toList sep.data.toList))∧w'=w:=Any.bytealg_IndexRabinKarp Tryz.lays267 s sep h1 h2 hs w
def Tryz.lays219_ren:Go.Shelf.Ren:=⟨fun | 219=>75 | 217=>87 | 225=>95 | 224=>96 | 267=>97 | 266=>102 | 314=>108 | n=>n,fun | 9=>9 | 3=>3 | 4=>4 | 5=>5 | 46=>149 | 146=>163 | 51=>123 | n=>n,fun | 1=>2 | n=>n⟩
theorem Tryz.lays219:Go.Proofs.Lays.n219 Tryz.prog Tryz.lays219_ren:={
  mixed:=by kernel_rfl
  f217:=Tryz.func87.trans (congrArg some (by kernel_rfl))
  f219:=Tryz.func75.trans (congrArg some (by kernel_rfl))
  f224:=Tryz.func96.trans (congrArg some (by kernel_rfl))
  f225:=Tryz.func95.trans (congrArg some (by kernel_rfl))
  f266:=Tryz.func102.trans (congrArg some (by kernel_rfl))
  f267:=Tryz.func97.trans (congrArg some (by kernel_rfl))
  f314:=Tryz.func108.trans (congrArg some (by kernel_rfl))
  t3:=Tryz.underlying3
  a3:=Tryz.isAgg3
  z3:=Tryz.sizeOf3
  v3:=Tryz.zeroValue3
  t4:=Tryz.underlying4
  a4:=Tryz.isAgg4
  z4:=Tryz.sizeOf4
  v4:=Tryz.zeroValue4
  t5:=Tryz.underlying5
  a5:=Tryz.isAgg5
  z5:=Tryz.sizeOf5
  v5:=Tryz.zeroValue5
  t9:=Tryz.underlying9
  a9:=Tryz.isAgg9
  z9:=Tryz.sizeOf9
  v9:=Tryz.zeroValue9
  t46:=Tryz.underlying149
  a46:=Tryz.isAgg149
  z46:=Tryz.sizeOf149
  v46:=Tryz.zeroValue149
  t51:=Tryz.underlying123
  a51:=Tryz.isAgg123
  z51:=Tryz.sizeOf123
  v51:=Tryz.zeroValue123
  t146:=Tryz.underlying163
  a146:=Tryz.isAgg163
  z146:=Tryz.sizeOf163
  v146:=Tryz.zeroValue163
  g1:=by kernel_rfl }
open Go.RowKit Go.Lib in
/-- internal/stringslite.Index (what strings.Index calls) AT A substr OF ONE BYTE c: IT RETURNS 'Lib.indexByte s c'; the world is as it was. (LAID: no walk: one application.) -/
theorem Tryz.stringslite_Index_one (s:ByteArray) (c:UInt8) (w:World):
    Calls Tryz.prog 75 #[.string s,.string ⟨#[c]⟩] w fun e w'=>e=.returned (.int .i64 (Lib.indexByte s.data.toList c))∧w'=w:=Any.stringslite_Index_one Tryz.lays219 s c w
open Go.RowKit Go.Lib in
/-- internal/stringslite.Index (what strings.Index calls) AT A substr OF WHATEVER LENGTH: IT RETURNS 'Lib.index s substr'; the world is as it was. 'm': what internal/bytealg.MaxLen holds: whatever. (LAID: no walk: one application.) -/
theorem Tryz.stringslite_Index (s sub:ByteArray) (m:Int) (w:World) (hs:s.size<4294967281) (hm:w.cell? ⟨2,0,none⟩=some (.int .i64 m)):
    Calls Tryz.prog 75 #[.string s,.string sub] w fun e w'=>e=.returned (.int .i64 (Lib.index s.data.toList sub.data.toList))∧w'=w:=Any.stringslite_Index Tryz.lays219 s sub m w hs hm
def Tryz.lays143_ren:Go.Shelf.Ren:=⟨fun | 143=>113 | 219=>75 | 217=>87 | 225=>95 | 224=>96 | 267=>97 | 266=>102 | 314=>108 | n=>n,fun | 9=>9 | 3=>3 | 4=>4 | 5=>5 | 46=>149 | 146=>163 | 51=>123 | n=>n,fun | 1=>2 | n=>n⟩
theorem Tryz.lays143:Go.Proofs.Lays.n143 Tryz.prog Tryz.lays143_ren:={
  mixed:=by kernel_rfl
  f143:=Tryz.func113.trans (congrArg some (by kernel_rfl))
  f217:=Tryz.func87.trans (congrArg some (by kernel_rfl))
  f219:=Tryz.func75.trans (congrArg some (by kernel_rfl))
  f224:=Tryz.func96.trans (congrArg some (by kernel_rfl))
  f225:=Tryz.func95.trans (congrArg some (by kernel_rfl))
  f266:=Tryz.func102.trans (congrArg some (by kernel_rfl))
  f267:=Tryz.func97.trans (congrArg some (by kernel_rfl))
  f314:=Tryz.func108.trans (congrArg some (by kernel_rfl))
  t3:=Tryz.underlying3
  a3:=Tryz.isAgg3
  z3:=Tryz.sizeOf3
  v3:=Tryz.zeroValue3
  t4:=Tryz.underlying4
  a4:=Tryz.isAgg4
  z4:=Tryz.sizeOf4
  v4:=Tryz.zeroValue4
  t5:=Tryz.underlying5
  a5:=Tryz.isAgg5
  z5:=Tryz.sizeOf5
  v5:=Tryz.zeroValue5
  t9:=Tryz.underlying9
  a9:=Tryz.isAgg9
  z9:=Tryz.sizeOf9
  v9:=Tryz.zeroValue9
  t46:=Tryz.underlying149
  a46:=Tryz.isAgg149
  z46:=Tryz.sizeOf149
  v46:=Tryz.zeroValue149
  t51:=Tryz.underlying123
  a51:=Tryz.isAgg123
  z51:=Tryz.sizeOf123
  v51:=Tryz.zeroValue123
  t146:=Tryz.underlying163
  a146:=Tryz.isAgg163
  z146:=Tryz.sizeOf163
  v146:=Tryz.zeroValue163
  g1:=by kernel_rfl }
open Go.RowKit Go.Lib in
/-- strings.Index: "Index returns the index of the first instance of substr in s, or -1 if substr is not present in s.": AT A substr OF ONE BYTE c: IT RETURNS 'Lib.indexByte s c'; the world is as it was. (LAID: no walk: one application.) -/
theorem Tryz.strings_Index_one (s:ByteArray) (c:UInt8) (w:World):
    Calls Tryz.prog 113 #[.string s,.string ⟨#[c]⟩] w fun e w'=>e=.returned (.int .i64 (Lib.indexByte s.data.toList c))∧w'=w:=Any.strings_Index_one Tryz.lays143 s c w
open Go.RowKit Go.Lib in
/-- strings.Index: "Index returns the index of the first instance of substr in s, or -1 if substr is not present in s.": IT RETURNS 'Lib.index s substr'; the world is as it was. (LAID: no walk: one application.) -/
theorem Tryz.strings_Index (s sub:ByteArray) (m:Int) (w:World) (hs:s.size<4294967281) (hm:w.cell? ⟨2,0,none⟩=some (.int .i64 m)):
    Calls Tryz.prog 113 #[.string s,.string sub] w fun e w'=>e=.returned (.int .i64 (Lib.index s.data.toList sub.data.toList))∧w'=w:=Any.strings_Index Tryz.lays143 s sub m w hs hm
def Tryz.lays220_ren:Go.Shelf.Ren:=⟨fun | 220=>53 | 219=>75 | 217=>87 | 225=>95 | 224=>96 | 267=>97 | 266=>102 | 314=>108 | n=>n,fun | 9=>9 | 4=>4 | 3=>3 | 5=>5 | 46=>149 | 146=>163 | 51=>123 | n=>n,fun | 1=>2 | n=>n⟩
theorem Tryz.lays220:Go.Proofs.Lays.n220 Tryz.prog Tryz.lays220_ren:={
  mixed:=by kernel_rfl
  f217:=Tryz.func87.trans (congrArg some (by kernel_rfl))
  f219:=Tryz.func75.trans (congrArg some (by kernel_rfl))
  f220:=Tryz.func53.trans (congrArg some (by kernel_rfl))
  f224:=Tryz.func96.trans (congrArg some (by kernel_rfl))
  f225:=Tryz.func95.trans (congrArg some (by kernel_rfl))
  f266:=Tryz.func102.trans (congrArg some (by kernel_rfl))
  f267:=Tryz.func97.trans (congrArg some (by kernel_rfl))
  f314:=Tryz.func108.trans (congrArg some (by kernel_rfl))
  t3:=Tryz.underlying3
  a3:=Tryz.isAgg3
  z3:=Tryz.sizeOf3
  v3:=Tryz.zeroValue3
  t4:=Tryz.underlying4
  a4:=Tryz.isAgg4
  z4:=Tryz.sizeOf4
  v4:=Tryz.zeroValue4
  t5:=Tryz.underlying5
  a5:=Tryz.isAgg5
  z5:=Tryz.sizeOf5
  v5:=Tryz.zeroValue5
  t9:=Tryz.underlying9
  a9:=Tryz.isAgg9
  z9:=Tryz.sizeOf9
  v9:=Tryz.zeroValue9
  t46:=Tryz.underlying149
  a46:=Tryz.isAgg149
  z46:=Tryz.sizeOf149
  v46:=Tryz.zeroValue149
  t51:=Tryz.underlying123
  a51:=Tryz.isAgg123
  z51:=Tryz.sizeOf123
  v51:=Tryz.zeroValue123
  t146:=Tryz.underlying163
  a146:=Tryz.isAgg163
  z146:=Tryz.sizeOf163
  v146:=Tryz.zeroValue163
  g1:=by kernel_rfl }
open Go.RowKit Go.Lib in
/-- internal/stringslite.Cut (what strings.Cut calls): IT RETURNS 'Lib.cut s sep'; the world is as it was but for the count of draws. (LAID: no walk: one application.) -/
theorem Tryz.stringslite_Cut (s sep:ByteArray) (m:Int) (w:World) (hs:s.size<4294967281) (hm:w.cell? ⟨2,0,none⟩=some (.int .i64 m)):
    Calls Tryz.prog 53 #[.string s,.string sep] w fun e w'=>e=.returned (.tuple #[.string ⟨(Lib.cut s.data.toList sep.data.toList).1.toArray⟩,.string ⟨(Lib.cut s.data.toList sep.data.toList).2.1.toArray⟩,.bool (Lib.cut s.data.toList sep.data.toList).2.2]) ∧ ∃ n,w'=w.drewN n:=Any.stringslite_Cut Tryz.lays220 s sep m w hs hm
def Tryz.lays145_ren:Go.Shelf.Ren:=⟨fun | 145=>29 | 220=>53 | 219=>75 | 217=>87 | 225=>95 | 224=>96 | 267=>97 | 266=>102 | 314=>108 | n=>n,fun | 9=>9 | 4=>4 | 59=>60 | 3=>3 | 5=>5 | 46=>149 | 146=>163 | 51=>123 | n=>n,fun | 1=>2 | n=>n⟩
theorem Tryz.lays145:Go.Proofs.Lays.n145 Tryz.prog Tryz.lays145_ren:={
  mixed:=by kernel_rfl
  f145:=Tryz.func29.trans (congrArg some (by kernel_rfl))
  f217:=Tryz.func87.trans (congrArg some (by kernel_rfl))
  f219:=Tryz.func75.trans (congrArg some (by kernel_rfl))
  f220:=Tryz.func53.trans (congrArg some (by kernel_rfl))
  f224:=Tryz.func96.trans (congrArg some (by kernel_rfl))
  f225:=Tryz.func95.trans (congrArg some (by kernel_rfl))
  f266:=Tryz.func102.trans (congrArg some (by kernel_rfl))
  f267:=Tryz.func97.trans (congrArg some (by kernel_rfl))
  f314:=Tryz.func108.trans (congrArg some (by kernel_rfl))
  t3:=Tryz.underlying3
  a3:=Tryz.isAgg3
  z3:=Tryz.sizeOf3
  v3:=Tryz.zeroValue3
  t4:=Tryz.underlying4
  a4:=Tryz.isAgg4
  z4:=Tryz.sizeOf4
  v4:=Tryz.zeroValue4
  t5:=Tryz.underlying5
  a5:=Tryz.isAgg5
  z5:=Tryz.sizeOf5
  v5:=Tryz.zeroValue5
  t9:=Tryz.underlying9
  a9:=Tryz.isAgg9
  z9:=Tryz.sizeOf9
  v9:=Tryz.zeroValue9
  t46:=Tryz.underlying149
  a46:=Tryz.isAgg149
  z46:=Tryz.sizeOf149
  v46:=Tryz.zeroValue149
  t51:=Tryz.underlying123
  a51:=Tryz.isAgg123
  z51:=Tryz.sizeOf123
  v51:=Tryz.zeroValue123
  t59:=Tryz.underlying60
  a59:=Tryz.isAgg60
  z59:=Tryz.sizeOf60
  v59:=Tryz.zeroValue60
  t146:=Tryz.underlying163
  a146:=Tryz.isAgg163
  z146:=Tryz.sizeOf163
  v146:=Tryz.zeroValue163
  g1:=by kernel_rfl }
open Go.RowKit Go.Lib in
/-- strings.Cut: "Cut slices s around the first instance of sep, returning the text before and after sep. The found result reports whether sep appears in s. If sep does not appear in s, cut returns s, "", false.": IT RETURNS 'Lib.cut s sep'; the world is as it was but for the count of draws. (LAID: no walk: one application.) -/
theorem Tryz.strings_Cut (s sep:ByteArray) (m:Int) (w:World) (hs:s.size<4294967281) (hm:w.cell? ⟨2,0,none⟩=some (.int .i64 m)):
    Calls Tryz.prog 29 #[.string s,.string sep] w fun e w'=>e=.returned (.tuple #[.string ⟨(Lib.cut s.data.toList sep.data.toList).1.toArray⟩,.string ⟨(Lib.cut s.data.toList sep.data.toList).2.1.toArray⟩,.bool (Lib.cut s.data.toList sep.data.toList).2.2]) ∧ ∃ n,w'=w.drewN n:=Any.strings_Cut Tryz.lays145 s sep m w hs hm
def Tryz.lays138_ren:Go.Shelf.Ren:=⟨fun | 138=>112 | 195=>118 | 218=>120 | 143=>113 | 219=>75 | 217=>87 | 225=>95 | 224=>96 | 267=>97 | 266=>102 | 314=>108 | n=>n,fun | 9=>9 | 3=>3 | 4=>4 | 5=>5 | 0=>0 | 46=>149 | 146=>163 | 51=>123 | n=>n,fun | 1=>2 | n=>n⟩
theorem Tryz.lays138:Go.Proofs.Lays.n138 Tryz.prog Tryz.lays138_ren:={
  mixed:=by kernel_rfl
  f138:=Tryz.func112.trans (congrArg some (by kernel_rfl))
  f143:=Tryz.func113.trans (congrArg some (by kernel_rfl))
  f195:=Tryz.func118.trans (congrArg some (by kernel_rfl))
  f217:=Tryz.func87.trans (congrArg some (by kernel_rfl))
  f218:=Tryz.func120.trans (congrArg some (by kernel_rfl))
  f219:=Tryz.func75.trans (congrArg some (by kernel_rfl))
  f224:=Tryz.func96.trans (congrArg some (by kernel_rfl))
  f225:=Tryz.func95.trans (congrArg some (by kernel_rfl))
  f266:=Tryz.func102.trans (congrArg some (by kernel_rfl))
  f267:=Tryz.func97.trans (congrArg some (by kernel_rfl))
  f314:=Tryz.func108.trans (congrArg some (by kernel_rfl))
  t0:=Tryz.underlying0
  a0:=Tryz.isAgg0
  z0:=Tryz.sizeOf0
  v0:=Tryz.zeroValue0
  t3:=Tryz.underlying3
  a3:=Tryz.isAgg3
  z3:=Tryz.sizeOf3
  v3:=Tryz.zeroValue3
  t4:=Tryz.underlying4
  a4:=Tryz.isAgg4
  z4:=Tryz.sizeOf4
  v4:=Tryz.zeroValue4
  t5:=Tryz.underlying5
  a5:=Tryz.isAgg5
  z5:=Tryz.sizeOf5
  v5:=Tryz.zeroValue5
  t9:=Tryz.underlying9
  a9:=Tryz.isAgg9
  z9:=Tryz.sizeOf9
  v9:=Tryz.zeroValue9
  t46:=Tryz.underlying149
  a46:=Tryz.isAgg149
  z46:=Tryz.sizeOf149
  v46:=Tryz.zeroValue149
  t51:=Tryz.underlying123
  a51:=Tryz.isAgg123
  z51:=Tryz.sizeOf123
  v51:=Tryz.zeroValue123
  t146:=Tryz.underlying163
  a146:=Tryz.isAgg163
  z146:=Tryz.sizeOf163
  v146:=Tryz.zeroValue163
  g1:=by kernel_rfl }
open Go.RowKit Go.Lib in
/-- strings.Count AT A substr OF ONE BYTE ('hp'): "Count counts the number of non-overlapping instances of substr in s.": IT RETURNS 'Lib.countByte s (that byte)'; the world is as it was. ✋ NO CONTRACT HERE YET at an empty substr (utf8.RuneCountInString) or at a longer one (a loop over strings.Index). (LAID: no walk: one application.) -/
theorem Tryz.strings_Count_one (s:ByteArray) (c:UInt8) (w:World):
    Calls Tryz.prog 112 #[.string s,.string ⟨#[c]⟩] w fun e w'=>e=.returned (.int .i64 (Lib.countByte s.data.toList c))∧w'=w:=Any.strings_Count_one Tryz.lays138 s c w
open Go.RowKit Go.Lib in
/-- strings.Count AT A substr OF TWO BYTES OR MORE: "Count counts the number of non-overlapping instances of substr in s.": IT RETURNS 'Lib.count s substr'; the world is as it was. (LAID: no walk: one application.) -/
theorem Tryz.strings_Count (s sub:ByteArray) (m:Int) (w:World) (hs:s.size<4294967281) (hm:w.cell? ⟨2,0,none⟩=some (.int .i64 m)) (h2:2≤sub.size):
    Calls Tryz.prog 112 #[.string s,.string sub] w fun e w'=>e=.returned (.int .i64 (Lib.countB s sub))∧w'=w:=Any.strings_Count Tryz.lays138 s sub m w hs hm h2
def Tryz.laysM219_ren:Go.Shelf.Ren:=⟨fun | 219=>75 | 217=>87 | 225=>95 | 224=>96 | 267=>97 | 266=>102 | 314=>108 | n=>n,fun | 9=>9 | 3=>3 | 4=>4 | 5=>5 | 46=>149 | 146=>163 | 51=>123 | n=>n,fun | 1=>2 | n=>n⟩
theorem Tryz.laysM219:Go.Proofs.LaysM.n219 Tryz.prog Tryz.laysM219_ren:={
  mixed:=by kernel_rfl
  f217:=Tryz.func87.trans (congrArg some (by kernel_rfl))
  f219:=Tryz.func75.trans (congrArg some (by kernel_rfl))
  f224:=Tryz.func96.trans (congrArg some (by kernel_rfl))
  f225:=Tryz.func95.trans (congrArg some (by kernel_rfl))
  f266:=Tryz.func102.trans (congrArg some (by kernel_rfl))
  f267:=Tryz.func97.trans (congrArg some (by kernel_rfl))
  f314:=Tryz.func108.trans (congrArg some (by kernel_rfl))
  t3:=Tryz.underlying3
  a3:=Tryz.isAgg3
  z3:=Tryz.sizeOf3
  v3:=Tryz.zeroValue3
  t4:=Tryz.underlying4
  a4:=Tryz.isAgg4
  z4:=Tryz.sizeOf4
  v4:=Tryz.zeroValue4
  t5:=Tryz.underlying5
  a5:=Tryz.isAgg5
  z5:=Tryz.sizeOf5
  v5:=Tryz.zeroValue5
  t9:=Tryz.underlying9
  a9:=Tryz.isAgg9
  z9:=Tryz.sizeOf9
  v9:=Tryz.zeroValue9
  t46:=Tryz.underlying149
  a46:=Tryz.isAgg149
  z46:=Tryz.sizeOf149
  v46:=Tryz.zeroValue149
  t51:=Tryz.underlying123
  a51:=Tryz.isAgg123
  z51:=Tryz.sizeOf123
  v51:=Tryz.zeroValue123
  t146:=Tryz.underlying163
  a146:=Tryz.isAgg163
  z146:=Tryz.sizeOf163
  v146:=Tryz.zeroValue163
  g1:=by kernel_rfl
  i3:=by kernel_rfl
  i4:=by kernel_rfl
  i5:=by kernel_rfl
  i9:=by kernel_rfl
  i46:=by kernel_rfl
  i51:=by kernel_rfl
  i146:=by kernel_rfl
  m1:=by kernel_rfl
  s1_3:=fun w h=>Go.Proofs.cell_of_shapedOpen_int (zero:=#[.int .i64 0]) (t:=3) h (of_decide_eq_true (by kernel_rfl)) (by kernel_rfl) rfl (by kernel_rfl) (by kernel_rfl) Tryz.underlying3 }
open Go.RowKit Go.Lib in
theorem Tryz.stringslite_Index_shaped (s sub:ByteArray) (w:World) (h:w.ShapedOpen Tryz.prog) (hs:s.size<4294967281):
    Calls Tryz.prog 75 #[.string s,.string sub] w fun e w'=>e=.returned (.int .i64 (Lib.index s.data.toList sub.data.toList))∧w'=w:=Any.stringslite_Index_shaped Tryz.laysM219 s sub w h hs
def Tryz.laysM143_ren:Go.Shelf.Ren:=⟨fun | 143=>113 | 219=>75 | 217=>87 | 225=>95 | 224=>96 | 267=>97 | 266=>102 | 314=>108 | n=>n,fun | 9=>9 | 3=>3 | 4=>4 | 5=>5 | 46=>149 | 146=>163 | 51=>123 | n=>n,fun | 1=>2 | n=>n⟩
theorem Tryz.laysM143:Go.Proofs.LaysM.n143 Tryz.prog Tryz.laysM143_ren:={
  mixed:=by kernel_rfl
  f143:=Tryz.func113.trans (congrArg some (by kernel_rfl))
  f217:=Tryz.func87.trans (congrArg some (by kernel_rfl))
  f219:=Tryz.func75.trans (congrArg some (by kernel_rfl))
  f224:=Tryz.func96.trans (congrArg some (by kernel_rfl))
  f225:=Tryz.func95.trans (congrArg some (by kernel_rfl))
  f266:=Tryz.func102.trans (congrArg some (by kernel_rfl))
  f267:=Tryz.func97.trans (congrArg some (by kernel_rfl))
  f314:=Tryz.func108.trans (congrArg some (by kernel_rfl))
  t3:=Tryz.underlying3
  a3:=Tryz.isAgg3
  z3:=Tryz.sizeOf3
  v3:=Tryz.zeroValue3
  t4:=Tryz.underlying4
  a4:=Tryz.isAgg4
  z4:=Tryz.sizeOf4
  v4:=Tryz.zeroValue4
  t5:=Tryz.underlying5
  a5:=Tryz.isAgg5
  z5:=Tryz.sizeOf5
  v5:=Tryz.zeroValue5
  t9:=Tryz.underlying9
  a9:=Tryz.isAgg9
  z9:=Tryz.sizeOf9
  v9:=Tryz.zeroValue9
  t46:=Tryz.underlying149
  a46:=Tryz.isAgg149
  z46:=Tryz.sizeOf149
  v46:=Tryz.zeroValue149
  t51:=Tryz.underlying123
  a51:=Tryz.isAgg123
  z51:=Tryz.sizeOf123
  v51:=Tryz.zeroValue123
  t146:=Tryz.underlying163
  a146:=Tryz.isAgg163
  z146:=Tryz.sizeOf163
  v146:=Tryz.zeroValue163
  g1:=by kernel_rfl
  i3:=by kernel_rfl
  i4:=by kernel_rfl
  i5:=by kernel_rfl
  i9:=by kernel_rfl
  i46:=by kernel_rfl
  i51:=by kernel_rfl
  i146:=by kernel_rfl
  m1:=by kernel_rfl
  s1_3:=fun w h=>Go.Proofs.cell_of_shapedOpen_int (zero:=#[.int .i64 0]) (t:=3) h (of_decide_eq_true (by kernel_rfl)) (by kernel_rfl) rfl (by kernel_rfl) (by kernel_rfl) Tryz.underlying3 }
open Go.RowKit Go.Lib in
theorem Tryz.strings_Index_shaped (s sub:ByteArray) (w:World) (h:w.ShapedOpen Tryz.prog) (hs:s.size<4294967281):
    Calls Tryz.prog 113 #[.string s,.string sub] w fun e w'=>e=.returned (.int .i64 (Lib.index s.data.toList sub.data.toList))∧w'=w:=Any.strings_Index_shaped Tryz.laysM143 s sub w h hs
def Tryz.laysM220_ren:Go.Shelf.Ren:=⟨fun | 220=>53 | 219=>75 | 217=>87 | 225=>95 | 224=>96 | 267=>97 | 266=>102 | 314=>108 | n=>n,fun | 9=>9 | 4=>4 | 3=>3 | 5=>5 | 46=>149 | 146=>163 | 51=>123 | n=>n,fun | 1=>2 | n=>n⟩
theorem Tryz.laysM220:Go.Proofs.LaysM.n220 Tryz.prog Tryz.laysM220_ren:={
  mixed:=by kernel_rfl
  f217:=Tryz.func87.trans (congrArg some (by kernel_rfl))
  f219:=Tryz.func75.trans (congrArg some (by kernel_rfl))
  f220:=Tryz.func53.trans (congrArg some (by kernel_rfl))
  f224:=Tryz.func96.trans (congrArg some (by kernel_rfl))
  f225:=Tryz.func95.trans (congrArg some (by kernel_rfl))
  f266:=Tryz.func102.trans (congrArg some (by kernel_rfl))
  f267:=Tryz.func97.trans (congrArg some (by kernel_rfl))
  f314:=Tryz.func108.trans (congrArg some (by kernel_rfl))
  t3:=Tryz.underlying3
  a3:=Tryz.isAgg3
  z3:=Tryz.sizeOf3
  v3:=Tryz.zeroValue3
  t4:=Tryz.underlying4
  a4:=Tryz.isAgg4
  z4:=Tryz.sizeOf4
  v4:=Tryz.zeroValue4
  t5:=Tryz.underlying5
  a5:=Tryz.isAgg5
  z5:=Tryz.sizeOf5
  v5:=Tryz.zeroValue5
  t9:=Tryz.underlying9
  a9:=Tryz.isAgg9
  z9:=Tryz.sizeOf9
  v9:=Tryz.zeroValue9
  t46:=Tryz.underlying149
  a46:=Tryz.isAgg149
  z46:=Tryz.sizeOf149
  v46:=Tryz.zeroValue149
  t51:=Tryz.underlying123
  a51:=Tryz.isAgg123
  z51:=Tryz.sizeOf123
  v51:=Tryz.zeroValue123
  t146:=Tryz.underlying163
  a146:=Tryz.isAgg163
  z146:=Tryz.sizeOf163
  v146:=Tryz.zeroValue163
  g1:=by kernel_rfl
  i3:=by kernel_rfl
  i4:=by kernel_rfl
  i5:=by kernel_rfl
  i9:=by kernel_rfl
  i46:=by kernel_rfl
  i51:=by kernel_rfl
  i146:=by kernel_rfl
  m1:=by kernel_rfl
  s1_3:=fun w h=>Go.Proofs.cell_of_shapedOpen_int (zero:=#[.int .i64 0]) (t:=3) h (of_decide_eq_true (by kernel_rfl)) (by kernel_rfl) rfl (by kernel_rfl) (by kernel_rfl) Tryz.underlying3 }
open Go.RowKit Go.Lib in
theorem Tryz.stringslite_Cut_shaped (s sep:ByteArray) (w:World) (h:w.ShapedOpen Tryz.prog) (hs:s.size<4294967281):
    Calls Tryz.prog 53 #[.string s,.string sep] w fun e w'=>e=.returned (.tuple #[.string ⟨(Lib.cut s.data.toList sep.data.toList).1.toArray⟩,.string ⟨(Lib.cut s.data.toList sep.data.toList).2.1.toArray⟩,.bool (Lib.cut s.data.toList sep.data.toList).2.2]) ∧ ∃ n,w'=w.drewN n:=Any.stringslite_Cut_shaped Tryz.laysM220 s sep w h hs
def Tryz.laysM145_ren:Go.Shelf.Ren:=⟨fun | 145=>29 | 220=>53 | 219=>75 | 217=>87 | 225=>95 | 224=>96 | 267=>97 | 266=>102 | 314=>108 | n=>n,fun | 9=>9 | 4=>4 | 59=>60 | 3=>3 | 5=>5 | 46=>149 | 146=>163 | 51=>123 | n=>n,fun | 1=>2 | n=>n⟩
theorem Tryz.laysM145:Go.Proofs.LaysM.n145 Tryz.prog Tryz.laysM145_ren:={
  mixed:=by kernel_rfl
  f145:=Tryz.func29.trans (congrArg some (by kernel_rfl))
  f217:=Tryz.func87.trans (congrArg some (by kernel_rfl))
  f219:=Tryz.func75.trans (congrArg some (by kernel_rfl))
  f220:=Tryz.func53.trans (congrArg some (by kernel_rfl))
  f224:=Tryz.func96.trans (congrArg some (by kernel_rfl))
  f225:=Tryz.func95.trans (congrArg some (by kernel_rfl))
  f266:=Tryz.func102.trans (congrArg some (by kernel_rfl))
  f267:=Tryz.func97.trans (congrArg some (by kernel_rfl))
  f314:=Tryz.func108.trans (congrArg some (by kernel_rfl))
  t3:=Tryz.underlying3
  a3:=Tryz.isAgg3
  z3:=Tryz.sizeOf3
  v3:=Tryz.zeroValue3
  t4:=Tryz.underlying4
  a4:=Tryz.isAgg4
  z4:=Tryz.sizeOf4
  v4:=Tryz.zeroValue4
  t5:=Tryz.underlying5
  a5:=Tryz.isAgg5
  z5:=Tryz.sizeOf5
  v5:=Tryz.zeroValue5
  t9:=Tryz.underlying9
  a9:=Tryz.isAgg9
  z9:=Tryz.sizeOf9
  v9:=Tryz.zeroValue9
  t46:=Tryz.underlying149
  a46:=Tryz.isAgg149
  z46:=Tryz.sizeOf149
  v46:=Tryz.zeroValue149
  t51:=Tryz.underlying123
  a51:=Tryz.isAgg123
  z51:=Tryz.sizeOf123
  v51:=Tryz.zeroValue123
  t59:=Tryz.underlying60
  a59:=Tryz.isAgg60
  z59:=Tryz.sizeOf60
  v59:=Tryz.zeroValue60
  t146:=Tryz.underlying163
  a146:=Tryz.isAgg163
  z146:=Tryz.sizeOf163
  v146:=Tryz.zeroValue163
  g1:=by kernel_rfl
  i3:=by kernel_rfl
  i4:=by kernel_rfl
  i5:=by kernel_rfl
  i9:=by kernel_rfl
  i46:=by kernel_rfl
  i51:=by kernel_rfl
  i59:=by kernel_rfl
  i146:=by kernel_rfl
  m1:=by kernel_rfl
  s1_3:=fun w h=>Go.Proofs.cell_of_shapedOpen_int (zero:=#[.int .i64 0]) (t:=3) h (of_decide_eq_true (by kernel_rfl)) (by kernel_rfl) rfl (by kernel_rfl) (by kernel_rfl) Tryz.underlying3 }
open Go.RowKit Go.Lib in
theorem Tryz.strings_Cut_shaped (s sep:ByteArray) (w:World) (h:w.ShapedOpen Tryz.prog) (hs:s.size<4294967281):
    Calls Tryz.prog 29 #[.string s,.string sep] w fun e w'=>e=.returned (.tuple #[.string ⟨(Lib.cut s.data.toList sep.data.toList).1.toArray⟩,.string ⟨(Lib.cut s.data.toList sep.data.toList).2.1.toArray⟩,.bool (Lib.cut s.data.toList sep.data.toList).2.2]) ∧ ∃ n,w'=w.drewN n:=Any.strings_Cut_shaped Tryz.laysM145 s sep w h hs
def Tryz.laysM138_ren:Go.Shelf.Ren:=⟨fun | 138=>112 | 195=>118 | 218=>120 | 143=>113 | 219=>75 | 217=>87 | 225=>95 | 224=>96 | 267=>97 | 266=>102 | 314=>108 | n=>n,fun | 9=>9 | 3=>3 | 4=>4 | 5=>5 | 0=>0 | 46=>149 | 146=>163 | 51=>123 | n=>n,fun | 1=>2 | n=>n⟩
theorem Tryz.laysM138:Go.Proofs.LaysM.n138 Tryz.prog Tryz.laysM138_ren:={
  mixed:=by kernel_rfl
  f138:=Tryz.func112.trans (congrArg some (by kernel_rfl))
  f143:=Tryz.func113.trans (congrArg some (by kernel_rfl))
  f195:=Tryz.func118.trans (congrArg some (by kernel_rfl))
  f217:=Tryz.func87.trans (congrArg some (by kernel_rfl))
  f218:=Tryz.func120.trans (congrArg some (by kernel_rfl))
  f219:=Tryz.func75.trans (congrArg some (by kernel_rfl))
  f224:=Tryz.func96.trans (congrArg some (by kernel_rfl))
  f225:=Tryz.func95.trans (congrArg some (by kernel_rfl))
  f266:=Tryz.func102.trans (congrArg some (by kernel_rfl))
  f267:=Tryz.func97.trans (congrArg some (by kernel_rfl))
  f314:=Tryz.func108.trans (congrArg some (by kernel_rfl))
  t0:=Tryz.underlying0
  a0:=Tryz.isAgg0
  z0:=Tryz.sizeOf0
  v0:=Tryz.zeroValue0
  t3:=Tryz.underlying3
  a3:=Tryz.isAgg3
  z3:=Tryz.sizeOf3
  v3:=Tryz.zeroValue3
  t4:=Tryz.underlying4
  a4:=Tryz.isAgg4
  z4:=Tryz.sizeOf4
  v4:=Tryz.zeroValue4
  t5:=Tryz.underlying5
  a5:=Tryz.isAgg5
  z5:=Tryz.sizeOf5
  v5:=Tryz.zeroValue5
  t9:=Tryz.underlying9
  a9:=Tryz.isAgg9
  z9:=Tryz.sizeOf9
  v9:=Tryz.zeroValue9
  t46:=Tryz.underlying149
  a46:=Tryz.isAgg149
  z46:=Tryz.sizeOf149
  v46:=Tryz.zeroValue149
  t51:=Tryz.underlying123
  a51:=Tryz.isAgg123
  z51:=Tryz.sizeOf123
  v51:=Tryz.zeroValue123
  t146:=Tryz.underlying163
  a146:=Tryz.isAgg163
  z146:=Tryz.sizeOf163
  v146:=Tryz.zeroValue163
  g1:=by kernel_rfl
  i0:=by kernel_rfl
  i3:=by kernel_rfl
  i4:=by kernel_rfl
  i5:=by kernel_rfl
  i9:=by kernel_rfl
  i46:=by kernel_rfl
  i51:=by kernel_rfl
  i146:=by kernel_rfl
  m1:=by kernel_rfl
  s1_3:=fun w h=>Go.Proofs.cell_of_shapedOpen_int (zero:=#[.int .i64 0]) (t:=3) h (of_decide_eq_true (by kernel_rfl)) (by kernel_rfl) rfl (by kernel_rfl) (by kernel_rfl) Tryz.underlying3 }
open Go.RowKit Go.Lib in
theorem Tryz.strings_Count_shaped (s sub:ByteArray) (w:World) (h:w.ShapedOpen Tryz.prog) (hs:s.size<4294967281) (h2:2≤sub.size):
    Calls Tryz.prog 112 #[.string s,.string sub] w fun e w'=>e=.returned (.int .i64 (Lib.countB s sub))∧w'=w:=Any.strings_Count_shaped Tryz.laysM138 s sub w h hs h2
def Tryz.lays206_ren:Go.Shelf.Ren:=⟨fun | 206=>79 | n=>n,fun | 9=>9 | 4=>4 | 3=>3 | n=>n,fun | n=>n⟩
theorem Tryz.lays206:Go.Proofs.Lays.n206 Tryz.prog Tryz.lays206_ren:={
  mixed:=by kernel_rfl
  f206:=Tryz.func79.trans (congrArg some (by kernel_rfl))
  t3:=Tryz.underlying3
  a3:=Tryz.isAgg3
  z3:=Tryz.sizeOf3
  v3:=Tryz.zeroValue3
  t4:=Tryz.underlying4
  a4:=Tryz.isAgg4
  z4:=Tryz.sizeOf4
  v4:=Tryz.zeroValue4
  t9:=Tryz.underlying9
  a9:=Tryz.isAgg9
  z9:=Tryz.sizeOf9
  v9:=Tryz.zeroValue9 }
open Go.RowKit Go.Lib in
/-- internal/stringslite.HasPrefix (what strings.HasPrefix calls). (LAID: no walk: one application.) -/
theorem Tryz.stringslite_HasPrefix (s p:ByteArray) (w:World):
    Calls Tryz.prog 79 #[.string s,.string p] w fun e w'=>e=.returned (.bool (Lib.hasPrefix s.data.toList p.data.toList))∧w'=w:=Any.stringslite_HasPrefix Tryz.lays206 s p w
def Tryz.lays99_ren:Go.Shelf.Ren:=⟨fun | 99=>106 | 206=>79 | n=>n,fun | 9=>9 | 4=>4 | 3=>3 | n=>n,fun | n=>n⟩
theorem Tryz.lays99:Go.Proofs.Lays.n99 Tryz.prog Tryz.lays99_ren:={
  mixed:=by kernel_rfl
  f99:=Tryz.func106.trans (congrArg some (by kernel_rfl))
  f206:=Tryz.func79.trans (congrArg some (by kernel_rfl))
  t3:=Tryz.underlying3
  a3:=Tryz.isAgg3
  z3:=Tryz.sizeOf3
  v3:=Tryz.zeroValue3
  t4:=Tryz.underlying4
  a4:=Tryz.isAgg4
  z4:=Tryz.sizeOf4
  v4:=Tryz.zeroValue4
  t9:=Tryz.underlying9
  a9:=Tryz.isAgg9
  z9:=Tryz.sizeOf9
  v9:=Tryz.zeroValue9 }
open Go.RowKit Go.Lib in
/-- strings.HasPrefix: "HasPrefix reports whether the string s begins with prefix.": IT RETURNS 'Lib.hasPrefix s prefix'; the world is as it was. (LAID: no walk: one application.) -/
theorem Tryz.strings_HasPrefix (s p:ByteArray) (w:World):
    Calls Tryz.prog 106 #[.string s,.string p] w fun e w'=>e=.returned (.bool (Lib.hasPrefix s.data.toList p.data.toList))∧w'=w:=Any.strings_HasPrefix Tryz.lays99 s p w
def Tryz.lays208_ren:Go.Shelf.Ren:=⟨fun | 208=>78 | 206=>79 | n=>n,fun | 9=>9 | 4=>4 | 3=>3 | n=>n,fun | n=>n⟩
theorem Tryz.lays208:Go.Proofs.Lays.n208 Tryz.prog Tryz.lays208_ren:={
  mixed:=by kernel_rfl
  f206:=Tryz.func79.trans (congrArg some (by kernel_rfl))
  f208:=Tryz.func78.trans (congrArg some (by kernel_rfl))
  t3:=Tryz.underlying3
  a3:=Tryz.isAgg3
  z3:=Tryz.sizeOf3
  v3:=Tryz.zeroValue3
  t4:=Tryz.underlying4
  a4:=Tryz.isAgg4
  z4:=Tryz.sizeOf4
  v4:=Tryz.zeroValue4
  t9:=Tryz.underlying9
  a9:=Tryz.isAgg9
  z9:=Tryz.sizeOf9
  v9:=Tryz.zeroValue9 }
open Go.RowKit Go.Lib in
/-- internal/stringslite.TrimPrefix (what strings.TrimPrefix calls). (LAID: no walk: one application.) -/
theorem Tryz.stringslite_TrimPrefix (s p:ByteArray) (w:World):
    Calls Tryz.prog 78 #[.string s,.string p] w fun e w'=>e=.returned (.string ⟨(Lib.trimPrefix s.data.toList p.data.toList).toArray⟩)∧w'=w:=Any.stringslite_TrimPrefix Tryz.lays208 s p w
def Tryz.lays101_ren:Go.Shelf.Ren:=⟨fun | 101=>57 | 208=>78 | 206=>79 | n=>n,fun | 9=>9 | 4=>4 | 3=>3 | n=>n,fun | n=>n⟩
theorem Tryz.lays101:Go.Proofs.Lays.n101 Tryz.prog Tryz.lays101_ren:={
  mixed:=by kernel_rfl
  f101:=Tryz.func57.trans (congrArg some (by kernel_rfl))
  f206:=Tryz.func79.trans (congrArg some (by kernel_rfl))
  f208:=Tryz.func78.trans (congrArg some (by kernel_rfl))
  t3:=Tryz.underlying3
  a3:=Tryz.isAgg3
  z3:=Tryz.sizeOf3
  v3:=Tryz.zeroValue3
  t4:=Tryz.underlying4
  a4:=Tryz.isAgg4
  z4:=Tryz.sizeOf4
  v4:=Tryz.zeroValue4
  t9:=Tryz.underlying9
  a9:=Tryz.isAgg9
  z9:=Tryz.sizeOf9
  v9:=Tryz.zeroValue9 }
open Go.RowKit Go.Lib in
/-- strings.TrimPrefix: "TrimPrefix returns s without the provided leading prefix string. If s doesn't start with prefix, s is returned unchanged.": IT RETURNS 'Lib.trimPrefix s prefix'; the world is as it was. (LAID: no walk: one application.) -/
theorem Tryz.strings_TrimPrefix (s p:ByteArray) (w:World):
    Calls Tryz.prog 57 #[.string s,.string p] w fun e w'=>e=.returned (.string ⟨(Lib.trimPrefix s.data.toList p.data.toList).toArray⟩)∧w'=w:=Any.strings_TrimPrefix Tryz.lays101 s p w
open Go.RowKit Go.Lib in
/-- strings.Count at whatever sep that is not empty: the two roads under one statement. (LAID: no walk: one application.) -/
theorem Tryz.strings_Count_any (s sep:ByteArray) (m:Int) (w:World) (hs:s.size<4294967281) (hm:w.cell? ⟨2,0,none⟩=some (.int .i64 m)) (h1:1≤sep.size):
    Calls Tryz.prog 112 #[.string s,.string sep] w fun e w'=>e=.returned (.int .i64 (Lib.countB s sep))∧w'=w:=Any.strings_Count_any Tryz.lays138 s sep m w hs hm h1
def Tryz.lays221_ren:Go.Shelf.Ren:=⟨fun | 221=>100 | 268=>111 | 138=>112 | 143=>113 | 195=>118 | 197=>119 | 218=>120 | 219=>75 | 260=>124 | 217=>87 | 225=>95 | 224=>96 | 267=>97 | 266=>102 | 314=>108 | n=>n,fun | 9=>9 | 3=>3 | 31=>58 | 4=>4 | 0=>0 | 105=>151 | 21=>21 | 5=>5 | 46=>149 | 119=>95 | 139=>194 | 138=>193 | 146=>163 | 51=>123 | n=>n,fun | 1=>2 | 3=>3 | 4=>4 | n=>n⟩
theorem Tryz.lays221:Go.Proofs.Lays.n221 Tryz.prog Tryz.lays221_ren:={
  mixed:=by kernel_rfl
  f138:=Tryz.func112.trans (congrArg some (by kernel_rfl))
  f143:=Tryz.func113.trans (congrArg some (by kernel_rfl))
  f195:=Tryz.func118.trans (congrArg some (by kernel_rfl))
  f197:=Tryz.func119.trans (congrArg some (by kernel_rfl))
  f217:=Tryz.func87.trans (congrArg some (by kernel_rfl))
  f218:=Tryz.func120.trans (congrArg some (by kernel_rfl))
  f219:=Tryz.func75.trans (congrArg some (by kernel_rfl))
  f221:=Tryz.func100.trans (congrArg some (by kernel_rfl))
  f224:=Tryz.func96.trans (congrArg some (by kernel_rfl))
  f225:=Tryz.func95.trans (congrArg some (by kernel_rfl))
  f260:=Tryz.func124.trans (congrArg some (by kernel_rfl))
  f266:=Tryz.func102.trans (congrArg some (by kernel_rfl))
  f267:=Tryz.func97.trans (congrArg some (by kernel_rfl))
  f268:=Tryz.func111.trans (congrArg some (by kernel_rfl))
  f314:=Tryz.func108.trans (congrArg some (by kernel_rfl))
  t0:=Tryz.underlying0
  a0:=Tryz.isAgg0
  z0:=Tryz.sizeOf0
  v0:=Tryz.zeroValue0
  t3:=Tryz.underlying3
  a3:=Tryz.isAgg3
  z3:=Tryz.sizeOf3
  v3:=Tryz.zeroValue3
  t4:=Tryz.underlying4
  a4:=Tryz.isAgg4
  z4:=Tryz.sizeOf4
  v4:=Tryz.zeroValue4
  t5:=Tryz.underlying5
  a5:=Tryz.isAgg5
  z5:=Tryz.sizeOf5
  v5:=Tryz.zeroValue5
  t9:=Tryz.underlying9
  a9:=Tryz.isAgg9
  z9:=Tryz.sizeOf9
  v9:=Tryz.zeroValue9
  t21:=Tryz.underlying21
  a21:=Tryz.isAgg21
  z21:=Tryz.sizeOf21
  v21:=Tryz.zeroValue21
  t31:=Tryz.underlying58
  a31:=Tryz.isAgg58
  z31:=Tryz.sizeOf58
  v31:=Tryz.zeroValue58
  t46:=Tryz.underlying149
  a46:=Tryz.isAgg149
  z46:=Tryz.sizeOf149
  v46:=Tryz.zeroValue149
  t51:=Tryz.underlying123
  a51:=Tryz.isAgg123
  z51:=Tryz.sizeOf123
  v51:=Tryz.zeroValue123
  t105:=Tryz.underlying151
  a105:=Tryz.isAgg151
  z105:=Tryz.sizeOf151
  v105:=Tryz.zeroValue151
  t119:=Tryz.underlying95
  a119:=Tryz.isAgg95
  z119:=Tryz.sizeOf95
  t138:=Tryz.underlying193
  a138:=Tryz.isAgg193
  z138:=Tryz.sizeOf193
  v138:=Tryz.zeroValue193
  t139:=Tryz.underlying194
  a139:=Tryz.isAgg194
  z139:=Tryz.sizeOf194
  v139:=Tryz.zeroValue194
  t146:=Tryz.underlying163
  a146:=Tryz.isAgg163
  z146:=Tryz.sizeOf163
  v146:=Tryz.zeroValue163
  g1:=by kernel_rfl
  g3:=by kernel_rfl
  g4:=by kernel_rfl }
open Go.RowKit Go.Lib in
theorem Tryz.strings_genSplit (s sep:ByteArray) (sv:Nat) (n:Int) (N:Nat) (m:Int) (w:World) (hs:s.size<4294967281) (hm:w.cell? ⟨2,0,none⟩=some (.int .i64 m)) (h1:1≤sep.size) (hsv:sv≤sep.size) (hn0:n≠0) (hn63:n≤9223372036854775807) (hN:(N:Int)=min (if n<0 then (Lib.countB s sep:Int)+1 else n) ((s.size:Int)+1)):
    Calls Tryz.prog 100 #[.string s,.string sep,.int .i64 sv,.int .i64 n] w fun e w'=>
      e=.returned (.slice (some ⟨w.heap.size,0,none⟩) (Lib.splitB sep sv (N - 1) s).length N)∧w'=w.alloc (.cells (Lib.cellsOf (Lib.splitB sep sv (N - 1) s) N) 9):=Any.strings_genSplit Tryz.lays221 (by kernel_rfl) s sep sv n N m w hs hm h1 hsv hn0 hn63 hN
def Tryz.lays146_ren:Go.Shelf.Ren:=⟨fun | 146=>83 | 221=>100 | 268=>111 | 138=>112 | 143=>113 | 195=>118 | 197=>119 | 218=>120 | 219=>75 | 260=>124 | 217=>87 | 225=>95 | 224=>96 | 267=>97 | 266=>102 | 314=>108 | n=>n,fun | 9=>9 | 31=>58 | 3=>3 | 4=>4 | 0=>0 | 105=>151 | 21=>21 | 5=>5 | 46=>149 | 119=>95 | 139=>194 | 138=>193 | 146=>163 | 51=>123 | n=>n,fun | 1=>2 | 3=>3 | 4=>4 | n=>n⟩
theorem Tryz.lays146:Go.Proofs.Lays.n146 Tryz.prog Tryz.lays146_ren:={
  mixed:=by kernel_rfl
  f138:=Tryz.func112.trans (congrArg some (by kernel_rfl))
  f143:=Tryz.func113.trans (congrArg some (by kernel_rfl))
  f146:=Tryz.func83.trans (congrArg some (by kernel_rfl))
  f195:=Tryz.func118.trans (congrArg some (by kernel_rfl))
  f197:=Tryz.func119.trans (congrArg some (by kernel_rfl))
  f217:=Tryz.func87.trans (congrArg some (by kernel_rfl))
  f218:=Tryz.func120.trans (congrArg some (by kernel_rfl))
  f219:=Tryz.func75.trans (congrArg some (by kernel_rfl))
  f221:=Tryz.func100.trans (congrArg some (by kernel_rfl))
  f224:=Tryz.func96.trans (congrArg some (by kernel_rfl))
  f225:=Tryz.func95.trans (congrArg some (by kernel_rfl))
  f260:=Tryz.func124.trans (congrArg some (by kernel_rfl))
  f266:=Tryz.func102.trans (congrArg some (by kernel_rfl))
  f267:=Tryz.func97.trans (congrArg some (by kernel_rfl))
  f268:=Tryz.func111.trans (congrArg some (by kernel_rfl))
  f314:=Tryz.func108.trans (congrArg some (by kernel_rfl))
  t0:=Tryz.underlying0
  a0:=Tryz.isAgg0
  z0:=Tryz.sizeOf0
  v0:=Tryz.zeroValue0
  t3:=Tryz.underlying3
  a3:=Tryz.isAgg3
  z3:=Tryz.sizeOf3
  v3:=Tryz.zeroValue3
  t4:=Tryz.underlying4
  a4:=Tryz.isAgg4
  z4:=Tryz.sizeOf4
  v4:=Tryz.zeroValue4
  t5:=Tryz.underlying5
  a5:=Tryz.isAgg5
  z5:=Tryz.sizeOf5
  v5:=Tryz.zeroValue5
  t9:=Tryz.underlying9
  a9:=Tryz.isAgg9
  z9:=Tryz.sizeOf9
  v9:=Tryz.zeroValue9
  t21:=Tryz.underlying21
  a21:=Tryz.isAgg21
  z21:=Tryz.sizeOf21
  v21:=Tryz.zeroValue21
  t31:=Tryz.underlying58
  a31:=Tryz.isAgg58
  z31:=Tryz.sizeOf58
  v31:=Tryz.zeroValue58
  t46:=Tryz.underlying149
  a46:=Tryz.isAgg149
  z46:=Tryz.sizeOf149
  v46:=Tryz.zeroValue149
  t51:=Tryz.underlying123
  a51:=Tryz.isAgg123
  z51:=Tryz.sizeOf123
  v51:=Tryz.zeroValue123
  t105:=Tryz.underlying151
  a105:=Tryz.isAgg151
  z105:=Tryz.sizeOf151
  v105:=Tryz.zeroValue151
  t119:=Tryz.underlying95
  a119:=Tryz.isAgg95
  z119:=Tryz.sizeOf95
  t138:=Tryz.underlying193
  a138:=Tryz.isAgg193
  z138:=Tryz.sizeOf193
  v138:=Tryz.zeroValue193
  t139:=Tryz.underlying194
  a139:=Tryz.isAgg194
  z139:=Tryz.sizeOf194
  v139:=Tryz.zeroValue194
  t146:=Tryz.underlying163
  a146:=Tryz.isAgg163
  z146:=Tryz.sizeOf163
  v146:=Tryz.zeroValue163
  g1:=by kernel_rfl
  g3:=by kernel_rfl
  g4:=by kernel_rfl }
open Go.RowKit Go.Lib in
/-- strings.Split. (LAID: no walk: one application.) -/
theorem Tryz.strings_Split (s sep:ByteArray) (m:Int) (w:World) (hs:s.size<4294967281) (hm:w.cell? ⟨2,0,none⟩=some (.int .i64 m)) (h1:1≤sep.size):
    Calls Tryz.prog 83 #[.string s,.string sep] w fun e w'=>
      e=.returned (.slice (some ⟨w.heap.size,0,none⟩) (Lib.countB s sep+1) (Lib.countB s sep+1))∧w'=w.alloc (.cells ((Lib.splitB sep 0 (Lib.countB s sep) s).map Value.string).toArray 9):=Any.strings_Split Tryz.lays146 (by kernel_rfl) s sep m w hs hm h1
def Tryz.lays157_ren:Go.Shelf.Ren:=⟨fun | 157=>28 | 229=>51 | 199=>52 | 261=>74 | 311=>93 | 312=>94 | n=>n,fun | 9=>9 | 31=>58 | 3=>3 | 5=>5 | 4=>4 | 119=>95 | 0=>0 | 40=>97 | 152=>120 | 21=>21 | 154=>122 | 51=>123 | 141=>125 | 196=>140 | 193=>137 | 198=>143 | 49=>141 | 194=>138 | 201=>146 | 226=>161 | 46=>149 | 227=>162 | n=>n,fun | 0=>0 | 6=>1 | n=>n⟩
theorem Tryz.lays157:Go.Proofs.Lays.n157 Tryz.prog Tryz.lays157_ren:={
  mixed:=by kernel_rfl
  f157:=Tryz.func28.trans (congrArg some (by kernel_rfl))
  f199:=Tryz.func52.trans (congrArg some (by kernel_rfl))
  f229:=Tryz.func51.trans (congrArg some (by kernel_rfl))
  f261:=Tryz.func74.trans (congrArg some (by kernel_rfl))
  f311:=Tryz.func93.trans (congrArg some (by kernel_rfl))
  f312:=Tryz.func94.trans (congrArg some (by kernel_rfl))
  t0:=Tryz.underlying0
  a0:=Tryz.isAgg0
  z0:=Tryz.sizeOf0
  v0:=Tryz.zeroValue0
  t3:=Tryz.underlying3
  a3:=Tryz.isAgg3
  z3:=Tryz.sizeOf3
  v3:=Tryz.zeroValue3
  t4:=Tryz.underlying4
  a4:=Tryz.isAgg4
  z4:=Tryz.sizeOf4
  v4:=Tryz.zeroValue4
  t5:=Tryz.underlying5
  a5:=Tryz.isAgg5
  z5:=Tryz.sizeOf5
  v5:=Tryz.zeroValue5
  t9:=Tryz.underlying9
  a9:=Tryz.isAgg9
  z9:=Tryz.sizeOf9
  v9:=Tryz.zeroValue9
  t21:=Tryz.underlying21
  a21:=Tryz.isAgg21
  z21:=Tryz.sizeOf21
  v21:=Tryz.zeroValue21
  t31:=Tryz.underlying58
  a31:=Tryz.isAgg58
  z31:=Tryz.sizeOf58
  v31:=Tryz.zeroValue58
  t40:=Tryz.underlying97
  a40:=Tryz.isAgg97
  z40:=Tryz.sizeOf97
  v40:=Tryz.zeroValue97
  t46:=Tryz.underlying149
  a46:=Tryz.isAgg149
  z46:=Tryz.sizeOf149
  v46:=Tryz.zeroValue149
  t49:=Tryz.underlying141
  a49:=Tryz.isAgg141
  z49:=Tryz.sizeOf141
  v49:=Tryz.zeroValue141
  t51:=Tryz.underlying123
  a51:=Tryz.isAgg123
  z51:=Tryz.sizeOf123
  v51:=Tryz.zeroValue123
  t119:=Tryz.underlying95
  a119:=Tryz.isAgg95
  z119:=Tryz.sizeOf95
  t141:=Tryz.underlying125
  a141:=Tryz.isAgg125
  z141:=Tryz.sizeOf125
  v141:=Tryz.zeroValue125
  t152:=Tryz.underlying120
  a152:=Tryz.isAgg120
  z152:=Tryz.sizeOf120
  v152:=Tryz.zeroValue120
  t154:=Tryz.underlying122
  a154:=Tryz.isAgg122
  z154:=Tryz.sizeOf122
  v154:=Tryz.zeroValue122
  t193:=Tryz.underlying137
  a193:=Tryz.isAgg137
  z193:=Tryz.sizeOf137
  v193:=Tryz.zeroValue137
  t194:=Tryz.underlying138
  a194:=Tryz.isAgg138
  z194:=Tryz.sizeOf138
  v194:=Tryz.zeroValue138
  t196:=Tryz.underlying140
  a196:=Tryz.isAgg140
  z196:=Tryz.sizeOf140
  v196:=Tryz.zeroValue140
  t198:=Tryz.underlying143
  a198:=Tryz.isAgg143
  z198:=Tryz.sizeOf143
  v198:=Tryz.zeroValue143
  t201:=Tryz.underlying146
  a201:=Tryz.isAgg146
  z201:=Tryz.sizeOf146
  v201:=Tryz.zeroValue146
  t226:=Tryz.underlying161
  a226:=Tryz.isAgg161
  z226:=Tryz.sizeOf161
  v226:=Tryz.zeroValue161
  t227:=Tryz.underlying162
  a227:=Tryz.isAgg162
  z227:=Tryz.sizeOf162
  v227:=Tryz.zeroValue162
  g0:=by kernel_rfl
  g6:=by kernel_rfl }
open Go.RowKit Go.Lib in
/-- strings.Fields, the table by 'Lib.TabIs' (as strings.TrimSpace's contract). 'hg': the table's number, by its name: at a dump 'by kernel_rfl'. (LAID: no walk: one application.) -/
theorem Tryz.strings_Fields (s:ByteArray) (w:World) (hs:s.size<4294967281) (hascii:∀ (j:Nat) b,s.data.toList[j]? = some b→b.toNat<128) (htab:Lib.TabIs Tryz.prog w "strings.asciiSpace" .u8 Lib.asciiSpaceTab):
    Calls Tryz.prog 28 #[.string s] w fun e w'=>
      e=.returned (.slice (some ⟨w.heap.size,0,none⟩) (Lib.fields s.data.toList).length (Lib.fields s.data.toList).length)∧w'=w.alloc (.cells ((Lib.fields s.data.toList).map fun l=>Value.string ⟨l.toArray⟩).toArray 9):=Any.strings_Fields Tryz.lays157 (by kernel_rfl) (by kernel_rfl) s w hs hascii htab
def Tryz.laysM146_ren:Go.Shelf.Ren:=⟨fun | 146=>83 | 221=>100 | 268=>111 | 138=>112 | 143=>113 | 195=>118 | 197=>119 | 218=>120 | 219=>75 | 260=>124 | 217=>87 | 225=>95 | 224=>96 | 267=>97 | 266=>102 | 314=>108 | n=>n,fun | 9=>9 | 31=>58 | 3=>3 | 4=>4 | 0=>0 | 105=>151 | 21=>21 | 5=>5 | 46=>149 | 119=>95 | 139=>194 | 138=>193 | 146=>163 | 51=>123 | n=>n,fun | 1=>2 | 3=>3 | 4=>4 | n=>n⟩
theorem Tryz.laysM146:Go.Proofs.LaysM.n146 Tryz.prog Tryz.laysM146_ren:={
  mixed:=by kernel_rfl
  f138:=Tryz.func112.trans (congrArg some (by kernel_rfl))
  f143:=Tryz.func113.trans (congrArg some (by kernel_rfl))
  f146:=Tryz.func83.trans (congrArg some (by kernel_rfl))
  f195:=Tryz.func118.trans (congrArg some (by kernel_rfl))
  f197:=Tryz.func119.trans (congrArg some (by kernel_rfl))
  f217:=Tryz.func87.trans (congrArg some (by kernel_rfl))
  f218:=Tryz.func120.trans (congrArg some (by kernel_rfl))
  f219:=Tryz.func75.trans (congrArg some (by kernel_rfl))
  f221:=Tryz.func100.trans (congrArg some (by kernel_rfl))
  f224:=Tryz.func96.trans (congrArg some (by kernel_rfl))
  f225:=Tryz.func95.trans (congrArg some (by kernel_rfl))
  f260:=Tryz.func124.trans (congrArg some (by kernel_rfl))
  f266:=Tryz.func102.trans (congrArg some (by kernel_rfl))
  f267:=Tryz.func97.trans (congrArg some (by kernel_rfl))
  f268:=Tryz.func111.trans (congrArg some (by kernel_rfl))
  f314:=Tryz.func108.trans (congrArg some (by kernel_rfl))
  t0:=Tryz.underlying0
  a0:=Tryz.isAgg0
  z0:=Tryz.sizeOf0
  v0:=Tryz.zeroValue0
  t3:=Tryz.underlying3
  a3:=Tryz.isAgg3
  z3:=Tryz.sizeOf3
  v3:=Tryz.zeroValue3
  t4:=Tryz.underlying4
  a4:=Tryz.isAgg4
  z4:=Tryz.sizeOf4
  v4:=Tryz.zeroValue4
  t5:=Tryz.underlying5
  a5:=Tryz.isAgg5
  z5:=Tryz.sizeOf5
  v5:=Tryz.zeroValue5
  t9:=Tryz.underlying9
  a9:=Tryz.isAgg9
  z9:=Tryz.sizeOf9
  v9:=Tryz.zeroValue9
  t21:=Tryz.underlying21
  a21:=Tryz.isAgg21
  z21:=Tryz.sizeOf21
  v21:=Tryz.zeroValue21
  t31:=Tryz.underlying58
  a31:=Tryz.isAgg58
  z31:=Tryz.sizeOf58
  v31:=Tryz.zeroValue58
  t46:=Tryz.underlying149
  a46:=Tryz.isAgg149
  z46:=Tryz.sizeOf149
  v46:=Tryz.zeroValue149
  t51:=Tryz.underlying123
  a51:=Tryz.isAgg123
  z51:=Tryz.sizeOf123
  v51:=Tryz.zeroValue123
  t105:=Tryz.underlying151
  a105:=Tryz.isAgg151
  z105:=Tryz.sizeOf151
  v105:=Tryz.zeroValue151
  t119:=Tryz.underlying95
  a119:=Tryz.isAgg95
  z119:=Tryz.sizeOf95
  t138:=Tryz.underlying193
  a138:=Tryz.isAgg193
  z138:=Tryz.sizeOf193
  v138:=Tryz.zeroValue193
  t139:=Tryz.underlying194
  a139:=Tryz.isAgg194
  z139:=Tryz.sizeOf194
  v139:=Tryz.zeroValue194
  t146:=Tryz.underlying163
  a146:=Tryz.isAgg163
  z146:=Tryz.sizeOf163
  v146:=Tryz.zeroValue163
  g1:=by kernel_rfl
  g3:=by kernel_rfl
  g4:=by kernel_rfl
  i0:=by kernel_rfl
  i3:=by kernel_rfl
  i4:=by kernel_rfl
  i5:=by kernel_rfl
  i9:=by kernel_rfl
  i21:=by kernel_rfl
  i31:=by kernel_rfl
  i46:=by kernel_rfl
  i51:=by kernel_rfl
  i105:=by kernel_rfl
  i138:=by kernel_rfl
  i139:=by kernel_rfl
  i146:=by kernel_rfl
  m1:=by kernel_rfl
  s1_3:=fun w h=>Go.Proofs.cell_of_shapedOpen_int (zero:=#[.int .i64 0]) (t:=3) h (of_decide_eq_true (by kernel_rfl)) (by kernel_rfl) rfl (by kernel_rfl) (by kernel_rfl) Tryz.underlying3
  m3:=by kernel_rfl
  m4:=by kernel_rfl }
open Go.RowKit Go.Lib in
/-- strings.Split, sep not empty. (LAID: no walk: one application.) -/
theorem Tryz.strings_Split_shaped (s sep:ByteArray) (w:World) (h:w.ShapedOpen Tryz.prog) (hs:s.size<4294967281) (h1:1≤sep.size):
    Calls Tryz.prog 83 #[.string s,.string sep] w fun e w'=>
      e=.returned (.slice (some ⟨w.heap.size,0,none⟩) (Lib.countB s sep+1) (Lib.countB s sep+1))∧w'=w.alloc (.cells ((Lib.splitB sep 0 (Lib.countB s sep) s).map Value.string).toArray 9):=Any.strings_Split_shaped Tryz.laysM146 s sep w h hs h1
def Tryz.laysM157_ren:Go.Shelf.Ren:=⟨fun | 157=>28 | 229=>51 | 199=>52 | 261=>74 | 311=>93 | 312=>94 | n=>n,fun | 9=>9 | 31=>58 | 3=>3 | 5=>5 | 4=>4 | 119=>95 | 0=>0 | 40=>97 | 152=>120 | 21=>21 | 154=>122 | 51=>123 | 141=>125 | 196=>140 | 193=>137 | 198=>143 | 49=>141 | 194=>138 | 201=>146 | 226=>161 | 46=>149 | 227=>162 | n=>n,fun | 0=>0 | 6=>1 | n=>n⟩
theorem Tryz.laysM157:Go.Proofs.LaysM.n157 Tryz.prog Tryz.laysM157_ren:={
  mixed:=by kernel_rfl
  f157:=Tryz.func28.trans (congrArg some (by kernel_rfl))
  f199:=Tryz.func52.trans (congrArg some (by kernel_rfl))
  f229:=Tryz.func51.trans (congrArg some (by kernel_rfl))
  f261:=Tryz.func74.trans (congrArg some (by kernel_rfl))
  f311:=Tryz.func93.trans (congrArg some (by kernel_rfl))
  f312:=Tryz.func94.trans (congrArg some (by kernel_rfl))
  t0:=Tryz.underlying0
  a0:=Tryz.isAgg0
  z0:=Tryz.sizeOf0
  v0:=Tryz.zeroValue0
  t3:=Tryz.underlying3
  a3:=Tryz.isAgg3
  z3:=Tryz.sizeOf3
  v3:=Tryz.zeroValue3
  t4:=Tryz.underlying4
  a4:=Tryz.isAgg4
  z4:=Tryz.sizeOf4
  v4:=Tryz.zeroValue4
  t5:=Tryz.underlying5
  a5:=Tryz.isAgg5
  z5:=Tryz.sizeOf5
  v5:=Tryz.zeroValue5
  t9:=Tryz.underlying9
  a9:=Tryz.isAgg9
  z9:=Tryz.sizeOf9
  v9:=Tryz.zeroValue9
  t21:=Tryz.underlying21
  a21:=Tryz.isAgg21
  z21:=Tryz.sizeOf21
  v21:=Tryz.zeroValue21
  t31:=Tryz.underlying58
  a31:=Tryz.isAgg58
  z31:=Tryz.sizeOf58
  v31:=Tryz.zeroValue58
  t40:=Tryz.underlying97
  a40:=Tryz.isAgg97
  z40:=Tryz.sizeOf97
  v40:=Tryz.zeroValue97
  t46:=Tryz.underlying149
  a46:=Tryz.isAgg149
  z46:=Tryz.sizeOf149
  v46:=Tryz.zeroValue149
  t49:=Tryz.underlying141
  a49:=Tryz.isAgg141
  z49:=Tryz.sizeOf141
  v49:=Tryz.zeroValue141
  t51:=Tryz.underlying123
  a51:=Tryz.isAgg123
  z51:=Tryz.sizeOf123
  v51:=Tryz.zeroValue123
  t119:=Tryz.underlying95
  a119:=Tryz.isAgg95
  z119:=Tryz.sizeOf95
  t141:=Tryz.underlying125
  a141:=Tryz.isAgg125
  z141:=Tryz.sizeOf125
  v141:=Tryz.zeroValue125
  t152:=Tryz.underlying120
  a152:=Tryz.isAgg120
  z152:=Tryz.sizeOf120
  v152:=Tryz.zeroValue120
  t154:=Tryz.underlying122
  a154:=Tryz.isAgg122
  z154:=Tryz.sizeOf122
  v154:=Tryz.zeroValue122
  t193:=Tryz.underlying137
  a193:=Tryz.isAgg137
  z193:=Tryz.sizeOf137
  v193:=Tryz.zeroValue137
  t194:=Tryz.underlying138
  a194:=Tryz.isAgg138
  z194:=Tryz.sizeOf138
  v194:=Tryz.zeroValue138
  t196:=Tryz.underlying140
  a196:=Tryz.isAgg140
  z196:=Tryz.sizeOf140
  v196:=Tryz.zeroValue140
  t198:=Tryz.underlying143
  a198:=Tryz.isAgg143
  z198:=Tryz.sizeOf143
  v198:=Tryz.zeroValue143
  t201:=Tryz.underlying146
  a201:=Tryz.isAgg146
  z201:=Tryz.sizeOf146
  v201:=Tryz.zeroValue146
  t226:=Tryz.underlying161
  a226:=Tryz.isAgg161
  z226:=Tryz.sizeOf161
  v226:=Tryz.zeroValue161
  t227:=Tryz.underlying162
  a227:=Tryz.isAgg162
  z227:=Tryz.sizeOf162
  v227:=Tryz.zeroValue162
  g0:=by kernel_rfl
  g6:=by kernel_rfl
  i0:=by kernel_rfl
  i3:=by kernel_rfl
  i4:=by kernel_rfl
  i5:=by kernel_rfl
  i9:=by kernel_rfl
  i21:=by kernel_rfl
  i31:=by kernel_rfl
  i40:=by kernel_rfl
  i46:=by kernel_rfl
  i49:=by kernel_rfl
  i51:=by kernel_rfl
  i141:=by kernel_rfl
  i152:=by kernel_rfl
  i154:=by kernel_rfl
  i193:=by kernel_rfl
  i194:=by kernel_rfl
  i196:=by kernel_rfl
  i198:=by kernel_rfl
  i201:=by kernel_rfl
  i226:=by kernel_rfl
  i227:=by kernel_rfl
  m0:=by kernel_rfl
  m6:=by kernel_rfl }
open Go.RowKit Go.Lib in
/-- strings.Fields on ASCII bytes. (The table: 'Lib.TabIs', as strings.TrimSpace's contract asks it.) (LAID: no walk: one application.) -/
theorem Tryz.strings_Fields_laid (s:ByteArray) (w:World) (hs:s.size<4294967281) (hascii:∀ (j:Nat) b,s.data.toList[j]? = some b→b.toNat<128) (htab:Lib.TabIs Tryz.prog w "strings.asciiSpace" .u8 Lib.asciiSpaceTab):
    Calls Tryz.prog 28 #[.string s] w fun e w'=>
      e=.returned (.slice (some ⟨w.heap.size,0,none⟩) (Lib.fields s.data.toList).length (Lib.fields s.data.toList).length)∧w'=w.alloc (.cells ((Lib.fields s.data.toList).map fun l=>Value.string ⟨l.toArray⟩).toArray 9):=Any.strings_Fields_laid Tryz.laysM157 s w hs hascii htab
def Tryz.lays199_ren:Go.Shelf.Ren:=⟨fun | 199=>52 | 261=>74 | 311=>93 | 312=>94 | n=>n,fun | 21=>21 | 4=>4 | 51=>123 | 141=>125 | 0=>0 | 196=>140 | 193=>137 | 3=>3 | 198=>143 | 49=>141 | 194=>138 | 201=>146 | 226=>161 | 46=>149 | 227=>162 | n=>n,fun | 6=>1 | n=>n⟩
theorem Tryz.lays199:Go.Proofs.Lays.n199 Tryz.prog Tryz.lays199_ren:={
  mixed:=by kernel_rfl
  f199:=Tryz.func52.trans (congrArg some (by kernel_rfl))
  f261:=Tryz.func74.trans (congrArg some (by kernel_rfl))
  f311:=Tryz.func93.trans (congrArg some (by kernel_rfl))
  f312:=Tryz.func94.trans (congrArg some (by kernel_rfl))
  t0:=Tryz.underlying0
  a0:=Tryz.isAgg0
  z0:=Tryz.sizeOf0
  v0:=Tryz.zeroValue0
  t3:=Tryz.underlying3
  a3:=Tryz.isAgg3
  z3:=Tryz.sizeOf3
  v3:=Tryz.zeroValue3
  t4:=Tryz.underlying4
  a4:=Tryz.isAgg4
  z4:=Tryz.sizeOf4
  v4:=Tryz.zeroValue4
  t21:=Tryz.underlying21
  a21:=Tryz.isAgg21
  z21:=Tryz.sizeOf21
  v21:=Tryz.zeroValue21
  t46:=Tryz.underlying149
  a46:=Tryz.isAgg149
  z46:=Tryz.sizeOf149
  v46:=Tryz.zeroValue149
  t49:=Tryz.underlying141
  a49:=Tryz.isAgg141
  z49:=Tryz.sizeOf141
  v49:=Tryz.zeroValue141
  t51:=Tryz.underlying123
  a51:=Tryz.isAgg123
  z51:=Tryz.sizeOf123
  v51:=Tryz.zeroValue123
  t141:=Tryz.underlying125
  a141:=Tryz.isAgg125
  z141:=Tryz.sizeOf125
  v141:=Tryz.zeroValue125
  t193:=Tryz.underlying137
  a193:=Tryz.isAgg137
  z193:=Tryz.sizeOf137
  v193:=Tryz.zeroValue137
  t194:=Tryz.underlying138
  a194:=Tryz.isAgg138
  z194:=Tryz.sizeOf138
  v194:=Tryz.zeroValue138
  t196:=Tryz.underlying140
  a196:=Tryz.isAgg140
  z196:=Tryz.sizeOf140
  v196:=Tryz.zeroValue140
  t198:=Tryz.underlying143
  a198:=Tryz.isAgg143
  z198:=Tryz.sizeOf143
  v198:=Tryz.zeroValue143
  t201:=Tryz.underlying146
  a201:=Tryz.isAgg146
  z201:=Tryz.sizeOf146
  v201:=Tryz.zeroValue146
  t226:=Tryz.underlying161
  a226:=Tryz.isAgg161
  z226:=Tryz.sizeOf161
  v226:=Tryz.zeroValue161
  t227:=Tryz.underlying162
  a227:=Tryz.isAgg162
  z227:=Tryz.sizeOf162
  v227:=Tryz.zeroValue162
  g6:=by kernel_rfl }
open Go.RowKit Go.Lib in
theorem Tryz.unicode_IsSpace (r:Int) (w:World) (h0:0≤r) (h:r≤255):
    Calls Tryz.prog 52 #[.int .i32 r] w fun e w'=>e=.returned (.bool (Lib.isSpaceL r))∧w'=w:=Any.unicode_IsSpace Tryz.lays199 r w h0 h
def Tryz.lays204_ren:Go.Shelf.Ren:=⟨fun | 204=>130 | 262=>136 | 313=>140 | 274=>142 | 275=>143 | n=>n,fun | 21=>21 | 4=>4 | 3=>3 | 162=>205 | 203=>172 | 160=>206 | 46=>149 | 0=>0 | 208=>212 | 51=>123 | 206=>210 | n=>n,fun | 13=>5 | n=>n⟩
theorem Tryz.lays204:Go.Proofs.Lays.n204 Tryz.prog Tryz.lays204_ren:={
  mixed:=by kernel_rfl
  f204:=Tryz.func130.trans (congrArg some (by kernel_rfl))
  f262:=Tryz.func136.trans (congrArg some (by kernel_rfl))
  f274:=Tryz.func142.trans (congrArg some (by kernel_rfl))
  f275:=Tryz.func143.trans (congrArg some (by kernel_rfl))
  f313:=Tryz.func140.trans (congrArg some (by kernel_rfl))
  t0:=Tryz.underlying0
  a0:=Tryz.isAgg0
  z0:=Tryz.sizeOf0
  v0:=Tryz.zeroValue0
  t3:=Tryz.underlying3
  a3:=Tryz.isAgg3
  z3:=Tryz.sizeOf3
  v3:=Tryz.zeroValue3
  t4:=Tryz.underlying4
  a4:=Tryz.isAgg4
  z4:=Tryz.sizeOf4
  v4:=Tryz.zeroValue4
  t21:=Tryz.underlying21
  a21:=Tryz.isAgg21
  z21:=Tryz.sizeOf21
  v21:=Tryz.zeroValue21
  t46:=Tryz.underlying149
  a46:=Tryz.isAgg149
  z46:=Tryz.sizeOf149
  v46:=Tryz.zeroValue149
  t51:=Tryz.underlying123
  a51:=Tryz.isAgg123
  z51:=Tryz.sizeOf123
  v51:=Tryz.zeroValue123
  t160:=Tryz.underlying206
  a160:=Tryz.isAgg206
  z160:=Tryz.sizeOf206
  v160:=Tryz.zeroValue206
  t162:=Tryz.underlying205
  a162:=Tryz.isAgg205
  z162:=Tryz.sizeOf205
  v162:=Tryz.zeroValue205
  t203:=Tryz.underlying172
  a203:=Tryz.isAgg172
  z203:=Tryz.sizeOf172
  v203:=Tryz.zeroValue172
  t206:=Tryz.underlying210
  a206:=Tryz.isAgg210
  z206:=Tryz.sizeOf210
  v206:=Tryz.zeroValue210
  t208:=Tryz.underlying212
  a208:=Tryz.isAgg212
  z208:=Tryz.sizeOf212
  v208:=Tryz.zeroValue212
  g13:=by kernel_rfl }
open Go.RowKit Go.Lib in
theorem Tryz.unicode_ToLower (r:Int) (w:World) (h:r≤127):
    Calls Tryz.prog 130 #[.int .i32 r] w fun e w'=>e=.returned (.int .i32 (Lib.toLowerR r))∧w'=w:=Any.unicode_ToLower Tryz.lays204 r w h
def Tryz.lays260_ren:Go.Shelf.Ren:=⟨fun | 260=>124 | n=>n,fun | 9=>9 | 21=>21 | 3=>3 | 4=>4 | 5=>5 | 119=>95 | 0=>0 | 46=>149 | 139=>194 | 138=>193 | n=>n,fun | 3=>3 | 4=>4 | n=>n⟩
theorem Tryz.lays260:Go.Proofs.Lays.n260 Tryz.prog Tryz.lays260_ren:={
  mixed:=by kernel_rfl
  f260:=Tryz.func124.trans (congrArg some (by kernel_rfl))
  t0:=Tryz.underlying0
  a0:=Tryz.isAgg0
  z0:=Tryz.sizeOf0
  v0:=Tryz.zeroValue0
  t3:=Tryz.underlying3
  a3:=Tryz.isAgg3
  z3:=Tryz.sizeOf3
  v3:=Tryz.zeroValue3
  t4:=Tryz.underlying4
  a4:=Tryz.isAgg4
  z4:=Tryz.sizeOf4
  v4:=Tryz.zeroValue4
  t5:=Tryz.underlying5
  a5:=Tryz.isAgg5
  z5:=Tryz.sizeOf5
  v5:=Tryz.zeroValue5
  t9:=Tryz.underlying9
  a9:=Tryz.isAgg9
  z9:=Tryz.sizeOf9
  v9:=Tryz.zeroValue9
  t21:=Tryz.underlying21
  a21:=Tryz.isAgg21
  z21:=Tryz.sizeOf21
  v21:=Tryz.zeroValue21
  t46:=Tryz.underlying149
  a46:=Tryz.isAgg149
  z46:=Tryz.sizeOf149
  v46:=Tryz.zeroValue149
  t119:=Tryz.underlying95
  a119:=Tryz.isAgg95
  z119:=Tryz.sizeOf95
  t138:=Tryz.underlying193
  a138:=Tryz.isAgg193
  z138:=Tryz.sizeOf193
  v138:=Tryz.zeroValue193
  t139:=Tryz.underlying194
  a139:=Tryz.isAgg194
  z139:=Tryz.sizeOf194
  v139:=Tryz.zeroValue194
  g3:=by kernel_rfl
  g4:=by kernel_rfl }
open Go.RowKit Go.Lib in
theorem Tryz.utf8_decodeRuneInStringSlow (s:ByteArray) (w:World) (hT:Lib.Utf8Tabs 3 4 w):
    Calls Tryz.prog 124 #[.string s] w fun e w'=>e=.returned (.tuple #[.int .i32 (Lib.decodeGo s).1,.int .i64 (Lib.decodeGo s).2])∧Below w.heap.size w w':=Any.utf8_decodeRuneInStringSlow Tryz.lays260 s w hT
def Tryz.lays197_ren:Go.Shelf.Ren:=⟨fun | 197=>119 | 260=>124 | n=>n,fun | 9=>9 | 21=>21 | 3=>3 | 4=>4 | 5=>5 | 105=>151 | 119=>95 | 0=>0 | 46=>149 | 139=>194 | 138=>193 | n=>n,fun | 3=>3 | 4=>4 | n=>n⟩
theorem Tryz.lays197:Go.Proofs.Lays.n197 Tryz.prog Tryz.lays197_ren:={
  mixed:=by kernel_rfl
  f197:=Tryz.func119.trans (congrArg some (by kernel_rfl))
  f260:=Tryz.func124.trans (congrArg some (by kernel_rfl))
  t0:=Tryz.underlying0
  a0:=Tryz.isAgg0
  z0:=Tryz.sizeOf0
  v0:=Tryz.zeroValue0
  t3:=Tryz.underlying3
  a3:=Tryz.isAgg3
  z3:=Tryz.sizeOf3
  v3:=Tryz.zeroValue3
  t4:=Tryz.underlying4
  a4:=Tryz.isAgg4
  z4:=Tryz.sizeOf4
  v4:=Tryz.zeroValue4
  t5:=Tryz.underlying5
  a5:=Tryz.isAgg5
  z5:=Tryz.sizeOf5
  v5:=Tryz.zeroValue5
  t9:=Tryz.underlying9
  a9:=Tryz.isAgg9
  z9:=Tryz.sizeOf9
  v9:=Tryz.zeroValue9
  t21:=Tryz.underlying21
  a21:=Tryz.isAgg21
  z21:=Tryz.sizeOf21
  v21:=Tryz.zeroValue21
  t46:=Tryz.underlying149
  a46:=Tryz.isAgg149
  z46:=Tryz.sizeOf149
  v46:=Tryz.zeroValue149
  t105:=Tryz.underlying151
  a105:=Tryz.isAgg151
  z105:=Tryz.sizeOf151
  v105:=Tryz.zeroValue151
  t119:=Tryz.underlying95
  a119:=Tryz.isAgg95
  z119:=Tryz.sizeOf95
  t138:=Tryz.underlying193
  a138:=Tryz.isAgg193
  z138:=Tryz.sizeOf193
  v138:=Tryz.zeroValue193
  t139:=Tryz.underlying194
  a139:=Tryz.isAgg194
  z139:=Tryz.sizeOf194
  v139:=Tryz.zeroValue194
  g3:=by kernel_rfl
  g4:=by kernel_rfl }
open Go.RowKit Go.Lib in
/-- **unicode/utf8.DecodeRuneInString AT EVERY STRING.** (LAID: no walk: one application.) -/
theorem Tryz.utf8_DecodeRuneInString (s:ByteArray) (w:World) (hT:Lib.Utf8Tabs 3 4 w):
    Calls Tryz.prog 119 #[.string s] w fun e w'=>e=.returned (.tuple #[.int .i32 (Lib.decodeGo s).1,.int .i64 (Lib.decodeGo s).2])∧Below w.heap.size w w':=Any.utf8_DecodeRuneInString Tryz.lays197 s w hT
def Tryz.lays311_ren:Go.Shelf.Ren:=⟨fun | 311=>93 | n=>n,fun | 193=>137 | 49=>141 | 4=>4 | 3=>3 | 0=>0 | 226=>161 | 198=>143 | 46=>149 | n=>n,fun | n=>n⟩
theorem Tryz.lays311:Go.Proofs.Lays.n311 Tryz.prog Tryz.lays311_ren:={
  mixed:=by kernel_rfl
  f311:=Tryz.func93.trans (congrArg some (by kernel_rfl))
  t0:=Tryz.underlying0
  a0:=Tryz.isAgg0
  z0:=Tryz.sizeOf0
  v0:=Tryz.zeroValue0
  t3:=Tryz.underlying3
  a3:=Tryz.isAgg3
  z3:=Tryz.sizeOf3
  v3:=Tryz.zeroValue3
  t4:=Tryz.underlying4
  a4:=Tryz.isAgg4
  z4:=Tryz.sizeOf4
  v4:=Tryz.zeroValue4
  t46:=Tryz.underlying149
  a46:=Tryz.isAgg149
  z46:=Tryz.sizeOf149
  v46:=Tryz.zeroValue149
  t49:=Tryz.underlying141
  a49:=Tryz.isAgg141
  z49:=Tryz.sizeOf141
  v49:=Tryz.zeroValue141
  t193:=Tryz.underlying137
  a193:=Tryz.isAgg137
  z193:=Tryz.sizeOf137
  v193:=Tryz.zeroValue137
  t198:=Tryz.underlying143
  a198:=Tryz.isAgg143
  z198:=Tryz.sizeOf143
  v198:=Tryz.zeroValue143
  t226:=Tryz.underlying161
  a226:=Tryz.isAgg161
  z226:=Tryz.sizeOf161
  v226:=Tryz.zeroValue161 }
open Go.RowKit Go.Lib in
theorem Tryz.unicode_is16_white (R oR:Nat) (z:Nat) (w:World) (hz:z<65536) (hz0:255<z) (c6:w.cell? ⟨R,oR+6,none⟩=some (.int .u16 160)) (c7:w.cell? ⟨R,oR+7,none⟩=some (.int .u16 5760)) (c8:w.cell? ⟨R,oR+8,none⟩=some (.int .u16 5600)) (c9:w.cell? ⟨R,oR+9,none⟩=some (.int .u16 8192)) (c10:w.cell? ⟨R,oR+10,none⟩=some (.int .u16 8202)) (c11:w.cell? ⟨R,oR+11,none⟩=some (.int .u16 1)) (c12:w.cell? ⟨R,oR+12,none⟩=some (.int .u16 8232)) (c13:w.cell? ⟨R,oR+13,none⟩=some (.int .u16 8233)) (c14:w.cell? ⟨R,oR+14,none⟩=some (.int .u16 1)) (c15:w.cell? ⟨R,oR+15,none⟩=some (.int .u16 8239)) (c16:w.cell? ⟨R,oR+16,none⟩=some (.int .u16 8287)) (c17:w.cell? ⟨R,oR+17,none⟩=some (.int .u16 48)) (c18:w.cell? ⟨R,oR+18,none⟩=some (.int .u16 12288)) (c19:w.cell? ⟨R,oR+19,none⟩=some (.int .u16 12288)) (c20:w.cell? ⟨R,oR+20,none⟩=some (.int .u16 1)):
    Calls Tryz.prog 93 #[.slice (some ⟨R,oR+6,none⟩) 5 5,.int .u16 z] w fun e w'=>e=.returned (.bool (Lib.isSpaceR z))∧Below w.heap.size w w':=Any.unicode_is16_white Tryz.lays311 R oR z w hz hz0 c6 c7 c8 c9 c10 c11 c12 c13 c14 c15 c16 c17 c18 c19 c20
def Tryz.lays261_ren:Go.Shelf.Ren:=⟨fun | 261=>74 | 311=>93 | 312=>94 | n=>n,fun | 141=>125 | 21=>21 | 4=>4 | 0=>0 | 196=>140 | 193=>137 | 3=>3 | 51=>123 | 198=>143 | 49=>141 | 194=>138 | 201=>146 | 226=>161 | 46=>149 | 227=>162 | n=>n,fun | n=>n⟩
theorem Tryz.lays261:Go.Proofs.Lays.n261 Tryz.prog Tryz.lays261_ren:={
  mixed:=by kernel_rfl
  f261:=Tryz.func74.trans (congrArg some (by kernel_rfl))
  f311:=Tryz.func93.trans (congrArg some (by kernel_rfl))
  f312:=Tryz.func94.trans (congrArg some (by kernel_rfl))
  t0:=Tryz.underlying0
  a0:=Tryz.isAgg0
  z0:=Tryz.sizeOf0
  v0:=Tryz.zeroValue0
  t3:=Tryz.underlying3
  a3:=Tryz.isAgg3
  z3:=Tryz.sizeOf3
  v3:=Tryz.zeroValue3
  t4:=Tryz.underlying4
  a4:=Tryz.isAgg4
  z4:=Tryz.sizeOf4
  v4:=Tryz.zeroValue4
  t21:=Tryz.underlying21
  a21:=Tryz.isAgg21
  z21:=Tryz.sizeOf21
  v21:=Tryz.zeroValue21
  t46:=Tryz.underlying149
  a46:=Tryz.isAgg149
  z46:=Tryz.sizeOf149
  v46:=Tryz.zeroValue149
  t49:=Tryz.underlying141
  a49:=Tryz.isAgg141
  z49:=Tryz.sizeOf141
  v49:=Tryz.zeroValue141
  t51:=Tryz.underlying123
  a51:=Tryz.isAgg123
  z51:=Tryz.sizeOf123
  v51:=Tryz.zeroValue123
  t141:=Tryz.underlying125
  a141:=Tryz.isAgg125
  z141:=Tryz.sizeOf125
  v141:=Tryz.zeroValue125
  t193:=Tryz.underlying137
  a193:=Tryz.isAgg137
  z193:=Tryz.sizeOf137
  v193:=Tryz.zeroValue137
  t194:=Tryz.underlying138
  a194:=Tryz.isAgg138
  z194:=Tryz.sizeOf138
  v194:=Tryz.zeroValue138
  t196:=Tryz.underlying140
  a196:=Tryz.isAgg140
  z196:=Tryz.sizeOf140
  v196:=Tryz.zeroValue140
  t198:=Tryz.underlying143
  a198:=Tryz.isAgg143
  z198:=Tryz.sizeOf143
  v198:=Tryz.zeroValue143
  t201:=Tryz.underlying146
  a201:=Tryz.isAgg146
  z201:=Tryz.sizeOf146
  v201:=Tryz.zeroValue146
  t226:=Tryz.underlying161
  a226:=Tryz.isAgg161
  z226:=Tryz.sizeOf161
  v226:=Tryz.zeroValue161
  t227:=Tryz.underlying162
  a227:=Tryz.isAgg162
  z227:=Tryz.sizeOf162
  v227:=Tryz.zeroValue162 }
open Go.RowKit Go.Lib in
/-- unicode.isExcludingLatin(White_Space, r), r beyond U+00FF or negative. (LAID: no walk: one application.) -/
theorem Tryz.unicode_isExcludingLatin_white (T oT R oR:Nat) (r:Int) (w:World) (hlo:-2147483648≤r) (hhi:r≤2147483647) (hr:r<0∨255<r) (h2:w.cell? ⟨T,oT,none⟩=some (.slice (some ⟨R,oR,none⟩) 7 7)) (h3:w.cell? ⟨T,oT+1,none⟩=some (.slice none 0 0)) (h4:w.cell? ⟨T,oT+2,none⟩=some (.int .i64 2)) (h5:∀ i,i<21→w.cell? ⟨R,oR+i,none⟩=some (.int .u16 (whiteT.getD i 0))):
    Calls Tryz.prog 74 #[.pointer (some ⟨T,oT,none⟩),.int .i32 r] w fun e w'=>e=.returned (.bool (Lib.isSpaceZ r))∧Below w.heap.size w w':=Any.unicode_isExcludingLatin_white Tryz.lays261 T oT R oR r w hlo hhi hr h2 h3 h4 h5
open Go.RowKit Go.Lib in
/-- **unicode.IsSpace AT EVERY int32.** (LAID: no walk: one application.) -/
theorem Tryz.unicode_IsSpace_any (r:Int) (w:World) (hlo:-2147483648≤r) (hhi:r≤2147483647) (hW:Lib.WhiteTab 1 w):
    Calls Tryz.prog 52 #[.int .i32 r] w fun e w'=>e=.returned (.bool (Lib.isSpaceZ r))∧Below w.heap.size w w':=Any.unicode_IsSpace_any Tryz.lays199 r w hlo hhi hW
def Tryz.lays274_ren:Go.Shelf.Ren:=⟨fun | 274=>142 | n=>n,fun | 21=>21 | 162=>205 | 160=>206 | 3=>3 | 4=>4 | 46=>149 | 0=>0 | 208=>212 | 51=>123 | 206=>210 | n=>n,fun | n=>n⟩
theorem Tryz.lays274:Go.Proofs.Lays.n274 Tryz.prog Tryz.lays274_ren:={
  mixed:=by kernel_rfl
  f274:=Tryz.func142.trans (congrArg some (by kernel_rfl))
  t0:=Tryz.underlying0
  a0:=Tryz.isAgg0
  z0:=Tryz.sizeOf0
  v0:=Tryz.zeroValue0
  t3:=Tryz.underlying3
  a3:=Tryz.isAgg3
  z3:=Tryz.sizeOf3
  v3:=Tryz.zeroValue3
  t4:=Tryz.underlying4
  a4:=Tryz.isAgg4
  z4:=Tryz.sizeOf4
  v4:=Tryz.zeroValue4
  t21:=Tryz.underlying21
  a21:=Tryz.isAgg21
  z21:=Tryz.sizeOf21
  v21:=Tryz.zeroValue21
  t46:=Tryz.underlying149
  a46:=Tryz.isAgg149
  z46:=Tryz.sizeOf149
  v46:=Tryz.zeroValue149
  t51:=Tryz.underlying123
  a51:=Tryz.isAgg123
  z51:=Tryz.sizeOf123
  v51:=Tryz.zeroValue123
  t160:=Tryz.underlying206
  a160:=Tryz.isAgg206
  z160:=Tryz.sizeOf206
  v160:=Tryz.zeroValue206
  t162:=Tryz.underlying205
  a162:=Tryz.isAgg205
  z162:=Tryz.sizeOf205
  v162:=Tryz.zeroValue205
  t208:=Tryz.underlying212
  a208:=Tryz.isAgg212
  z208:=Tryz.sizeOf212
  v208:=Tryz.zeroValue212 }
open Go.RowKit Go.Lib in
theorem Tryz.unicode_lookupCaseRange (T:Array CaseRow) (R oR cap:Nat) (r:Int) (w:World) (hT:CaseTab R oR T w) (hok:CaseOk T) (hn:T.size≤1000000000):
    Calls Tryz.prog 142 #[.int .i32 r,.slice (some ⟨R,oR,none⟩) T.size cap] w fun e w'=>
      e=.returned (match lookupIdx T r (T.size+1) 0 T.size with | some i=>.pointer (some ⟨R,oR+i*5,none⟩) | none=>.pointer none)∧w'=w:=Any.unicode_lookupCaseRange Tryz.lays274 T R oR cap r w hT hok hn
def Tryz.lays275_ren:Go.Shelf.Ren:=⟨fun | 275=>143 | n=>n,fun | 3=>3 | 21=>21 | 160=>206 | 0=>0 | 208=>212 | 206=>210 | 4=>4 | 51=>123 | n=>n,fun | n=>n⟩
theorem Tryz.lays275:Go.Proofs.Lays.n275 Tryz.prog Tryz.lays275_ren:={
  mixed:=by kernel_rfl
  f275:=Tryz.func143.trans (congrArg some (by kernel_rfl))
  t0:=Tryz.underlying0
  a0:=Tryz.isAgg0
  z0:=Tryz.sizeOf0
  v0:=Tryz.zeroValue0
  t3:=Tryz.underlying3
  a3:=Tryz.isAgg3
  z3:=Tryz.sizeOf3
  v3:=Tryz.zeroValue3
  t4:=Tryz.underlying4
  a4:=Tryz.isAgg4
  z4:=Tryz.sizeOf4
  v4:=Tryz.zeroValue4
  t21:=Tryz.underlying21
  a21:=Tryz.isAgg21
  z21:=Tryz.sizeOf21
  v21:=Tryz.zeroValue21
  t51:=Tryz.underlying123
  a51:=Tryz.isAgg123
  z51:=Tryz.sizeOf123
  v51:=Tryz.zeroValue123
  t160:=Tryz.underlying206
  a160:=Tryz.isAgg206
  z160:=Tryz.sizeOf206
  v160:=Tryz.zeroValue206
  t206:=Tryz.underlying210
  a206:=Tryz.isAgg210
  z206:=Tryz.sizeOf210
  v206:=Tryz.zeroValue210
  t208:=Tryz.underlying212
  a208:=Tryz.isAgg212
  z208:=Tryz.sizeOf212
  v208:=Tryz.zeroValue212 }
open Go.RowKit Go.Lib in
theorem Tryz.unicode_convertCase (c:Nat) (hc:c<3) (r:Int) (A o:Nat) (x:CaseRow) (w:World) (hlo:(x.1:Int)≤r) (hhi:r≤(x.2.1:Int)) (hH:x.2.1<2147483647) (c0:w.cell? ⟨A,o,none⟩=some (.int .u32 x.1)) (cD:w.cell? ⟨A,o+2+c,none⟩=some (.int .i32 (x.delta c))):
    Calls Tryz.prog 143 #[.int .i64 c,.int .i32 r,.pointer (some ⟨A,o,none⟩)] w fun e w'=>e=.returned (.int .i32 (wrap32 (convertR c r x))) ∧ ∃ q,w'=w.drewN q:=Any.unicode_convertCase Tryz.lays275 c hc r A o x w hlo hhi hH c0 cD
def Tryz.lays313_ren:Go.Shelf.Ren:=⟨fun | 313=>140 | 274=>142 | 275=>143 | n=>n,fun | 3=>3 | 21=>21 | 162=>205 | 4=>4 | 160=>206 | 46=>149 | 0=>0 | 208=>212 | 51=>123 | 206=>210 | n=>n,fun | n=>n⟩
theorem Tryz.lays313:Go.Proofs.Lays.n313 Tryz.prog Tryz.lays313_ren:={
  mixed:=by kernel_rfl
  f274:=Tryz.func142.trans (congrArg some (by kernel_rfl))
  f275:=Tryz.func143.trans (congrArg some (by kernel_rfl))
  f313:=Tryz.func140.trans (congrArg some (by kernel_rfl))
  t0:=Tryz.underlying0
  a0:=Tryz.isAgg0
  z0:=Tryz.sizeOf0
  v0:=Tryz.zeroValue0
  t3:=Tryz.underlying3
  a3:=Tryz.isAgg3
  z3:=Tryz.sizeOf3
  v3:=Tryz.zeroValue3
  t4:=Tryz.underlying4
  a4:=Tryz.isAgg4
  z4:=Tryz.sizeOf4
  v4:=Tryz.zeroValue4
  t21:=Tryz.underlying21
  a21:=Tryz.isAgg21
  z21:=Tryz.sizeOf21
  v21:=Tryz.zeroValue21
  t46:=Tryz.underlying149
  a46:=Tryz.isAgg149
  z46:=Tryz.sizeOf149
  v46:=Tryz.zeroValue149
  t51:=Tryz.underlying123
  a51:=Tryz.isAgg123
  z51:=Tryz.sizeOf123
  v51:=Tryz.zeroValue123
  t160:=Tryz.underlying206
  a160:=Tryz.isAgg206
  z160:=Tryz.sizeOf206
  v160:=Tryz.zeroValue206
  t162:=Tryz.underlying205
  a162:=Tryz.isAgg205
  z162:=Tryz.sizeOf205
  v162:=Tryz.zeroValue205
  t206:=Tryz.underlying210
  a206:=Tryz.isAgg210
  z206:=Tryz.sizeOf210
  v206:=Tryz.zeroValue210
  t208:=Tryz.underlying212
  a208:=Tryz.isAgg212
  z208:=Tryz.sizeOf212
  v208:=Tryz.zeroValue212 }
open Go.RowKit Go.Lib in
theorem Tryz.unicode_to (c:Nat) (hc:c<3) (r:Int) (T:Array CaseRow) (R oR cap:Nat) (w:World) (hT:CaseTab R oR T w) (hok:CaseOk2 T) (hn:T.size≤1000000000):
    Calls Tryz.prog 140 #[.int .i64 c,.int .i32 r,.slice (some ⟨R,oR,none⟩) T.size cap] w fun e w'=>e=.returned (.tuple #[.int .i32 (toW T c r),.bool (lookupIdx T r (T.size+1) 0 T.size).isSome]) ∧ ∃ q,w'=w.drewN q:=Any.unicode_to Tryz.lays313 c hc r T R oR cap w hT hok hn
def Tryz.lays262_ren:Go.Shelf.Ren:=⟨fun | 262=>136 | 313=>140 | 274=>142 | 275=>143 | n=>n,fun | 3=>3 | 21=>21 | 162=>205 | 203=>172 | 4=>4 | 160=>206 | 46=>149 | 0=>0 | 208=>212 | 51=>123 | 206=>210 | n=>n,fun | 13=>5 | n=>n⟩
theorem Tryz.lays262:Go.Proofs.Lays.n262 Tryz.prog Tryz.lays262_ren:={
  mixed:=by kernel_rfl
  f262:=Tryz.func136.trans (congrArg some (by kernel_rfl))
  f274:=Tryz.func142.trans (congrArg some (by kernel_rfl))
  f275:=Tryz.func143.trans (congrArg some (by kernel_rfl))
  f313:=Tryz.func140.trans (congrArg some (by kernel_rfl))
  t0:=Tryz.underlying0
  a0:=Tryz.isAgg0
  z0:=Tryz.sizeOf0
  v0:=Tryz.zeroValue0
  t3:=Tryz.underlying3
  a3:=Tryz.isAgg3
  z3:=Tryz.sizeOf3
  v3:=Tryz.zeroValue3
  t4:=Tryz.underlying4
  a4:=Tryz.isAgg4
  z4:=Tryz.sizeOf4
  v4:=Tryz.zeroValue4
  t21:=Tryz.underlying21
  a21:=Tryz.isAgg21
  z21:=Tryz.sizeOf21
  v21:=Tryz.zeroValue21
  t46:=Tryz.underlying149
  a46:=Tryz.isAgg149
  z46:=Tryz.sizeOf149
  v46:=Tryz.zeroValue149
  t51:=Tryz.underlying123
  a51:=Tryz.isAgg123
  z51:=Tryz.sizeOf123
  v51:=Tryz.zeroValue123
  t160:=Tryz.underlying206
  a160:=Tryz.isAgg206
  z160:=Tryz.sizeOf206
  v160:=Tryz.zeroValue206
  t162:=Tryz.underlying205
  a162:=Tryz.isAgg205
  z162:=Tryz.sizeOf205
  v162:=Tryz.zeroValue205
  t203:=Tryz.underlying172
  a203:=Tryz.isAgg172
  z203:=Tryz.sizeOf172
  v203:=Tryz.zeroValue172
  t206:=Tryz.underlying210
  a206:=Tryz.isAgg210
  z206:=Tryz.sizeOf210
  v206:=Tryz.zeroValue210
  t208:=Tryz.underlying212
  a208:=Tryz.isAgg212
  z208:=Tryz.sizeOf212
  v208:=Tryz.zeroValue212
  g13:=by kernel_rfl }
open Go.RowKit Go.Lib in
theorem Tryz.unicode_To (c:Nat) (hc:c<3) (r:Int) (T:Array CaseRow) (w:World) (hV:CaseVar 5 T w) (hok:CaseOk2 T) (hn:T.size≤1000000000):
    Calls Tryz.prog 136 #[.int .i64 c,.int .i32 r] w fun e w'=>e=.returned (.int .i32 (toW T c r)) ∧ ∃ q,w'=w.drewN q:=Any.unicode_To Tryz.lays262 c hc r T w hV hok hn
open Go.RowKit Go.Lib in
theorem Tryz.unicode_ToLower_any (r:Int) (T:Array CaseRow) (w:World) (hV:CaseVar 5 T w) (hok:CaseOk2 T) (hn:T.size≤1000000000):
    Calls Tryz.prog 130 #[.int .i32 r] w fun e w'=>e=.returned (.int .i32 (Lib.toLowerW T r)) ∧ ∃ q,w'=w.drewN q:=Any.unicode_ToLower_any Tryz.lays204 r T w hV hok hn
open Go.RowKit Go.Lib in
theorem Tryz.unicode_ToLower_laid (r:Int) (w:World) (hV:CaseVar 5 caseA w):
    Calls Tryz.prog 130 #[.int .i32 r] w fun e w'=>e=.returned (.int .i32 (toLowerU r)) ∧ ∃ q,w'=w.drewN q:=Any.unicode_ToLower_laid Tryz.lays204 r w hV
def Tryz.lays270_ren:Go.Shelf.Ren:=⟨fun | 270=>135 | n=>n,fun | 70=>180 | 3=>3 | 0=>0 | 72=>182 | 37=>154 | 5=>5 | n=>n,fun | n=>n⟩
theorem Tryz.lays270:Go.Proofs.Lays.n270 Tryz.prog Tryz.lays270_ren:={
  mixed:=by kernel_rfl
  f270:=Tryz.func135.trans (congrArg some (by kernel_rfl))
  t0:=Tryz.underlying0
  a0:=Tryz.isAgg0
  z0:=Tryz.sizeOf0
  v0:=Tryz.zeroValue0
  t3:=Tryz.underlying3
  a3:=Tryz.isAgg3
  z3:=Tryz.sizeOf3
  v3:=Tryz.zeroValue3
  t37:=Tryz.underlying154
  a37:=Tryz.isAgg154
  z37:=Tryz.sizeOf154
  v37:=Tryz.zeroValue154
  t70:=Tryz.underlying180
  a70:=Tryz.isAgg180
  z70:=Tryz.sizeOf180
  v70:=Tryz.zeroValue180
  t72:=Tryz.underlying182
  a72:=Tryz.isAgg182
  z72:=Tryz.sizeOf182
  v72:=Tryz.zeroValue182 }
open Go.RowKit Go.Lib in
/-- (*strings.Builder).Cap: "Cap returns the capacity of the builder's underlying byte slice." (LAID: no walk: one application.) -/
theorem Tryz.Builder_Cap_cell (b:Nat) (p:Option Addr) (n cap:Nat) (w:World) (c1:w.cell? ⟨b,1,none⟩=some (.slice p n cap)):
    Calls Tryz.prog 135 #[.pointer (some ⟨b,0,none⟩)] w fun e w'=>e=.returned (.int .i64 cap)∧w'=w:=Any.Builder_Cap_cell Tryz.lays270 b p n cap w c1
def Tryz.lays230_ren:Go.Shelf.Ren:=⟨fun | 230=>129 | 197=>119 | 118=>133 | 165=>125 | 166=>126 | 168=>134 | 270=>135 | 167=>127 | 169=>128 | 260=>124 | 240=>131 | 241=>132 | 242=>139 | 276=>137 | 277=>138 | 278=>141 | n=>n,fun | 107=>191 | 9=>9 | 72=>182 | 0=>0 | 4=>4 | 3=>3 | 21=>21 | 105=>151 | 76=>186 | 5=>5 | 75=>185 | 70=>180 | 20=>20 | 37=>154 | 127=>195 | 119=>95 | 46=>149 | 139=>194 | 138=>193 | 164=>200 | 51=>123 | 80=>189 | n=>n,fun | 3=>3 | 4=>4 | n=>n⟩
theorem Tryz.lays230:Go.Proofs.Lays.n230 Tryz.prog Tryz.lays230_ren:={
  mixed:=by kernel_rfl
  f118:=Tryz.func133.trans (congrArg some (by kernel_rfl))
  f165:=Tryz.func125.trans (congrArg some (by kernel_rfl))
  f166:=Tryz.func126.trans (congrArg some (by kernel_rfl))
  f167:=Tryz.func127.trans (congrArg some (by kernel_rfl))
  f168:=Tryz.func134.trans (congrArg some (by kernel_rfl))
  f169:=Tryz.func128.trans (congrArg some (by kernel_rfl))
  f197:=Tryz.func119.trans (congrArg some (by kernel_rfl))
  f230:=Tryz.func129.trans (congrArg some (by kernel_rfl))
  f240:=Tryz.func131.trans (congrArg some (by kernel_rfl))
  f241:=Tryz.func132.trans (congrArg some (by kernel_rfl))
  f242:=Tryz.func139.trans (congrArg some (by kernel_rfl))
  f260:=Tryz.func124.trans (congrArg some (by kernel_rfl))
  f270:=Tryz.func135.trans (congrArg some (by kernel_rfl))
  f276:=Tryz.func137.trans (congrArg some (by kernel_rfl))
  f277:=Tryz.func138.trans (congrArg some (by kernel_rfl))
  f278:=Tryz.func141.trans (congrArg some (by kernel_rfl))
  t0:=Tryz.underlying0
  a0:=Tryz.isAgg0
  z0:=Tryz.sizeOf0
  v0:=Tryz.zeroValue0
  t3:=Tryz.underlying3
  a3:=Tryz.isAgg3
  z3:=Tryz.sizeOf3
  v3:=Tryz.zeroValue3
  t4:=Tryz.underlying4
  a4:=Tryz.isAgg4
  z4:=Tryz.sizeOf4
  v4:=Tryz.zeroValue4
  t5:=Tryz.underlying5
  a5:=Tryz.isAgg5
  z5:=Tryz.sizeOf5
  v5:=Tryz.zeroValue5
  t9:=Tryz.underlying9
  a9:=Tryz.isAgg9
  z9:=Tryz.sizeOf9
  v9:=Tryz.zeroValue9
  t20:=Tryz.underlying20
  a20:=Tryz.isAgg20
  z20:=Tryz.sizeOf20
  v20:=Tryz.zeroValue20
  t21:=Tryz.underlying21
  a21:=Tryz.isAgg21
  z21:=Tryz.sizeOf21
  v21:=Tryz.zeroValue21
  t37:=Tryz.underlying154
  a37:=Tryz.isAgg154
  z37:=Tryz.sizeOf154
  v37:=Tryz.zeroValue154
  t46:=Tryz.underlying149
  a46:=Tryz.isAgg149
  z46:=Tryz.sizeOf149
  v46:=Tryz.zeroValue149
  t51:=Tryz.underlying123
  a51:=Tryz.isAgg123
  z51:=Tryz.sizeOf123
  v51:=Tryz.zeroValue123
  t70:=Tryz.underlying180
  a70:=Tryz.isAgg180
  z70:=Tryz.sizeOf180
  v70:=Tryz.zeroValue180
  t72:=Tryz.underlying182
  a72:=Tryz.isAgg182
  z72:=Tryz.sizeOf182
  v72:=Tryz.zeroValue182
  t75:=Tryz.underlying185
  a75:=Tryz.isAgg185
  z75:=Tryz.sizeOf185
  v75:=Tryz.zeroValue185
  t76:=Tryz.underlying186
  a76:=Tryz.isAgg186
  z76:=Tryz.sizeOf186
  v76:=Tryz.zeroValue186
  t105:=Tryz.underlying151
  a105:=Tryz.isAgg151
  z105:=Tryz.sizeOf151
  v105:=Tryz.zeroValue151
  t107:=Tryz.underlying191
  a107:=Tryz.isAgg191
  z107:=Tryz.sizeOf191
  v107:=Tryz.zeroValue191
  t119:=Tryz.underlying95
  a119:=Tryz.isAgg95
  z119:=Tryz.sizeOf95
  t127:=Tryz.underlying195
  a127:=Tryz.isAgg195
  z127:=Tryz.sizeOf195
  v127:=Tryz.zeroValue195
  t138:=Tryz.underlying193
  a138:=Tryz.isAgg193
  z138:=Tryz.sizeOf193
  v138:=Tryz.zeroValue193
  t139:=Tryz.underlying194
  a139:=Tryz.isAgg194
  z139:=Tryz.sizeOf194
  v139:=Tryz.zeroValue194
  t164:=Tryz.underlying200
  a164:=Tryz.isAgg200
  z164:=Tryz.sizeOf200
  v164:=Tryz.zeroValue200
  g3:=by kernel_rfl
  g4:=by kernel_rfl }
theorem Tryz.Builder_Extra_230:Builder.Extra Tryz.prog Tryz.lays230_ren:={
  sizeBuilder:=by kernel_rfl
  liesBuilder:=by kernel_rfl
  t5:=Tryz.underlying5
  a5:=Tryz.isAgg5
  z5:=Tryz.sizeOf5
  v5:=Tryz.zeroValue5
  infoByte:=by kernel_rfl
  cellsByte:=by kernel_rfl
  sizeByte:=by kernel_rfl
  neB5:=by decide }
open Go.RowKit Go.Lib in
theorem Tryz.strings_Map_runes (g:Nat) (lb:Array Value) (eg:∀ args w,(callFunc g args).run Tryz.prog w=.ok (.enter g args) w) (f:Int→Int) (s:ByteArray) (w:World) (hs:s.size<35184372088832) (hf:MapAtRunes Tryz.prog g lb f w) (hnn:∀ x:Nat,x≤1114111→0≤f x∧f x≤2147483647) (hT:Lib.Utf8Tabs 3 4 w):
    Calls Tryz.prog 129 #[.func (.func g) #[] lb,.string s] w fun e w'=>e=.returned (.string ⟨(Lib.mapD f s.data.toList).toArray⟩)∧Below w.heap.size w w':=Any.strings_Map_runes Tryz.lays230 Tryz.Builder_Extra_230 g lb eg f s w hs hf hnn hT
open Go.RowKit Go.Lib in
theorem Tryz.strings_ToLower_beyond (s:ByteArray) (w:World) (hs:s.size<35184372088832) (hhigh:∃ (j:Nat) (b:UInt8),s.data.toList[j]? = some b∧128≤b.toNat) (hV:CaseVar 5 caseA w) (hT:Lib.Utf8Tabs 3 4 w):
    Calls Tryz.prog 122 #[.string s] w fun e w'=>e=.returned (.string ⟨(Lib.toLowerD s.data.toList).toArray⟩)∧Below w.heap.size w w':=Any.strings_ToLower_beyond Tryz.lays159 Tryz.Builder_Extra_159 s w hs hhigh hV hT
open Go.RowKit Go.Lib in
/-- **strings.ToLower AT EVERY STRING, VALID UTF-8 OR NOT.** (LAID: no walk: one application.) -/
theorem Tryz.strings_ToLower_any (s:ByteArray) (w:World) (hs:s.size<35184372088832) (hV:CaseVar 5 caseA w) (hT:Lib.Utf8Tabs 3 4 w):
    Calls Tryz.prog 122 #[.string s] w fun e w'=>e=.returned (.string ⟨(Lib.toLowerD s.data.toList).toArray⟩)∧Below w.heap.size w w':=Any.strings_ToLower_any Tryz.lays159 Tryz.Builder_Extra_159 s w hs hV hT
open Go.RowKit Go.Lib in
theorem Tryz.unicode_is16_any (T:Array Rg) (R oR cap:Nat) (z:Nat) (w:World) (hz:z<65536) (hT:RgTab .u16 R oR T w) (hok:RgOk 65536 T) (hn:T.size≤1000000000):
    Calls Tryz.prog 93 #[.slice (some ⟨R,oR,none⟩) T.size cap,.int .u16 z] w fun e w'=>e=.returned (.bool (is16Go T z)) ∧ ∃ q,w'=w.drewN q:=Any.unicode_is16_any Tryz.lays311 T R oR cap z w hz hT hok hn
def Tryz.lays312_ren:Go.Shelf.Ren:=⟨fun | 312=>94 | n=>n,fun | 194=>138 | 51=>123 | 4=>4 | 3=>3 | 0=>0 | 227=>162 | 201=>146 | 46=>149 | n=>n,fun | n=>n⟩
theorem Tryz.lays312:Go.Proofs.Lays.n312 Tryz.prog Tryz.lays312_ren:={
  mixed:=by kernel_rfl
  f312:=Tryz.func94.trans (congrArg some (by kernel_rfl))
  t0:=Tryz.underlying0
  a0:=Tryz.isAgg0
  z0:=Tryz.sizeOf0
  v0:=Tryz.zeroValue0
  t3:=Tryz.underlying3
  a3:=Tryz.isAgg3
  z3:=Tryz.sizeOf3
  v3:=Tryz.zeroValue3
  t4:=Tryz.underlying4
  a4:=Tryz.isAgg4
  z4:=Tryz.sizeOf4
  v4:=Tryz.zeroValue4
  t46:=Tryz.underlying149
  a46:=Tryz.isAgg149
  z46:=Tryz.sizeOf149
  v46:=Tryz.zeroValue149
  t51:=Tryz.underlying123
  a51:=Tryz.isAgg123
  z51:=Tryz.sizeOf123
  v51:=Tryz.zeroValue123
  t194:=Tryz.underlying138
  a194:=Tryz.isAgg138
  z194:=Tryz.sizeOf138
  v194:=Tryz.zeroValue138
  t201:=Tryz.underlying146
  a201:=Tryz.isAgg146
  z201:=Tryz.sizeOf146
  v201:=Tryz.zeroValue146
  t227:=Tryz.underlying162
  a227:=Tryz.isAgg162
  z227:=Tryz.sizeOf162
  v227:=Tryz.zeroValue162 }
open Go.RowKit Go.Lib in
theorem Tryz.unicode_is32_any (T:Array Rg) (R oR cap:Nat) (z:Nat) (w:World) (hz:z<4294967296) (hT:RgTab .u32 R oR T w) (hok:RgOk 4294967296 T) (hn:T.size≤1000000000):
    Calls Tryz.prog 94 #[.slice (some ⟨R,oR,none⟩) T.size cap,.int .u32 z] w fun e w'=>e=.returned (.bool (is32Go T z))∧Below w.heap.size w w':=Any.unicode_is32_any Tryz.lays312 T R oR cap z w hz hT hok hn
open Go.RowKit Go.Lib in
theorem Tryz.unicode_isExcludingLatin_any (Tb oT:Nat) (T:RTab) (r:Int) (w:World) (hlo:-2147483648≤r) (hhi:r≤2147483647) (hA:RTabAt Tb oT T w) (hok:RTabOk T):
    Calls Tryz.prog 74 #[.pointer (some ⟨Tb,oT,none⟩),.int .i32 r] w fun e w'=>e=.returned (.bool (exclGo T r))∧Below w.heap.size w w':=Any.unicode_isExcludingLatin_any Tryz.lays261 Tb oT T r w hlo hhi hA hok
end Go.Proofs
