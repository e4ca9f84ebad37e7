/-
  DERIVED: THE SHELF's CONTRACTS AT THIS DUMP, IN PLAIN WORDS (tools/lay-plain.mjs out of 'TryzShelf.lean', which tools/lay-shelf.mjs wrote): THE SAME DECLARATIONS UNDER THE SAME NAMES: 'import', 'namespace', 'open', 'def', 'theorem' AND NOTHING ELSE: no command of the shelf's: FOR A HAND-IN. Each laying: the table of numbers ('.._ren') and one theorem, a field a fact of the dump's own or the kernel's comparison; each contract: ONE APPLICATION.
-/
import Derived.Shelf.Strings.Builder1
import Derived.Shelf.Strings.Builder2
import Derived.Shelf.Strings.OnBuilder
import Derived.Shelf.Small.Utf8
import Derived.Shelf.Small.Strs
import Derived.Shelf.Strings.BuilderF
import Derived.Shelf.Strings.BuilderK
import Derived.Shelf.Strings.BuilderRune
import Derived.Shelf.Strings.Search1
import Derived.Shelf.Strings.Search2
import Derived.Shelf.Strings.Search3
import Derived.Shelf.Strings.Count
import Derived.Shelf.LaysM
import Derived.Shelf.Strings.Shaped
import Derived.Shelf.Strings.Split
import Derived.Shelf.Strings.SplitShaped
import Derived.Shelf.Unicode.Latin
import Derived.Shelf.Unicode.Decode
import Derived.Shelf.Strings.RuneCount
import Derived.Shelf.Strings.Explode
import Derived.Shelf.Unicode.DecodeSlow
import Derived.Shelf.Unicode.DecodeAny
import Derived.Shelf.Unicode.CaseLookup
import Derived.Shelf.Unicode.CaseConvert
import Derived.Shelf.Unicode.CaseTo
import Derived.Shelf.Unicode.CaseLaid
import Derived.Shelf.Strings.MapAny
import Derived.Shelf.Strings.CaseAny
import Derived.Shelf.Slices.Equal
import Derived.Shelf.Slices.Empties2
import Derived.Test.YtlmcfhokfiibkaaGreatDoorProg
namespace Go.Proofs
open Go.Shelf
def Tryz.lays169_ren:Go.Shelf.Ren:=⟨fun | 169=>120 | n=>n,fun | 70=>158 | 9=>9 | 0=>0 | 72=>160 | 37=>70 | 127=>170 | 3=>3 | 5=>5 | n=>n,fun | n=>n⟩
theorem Tryz.lays169:Go.Proofs.Lays.n169 Tryz.prog Tryz.lays169_ren:={
  mixed:=by kernel_rfl
  f169:=Tryz.func120.trans (congrArg some (by kernel_rfl))
  t0:=Tryz.underlying0
  a0:=Tryz.isAgg0
  z0:=Tryz.sizeOf0
  v0:=Tryz.zeroValue0
  t3:=Tryz.underlying3
  a3:=Tryz.isAgg3
  z3:=Tryz.sizeOf3
  v3:=Tryz.zeroValue3
  t9:=Tryz.underlying9
  a9:=Tryz.isAgg9
  z9:=Tryz.sizeOf9
  v9:=Tryz.zeroValue9
  t37:=Tryz.underlying70
  a37:=Tryz.isAgg70
  z37:=Tryz.sizeOf70
  v37:=Tryz.zeroValue70
  t70:=Tryz.underlying158
  a70:=Tryz.isAgg158
  z70:=Tryz.sizeOf158
  v70:=Tryz.zeroValue158
  t72:=Tryz.underlying160
  a72:=Tryz.isAgg160
  z72:=Tryz.sizeOf160
  v72:=Tryz.zeroValue160
  t127:=Tryz.underlying170
  a127:=Tryz.isAgg170
  z127:=Tryz.sizeOf170
  v127:=Tryz.zeroValue170 }
theorem Tryz.Builder_Extra_169:Builder.Extra Tryz.prog Tryz.lays169_ren:={
  sizeBuilder:=by kernel_rfl
  liesBuilder:=by kernel_rfl
  t5:=Tryz.underlying5
  a5:=Tryz.isAgg5
  z5:=Tryz.sizeOf5
  v5:=Tryz.zeroValue5
  infoByte:=by kernel_rfl
  cellsByte:=by kernel_rfl
  sizeByte:=by kernel_rfl
  neB5:=by decide }
open Go.RowKit in
/-- (*strings.Builder).String: "String returns the accumulated string.": OF A BUILDER THAT HOLDS AT LEAST ONE BYTE. ✋ THE MODEL FREEZES THOSE BYTES IN THE BUFFER (unsafe.String): a later write INTO them ends the model's run without an answer; a later append BEHIND them goes on. The statement's order of evaluation is drawn: one draw. (LAID: no walk: one application.) -/
theorem Tryz.Builder_String (B b:Nat) (l:List UInt8) (w:World) (h:Lib.IsBuilder 160 5 B b (Lib.byteCells l) w) (h0:l≠[]):
    Calls Tryz.prog 120 #[.pointer (some ⟨b,0,none⟩)] w fun e w'=>e=.returned (.string ⟨l.toArray⟩)∧Below B w w':=Any.Builder_String Tryz.lays169 Tryz.Builder_Extra_169 B b l w h h0
open Go.RowKit in
/-- (*strings.Builder).String OF A BUILDER THAT HOLDS NO BYTE: the empty string. (Its buffer is nil, or a row of which it has taken nothing yet; where that row has NO capacity the model lays one new block for unsafe.SliceData's 'some address'.) One draw. (LAID: no walk: one application.) -/
theorem Tryz.Builder_String_empty (B b:Nat) (w:World) (h:Lib.IsBuilder 160 5 B b [] w) (hBw:B≤w.heap.size):
    Calls Tryz.prog 120 #[.pointer (some ⟨b,0,none⟩)] w fun e w'=>e=.returned (.string ⟨#[]⟩)∧Below B w w':=Any.Builder_String_empty Tryz.lays169 Tryz.Builder_Extra_169 B b w h hBw
open Go.RowKit in
/-- (*strings.Builder).String: "String returns the accumulated string.": WHATEVER THE BUILDER HOLDS. (LAID: no walk: one application.) -/
theorem Tryz.Builder_String_any (B b:Nat) (l:List UInt8) (w:World) (h:Lib.IsBuilder 160 5 B b (Lib.byteCells l) w) (hBw:B≤w.heap.size):
    Calls Tryz.prog 120 #[.pointer (some ⟨b,0,none⟩)] w fun e w'=>e=.returned (.string ⟨l.toArray⟩)∧Below B w w':=Any.Builder_String_any Tryz.lays169 Tryz.Builder_Extra_169 B b l w h hBw
def Tryz.lays241_ren:Go.Shelf.Ren:=⟨fun | 241=>124 | 277=>130 | n=>n,fun | 70=>158 | 3=>3 | 0=>0 | 72=>160 | 37=>70 | 5=>5 | n=>n,fun | n=>n⟩
theorem Tryz.lays241:Go.Proofs.Lays.n241 Tryz.prog Tryz.lays241_ren:={
  mixed:=by kernel_rfl
  f241:=Tryz.func124.trans (congrArg some (by kernel_rfl))
  f277:=Tryz.func130.trans (congrArg some (by kernel_rfl))
  t0:=Tryz.underlying0
  a0:=Tryz.isAgg0
  z0:=Tryz.sizeOf0
  v0:=Tryz.zeroValue0
  t3:=Tryz.underlying3
  a3:=Tryz.isAgg3
  z3:=Tryz.sizeOf3
  v3:=Tryz.zeroValue3
  t37:=Tryz.underlying70
  a37:=Tryz.isAgg70
  z37:=Tryz.sizeOf70
  v37:=Tryz.zeroValue70
  t70:=Tryz.underlying158
  a70:=Tryz.isAgg158
  z70:=Tryz.sizeOf158
  v70:=Tryz.zeroValue158
  t72:=Tryz.underlying160
  a72:=Tryz.isAgg160
  z72:=Tryz.sizeOf160
  v72:=Tryz.zeroValue160 }
theorem Tryz.Builder_Extra_241:Builder.Extra Tryz.prog Tryz.lays241_ren:={
  sizeBuilder:=by kernel_rfl
  liesBuilder:=by kernel_rfl
  t5:=Tryz.underlying5
  a5:=Tryz.isAgg5
  z5:=Tryz.sizeOf5
  v5:=Tryz.zeroValue5
  infoByte:=by kernel_rfl
  cellsByte:=by kernel_rfl
  sizeByte:=by kernel_rfl
  neB5:=by decide }
open Go.RowKit in
/-- (*strings.Builder).grow (no doc but "grow copies the buffer to a new, larger buffer so that there are at least n bytes of capacity beyond len(b.buf)."): AT A BUILDER WITHOUT A BUFFER: a new row of whatever bytes for its buffer, none of them its own yet. Three draws. (LAID: no walk: one application.) -/
theorem Tryz.Builder_grow_fresh (B b n:Nat) (w:World) (hB:B≤b) (hbk:w.heap[b]? = some (.cells #[.pointer (some ⟨b,0,none⟩),.slice none 0 0] 160 (0,0))) (hBw:B≤w.heap.size) (hn:n≤281474976710656):
    Calls Tryz.prog 124 #[.pointer (some ⟨b,0,none⟩),.int .i64 n] w fun e w'=>e=.returned (.tuple #[])∧(Lib.BuilderAt 160 5 B b (.pointer (some ⟨b,0,none⟩)) [] w'∧Below B w w'):=Any.Builder_grow_fresh Tryz.lays241 Tryz.Builder_Extra_241 B b n w hB hbk hBw hn
def Tryz.lays165_ren:Go.Shelf.Ren:=⟨fun | 165=>117 | 240=>123 | 241=>124 | 276=>129 | 277=>130 | n=>n,fun | 70=>158 | 3=>3 | 0=>0 | 4=>4 | 9=>9 | 20=>20 | 72=>160 | 37=>70 | 164=>175 | 5=>5 | n=>n,fun | n=>n⟩
theorem Tryz.lays165:Go.Proofs.Lays.n165 Tryz.prog Tryz.lays165_ren:={
  mixed:=by kernel_rfl
  f165:=Tryz.func117.trans (congrArg some (by kernel_rfl))
  f240:=Tryz.func123.trans (congrArg some (by kernel_rfl))
  f241:=Tryz.func124.trans (congrArg some (by kernel_rfl))
  f276:=Tryz.func129.trans (congrArg some (by kernel_rfl))
  f277:=Tryz.func130.trans (congrArg some (by kernel_rfl))
  t0:=Tryz.underlying0
  a0:=Tryz.isAgg0
  z0:=Tryz.sizeOf0
  v0:=Tryz.zeroValue0
  t3:=Tryz.underlying3
  a3:=Tryz.isAgg3
  z3:=Tryz.sizeOf3
  v3:=Tryz.zeroValue3
  t4:=Tryz.underlying4
  a4:=Tryz.isAgg4
  z4:=Tryz.sizeOf4
  v4:=Tryz.zeroValue4
  t9:=Tryz.underlying9
  a9:=Tryz.isAgg9
  z9:=Tryz.sizeOf9
  v9:=Tryz.zeroValue9
  t20:=Tryz.underlying20
  a20:=Tryz.isAgg20
  z20:=Tryz.sizeOf20
  v20:=Tryz.zeroValue20
  t37:=Tryz.underlying70
  a37:=Tryz.isAgg70
  z37:=Tryz.sizeOf70
  v37:=Tryz.zeroValue70
  t70:=Tryz.underlying158
  a70:=Tryz.isAgg158
  z70:=Tryz.sizeOf158
  v70:=Tryz.zeroValue158
  t72:=Tryz.underlying160
  a72:=Tryz.isAgg160
  z72:=Tryz.sizeOf160
  v72:=Tryz.zeroValue160
  t164:=Tryz.underlying175
  a164:=Tryz.isAgg175
  z164:=Tryz.sizeOf175
  v164:=Tryz.zeroValue175 }
theorem Tryz.Builder_Extra_165:Builder.Extra Tryz.prog Tryz.lays165_ren:={
  sizeBuilder:=by kernel_rfl
  liesBuilder:=by kernel_rfl
  t5:=Tryz.underlying5
  a5:=Tryz.isAgg5
  z5:=Tryz.sizeOf5
  v5:=Tryz.zeroValue5
  infoByte:=by kernel_rfl
  cellsByte:=by kernel_rfl
  sizeByte:=by kernel_rfl
  neB5:=by decide }
open Go.RowKit in
/-- (*strings.Builder).Grow AT A BUILDER THAT HAS NOT BEEN WRITTEN ('var b strings.Builder; b.Grow(n)'): "Grow grows b's capacity, if necessary, to guarantee space for another n bytes.": it holds no byte behind it as before it. (LAID: no walk: one application.) -/
theorem Tryz.Builder_Grow_fresh (B b n:Nat) (w:World) (hB:B≤b) (hbk:w.heap[b]? = some (.cells #[.pointer none,.slice none 0 0] 160 (0,0))) (hBw:B≤w.heap.size) (hn:n≤281474976710656):
    Calls Tryz.prog 117 #[.pointer (some ⟨b,0,none⟩),.int .i64 n] w fun e w'=>e=.returned (.tuple #[])∧(Lib.BuilderAt 160 5 B b (.pointer (some ⟨b,0,none⟩)) [] w'∧Below B w w'):=Any.Builder_Grow_fresh Tryz.lays165 Tryz.Builder_Extra_165 B b n w hB hbk hBw hn
def Tryz.lays159_ren:Go.Shelf.Ren:=⟨fun | 159=>115 | 165=>117 | 166=>118 | 167=>119 | 169=>120 | 230=>121 | 204=>122 | 240=>123 | 241=>124 | 197=>94 | 118=>125 | 168=>126 | 270=>127 | 262=>128 | 276=>129 | 277=>130 | 260=>106 | 242=>131 | 313=>132 | 278=>133 | 274=>134 | 275=>135 | n=>n,fun | 9=>9 | 4=>4 | 3=>3 | 5=>5 | 72=>160 | 0=>0 | 76=>164 | 75=>163 | 107=>169 | 70=>158 | 20=>20 | 37=>70 | 127=>170 | 21=>21 | 105=>130 | 164=>175 | 162=>180 | 203=>147 | 119=>150 | 46=>36 | 139=>153 | 138=>152 | 51=>154 | 160=>181 | 208=>187 | 206=>185 | 80=>167 | n=>n,fun | 13=>3 | 3=>1 | 4=>2 | n=>n⟩
theorem Tryz.lays159:Go.Proofs.Lays.n159 Tryz.prog Tryz.lays159_ren:={
  mixed:=by kernel_rfl
  f118:=Tryz.func125.trans (congrArg some (by kernel_rfl))
  f159:=Tryz.func115.trans (congrArg some (by kernel_rfl))
  f165:=Tryz.func117.trans (congrArg some (by kernel_rfl))
  f166:=Tryz.func118.trans (congrArg some (by kernel_rfl))
  f167:=Tryz.func119.trans (congrArg some (by kernel_rfl))
  f168:=Tryz.func126.trans (congrArg some (by kernel_rfl))
  f169:=Tryz.func120.trans (congrArg some (by kernel_rfl))
  f197:=Tryz.func94.trans (congrArg some (by kernel_rfl))
  f204:=Tryz.func122.trans (congrArg some (by kernel_rfl))
  f230:=Tryz.func121.trans (congrArg some (by kernel_rfl))
  f240:=Tryz.func123.trans (congrArg some (by kernel_rfl))
  f241:=Tryz.func124.trans (congrArg some (by kernel_rfl))
  f242:=Tryz.func131.trans (congrArg some (by kernel_rfl))
  f260:=Tryz.func106.trans (congrArg some (by kernel_rfl))
  f262:=Tryz.func128.trans (congrArg some (by kernel_rfl))
  f270:=Tryz.func127.trans (congrArg some (by kernel_rfl))
  f274:=Tryz.func134.trans (congrArg some (by kernel_rfl))
  f275:=Tryz.func135.trans (congrArg some (by kernel_rfl))
  f276:=Tryz.func129.trans (congrArg some (by kernel_rfl))
  f277:=Tryz.func130.trans (congrArg some (by kernel_rfl))
  f278:=Tryz.func133.trans (congrArg some (by kernel_rfl))
  f313:=Tryz.func132.trans (congrArg some (by kernel_rfl))
  t0:=Tryz.underlying0
  a0:=Tryz.isAgg0
  z0:=Tryz.sizeOf0
  v0:=Tryz.zeroValue0
  t3:=Tryz.underlying3
  a3:=Tryz.isAgg3
  z3:=Tryz.sizeOf3
  v3:=Tryz.zeroValue3
  t4:=Tryz.underlying4
  a4:=Tryz.isAgg4
  z4:=Tryz.sizeOf4
  v4:=Tryz.zeroValue4
  t5:=Tryz.underlying5
  a5:=Tryz.isAgg5
  z5:=Tryz.sizeOf5
  v5:=Tryz.zeroValue5
  t9:=Tryz.underlying9
  a9:=Tryz.isAgg9
  z9:=Tryz.sizeOf9
  v9:=Tryz.zeroValue9
  t20:=Tryz.underlying20
  a20:=Tryz.isAgg20
  z20:=Tryz.sizeOf20
  v20:=Tryz.zeroValue20
  t21:=Tryz.underlying21
  a21:=Tryz.isAgg21
  z21:=Tryz.sizeOf21
  v21:=Tryz.zeroValue21
  t37:=Tryz.underlying70
  a37:=Tryz.isAgg70
  z37:=Tryz.sizeOf70
  v37:=Tryz.zeroValue70
  t46:=Tryz.underlying36
  a46:=Tryz.isAgg36
  z46:=Tryz.sizeOf36
  v46:=Tryz.zeroValue36
  t51:=Tryz.underlying154
  a51:=Tryz.isAgg154
  z51:=Tryz.sizeOf154
  v51:=Tryz.zeroValue154
  t70:=Tryz.underlying158
  a70:=Tryz.isAgg158
  z70:=Tryz.sizeOf158
  v70:=Tryz.zeroValue158
  t72:=Tryz.underlying160
  a72:=Tryz.isAgg160
  z72:=Tryz.sizeOf160
  v72:=Tryz.zeroValue160
  t75:=Tryz.underlying163
  a75:=Tryz.isAgg163
  z75:=Tryz.sizeOf163
  v75:=Tryz.zeroValue163
  t76:=Tryz.underlying164
  a76:=Tryz.isAgg164
  z76:=Tryz.sizeOf164
  v76:=Tryz.zeroValue164
  t105:=Tryz.underlying130
  a105:=Tryz.isAgg130
  z105:=Tryz.sizeOf130
  v105:=Tryz.zeroValue130
  t107:=Tryz.underlying169
  a107:=Tryz.isAgg169
  z107:=Tryz.sizeOf169
  v107:=Tryz.zeroValue169
  t119:=Tryz.underlying150
  a119:=Tryz.isAgg150
  z119:=Tryz.sizeOf150
  t127:=Tryz.underlying170
  a127:=Tryz.isAgg170
  z127:=Tryz.sizeOf170
  v127:=Tryz.zeroValue170
  t138:=Tryz.underlying152
  a138:=Tryz.isAgg152
  z138:=Tryz.sizeOf152
  v138:=Tryz.zeroValue152
  t139:=Tryz.underlying153
  a139:=Tryz.isAgg153
  z139:=Tryz.sizeOf153
  v139:=Tryz.zeroValue153
  t160:=Tryz.underlying181
  a160:=Tryz.isAgg181
  z160:=Tryz.sizeOf181
  v160:=Tryz.zeroValue181
  t162:=Tryz.underlying180
  a162:=Tryz.isAgg180
  z162:=Tryz.sizeOf180
  v162:=Tryz.zeroValue180
  t164:=Tryz.underlying175
  a164:=Tryz.isAgg175
  z164:=Tryz.sizeOf175
  v164:=Tryz.zeroValue175
  t203:=Tryz.underlying147
  a203:=Tryz.isAgg147
  z203:=Tryz.sizeOf147
  v203:=Tryz.zeroValue147
  t206:=Tryz.underlying185
  a206:=Tryz.isAgg185
  z206:=Tryz.sizeOf185
  v206:=Tryz.zeroValue185
  t208:=Tryz.underlying187
  a208:=Tryz.isAgg187
  z208:=Tryz.sizeOf187
  v208:=Tryz.zeroValue187
  g3:=by kernel_rfl
  g4:=by kernel_rfl
  g13:=by kernel_rfl }
theorem Tryz.Builder_Extra_159:Builder.Extra Tryz.prog Tryz.lays159_ren:={
  sizeBuilder:=by kernel_rfl
  liesBuilder:=by kernel_rfl
  t5:=Tryz.underlying5
  a5:=Tryz.isAgg5
  z5:=Tryz.sizeOf5
  v5:=Tryz.zeroValue5
  infoByte:=by kernel_rfl
  cellsByte:=by kernel_rfl
  sizeByte:=by kernel_rfl
  neB5:=by decide }
open Go.RowKit in
/-- strings.ToLower: "ToLower returns s with all Unicode letters mapped to their lower case.": ON ASCII TEXT OF AT MOST 2^47 BYTES. Below the heap's end the world is as it was: where a letter turns, the call makes a builder and its buffer. (LAID: no walk: one application.) -/
theorem Tryz.strings_ToLower_ascii (s:ByteArray) (w:World) (hs:s.size≤140737488355328) (hascii:∀ (j:Nat) (b:UInt8),s.data.toList[j]? = some b→b.toNat<128):
    Calls Tryz.prog 115 #[.string s] w fun e w'=>e=.returned (.string ⟨(Lib.toLowerA s.data.toList).toArray⟩)∧Below w.heap.size w w':=Any.strings_ToLower_ascii Tryz.lays159 Tryz.Builder_Extra_159 s w hs hascii
def Tryz.lays118_ren:Go.Shelf.Ren:=⟨fun | 118=>125 | n=>n,fun | 21=>21 | 3=>3 | 4=>4 | n=>n,fun | n=>n⟩
theorem Tryz.lays118:Go.Proofs.Lays.n118 Tryz.prog Tryz.lays118_ren:={
  mixed:=by kernel_rfl
  f118:=Tryz.func125.trans (congrArg some (by kernel_rfl))
  t3:=Tryz.underlying3
  a3:=Tryz.isAgg3
  z3:=Tryz.sizeOf3
  v3:=Tryz.zeroValue3
  t4:=Tryz.underlying4
  a4:=Tryz.isAgg4
  z4:=Tryz.sizeOf4
  v4:=Tryz.zeroValue4
  t21:=Tryz.underlying21
  a21:=Tryz.isAgg21
  z21:=Tryz.sizeOf21
  v21:=Tryz.zeroValue21 }
/-- utf8.RuneLen: "RuneLen returns the number of bytes in the UTF-8 encoding of the rune. It returns -1 if the rune is not a valid value to encode in UTF-8.": IT RETURNS 'Lib.runeLen r'; the world is as it was. (LAID: no walk: one application.) -/
theorem Tryz.utf8_RuneLen (r:Int) (w:World):
    Calls Tryz.prog 125 #[.int .i32 r] w fun e w'=>e=.returned (.int .i64 (Lib.runeLen r))∧w'=w:=Any.utf8_RuneLen Tryz.lays118 r w
def Tryz.lays137_ren:Go.Shelf.Ren:=⟨fun | 137=>62 | 217=>83 | 266=>98 | n=>n,fun | 9=>9 | 5=>5 | 3=>3 | n=>n,fun | n=>n⟩
theorem Tryz.lays137:Go.Proofs.Lays.n137 Tryz.prog Tryz.lays137_ren:={
  mixed:=by kernel_rfl
  f137:=Tryz.func62.trans (congrArg some (by kernel_rfl))
  f217:=Tryz.func83.trans (congrArg some (by kernel_rfl))
  f266:=Tryz.func98.trans (congrArg some (by kernel_rfl))
  t3:=Tryz.underlying3
  a3:=Tryz.isAgg3
  z3:=Tryz.sizeOf3
  v3:=Tryz.zeroValue3
  t5:=Tryz.underlying5
  a5:=Tryz.isAgg5
  z5:=Tryz.sizeOf5
  v5:=Tryz.zeroValue5
  t9:=Tryz.underlying9
  a9:=Tryz.isAgg9
  z9:=Tryz.sizeOf9
  v9:=Tryz.zeroValue9 }
open Go.RowKit in
/-- strings.IndexByte: "IndexByte returns the index of the first instance of c in s, or -1 if c is not present in s.": IT RETURNS 'Lib.indexByte s c'; the world is as it was. (LAID: no walk: one application.) -/
theorem Tryz.strings_IndexByte (s:ByteArray) (c:Int) (w:World):
    Calls Tryz.prog 62 #[.string s,.int .u8 c] w fun e w'=>e=.returned (.int .i64 (Lib.indexByte s.data.toList c.toNat.toUInt8))∧w'=w:=Any.strings_IndexByte Tryz.lays137 s c w
open Go.RowKit in
/-- (*strings.Builder).String: "String returns the accumulated string.": OF A BUILDER THAT HOLDS AT LEAST ONE BYTE. ✋ THE MODEL FREEZES THOSE BYTES IN THE BUFFER (unsafe.String): a later write INTO them ends the model's run without an answer; a later append BEHIND them goes on. The statement's order of evaluation is drawn: one draw. THE FORM '_f': IT SAYS BESIDES THAT THE BUILDER IS A BUILDER STILL ('Lib.IsBuilderF', the same bytes): SO IT CAN BE WRITTEN ON: 'b.WriteString(b.String()[:k])'. (LAID: no walk: one application.) -/
theorem Tryz.Builder_String_f (B b:Nat) (l:List UInt8) (w:World) (h:Lib.IsBuilderF 160 5 B b (Lib.byteCells l) w) (h0:l≠[]):
    Calls Tryz.prog 120 #[.pointer (some ⟨b,0,none⟩)] w fun e w'=>e=.returned (.string ⟨l.toArray⟩)∧(Lib.IsBuilderF 160 5 B b (Lib.byteCells l) w'∧Below B w w'):=Any.Builder_String_f Tryz.lays169 Tryz.Builder_Extra_169 B b l w h h0
open Go.RowKit in
/-- (*strings.Builder).String OF A BUILDER THAT HOLDS NO BYTE: the empty string; THE FORM '_f': a builder still. (LAID: no walk: one application.) -/
theorem Tryz.Builder_String_empty_f (B b:Nat) (w:World) (h:Lib.IsBuilderF 160 5 B b [] w) (hBw:B≤w.heap.size):
    Calls Tryz.prog 120 #[.pointer (some ⟨b,0,none⟩)] w fun e w'=>e=.returned (.string ⟨#[]⟩)∧(Lib.IsBuilderF 160 5 B b [] w'∧Below B w w'):=Any.Builder_String_empty_f Tryz.lays169 Tryz.Builder_Extra_169 B b w h hBw
open Go.RowKit in
/-- (*strings.Builder).String: "String returns the accumulated string.": WHATEVER THE BUILDER HOLDS; THE FORM '_f': OF A BUILDER THAT MAY HAVE BEEN READ BEFORE; AND IT IS A BUILDER STILL, holding the same bytes: it can be written on. (LAID: no walk: one application.) -/
theorem Tryz.Builder_String_any_f (B b:Nat) (l:List UInt8) (w:World) (h:Lib.IsBuilderF 160 5 B b (Lib.byteCells l) w) (hBw:B≤w.heap.size):
    Calls Tryz.prog 120 #[.pointer (some ⟨b,0,none⟩)] w fun e w'=>e=.returned (.string ⟨l.toArray⟩)∧(Lib.IsBuilderF 160 5 B b (Lib.byteCells l) w'∧Below B w w'):=Any.Builder_String_any_f Tryz.lays169 Tryz.Builder_Extra_169 B b l w h hBw
open Go.RowKit in
/-- (*strings.Builder).String: "String returns the accumulated string.": OF A BUILDER THAT HOLDS AT LEAST ONE BYTE. ✋ THE MODEL FREEZES THOSE BYTES IN THE BUFFER (unsafe.String): a later write INTO them ends the model's run without an answer; a later append BEHIND them goes on. The statement's order of evaluation is drawn: one draw. THE FORM '_k': OVER 'Lib.IsBuilderF' (a builder that 'String()' may have read), AND WITH THE FRAME THAT REACHES ABOVE THE BUILDER: 'Lib.OthersKept': every block that is not b and is no row of uint8's stands as it stood: the iterator of a range among them. (LAID: no walk: one application.) -/
theorem Tryz.Builder_String_k (B b:Nat) (l:List UInt8) (w:World) (h:Lib.IsBuilderF 160 5 B b (Lib.byteCells l) w) (h0:l≠[]):
    Calls Tryz.prog 120 #[.pointer (some ⟨b,0,none⟩)] w fun e w'=>e=.returned (.string ⟨l.toArray⟩)∧(Lib.IsBuilderF 160 5 B b (Lib.byteCells l) w'∧Below B w w'∧Lib.OthersKept 5 (some b) w w'):=Any.Builder_String_k Tryz.lays169 Tryz.Builder_Extra_169 B b l w h h0
open Go.RowKit in
/-- (*strings.Builder).String OF A BUILDER THAT HOLDS NO BYTE: the empty string; THE FORM '_k': OVER 'Lib.IsBuilderF' (a builder that 'String()' may have read), AND WITH THE FRAME THAT REACHES ABOVE THE BUILDER: 'Lib.OthersKept': every block that is not b and is no row of uint8's stands as it stood: the iterator of a range among them. (LAID: no walk: one application.) -/
theorem Tryz.Builder_String_empty_k (B b:Nat) (w:World) (h:Lib.IsBuilderF 160 5 B b [] w) (hBw:B≤w.heap.size):
    Calls Tryz.prog 120 #[.pointer (some ⟨b,0,none⟩)] w fun e w'=>e=.returned (.string ⟨#[]⟩)∧(Lib.IsBuilderF 160 5 B b [] w'∧Below B w w'∧Lib.OthersKept 5 (some b) w w'):=Any.Builder_String_empty_k Tryz.lays169 Tryz.Builder_Extra_169 B b w h hBw
open Go.RowKit in
/-- (*strings.Builder).String: "String returns the accumulated string.": WHATEVER THE BUILDER HOLDS; THE FORM '_k': OVER 'Lib.IsBuilderF' (a builder that 'String()' may have read), AND WITH THE FRAME THAT REACHES ABOVE THE BUILDER: 'Lib.OthersKept': every block that is not b and is no row of uint8's stands as it stood: the iterator of a range among them. (LAID: no walk: one application.) -/
theorem Tryz.Builder_String_any_k (B b:Nat) (l:List UInt8) (w:World) (h:Lib.IsBuilderF 160 5 B b (Lib.byteCells l) w) (hBw:B≤w.heap.size):
    Calls Tryz.prog 120 #[.pointer (some ⟨b,0,none⟩)] w fun e w'=>e=.returned (.string ⟨l.toArray⟩)∧(Lib.IsBuilderF 160 5 B b (Lib.byteCells l) w'∧Below B w w'∧Lib.OthersKept 5 (some b) w w'):=Any.Builder_String_any_k Tryz.lays169 Tryz.Builder_Extra_169 B b l w h hBw
def Tryz.lays217_ren:Go.Shelf.Ren:=⟨fun | 217=>83 | 266=>98 | n=>n,fun | 9=>9 | 5=>5 | 3=>3 | n=>n,fun | n=>n⟩
theorem Tryz.lays217:Go.Proofs.Lays.n217 Tryz.prog Tryz.lays217_ren:={
  mixed:=by kernel_rfl
  f217:=Tryz.func83.trans (congrArg some (by kernel_rfl))
  f266:=Tryz.func98.trans (congrArg some (by kernel_rfl))
  t3:=Tryz.underlying3
  a3:=Tryz.isAgg3
  z3:=Tryz.sizeOf3
  v3:=Tryz.zeroValue3
  t5:=Tryz.underlying5
  a5:=Tryz.isAgg5
  z5:=Tryz.sizeOf5
  v5:=Tryz.zeroValue5
  t9:=Tryz.underlying9
  a9:=Tryz.isAgg9
  z9:=Tryz.sizeOf9
  v9:=Tryz.zeroValue9 }
open Go.RowKit Go.Lib in
/-- internal/stringslite.IndexByte (what strings.IndexByte calls): IT RETURNS 'Lib.indexByte s c'; the world is as it was. (LAID: no walk: one application.) -/
theorem Tryz.stringslite_IndexByte (s:ByteArray) (c:Int) (w:World):
    Calls Tryz.prog 83 #[.string s,.int .u8 c] w fun e w'=>e=.returned (.int .i64 (Lib.indexByte s.data.toList c.toNat.toUInt8))∧w'=w:=Any.stringslite_IndexByte Tryz.lays217 s c w
def Tryz.lays224_ren:Go.Shelf.Ren:=⟨fun | 224=>108 | n=>n,fun | 3=>3 | n=>n,fun | n=>n⟩
theorem Tryz.lays224:Go.Proofs.Lays.n224 Tryz.prog Tryz.lays224_ren:={
  mixed:=by kernel_rfl
  f224:=Tryz.func108.trans (congrArg some (by kernel_rfl))
  t3:=Tryz.underlying3
  a3:=Tryz.isAgg3
  z3:=Tryz.sizeOf3
  v3:=Tryz.zeroValue3 }
open Go.RowKit Go.Lib in
/-- internal/bytealg.Cutover: "Cutover reports the number of failures of IndexByte we should tolerate before switching over to Index. n is the number of bytes processed so far.": on amd64: (n + 16) / 8. (LAID: no walk: one application.) -/
theorem Tryz.bytealg_Cutover (n:Int) (h0:0≤n) (h1:n<4611686018427387904) (w:World):
    Calls Tryz.prog 108 #[.int .i64 n] w fun e w'=>e=.returned (.int .i64 ((n+16) / 8))∧w'=w:=Any.bytealg_Cutover Tryz.lays224 n h0 h1 w
def Tryz.lays314_ren:Go.Shelf.Ren:=⟨fun | 314=>114 | n=>n,fun | 9=>9 | 51=>154 | 3=>3 | 4=>4 | 5=>5 | 46=>36 | n=>n,fun | n=>n⟩
theorem Tryz.lays314:Go.Proofs.Lays.n314 Tryz.prog Tryz.lays314_ren:={
  mixed:=by kernel_rfl
  f314:=Tryz.func114.trans (congrArg some (by kernel_rfl))
  t3:=Tryz.underlying3
  a3:=Tryz.isAgg3
  z3:=Tryz.sizeOf3
  v3:=Tryz.zeroValue3
  t4:=Tryz.underlying4
  a4:=Tryz.isAgg4
  z4:=Tryz.sizeOf4
  v4:=Tryz.zeroValue4
  t5:=Tryz.underlying5
  a5:=Tryz.isAgg5
  z5:=Tryz.sizeOf5
  v5:=Tryz.zeroValue5
  t9:=Tryz.underlying9
  a9:=Tryz.isAgg9
  z9:=Tryz.sizeOf9
  v9:=Tryz.zeroValue9
  t46:=Tryz.underlying36
  a46:=Tryz.isAgg36
  z46:=Tryz.sizeOf36
  v46:=Tryz.zeroValue36
  t51:=Tryz.underlying154
  a51:=Tryz.isAgg154
  z51:=Tryz.sizeOf154
  v51:=Tryz.zeroValue154 }
open Go.RowKit Go.Lib in
/-- hashStr: "returns the hash and the appropriate multiplicative factor for use in Rabin-Karp algorithm": THE HASH OF ALL OF sep, AND 16777619 ^ len(sep), both in uint32. (LAID: no walk: one application.) -/
theorem Tryz.bytealg_hashStr (sep:ByteArray) (hs:sep.size<4294967281) (w:World):
    Calls Tryz.prog 114 #[.string sep] w fun e w'=>e=.returned (.tuple #[.int .u32 (RK.H sep.data.toList % 4294967296),.int .u32 (16777619 ^ sep.size % 4294967296)])∧w'=w:=Any.bytealg_hashStr Tryz.lays314 sep hs w
def Tryz.lays267_ren:Go.Shelf.Ren:=⟨fun | 267=>109 | 314=>114 | n=>n,fun | 9=>9 | 3=>3 | 146=>155 | 51=>154 | 4=>4 | 5=>5 | 46=>36 | n=>n,fun | n=>n⟩
theorem Tryz.lays267:Go.Proofs.Lays.n267 Tryz.prog Tryz.lays267_ren:={
  mixed:=by kernel_rfl
  f267:=Tryz.func109.trans (congrArg some (by kernel_rfl))
  f314:=Tryz.func114.trans (congrArg some (by kernel_rfl))
  t3:=Tryz.underlying3
  a3:=Tryz.isAgg3
  z3:=Tryz.sizeOf3
  v3:=Tryz.zeroValue3
  t4:=Tryz.underlying4
  a4:=Tryz.isAgg4
  z4:=Tryz.sizeOf4
  v4:=Tryz.zeroValue4
  t5:=Tryz.underlying5
  a5:=Tryz.isAgg5
  z5:=Tryz.sizeOf5
  v5:=Tryz.zeroValue5
  t9:=Tryz.underlying9
  a9:=Tryz.isAgg9
  z9:=Tryz.sizeOf9
  v9:=Tryz.zeroValue9
  t46:=Tryz.underlying36
  a46:=Tryz.isAgg36
  z46:=Tryz.sizeOf36
  v46:=Tryz.zeroValue36
  t51:=Tryz.underlying154
  a51:=Tryz.isAgg154
  z51:=Tryz.sizeOf154
  v51:=Tryz.zeroValue154
  t146:=Tryz.underlying155
  a146:=Tryz.isAgg155
  z146:=Tryz.sizeOf155
  v146:=Tryz.zeroValue155 }
open Go.RowKit Go.Lib in
theorem Tryz.bytealg_IndexRabinKarp (s sep:ByteArray) (h1:1≤sep.size) (h2:sep.size≤s.size) (hs:s.size<4294967281) (w:World):
    Calls Tryz.prog 109 #[.string s,.string sep] w fun e w'=>e=.returned (.int .i64 (Lib.index s.data.toList sep.data.toList))∧w'=w:=Any.bytealg_IndexRabinKarp Tryz.lays267 s sep h1 h2 hs w
def Tryz.lays219_ren:Go.Shelf.Ren:=⟨fun | 219=>96 | 217=>83 | 225=>107 | 224=>108 | 267=>109 | 266=>98 | 314=>114 | n=>n,fun | 9=>9 | 3=>3 | 4=>4 | 5=>5 | 46=>36 | 146=>155 | 51=>154 | n=>n,fun | 1=>0 | n=>n⟩
theorem Tryz.lays219:Go.Proofs.Lays.n219 Tryz.prog Tryz.lays219_ren:={
  mixed:=by kernel_rfl
  f217:=Tryz.func83.trans (congrArg some (by kernel_rfl))
  f219:=Tryz.func96.trans (congrArg some (by kernel_rfl))
  f224:=Tryz.func108.trans (congrArg some (by kernel_rfl))
  f225:=Tryz.func107.trans (congrArg some (by kernel_rfl))
  f266:=Tryz.func98.trans (congrArg some (by kernel_rfl))
  f267:=Tryz.func109.trans (congrArg some (by kernel_rfl))
  f314:=Tryz.func114.trans (congrArg some (by kernel_rfl))
  t3:=Tryz.underlying3
  a3:=Tryz.isAgg3
  z3:=Tryz.sizeOf3
  v3:=Tryz.zeroValue3
  t4:=Tryz.underlying4
  a4:=Tryz.isAgg4
  z4:=Tryz.sizeOf4
  v4:=Tryz.zeroValue4
  t5:=Tryz.underlying5
  a5:=Tryz.isAgg5
  z5:=Tryz.sizeOf5
  v5:=Tryz.zeroValue5
  t9:=Tryz.underlying9
  a9:=Tryz.isAgg9
  z9:=Tryz.sizeOf9
  v9:=Tryz.zeroValue9
  t46:=Tryz.underlying36
  a46:=Tryz.isAgg36
  z46:=Tryz.sizeOf36
  v46:=Tryz.zeroValue36
  t51:=Tryz.underlying154
  a51:=Tryz.isAgg154
  z51:=Tryz.sizeOf154
  v51:=Tryz.zeroValue154
  t146:=Tryz.underlying155
  a146:=Tryz.isAgg155
  z146:=Tryz.sizeOf155
  v146:=Tryz.zeroValue155
  g1:=by kernel_rfl }
open Go.RowKit Go.Lib in
/-- internal/stringslite.Index (what strings.Index calls) AT A substr OF ONE BYTE c: IT RETURNS 'Lib.indexByte s c'; the world is as it was. (LAID: no walk: one application.) -/
theorem Tryz.stringslite_Index_one (s:ByteArray) (c:UInt8) (w:World):
    Calls Tryz.prog 96 #[.string s,.string ⟨#[c]⟩] w fun e w'=>e=.returned (.int .i64 (Lib.indexByte s.data.toList c))∧w'=w:=Any.stringslite_Index_one Tryz.lays219 s c w
open Go.RowKit Go.Lib in
/-- internal/stringslite.Index (what strings.Index calls) AT A substr OF WHATEVER LENGTH: IT RETURNS 'Lib.index s substr'; the world is as it was. 'm': what internal/bytealg.MaxLen holds: whatever. (LAID: no walk: one application.) -/
theorem Tryz.stringslite_Index (s sub:ByteArray) (m:Int) (w:World) (hs:s.size<4294967281) (hm:w.cell? ⟨0,0,none⟩=some (.int .i64 m)):
    Calls Tryz.prog 96 #[.string s,.string sub] w fun e w'=>e=.returned (.int .i64 (Lib.index s.data.toList sub.data.toList))∧w'=w:=Any.stringslite_Index Tryz.lays219 s sub m w hs hm
def Tryz.lays143_ren:Go.Shelf.Ren:=⟨fun | 143=>80 | 219=>96 | 217=>83 | 225=>107 | 224=>108 | 267=>109 | 266=>98 | 314=>114 | n=>n,fun | 9=>9 | 3=>3 | 4=>4 | 5=>5 | 46=>36 | 146=>155 | 51=>154 | n=>n,fun | 1=>0 | n=>n⟩
theorem Tryz.lays143:Go.Proofs.Lays.n143 Tryz.prog Tryz.lays143_ren:={
  mixed:=by kernel_rfl
  f143:=Tryz.func80.trans (congrArg some (by kernel_rfl))
  f217:=Tryz.func83.trans (congrArg some (by kernel_rfl))
  f219:=Tryz.func96.trans (congrArg some (by kernel_rfl))
  f224:=Tryz.func108.trans (congrArg some (by kernel_rfl))
  f225:=Tryz.func107.trans (congrArg some (by kernel_rfl))
  f266:=Tryz.func98.trans (congrArg some (by kernel_rfl))
  f267:=Tryz.func109.trans (congrArg some (by kernel_rfl))
  f314:=Tryz.func114.trans (congrArg some (by kernel_rfl))
  t3:=Tryz.underlying3
  a3:=Tryz.isAgg3
  z3:=Tryz.sizeOf3
  v3:=Tryz.zeroValue3
  t4:=Tryz.underlying4
  a4:=Tryz.isAgg4
  z4:=Tryz.sizeOf4
  v4:=Tryz.zeroValue4
  t5:=Tryz.underlying5
  a5:=Tryz.isAgg5
  z5:=Tryz.sizeOf5
  v5:=Tryz.zeroValue5
  t9:=Tryz.underlying9
  a9:=Tryz.isAgg9
  z9:=Tryz.sizeOf9
  v9:=Tryz.zeroValue9
  t46:=Tryz.underlying36
  a46:=Tryz.isAgg36
  z46:=Tryz.sizeOf36
  v46:=Tryz.zeroValue36
  t51:=Tryz.underlying154
  a51:=Tryz.isAgg154
  z51:=Tryz.sizeOf154
  v51:=Tryz.zeroValue154
  t146:=Tryz.underlying155
  a146:=Tryz.isAgg155
  z146:=Tryz.sizeOf155
  v146:=Tryz.zeroValue155
  g1:=by kernel_rfl }
open Go.RowKit Go.Lib in
/-- strings.Index: "Index returns the index of the first instance of substr in s, or -1 if substr is not present in s.": AT A substr OF ONE BYTE c: IT RETURNS 'Lib.indexByte s c'; the world is as it was. (LAID: no walk: one application.) -/
theorem Tryz.strings_Index_one (s:ByteArray) (c:UInt8) (w:World):
    Calls Tryz.prog 80 #[.string s,.string ⟨#[c]⟩] w fun e w'=>e=.returned (.int .i64 (Lib.indexByte s.data.toList c))∧w'=w:=Any.strings_Index_one Tryz.lays143 s c w
open Go.RowKit Go.Lib in
/-- strings.Index: "Index returns the index of the first instance of substr in s, or -1 if substr is not present in s.": IT RETURNS 'Lib.index s substr'; the world is as it was. (LAID: no walk: one application.) -/
theorem Tryz.strings_Index (s sub:ByteArray) (m:Int) (w:World) (hs:s.size<4294967281) (hm:w.cell? ⟨0,0,none⟩=some (.int .i64 m)):
    Calls Tryz.prog 80 #[.string s,.string sub] w fun e w'=>e=.returned (.int .i64 (Lib.index s.data.toList sub.data.toList))∧w'=w:=Any.strings_Index Tryz.lays143 s sub m w hs hm
def Tryz.lays138_ren:Go.Shelf.Ren:=⟨fun | 138=>79 | 195=>93 | 218=>95 | 143=>80 | 219=>96 | 217=>83 | 225=>107 | 224=>108 | 267=>109 | 266=>98 | 314=>114 | n=>n,fun | 9=>9 | 3=>3 | 4=>4 | 5=>5 | 0=>0 | 46=>36 | 146=>155 | 51=>154 | n=>n,fun | 1=>0 | n=>n⟩
theorem Tryz.lays138:Go.Proofs.Lays.n138 Tryz.prog Tryz.lays138_ren:={
  mixed:=by kernel_rfl
  f138:=Tryz.func79.trans (congrArg some (by kernel_rfl))
  f143:=Tryz.func80.trans (congrArg some (by kernel_rfl))
  f195:=Tryz.func93.trans (congrArg some (by kernel_rfl))
  f217:=Tryz.func83.trans (congrArg some (by kernel_rfl))
  f218:=Tryz.func95.trans (congrArg some (by kernel_rfl))
  f219:=Tryz.func96.trans (congrArg some (by kernel_rfl))
  f224:=Tryz.func108.trans (congrArg some (by kernel_rfl))
  f225:=Tryz.func107.trans (congrArg some (by kernel_rfl))
  f266:=Tryz.func98.trans (congrArg some (by kernel_rfl))
  f267:=Tryz.func109.trans (congrArg some (by kernel_rfl))
  f314:=Tryz.func114.trans (congrArg some (by kernel_rfl))
  t0:=Tryz.underlying0
  a0:=Tryz.isAgg0
  z0:=Tryz.sizeOf0
  v0:=Tryz.zeroValue0
  t3:=Tryz.underlying3
  a3:=Tryz.isAgg3
  z3:=Tryz.sizeOf3
  v3:=Tryz.zeroValue3
  t4:=Tryz.underlying4
  a4:=Tryz.isAgg4
  z4:=Tryz.sizeOf4
  v4:=Tryz.zeroValue4
  t5:=Tryz.underlying5
  a5:=Tryz.isAgg5
  z5:=Tryz.sizeOf5
  v5:=Tryz.zeroValue5
  t9:=Tryz.underlying9
  a9:=Tryz.isAgg9
  z9:=Tryz.sizeOf9
  v9:=Tryz.zeroValue9
  t46:=Tryz.underlying36
  a46:=Tryz.isAgg36
  z46:=Tryz.sizeOf36
  v46:=Tryz.zeroValue36
  t51:=Tryz.underlying154
  a51:=Tryz.isAgg154
  z51:=Tryz.sizeOf154
  v51:=Tryz.zeroValue154
  t146:=Tryz.underlying155
  a146:=Tryz.isAgg155
  z146:=Tryz.sizeOf155
  v146:=Tryz.zeroValue155
  g1:=by kernel_rfl }
open Go.RowKit Go.Lib in
/-- strings.Count AT A substr OF ONE BYTE ('hp'): "Count counts the number of non-overlapping instances of substr in s.": IT RETURNS 'Lib.countByte s (that byte)'; the world is as it was. ✋ NO CONTRACT HERE YET at an empty substr (utf8.RuneCountInString) or at a longer one (a loop over strings.Index). (LAID: no walk: one application.) -/
theorem Tryz.strings_Count_one (s:ByteArray) (c:UInt8) (w:World):
    Calls Tryz.prog 79 #[.string s,.string ⟨#[c]⟩] w fun e w'=>e=.returned (.int .i64 (Lib.countByte s.data.toList c))∧w'=w:=Any.strings_Count_one Tryz.lays138 s c w
open Go.RowKit Go.Lib in
/-- strings.Count AT A substr OF TWO BYTES OR MORE: "Count counts the number of non-overlapping instances of substr in s.": IT RETURNS 'Lib.count s substr'; the world is as it was. (LAID: no walk: one application.) -/
theorem Tryz.strings_Count (s sub:ByteArray) (m:Int) (w:World) (hs:s.size<4294967281) (hm:w.cell? ⟨0,0,none⟩=some (.int .i64 m)) (h2:2≤sub.size):
    Calls Tryz.prog 79 #[.string s,.string sub] w fun e w'=>e=.returned (.int .i64 (Lib.countB s sub))∧w'=w:=Any.strings_Count Tryz.lays138 s sub m w hs hm h2
def Tryz.laysM219_ren:Go.Shelf.Ren:=⟨fun | 219=>96 | 217=>83 | 225=>107 | 224=>108 | 267=>109 | 266=>98 | 314=>114 | n=>n,fun | 9=>9 | 3=>3 | 4=>4 | 5=>5 | 46=>36 | 146=>155 | 51=>154 | n=>n,fun | 1=>0 | n=>n⟩
theorem Tryz.laysM219:Go.Proofs.LaysM.n219 Tryz.prog Tryz.laysM219_ren:={
  mixed:=by kernel_rfl
  f217:=Tryz.func83.trans (congrArg some (by kernel_rfl))
  f219:=Tryz.func96.trans (congrArg some (by kernel_rfl))
  f224:=Tryz.func108.trans (congrArg some (by kernel_rfl))
  f225:=Tryz.func107.trans (congrArg some (by kernel_rfl))
  f266:=Tryz.func98.trans (congrArg some (by kernel_rfl))
  f267:=Tryz.func109.trans (congrArg some (by kernel_rfl))
  f314:=Tryz.func114.trans (congrArg some (by kernel_rfl))
  t3:=Tryz.underlying3
  a3:=Tryz.isAgg3
  z3:=Tryz.sizeOf3
  v3:=Tryz.zeroValue3
  t4:=Tryz.underlying4
  a4:=Tryz.isAgg4
  z4:=Tryz.sizeOf4
  v4:=Tryz.zeroValue4
  t5:=Tryz.underlying5
  a5:=Tryz.isAgg5
  z5:=Tryz.sizeOf5
  v5:=Tryz.zeroValue5
  t9:=Tryz.underlying9
  a9:=Tryz.isAgg9
  z9:=Tryz.sizeOf9
  v9:=Tryz.zeroValue9
  t46:=Tryz.underlying36
  a46:=Tryz.isAgg36
  z46:=Tryz.sizeOf36
  v46:=Tryz.zeroValue36
  t51:=Tryz.underlying154
  a51:=Tryz.isAgg154
  z51:=Tryz.sizeOf154
  v51:=Tryz.zeroValue154
  t146:=Tryz.underlying155
  a146:=Tryz.isAgg155
  z146:=Tryz.sizeOf155
  v146:=Tryz.zeroValue155
  g1:=by kernel_rfl
  i3:=by kernel_rfl
  i4:=by kernel_rfl
  i5:=by kernel_rfl
  i9:=by kernel_rfl
  i46:=by kernel_rfl
  i51:=by kernel_rfl
  i146:=by kernel_rfl
  m1:=by kernel_rfl
  s1_3:=fun w h=>Go.Proofs.cell_of_shapedOpen_int (zero:=#[.int .i64 0]) (t:=3) h (of_decide_eq_true (by kernel_rfl)) (by kernel_rfl) rfl (by kernel_rfl) (by kernel_rfl) Tryz.underlying3 }
open Go.RowKit Go.Lib in
theorem Tryz.stringslite_Index_shaped (s sub:ByteArray) (w:World) (h:w.ShapedOpen Tryz.prog) (hs:s.size<4294967281):
    Calls Tryz.prog 96 #[.string s,.string sub] w fun e w'=>e=.returned (.int .i64 (Lib.index s.data.toList sub.data.toList))∧w'=w:=Any.stringslite_Index_shaped Tryz.laysM219 s sub w h hs
def Tryz.laysM143_ren:Go.Shelf.Ren:=⟨fun | 143=>80 | 219=>96 | 217=>83 | 225=>107 | 224=>108 | 267=>109 | 266=>98 | 314=>114 | n=>n,fun | 9=>9 | 3=>3 | 4=>4 | 5=>5 | 46=>36 | 146=>155 | 51=>154 | n=>n,fun | 1=>0 | n=>n⟩
theorem Tryz.laysM143:Go.Proofs.LaysM.n143 Tryz.prog Tryz.laysM143_ren:={
  mixed:=by kernel_rfl
  f143:=Tryz.func80.trans (congrArg some (by kernel_rfl))
  f217:=Tryz.func83.trans (congrArg some (by kernel_rfl))
  f219:=Tryz.func96.trans (congrArg some (by kernel_rfl))
  f224:=Tryz.func108.trans (congrArg some (by kernel_rfl))
  f225:=Tryz.func107.trans (congrArg some (by kernel_rfl))
  f266:=Tryz.func98.trans (congrArg some (by kernel_rfl))
  f267:=Tryz.func109.trans (congrArg some (by kernel_rfl))
  f314:=Tryz.func114.trans (congrArg some (by kernel_rfl))
  t3:=Tryz.underlying3
  a3:=Tryz.isAgg3
  z3:=Tryz.sizeOf3
  v3:=Tryz.zeroValue3
  t4:=Tryz.underlying4
  a4:=Tryz.isAgg4
  z4:=Tryz.sizeOf4
  v4:=Tryz.zeroValue4
  t5:=Tryz.underlying5
  a5:=Tryz.isAgg5
  z5:=Tryz.sizeOf5
  v5:=Tryz.zeroValue5
  t9:=Tryz.underlying9
  a9:=Tryz.isAgg9
  z9:=Tryz.sizeOf9
  v9:=Tryz.zeroValue9
  t46:=Tryz.underlying36
  a46:=Tryz.isAgg36
  z46:=Tryz.sizeOf36
  v46:=Tryz.zeroValue36
  t51:=Tryz.underlying154
  a51:=Tryz.isAgg154
  z51:=Tryz.sizeOf154
  v51:=Tryz.zeroValue154
  t146:=Tryz.underlying155
  a146:=Tryz.isAgg155
  z146:=Tryz.sizeOf155
  v146:=Tryz.zeroValue155
  g1:=by kernel_rfl
  i3:=by kernel_rfl
  i4:=by kernel_rfl
  i5:=by kernel_rfl
  i9:=by kernel_rfl
  i46:=by kernel_rfl
  i51:=by kernel_rfl
  i146:=by kernel_rfl
  m1:=by kernel_rfl
  s1_3:=fun w h=>Go.Proofs.cell_of_shapedOpen_int (zero:=#[.int .i64 0]) (t:=3) h (of_decide_eq_true (by kernel_rfl)) (by kernel_rfl) rfl (by kernel_rfl) (by kernel_rfl) Tryz.underlying3 }
open Go.RowKit Go.Lib in
theorem Tryz.strings_Index_shaped (s sub:ByteArray) (w:World) (h:w.ShapedOpen Tryz.prog) (hs:s.size<4294967281):
    Calls Tryz.prog 80 #[.string s,.string sub] w fun e w'=>e=.returned (.int .i64 (Lib.index s.data.toList sub.data.toList))∧w'=w:=Any.strings_Index_shaped Tryz.laysM143 s sub w h hs
def Tryz.laysM138_ren:Go.Shelf.Ren:=⟨fun | 138=>79 | 195=>93 | 218=>95 | 143=>80 | 219=>96 | 217=>83 | 225=>107 | 224=>108 | 267=>109 | 266=>98 | 314=>114 | n=>n,fun | 9=>9 | 3=>3 | 4=>4 | 5=>5 | 0=>0 | 46=>36 | 146=>155 | 51=>154 | n=>n,fun | 1=>0 | n=>n⟩
theorem Tryz.laysM138:Go.Proofs.LaysM.n138 Tryz.prog Tryz.laysM138_ren:={
  mixed:=by kernel_rfl
  f138:=Tryz.func79.trans (congrArg some (by kernel_rfl))
  f143:=Tryz.func80.trans (congrArg some (by kernel_rfl))
  f195:=Tryz.func93.trans (congrArg some (by kernel_rfl))
  f217:=Tryz.func83.trans (congrArg some (by kernel_rfl))
  f218:=Tryz.func95.trans (congrArg some (by kernel_rfl))
  f219:=Tryz.func96.trans (congrArg some (by kernel_rfl))
  f224:=Tryz.func108.trans (congrArg some (by kernel_rfl))
  f225:=Tryz.func107.trans (congrArg some (by kernel_rfl))
  f266:=Tryz.func98.trans (congrArg some (by kernel_rfl))
  f267:=Tryz.func109.trans (congrArg some (by kernel_rfl))
  f314:=Tryz.func114.trans (congrArg some (by kernel_rfl))
  t0:=Tryz.underlying0
  a0:=Tryz.isAgg0
  z0:=Tryz.sizeOf0
  v0:=Tryz.zeroValue0
  t3:=Tryz.underlying3
  a3:=Tryz.isAgg3
  z3:=Tryz.sizeOf3
  v3:=Tryz.zeroValue3
  t4:=Tryz.underlying4
  a4:=Tryz.isAgg4
  z4:=Tryz.sizeOf4
  v4:=Tryz.zeroValue4
  t5:=Tryz.underlying5
  a5:=Tryz.isAgg5
  z5:=Tryz.sizeOf5
  v5:=Tryz.zeroValue5
  t9:=Tryz.underlying9
  a9:=Tryz.isAgg9
  z9:=Tryz.sizeOf9
  v9:=Tryz.zeroValue9
  t46:=Tryz.underlying36
  a46:=Tryz.isAgg36
  z46:=Tryz.sizeOf36
  v46:=Tryz.zeroValue36
  t51:=Tryz.underlying154
  a51:=Tryz.isAgg154
  z51:=Tryz.sizeOf154
  v51:=Tryz.zeroValue154
  t146:=Tryz.underlying155
  a146:=Tryz.isAgg155
  z146:=Tryz.sizeOf155
  v146:=Tryz.zeroValue155
  g1:=by kernel_rfl
  i0:=by kernel_rfl
  i3:=by kernel_rfl
  i4:=by kernel_rfl
  i5:=by kernel_rfl
  i9:=by kernel_rfl
  i46:=by kernel_rfl
  i51:=by kernel_rfl
  i146:=by kernel_rfl
  m1:=by kernel_rfl
  s1_3:=fun w h=>Go.Proofs.cell_of_shapedOpen_int (zero:=#[.int .i64 0]) (t:=3) h (of_decide_eq_true (by kernel_rfl)) (by kernel_rfl) rfl (by kernel_rfl) (by kernel_rfl) Tryz.underlying3 }
open Go.RowKit Go.Lib in
theorem Tryz.strings_Count_shaped (s sub:ByteArray) (w:World) (h:w.ShapedOpen Tryz.prog) (hs:s.size<4294967281) (h2:2≤sub.size):
    Calls Tryz.prog 79 #[.string s,.string sub] w fun e w'=>e=.returned (.int .i64 (Lib.countB s sub))∧w'=w:=Any.strings_Count_shaped Tryz.laysM138 s sub w h hs h2
open Go.RowKit Go.Lib in
/-- strings.Count at whatever sep that is not empty: the two roads under one statement. (LAID: no walk: one application.) -/
theorem Tryz.strings_Count_any (s sep:ByteArray) (m:Int) (w:World) (hs:s.size<4294967281) (hm:w.cell? ⟨0,0,none⟩=some (.int .i64 m)) (h1:1≤sep.size):
    Calls Tryz.prog 79 #[.string s,.string sep] w fun e w'=>e=.returned (.int .i64 (Lib.countB s sep))∧w'=w:=Any.strings_Count_any Tryz.lays138 s sep m w hs hm h1
def Tryz.lays221_ren:Go.Shelf.Ren:=⟨fun | 221=>60 | 268=>78 | 138=>79 | 143=>80 | 195=>93 | 197=>94 | 218=>95 | 219=>96 | 260=>106 | 217=>83 | 225=>107 | 224=>108 | 267=>109 | 266=>98 | 314=>114 | n=>n,fun | 9=>9 | 3=>3 | 31=>44 | 4=>4 | 0=>0 | 105=>130 | 21=>21 | 5=>5 | 46=>36 | 119=>150 | 139=>153 | 138=>152 | 146=>155 | 51=>154 | n=>n,fun | 1=>0 | 3=>1 | 4=>2 | n=>n⟩
theorem Tryz.lays221:Go.Proofs.Lays.n221 Tryz.prog Tryz.lays221_ren:={
  mixed:=by kernel_rfl
  f138:=Tryz.func79.trans (congrArg some (by kernel_rfl))
  f143:=Tryz.func80.trans (congrArg some (by kernel_rfl))
  f195:=Tryz.func93.trans (congrArg some (by kernel_rfl))
  f197:=Tryz.func94.trans (congrArg some (by kernel_rfl))
  f217:=Tryz.func83.trans (congrArg some (by kernel_rfl))
  f218:=Tryz.func95.trans (congrArg some (by kernel_rfl))
  f219:=Tryz.func96.trans (congrArg some (by kernel_rfl))
  f221:=Tryz.func60.trans (congrArg some (by kernel_rfl))
  f224:=Tryz.func108.trans (congrArg some (by kernel_rfl))
  f225:=Tryz.func107.trans (congrArg some (by kernel_rfl))
  f260:=Tryz.func106.trans (congrArg some (by kernel_rfl))
  f266:=Tryz.func98.trans (congrArg some (by kernel_rfl))
  f267:=Tryz.func109.trans (congrArg some (by kernel_rfl))
  f268:=Tryz.func78.trans (congrArg some (by kernel_rfl))
  f314:=Tryz.func114.trans (congrArg some (by kernel_rfl))
  t0:=Tryz.underlying0
  a0:=Tryz.isAgg0
  z0:=Tryz.sizeOf0
  v0:=Tryz.zeroValue0
  t3:=Tryz.underlying3
  a3:=Tryz.isAgg3
  z3:=Tryz.sizeOf3
  v3:=Tryz.zeroValue3
  t4:=Tryz.underlying4
  a4:=Tryz.isAgg4
  z4:=Tryz.sizeOf4
  v4:=Tryz.zeroValue4
  t5:=Tryz.underlying5
  a5:=Tryz.isAgg5
  z5:=Tryz.sizeOf5
  v5:=Tryz.zeroValue5
  t9:=Tryz.underlying9
  a9:=Tryz.isAgg9
  z9:=Tryz.sizeOf9
  v9:=Tryz.zeroValue9
  t21:=Tryz.underlying21
  a21:=Tryz.isAgg21
  z21:=Tryz.sizeOf21
  v21:=Tryz.zeroValue21
  t31:=Tryz.underlying44
  a31:=Tryz.isAgg44
  z31:=Tryz.sizeOf44
  v31:=Tryz.zeroValue44
  t46:=Tryz.underlying36
  a46:=Tryz.isAgg36
  z46:=Tryz.sizeOf36
  v46:=Tryz.zeroValue36
  t51:=Tryz.underlying154
  a51:=Tryz.isAgg154
  z51:=Tryz.sizeOf154
  v51:=Tryz.zeroValue154
  t105:=Tryz.underlying130
  a105:=Tryz.isAgg130
  z105:=Tryz.sizeOf130
  v105:=Tryz.zeroValue130
  t119:=Tryz.underlying150
  a119:=Tryz.isAgg150
  z119:=Tryz.sizeOf150
  t138:=Tryz.underlying152
  a138:=Tryz.isAgg152
  z138:=Tryz.sizeOf152
  v138:=Tryz.zeroValue152
  t139:=Tryz.underlying153
  a139:=Tryz.isAgg153
  z139:=Tryz.sizeOf153
  v139:=Tryz.zeroValue153
  t146:=Tryz.underlying155
  a146:=Tryz.isAgg155
  z146:=Tryz.sizeOf155
  v146:=Tryz.zeroValue155
  g1:=by kernel_rfl
  g3:=by kernel_rfl
  g4:=by kernel_rfl }
open Go.RowKit Go.Lib in
theorem Tryz.strings_genSplit (s sep:ByteArray) (sv:Nat) (n:Int) (N:Nat) (m:Int) (w:World) (hs:s.size<4294967281) (hm:w.cell? ⟨0,0,none⟩=some (.int .i64 m)) (h1:1≤sep.size) (hsv:sv≤sep.size) (hn0:n≠0) (hn63:n≤9223372036854775807) (hN:(N:Int)=min (if n<0 then (Lib.countB s sep:Int)+1 else n) ((s.size:Int)+1)):
    Calls Tryz.prog 60 #[.string s,.string sep,.int .i64 sv,.int .i64 n] w fun e w'=>
      e=.returned (.slice (some ⟨w.heap.size,0,none⟩) (Lib.splitB sep sv (N - 1) s).length N)∧w'=w.alloc (.cells (Lib.cellsOf (Lib.splitB sep sv (N - 1) s) N) 9):=Any.strings_genSplit Tryz.lays221 (by kernel_rfl) s sep sv n N m w hs hm h1 hsv hn0 hn63 hN
def Tryz.lays146_ren:Go.Shelf.Ren:=⟨fun | 146=>39 | 221=>60 | 268=>78 | 138=>79 | 143=>80 | 195=>93 | 197=>94 | 218=>95 | 219=>96 | 260=>106 | 217=>83 | 225=>107 | 224=>108 | 267=>109 | 266=>98 | 314=>114 | n=>n,fun | 9=>9 | 31=>44 | 3=>3 | 4=>4 | 0=>0 | 105=>130 | 21=>21 | 5=>5 | 46=>36 | 119=>150 | 139=>153 | 138=>152 | 146=>155 | 51=>154 | n=>n,fun | 1=>0 | 3=>1 | 4=>2 | n=>n⟩
theorem Tryz.lays146:Go.Proofs.Lays.n146 Tryz.prog Tryz.lays146_ren:={
  mixed:=by kernel_rfl
  f138:=Tryz.func79.trans (congrArg some (by kernel_rfl))
  f143:=Tryz.func80.trans (congrArg some (by kernel_rfl))
  f146:=Tryz.func39.trans (congrArg some (by kernel_rfl))
  f195:=Tryz.func93.trans (congrArg some (by kernel_rfl))
  f197:=Tryz.func94.trans (congrArg some (by kernel_rfl))
  f217:=Tryz.func83.trans (congrArg some (by kernel_rfl))
  f218:=Tryz.func95.trans (congrArg some (by kernel_rfl))
  f219:=Tryz.func96.trans (congrArg some (by kernel_rfl))
  f221:=Tryz.func60.trans (congrArg some (by kernel_rfl))
  f224:=Tryz.func108.trans (congrArg some (by kernel_rfl))
  f225:=Tryz.func107.trans (congrArg some (by kernel_rfl))
  f260:=Tryz.func106.trans (congrArg some (by kernel_rfl))
  f266:=Tryz.func98.trans (congrArg some (by kernel_rfl))
  f267:=Tryz.func109.trans (congrArg some (by kernel_rfl))
  f268:=Tryz.func78.trans (congrArg some (by kernel_rfl))
  f314:=Tryz.func114.trans (congrArg some (by kernel_rfl))
  t0:=Tryz.underlying0
  a0:=Tryz.isAgg0
  z0:=Tryz.sizeOf0
  v0:=Tryz.zeroValue0
  t3:=Tryz.underlying3
  a3:=Tryz.isAgg3
  z3:=Tryz.sizeOf3
  v3:=Tryz.zeroValue3
  t4:=Tryz.underlying4
  a4:=Tryz.isAgg4
  z4:=Tryz.sizeOf4
  v4:=Tryz.zeroValue4
  t5:=Tryz.underlying5
  a5:=Tryz.isAgg5
  z5:=Tryz.sizeOf5
  v5:=Tryz.zeroValue5
  t9:=Tryz.underlying9
  a9:=Tryz.isAgg9
  z9:=Tryz.sizeOf9
  v9:=Tryz.zeroValue9
  t21:=Tryz.underlying21
  a21:=Tryz.isAgg21
  z21:=Tryz.sizeOf21
  v21:=Tryz.zeroValue21
  t31:=Tryz.underlying44
  a31:=Tryz.isAgg44
  z31:=Tryz.sizeOf44
  v31:=Tryz.zeroValue44
  t46:=Tryz.underlying36
  a46:=Tryz.isAgg36
  z46:=Tryz.sizeOf36
  v46:=Tryz.zeroValue36
  t51:=Tryz.underlying154
  a51:=Tryz.isAgg154
  z51:=Tryz.sizeOf154
  v51:=Tryz.zeroValue154
  t105:=Tryz.underlying130
  a105:=Tryz.isAgg130
  z105:=Tryz.sizeOf130
  v105:=Tryz.zeroValue130
  t119:=Tryz.underlying150
  a119:=Tryz.isAgg150
  z119:=Tryz.sizeOf150
  t138:=Tryz.underlying152
  a138:=Tryz.isAgg152
  z138:=Tryz.sizeOf152
  v138:=Tryz.zeroValue152
  t139:=Tryz.underlying153
  a139:=Tryz.isAgg153
  z139:=Tryz.sizeOf153
  v139:=Tryz.zeroValue153
  t146:=Tryz.underlying155
  a146:=Tryz.isAgg155
  z146:=Tryz.sizeOf155
  v146:=Tryz.zeroValue155
  g1:=by kernel_rfl
  g3:=by kernel_rfl
  g4:=by kernel_rfl }
open Go.RowKit Go.Lib in
/-- strings.Split. (LAID: no walk: one application.) -/
theorem Tryz.strings_Split (s sep:ByteArray) (m:Int) (w:World) (hs:s.size<4294967281) (hm:w.cell? ⟨0,0,none⟩=some (.int .i64 m)) (h1:1≤sep.size):
    Calls Tryz.prog 39 #[.string s,.string sep] w fun e w'=>
      e=.returned (.slice (some ⟨w.heap.size,0,none⟩) (Lib.countB s sep+1) (Lib.countB s sep+1))∧w'=w.alloc (.cells ((Lib.splitB sep 0 (Lib.countB s sep) s).map Value.string).toArray 9):=Any.strings_Split Tryz.lays146 (by kernel_rfl) s sep m w hs hm h1
def Tryz.laysM146_ren:Go.Shelf.Ren:=⟨fun | 146=>39 | 221=>60 | 268=>78 | 138=>79 | 143=>80 | 195=>93 | 197=>94 | 218=>95 | 219=>96 | 260=>106 | 217=>83 | 225=>107 | 224=>108 | 267=>109 | 266=>98 | 314=>114 | n=>n,fun | 9=>9 | 31=>44 | 3=>3 | 4=>4 | 0=>0 | 105=>130 | 21=>21 | 5=>5 | 46=>36 | 119=>150 | 139=>153 | 138=>152 | 146=>155 | 51=>154 | n=>n,fun | 1=>0 | 3=>1 | 4=>2 | n=>n⟩
theorem Tryz.laysM146:Go.Proofs.LaysM.n146 Tryz.prog Tryz.laysM146_ren:={
  mixed:=by kernel_rfl
  f138:=Tryz.func79.trans (congrArg some (by kernel_rfl))
  f143:=Tryz.func80.trans (congrArg some (by kernel_rfl))
  f146:=Tryz.func39.trans (congrArg some (by kernel_rfl))
  f195:=Tryz.func93.trans (congrArg some (by kernel_rfl))
  f197:=Tryz.func94.trans (congrArg some (by kernel_rfl))
  f217:=Tryz.func83.trans (congrArg some (by kernel_rfl))
  f218:=Tryz.func95.trans (congrArg some (by kernel_rfl))
  f219:=Tryz.func96.trans (congrArg some (by kernel_rfl))
  f221:=Tryz.func60.trans (congrArg some (by kernel_rfl))
  f224:=Tryz.func108.trans (congrArg some (by kernel_rfl))
  f225:=Tryz.func107.trans (congrArg some (by kernel_rfl))
  f260:=Tryz.func106.trans (congrArg some (by kernel_rfl))
  f266:=Tryz.func98.trans (congrArg some (by kernel_rfl))
  f267:=Tryz.func109.trans (congrArg some (by kernel_rfl))
  f268:=Tryz.func78.trans (congrArg some (by kernel_rfl))
  f314:=Tryz.func114.trans (congrArg some (by kernel_rfl))
  t0:=Tryz.underlying0
  a0:=Tryz.isAgg0
  z0:=Tryz.sizeOf0
  v0:=Tryz.zeroValue0
  t3:=Tryz.underlying3
  a3:=Tryz.isAgg3
  z3:=Tryz.sizeOf3
  v3:=Tryz.zeroValue3
  t4:=Tryz.underlying4
  a4:=Tryz.isAgg4
  z4:=Tryz.sizeOf4
  v4:=Tryz.zeroValue4
  t5:=Tryz.underlying5
  a5:=Tryz.isAgg5
  z5:=Tryz.sizeOf5
  v5:=Tryz.zeroValue5
  t9:=Tryz.underlying9
  a9:=Tryz.isAgg9
  z9:=Tryz.sizeOf9
  v9:=Tryz.zeroValue9
  t21:=Tryz.underlying21
  a21:=Tryz.isAgg21
  z21:=Tryz.sizeOf21
  v21:=Tryz.zeroValue21
  t31:=Tryz.underlying44
  a31:=Tryz.isAgg44
  z31:=Tryz.sizeOf44
  v31:=Tryz.zeroValue44
  t46:=Tryz.underlying36
  a46:=Tryz.isAgg36
  z46:=Tryz.sizeOf36
  v46:=Tryz.zeroValue36
  t51:=Tryz.underlying154
  a51:=Tryz.isAgg154
  z51:=Tryz.sizeOf154
  v51:=Tryz.zeroValue154
  t105:=Tryz.underlying130
  a105:=Tryz.isAgg130
  z105:=Tryz.sizeOf130
  v105:=Tryz.zeroValue130
  t119:=Tryz.underlying150
  a119:=Tryz.isAgg150
  z119:=Tryz.sizeOf150
  t138:=Tryz.underlying152
  a138:=Tryz.isAgg152
  z138:=Tryz.sizeOf152
  v138:=Tryz.zeroValue152
  t139:=Tryz.underlying153
  a139:=Tryz.isAgg153
  z139:=Tryz.sizeOf153
  v139:=Tryz.zeroValue153
  t146:=Tryz.underlying155
  a146:=Tryz.isAgg155
  z146:=Tryz.sizeOf155
  v146:=Tryz.zeroValue155
  g1:=by kernel_rfl
  g3:=by kernel_rfl
  g4:=by kernel_rfl
  i0:=by kernel_rfl
  i3:=by kernel_rfl
  i4:=by kernel_rfl
  i5:=by kernel_rfl
  i9:=by kernel_rfl
  i21:=by kernel_rfl
  i31:=by kernel_rfl
  i46:=by kernel_rfl
  i51:=by kernel_rfl
  i105:=by kernel_rfl
  i138:=by kernel_rfl
  i139:=by kernel_rfl
  i146:=by kernel_rfl
  m1:=by kernel_rfl
  s1_3:=fun w h=>Go.Proofs.cell_of_shapedOpen_int (zero:=#[.int .i64 0]) (t:=3) h (of_decide_eq_true (by kernel_rfl)) (by kernel_rfl) rfl (by kernel_rfl) (by kernel_rfl) Tryz.underlying3
  m3:=by kernel_rfl
  m4:=by kernel_rfl }
open Go.RowKit Go.Lib in
/-- strings.Split, sep not empty. (LAID: no walk: one application.) -/
theorem Tryz.strings_Split_shaped (s sep:ByteArray) (w:World) (h:w.ShapedOpen Tryz.prog) (hs:s.size<4294967281) (h1:1≤sep.size):
    Calls Tryz.prog 39 #[.string s,.string sep] w fun e w'=>
      e=.returned (.slice (some ⟨w.heap.size,0,none⟩) (Lib.countB s sep+1) (Lib.countB s sep+1))∧w'=w.alloc (.cells ((Lib.splitB sep 0 (Lib.countB s sep) s).map Value.string).toArray 9):=Any.strings_Split_shaped Tryz.laysM146 s sep w h hs h1
def Tryz.lays204_ren:Go.Shelf.Ren:=⟨fun | 204=>122 | 262=>128 | 313=>132 | 274=>134 | 275=>135 | n=>n,fun | 21=>21 | 4=>4 | 3=>3 | 162=>180 | 203=>147 | 160=>181 | 46=>36 | 0=>0 | 208=>187 | 51=>154 | 206=>185 | n=>n,fun | 13=>3 | n=>n⟩
theorem Tryz.lays204:Go.Proofs.Lays.n204 Tryz.prog Tryz.lays204_ren:={
  mixed:=by kernel_rfl
  f204:=Tryz.func122.trans (congrArg some (by kernel_rfl))
  f262:=Tryz.func128.trans (congrArg some (by kernel_rfl))
  f274:=Tryz.func134.trans (congrArg some (by kernel_rfl))
  f275:=Tryz.func135.trans (congrArg some (by kernel_rfl))
  f313:=Tryz.func132.trans (congrArg some (by kernel_rfl))
  t0:=Tryz.underlying0
  a0:=Tryz.isAgg0
  z0:=Tryz.sizeOf0
  v0:=Tryz.zeroValue0
  t3:=Tryz.underlying3
  a3:=Tryz.isAgg3
  z3:=Tryz.sizeOf3
  v3:=Tryz.zeroValue3
  t4:=Tryz.underlying4
  a4:=Tryz.isAgg4
  z4:=Tryz.sizeOf4
  v4:=Tryz.zeroValue4
  t21:=Tryz.underlying21
  a21:=Tryz.isAgg21
  z21:=Tryz.sizeOf21
  v21:=Tryz.zeroValue21
  t46:=Tryz.underlying36
  a46:=Tryz.isAgg36
  z46:=Tryz.sizeOf36
  v46:=Tryz.zeroValue36
  t51:=Tryz.underlying154
  a51:=Tryz.isAgg154
  z51:=Tryz.sizeOf154
  v51:=Tryz.zeroValue154
  t160:=Tryz.underlying181
  a160:=Tryz.isAgg181
  z160:=Tryz.sizeOf181
  v160:=Tryz.zeroValue181
  t162:=Tryz.underlying180
  a162:=Tryz.isAgg180
  z162:=Tryz.sizeOf180
  v162:=Tryz.zeroValue180
  t203:=Tryz.underlying147
  a203:=Tryz.isAgg147
  z203:=Tryz.sizeOf147
  v203:=Tryz.zeroValue147
  t206:=Tryz.underlying185
  a206:=Tryz.isAgg185
  z206:=Tryz.sizeOf185
  v206:=Tryz.zeroValue185
  t208:=Tryz.underlying187
  a208:=Tryz.isAgg187
  z208:=Tryz.sizeOf187
  v208:=Tryz.zeroValue187
  g13:=by kernel_rfl }
open Go.RowKit Go.Lib in
theorem Tryz.unicode_ToLower (r:Int) (w:World) (h:r≤127):
    Calls Tryz.prog 122 #[.int .i32 r] w fun e w'=>e=.returned (.int .i32 (Lib.toLowerR r))∧w'=w:=Any.unicode_ToLower Tryz.lays204 r w h
def Tryz.lays197_ren:Go.Shelf.Ren:=⟨fun | 197=>94 | 260=>106 | n=>n,fun | 9=>9 | 21=>21 | 3=>3 | 4=>4 | 5=>5 | 105=>130 | 119=>150 | 0=>0 | 46=>36 | 139=>153 | 138=>152 | n=>n,fun | 3=>1 | 4=>2 | n=>n⟩
theorem Tryz.lays197:Go.Proofs.Lays.n197 Tryz.prog Tryz.lays197_ren:={
  mixed:=by kernel_rfl
  f197:=Tryz.func94.trans (congrArg some (by kernel_rfl))
  f260:=Tryz.func106.trans (congrArg some (by kernel_rfl))
  t0:=Tryz.underlying0
  a0:=Tryz.isAgg0
  z0:=Tryz.sizeOf0
  v0:=Tryz.zeroValue0
  t3:=Tryz.underlying3
  a3:=Tryz.isAgg3
  z3:=Tryz.sizeOf3
  v3:=Tryz.zeroValue3
  t4:=Tryz.underlying4
  a4:=Tryz.isAgg4
  z4:=Tryz.sizeOf4
  v4:=Tryz.zeroValue4
  t5:=Tryz.underlying5
  a5:=Tryz.isAgg5
  z5:=Tryz.sizeOf5
  v5:=Tryz.zeroValue5
  t9:=Tryz.underlying9
  a9:=Tryz.isAgg9
  z9:=Tryz.sizeOf9
  v9:=Tryz.zeroValue9
  t21:=Tryz.underlying21
  a21:=Tryz.isAgg21
  z21:=Tryz.sizeOf21
  v21:=Tryz.zeroValue21
  t46:=Tryz.underlying36
  a46:=Tryz.isAgg36
  z46:=Tryz.sizeOf36
  v46:=Tryz.zeroValue36
  t105:=Tryz.underlying130
  a105:=Tryz.isAgg130
  z105:=Tryz.sizeOf130
  v105:=Tryz.zeroValue130
  t119:=Tryz.underlying150
  a119:=Tryz.isAgg150
  z119:=Tryz.sizeOf150
  t138:=Tryz.underlying152
  a138:=Tryz.isAgg152
  z138:=Tryz.sizeOf152
  v138:=Tryz.zeroValue152
  t139:=Tryz.underlying153
  a139:=Tryz.isAgg153
  z139:=Tryz.sizeOf153
  v139:=Tryz.zeroValue153
  g3:=by kernel_rfl
  g4:=by kernel_rfl }
open Go.RowKit Go.Lib in
/-- unicode/utf8.DecodeRuneInString: "DecodeRuneInString is like DecodeRune but its input is a string.": ("DecodeRune unpacks the first UTF-8 encoding in p and returns the rune and its width in bytes."): WHERE s BEGINS WITH AN ASCII BYTE x: (x, 1). (LAID: no walk: one application.) -/
theorem Tryz.utf8_DecodeRuneInString_ascii (s:ByteArray) (x:UInt8) (w:World) (h0:s.data.toList[0]? = some x) (hx:x.toNat<128):
    Calls Tryz.prog 94 #[.string s] w fun e w'=>e=.returned (.tuple #[.int .i32 x.toNat,.int .i64 1])∧w'=w:=Any.utf8_DecodeRuneInString_ascii Tryz.lays197 s x w h0 hx
def Tryz.lays195_ren:Go.Shelf.Ren:=⟨fun | 195=>93 | n=>n,fun | 9=>9 | 3=>3 | 0=>0 | 4=>4 | n=>n,fun | n=>n⟩
theorem Tryz.lays195:Go.Proofs.Lays.n195 Tryz.prog Tryz.lays195_ren:={
  mixed:=by kernel_rfl
  f195:=Tryz.func93.trans (congrArg some (by kernel_rfl))
  t0:=Tryz.underlying0
  a0:=Tryz.isAgg0
  z0:=Tryz.sizeOf0
  v0:=Tryz.zeroValue0
  t3:=Tryz.underlying3
  a3:=Tryz.isAgg3
  z3:=Tryz.sizeOf3
  v3:=Tryz.zeroValue3
  t4:=Tryz.underlying4
  a4:=Tryz.isAgg4
  z4:=Tryz.sizeOf4
  v4:=Tryz.zeroValue4
  t9:=Tryz.underlying9
  a9:=Tryz.isAgg9
  z9:=Tryz.sizeOf9
  v9:=Tryz.zeroValue9 }
open Go.RowKit Go.Lib in
theorem Tryz.utf8_RuneCountInString_ascii (s:ByteArray) (w:World) (hs:s.size<4294967281) (hascii:∀ (j:Nat) b,s.data.toList[j]? = some b→b.toNat<128):
    Calls Tryz.prog 93 #[.string s] w fun e w'=>e=.returned (.int .i64 s.size)∧w'=w.iter s s.size:=Any.utf8_RuneCountInString_ascii Tryz.lays195 s w hs hascii
def Tryz.lays268_ren:Go.Shelf.Ren:=⟨fun | 268=>78 | 195=>93 | 197=>94 | 260=>106 | n=>n,fun | 9=>9 | 3=>3 | 31=>44 | 4=>4 | 105=>130 | 21=>21 | 0=>0 | 5=>5 | 119=>150 | 46=>36 | 139=>153 | 138=>152 | n=>n,fun | 3=>1 | 4=>2 | n=>n⟩
theorem Tryz.lays268:Go.Proofs.Lays.n268 Tryz.prog Tryz.lays268_ren:={
  mixed:=by kernel_rfl
  f195:=Tryz.func93.trans (congrArg some (by kernel_rfl))
  f197:=Tryz.func94.trans (congrArg some (by kernel_rfl))
  f260:=Tryz.func106.trans (congrArg some (by kernel_rfl))
  f268:=Tryz.func78.trans (congrArg some (by kernel_rfl))
  t0:=Tryz.underlying0
  a0:=Tryz.isAgg0
  z0:=Tryz.sizeOf0
  v0:=Tryz.zeroValue0
  t3:=Tryz.underlying3
  a3:=Tryz.isAgg3
  z3:=Tryz.sizeOf3
  v3:=Tryz.zeroValue3
  t4:=Tryz.underlying4
  a4:=Tryz.isAgg4
  z4:=Tryz.sizeOf4
  v4:=Tryz.zeroValue4
  t5:=Tryz.underlying5
  a5:=Tryz.isAgg5
  z5:=Tryz.sizeOf5
  v5:=Tryz.zeroValue5
  t9:=Tryz.underlying9
  a9:=Tryz.isAgg9
  z9:=Tryz.sizeOf9
  v9:=Tryz.zeroValue9
  t21:=Tryz.underlying21
  a21:=Tryz.isAgg21
  z21:=Tryz.sizeOf21
  v21:=Tryz.zeroValue21
  t31:=Tryz.underlying44
  a31:=Tryz.isAgg44
  z31:=Tryz.sizeOf44
  v31:=Tryz.zeroValue44
  t46:=Tryz.underlying36
  a46:=Tryz.isAgg36
  z46:=Tryz.sizeOf36
  v46:=Tryz.zeroValue36
  t105:=Tryz.underlying130
  a105:=Tryz.isAgg130
  z105:=Tryz.sizeOf130
  v105:=Tryz.zeroValue130
  t119:=Tryz.underlying150
  a119:=Tryz.isAgg150
  z119:=Tryz.sizeOf150
  t138:=Tryz.underlying152
  a138:=Tryz.isAgg152
  z138:=Tryz.sizeOf152
  v138:=Tryz.zeroValue152
  t139:=Tryz.underlying153
  a139:=Tryz.isAgg153
  z139:=Tryz.sizeOf153
  v139:=Tryz.zeroValue153
  g3:=by kernel_rfl
  g4:=by kernel_rfl }
open Go.RowKit Go.Lib in
theorem Tryz.strings_explode_all (s:ByteArray) (n:Int) (w:World) (hn:n<0) (hs:s.size<4294967281) (hascii:∀ (j:Nat) b,s.data.toList[j]? = some b→b.toNat<128):
    Calls Tryz.prog 78 #[.string s,.int .i64 n] w fun e w'=>
      e=.returned (.slice (some ⟨(w.iter s s.size).heap.size,0,none⟩) s.size s.size)∧w'=(w.iter s s.size).alloc (.cells ((Lib.charsB s).map Value.string).toArray 9):=Any.strings_explode_all Tryz.lays268 (by kernel_rfl) s n w hn hs hascii
open Go.RowKit Go.Lib in
/-- strings.genSplit at sep == "", n < 0: 'return explode(s, n)'. (LAID: no walk: one application.) -/
theorem Tryz.strings_genSplit_chars (s sep:ByteArray) (sv n:Int) (w:World) (h0:sep.size=0) (hn:n<0) (hs:s.size<4294967281) (hascii:∀ (j:Nat) b,s.data.toList[j]? = some b→b.toNat<128):
    Calls Tryz.prog 60 #[.string s,.string sep,.int .i64 sv,.int .i64 n] w fun e w'=>
      e=.returned (.slice (some ⟨(w.iter s s.size).heap.size,0,none⟩) s.size s.size)∧w'=(w.iter s s.size).alloc (.cells ((Lib.charsB s).map Value.string).toArray 9):=Any.strings_genSplit_chars Tryz.lays221 (by kernel_rfl) s sep sv n w h0 hn hs hascii
open Go.RowKit Go.Lib in
/-- strings.Split(s, ""), s ASCII: a piece a byte. (LAID: no walk: one application.) -/
theorem Tryz.strings_Split_chars (s sep:ByteArray) (w:World) (h0:sep.size=0) (hs:s.size<4294967281) (hascii:∀ (j:Nat) b,s.data.toList[j]? = some b→b.toNat<128):
    Calls Tryz.prog 39 #[.string s,.string sep] w fun e w'=>
      e=.returned (.slice (some ⟨(w.iter s s.size).heap.size,0,none⟩) s.size s.size)∧w'=(w.iter s s.size).alloc (.cells ((Lib.charsB s).map Value.string).toArray 9):=Any.strings_Split_chars Tryz.lays146 (by kernel_rfl) s sep w h0 hs hascii
def Tryz.lays260_ren:Go.Shelf.Ren:=⟨fun | 260=>106 | n=>n,fun | 9=>9 | 21=>21 | 3=>3 | 4=>4 | 5=>5 | 119=>150 | 0=>0 | 46=>36 | 139=>153 | 138=>152 | n=>n,fun | 3=>1 | 4=>2 | n=>n⟩
theorem Tryz.lays260:Go.Proofs.Lays.n260 Tryz.prog Tryz.lays260_ren:={
  mixed:=by kernel_rfl
  f260:=Tryz.func106.trans (congrArg some (by kernel_rfl))
  t0:=Tryz.underlying0
  a0:=Tryz.isAgg0
  z0:=Tryz.sizeOf0
  v0:=Tryz.zeroValue0
  t3:=Tryz.underlying3
  a3:=Tryz.isAgg3
  z3:=Tryz.sizeOf3
  v3:=Tryz.zeroValue3
  t4:=Tryz.underlying4
  a4:=Tryz.isAgg4
  z4:=Tryz.sizeOf4
  v4:=Tryz.zeroValue4
  t5:=Tryz.underlying5
  a5:=Tryz.isAgg5
  z5:=Tryz.sizeOf5
  v5:=Tryz.zeroValue5
  t9:=Tryz.underlying9
  a9:=Tryz.isAgg9
  z9:=Tryz.sizeOf9
  v9:=Tryz.zeroValue9
  t21:=Tryz.underlying21
  a21:=Tryz.isAgg21
  z21:=Tryz.sizeOf21
  v21:=Tryz.zeroValue21
  t46:=Tryz.underlying36
  a46:=Tryz.isAgg36
  z46:=Tryz.sizeOf36
  v46:=Tryz.zeroValue36
  t119:=Tryz.underlying150
  a119:=Tryz.isAgg150
  z119:=Tryz.sizeOf150
  t138:=Tryz.underlying152
  a138:=Tryz.isAgg152
  z138:=Tryz.sizeOf152
  v138:=Tryz.zeroValue152
  t139:=Tryz.underlying153
  a139:=Tryz.isAgg153
  z139:=Tryz.sizeOf153
  v139:=Tryz.zeroValue153
  g3:=by kernel_rfl
  g4:=by kernel_rfl }
open Go.RowKit Go.Lib in
theorem Tryz.utf8_decodeRuneInStringSlow (s:ByteArray) (w:World) (hT:Lib.Utf8Tabs 1 2 w):
    Calls Tryz.prog 106 #[.string s] w fun e w'=>e=.returned (.tuple #[.int .i32 (Lib.decodeGo s).1,.int .i64 (Lib.decodeGo s).2])∧Below w.heap.size w w':=Any.utf8_decodeRuneInStringSlow Tryz.lays260 s w hT
open Go.RowKit Go.Lib in
/-- **unicode/utf8.DecodeRuneInString AT EVERY STRING.** (LAID: no walk: one application.) -/
theorem Tryz.utf8_DecodeRuneInString (s:ByteArray) (w:World) (hT:Lib.Utf8Tabs 1 2 w):
    Calls Tryz.prog 94 #[.string s] w fun e w'=>e=.returned (.tuple #[.int .i32 (Lib.decodeGo s).1,.int .i64 (Lib.decodeGo s).2])∧Below w.heap.size w w':=Any.utf8_DecodeRuneInString Tryz.lays197 s w hT
def Tryz.lays274_ren:Go.Shelf.Ren:=⟨fun | 274=>134 | n=>n,fun | 21=>21 | 162=>180 | 160=>181 | 3=>3 | 4=>4 | 46=>36 | 0=>0 | 208=>187 | 51=>154 | 206=>185 | n=>n,fun | n=>n⟩
theorem Tryz.lays274:Go.Proofs.Lays.n274 Tryz.prog Tryz.lays274_ren:={
  mixed:=by kernel_rfl
  f274:=Tryz.func134.trans (congrArg some (by kernel_rfl))
  t0:=Tryz.underlying0
  a0:=Tryz.isAgg0
  z0:=Tryz.sizeOf0
  v0:=Tryz.zeroValue0
  t3:=Tryz.underlying3
  a3:=Tryz.isAgg3
  z3:=Tryz.sizeOf3
  v3:=Tryz.zeroValue3
  t4:=Tryz.underlying4
  a4:=Tryz.isAgg4
  z4:=Tryz.sizeOf4
  v4:=Tryz.zeroValue4
  t21:=Tryz.underlying21
  a21:=Tryz.isAgg21
  z21:=Tryz.sizeOf21
  v21:=Tryz.zeroValue21
  t46:=Tryz.underlying36
  a46:=Tryz.isAgg36
  z46:=Tryz.sizeOf36
  v46:=Tryz.zeroValue36
  t51:=Tryz.underlying154
  a51:=Tryz.isAgg154
  z51:=Tryz.sizeOf154
  v51:=Tryz.zeroValue154
  t160:=Tryz.underlying181
  a160:=Tryz.isAgg181
  z160:=Tryz.sizeOf181
  v160:=Tryz.zeroValue181
  t162:=Tryz.underlying180
  a162:=Tryz.isAgg180
  z162:=Tryz.sizeOf180
  v162:=Tryz.zeroValue180
  t208:=Tryz.underlying187
  a208:=Tryz.isAgg187
  z208:=Tryz.sizeOf187
  v208:=Tryz.zeroValue187 }
open Go.RowKit Go.Lib in
theorem Tryz.unicode_lookupCaseRange (T:Array CaseRow) (R oR cap:Nat) (r:Int) (w:World) (hT:CaseTab R oR T w) (hok:CaseOk T) (hn:T.size≤1000000000):
    Calls Tryz.prog 134 #[.int .i32 r,.slice (some ⟨R,oR,none⟩) T.size cap] w fun e w'=>
      e=.returned (match lookupIdx T r (T.size+1) 0 T.size with | some i=>.pointer (some ⟨R,oR+i*5,none⟩) | none=>.pointer none)∧w'=w:=Any.unicode_lookupCaseRange Tryz.lays274 T R oR cap r w hT hok hn
def Tryz.lays275_ren:Go.Shelf.Ren:=⟨fun | 275=>135 | n=>n,fun | 3=>3 | 21=>21 | 160=>181 | 0=>0 | 208=>187 | 206=>185 | 4=>4 | 51=>154 | n=>n,fun | n=>n⟩
theorem Tryz.lays275:Go.Proofs.Lays.n275 Tryz.prog Tryz.lays275_ren:={
  mixed:=by kernel_rfl
  f275:=Tryz.func135.trans (congrArg some (by kernel_rfl))
  t0:=Tryz.underlying0
  a0:=Tryz.isAgg0
  z0:=Tryz.sizeOf0
  v0:=Tryz.zeroValue0
  t3:=Tryz.underlying3
  a3:=Tryz.isAgg3
  z3:=Tryz.sizeOf3
  v3:=Tryz.zeroValue3
  t4:=Tryz.underlying4
  a4:=Tryz.isAgg4
  z4:=Tryz.sizeOf4
  v4:=Tryz.zeroValue4
  t21:=Tryz.underlying21
  a21:=Tryz.isAgg21
  z21:=Tryz.sizeOf21
  v21:=Tryz.zeroValue21
  t51:=Tryz.underlying154
  a51:=Tryz.isAgg154
  z51:=Tryz.sizeOf154
  v51:=Tryz.zeroValue154
  t160:=Tryz.underlying181
  a160:=Tryz.isAgg181
  z160:=Tryz.sizeOf181
  v160:=Tryz.zeroValue181
  t206:=Tryz.underlying185
  a206:=Tryz.isAgg185
  z206:=Tryz.sizeOf185
  v206:=Tryz.zeroValue185
  t208:=Tryz.underlying187
  a208:=Tryz.isAgg187
  z208:=Tryz.sizeOf187
  v208:=Tryz.zeroValue187 }
open Go.RowKit Go.Lib in
theorem Tryz.unicode_convertCase (c:Nat) (hc:c<3) (r:Int) (A o:Nat) (x:CaseRow) (w:World) (hlo:(x.1:Int)≤r) (hhi:r≤(x.2.1:Int)) (hH:x.2.1<2147483647) (c0:w.cell? ⟨A,o,none⟩=some (.int .u32 x.1)) (cD:w.cell? ⟨A,o+2+c,none⟩=some (.int .i32 (x.delta c))):
    Calls Tryz.prog 135 #[.int .i64 c,.int .i32 r,.pointer (some ⟨A,o,none⟩)] w fun e w'=>e=.returned (.int .i32 (wrap32 (convertR c r x))) ∧ ∃ q,w'=w.drewN q:=Any.unicode_convertCase Tryz.lays275 c hc r A o x w hlo hhi hH c0 cD
def Tryz.lays313_ren:Go.Shelf.Ren:=⟨fun | 313=>132 | 274=>134 | 275=>135 | n=>n,fun | 3=>3 | 21=>21 | 162=>180 | 4=>4 | 160=>181 | 46=>36 | 0=>0 | 208=>187 | 51=>154 | 206=>185 | n=>n,fun | n=>n⟩
theorem Tryz.lays313:Go.Proofs.Lays.n313 Tryz.prog Tryz.lays313_ren:={
  mixed:=by kernel_rfl
  f274:=Tryz.func134.trans (congrArg some (by kernel_rfl))
  f275:=Tryz.func135.trans (congrArg some (by kernel_rfl))
  f313:=Tryz.func132.trans (congrArg some (by kernel_rfl))
  t0:=Tryz.underlying0
  a0:=Tryz.isAgg0
  z0:=Tryz.sizeOf0
  v0:=Tryz.zeroValue0
  t3:=Tryz.underlying3
  a3:=Tryz.isAgg3
  z3:=Tryz.sizeOf3
  v3:=Tryz.zeroValue3
  t4:=Tryz.underlying4
  a4:=Tryz.isAgg4
  z4:=Tryz.sizeOf4
  v4:=Tryz.zeroValue4
  t21:=Tryz.underlying21
  a21:=Tryz.isAgg21
  z21:=Tryz.sizeOf21
  v21:=Tryz.zeroValue21
  t46:=Tryz.underlying36
  a46:=Tryz.isAgg36
  z46:=Tryz.sizeOf36
  v46:=Tryz.zeroValue36
  t51:=Tryz.underlying154
  a51:=Tryz.isAgg154
  z51:=Tryz.sizeOf154
  v51:=Tryz.zeroValue154
  t160:=Tryz.underlying181
  a160:=Tryz.isAgg181
  z160:=Tryz.sizeOf181
  v160:=Tryz.zeroValue181
  t162:=Tryz.underlying180
  a162:=Tryz.isAgg180
  z162:=Tryz.sizeOf180
  v162:=Tryz.zeroValue180
  t206:=Tryz.underlying185
  a206:=Tryz.isAgg185
  z206:=Tryz.sizeOf185
  v206:=Tryz.zeroValue185
  t208:=Tryz.underlying187
  a208:=Tryz.isAgg187
  z208:=Tryz.sizeOf187
  v208:=Tryz.zeroValue187 }
open Go.RowKit Go.Lib in
theorem Tryz.unicode_to (c:Nat) (hc:c<3) (r:Int) (T:Array CaseRow) (R oR cap:Nat) (w:World) (hT:CaseTab R oR T w) (hok:CaseOk2 T) (hn:T.size≤1000000000):
    Calls Tryz.prog 132 #[.int .i64 c,.int .i32 r,.slice (some ⟨R,oR,none⟩) T.size cap] w fun e w'=>e=.returned (.tuple #[.int .i32 (toW T c r),.bool (lookupIdx T r (T.size+1) 0 T.size).isSome]) ∧ ∃ q,w'=w.drewN q:=Any.unicode_to Tryz.lays313 c hc r T R oR cap w hT hok hn
def Tryz.lays262_ren:Go.Shelf.Ren:=⟨fun | 262=>128 | 313=>132 | 274=>134 | 275=>135 | n=>n,fun | 3=>3 | 21=>21 | 162=>180 | 203=>147 | 4=>4 | 160=>181 | 46=>36 | 0=>0 | 208=>187 | 51=>154 | 206=>185 | n=>n,fun | 13=>3 | n=>n⟩
theorem Tryz.lays262:Go.Proofs.Lays.n262 Tryz.prog Tryz.lays262_ren:={
  mixed:=by kernel_rfl
  f262:=Tryz.func128.trans (congrArg some (by kernel_rfl))
  f274:=Tryz.func134.trans (congrArg some (by kernel_rfl))
  f275:=Tryz.func135.trans (congrArg some (by kernel_rfl))
  f313:=Tryz.func132.trans (congrArg some (by kernel_rfl))
  t0:=Tryz.underlying0
  a0:=Tryz.isAgg0
  z0:=Tryz.sizeOf0
  v0:=Tryz.zeroValue0
  t3:=Tryz.underlying3
  a3:=Tryz.isAgg3
  z3:=Tryz.sizeOf3
  v3:=Tryz.zeroValue3
  t4:=Tryz.underlying4
  a4:=Tryz.isAgg4
  z4:=Tryz.sizeOf4
  v4:=Tryz.zeroValue4
  t21:=Tryz.underlying21
  a21:=Tryz.isAgg21
  z21:=Tryz.sizeOf21
  v21:=Tryz.zeroValue21
  t46:=Tryz.underlying36
  a46:=Tryz.isAgg36
  z46:=Tryz.sizeOf36
  v46:=Tryz.zeroValue36
  t51:=Tryz.underlying154
  a51:=Tryz.isAgg154
  z51:=Tryz.sizeOf154
  v51:=Tryz.zeroValue154
  t160:=Tryz.underlying181
  a160:=Tryz.isAgg181
  z160:=Tryz.sizeOf181
  v160:=Tryz.zeroValue181
  t162:=Tryz.underlying180
  a162:=Tryz.isAgg180
  z162:=Tryz.sizeOf180
  v162:=Tryz.zeroValue180
  t203:=Tryz.underlying147
  a203:=Tryz.isAgg147
  z203:=Tryz.sizeOf147
  v203:=Tryz.zeroValue147
  t206:=Tryz.underlying185
  a206:=Tryz.isAgg185
  z206:=Tryz.sizeOf185
  v206:=Tryz.zeroValue185
  t208:=Tryz.underlying187
  a208:=Tryz.isAgg187
  z208:=Tryz.sizeOf187
  v208:=Tryz.zeroValue187
  g13:=by kernel_rfl }
open Go.RowKit Go.Lib in
theorem Tryz.unicode_To (c:Nat) (hc:c<3) (r:Int) (T:Array CaseRow) (w:World) (hV:CaseVar 3 T w) (hok:CaseOk2 T) (hn:T.size≤1000000000):
    Calls Tryz.prog 128 #[.int .i64 c,.int .i32 r] w fun e w'=>e=.returned (.int .i32 (toW T c r)) ∧ ∃ q,w'=w.drewN q:=Any.unicode_To Tryz.lays262 c hc r T w hV hok hn
open Go.RowKit Go.Lib in
theorem Tryz.unicode_ToLower_any (r:Int) (T:Array CaseRow) (w:World) (hV:CaseVar 3 T w) (hok:CaseOk2 T) (hn:T.size≤1000000000):
    Calls Tryz.prog 122 #[.int .i32 r] w fun e w'=>e=.returned (.int .i32 (Lib.toLowerW T r)) ∧ ∃ q,w'=w.drewN q:=Any.unicode_ToLower_any Tryz.lays204 r T w hV hok hn
open Go.RowKit Go.Lib in
theorem Tryz.unicode_ToLower_laid (r:Int) (w:World) (hV:CaseVar 3 caseA w):
    Calls Tryz.prog 122 #[.int .i32 r] w fun e w'=>e=.returned (.int .i32 (toLowerU r)) ∧ ∃ q,w'=w.drewN q:=Any.unicode_ToLower_laid Tryz.lays204 r w hV
def Tryz.lays270_ren:Go.Shelf.Ren:=⟨fun | 270=>127 | n=>n,fun | 70=>158 | 3=>3 | 0=>0 | 72=>160 | 37=>70 | 5=>5 | n=>n,fun | n=>n⟩
theorem Tryz.lays270:Go.Proofs.Lays.n270 Tryz.prog Tryz.lays270_ren:={
  mixed:=by kernel_rfl
  f270:=Tryz.func127.trans (congrArg some (by kernel_rfl))
  t0:=Tryz.underlying0
  a0:=Tryz.isAgg0
  z0:=Tryz.sizeOf0
  v0:=Tryz.zeroValue0
  t3:=Tryz.underlying3
  a3:=Tryz.isAgg3
  z3:=Tryz.sizeOf3
  v3:=Tryz.zeroValue3
  t37:=Tryz.underlying70
  a37:=Tryz.isAgg70
  z37:=Tryz.sizeOf70
  v37:=Tryz.zeroValue70
  t70:=Tryz.underlying158
  a70:=Tryz.isAgg158
  z70:=Tryz.sizeOf158
  v70:=Tryz.zeroValue158
  t72:=Tryz.underlying160
  a72:=Tryz.isAgg160
  z72:=Tryz.sizeOf160
  v72:=Tryz.zeroValue160 }
open Go.RowKit Go.Lib in
/-- (*strings.Builder).Cap: "Cap returns the capacity of the builder's underlying byte slice." (LAID: no walk: one application.) -/
theorem Tryz.Builder_Cap_cell (b:Nat) (p:Option Addr) (n cap:Nat) (w:World) (c1:w.cell? ⟨b,1,none⟩=some (.slice p n cap)):
    Calls Tryz.prog 127 #[.pointer (some ⟨b,0,none⟩)] w fun e w'=>e=.returned (.int .i64 cap)∧w'=w:=Any.Builder_Cap_cell Tryz.lays270 b p n cap w c1
def Tryz.lays230_ren:Go.Shelf.Ren:=⟨fun | 230=>121 | 197=>94 | 118=>125 | 165=>117 | 166=>118 | 168=>126 | 270=>127 | 167=>119 | 169=>120 | 260=>106 | 240=>123 | 241=>124 | 242=>131 | 276=>129 | 277=>130 | 278=>133 | n=>n,fun | 107=>169 | 9=>9 | 72=>160 | 0=>0 | 4=>4 | 3=>3 | 21=>21 | 105=>130 | 76=>164 | 5=>5 | 75=>163 | 70=>158 | 20=>20 | 37=>70 | 127=>170 | 119=>150 | 46=>36 | 139=>153 | 138=>152 | 164=>175 | 51=>154 | 80=>167 | n=>n,fun | 3=>1 | 4=>2 | n=>n⟩
theorem Tryz.lays230:Go.Proofs.Lays.n230 Tryz.prog Tryz.lays230_ren:={
  mixed:=by kernel_rfl
  f118:=Tryz.func125.trans (congrArg some (by kernel_rfl))
  f165:=Tryz.func117.trans (congrArg some (by kernel_rfl))
  f166:=Tryz.func118.trans (congrArg some (by kernel_rfl))
  f167:=Tryz.func119.trans (congrArg some (by kernel_rfl))
  f168:=Tryz.func126.trans (congrArg some (by kernel_rfl))
  f169:=Tryz.func120.trans (congrArg some (by kernel_rfl))
  f197:=Tryz.func94.trans (congrArg some (by kernel_rfl))
  f230:=Tryz.func121.trans (congrArg some (by kernel_rfl))
  f240:=Tryz.func123.trans (congrArg some (by kernel_rfl))
  f241:=Tryz.func124.trans (congrArg some (by kernel_rfl))
  f242:=Tryz.func131.trans (congrArg some (by kernel_rfl))
  f260:=Tryz.func106.trans (congrArg some (by kernel_rfl))
  f270:=Tryz.func127.trans (congrArg some (by kernel_rfl))
  f276:=Tryz.func129.trans (congrArg some (by kernel_rfl))
  f277:=Tryz.func130.trans (congrArg some (by kernel_rfl))
  f278:=Tryz.func133.trans (congrArg some (by kernel_rfl))
  t0:=Tryz.underlying0
  a0:=Tryz.isAgg0
  z0:=Tryz.sizeOf0
  v0:=Tryz.zeroValue0
  t3:=Tryz.underlying3
  a3:=Tryz.isAgg3
  z3:=Tryz.sizeOf3
  v3:=Tryz.zeroValue3
  t4:=Tryz.underlying4
  a4:=Tryz.isAgg4
  z4:=Tryz.sizeOf4
  v4:=Tryz.zeroValue4
  t5:=Tryz.underlying5
  a5:=Tryz.isAgg5
  z5:=Tryz.sizeOf5
  v5:=Tryz.zeroValue5
  t9:=Tryz.underlying9
  a9:=Tryz.isAgg9
  z9:=Tryz.sizeOf9
  v9:=Tryz.zeroValue9
  t20:=Tryz.underlying20
  a20:=Tryz.isAgg20
  z20:=Tryz.sizeOf20
  v20:=Tryz.zeroValue20
  t21:=Tryz.underlying21
  a21:=Tryz.isAgg21
  z21:=Tryz.sizeOf21
  v21:=Tryz.zeroValue21
  t37:=Tryz.underlying70
  a37:=Tryz.isAgg70
  z37:=Tryz.sizeOf70
  v37:=Tryz.zeroValue70
  t46:=Tryz.underlying36
  a46:=Tryz.isAgg36
  z46:=Tryz.sizeOf36
  v46:=Tryz.zeroValue36
  t51:=Tryz.underlying154
  a51:=Tryz.isAgg154
  z51:=Tryz.sizeOf154
  v51:=Tryz.zeroValue154
  t70:=Tryz.underlying158
  a70:=Tryz.isAgg158
  z70:=Tryz.sizeOf158
  v70:=Tryz.zeroValue158
  t72:=Tryz.underlying160
  a72:=Tryz.isAgg160
  z72:=Tryz.sizeOf160
  v72:=Tryz.zeroValue160
  t75:=Tryz.underlying163
  a75:=Tryz.isAgg163
  z75:=Tryz.sizeOf163
  v75:=Tryz.zeroValue163
  t76:=Tryz.underlying164
  a76:=Tryz.isAgg164
  z76:=Tryz.sizeOf164
  v76:=Tryz.zeroValue164
  t105:=Tryz.underlying130
  a105:=Tryz.isAgg130
  z105:=Tryz.sizeOf130
  v105:=Tryz.zeroValue130
  t107:=Tryz.underlying169
  a107:=Tryz.isAgg169
  z107:=Tryz.sizeOf169
  v107:=Tryz.zeroValue169
  t119:=Tryz.underlying150
  a119:=Tryz.isAgg150
  z119:=Tryz.sizeOf150
  t127:=Tryz.underlying170
  a127:=Tryz.isAgg170
  z127:=Tryz.sizeOf170
  v127:=Tryz.zeroValue170
  t138:=Tryz.underlying152
  a138:=Tryz.isAgg152
  z138:=Tryz.sizeOf152
  v138:=Tryz.zeroValue152
  t139:=Tryz.underlying153
  a139:=Tryz.isAgg153
  z139:=Tryz.sizeOf153
  v139:=Tryz.zeroValue153
  t164:=Tryz.underlying175
  a164:=Tryz.isAgg175
  z164:=Tryz.sizeOf175
  v164:=Tryz.zeroValue175
  g3:=by kernel_rfl
  g4:=by kernel_rfl }
theorem Tryz.Builder_Extra_230:Builder.Extra Tryz.prog Tryz.lays230_ren:={
  sizeBuilder:=by kernel_rfl
  liesBuilder:=by kernel_rfl
  t5:=Tryz.underlying5
  a5:=Tryz.isAgg5
  z5:=Tryz.sizeOf5
  v5:=Tryz.zeroValue5
  infoByte:=by kernel_rfl
  cellsByte:=by kernel_rfl
  sizeByte:=by kernel_rfl
  neB5:=by decide }
open Go.RowKit Go.Lib in
theorem Tryz.strings_Map_runes (g:Nat) (lb:Array Value) (eg:∀ args w,(callFunc g args).run Tryz.prog w=.ok (.enter g args) w) (f:Int→Int) (s:ByteArray) (w:World) (hs:s.size<35184372088832) (hf:MapAtRunes Tryz.prog g lb f w) (hnn:∀ x:Nat,x≤1114111→0≤f x∧f x≤2147483647) (hT:Lib.Utf8Tabs 1 2 w):
    Calls Tryz.prog 121 #[.func (.func g) #[] lb,.string s] w fun e w'=>e=.returned (.string ⟨(Lib.mapD f s.data.toList).toArray⟩)∧Below w.heap.size w w':=Any.strings_Map_runes Tryz.lays230 Tryz.Builder_Extra_230 g lb eg f s w hs hf hnn hT
open Go.RowKit Go.Lib in
theorem Tryz.strings_ToLower_beyond (s:ByteArray) (w:World) (hs:s.size<35184372088832) (hhigh:∃ (j:Nat) (b:UInt8),s.data.toList[j]? = some b∧128≤b.toNat) (hV:CaseVar 3 caseA w) (hT:Lib.Utf8Tabs 1 2 w):
    Calls Tryz.prog 115 #[.string s] w fun e w'=>e=.returned (.string ⟨(Lib.toLowerD s.data.toList).toArray⟩)∧Below w.heap.size w w':=Any.strings_ToLower_beyond Tryz.lays159 Tryz.Builder_Extra_159 s w hs hhigh hV hT
open Go.RowKit Go.Lib in
/-- **strings.ToLower AT EVERY STRING, VALID UTF-8 OR NOT.** (LAID: no walk: one application.) -/
theorem Tryz.strings_ToLower_any (s:ByteArray) (w:World) (hs:s.size<35184372088832) (hV:CaseVar 3 caseA w) (hT:Lib.Utf8Tabs 1 2 w):
    Calls Tryz.prog 115 #[.string s] w fun e w'=>e=.returned (.string ⟨(Lib.toLowerD s.data.toList).toArray⟩)∧Below w.heap.size w w':=Any.strings_ToLower_any Tryz.lays159 Tryz.Builder_Extra_159 s w hs hV hT
def Tryz.lays193_ren:Go.Shelf.Ren:=⟨fun | 193=>89 | n=>n,fun | 31=>44 | 9=>9 | 4=>4 | 3=>3 | 0=>0 | n=>n,fun | n=>n⟩
theorem Tryz.lays193:Go.Proofs.Lays.n193 Tryz.prog Tryz.lays193_ren:={
  mixed:=by kernel_rfl
  f193:=Tryz.func89.trans (congrArg some (by kernel_rfl))
  t0:=Tryz.underlying0
  a0:=Tryz.isAgg0
  z0:=Tryz.sizeOf0
  v0:=Tryz.zeroValue0
  t3:=Tryz.underlying3
  a3:=Tryz.isAgg3
  z3:=Tryz.sizeOf3
  v3:=Tryz.zeroValue3
  t4:=Tryz.underlying4
  a4:=Tryz.isAgg4
  z4:=Tryz.sizeOf4
  v4:=Tryz.zeroValue4
  t9:=Tryz.underlying9
  a9:=Tryz.isAgg9
  z9:=Tryz.sizeOf9
  v9:=Tryz.zeroValue9
  t31:=Tryz.underlying44
  a31:=Tryz.isAgg44
  z31:=Tryz.sizeOf44
  v31:=Tryz.zeroValue44 }
open Go.RowKit Go.Lib in
/-- slices.Equal at []string: "Equal reports whether two slices are equal: the same length and all elements equal. If the lengths are different, Equal returns false. Otherwise, the elements are compared in increasing index order, and the comparison stops at the first unequal pair. Empty and nil slices are considered equal.": IT RETURNS WHETHER THE TWO LISTS OF ELEMENTS ARE ONE; the world is as it was but for the count of draws (the test 's1[i] != s2[i]' has two reads, whose order the model draws, once a round). 'xs', 'ys': what the cells behind the two addresses hold (the spare capacity too, if you have it); 'xs.take n', 'ys.take m': the elements. THE TWO SLICES MAY OVERLAP. (LAID: no walk: one application.) -/
theorem Tryz.slices_Equal_string (b1 o1 n c b2 o2 m d:Nat) (xs ys:List ByteArray) (w:World) (hx:n≤xs.length) (hy:m≤ys.length) (hbig:n≤9223372036854775807) (hbig2:m≤9223372036854775807) (hc1:∀ j,j<xs.length→w.cell? ⟨b1,o1+j,none⟩=some (.string (xs.getD j ByteArray.empty))) (hc2:∀ j,j<ys.length→w.cell? ⟨b2,o2+j,none⟩=some (.string (ys.getD j ByteArray.empty))):
    Calls Tryz.prog 89 #[.slice (some ⟨b1,o1,none⟩) n c,.slice (some ⟨b2,o2,none⟩) m d] w fun e w'=>e=.returned (.bool (decide (xs.take n=ys.take m))) ∧ ∃ q,w'=w.drewN q:=Any.slices_Equal_string Tryz.lays193 b1 o1 n c b2 o2 m d xs ys w hx hy hbig hbig2 hc1 hc2
open Go.RowKit Go.Lib in
/-- The same where the first is of length 0 (a nil one too): no cell is asked for. (LAID: no walk: one application.) -/
theorem Tryz.slices_Equal_string_empty (a1 a2:Option Addr) (c m d:Nat) (w:World) (hbig2:m≤9223372036854775807):
    Calls Tryz.prog 89 #[.slice a1 0 c,.slice a2 m d] w fun e w'=>e=.returned (.bool (decide (m=0)))∧w'=w:=Any.slices_Equal_string_empty Tryz.lays193 a1 a2 c m d w hbig2
open Go.RowKit Go.Lib in
theorem Tryz.slices_Equal_string_lens (a1 a2:Option Addr) (n c m d:Nat) (w:World) (hnm:n≠m):
    Calls Tryz.prog 89 #[.slice a1 n c,.slice a2 m d] w fun e w'=>e=.returned (.bool false)∧w'=w:=Any.slices_Equal_string_lens Tryz.lays193 a1 a2 n c m d w hnm
end Go.Proofs
