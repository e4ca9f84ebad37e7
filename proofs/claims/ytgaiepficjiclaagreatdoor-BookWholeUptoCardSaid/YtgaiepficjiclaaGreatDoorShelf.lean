/-
  DERIVED: THE SHELF's CONTRACTS AT THIS DUMP, IN PLAIN WORDS (tools/lay-plain.mjs out of 'TryzShelf.lean', which tools/lay-shelf.mjs wrote): THE SAME DECLARATIONS UNDER THE SAME NAMES: 'import', 'namespace', 'open', 'def', 'theorem' AND NOTHING ELSE: no command of the shelf's: FOR A HAND-IN. Each laying: the table of numbers ('.._ren') and one theorem, a field a fact of the dump's own or the kernel's comparison; each contract: ONE APPLICATION.
-/
import Derived.Shelf.Strings.Builder1
import Derived.Shelf.Strings.Builder2
import Derived.Shelf.Strings.OnBuilder
import Derived.Shelf.Small.Utf8
import Derived.Shelf.Small.Bits
import Derived.Shelf.Small.Strs
import Derived.Shelf.Strings.BuilderF
import Derived.Shelf.Strings.BuilderK
import Derived.Shelf.Strings.BuilderRune
import Derived.Shelf.Strconv.Itoa0
import Derived.Shelf.Strings.Search1
import Derived.Shelf.Sort.Plain
import Derived.Shelf.Unicode.Latin
import Derived.Shelf.Unicode.Decode
import Derived.Shelf.Unicode.DecodeSlow
import Derived.Shelf.Unicode.DecodeAny
import Derived.Shelf.Unicode.CaseLookup
import Derived.Shelf.Unicode.CaseConvert
import Derived.Shelf.Unicode.CaseTo
import Derived.Shelf.Unicode.CaseLaid
import Derived.Shelf.Strings.MapAny
import Derived.Shelf.Strings.CaseAny
import Derived.Shelf.Slices.CompactS
import Derived.Shelf.Slices.Cells
import Derived.Shelf.Slices.In.SortNone
import Derived.Test.YtgaiepficjiclaaGreatDoorProg
namespace Go.Proofs
open Go.Shelf
def Tryz.lays169_ren : Go.Shelf.Ren := ⟨fun | 169 => 107 | n => n, fun | 70 => 151 | 9 => 9 | 0 => 0 | 72 => 153 | 37 => 62 | 127 => 163 | 3 => 3 | 5 => 5 | n => n, fun | n => n⟩
theorem Tryz.lays169 : Go.Proofs.Lays.n169 Tryz.prog Tryz.lays169_ren := {
  mixed := by kernel_rfl
  f169 := Tryz.func107.trans (congrArg some (by kernel_rfl))
  t0 := Tryz.underlying0
  a0 := Tryz.isAgg0
  z0 := Tryz.sizeOf0
  v0 := Tryz.zeroValue0
  t3 := Tryz.underlying3
  a3 := Tryz.isAgg3
  z3 := Tryz.sizeOf3
  v3 := Tryz.zeroValue3
  t9 := Tryz.underlying9
  a9 := Tryz.isAgg9
  z9 := Tryz.sizeOf9
  v9 := Tryz.zeroValue9
  t37 := Tryz.underlying62
  a37 := Tryz.isAgg62
  z37 := Tryz.sizeOf62
  v37 := Tryz.zeroValue62
  t70 := Tryz.underlying151
  a70 := Tryz.isAgg151
  z70 := Tryz.sizeOf151
  v70 := Tryz.zeroValue151
  t72 := Tryz.underlying153
  a72 := Tryz.isAgg153
  z72 := Tryz.sizeOf153
  v72 := Tryz.zeroValue153
  t127 := Tryz.underlying163
  a127 := Tryz.isAgg163
  z127 := Tryz.sizeOf163
  v127 := Tryz.zeroValue163 }
theorem Tryz.Builder_Extra_169 : Builder.Extra Tryz.prog Tryz.lays169_ren := {
  sizeBuilder := by kernel_rfl
  liesBuilder := by kernel_rfl
  t5 := Tryz.underlying5
  a5 := Tryz.isAgg5
  z5 := Tryz.sizeOf5
  v5 := Tryz.zeroValue5
  infoByte := by kernel_rfl
  cellsByte := by kernel_rfl
  sizeByte := by kernel_rfl
  neB5 := by decide }
open Go.RowKit in
/-- (*strings.Builder).String: "String returns the accumulated string.": OF A BUILDER THAT HOLDS AT LEAST ONE BYTE. ✋ THE MODEL FREEZES THOSE BYTES IN THE BUFFER (unsafe.String): a later write INTO them ends the model's run without an answer; a later append BEHIND them goes on. The statement's order of evaluation is drawn: one draw. (LAID: no walk: one application.) -/
theorem Tryz.Builder_String (B b : Nat) (l : List UInt8) (w : World) (h : Lib.IsBuilder 153 5 B b (Lib.byteCells l) w) (h0 : l ≠ []) :
    Calls Tryz.prog 107 #[.pointer (some ⟨b, 0, none⟩)] w fun e w' => e = .returned (.string ⟨l.toArray⟩) ∧ Below B w w' := Any.Builder_String Tryz.lays169 Tryz.Builder_Extra_169 B b l w h h0
open Go.RowKit in
/-- (*strings.Builder).String OF A BUILDER THAT HOLDS NO BYTE: the empty string. (Its buffer is nil, or a row of which it has taken nothing yet; where that row has NO capacity the model lays one new block for unsafe.SliceData's 'some address'.) One draw. (LAID: no walk: one application.) -/
theorem Tryz.Builder_String_empty (B b : Nat) (w : World) (h : Lib.IsBuilder 153 5 B b [] w) (hBw : B ≤ w.heap.size) :
    Calls Tryz.prog 107 #[.pointer (some ⟨b, 0, none⟩)] w fun e w' => e = .returned (.string ⟨#[]⟩) ∧ Below B w w' := Any.Builder_String_empty Tryz.lays169 Tryz.Builder_Extra_169 B b w h hBw
open Go.RowKit in
/-- (*strings.Builder).String: "String returns the accumulated string.": WHATEVER THE BUILDER HOLDS. (LAID: no walk: one application.) -/
theorem Tryz.Builder_String_any (B b : Nat) (l : List UInt8) (w : World) (h : Lib.IsBuilder 153 5 B b (Lib.byteCells l) w) (hBw : B ≤ w.heap.size) :
    Calls Tryz.prog 107 #[.pointer (some ⟨b, 0, none⟩)] w fun e w' => e = .returned (.string ⟨l.toArray⟩) ∧ Below B w w' := Any.Builder_String_any Tryz.lays169 Tryz.Builder_Extra_169 B b l w h hBw
def Tryz.lays241_ren : Go.Shelf.Ren := ⟨fun | 241 => 111 | 277 => 118 | n => n, fun | 70 => 151 | 3 => 3 | 0 => 0 | 72 => 153 | 37 => 62 | 5 => 5 | n => n, fun | n => n⟩
theorem Tryz.lays241 : Go.Proofs.Lays.n241 Tryz.prog Tryz.lays241_ren := {
  mixed := by kernel_rfl
  f241 := Tryz.func111.trans (congrArg some (by kernel_rfl))
  f277 := Tryz.func118.trans (congrArg some (by kernel_rfl))
  t0 := Tryz.underlying0
  a0 := Tryz.isAgg0
  z0 := Tryz.sizeOf0
  v0 := Tryz.zeroValue0
  t3 := Tryz.underlying3
  a3 := Tryz.isAgg3
  z3 := Tryz.sizeOf3
  v3 := Tryz.zeroValue3
  t37 := Tryz.underlying62
  a37 := Tryz.isAgg62
  z37 := Tryz.sizeOf62
  v37 := Tryz.zeroValue62
  t70 := Tryz.underlying151
  a70 := Tryz.isAgg151
  z70 := Tryz.sizeOf151
  v70 := Tryz.zeroValue151
  t72 := Tryz.underlying153
  a72 := Tryz.isAgg153
  z72 := Tryz.sizeOf153
  v72 := Tryz.zeroValue153 }
theorem Tryz.Builder_Extra_241 : Builder.Extra Tryz.prog Tryz.lays241_ren := {
  sizeBuilder := by kernel_rfl
  liesBuilder := by kernel_rfl
  t5 := Tryz.underlying5
  a5 := Tryz.isAgg5
  z5 := Tryz.sizeOf5
  v5 := Tryz.zeroValue5
  infoByte := by kernel_rfl
  cellsByte := by kernel_rfl
  sizeByte := by kernel_rfl
  neB5 := by decide }
open Go.RowKit in
/-- (*strings.Builder).grow (no doc but "grow copies the buffer to a new, larger buffer so that there are at least n bytes of capacity beyond len(b.buf)."): AT A BUILDER WITHOUT A BUFFER: a new row of whatever bytes for its buffer, none of them its own yet. Three draws. (LAID: no walk: one application.) -/
theorem Tryz.Builder_grow_fresh (B b n : Nat) (w : World) (hB : B ≤ b) (hbk : w.heap[b]? = some (.cells #[.pointer (some ⟨b, 0, none⟩), .slice none 0 0] 153 (0, 0))) (hBw : B ≤ w.heap.size) (hn : n ≤ 281474976710656) :
    Calls Tryz.prog 111 #[.pointer (some ⟨b, 0, none⟩), .int .i64 n] w fun e w' => e = .returned (.tuple #[]) ∧ (Lib.BuilderAt 153 5 B b (.pointer (some ⟨b, 0, none⟩)) [] w' ∧ Below B w w') := Any.Builder_grow_fresh Tryz.lays241 Tryz.Builder_Extra_241 B b n w hB hbk hBw hn
def Tryz.lays165_ren : Go.Shelf.Ren := ⟨fun | 165 => 104 | 240 => 110 | 241 => 111 | 276 => 117 | 277 => 118 | n => n, fun | 70 => 151 | 3 => 3 | 0 => 0 | 4 => 4 | 9 => 9 | 20 => 20 | 72 => 153 | 37 => 62 | 164 => 169 | 5 => 5 | n => n, fun | n => n⟩
theorem Tryz.lays165 : Go.Proofs.Lays.n165 Tryz.prog Tryz.lays165_ren := {
  mixed := by kernel_rfl
  f165 := Tryz.func104.trans (congrArg some (by kernel_rfl))
  f240 := Tryz.func110.trans (congrArg some (by kernel_rfl))
  f241 := Tryz.func111.trans (congrArg some (by kernel_rfl))
  f276 := Tryz.func117.trans (congrArg some (by kernel_rfl))
  f277 := Tryz.func118.trans (congrArg some (by kernel_rfl))
  t0 := Tryz.underlying0
  a0 := Tryz.isAgg0
  z0 := Tryz.sizeOf0
  v0 := Tryz.zeroValue0
  t3 := Tryz.underlying3
  a3 := Tryz.isAgg3
  z3 := Tryz.sizeOf3
  v3 := Tryz.zeroValue3
  t4 := Tryz.underlying4
  a4 := Tryz.isAgg4
  z4 := Tryz.sizeOf4
  v4 := Tryz.zeroValue4
  t9 := Tryz.underlying9
  a9 := Tryz.isAgg9
  z9 := Tryz.sizeOf9
  v9 := Tryz.zeroValue9
  t20 := Tryz.underlying20
  a20 := Tryz.isAgg20
  z20 := Tryz.sizeOf20
  v20 := Tryz.zeroValue20
  t37 := Tryz.underlying62
  a37 := Tryz.isAgg62
  z37 := Tryz.sizeOf62
  v37 := Tryz.zeroValue62
  t70 := Tryz.underlying151
  a70 := Tryz.isAgg151
  z70 := Tryz.sizeOf151
  v70 := Tryz.zeroValue151
  t72 := Tryz.underlying153
  a72 := Tryz.isAgg153
  z72 := Tryz.sizeOf153
  v72 := Tryz.zeroValue153
  t164 := Tryz.underlying169
  a164 := Tryz.isAgg169
  z164 := Tryz.sizeOf169
  v164 := Tryz.zeroValue169 }
theorem Tryz.Builder_Extra_165 : Builder.Extra Tryz.prog Tryz.lays165_ren := {
  sizeBuilder := by kernel_rfl
  liesBuilder := by kernel_rfl
  t5 := Tryz.underlying5
  a5 := Tryz.isAgg5
  z5 := Tryz.sizeOf5
  v5 := Tryz.zeroValue5
  infoByte := by kernel_rfl
  cellsByte := by kernel_rfl
  sizeByte := by kernel_rfl
  neB5 := by decide }
open Go.RowKit in
/-- (*strings.Builder).Grow AT A BUILDER THAT HAS NOT BEEN WRITTEN ('var b strings.Builder; b.Grow(n)'): "Grow grows b's capacity, if necessary, to guarantee space for another n bytes.": it holds no byte behind it as before it. (LAID: no walk: one application.) -/
theorem Tryz.Builder_Grow_fresh (B b n : Nat) (w : World) (hB : B ≤ b) (hbk : w.heap[b]? = some (.cells #[.pointer none, .slice none 0 0] 153 (0, 0))) (hBw : B ≤ w.heap.size) (hn : n ≤ 281474976710656) :
    Calls Tryz.prog 104 #[.pointer (some ⟨b, 0, none⟩), .int .i64 n] w fun e w' => e = .returned (.tuple #[]) ∧ (Lib.BuilderAt 153 5 B b (.pointer (some ⟨b, 0, none⟩)) [] w' ∧ Below B w w') := Any.Builder_Grow_fresh Tryz.lays165 Tryz.Builder_Extra_165 B b n w hB hbk hBw hn
def Tryz.lays159_ren : Go.Shelf.Ren := ⟨fun | 159 => 102 | 165 => 104 | 166 => 105 | 167 => 106 | 169 => 107 | 230 => 108 | 204 => 109 | 240 => 110 | 241 => 111 | 197 => 112 | 118 => 113 | 168 => 114 | 270 => 115 | 262 => 116 | 276 => 117 | 277 => 118 | 260 => 119 | 242 => 120 | 313 => 121 | 278 => 122 | 274 => 123 | 275 => 124 | n => n, fun | 9 => 9 | 4 => 4 | 3 => 3 | 5 => 5 | 72 => 153 | 0 => 0 | 76 => 157 | 75 => 156 | 107 => 162 | 70 => 151 | 20 => 20 | 37 => 62 | 127 => 163 | 21 => 21 | 105 => 129 | 164 => 169 | 162 => 174 | 203 => 146 | 119 => 175 | 46 => 83 | 139 => 178 | 138 => 177 | 51 => 107 | 160 => 179 | 208 => 185 | 206 => 183 | 80 => 160 | n => n, fun | 13 => 1 | 3 => 2 | 4 => 3 | n => n⟩
theorem Tryz.lays159 : Go.Proofs.Lays.n159 Tryz.prog Tryz.lays159_ren := {
  mixed := by kernel_rfl
  f118 := Tryz.func113.trans (congrArg some (by kernel_rfl))
  f159 := Tryz.func102.trans (congrArg some (by kernel_rfl))
  f165 := Tryz.func104.trans (congrArg some (by kernel_rfl))
  f166 := Tryz.func105.trans (congrArg some (by kernel_rfl))
  f167 := Tryz.func106.trans (congrArg some (by kernel_rfl))
  f168 := Tryz.func114.trans (congrArg some (by kernel_rfl))
  f169 := Tryz.func107.trans (congrArg some (by kernel_rfl))
  f197 := Tryz.func112.trans (congrArg some (by kernel_rfl))
  f204 := Tryz.func109.trans (congrArg some (by kernel_rfl))
  f230 := Tryz.func108.trans (congrArg some (by kernel_rfl))
  f240 := Tryz.func110.trans (congrArg some (by kernel_rfl))
  f241 := Tryz.func111.trans (congrArg some (by kernel_rfl))
  f242 := Tryz.func120.trans (congrArg some (by kernel_rfl))
  f260 := Tryz.func119.trans (congrArg some (by kernel_rfl))
  f262 := Tryz.func116.trans (congrArg some (by kernel_rfl))
  f270 := Tryz.func115.trans (congrArg some (by kernel_rfl))
  f274 := Tryz.func123.trans (congrArg some (by kernel_rfl))
  f275 := Tryz.func124.trans (congrArg some (by kernel_rfl))
  f276 := Tryz.func117.trans (congrArg some (by kernel_rfl))
  f277 := Tryz.func118.trans (congrArg some (by kernel_rfl))
  f278 := Tryz.func122.trans (congrArg some (by kernel_rfl))
  f313 := Tryz.func121.trans (congrArg some (by kernel_rfl))
  t0 := Tryz.underlying0
  a0 := Tryz.isAgg0
  z0 := Tryz.sizeOf0
  v0 := Tryz.zeroValue0
  t3 := Tryz.underlying3
  a3 := Tryz.isAgg3
  z3 := Tryz.sizeOf3
  v3 := Tryz.zeroValue3
  t4 := Tryz.underlying4
  a4 := Tryz.isAgg4
  z4 := Tryz.sizeOf4
  v4 := Tryz.zeroValue4
  t5 := Tryz.underlying5
  a5 := Tryz.isAgg5
  z5 := Tryz.sizeOf5
  v5 := Tryz.zeroValue5
  t9 := Tryz.underlying9
  a9 := Tryz.isAgg9
  z9 := Tryz.sizeOf9
  v9 := Tryz.zeroValue9
  t20 := Tryz.underlying20
  a20 := Tryz.isAgg20
  z20 := Tryz.sizeOf20
  v20 := Tryz.zeroValue20
  t21 := Tryz.underlying21
  a21 := Tryz.isAgg21
  z21 := Tryz.sizeOf21
  v21 := Tryz.zeroValue21
  t37 := Tryz.underlying62
  a37 := Tryz.isAgg62
  z37 := Tryz.sizeOf62
  v37 := Tryz.zeroValue62
  t46 := Tryz.underlying83
  a46 := Tryz.isAgg83
  z46 := Tryz.sizeOf83
  v46 := Tryz.zeroValue83
  t51 := Tryz.underlying107
  a51 := Tryz.isAgg107
  z51 := Tryz.sizeOf107
  v51 := Tryz.zeroValue107
  t70 := Tryz.underlying151
  a70 := Tryz.isAgg151
  z70 := Tryz.sizeOf151
  v70 := Tryz.zeroValue151
  t72 := Tryz.underlying153
  a72 := Tryz.isAgg153
  z72 := Tryz.sizeOf153
  v72 := Tryz.zeroValue153
  t75 := Tryz.underlying156
  a75 := Tryz.isAgg156
  z75 := Tryz.sizeOf156
  v75 := Tryz.zeroValue156
  t76 := Tryz.underlying157
  a76 := Tryz.isAgg157
  z76 := Tryz.sizeOf157
  v76 := Tryz.zeroValue157
  t105 := Tryz.underlying129
  a105 := Tryz.isAgg129
  z105 := Tryz.sizeOf129
  v105 := Tryz.zeroValue129
  t107 := Tryz.underlying162
  a107 := Tryz.isAgg162
  z107 := Tryz.sizeOf162
  v107 := Tryz.zeroValue162
  t119 := Tryz.underlying175
  a119 := Tryz.isAgg175
  z119 := Tryz.sizeOf175
  t127 := Tryz.underlying163
  a127 := Tryz.isAgg163
  z127 := Tryz.sizeOf163
  v127 := Tryz.zeroValue163
  t138 := Tryz.underlying177
  a138 := Tryz.isAgg177
  z138 := Tryz.sizeOf177
  v138 := Tryz.zeroValue177
  t139 := Tryz.underlying178
  a139 := Tryz.isAgg178
  z139 := Tryz.sizeOf178
  v139 := Tryz.zeroValue178
  t160 := Tryz.underlying179
  a160 := Tryz.isAgg179
  z160 := Tryz.sizeOf179
  v160 := Tryz.zeroValue179
  t162 := Tryz.underlying174
  a162 := Tryz.isAgg174
  z162 := Tryz.sizeOf174
  v162 := Tryz.zeroValue174
  t164 := Tryz.underlying169
  a164 := Tryz.isAgg169
  z164 := Tryz.sizeOf169
  v164 := Tryz.zeroValue169
  t203 := Tryz.underlying146
  a203 := Tryz.isAgg146
  z203 := Tryz.sizeOf146
  v203 := Tryz.zeroValue146
  t206 := Tryz.underlying183
  a206 := Tryz.isAgg183
  z206 := Tryz.sizeOf183
  v206 := Tryz.zeroValue183
  t208 := Tryz.underlying185
  a208 := Tryz.isAgg185
  z208 := Tryz.sizeOf185
  v208 := Tryz.zeroValue185
  g3 := by kernel_rfl
  g4 := by kernel_rfl
  g13 := by kernel_rfl }
theorem Tryz.Builder_Extra_159 : Builder.Extra Tryz.prog Tryz.lays159_ren := {
  sizeBuilder := by kernel_rfl
  liesBuilder := by kernel_rfl
  t5 := Tryz.underlying5
  a5 := Tryz.isAgg5
  z5 := Tryz.sizeOf5
  v5 := Tryz.zeroValue5
  infoByte := by kernel_rfl
  cellsByte := by kernel_rfl
  sizeByte := by kernel_rfl
  neB5 := by decide }
open Go.RowKit in
/-- strings.ToLower: "ToLower returns s with all Unicode letters mapped to their lower case.": ON ASCII TEXT OF AT MOST 2^47 BYTES. Below the heap's end the world is as it was: where a letter turns, the call makes a builder and its buffer. (LAID: no walk: one application.) -/
theorem Tryz.strings_ToLower_ascii (s : ByteArray) (w : World) (hs : s.size ≤ 140737488355328) (hascii : ∀ (j : Nat) (b : UInt8), s.data.toList[j]? = some b → b.toNat < 128) :
    Calls Tryz.prog 102 #[.string s] w fun e w' => e = .returned (.string ⟨(Lib.toLowerA s.data.toList).toArray⟩) ∧ Below w.heap.size w w' := Any.strings_ToLower_ascii Tryz.lays159 Tryz.Builder_Extra_159 s w hs hascii
def Tryz.lays118_ren : Go.Shelf.Ren := ⟨fun | 118 => 113 | n => n, fun | 21 => 21 | 3 => 3 | 4 => 4 | n => n, fun | n => n⟩
theorem Tryz.lays118 : Go.Proofs.Lays.n118 Tryz.prog Tryz.lays118_ren := {
  mixed := by kernel_rfl
  f118 := Tryz.func113.trans (congrArg some (by kernel_rfl))
  t3 := Tryz.underlying3
  a3 := Tryz.isAgg3
  z3 := Tryz.sizeOf3
  v3 := Tryz.zeroValue3
  t4 := Tryz.underlying4
  a4 := Tryz.isAgg4
  z4 := Tryz.sizeOf4
  v4 := Tryz.zeroValue4
  t21 := Tryz.underlying21
  a21 := Tryz.isAgg21
  z21 := Tryz.sizeOf21
  v21 := Tryz.zeroValue21 }
/-- utf8.RuneLen: "RuneLen returns the number of bytes in the UTF-8 encoding of the rune. It returns -1 if the rune is not a valid value to encode in UTF-8.": IT RETURNS 'Lib.runeLen r'; the world is as it was. (LAID: no walk: one application.) -/
theorem Tryz.utf8_RuneLen (r : Int) (w : World) :
    Calls Tryz.prog 113 #[.int .i32 r] w fun e w' => e = .returned (.int .i64 (Lib.runeLen r)) ∧ w' = w := Any.utf8_RuneLen Tryz.lays118 r w
def Tryz.lays128_ren : Go.Shelf.Ren := ⟨fun | 128 => 68 | n => n, fun | 51 => 107 | 3 => 3 | 4 => 4 | 46 => 83 | 5 => 5 | 9 => 9 | n => n, fun | n => n⟩
theorem Tryz.lays128 : Go.Proofs.Lays.n128 Tryz.prog Tryz.lays128_ren := {
  mixed := by kernel_rfl
  f128 := Tryz.func68.trans (congrArg some (by kernel_rfl))
  t3 := Tryz.underlying3
  a3 := Tryz.isAgg3
  z3 := Tryz.sizeOf3
  v3 := Tryz.zeroValue3
  t4 := Tryz.underlying4
  a4 := Tryz.isAgg4
  z4 := Tryz.sizeOf4
  v4 := Tryz.zeroValue4
  t5 := Tryz.underlying5
  a5 := Tryz.isAgg5
  z5 := Tryz.sizeOf5
  v5 := Tryz.zeroValue5
  t9 := Tryz.underlying9
  a9 := Tryz.isAgg9
  z9 := Tryz.sizeOf9
  v9 := Tryz.zeroValue9
  t46 := Tryz.underlying83
  a46 := Tryz.isAgg83
  z46 := Tryz.sizeOf83
  v46 := Tryz.zeroValue83
  t51 := Tryz.underlying107
  a51 := Tryz.isAgg107
  z51 := Tryz.sizeOf107
  v51 := Tryz.zeroValue107 }
/-- bits.Len32: "Len32 returns the minimum number of bits required to represent x; the result is 0 for x == 0.": IT RETURNS 'Lib.bitLen x'; the world is as it was. ('h0', 'h1': x is a uint32.) (LAID: no walk: one application.) -/
theorem Tryz.bits_Len32 (x : Int) (w : World) (h0 : 0 ≤ x) (h1 : x ≤ 4294967295) :
    Calls Tryz.prog 68 #[.int .u32 x] w fun e w' => e = .returned (.int .i64 (Lib.bitLen x.toNat)) ∧ w' = w := Any.bits_Len32 Tryz.lays128 x w h0 h1
def Tryz.lays125_ren : Go.Shelf.Ren := ⟨fun | 125 => 47 | 128 => 68 | 129 => 69 | n => n, fun | 46 => 83 | 3 => 3 | 51 => 107 | 53 => 109 | 4 => 4 | 5 => 5 | 9 => 9 | n => n, fun | n => n⟩
theorem Tryz.lays125 : Go.Proofs.Lays.n125 Tryz.prog Tryz.lays125_ren := {
  mixed := by kernel_rfl
  f125 := Tryz.func47.trans (congrArg some (by kernel_rfl))
  f128 := Tryz.func68.trans (congrArg some (by kernel_rfl))
  f129 := Tryz.func69.trans (congrArg some (by kernel_rfl))
  t3 := Tryz.underlying3
  a3 := Tryz.isAgg3
  z3 := Tryz.sizeOf3
  v3 := Tryz.zeroValue3
  t4 := Tryz.underlying4
  a4 := Tryz.isAgg4
  z4 := Tryz.sizeOf4
  v4 := Tryz.zeroValue4
  t5 := Tryz.underlying5
  a5 := Tryz.isAgg5
  z5 := Tryz.sizeOf5
  v5 := Tryz.zeroValue5
  t9 := Tryz.underlying9
  a9 := Tryz.isAgg9
  z9 := Tryz.sizeOf9
  v9 := Tryz.zeroValue9
  t46 := Tryz.underlying83
  a46 := Tryz.isAgg83
  z46 := Tryz.sizeOf83
  v46 := Tryz.zeroValue83
  t51 := Tryz.underlying107
  a51 := Tryz.isAgg107
  z51 := Tryz.sizeOf107
  v51 := Tryz.zeroValue107
  t53 := Tryz.underlying109
  a53 := Tryz.isAgg109
  z53 := Tryz.sizeOf109
  v53 := Tryz.zeroValue109 }
/-- bits.Len: "Len returns the minimum number of bits required to represent x; the result is 0 for x == 0.": IT RETURNS 'Lib.bitLen x'; the world is as it was. (A uint has 64 bits in the model.) ITS CALLEE bits.Len64 IS MET BY ITS OWN CONTRACT OFF THE SHELF (lay that first). (LAID: no walk: one application.) -/
theorem Tryz.bits_Len (x : Int) (w : World) (h0 : 0 ≤ x) (h1 : x ≤ 18446744073709551615) :
    Calls Tryz.prog 47 #[.int .u64 x] w fun e w' => e = .returned (.int .i64 (Lib.bitLen x.toNat)) ∧ w' = w := Any.bits_Len Tryz.lays125 x w h0 h1
def Tryz.lays137_ren : Go.Shelf.Ren := ⟨fun | 137 => 54 | 217 => 75 | 266 => 89 | n => n, fun | 9 => 9 | 5 => 5 | 3 => 3 | n => n, fun | n => n⟩
theorem Tryz.lays137 : Go.Proofs.Lays.n137 Tryz.prog Tryz.lays137_ren := {
  mixed := by kernel_rfl
  f137 := Tryz.func54.trans (congrArg some (by kernel_rfl))
  f217 := Tryz.func75.trans (congrArg some (by kernel_rfl))
  f266 := Tryz.func89.trans (congrArg some (by kernel_rfl))
  t3 := Tryz.underlying3
  a3 := Tryz.isAgg3
  z3 := Tryz.sizeOf3
  v3 := Tryz.zeroValue3
  t5 := Tryz.underlying5
  a5 := Tryz.isAgg5
  z5 := Tryz.sizeOf5
  v5 := Tryz.zeroValue5
  t9 := Tryz.underlying9
  a9 := Tryz.isAgg9
  z9 := Tryz.sizeOf9
  v9 := Tryz.zeroValue9 }
open Go.RowKit in
/-- strings.IndexByte: "IndexByte returns the index of the first instance of c in s, or -1 if c is not present in s.": IT RETURNS 'Lib.indexByte s c'; the world is as it was. (LAID: no walk: one application.) -/
theorem Tryz.strings_IndexByte (s : ByteArray) (c : Int) (w : World) :
    Calls Tryz.prog 54 #[.string s, .int .u8 c] w fun e w' => e = .returned (.int .i64 (Lib.indexByte s.data.toList c.toNat.toUInt8)) ∧ w' = w := Any.strings_IndexByte Tryz.lays137 s c w
open Go.RowKit in
/-- (*strings.Builder).String: "String returns the accumulated string.": OF A BUILDER THAT HOLDS AT LEAST ONE BYTE. ✋ THE MODEL FREEZES THOSE BYTES IN THE BUFFER (unsafe.String): a later write INTO them ends the model's run without an answer; a later append BEHIND them goes on. The statement's order of evaluation is drawn: one draw. THE FORM '_f': IT SAYS BESIDES THAT THE BUILDER IS A BUILDER STILL ('Lib.IsBuilderF', the same bytes): SO IT CAN BE WRITTEN ON: 'b.WriteString(b.String()[:k])'. (LAID: no walk: one application.) -/
theorem Tryz.Builder_String_f (B b : Nat) (l : List UInt8) (w : World) (h : Lib.IsBuilderF 153 5 B b (Lib.byteCells l) w) (h0 : l ≠ []) :
    Calls Tryz.prog 107 #[.pointer (some ⟨b, 0, none⟩)] w fun e w' => e = .returned (.string ⟨l.toArray⟩) ∧ (Lib.IsBuilderF 153 5 B b (Lib.byteCells l) w' ∧ Below B w w') := Any.Builder_String_f Tryz.lays169 Tryz.Builder_Extra_169 B b l w h h0
open Go.RowKit in
/-- (*strings.Builder).String OF A BUILDER THAT HOLDS NO BYTE: the empty string; THE FORM '_f': a builder still. (LAID: no walk: one application.) -/
theorem Tryz.Builder_String_empty_f (B b : Nat) (w : World) (h : Lib.IsBuilderF 153 5 B b [] w) (hBw : B ≤ w.heap.size) :
    Calls Tryz.prog 107 #[.pointer (some ⟨b, 0, none⟩)] w fun e w' => e = .returned (.string ⟨#[]⟩) ∧ (Lib.IsBuilderF 153 5 B b [] w' ∧ Below B w w') := Any.Builder_String_empty_f Tryz.lays169 Tryz.Builder_Extra_169 B b w h hBw
open Go.RowKit in
/-- (*strings.Builder).String: "String returns the accumulated string.": WHATEVER THE BUILDER HOLDS; THE FORM '_f': OF A BUILDER THAT MAY HAVE BEEN READ BEFORE; AND IT IS A BUILDER STILL, holding the same bytes: it can be written on. (LAID: no walk: one application.) -/
theorem Tryz.Builder_String_any_f (B b : Nat) (l : List UInt8) (w : World) (h : Lib.IsBuilderF 153 5 B b (Lib.byteCells l) w) (hBw : B ≤ w.heap.size) :
    Calls Tryz.prog 107 #[.pointer (some ⟨b, 0, none⟩)] w fun e w' => e = .returned (.string ⟨l.toArray⟩) ∧ (Lib.IsBuilderF 153 5 B b (Lib.byteCells l) w' ∧ Below B w w') := Any.Builder_String_any_f Tryz.lays169 Tryz.Builder_Extra_169 B b l w h hBw
open Go.RowKit in
/-- (*strings.Builder).String: "String returns the accumulated string.": OF A BUILDER THAT HOLDS AT LEAST ONE BYTE. ✋ THE MODEL FREEZES THOSE BYTES IN THE BUFFER (unsafe.String): a later write INTO them ends the model's run without an answer; a later append BEHIND them goes on. The statement's order of evaluation is drawn: one draw. THE FORM '_k': OVER 'Lib.IsBuilderF' (a builder that 'String()' may have read), AND WITH THE FRAME THAT REACHES ABOVE THE BUILDER: 'Lib.OthersKept': every block that is not b and is no row of uint8's stands as it stood: the iterator of a range among them. (LAID: no walk: one application.) -/
theorem Tryz.Builder_String_k (B b : Nat) (l : List UInt8) (w : World) (h : Lib.IsBuilderF 153 5 B b (Lib.byteCells l) w) (h0 : l ≠ []) :
    Calls Tryz.prog 107 #[.pointer (some ⟨b, 0, none⟩)] w fun e w' => e = .returned (.string ⟨l.toArray⟩) ∧ (Lib.IsBuilderF 153 5 B b (Lib.byteCells l) w' ∧ Below B w w' ∧ Lib.OthersKept 5 (some b) w w') := Any.Builder_String_k Tryz.lays169 Tryz.Builder_Extra_169 B b l w h h0
open Go.RowKit in
/-- (*strings.Builder).String OF A BUILDER THAT HOLDS NO BYTE: the empty string; THE FORM '_k': OVER 'Lib.IsBuilderF' (a builder that 'String()' may have read), AND WITH THE FRAME THAT REACHES ABOVE THE BUILDER: 'Lib.OthersKept': every block that is not b and is no row of uint8's stands as it stood: the iterator of a range among them. (LAID: no walk: one application.) -/
theorem Tryz.Builder_String_empty_k (B b : Nat) (w : World) (h : Lib.IsBuilderF 153 5 B b [] w) (hBw : B ≤ w.heap.size) :
    Calls Tryz.prog 107 #[.pointer (some ⟨b, 0, none⟩)] w fun e w' => e = .returned (.string ⟨#[]⟩) ∧ (Lib.IsBuilderF 153 5 B b [] w' ∧ Below B w w' ∧ Lib.OthersKept 5 (some b) w w') := Any.Builder_String_empty_k Tryz.lays169 Tryz.Builder_Extra_169 B b w h hBw
open Go.RowKit in
/-- (*strings.Builder).String: "String returns the accumulated string.": WHATEVER THE BUILDER HOLDS; THE FORM '_k': OVER 'Lib.IsBuilderF' (a builder that 'String()' may have read), AND WITH THE FRAME THAT REACHES ABOVE THE BUILDER: 'Lib.OthersKept': every block that is not b and is no row of uint8's stands as it stood: the iterator of a range among them. (LAID: no walk: one application.) -/
theorem Tryz.Builder_String_any_k (B b : Nat) (l : List UInt8) (w : World) (h : Lib.IsBuilderF 153 5 B b (Lib.byteCells l) w) (hBw : B ≤ w.heap.size) :
    Calls Tryz.prog 107 #[.pointer (some ⟨b, 0, none⟩)] w fun e w' => e = .returned (.string ⟨l.toArray⟩) ∧ (Lib.IsBuilderF 153 5 B b (Lib.byteCells l) w' ∧ Below B w w' ∧ Lib.OthersKept 5 (some b) w w') := Any.Builder_String_any_k Tryz.lays169 Tryz.Builder_Extra_169 B b l w h hBw
def Tryz.lays129_ren : Go.Shelf.Ren := ⟨fun | 129 => 69 | n => n, fun | 53 => 109 | 3 => 3 | 4 => 4 | 46 => 83 | 5 => 5 | 9 => 9 | n => n, fun | n => n⟩
theorem Tryz.lays129 : Go.Proofs.Lays.n129 Tryz.prog Tryz.lays129_ren := {
  mixed := by kernel_rfl
  f129 := Tryz.func69.trans (congrArg some (by kernel_rfl))
  t3 := Tryz.underlying3
  a3 := Tryz.isAgg3
  z3 := Tryz.sizeOf3
  v3 := Tryz.zeroValue3
  t4 := Tryz.underlying4
  a4 := Tryz.isAgg4
  z4 := Tryz.sizeOf4
  v4 := Tryz.zeroValue4
  t5 := Tryz.underlying5
  a5 := Tryz.isAgg5
  z5 := Tryz.sizeOf5
  v5 := Tryz.zeroValue5
  t9 := Tryz.underlying9
  a9 := Tryz.isAgg9
  z9 := Tryz.sizeOf9
  v9 := Tryz.zeroValue9
  t46 := Tryz.underlying83
  a46 := Tryz.isAgg83
  z46 := Tryz.sizeOf83
  v46 := Tryz.zeroValue83
  t53 := Tryz.underlying109
  a53 := Tryz.isAgg109
  z53 := Tryz.sizeOf109
  v53 := Tryz.zeroValue109 }
/-- bits.Len64: "Len64 returns the minimum number of bits required to represent x; the result is 0 for x == 0.": IT RETURNS 'Lib.bitLen x'; the world is as it was. ('h0', 'h1': x is a uint64.) (LAID: no walk: one application.) -/
theorem Tryz.bits_Len64 (x : Int) (w : World) (h0 : 0 ≤ x) (h1 : x ≤ 18446744073709551615) :
    Calls Tryz.prog 69 #[.int .u64 x] w fun e w' => e = .returned (.int .i64 (Lib.bitLen x.toNat)) ∧ w' = w := Any.bits_Len64 Tryz.lays129 x w h0 h1
def Tryz.lays217_ren : Go.Shelf.Ren := ⟨fun | 217 => 75 | 266 => 89 | n => n, fun | 9 => 9 | 5 => 5 | 3 => 3 | n => n, fun | n => n⟩
theorem Tryz.lays217 : Go.Proofs.Lays.n217 Tryz.prog Tryz.lays217_ren := {
  mixed := by kernel_rfl
  f217 := Tryz.func75.trans (congrArg some (by kernel_rfl))
  f266 := Tryz.func89.trans (congrArg some (by kernel_rfl))
  t3 := Tryz.underlying3
  a3 := Tryz.isAgg3
  z3 := Tryz.sizeOf3
  v3 := Tryz.zeroValue3
  t5 := Tryz.underlying5
  a5 := Tryz.isAgg5
  z5 := Tryz.sizeOf5
  v5 := Tryz.zeroValue5
  t9 := Tryz.underlying9
  a9 := Tryz.isAgg9
  z9 := Tryz.sizeOf9
  v9 := Tryz.zeroValue9 }
open Go.RowKit Go.Lib in
/-- internal/stringslite.IndexByte (what strings.IndexByte calls): IT RETURNS 'Lib.indexByte s c'; the world is as it was. (LAID: no walk: one application.) -/
theorem Tryz.stringslite_IndexByte (s : ByteArray) (c : Int) (w : World) :
    Calls Tryz.prog 75 #[.string s, .int .u8 c] w fun e w' => e = .returned (.int .i64 (Lib.indexByte s.data.toList c.toNat.toUInt8)) ∧ w' = w := Any.stringslite_IndexByte Tryz.lays217 s c w
def Tryz.lays190_ren : Go.Shelf.Ren := ⟨fun | 190 => 27 | 125 => 47 | 258 => 46 | 128 => 68 | 129 => 69 | 302 => 59 | 303 => 60 | 304 => 61 | 305 => 62 | 306 => 63 | 307 => 64 | 308 => 65 | 309 => 66 | 310 => 67 | 333 => 81 | 329 => 82 | 330 => 83 | 334 => 84 | 335 => 85 | 336 => 86 | 344 => 95 | n => n, fun | 31 => 29 | 9 => 9 | 3 => 3 | 46 => 83 | 0 => 0 | 51 => 107 | 53 => 109 | 4 => 4 | 183 => 99 | 182 => 98 | 131 => 104 | 5 => 5 | 218 => 123 | 222 => 127 | 228 => 138 | 229 => 139 | n => n, fun | n => n⟩
theorem Tryz.lays190 : Go.Proofs.Lays.n190 Tryz.prog Tryz.lays190_ren := {
  mixed := by kernel_rfl
  f125 := Tryz.func47.trans (congrArg some (by kernel_rfl))
  f128 := Tryz.func68.trans (congrArg some (by kernel_rfl))
  f129 := Tryz.func69.trans (congrArg some (by kernel_rfl))
  f190 := Tryz.func27.trans (congrArg some (by kernel_rfl))
  f258 := Tryz.func46.trans (congrArg some (by kernel_rfl))
  f302 := Tryz.func59.trans (congrArg some (by kernel_rfl))
  f303 := Tryz.func60.trans (congrArg some (by kernel_rfl))
  f304 := Tryz.func61.trans (congrArg some (by kernel_rfl))
  f305 := Tryz.func62.trans (congrArg some (by kernel_rfl))
  f306 := Tryz.func63.trans (congrArg some (by kernel_rfl))
  f307 := Tryz.func64.trans (congrArg some (by kernel_rfl))
  f308 := Tryz.func65.trans (congrArg some (by kernel_rfl))
  f309 := Tryz.func66.trans (congrArg some (by kernel_rfl))
  f310 := Tryz.func67.trans (congrArg some (by kernel_rfl))
  f329 := Tryz.func82.trans (congrArg some (by kernel_rfl))
  f330 := Tryz.func83.trans (congrArg some (by kernel_rfl))
  f333 := Tryz.func81.trans (congrArg some (by kernel_rfl))
  f334 := Tryz.func84.trans (congrArg some (by kernel_rfl))
  f335 := Tryz.func85.trans (congrArg some (by kernel_rfl))
  f336 := Tryz.func86.trans (congrArg some (by kernel_rfl))
  f344 := Tryz.func95.trans (congrArg some (by kernel_rfl))
  t0 := Tryz.underlying0
  a0 := Tryz.isAgg0
  z0 := Tryz.sizeOf0
  v0 := Tryz.zeroValue0
  t3 := Tryz.underlying3
  a3 := Tryz.isAgg3
  z3 := Tryz.sizeOf3
  v3 := Tryz.zeroValue3
  t4 := Tryz.underlying4
  a4 := Tryz.isAgg4
  z4 := Tryz.sizeOf4
  v4 := Tryz.zeroValue4
  t5 := Tryz.underlying5
  a5 := Tryz.isAgg5
  z5 := Tryz.sizeOf5
  v5 := Tryz.zeroValue5
  t9 := Tryz.underlying9
  a9 := Tryz.isAgg9
  z9 := Tryz.sizeOf9
  v9 := Tryz.zeroValue9
  t31 := Tryz.underlying29
  a31 := Tryz.isAgg29
  z31 := Tryz.sizeOf29
  v31 := Tryz.zeroValue29
  t46 := Tryz.underlying83
  a46 := Tryz.isAgg83
  z46 := Tryz.sizeOf83
  v46 := Tryz.zeroValue83
  t51 := Tryz.underlying107
  a51 := Tryz.isAgg107
  z51 := Tryz.sizeOf107
  v51 := Tryz.zeroValue107
  t53 := Tryz.underlying109
  a53 := Tryz.isAgg109
  z53 := Tryz.sizeOf109
  v53 := Tryz.zeroValue109
  t131 := Tryz.underlying104
  a131 := Tryz.isAgg104
  z131 := Tryz.sizeOf104
  v131 := Tryz.zeroValue104
  t182 := Tryz.underlying98
  a182 := Tryz.isAgg98
  z182 := Tryz.sizeOf98
  v182 := Tryz.zeroValue98
  t183 := Tryz.underlying99
  a183 := Tryz.isAgg99
  z183 := Tryz.sizeOf99
  v183 := Tryz.zeroValue99
  t218 := Tryz.underlying123
  a218 := Tryz.isAgg123
  z218 := Tryz.sizeOf123
  v218 := Tryz.zeroValue123
  t222 := Tryz.underlying127
  a222 := Tryz.isAgg127
  z222 := Tryz.sizeOf127
  v222 := Tryz.zeroValue127
  t228 := Tryz.underlying138
  a228 := Tryz.isAgg138
  z228 := Tryz.sizeOf138
  v228 := Tryz.zeroValue138
  t229 := Tryz.underlying139
  a229 := Tryz.isAgg139
  z229 := Tryz.sizeOf139
  v229 := Tryz.zeroValue139 }
open Go.Sort Go.RowKit in
theorem Tryz.slices_Sort_string (blk off cap : Nat) (ss : List (List UInt8)) (w : World) (hH : Holds encStr w blk off ss.toArray) (hblk : blk < w.heap.size) (hsz : ss.length < 4611686018427387904) :
    Calls Tryz.prog 27 #[.slice (some ⟨blk, off, none⟩) ss.length cap] w fun e w' =>
      e = .returned (.tuple #[]) ∧ ∃ n os, w' = grow (putRow encStr (Sort.ahead w n) blk off (ss.mergeSort fun x y => decide (x ≤ y)).toArray) os := Any.slices_Sort_string Tryz.lays190 blk off cap ss w hH hblk hsz
def Tryz.lays204_ren : Go.Shelf.Ren := ⟨fun | 204 => 109 | 262 => 116 | 313 => 121 | 274 => 123 | 275 => 124 | n => n, fun | 21 => 21 | 4 => 4 | 3 => 3 | 162 => 174 | 203 => 146 | 160 => 179 | 46 => 83 | 0 => 0 | 208 => 185 | 51 => 107 | 206 => 183 | n => n, fun | 13 => 1 | n => n⟩
theorem Tryz.lays204 : Go.Proofs.Lays.n204 Tryz.prog Tryz.lays204_ren := {
  mixed := by kernel_rfl
  f204 := Tryz.func109.trans (congrArg some (by kernel_rfl))
  f262 := Tryz.func116.trans (congrArg some (by kernel_rfl))
  f274 := Tryz.func123.trans (congrArg some (by kernel_rfl))
  f275 := Tryz.func124.trans (congrArg some (by kernel_rfl))
  f313 := Tryz.func121.trans (congrArg some (by kernel_rfl))
  t0 := Tryz.underlying0
  a0 := Tryz.isAgg0
  z0 := Tryz.sizeOf0
  v0 := Tryz.zeroValue0
  t3 := Tryz.underlying3
  a3 := Tryz.isAgg3
  z3 := Tryz.sizeOf3
  v3 := Tryz.zeroValue3
  t4 := Tryz.underlying4
  a4 := Tryz.isAgg4
  z4 := Tryz.sizeOf4
  v4 := Tryz.zeroValue4
  t21 := Tryz.underlying21
  a21 := Tryz.isAgg21
  z21 := Tryz.sizeOf21
  v21 := Tryz.zeroValue21
  t46 := Tryz.underlying83
  a46 := Tryz.isAgg83
  z46 := Tryz.sizeOf83
  v46 := Tryz.zeroValue83
  t51 := Tryz.underlying107
  a51 := Tryz.isAgg107
  z51 := Tryz.sizeOf107
  v51 := Tryz.zeroValue107
  t160 := Tryz.underlying179
  a160 := Tryz.isAgg179
  z160 := Tryz.sizeOf179
  v160 := Tryz.zeroValue179
  t162 := Tryz.underlying174
  a162 := Tryz.isAgg174
  z162 := Tryz.sizeOf174
  v162 := Tryz.zeroValue174
  t203 := Tryz.underlying146
  a203 := Tryz.isAgg146
  z203 := Tryz.sizeOf146
  v203 := Tryz.zeroValue146
  t206 := Tryz.underlying183
  a206 := Tryz.isAgg183
  z206 := Tryz.sizeOf183
  v206 := Tryz.zeroValue183
  t208 := Tryz.underlying185
  a208 := Tryz.isAgg185
  z208 := Tryz.sizeOf185
  v208 := Tryz.zeroValue185
  g13 := by kernel_rfl }
open Go.RowKit Go.Lib in
theorem Tryz.unicode_ToLower (r : Int) (w : World) (h : r ≤ 127) :
    Calls Tryz.prog 109 #[.int .i32 r] w fun e w' => e = .returned (.int .i32 (Lib.toLowerR r)) ∧ w' = w := Any.unicode_ToLower Tryz.lays204 r w h
def Tryz.lays197_ren : Go.Shelf.Ren := ⟨fun | 197 => 112 | 260 => 119 | n => n, fun | 9 => 9 | 21 => 21 | 3 => 3 | 4 => 4 | 5 => 5 | 105 => 129 | 119 => 175 | 0 => 0 | 46 => 83 | 139 => 178 | 138 => 177 | n => n, fun | 3 => 2 | 4 => 3 | n => n⟩
theorem Tryz.lays197 : Go.Proofs.Lays.n197 Tryz.prog Tryz.lays197_ren := {
  mixed := by kernel_rfl
  f197 := Tryz.func112.trans (congrArg some (by kernel_rfl))
  f260 := Tryz.func119.trans (congrArg some (by kernel_rfl))
  t0 := Tryz.underlying0
  a0 := Tryz.isAgg0
  z0 := Tryz.sizeOf0
  v0 := Tryz.zeroValue0
  t3 := Tryz.underlying3
  a3 := Tryz.isAgg3
  z3 := Tryz.sizeOf3
  v3 := Tryz.zeroValue3
  t4 := Tryz.underlying4
  a4 := Tryz.isAgg4
  z4 := Tryz.sizeOf4
  v4 := Tryz.zeroValue4
  t5 := Tryz.underlying5
  a5 := Tryz.isAgg5
  z5 := Tryz.sizeOf5
  v5 := Tryz.zeroValue5
  t9 := Tryz.underlying9
  a9 := Tryz.isAgg9
  z9 := Tryz.sizeOf9
  v9 := Tryz.zeroValue9
  t21 := Tryz.underlying21
  a21 := Tryz.isAgg21
  z21 := Tryz.sizeOf21
  v21 := Tryz.zeroValue21
  t46 := Tryz.underlying83
  a46 := Tryz.isAgg83
  z46 := Tryz.sizeOf83
  v46 := Tryz.zeroValue83
  t105 := Tryz.underlying129
  a105 := Tryz.isAgg129
  z105 := Tryz.sizeOf129
  v105 := Tryz.zeroValue129
  t119 := Tryz.underlying175
  a119 := Tryz.isAgg175
  z119 := Tryz.sizeOf175
  t138 := Tryz.underlying177
  a138 := Tryz.isAgg177
  z138 := Tryz.sizeOf177
  v138 := Tryz.zeroValue177
  t139 := Tryz.underlying178
  a139 := Tryz.isAgg178
  z139 := Tryz.sizeOf178
  v139 := Tryz.zeroValue178
  g3 := by kernel_rfl
  g4 := by kernel_rfl }
open Go.RowKit Go.Lib in
/-- unicode/utf8.DecodeRuneInString: "DecodeRuneInString is like DecodeRune but its input is a string.": ("DecodeRune unpacks the first UTF-8 encoding in p and returns the rune and its width in bytes."): WHERE s BEGINS WITH AN ASCII BYTE x: (x, 1). (LAID: no walk: one application.) -/
theorem Tryz.utf8_DecodeRuneInString_ascii (s : ByteArray) (x : UInt8) (w : World) (h0 : s.data.toList[0]? = some x) (hx : x.toNat < 128) :
    Calls Tryz.prog 112 #[.string s] w fun e w' => e = .returned (.tuple #[.int .i32 x.toNat, .int .i64 1]) ∧ w' = w := Any.utf8_DecodeRuneInString_ascii Tryz.lays197 s x w h0 hx
def Tryz.lays260_ren : Go.Shelf.Ren := ⟨fun | 260 => 119 | n => n, fun | 9 => 9 | 21 => 21 | 3 => 3 | 4 => 4 | 5 => 5 | 119 => 175 | 0 => 0 | 46 => 83 | 139 => 178 | 138 => 177 | n => n, fun | 3 => 2 | 4 => 3 | n => n⟩
theorem Tryz.lays260 : Go.Proofs.Lays.n260 Tryz.prog Tryz.lays260_ren := {
  mixed := by kernel_rfl
  f260 := Tryz.func119.trans (congrArg some (by kernel_rfl))
  t0 := Tryz.underlying0
  a0 := Tryz.isAgg0
  z0 := Tryz.sizeOf0
  v0 := Tryz.zeroValue0
  t3 := Tryz.underlying3
  a3 := Tryz.isAgg3
  z3 := Tryz.sizeOf3
  v3 := Tryz.zeroValue3
  t4 := Tryz.underlying4
  a4 := Tryz.isAgg4
  z4 := Tryz.sizeOf4
  v4 := Tryz.zeroValue4
  t5 := Tryz.underlying5
  a5 := Tryz.isAgg5
  z5 := Tryz.sizeOf5
  v5 := Tryz.zeroValue5
  t9 := Tryz.underlying9
  a9 := Tryz.isAgg9
  z9 := Tryz.sizeOf9
  v9 := Tryz.zeroValue9
  t21 := Tryz.underlying21
  a21 := Tryz.isAgg21
  z21 := Tryz.sizeOf21
  v21 := Tryz.zeroValue21
  t46 := Tryz.underlying83
  a46 := Tryz.isAgg83
  z46 := Tryz.sizeOf83
  v46 := Tryz.zeroValue83
  t119 := Tryz.underlying175
  a119 := Tryz.isAgg175
  z119 := Tryz.sizeOf175
  t138 := Tryz.underlying177
  a138 := Tryz.isAgg177
  z138 := Tryz.sizeOf177
  v138 := Tryz.zeroValue177
  t139 := Tryz.underlying178
  a139 := Tryz.isAgg178
  z139 := Tryz.sizeOf178
  v139 := Tryz.zeroValue178
  g3 := by kernel_rfl
  g4 := by kernel_rfl }
open Go.RowKit Go.Lib in
theorem Tryz.utf8_decodeRuneInStringSlow (s : ByteArray) (w : World) (hT : Lib.Utf8Tabs 2 3 w) :
    Calls Tryz.prog 119 #[.string s] w fun e w' => e = .returned (.tuple #[.int .i32 (Lib.decodeGo s).1, .int .i64 (Lib.decodeGo s).2]) ∧ Below w.heap.size w w' := Any.utf8_decodeRuneInStringSlow Tryz.lays260 s w hT
open Go.RowKit Go.Lib in
/-- **unicode/utf8.DecodeRuneInString AT EVERY STRING.** (LAID: no walk: one application.) -/
theorem Tryz.utf8_DecodeRuneInString (s : ByteArray) (w : World) (hT : Lib.Utf8Tabs 2 3 w) :
    Calls Tryz.prog 112 #[.string s] w fun e w' => e = .returned (.tuple #[.int .i32 (Lib.decodeGo s).1, .int .i64 (Lib.decodeGo s).2]) ∧ Below w.heap.size w w' := Any.utf8_DecodeRuneInString Tryz.lays197 s w hT
def Tryz.lays274_ren : Go.Shelf.Ren := ⟨fun | 274 => 123 | n => n, fun | 21 => 21 | 162 => 174 | 160 => 179 | 3 => 3 | 4 => 4 | 46 => 83 | 0 => 0 | 208 => 185 | 51 => 107 | 206 => 183 | n => n, fun | n => n⟩
theorem Tryz.lays274 : Go.Proofs.Lays.n274 Tryz.prog Tryz.lays274_ren := {
  mixed := by kernel_rfl
  f274 := Tryz.func123.trans (congrArg some (by kernel_rfl))
  t0 := Tryz.underlying0
  a0 := Tryz.isAgg0
  z0 := Tryz.sizeOf0
  v0 := Tryz.zeroValue0
  t3 := Tryz.underlying3
  a3 := Tryz.isAgg3
  z3 := Tryz.sizeOf3
  v3 := Tryz.zeroValue3
  t4 := Tryz.underlying4
  a4 := Tryz.isAgg4
  z4 := Tryz.sizeOf4
  v4 := Tryz.zeroValue4
  t21 := Tryz.underlying21
  a21 := Tryz.isAgg21
  z21 := Tryz.sizeOf21
  v21 := Tryz.zeroValue21
  t46 := Tryz.underlying83
  a46 := Tryz.isAgg83
  z46 := Tryz.sizeOf83
  v46 := Tryz.zeroValue83
  t51 := Tryz.underlying107
  a51 := Tryz.isAgg107
  z51 := Tryz.sizeOf107
  v51 := Tryz.zeroValue107
  t160 := Tryz.underlying179
  a160 := Tryz.isAgg179
  z160 := Tryz.sizeOf179
  v160 := Tryz.zeroValue179
  t162 := Tryz.underlying174
  a162 := Tryz.isAgg174
  z162 := Tryz.sizeOf174
  v162 := Tryz.zeroValue174
  t208 := Tryz.underlying185
  a208 := Tryz.isAgg185
  z208 := Tryz.sizeOf185
  v208 := Tryz.zeroValue185 }
open Go.RowKit Go.Lib in
theorem Tryz.unicode_lookupCaseRange (T : Array CaseRow) (R oR cap : Nat) (r : Int) (w : World) (hT : CaseTab R oR T w) (hok : CaseOk T) (hn : T.size ≤ 1000000000) :
    Calls Tryz.prog 123 #[.int .i32 r, .slice (some ⟨R, oR, none⟩) T.size cap] w fun e w' =>
      e = .returned (match lookupIdx T r (T.size + 1) 0 T.size with | some i => .pointer (some ⟨R, oR + i * 5, none⟩) | none => .pointer none) ∧ w' = w := Any.unicode_lookupCaseRange Tryz.lays274 T R oR cap r w hT hok hn
def Tryz.lays275_ren : Go.Shelf.Ren := ⟨fun | 275 => 124 | n => n, fun | 3 => 3 | 21 => 21 | 160 => 179 | 0 => 0 | 208 => 185 | 206 => 183 | 4 => 4 | 51 => 107 | n => n, fun | n => n⟩
theorem Tryz.lays275 : Go.Proofs.Lays.n275 Tryz.prog Tryz.lays275_ren := {
  mixed := by kernel_rfl
  f275 := Tryz.func124.trans (congrArg some (by kernel_rfl))
  t0 := Tryz.underlying0
  a0 := Tryz.isAgg0
  z0 := Tryz.sizeOf0
  v0 := Tryz.zeroValue0
  t3 := Tryz.underlying3
  a3 := Tryz.isAgg3
  z3 := Tryz.sizeOf3
  v3 := Tryz.zeroValue3
  t4 := Tryz.underlying4
  a4 := Tryz.isAgg4
  z4 := Tryz.sizeOf4
  v4 := Tryz.zeroValue4
  t21 := Tryz.underlying21
  a21 := Tryz.isAgg21
  z21 := Tryz.sizeOf21
  v21 := Tryz.zeroValue21
  t51 := Tryz.underlying107
  a51 := Tryz.isAgg107
  z51 := Tryz.sizeOf107
  v51 := Tryz.zeroValue107
  t160 := Tryz.underlying179
  a160 := Tryz.isAgg179
  z160 := Tryz.sizeOf179
  v160 := Tryz.zeroValue179
  t206 := Tryz.underlying183
  a206 := Tryz.isAgg183
  z206 := Tryz.sizeOf183
  v206 := Tryz.zeroValue183
  t208 := Tryz.underlying185
  a208 := Tryz.isAgg185
  z208 := Tryz.sizeOf185
  v208 := Tryz.zeroValue185 }
open Go.RowKit Go.Lib in
theorem Tryz.unicode_convertCase (c : Nat) (hc : c < 3) (r : Int) (A o : Nat) (x : CaseRow) (w : World) (hlo : (x.1 : Int) ≤ r) (hhi : r ≤ (x.2.1 : Int)) (hH : x.2.1 < 2147483647) (c0 : w.cell? ⟨A, o, none⟩ = some (.int .u32 x.1)) (cD : w.cell? ⟨A, o + 2 + c, none⟩ = some (.int .i32 (x.delta c))) :
    Calls Tryz.prog 124 #[.int .i64 c, .int .i32 r, .pointer (some ⟨A, o, none⟩)] w fun e w' => e = .returned (.int .i32 (wrap32 (convertR c r x))) ∧ ∃ q, w' = w.drewN q := Any.unicode_convertCase Tryz.lays275 c hc r A o x w hlo hhi hH c0 cD
def Tryz.lays313_ren : Go.Shelf.Ren := ⟨fun | 313 => 121 | 274 => 123 | 275 => 124 | n => n, fun | 3 => 3 | 21 => 21 | 162 => 174 | 4 => 4 | 160 => 179 | 46 => 83 | 0 => 0 | 208 => 185 | 51 => 107 | 206 => 183 | n => n, fun | n => n⟩
theorem Tryz.lays313 : Go.Proofs.Lays.n313 Tryz.prog Tryz.lays313_ren := {
  mixed := by kernel_rfl
  f274 := Tryz.func123.trans (congrArg some (by kernel_rfl))
  f275 := Tryz.func124.trans (congrArg some (by kernel_rfl))
  f313 := Tryz.func121.trans (congrArg some (by kernel_rfl))
  t0 := Tryz.underlying0
  a0 := Tryz.isAgg0
  z0 := Tryz.sizeOf0
  v0 := Tryz.zeroValue0
  t3 := Tryz.underlying3
  a3 := Tryz.isAgg3
  z3 := Tryz.sizeOf3
  v3 := Tryz.zeroValue3
  t4 := Tryz.underlying4
  a4 := Tryz.isAgg4
  z4 := Tryz.sizeOf4
  v4 := Tryz.zeroValue4
  t21 := Tryz.underlying21
  a21 := Tryz.isAgg21
  z21 := Tryz.sizeOf21
  v21 := Tryz.zeroValue21
  t46 := Tryz.underlying83
  a46 := Tryz.isAgg83
  z46 := Tryz.sizeOf83
  v46 := Tryz.zeroValue83
  t51 := Tryz.underlying107
  a51 := Tryz.isAgg107
  z51 := Tryz.sizeOf107
  v51 := Tryz.zeroValue107
  t160 := Tryz.underlying179
  a160 := Tryz.isAgg179
  z160 := Tryz.sizeOf179
  v160 := Tryz.zeroValue179
  t162 := Tryz.underlying174
  a162 := Tryz.isAgg174
  z162 := Tryz.sizeOf174
  v162 := Tryz.zeroValue174
  t206 := Tryz.underlying183
  a206 := Tryz.isAgg183
  z206 := Tryz.sizeOf183
  v206 := Tryz.zeroValue183
  t208 := Tryz.underlying185
  a208 := Tryz.isAgg185
  z208 := Tryz.sizeOf185
  v208 := Tryz.zeroValue185 }
open Go.RowKit Go.Lib in
theorem Tryz.unicode_to (c : Nat) (hc : c < 3) (r : Int) (T : Array CaseRow) (R oR cap : Nat) (w : World) (hT : CaseTab R oR T w) (hok : CaseOk2 T) (hn : T.size ≤ 1000000000) :
    Calls Tryz.prog 121 #[.int .i64 c, .int .i32 r, .slice (some ⟨R, oR, none⟩) T.size cap] w fun e w' => e = .returned (.tuple #[.int .i32 (toW T c r), .bool (lookupIdx T r (T.size + 1) 0 T.size).isSome]) ∧ ∃ q, w' = w.drewN q := Any.unicode_to Tryz.lays313 c hc r T R oR cap w hT hok hn
def Tryz.lays262_ren : Go.Shelf.Ren := ⟨fun | 262 => 116 | 313 => 121 | 274 => 123 | 275 => 124 | n => n, fun | 3 => 3 | 21 => 21 | 162 => 174 | 203 => 146 | 4 => 4 | 160 => 179 | 46 => 83 | 0 => 0 | 208 => 185 | 51 => 107 | 206 => 183 | n => n, fun | 13 => 1 | n => n⟩
theorem Tryz.lays262 : Go.Proofs.Lays.n262 Tryz.prog Tryz.lays262_ren := {
  mixed := by kernel_rfl
  f262 := Tryz.func116.trans (congrArg some (by kernel_rfl))
  f274 := Tryz.func123.trans (congrArg some (by kernel_rfl))
  f275 := Tryz.func124.trans (congrArg some (by kernel_rfl))
  f313 := Tryz.func121.trans (congrArg some (by kernel_rfl))
  t0 := Tryz.underlying0
  a0 := Tryz.isAgg0
  z0 := Tryz.sizeOf0
  v0 := Tryz.zeroValue0
  t3 := Tryz.underlying3
  a3 := Tryz.isAgg3
  z3 := Tryz.sizeOf3
  v3 := Tryz.zeroValue3
  t4 := Tryz.underlying4
  a4 := Tryz.isAgg4
  z4 := Tryz.sizeOf4
  v4 := Tryz.zeroValue4
  t21 := Tryz.underlying21
  a21 := Tryz.isAgg21
  z21 := Tryz.sizeOf21
  v21 := Tryz.zeroValue21
  t46 := Tryz.underlying83
  a46 := Tryz.isAgg83
  z46 := Tryz.sizeOf83
  v46 := Tryz.zeroValue83
  t51 := Tryz.underlying107
  a51 := Tryz.isAgg107
  z51 := Tryz.sizeOf107
  v51 := Tryz.zeroValue107
  t160 := Tryz.underlying179
  a160 := Tryz.isAgg179
  z160 := Tryz.sizeOf179
  v160 := Tryz.zeroValue179
  t162 := Tryz.underlying174
  a162 := Tryz.isAgg174
  z162 := Tryz.sizeOf174
  v162 := Tryz.zeroValue174
  t203 := Tryz.underlying146
  a203 := Tryz.isAgg146
  z203 := Tryz.sizeOf146
  v203 := Tryz.zeroValue146
  t206 := Tryz.underlying183
  a206 := Tryz.isAgg183
  z206 := Tryz.sizeOf183
  v206 := Tryz.zeroValue183
  t208 := Tryz.underlying185
  a208 := Tryz.isAgg185
  z208 := Tryz.sizeOf185
  v208 := Tryz.zeroValue185
  g13 := by kernel_rfl }
open Go.RowKit Go.Lib in
theorem Tryz.unicode_To (c : Nat) (hc : c < 3) (r : Int) (T : Array CaseRow) (w : World) (hV : CaseVar 1 T w) (hok : CaseOk2 T) (hn : T.size ≤ 1000000000) :
    Calls Tryz.prog 116 #[.int .i64 c, .int .i32 r] w fun e w' => e = .returned (.int .i32 (toW T c r)) ∧ ∃ q, w' = w.drewN q := Any.unicode_To Tryz.lays262 c hc r T w hV hok hn
open Go.RowKit Go.Lib in
theorem Tryz.unicode_ToLower_any (r : Int) (T : Array CaseRow) (w : World) (hV : CaseVar 1 T w) (hok : CaseOk2 T) (hn : T.size ≤ 1000000000) :
    Calls Tryz.prog 109 #[.int .i32 r] w fun e w' => e = .returned (.int .i32 (Lib.toLowerW T r)) ∧ ∃ q, w' = w.drewN q := Any.unicode_ToLower_any Tryz.lays204 r T w hV hok hn
open Go.RowKit Go.Lib in
theorem Tryz.unicode_ToLower_laid (r : Int) (w : World) (hV : CaseVar 1 caseA w) :
    Calls Tryz.prog 109 #[.int .i32 r] w fun e w' => e = .returned (.int .i32 (toLowerU r)) ∧ ∃ q, w' = w.drewN q := Any.unicode_ToLower_laid Tryz.lays204 r w hV
def Tryz.lays270_ren : Go.Shelf.Ren := ⟨fun | 270 => 115 | n => n, fun | 70 => 151 | 3 => 3 | 0 => 0 | 72 => 153 | 37 => 62 | 5 => 5 | n => n, fun | n => n⟩
theorem Tryz.lays270 : Go.Proofs.Lays.n270 Tryz.prog Tryz.lays270_ren := {
  mixed := by kernel_rfl
  f270 := Tryz.func115.trans (congrArg some (by kernel_rfl))
  t0 := Tryz.underlying0
  a0 := Tryz.isAgg0
  z0 := Tryz.sizeOf0
  v0 := Tryz.zeroValue0
  t3 := Tryz.underlying3
  a3 := Tryz.isAgg3
  z3 := Tryz.sizeOf3
  v3 := Tryz.zeroValue3
  t37 := Tryz.underlying62
  a37 := Tryz.isAgg62
  z37 := Tryz.sizeOf62
  v37 := Tryz.zeroValue62
  t70 := Tryz.underlying151
  a70 := Tryz.isAgg151
  z70 := Tryz.sizeOf151
  v70 := Tryz.zeroValue151
  t72 := Tryz.underlying153
  a72 := Tryz.isAgg153
  z72 := Tryz.sizeOf153
  v72 := Tryz.zeroValue153 }
open Go.RowKit Go.Lib in
/-- (*strings.Builder).Cap: "Cap returns the capacity of the builder's underlying byte slice." (LAID: no walk: one application.) -/
theorem Tryz.Builder_Cap_cell (b : Nat) (p : Option Addr) (n cap : Nat) (w : World) (c1 : w.cell? ⟨b, 1, none⟩ = some (.slice p n cap)) :
    Calls Tryz.prog 115 #[.pointer (some ⟨b, 0, none⟩)] w fun e w' => e = .returned (.int .i64 cap) ∧ w' = w := Any.Builder_Cap_cell Tryz.lays270 b p n cap w c1
def Tryz.lays230_ren : Go.Shelf.Ren := ⟨fun | 230 => 108 | 197 => 112 | 118 => 113 | 165 => 104 | 166 => 105 | 168 => 114 | 270 => 115 | 167 => 106 | 169 => 107 | 260 => 119 | 240 => 110 | 241 => 111 | 242 => 120 | 276 => 117 | 277 => 118 | 278 => 122 | n => n, fun | 107 => 162 | 9 => 9 | 72 => 153 | 0 => 0 | 4 => 4 | 3 => 3 | 21 => 21 | 105 => 129 | 76 => 157 | 5 => 5 | 75 => 156 | 70 => 151 | 20 => 20 | 37 => 62 | 127 => 163 | 119 => 175 | 46 => 83 | 139 => 178 | 138 => 177 | 164 => 169 | 51 => 107 | 80 => 160 | n => n, fun | 3 => 2 | 4 => 3 | n => n⟩
theorem Tryz.lays230 : Go.Proofs.Lays.n230 Tryz.prog Tryz.lays230_ren := {
  mixed := by kernel_rfl
  f118 := Tryz.func113.trans (congrArg some (by kernel_rfl))
  f165 := Tryz.func104.trans (congrArg some (by kernel_rfl))
  f166 := Tryz.func105.trans (congrArg some (by kernel_rfl))
  f167 := Tryz.func106.trans (congrArg some (by kernel_rfl))
  f168 := Tryz.func114.trans (congrArg some (by kernel_rfl))
  f169 := Tryz.func107.trans (congrArg some (by kernel_rfl))
  f197 := Tryz.func112.trans (congrArg some (by kernel_rfl))
  f230 := Tryz.func108.trans (congrArg some (by kernel_rfl))
  f240 := Tryz.func110.trans (congrArg some (by kernel_rfl))
  f241 := Tryz.func111.trans (congrArg some (by kernel_rfl))
  f242 := Tryz.func120.trans (congrArg some (by kernel_rfl))
  f260 := Tryz.func119.trans (congrArg some (by kernel_rfl))
  f270 := Tryz.func115.trans (congrArg some (by kernel_rfl))
  f276 := Tryz.func117.trans (congrArg some (by kernel_rfl))
  f277 := Tryz.func118.trans (congrArg some (by kernel_rfl))
  f278 := Tryz.func122.trans (congrArg some (by kernel_rfl))
  t0 := Tryz.underlying0
  a0 := Tryz.isAgg0
  z0 := Tryz.sizeOf0
  v0 := Tryz.zeroValue0
  t3 := Tryz.underlying3
  a3 := Tryz.isAgg3
  z3 := Tryz.sizeOf3
  v3 := Tryz.zeroValue3
  t4 := Tryz.underlying4
  a4 := Tryz.isAgg4
  z4 := Tryz.sizeOf4
  v4 := Tryz.zeroValue4
  t5 := Tryz.underlying5
  a5 := Tryz.isAgg5
  z5 := Tryz.sizeOf5
  v5 := Tryz.zeroValue5
  t9 := Tryz.underlying9
  a9 := Tryz.isAgg9
  z9 := Tryz.sizeOf9
  v9 := Tryz.zeroValue9
  t20 := Tryz.underlying20
  a20 := Tryz.isAgg20
  z20 := Tryz.sizeOf20
  v20 := Tryz.zeroValue20
  t21 := Tryz.underlying21
  a21 := Tryz.isAgg21
  z21 := Tryz.sizeOf21
  v21 := Tryz.zeroValue21
  t37 := Tryz.underlying62
  a37 := Tryz.isAgg62
  z37 := Tryz.sizeOf62
  v37 := Tryz.zeroValue62
  t46 := Tryz.underlying83
  a46 := Tryz.isAgg83
  z46 := Tryz.sizeOf83
  v46 := Tryz.zeroValue83
  t51 := Tryz.underlying107
  a51 := Tryz.isAgg107
  z51 := Tryz.sizeOf107
  v51 := Tryz.zeroValue107
  t70 := Tryz.underlying151
  a70 := Tryz.isAgg151
  z70 := Tryz.sizeOf151
  v70 := Tryz.zeroValue151
  t72 := Tryz.underlying153
  a72 := Tryz.isAgg153
  z72 := Tryz.sizeOf153
  v72 := Tryz.zeroValue153
  t75 := Tryz.underlying156
  a75 := Tryz.isAgg156
  z75 := Tryz.sizeOf156
  v75 := Tryz.zeroValue156
  t76 := Tryz.underlying157
  a76 := Tryz.isAgg157
  z76 := Tryz.sizeOf157
  v76 := Tryz.zeroValue157
  t105 := Tryz.underlying129
  a105 := Tryz.isAgg129
  z105 := Tryz.sizeOf129
  v105 := Tryz.zeroValue129
  t107 := Tryz.underlying162
  a107 := Tryz.isAgg162
  z107 := Tryz.sizeOf162
  v107 := Tryz.zeroValue162
  t119 := Tryz.underlying175
  a119 := Tryz.isAgg175
  z119 := Tryz.sizeOf175
  t127 := Tryz.underlying163
  a127 := Tryz.isAgg163
  z127 := Tryz.sizeOf163
  v127 := Tryz.zeroValue163
  t138 := Tryz.underlying177
  a138 := Tryz.isAgg177
  z138 := Tryz.sizeOf177
  v138 := Tryz.zeroValue177
  t139 := Tryz.underlying178
  a139 := Tryz.isAgg178
  z139 := Tryz.sizeOf178
  v139 := Tryz.zeroValue178
  t164 := Tryz.underlying169
  a164 := Tryz.isAgg169
  z164 := Tryz.sizeOf169
  v164 := Tryz.zeroValue169
  g3 := by kernel_rfl
  g4 := by kernel_rfl }
theorem Tryz.Builder_Extra_230 : Builder.Extra Tryz.prog Tryz.lays230_ren := {
  sizeBuilder := by kernel_rfl
  liesBuilder := by kernel_rfl
  t5 := Tryz.underlying5
  a5 := Tryz.isAgg5
  z5 := Tryz.sizeOf5
  v5 := Tryz.zeroValue5
  infoByte := by kernel_rfl
  cellsByte := by kernel_rfl
  sizeByte := by kernel_rfl
  neB5 := by decide }
open Go.RowKit Go.Lib in
theorem Tryz.strings_Map_runes (g : Nat) (lb : Array Value) (eg : ∀ args w, (callFunc g args).run Tryz.prog w = .ok (.enter g args) w) (f : Int → Int) (s : ByteArray) (w : World) (hs : s.size < 35184372088832) (hf : MapAtRunes Tryz.prog g lb f w) (hnn : ∀ x : Nat, x ≤ 1114111 → 0 ≤ f x ∧ f x ≤ 2147483647) (hT : Lib.Utf8Tabs 2 3 w) :
    Calls Tryz.prog 108 #[.func (.func g) #[] lb, .string s] w fun e w' => e = .returned (.string ⟨(Lib.mapD f s.data.toList).toArray⟩) ∧ Below w.heap.size w w' := Any.strings_Map_runes Tryz.lays230 Tryz.Builder_Extra_230 g lb eg f s w hs hf hnn hT
open Go.RowKit Go.Lib in
theorem Tryz.strings_ToLower_beyond (s : ByteArray) (w : World) (hs : s.size < 35184372088832) (hhigh : ∃ (j : Nat) (b : UInt8), s.data.toList[j]? = some b ∧ 128 ≤ b.toNat) (hV : CaseVar 1 caseA w) (hT : Lib.Utf8Tabs 2 3 w) :
    Calls Tryz.prog 102 #[.string s] w fun e w' => e = .returned (.string ⟨(Lib.toLowerD s.data.toList).toArray⟩) ∧ Below w.heap.size w w' := Any.strings_ToLower_beyond Tryz.lays159 Tryz.Builder_Extra_159 s w hs hhigh hV hT
open Go.RowKit Go.Lib in
/-- **strings.ToLower AT EVERY STRING, VALID UTF-8 OR NOT.** (LAID: no walk: one application.) -/
theorem Tryz.strings_ToLower_any (s : ByteArray) (w : World) (hs : s.size < 35184372088832) (hV : CaseVar 1 caseA w) (hT : Lib.Utf8Tabs 2 3 w) :
    Calls Tryz.prog 102 #[.string s] w fun e w' => e = .returned (.string ⟨(Lib.toLowerD s.data.toList).toArray⟩) ∧ Below w.heap.size w w' := Any.strings_ToLower_any Tryz.lays159 Tryz.Builder_Extra_159 s w hs hV hT
def Tryz.lays194_ren : Go.Shelf.Ren := ⟨fun | 194 => 28 | n => n, fun | 31 => 29 | 9 => 9 | 3 => 3 | 4 => 4 | 0 => 0 | n => n, fun | n => n⟩
theorem Tryz.lays194 : Go.Proofs.Lays.n194 Tryz.prog Tryz.lays194_ren := {
  mixed := by kernel_rfl
  f194 := Tryz.func28.trans (congrArg some (by kernel_rfl))
  t0 := Tryz.underlying0
  a0 := Tryz.isAgg0
  z0 := Tryz.sizeOf0
  v0 := Tryz.zeroValue0
  t3 := Tryz.underlying3
  a3 := Tryz.isAgg3
  z3 := Tryz.sizeOf3
  v3 := Tryz.zeroValue3
  t4 := Tryz.underlying4
  a4 := Tryz.isAgg4
  z4 := Tryz.sizeOf4
  v4 := Tryz.zeroValue4
  t9 := Tryz.underlying9
  a9 := Tryz.isAgg9
  z9 := Tryz.sizeOf9
  v9 := Tryz.zeroValue9
  t31 := Tryz.underlying29
  a31 := Tryz.isAgg29
  z31 := Tryz.sizeOf29
  v31 := Tryz.zeroValue29 }
open Go.RowKit Go.Lib Go.Sort in
/-- slices.Compact at []string, over an array: the library's two loops are walked. (LAID: no walk: one application.) -/
theorem Tryz.slices_Compact_string_arr (blk off cap : Nat) (d : Array (List UInt8)) (w : World) (hH : Holds encStr w blk off d) (hsz : d.size ≤ 9223372036854775807) (hcap : d.size ≤ cap) :
    Calls Tryz.prog 28 #[.slice (some ⟨blk, off, none⟩) d.size cap] w fun e w' => e = .returned (.slice (some ⟨blk, off, none⟩) (compactUpTo d d.size).length cap) ∧ ∃ q, w' = putRow encStr (Sort.ahead w q) blk off (compactUpTo d d.size ++ List.replicate (d.size - (compactUpTo d d.size).length) []).toArray := Any.slices_Compact_string_arr Tryz.lays194 blk off cap d w hH hsz hcap
open Go.RowKit Go.Lib Go.Sort in
/-- slices.Compact at []string: "Compact replaces consecutive runs of equal elements with a single copy. This is like the uniq command found on Unix. Compact modifies the contents of the slice s and returns the modified slice, which may have a smaller length. Compact zeroes the elements between the new length and the original length. The result preserves the nilness of s.": IT RETURNS THE SLICE CUT TO 'Lib.compact zs'; ITS CELLS HOLD 'Lib.compact zs', THEN ZERO VALUES up to the old length; all else is as it was, but for the count of draws. IN THE WORDS OF slices.Sort's CONTRACT ('Holds', 'putRow'): so the everyday 'slices.Sort(xs); xs = slices.Compact(xs)' goes from the one contract to the other. It asks 'zs.length ≤ cap' (every slice's: the reslicing 's[:k]' looks at it). Length 0, nil: '.._empty'. (LAID: no walk: one application.) -/
theorem Tryz.slices_Compact_string (blk off cap : Nat) (zs : List (List UInt8)) (w : World) (hH : Holds encStr w blk off zs.toArray) (hsz : zs.length ≤ 9223372036854775807) (hcap : zs.length ≤ cap) :
    Calls Tryz.prog 28 #[.slice (some ⟨blk, off, none⟩) zs.length cap] w fun e w' => e = .returned (.slice (some ⟨blk, off, none⟩) (Lib.compact zs).length cap) ∧ ∃ q, w' = putRow encStr (Sort.ahead w q) blk off (Lib.compact zs ++ List.replicate (zs.length - (Lib.compact zs).length) []).toArray := Any.slices_Compact_string Tryz.lays194 blk off cap zs w hH hsz hcap
open Go.RowKit Go.Lib Go.Sort in
/-- The same at a slice of length 0, a nil one too: it comes back as it is. (LAID: no walk: one application.) -/
theorem Tryz.slices_Compact_string_empty (a : Option Addr) (cap : Nat) (w : World) :
    Calls Tryz.prog 28 #[.slice a 0 cap] w fun e w' => e = .returned (.slice a 0 cap) ∧ w' = w := Any.slices_Compact_string_empty Tryz.lays194 a cap w
open Go.RowKit Go.Lib Go.Sort in
/-- slices.Compact at []string, of an argument. (LAID: no walk: one application.) -/
theorem Tryz.slices_Compact_string_cells (b off n c : Nat) (Sx : Nat → ByteArray) (w : World) (hbig : n ≤ 9223372036854775807) (hcap : n ≤ c) (hc : ∀ i, i < n → w.cell? ⟨b, off + i, none⟩ = some (.string (Sx i))) (hf : ∀ j, j < n → w.frozen? ⟨b, off + j, none⟩ = false) :
    Calls Tryz.prog 28 #[.slice (some ⟨b, off, none⟩) n c] w fun e w' => e = .returned (.slice (some ⟨b, off, none⟩) (Lib.compact (Lib.strsOf Sx n)).length c) ∧ ∃ q, w' = (w.drewN q).setCells b off ((Lib.compact (Lib.strsOf Sx n) ++ List.replicate (n - (Lib.compact (Lib.strsOf Sx n)).length) []).map encStr) := Any.slices_Compact_string_cells Tryz.lays194 b off n c Sx w hbig hcap hc hf
open Go.RowKit Go.Sort in
/-- .. and plain. (LAID: no walk: one application.) -/
theorem Tryz.slices_Sort_string_none (p : Option Addr) (cap : Nat) (w : World) :
    Calls Tryz.prog 27 #[.slice p 0 cap] w fun e w' => e = .returned (.tuple #[]) ∧ w' = w := Any.slices_Sort_string_none Tryz.lays190 p cap w
end Go.Proofs
