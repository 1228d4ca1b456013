/- The shelf contracts of this program (plain words). -/
import Derived.Shelf.Strings.Builder1
import Derived.Shelf.Strings.Builder2
import Derived.Shelf.Strings.OnBuilder
import Derived.Shelf.Strings.Trim
import Derived.Shelf.Small.Utf8
import Derived.Shelf.Small.Strs
import Derived.Shelf.Small.Wraps
import Derived.Shelf.Strings.BuilderF
import Derived.Shelf.Strings.BuilderK
import Derived.Shelf.Strings.Builder2Cap
import Derived.Shelf.Strings.Search1
import Derived.Shelf.Strings.Search2
import Derived.Shelf.Strings.Search3
import Derived.Shelf.LaysM
import Derived.Shelf.Strings.Shaped
import Derived.Shelf.GgClosure.StringsIndexFunc
import Derived.Ground.GgwProg
import Derived.Shelf.GgClosure.StringsIndexFuncTop
import Derived.Shelf.GgClosure.StringsRunes
import Derived.Shelf.Strings.Prefix
import Derived.Shelf.Strings.Fields
import Derived.Shelf.Strings.SplitShaped
import Derived.Shelf.Unicode.Latin
import Derived.Shelf.Unicode.Decode
import Derived.Shelf.Strings.Runes
import Derived.Shelf.Strings.AsciiSet
import Derived.Shelf.Bits.Mul64
import Derived.Shelf.Strings.Repeat
import Derived.Shelf.Unicode.DecodeSlow
import Derived.Shelf.Unicode.DecodeAny
import Derived.Shelf.Unicode.Is16White
import Derived.Shelf.Unicode.IsSpaceAny
import Derived.Shelf.Unicode.DecodeLast
import Derived.Shelf.Unicode.Is16WhiteD
import Derived.Shelf.Unicode.IsSpaceAnyD
import Derived.Shelf.Strings.FieldsAny
import Derived.Shelf.Strings.FieldsFuncAny
import Derived.Shelf.Unicode.Is16Any
import Derived.Shelf.Unicode.Is32Any
import Derived.Shelf.Unicode.ExclAny
import Derived.Shelf.Strings.FuncGrows
import Derived.Shelf.Strings.FieldsFuncGrows
import Derived.Shelf.Strings.BuilderCap
import Derived.Shelf.Slices.Turned
import Derived.Shelf.Slices.Equal
import Derived.Ground.Names2Prog
import Derived.Shelf.Slices.SearchI
import Derived.Shelf.Slices.Empties2
import Derived.Test.YteamjdmhdfjopaaGreatDoorProg
namespace Go.Proofs
open Go.Shelf
def Tryz.lays170_ren:Go.Shelf.Ren:=⟨fun | 170=>84 | n=>n,fun | 70=>140 | 3=>3 | 0=>0 | 72=>142 | 37=>129 | 5=>5 | n=>n,fun | n=>n⟩
theorem Tryz.lays170:Go.Proofs.Lays.n170 Tryz.prog Tryz.lays170_ren:={
 mixed:=by kernel_rfl
 f170:=Tryz.func84.trans (congrArg some (by kernel_rfl))
 t0:=Tryz.underlying0
 a0:=Tryz.isAgg0
 z0:=Tryz.sizeOf0
 v0:=Tryz.zeroValue0
 t3:=Tryz.underlying3
 a3:=Tryz.isAgg3
 z3:=Tryz.sizeOf3
 v3:=Tryz.zeroValue3
 t37:=Tryz.underlying129
 a37:=Tryz.isAgg129
 z37:=Tryz.sizeOf129
 v37:=Tryz.zeroValue129
 t70:=Tryz.underlying140
 a70:=Tryz.isAgg140
 z70:=Tryz.sizeOf140
 v70:=Tryz.zeroValue140
 t72:=Tryz.underlying142
 a72:=Tryz.isAgg142
 z72:=Tryz.sizeOf142
 v72:=Tryz.zeroValue142 }
open Go.RowKit in
theorem Tryz.Builder_Len (B b:Nat)(bs:List Value)(w:World)(h:Lib.IsBuilder 142 5 B b bs w):
 Calls Tryz.prog 84 #[.pointer (some ⟨b,0,none⟩)] w fun e w'=>e= .returned (.int .i64 bs.length)/\w'=w:=Any.Builder_Len Tryz.lays170 B b bs w h
def Tryz.lays169_ren:Go.Shelf.Ren:=⟨fun | 169=>85 | n=>n,fun | 70=>140 | 9=>9 | 0=>0 | 72=>142 | 37=>129 | 127=>201 | 3=>3 | 5=>5 | n=>n,fun | n=>n⟩
theorem Tryz.lays169:Go.Proofs.Lays.n169 Tryz.prog Tryz.lays169_ren:={
 mixed:=by kernel_rfl
 f169:=Tryz.func85.trans (congrArg some (by kernel_rfl))
 t0:=Tryz.underlying0
 a0:=Tryz.isAgg0
 z0:=Tryz.sizeOf0
 v0:=Tryz.zeroValue0
 t3:=Tryz.underlying3
 a3:=Tryz.isAgg3
 z3:=Tryz.sizeOf3
 v3:=Tryz.zeroValue3
 t9:=Tryz.underlying9
 a9:=Tryz.isAgg9
 z9:=Tryz.sizeOf9
 v9:=Tryz.zeroValue9
 t37:=Tryz.underlying129
 a37:=Tryz.isAgg129
 z37:=Tryz.sizeOf129
 v37:=Tryz.zeroValue129
 t70:=Tryz.underlying140
 a70:=Tryz.isAgg140
 z70:=Tryz.sizeOf140
 v70:=Tryz.zeroValue140
 t72:=Tryz.underlying142
 a72:=Tryz.isAgg142
 z72:=Tryz.sizeOf142
 v72:=Tryz.zeroValue142
 t127:=Tryz.underlying201
 a127:=Tryz.isAgg201
 z127:=Tryz.sizeOf201
 v127:=Tryz.zeroValue201 }
theorem Tryz.Builder_Extra_169:Builder.Extra Tryz.prog Tryz.lays169_ren:={
 sizeBuilder:=by kernel_rfl
 liesBuilder:=by kernel_rfl
 t5:=Tryz.underlying5
 a5:=Tryz.isAgg5
 z5:=Tryz.sizeOf5
 v5:=Tryz.zeroValue5
 infoByte:=by kernel_rfl
 cellsByte:=by kernel_rfl
 sizeByte:=by kernel_rfl
 neB5:=by decide }
open Go.RowKit in
theorem Tryz.Builder_String_any (B b:Nat)(l:List UInt8)(w:World)(h:Lib.IsBuilder 142 5 B b (Lib.byteCells l) w)(hBw:B<=w.heap.size):
 Calls Tryz.prog 85 #[.pointer (some ⟨b,0,none⟩)] w fun e w'=>e= .returned (.string ⟨l.toArray⟩)/\Below B w w':=Any.Builder_String_any Tryz.lays169 Tryz.Builder_Extra_169 B b l w h hBw
open Go.RowKit in
def Tryz.lays156_ren:Go.Shelf.Ren:=⟨fun | 156=>61 | 165=>108 | 166=>83 | 169=>85 | 240=>129 | 241=>146 | 276=>176 | 277=>197 | n=>n,fun | 31=>23 | 9=>9 | 3=>3 | 4=>4 | 0=>0 | 20=>20 | 72=>142 | 76=>145 | 70=>140 | 37=>129 | 75=>125 | 127=>201 | 164=>247 | 5=>5 | 80=>148 | n=>n,fun | n=>n⟩
theorem Tryz.lays156:Go.Proofs.Lays.n156 Tryz.prog Tryz.lays156_ren:={
 mixed:=by kernel_rfl
 f156:=Tryz.func61.trans (congrArg some (by kernel_rfl))
 f165:=Tryz.func108.trans (congrArg some (by kernel_rfl))
 f166:=Tryz.func83.trans (congrArg some (by kernel_rfl))
 f169:=Tryz.func85.trans (congrArg some (by kernel_rfl))
 f240:=Tryz.func129.trans (congrArg some (by kernel_rfl))
 f241:=Tryz.func146.trans (congrArg some (by kernel_rfl))
 f276:=Tryz.func176.trans (congrArg some (by kernel_rfl))
 f277:=Tryz.func197.trans (congrArg some (by kernel_rfl))
 t0:=Tryz.underlying0
 a0:=Tryz.isAgg0
 z0:=Tryz.sizeOf0
 v0:=Tryz.zeroValue0
 t3:=Tryz.underlying3
 a3:=Tryz.isAgg3
 z3:=Tryz.sizeOf3
 v3:=Tryz.zeroValue3
 t4:=Tryz.underlying4
 a4:=Tryz.isAgg4
 z4:=Tryz.sizeOf4
 v4:=Tryz.zeroValue4
 t9:=Tryz.underlying9
 a9:=Tryz.isAgg9
 z9:=Tryz.sizeOf9
 v9:=Tryz.zeroValue9
 t20:=Tryz.underlying20
 a20:=Tryz.isAgg20
 z20:=Tryz.sizeOf20
 v20:=Tryz.zeroValue20
 t31:=Tryz.underlying23
 a31:=Tryz.isAgg23
 z31:=Tryz.sizeOf23
 v31:=Tryz.zeroValue23
 t37:=Tryz.underlying129
 a37:=Tryz.isAgg129
 z37:=Tryz.sizeOf129
 v37:=Tryz.zeroValue129
 t70:=Tryz.underlying140
 a70:=Tryz.isAgg140
 z70:=Tryz.sizeOf140
 v70:=Tryz.zeroValue140
 t72:=Tryz.underlying142
 a72:=Tryz.isAgg142
 z72:=Tryz.sizeOf142
 v72:=Tryz.zeroValue142
 t75:=Tryz.underlying125
 a75:=Tryz.isAgg125
 z75:=Tryz.sizeOf125
 v75:=Tryz.zeroValue125
 t76:=Tryz.underlying145
 a76:=Tryz.isAgg145
 z76:=Tryz.sizeOf145
 v76:=Tryz.zeroValue145
 t127:=Tryz.underlying201
 a127:=Tryz.isAgg201
 z127:=Tryz.sizeOf201
 v127:=Tryz.zeroValue201
 t164:=Tryz.underlying247
 a164:=Tryz.isAgg247
 z164:=Tryz.sizeOf247
 v164:=Tryz.zeroValue247 }
theorem Tryz.Builder_Extra_156:Builder.Extra Tryz.prog Tryz.lays156_ren:={
 sizeBuilder:=by kernel_rfl
 liesBuilder:=by kernel_rfl
 t5:=Tryz.underlying5
 a5:=Tryz.isAgg5
 z5:=Tryz.sizeOf5
 v5:=Tryz.zeroValue5
 infoByte:=by kernel_rfl
 cellsByte:=by kernel_rfl
 sizeByte:=by kernel_rfl
 neB5:=by decide }
open Go.RowKit in
theorem Tryz.strings_Join_none (a:Option Addr)(c:Nat)(sep:ByteArray)(w:World):
 Calls Tryz.prog 61 #[.slice a 0 c,.string sep] w fun e w'=>e= .returned (.string ⟨#[]⟩)/\w'=w:=Any.strings_Join_none Tryz.lays156 Tryz.Builder_Extra_156 a c sep w
open Go.RowKit in
theorem Tryz.strings_Join (bk o c:Nat)(xs:List ByteArray)(sep:ByteArray)(w:World)(hcells:∀(j:Nat) x,xs[j]? =some x->w.cell? ⟨bk,o+j,none⟩=some (.string x))(hbk:bk<w.heap.size)(hN:xs.length<=140737488355328)(hcap:xs.length<=c)(hlen:(Lib.join (xs.map (·.data.toList)) sep.data.toList).length<=140737488355328):
 Calls Tryz.prog 61 #[.slice (some ⟨bk,o,none⟩) xs.length c,.string sep] w fun e w'=>e= .returned (.string ⟨(Lib.join (xs.map (·.data.toList)) sep.data.toList).toArray⟩)/\Below w.heap.size w w':=Any.strings_Join Tryz.lays156 Tryz.Builder_Extra_156 bk o c xs sep w hcells hbk hN hcap hlen
open Go.RowKit in
def Tryz.lays160_ren:Go.Shelf.Ren:=⟨fun | 160=>218 | 232=>241 | 231=>240 | 227=>242 | 234=>244 | 233=>243 | 236=>246 | 235=>245 | 228=>256 | 271=>259 | 151=>258 | 197=>257 | 120=>266 | 152=>265 | 260=>264 | 137=>87 | 119=>267 | 224=>162 | 225=>161 | 217=>130 | 266=>177 | n=>n,fun | 9=>9 | 4=>4 | 3=>3 | 5=>5 | 117=>330 | 116=>329 | 0=>0 | 124=>333 | 21=>21 | 105=>339 | 46=>180 | 119=>150 | 139=>347 | 138=>346 | n=>n,fun | 3=>4 | 4=>5 | n=>n⟩
theorem Tryz.lays160:Go.Proofs.Lays.n160 Tryz.prog Tryz.lays160_ren:={
 mixed:=by kernel_rfl
 f119:=Tryz.func267.trans (congrArg some (by kernel_rfl))
 f120:=Tryz.func266.trans (congrArg some (by kernel_rfl))
 f137:=Tryz.func87.trans (congrArg some (by kernel_rfl))
 f151:=Tryz.func258.trans (congrArg some (by kernel_rfl))
 f152:=Tryz.func265.trans (congrArg some (by kernel_rfl))
 f160:=Tryz.func218.trans (congrArg some (by kernel_rfl))
 f197:=Tryz.func257.trans (congrArg some (by kernel_rfl))
 f217:=Tryz.func130.trans (congrArg some (by kernel_rfl))
 f224:=Tryz.func162.trans (congrArg some (by kernel_rfl))
 f225:=Tryz.func161.trans (congrArg some (by kernel_rfl))
 f227:=Tryz.func242.trans (congrArg some (by kernel_rfl))
 f228:=Tryz.func256.trans (congrArg some (by kernel_rfl))
 f231:=Tryz.func240.trans (congrArg some (by kernel_rfl))
 f232:=Tryz.func241.trans (congrArg some (by kernel_rfl))
 f233:=Tryz.func243.trans (congrArg some (by kernel_rfl))
 f234:=Tryz.func244.trans (congrArg some (by kernel_rfl))
 f235:=Tryz.func245.trans (congrArg some (by kernel_rfl))
 f236:=Tryz.func246.trans (congrArg some (by kernel_rfl))
 f260:=Tryz.func264.trans (congrArg some (by kernel_rfl))
 f266:=Tryz.func177.trans (congrArg some (by kernel_rfl))
 f271:=Tryz.func259.trans (congrArg some (by kernel_rfl))
 t0:=Tryz.underlying0
 a0:=Tryz.isAgg0
 z0:=Tryz.sizeOf0
 v0:=Tryz.zeroValue0
 t3:=Tryz.underlying3
 a3:=Tryz.isAgg3
 z3:=Tryz.sizeOf3
 v3:=Tryz.zeroValue3
 t4:=Tryz.underlying4
 a4:=Tryz.isAgg4
 z4:=Tryz.sizeOf4
 v4:=Tryz.zeroValue4
 t5:=Tryz.underlying5
 a5:=Tryz.isAgg5
 z5:=Tryz.sizeOf5
 v5:=Tryz.zeroValue5
 t9:=Tryz.underlying9
 a9:=Tryz.isAgg9
 z9:=Tryz.sizeOf9
 v9:=Tryz.zeroValue9
 t21:=Tryz.underlying21
 a21:=Tryz.isAgg21
 z21:=Tryz.sizeOf21
 v21:=Tryz.zeroValue21
 t46:=Tryz.underlying180
 a46:=Tryz.isAgg180
 z46:=Tryz.sizeOf180
 v46:=Tryz.zeroValue180
 t105:=Tryz.underlying339
 a105:=Tryz.isAgg339
 z105:=Tryz.sizeOf339
 v105:=Tryz.zeroValue339
 t116:=Tryz.underlying329
 a116:=Tryz.isAgg329
 z116:=Tryz.sizeOf329
 t117:=Tryz.underlying330
 a117:=Tryz.isAgg330
 z117:=Tryz.sizeOf330
 v117:=Tryz.zeroValue330
 t119:=Tryz.underlying150
 a119:=Tryz.isAgg150
 z119:=Tryz.sizeOf150
 t124:=Tryz.underlying333
 a124:=Tryz.isAgg333
 z124:=Tryz.sizeOf333
 v124:=Tryz.zeroValue333
 t138:=Tryz.underlying346
 a138:=Tryz.isAgg346
 z138:=Tryz.sizeOf346
 v138:=Tryz.zeroValue346
 t139:=Tryz.underlying347
 a139:=Tryz.isAgg347
 z139:=Tryz.sizeOf347
 v139:=Tryz.zeroValue347
 g3:=by kernel_rfl
 g4:=by kernel_rfl }
open Go.RowKit in
def Tryz.lays137_ren:Go.Shelf.Ren:=⟨fun | 137=>87 | 217=>130 | 266=>177 | n=>n,fun | 9=>9 | 5=>5 | 3=>3 | n=>n,fun | n=>n⟩
theorem Tryz.lays137:Go.Proofs.Lays.n137 Tryz.prog Tryz.lays137_ren:={
 mixed:=by kernel_rfl
 f137:=Tryz.func87.trans (congrArg some (by kernel_rfl))
 f217:=Tryz.func130.trans (congrArg some (by kernel_rfl))
 f266:=Tryz.func177.trans (congrArg some (by kernel_rfl))
 t3:=Tryz.underlying3
 a3:=Tryz.isAgg3
 z3:=Tryz.sizeOf3
 v3:=Tryz.zeroValue3
 t5:=Tryz.underlying5
 a5:=Tryz.isAgg5
 z5:=Tryz.sizeOf5
 v5:=Tryz.zeroValue5
 t9:=Tryz.underlying9
 a9:=Tryz.isAgg9
 z9:=Tryz.sizeOf9
 v9:=Tryz.zeroValue9 }
open Go.RowKit in
theorem Tryz.strings_IndexByte (s:ByteArray)(c:Int)(w:World):
 Calls Tryz.prog 87 #[.string s,.int .u8 c] w fun e w'=>e= .returned (.int .i64 (Lib.indexByte s.data.toList c.toNat.toUInt8))/\w'=w:=Any.strings_IndexByte Tryz.lays137 s c w
def Tryz.lays210_ren:Go.Shelf.Ren:=⟨fun | 210=>262 | 206=>89 | n=>n,fun | 9=>9 | 4=>4 | 3=>3 | n=>n,fun | n=>n⟩
open Go.RowKit in
def Tryz.lays103_ren:Go.Shelf.Ren:=⟨fun | 103=>251 | 210=>262 | 206=>89 | n=>n,fun | 9=>9 | 4=>4 | 24=>294 | 3=>3 | n=>n,fun | n=>n⟩
theorem Tryz.lays103:Go.Proofs.Lays.n103 Tryz.prog Tryz.lays103_ren:={
 mixed:=by kernel_rfl
 f103:=Tryz.func251.trans (congrArg some (by kernel_rfl))
 f206:=Tryz.func89.trans (congrArg some (by kernel_rfl))
 f210:=Tryz.func262.trans (congrArg some (by kernel_rfl))
 t3:=Tryz.underlying3
 a3:=Tryz.isAgg3
 z3:=Tryz.sizeOf3
 v3:=Tryz.zeroValue3
 t4:=Tryz.underlying4
 a4:=Tryz.isAgg4
 z4:=Tryz.sizeOf4
 v4:=Tryz.zeroValue4
 t9:=Tryz.underlying9
 a9:=Tryz.isAgg9
 z9:=Tryz.sizeOf9
 v9:=Tryz.zeroValue9
 t24:=Tryz.underlying294
 a24:=Tryz.isAgg294
 z24:=Tryz.sizeOf294
 v24:=Tryz.zeroValue294 }
open Go.RowKit in
theorem Tryz.strings_CutPrefix (s p:ByteArray)(w:World):
 Calls Tryz.prog 251 #[.string s,.string p] w fun e w'=>e= .returned (.tuple #[.string ⟨(Lib.trimPrefix s.data.toList p.data.toList).toArray⟩,.bool (Lib.hasPrefix s.data.toList p.data.toList)])/\w'=w:=Any.strings_CutPrefix Tryz.lays103 s p w
def Tryz.lays215_ren:Go.Shelf.Ren:=⟨fun | 215=>254 | n=>n,fun | 3=>3 | 4=>4 | n=>n,fun | n=>n⟩
open Go.RowKit in
def Tryz.lays122_ren:Go.Shelf.Ren:=⟨fun | 122=>235 | 215=>254 | n=>n,fun | 3=>3 | 4=>4 | n=>n,fun | n=>n⟩
theorem Tryz.lays122:Go.Proofs.Lays.n122 Tryz.prog Tryz.lays122_ren:={
 mixed:=by kernel_rfl
 f122:=Tryz.func235.trans (congrArg some (by kernel_rfl))
 f215:=Tryz.func254.trans (congrArg some (by kernel_rfl))
 t3:=Tryz.underlying3
 a3:=Tryz.isAgg3
 z3:=Tryz.sizeOf3
 v3:=Tryz.zeroValue3
 t4:=Tryz.underlying4
 a4:=Tryz.isAgg4
 z4:=Tryz.sizeOf4
 v4:=Tryz.zeroValue4 }
open Go.RowKit in
theorem Tryz.cmp_Compare_int (x y:Int)(w:World):
 Calls Tryz.prog 235 #[.int .i64 x,.int .i64 y] w fun e w'=>e= .returned (.int .i64 (Lib.compareInt x y))/\w'=w:=Any.cmp_Compare_int Tryz.lays122 x y w
open Go.RowKit in
theorem Tryz.Builder_String_any_k (B b:Nat)(l:List UInt8)(w:World)(h:Lib.IsBuilderF 142 5 B b (Lib.byteCells l) w)(hBw:B<=w.heap.size):
 Calls Tryz.prog 85 #[.pointer (some ⟨b,0,none⟩)] w fun e w'=>e= .returned (.string ⟨l.toArray⟩)/\(Lib.IsBuilderF 142 5 B b (Lib.byteCells l) w'/\Below B w w'/\Lib.OthersKept 5 (some b) w w'):=Any.Builder_String_any_k Tryz.lays169 Tryz.Builder_Extra_169 B b l w h hBw
open Go.RowKit Go.Lib in
def Tryz.lays219_ren:Go.Shelf.Ren:=⟨fun | 219=>122 | 217=>130 | 225=>161 | 224=>162 | 267=>163 | 266=>177 | 314=>208 | n=>n,fun | 9=>9 | 3=>3 | 4=>4 | 5=>5 | 46=>180 | 146=>232 | 51=>205 | n=>n,fun | 1=>2 | n=>n⟩
open Go.RowKit Go.Lib in
def Tryz.lays143_ren:Go.Shelf.Ren:=⟨fun | 143=>76 | 219=>122 | 217=>130 | 225=>161 | 224=>162 | 267=>163 | 266=>177 | 314=>208 | n=>n,fun | 9=>9 | 3=>3 | 4=>4 | 5=>5 | 46=>180 | 146=>232 | 51=>205 | n=>n,fun | 1=>2 | n=>n⟩
theorem Tryz.lays143:Go.Proofs.Lays.n143 Tryz.prog Tryz.lays143_ren:={
 mixed:=by kernel_rfl
 f143:=Tryz.func76.trans (congrArg some (by kernel_rfl))
 f217:=Tryz.func130.trans (congrArg some (by kernel_rfl))
 f219:=Tryz.func122.trans (congrArg some (by kernel_rfl))
 f224:=Tryz.func162.trans (congrArg some (by kernel_rfl))
 f225:=Tryz.func161.trans (congrArg some (by kernel_rfl))
 f266:=Tryz.func177.trans (congrArg some (by kernel_rfl))
 f267:=Tryz.func163.trans (congrArg some (by kernel_rfl))
 f314:=Tryz.func208.trans (congrArg some (by kernel_rfl))
 t3:=Tryz.underlying3
 a3:=Tryz.isAgg3
 z3:=Tryz.sizeOf3
 v3:=Tryz.zeroValue3
 t4:=Tryz.underlying4
 a4:=Tryz.isAgg4
 z4:=Tryz.sizeOf4
 v4:=Tryz.zeroValue4
 t5:=Tryz.underlying5
 a5:=Tryz.isAgg5
 z5:=Tryz.sizeOf5
 v5:=Tryz.zeroValue5
 t9:=Tryz.underlying9
 a9:=Tryz.isAgg9
 z9:=Tryz.sizeOf9
 v9:=Tryz.zeroValue9
 t46:=Tryz.underlying180
 a46:=Tryz.isAgg180
 z46:=Tryz.sizeOf180
 v46:=Tryz.zeroValue180
 t51:=Tryz.underlying205
 a51:=Tryz.isAgg205
 z51:=Tryz.sizeOf205
 v51:=Tryz.zeroValue205
 t146:=Tryz.underlying232
 a146:=Tryz.isAgg232
 z146:=Tryz.sizeOf232
 v146:=Tryz.zeroValue232
 g1:=by kernel_rfl }
open Go.RowKit Go.Lib in
theorem Tryz.strings_Index_one (s:ByteArray)(c:UInt8)(w:World):
 Calls Tryz.prog 76 #[.string s,.string ⟨#[c]⟩] w fun e w'=>e= .returned (.int .i64 (Lib.indexByte s.data.toList c))/\w'=w:=Any.strings_Index_one Tryz.lays143 s c w
open Go.RowKit Go.Lib in
theorem Tryz.strings_Index (s sub:ByteArray)(m:Int)(w:World)(hs:s.size<4294967281)(hm:w.cell? ⟨2,0,none⟩=some (.int .i64 m)):
 Calls Tryz.prog 76 #[.string s,.string sub] w fun e w'=>e= .returned (.int .i64 (Lib.index s.data.toList sub.data.toList))/\w'=w:=Any.strings_Index Tryz.lays143 s sub m w hs hm
def Tryz.lays144_ren:Go.Shelf.Ren:=⟨fun | 144=>31 | 143=>76 | 219=>122 | 217=>130 | 225=>161 | 224=>162 | 267=>163 | 266=>177 | 314=>208 | n=>n,fun | 9=>9 | 4=>4 | 3=>3 | 5=>5 | 46=>180 | 146=>232 | 51=>205 | n=>n,fun | 1=>2 | n=>n⟩
theorem Tryz.lays144:Go.Proofs.Lays.n144 Tryz.prog Tryz.lays144_ren:={
 mixed:=by kernel_rfl
 f143:=Tryz.func76.trans (congrArg some (by kernel_rfl))
 f144:=Tryz.func31.trans (congrArg some (by kernel_rfl))
 f217:=Tryz.func130.trans (congrArg some (by kernel_rfl))
 f219:=Tryz.func122.trans (congrArg some (by kernel_rfl))
 f224:=Tryz.func162.trans (congrArg some (by kernel_rfl))
 f225:=Tryz.func161.trans (congrArg some (by kernel_rfl))
 f266:=Tryz.func177.trans (congrArg some (by kernel_rfl))
 f267:=Tryz.func163.trans (congrArg some (by kernel_rfl))
 f314:=Tryz.func208.trans (congrArg some (by kernel_rfl))
 t3:=Tryz.underlying3
 a3:=Tryz.isAgg3
 z3:=Tryz.sizeOf3
 v3:=Tryz.zeroValue3
 t4:=Tryz.underlying4
 a4:=Tryz.isAgg4
 z4:=Tryz.sizeOf4
 v4:=Tryz.zeroValue4
 t5:=Tryz.underlying5
 a5:=Tryz.isAgg5
 z5:=Tryz.sizeOf5
 v5:=Tryz.zeroValue5
 t9:=Tryz.underlying9
 a9:=Tryz.isAgg9
 z9:=Tryz.sizeOf9
 v9:=Tryz.zeroValue9
 t46:=Tryz.underlying180
 a46:=Tryz.isAgg180
 z46:=Tryz.sizeOf180
 v46:=Tryz.zeroValue180
 t51:=Tryz.underlying205
 a51:=Tryz.isAgg205
 z51:=Tryz.sizeOf205
 v51:=Tryz.zeroValue205
 t146:=Tryz.underlying232
 a146:=Tryz.isAgg232
 z146:=Tryz.sizeOf232
 v146:=Tryz.zeroValue232
 g1:=by kernel_rfl }
open Go.RowKit Go.Lib in
theorem Tryz.strings_Contains_one (s:ByteArray)(c:UInt8)(w:World):
 Calls Tryz.prog 31 #[.string s,.string ⟨#[c]⟩] w fun e w'=>e= .returned (.bool (decide (0<=Lib.indexByte s.data.toList c)))/\w'=w:=Any.strings_Contains_one Tryz.lays144 s c w
open Go.RowKit Go.Lib in
def Tryz.laysM143_ren:Go.Shelf.Ren:=⟨fun | 143=>76 | 219=>122 | 217=>130 | 225=>161 | 224=>162 | 267=>163 | 266=>177 | 314=>208 | n=>n,fun | 9=>9 | 3=>3 | 4=>4 | 5=>5 | 46=>180 | 146=>232 | 51=>205 | n=>n,fun | 1=>2 | n=>n⟩
theorem Tryz.laysM143:Go.Proofs.LaysM.n143 Tryz.prog Tryz.laysM143_ren:={
 mixed:=by kernel_rfl
 f143:=Tryz.func76.trans (congrArg some (by kernel_rfl))
 f217:=Tryz.func130.trans (congrArg some (by kernel_rfl))
 f219:=Tryz.func122.trans (congrArg some (by kernel_rfl))
 f224:=Tryz.func162.trans (congrArg some (by kernel_rfl))
 f225:=Tryz.func161.trans (congrArg some (by kernel_rfl))
 f266:=Tryz.func177.trans (congrArg some (by kernel_rfl))
 f267:=Tryz.func163.trans (congrArg some (by kernel_rfl))
 f314:=Tryz.func208.trans (congrArg some (by kernel_rfl))
 t3:=Tryz.underlying3
 a3:=Tryz.isAgg3
 z3:=Tryz.sizeOf3
 v3:=Tryz.zeroValue3
 t4:=Tryz.underlying4
 a4:=Tryz.isAgg4
 z4:=Tryz.sizeOf4
 v4:=Tryz.zeroValue4
 t5:=Tryz.underlying5
 a5:=Tryz.isAgg5
 z5:=Tryz.sizeOf5
 v5:=Tryz.zeroValue5
 t9:=Tryz.underlying9
 a9:=Tryz.isAgg9
 z9:=Tryz.sizeOf9
 v9:=Tryz.zeroValue9
 t46:=Tryz.underlying180
 a46:=Tryz.isAgg180
 z46:=Tryz.sizeOf180
 v46:=Tryz.zeroValue180
 t51:=Tryz.underlying205
 a51:=Tryz.isAgg205
 z51:=Tryz.sizeOf205
 v51:=Tryz.zeroValue205
 t146:=Tryz.underlying232
 a146:=Tryz.isAgg232
 z146:=Tryz.sizeOf232
 v146:=Tryz.zeroValue232
 g1:=by kernel_rfl
 i3:=by kernel_rfl
 i4:=by kernel_rfl
 i5:=by kernel_rfl
 i9:=by kernel_rfl
 i46:=by kernel_rfl
 i51:=by kernel_rfl
 i146:=by kernel_rfl
 m1:=by kernel_rfl
 s1_3:=fun w h=>Go.Proofs.cell_of_shapedOpen_int (zero:=#[.int .i64 0]) (t:=3) h (of_decide_eq_true (by kernel_rfl)) (by kernel_rfl) rfl (by kernel_rfl) (by kernel_rfl) Tryz.underlying3 }
open Go.RowKit Go.Lib in
def Tryz.laysGw17_ren:Go.Shelf.Ren:=⟨fun | 17=>224 | 15=>250 | 20=>261 | n=>n,fun | 9=>9 | 23=>152 | 4=>4 | 3=>3 | 0=>0 | 21=>21 | n=>n,fun | n=>n⟩
theorem Tryz.laysGw17:Go.Proofs.LaysGw.n17 Tryz.prog Tryz.laysGw17_ren:={
 mixed:=by kernel_rfl
 f15:=Tryz.func250.trans (congrArg some (by kernel_rfl))
 f17:=Tryz.func224.trans (congrArg some (by kernel_rfl))
 f20:=Tryz.func261.trans (congrArg some (by kernel_rfl))
 t0:=Tryz.underlying0
 a0:=Tryz.isAgg0
 z0:=Tryz.sizeOf0
 v0:=Tryz.zeroValue0
 i0:=by kernel_rfl
 t3:=Tryz.underlying3
 a3:=Tryz.isAgg3
 z3:=Tryz.sizeOf3
 v3:=Tryz.zeroValue3
 i3:=by kernel_rfl
 t4:=Tryz.underlying4
 a4:=Tryz.isAgg4
 z4:=Tryz.sizeOf4
 v4:=Tryz.zeroValue4
 i4:=by kernel_rfl
 t9:=Tryz.underlying9
 a9:=Tryz.isAgg9
 z9:=Tryz.sizeOf9
 v9:=Tryz.zeroValue9
 i9:=by kernel_rfl
 t21:=Tryz.underlying21
 a21:=Tryz.isAgg21
 z21:=Tryz.sizeOf21
 v21:=Tryz.zeroValue21
 i21:=by kernel_rfl
 t23:=Tryz.underlying152
 a23:=Tryz.isAgg152
 z23:=Tryz.sizeOf152
 v23:=Tryz.zeroValue152
 i23:=by kernel_rfl }
open Go.RowKit Go.Lib in
def Tryz.lays99_ren:Go.Shelf.Ren:=⟨fun | 99=>37 | 206=>89 | n=>n,fun | 9=>9 | 4=>4 | 3=>3 | n=>n,fun | n=>n⟩
theorem Tryz.lays99:Go.Proofs.Lays.n99 Tryz.prog Tryz.lays99_ren:={
 mixed:=by kernel_rfl
 f99:=Tryz.func37.trans (congrArg some (by kernel_rfl))
 f206:=Tryz.func89.trans (congrArg some (by kernel_rfl))
 t3:=Tryz.underlying3
 a3:=Tryz.isAgg3
 z3:=Tryz.sizeOf3
 v3:=Tryz.zeroValue3
 t4:=Tryz.underlying4
 a4:=Tryz.isAgg4
 z4:=Tryz.sizeOf4
 v4:=Tryz.zeroValue4
 t9:=Tryz.underlying9
 a9:=Tryz.isAgg9
 z9:=Tryz.sizeOf9
 v9:=Tryz.zeroValue9 }
open Go.RowKit Go.Lib in
theorem Tryz.strings_HasPrefix (s p:ByteArray)(w:World):
 Calls Tryz.prog 37 #[.string s,.string p] w fun e w'=>e= .returned (.bool (Lib.hasPrefix s.data.toList p.data.toList))/\w'=w:=Any.strings_HasPrefix Tryz.lays99 s p w
open Go.RowKit Go.Lib in
def Tryz.lays101_ren:Go.Shelf.Ren:=⟨fun | 101=>217 | 208=>239 | 206=>89 | n=>n,fun | 9=>9 | 4=>4 | 3=>3 | n=>n,fun | n=>n⟩
theorem Tryz.lays101:Go.Proofs.Lays.n101 Tryz.prog Tryz.lays101_ren:={
 mixed:=by kernel_rfl
 f101:=Tryz.func217.trans (congrArg some (by kernel_rfl))
 f206:=Tryz.func89.trans (congrArg some (by kernel_rfl))
 f208:=Tryz.func239.trans (congrArg some (by kernel_rfl))
 t3:=Tryz.underlying3
 a3:=Tryz.isAgg3
 z3:=Tryz.sizeOf3
 v3:=Tryz.zeroValue3
 t4:=Tryz.underlying4
 a4:=Tryz.isAgg4
 z4:=Tryz.sizeOf4
 v4:=Tryz.zeroValue4
 t9:=Tryz.underlying9
 a9:=Tryz.isAgg9
 z9:=Tryz.sizeOf9
 v9:=Tryz.zeroValue9 }
open Go.RowKit Go.Lib in
theorem Tryz.strings_TrimPrefix (s p:ByteArray)(w:World):
 Calls Tryz.prog 217 #[.string s,.string p] w fun e w'=>e= .returned (.string ⟨(Lib.trimPrefix s.data.toList p.data.toList).toArray⟩)/\w'=w:=Any.strings_TrimPrefix Tryz.lays101 s p w
open Go.RowKit Go.Lib in
def Tryz.lays105_ren:Go.Shelf.Ren:=⟨fun | 105=>67 | 212=>115 | 99=>37 | 165=>108 | 166=>83 | 170=>84 | 169=>85 | 263=>153 | 264=>154 | 206=>89 | 240=>129 | 241=>146 | 276=>176 | 277=>197 | n=>n,fun | 9=>9 | 3=>3 | 4=>4 | 20=>20 | 0=>0 | 46=>180 | 109=>181 | 5=>5 | 72=>142 | 76=>145 | 51=>205 | 146=>232 | 53=>234 | 148=>235 | 70=>140 | 37=>129 | 75=>125 | 127=>201 | 164=>247 | 80=>148 | n=>n,fun | n=>n⟩
theorem Tryz.lays105:Go.Proofs.Lays.n105 Tryz.prog Tryz.lays105_ren:={
 mixed:=by kernel_rfl
 f99:=Tryz.func37.trans (congrArg some (by kernel_rfl))
 f105:=Tryz.func67.trans (congrArg some (by kernel_rfl))
 f165:=Tryz.func108.trans (congrArg some (by kernel_rfl))
 f166:=Tryz.func83.trans (congrArg some (by kernel_rfl))
 f169:=Tryz.func85.trans (congrArg some (by kernel_rfl))
 f170:=Tryz.func84.trans (congrArg some (by kernel_rfl))
 f206:=Tryz.func89.trans (congrArg some (by kernel_rfl))
 f212:=Tryz.func115.trans (congrArg some (by kernel_rfl))
 f240:=Tryz.func129.trans (congrArg some (by kernel_rfl))
 f241:=Tryz.func146.trans (congrArg some (by kernel_rfl))
 f263:=Tryz.func153.trans (congrArg some (by kernel_rfl))
 f264:=Tryz.func154.trans (congrArg some (by kernel_rfl))
 f276:=Tryz.func176.trans (congrArg some (by kernel_rfl))
 f277:=Tryz.func197.trans (congrArg some (by kernel_rfl))
 t0:=Tryz.underlying0
 a0:=Tryz.isAgg0
 z0:=Tryz.sizeOf0
 v0:=Tryz.zeroValue0
 t3:=Tryz.underlying3
 a3:=Tryz.isAgg3
 z3:=Tryz.sizeOf3
 v3:=Tryz.zeroValue3
 t4:=Tryz.underlying4
 a4:=Tryz.isAgg4
 z4:=Tryz.sizeOf4
 v4:=Tryz.zeroValue4
 t5:=Tryz.underlying5
 a5:=Tryz.isAgg5
 z5:=Tryz.sizeOf5
 v5:=Tryz.zeroValue5
 t9:=Tryz.underlying9
 a9:=Tryz.isAgg9
 z9:=Tryz.sizeOf9
 v9:=Tryz.zeroValue9
 t20:=Tryz.underlying20
 a20:=Tryz.isAgg20
 z20:=Tryz.sizeOf20
 v20:=Tryz.zeroValue20
 t37:=Tryz.underlying129
 a37:=Tryz.isAgg129
 z37:=Tryz.sizeOf129
 v37:=Tryz.zeroValue129
 t46:=Tryz.underlying180
 a46:=Tryz.isAgg180
 z46:=Tryz.sizeOf180
 v46:=Tryz.zeroValue180
 t51:=Tryz.underlying205
 a51:=Tryz.isAgg205
 z51:=Tryz.sizeOf205
 v51:=Tryz.zeroValue205
 t53:=Tryz.underlying234
 a53:=Tryz.isAgg234
 z53:=Tryz.sizeOf234
 v53:=Tryz.zeroValue234
 t70:=Tryz.underlying140
 a70:=Tryz.isAgg140
 z70:=Tryz.sizeOf140
 v70:=Tryz.zeroValue140
 t72:=Tryz.underlying142
 a72:=Tryz.isAgg142
 z72:=Tryz.sizeOf142
 v72:=Tryz.zeroValue142
 t75:=Tryz.underlying125
 a75:=Tryz.isAgg125
 z75:=Tryz.sizeOf125
 v75:=Tryz.zeroValue125
 t76:=Tryz.underlying145
 a76:=Tryz.isAgg145
 z76:=Tryz.sizeOf145
 v76:=Tryz.zeroValue145
 t109:=Tryz.underlying181
 a109:=Tryz.isAgg181
 z109:=Tryz.sizeOf181
 v109:=Tryz.zeroValue181
 t127:=Tryz.underlying201
 a127:=Tryz.isAgg201
 z127:=Tryz.sizeOf201
 v127:=Tryz.zeroValue201
 t146:=Tryz.underlying232
 a146:=Tryz.isAgg232
 z146:=Tryz.sizeOf232
 v146:=Tryz.zeroValue232
 t148:=Tryz.underlying235
 a148:=Tryz.isAgg235
 z148:=Tryz.sizeOf235
 v148:=Tryz.zeroValue235
 t164:=Tryz.underlying247
 a164:=Tryz.isAgg247
 z164:=Tryz.sizeOf247
 v164:=Tryz.zeroValue247 }
theorem Tryz.Builder_Extra_105:Builder.Extra Tryz.prog Tryz.lays105_ren:={
 sizeBuilder:=by kernel_rfl
 liesBuilder:=by kernel_rfl
 t5:=Tryz.underlying5
 a5:=Tryz.isAgg5
 z5:=Tryz.sizeOf5
 v5:=Tryz.zeroValue5
 infoByte:=by kernel_rfl
 cellsByte:=by kernel_rfl
 sizeByte:=by kernel_rfl
 neB5:=by decide }
open Go.RowKit Go.Lib in
theorem Tryz.strings_Repeat (s:ByteArray)(c:Nat)(w:World)(hc:c<=9223372036854775807)(hlen:s.size*c<=140737488355328):
 Calls Tryz.prog 67 #[.string s,.int .i64 c] w fun e w'=>e= .returned (.string ⟨(Lib.repeatL s.data.toList c).toArray⟩)/\Below w.heap.size w w':=Any.strings_Repeat Tryz.lays105 Tryz.Builder_Extra_105 s c w hc hlen
open Go.RowKit Go.Lib in
theorem Tryz.strings_ContainsFunc_grows (g:Nat)(lb:Array Value)(eg:∀args w,(callFunc g args).run Tryz.prog w= .ok (.enter g args) w)(p:Nat->Bool)(s:ByteArray)(w:World)(hp:PredGrows Tryz.prog g lb p w):
 Calls Tryz.prog 224 #[.string s,.func (.func g) #[] lb] w fun e w'=>e= .returned (.bool (decide (0<=Lib.idxFunc p true s)))/\Below w.heap.size w w':=Any.strings_ContainsFunc_grows Tryz.laysGw17 g lb eg p s w hp
open Go.Lib in
def Tryz.lays107_ren:Go.Shelf.Ren:=⟨fun | 107=>80 | 108=>126 | n=>n,fun | 28=>138 | 3=>3 | 4=>4 | 0=>0 | n=>n,fun | n=>n⟩
theorem Tryz.lays107:Go.Proofs.Lays.n107 Tryz.prog Tryz.lays107_ren:={
 mixed:=by kernel_rfl
 f107:=Tryz.func80.trans (congrArg some (by kernel_rfl))
 f108:=Tryz.func126.trans (congrArg some (by kernel_rfl))
 t0:=Tryz.underlying0
 a0:=Tryz.isAgg0
 z0:=Tryz.sizeOf0
 v0:=Tryz.zeroValue0
 t3:=Tryz.underlying3
 a3:=Tryz.isAgg3
 z3:=Tryz.sizeOf3
 v3:=Tryz.zeroValue3
 t4:=Tryz.underlying4
 a4:=Tryz.isAgg4
 z4:=Tryz.sizeOf4
 v4:=Tryz.zeroValue4
 t28:=Tryz.underlying138
 a28:=Tryz.isAgg138
 z28:=Tryz.sizeOf138
 v28:=Tryz.zeroValue138 }
open Go.Lib in
theorem Tryz.slices_Contains_int (b off n c:Nat)(zs:List Int)(x:Int)(w:World)(hz:n<=zs.length)(hbig:n<=9223372036854775807)(hc:∀j,j<zs.length->w.cell? ⟨b,off+j,none⟩=some (.int .i64 (zs.getD j 0))):
 Calls Tryz.prog 80 #[.slice (some ⟨b,off,none⟩) n c,.int .i64 x] w fun e w'=>e= .returned (.bool ((zs.take n).contains x))/\w'=w:=Any.slices_Contains_int Tryz.lays107 b off n c zs x w hz hbig hc
open Go.Lib in
def Tryz.lays193_ren:Go.Shelf.Ren:=⟨fun | 193=>39 | n=>n,fun | 31=>23 | 9=>9 | 4=>4 | 3=>3 | 0=>0 | n=>n,fun | n=>n⟩
theorem Tryz.lays193:Go.Proofs.Lays.n193 Tryz.prog Tryz.lays193_ren:={
 mixed:=by kernel_rfl
 f193:=Tryz.func39.trans (congrArg some (by kernel_rfl))
 t0:=Tryz.underlying0
 a0:=Tryz.isAgg0
 z0:=Tryz.sizeOf0
 v0:=Tryz.zeroValue0
 t3:=Tryz.underlying3
 a3:=Tryz.isAgg3
 z3:=Tryz.sizeOf3
 v3:=Tryz.zeroValue3
 t4:=Tryz.underlying4
 a4:=Tryz.isAgg4
 z4:=Tryz.sizeOf4
 v4:=Tryz.zeroValue4
 t9:=Tryz.underlying9
 a9:=Tryz.isAgg9
 z9:=Tryz.sizeOf9
 v9:=Tryz.zeroValue9
 t31:=Tryz.underlying23
 a31:=Tryz.isAgg23
 z31:=Tryz.sizeOf23
 v31:=Tryz.zeroValue23 }
open Go.RowKit Go.Lib in
theorem Tryz.slices_Equal_string (b1 o1 n c b2 o2 m d:Nat)(xs ys:List ByteArray)(w:World)(hx:n<=xs.length)(hy:m<=ys.length)(hbig:n<=9223372036854775807)(hbig2:m<=9223372036854775807)(hc1:∀j,j<xs.length->w.cell? ⟨b1,o1+j,none⟩=some (.string (xs.getD j ByteArray.empty)))(hc2:∀j,j<ys.length->w.cell? ⟨b2,o2+j,none⟩=some (.string (ys.getD j ByteArray.empty))):
 Calls Tryz.prog 39 #[.slice (some ⟨b1,o1,none⟩) n c,.slice (some ⟨b2,o2,none⟩) m d] w fun e w'=>e= .returned (.bool (decide (xs.take n=ys.take m)))/\∃q,w'=w.drewN q:=Any.slices_Equal_string Tryz.lays193 b1 o1 n c b2 o2 m d xs ys w hx hy hbig hbig2 hc1 hc2
open Go.RowKit Go.Lib in
theorem Tryz.slices_Equal_string_empty (a1 a2:Option Addr)(c m d:Nat)(w:World)(hbig2:m<=9223372036854775807):
 Calls Tryz.prog 39 #[.slice a1 0 c,.slice a2 m d] w fun e w'=>e= .returned (.bool (decide (m=0)))/\w'=w:=Any.slices_Equal_string_empty Tryz.lays193 a1 a2 c m d w hbig2
end Go.Proofs
