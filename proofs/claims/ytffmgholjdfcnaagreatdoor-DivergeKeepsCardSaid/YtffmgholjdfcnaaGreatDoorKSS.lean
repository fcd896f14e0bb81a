import Derived.Shelf.Strings.Builder1
import Derived.Shelf.Strings.Builder2
import Derived.Shelf.Strings.Trim
import Derived.Shelf.Small.Utf8
import Derived.Shelf.Small.Strs
import Derived.Shelf.Small.Wraps
import Derived.Shelf.Strings.BuilderF
import Derived.Shelf.Strings.BuilderK
import Derived.Shelf.Strings.BuilderRune
import Derived.Shelf.Strings.Builder2Cap
import Derived.Shelf.Strconv.Itoa0
import Derived.Shelf.Strconv.Itoa1
import Derived.Shelf.LaysM
import Derived.Shelf.Strconv.Itoa2
import Derived.Shelf.Strconv.Itoa3
import Derived.Shelf.Strconv.Clone
import Derived.Shelf.Strings.Search1
import Derived.Shelf.Strings.Search2
import Derived.Shelf.Strings.Search3
import Derived.Shelf.Strings.Count
import Derived.Shelf.Strings.Shaped
import Derived.Shelf.Strings.Prefix
import Derived.Shelf.Strings.Split
import Derived.Shelf.Strings.Replace
import Derived.Shelf.Strings.Runes
import Derived.Shelf.Strings.AsciiSet
import Derived.Shelf.Bits.Mul64
import Derived.Shelf.Strings.Repeat
import Derived.Shelf.Unicode.DecodeSlow
import Derived.Shelf.Unicode.DecodeAny
import Derived.Test.YtffmgholjdfcnaaGreatDoorProg
import Derived.Shelf.Unicode.ValidAny
import Derived.Lib.LaidU8T
namespace Go.Proofs
open Go.Shelf
def Tryz.lays161_ren:Go.Shelf.Ren:=⟨fun | 161=>148 | 231=>198 | 227=>199 | 233=>200 | 235=>201 | 228=>228 | 197=>189 | 151=>229 | 260=>223 | 152=>246 | 137=>155 | 119=>259 | 224=>252 | 225=>251 | 217=>208 | 266=>233 | n=>n,fun | 9=>9 | 4=>4 | 3=>3 | 5=>5 | 117=>190 | 116=>189 | 0=>0 | 124=>193 | 105=>178 | 21=>21 | 119=>170 | 46=>172 | 139=>213 | 138=>212 | n=>n,fun | 3=>0 | 4=>1 | n=>n⟩
theorem Tryz.lays161:Go.Proofs.Lays.n161 Tryz.prog Tryz.lays161_ren:={
 mixed:=by kernel_rfl
 f119:=Tryz.func259.trans (congrArg some (by kernel_rfl))
 f137:=Tryz.func155.trans (congrArg some (by kernel_rfl))
 f151:=Tryz.func229.trans (congrArg some (by kernel_rfl))
 f152:=Tryz.func246.trans (congrArg some (by kernel_rfl))
 f161:=Tryz.func148.trans (congrArg some (by kernel_rfl))
 f197:=Tryz.func189.trans (congrArg some (by kernel_rfl))
 f217:=Tryz.func208.trans (congrArg some (by kernel_rfl))
 f224:=Tryz.func252.trans (congrArg some (by kernel_rfl))
 f225:=Tryz.func251.trans (congrArg some (by kernel_rfl))
 f227:=Tryz.func199.trans (congrArg some (by kernel_rfl))
 f228:=Tryz.func228.trans (congrArg some (by kernel_rfl))
 f231:=Tryz.func198.trans (congrArg some (by kernel_rfl))
 f233:=Tryz.func200.trans (congrArg some (by kernel_rfl))
 f235:=Tryz.func201.trans (congrArg some (by kernel_rfl))
 f260:=Tryz.func223.trans (congrArg some (by kernel_rfl))
 f266:=Tryz.func233.trans (congrArg some (by kernel_rfl))
 t0:=Tryz.underlying0
 a0:=Tryz.isAgg0
 z0:=Tryz.sizeOf0
 v0:=Tryz.zeroValue0
 t3:=Tryz.underlying3
 a3:=Tryz.isAgg3
 z3:=Tryz.sizeOf3
 v3:=Tryz.zeroValue3
 t4:=Tryz.underlying4
 a4:=Tryz.isAgg4
 z4:=Tryz.sizeOf4
 v4:=Tryz.zeroValue4
 t5:=Tryz.underlying5
 a5:=Tryz.isAgg5
 z5:=Tryz.sizeOf5
 v5:=Tryz.zeroValue5
 t9:=Tryz.underlying9
 a9:=Tryz.isAgg9
 z9:=Tryz.sizeOf9
 v9:=Tryz.zeroValue9
 t21:=Tryz.underlying21
 a21:=Tryz.isAgg21
 z21:=Tryz.sizeOf21
 v21:=Tryz.zeroValue21
 t46:=Tryz.underlying172
 a46:=Tryz.isAgg172
 z46:=Tryz.sizeOf172
 v46:=Tryz.zeroValue172
 t105:=Tryz.underlying178
 a105:=Tryz.isAgg178
 z105:=Tryz.sizeOf178
 v105:=Tryz.zeroValue178
 t116:=Tryz.underlying189
 a116:=Tryz.isAgg189
 z116:=Tryz.sizeOf189
 t117:=Tryz.underlying190
 a117:=Tryz.isAgg190
 z117:=Tryz.sizeOf190
 v117:=Tryz.zeroValue190
 t119:=Tryz.underlying170
 a119:=Tryz.isAgg170
 z119:=Tryz.sizeOf170
 t124:=Tryz.underlying193
 a124:=Tryz.isAgg193
 z124:=Tryz.sizeOf193
 v124:=Tryz.zeroValue193
 t138:=Tryz.underlying212
 a138:=Tryz.isAgg212
 z138:=Tryz.sizeOf212
 v138:=Tryz.zeroValue212
 t139:=Tryz.underlying213
 a139:=Tryz.isAgg213
 z139:=Tryz.sizeOf213
 v139:=Tryz.zeroValue213
 g3:=by kernel_rfl
 g4:=by kernel_rfl }
open Go.RowKit in
theorem Tryz.strings_TrimLeft_one (s:ByteArray) (c:UInt8) (hc:c.toNat<128) (w:World) :
  Calls Tryz.prog 148 #[.string s,.string ⟨#[c]⟩] w fun e w'=>e=.returned (.string ⟨(Lib.trimLeftB s.data.toList c).toArray⟩)∧w'=w:=Any.strings_TrimLeft_one Tryz.lays161 s c hc w
def Tryz.lays162_ren:Go.Shelf.Ren:=⟨fun | 162=>151 | 232=>203 | 227=>199 | 234=>204 | 236=>205 | 228=>228 | 271=>231 | 151=>229 | 120=>248 | 197=>189 | 152=>246 | 260=>223 | 137=>155 | 119=>259 | 224=>252 | 225=>251 | 217=>208 | 266=>233 | n=>n,fun | 9=>9 | 4=>4 | 3=>3 | 5=>5 | 117=>190 | 116=>189 | 0=>0 | 124=>193 | 21=>21 | 105=>178 | 46=>172 | 119=>170 | 139=>213 | 138=>212 | n=>n,fun | 3=>0 | 4=>1 | n=>n⟩
theorem Tryz.lays162:Go.Proofs.Lays.n162 Tryz.prog Tryz.lays162_ren:={
 mixed:=by kernel_rfl
 f119:=Tryz.func259.trans (congrArg some (by kernel_rfl))
 f120:=Tryz.func248.trans (congrArg some (by kernel_rfl))
 f137:=Tryz.func155.trans (congrArg some (by kernel_rfl))
 f151:=Tryz.func229.trans (congrArg some (by kernel_rfl))
 f152:=Tryz.func246.trans (congrArg some (by kernel_rfl))
 f162:=Tryz.func151.trans (congrArg some (by kernel_rfl))
 f197:=Tryz.func189.trans (congrArg some (by kernel_rfl))
 f217:=Tryz.func208.trans (congrArg some (by kernel_rfl))
 f224:=Tryz.func252.trans (congrArg some (by kernel_rfl))
 f225:=Tryz.func251.trans (congrArg some (by kernel_rfl))
 f227:=Tryz.func199.trans (congrArg some (by kernel_rfl))
 f228:=Tryz.func228.trans (congrArg some (by kernel_rfl))
 f232:=Tryz.func203.trans (congrArg some (by kernel_rfl))
 f234:=Tryz.func204.trans (congrArg some (by kernel_rfl))
 f236:=Tryz.func205.trans (congrArg some (by kernel_rfl))
 f260:=Tryz.func223.trans (congrArg some (by kernel_rfl))
 f266:=Tryz.func233.trans (congrArg some (by kernel_rfl))
 f271:=Tryz.func231.trans (congrArg some (by kernel_rfl))
 t0:=Tryz.underlying0
 a0:=Tryz.isAgg0
 z0:=Tryz.sizeOf0
 v0:=Tryz.zeroValue0
 t3:=Tryz.underlying3
 a3:=Tryz.isAgg3
 z3:=Tryz.sizeOf3
 v3:=Tryz.zeroValue3
 t4:=Tryz.underlying4
 a4:=Tryz.isAgg4
 z4:=Tryz.sizeOf4
 v4:=Tryz.zeroValue4
 t5:=Tryz.underlying5
 a5:=Tryz.isAgg5
 z5:=Tryz.sizeOf5
 v5:=Tryz.zeroValue5
 t9:=Tryz.underlying9
 a9:=Tryz.isAgg9
 z9:=Tryz.sizeOf9
 v9:=Tryz.zeroValue9
 t21:=Tryz.underlying21
 a21:=Tryz.isAgg21
 z21:=Tryz.sizeOf21
 v21:=Tryz.zeroValue21
 t46:=Tryz.underlying172
 a46:=Tryz.isAgg172
 z46:=Tryz.sizeOf172
 v46:=Tryz.zeroValue172
 t105:=Tryz.underlying178
 a105:=Tryz.isAgg178
 z105:=Tryz.sizeOf178
 v105:=Tryz.zeroValue178
 t116:=Tryz.underlying189
 a116:=Tryz.isAgg189
 z116:=Tryz.sizeOf189
 t117:=Tryz.underlying190
 a117:=Tryz.isAgg190
 z117:=Tryz.sizeOf190
 v117:=Tryz.zeroValue190
 t119:=Tryz.underlying170
 a119:=Tryz.isAgg170
 z119:=Tryz.sizeOf170
 t124:=Tryz.underlying193
 a124:=Tryz.isAgg193
 z124:=Tryz.sizeOf193
 v124:=Tryz.zeroValue193
 t138:=Tryz.underlying212
 a138:=Tryz.isAgg212
 z138:=Tryz.sizeOf212
 v138:=Tryz.zeroValue212
 t139:=Tryz.underlying213
 a139:=Tryz.isAgg213
 z139:=Tryz.sizeOf213
 v139:=Tryz.zeroValue213
 g3:=by kernel_rfl
 g4:=by kernel_rfl }
open Go.RowKit in
theorem Tryz.strings_TrimRight_one (s:ByteArray) (c:UInt8) (hc:c.toNat<128) (w:World) (hs:s.size≤9223372036854775807) :
  Calls Tryz.prog 151 #[.string s,.string ⟨#[c]⟩] w fun e w'=>e=.returned (.string ⟨(Lib.trimRightB s.data.toList c).toArray⟩)∧w'=w:=Any.strings_TrimRight_one Tryz.lays162 s c hc w hs
def Tryz.lays160_ren:Go.Shelf.Ren:=⟨fun | 160=>163 | 232=>203 | 231=>198 | 227=>199 | 234=>204 | 233=>200 | 236=>205 | 235=>201 | 228=>228 | 271=>231 | 151=>229 | 197=>189 | 120=>248 | 152=>246 | 260=>223 | 137=>155 | 119=>259 | 224=>252 | 225=>251 | 217=>208 | 266=>233 | n=>n,fun | 9=>9 | 4=>4 | 3=>3 | 5=>5 | 117=>190 | 116=>189 | 0=>0 | 124=>193 | 21=>21 | 105=>178 | 46=>172 | 119=>170 | 139=>213 | 138=>212 | n=>n,fun | 3=>0 | 4=>1 | n=>n⟩
theorem Tryz.lays160:Go.Proofs.Lays.n160 Tryz.prog Tryz.lays160_ren:={
 mixed:=by kernel_rfl
 f119:=Tryz.func259.trans (congrArg some (by kernel_rfl))
 f120:=Tryz.func248.trans (congrArg some (by kernel_rfl))
 f137:=Tryz.func155.trans (congrArg some (by kernel_rfl))
 f151:=Tryz.func229.trans (congrArg some (by kernel_rfl))
 f152:=Tryz.func246.trans (congrArg some (by kernel_rfl))
 f160:=Tryz.func163.trans (congrArg some (by kernel_rfl))
 f197:=Tryz.func189.trans (congrArg some (by kernel_rfl))
 f217:=Tryz.func208.trans (congrArg some (by kernel_rfl))
 f224:=Tryz.func252.trans (congrArg some (by kernel_rfl))
 f225:=Tryz.func251.trans (congrArg some (by kernel_rfl))
 f227:=Tryz.func199.trans (congrArg some (by kernel_rfl))
 f228:=Tryz.func228.trans (congrArg some (by kernel_rfl))
 f231:=Tryz.func198.trans (congrArg some (by kernel_rfl))
 f232:=Tryz.func203.trans (congrArg some (by kernel_rfl))
 f233:=Tryz.func200.trans (congrArg some (by kernel_rfl))
 f234:=Tryz.func204.trans (congrArg some (by kernel_rfl))
 f235:=Tryz.func201.trans (congrArg some (by kernel_rfl))
 f236:=Tryz.func205.trans (congrArg some (by kernel_rfl))
 f260:=Tryz.func223.trans (congrArg some (by kernel_rfl))
 f266:=Tryz.func233.trans (congrArg some (by kernel_rfl))
 f271:=Tryz.func231.trans (congrArg some (by kernel_rfl))
 t0:=Tryz.underlying0
 a0:=Tryz.isAgg0
 z0:=Tryz.sizeOf0
 v0:=Tryz.zeroValue0
 t3:=Tryz.underlying3
 a3:=Tryz.isAgg3
 z3:=Tryz.sizeOf3
 v3:=Tryz.zeroValue3
 t4:=Tryz.underlying4
 a4:=Tryz.isAgg4
 z4:=Tryz.sizeOf4
 v4:=Tryz.zeroValue4
 t5:=Tryz.underlying5
 a5:=Tryz.isAgg5
 z5:=Tryz.sizeOf5
 v5:=Tryz.zeroValue5
 t9:=Tryz.underlying9
 a9:=Tryz.isAgg9
 z9:=Tryz.sizeOf9
 v9:=Tryz.zeroValue9
 t21:=Tryz.underlying21
 a21:=Tryz.isAgg21
 z21:=Tryz.sizeOf21
 v21:=Tryz.zeroValue21
 t46:=Tryz.underlying172
 a46:=Tryz.isAgg172
 z46:=Tryz.sizeOf172
 v46:=Tryz.zeroValue172
 t105:=Tryz.underlying178
 a105:=Tryz.isAgg178
 z105:=Tryz.sizeOf178
 v105:=Tryz.zeroValue178
 t116:=Tryz.underlying189
 a116:=Tryz.isAgg189
 z116:=Tryz.sizeOf189
 t117:=Tryz.underlying190
 a117:=Tryz.isAgg190
 z117:=Tryz.sizeOf190
 v117:=Tryz.zeroValue190
 t119:=Tryz.underlying170
 a119:=Tryz.isAgg170
 z119:=Tryz.sizeOf170
 t124:=Tryz.underlying193
 a124:=Tryz.isAgg193
 z124:=Tryz.sizeOf193
 v124:=Tryz.zeroValue193
 t138:=Tryz.underlying212
 a138:=Tryz.isAgg212
 z138:=Tryz.sizeOf212
 v138:=Tryz.zeroValue212
 t139:=Tryz.underlying213
 a139:=Tryz.isAgg213
 z139:=Tryz.sizeOf213
 v139:=Tryz.zeroValue213
 g3:=by kernel_rfl
 g4:=by kernel_rfl }
open Go.RowKit in
theorem Tryz.strings_Trim_one (s:ByteArray) (c:UInt8) (hc:c.toNat<128) (w:World) (hs:s.size≤9223372036854775807) :
  Calls Tryz.prog 163 #[.string s,.string ⟨#[c]⟩] w fun e w'=>e=.returned (.string ⟨(Lib.trimB s.data.toList c).toArray⟩)∧(w'=w∨w'=w.drew):=Any.strings_Trim_one Tryz.lays160 s c hc w hs
def Tryz.lays106_ren:Go.Shelf.Ren:=⟨fun | 106=>232 | 213=>249 | 265=>260 | n=>n,fun | 9=>9 | 3=>3 | n=>n,fun | n=>n⟩
theorem Tryz.lays106:Go.Proofs.Lays.n106 Tryz.prog Tryz.lays106_ren:={
 mixed:=by kernel_rfl
 f106:=Tryz.func232.trans (congrArg some (by kernel_rfl))
 f213:=Tryz.func249.trans (congrArg some (by kernel_rfl))
 f265:=Tryz.func260.trans (congrArg some (by kernel_rfl))
 t3:=Tryz.underlying3
 a3:=Tryz.isAgg3
 z3:=Tryz.sizeOf3
 v3:=Tryz.zeroValue3
 t9:=Tryz.underlying9
 a9:=Tryz.isAgg9
 z9:=Tryz.sizeOf9
 v9:=Tryz.zeroValue9 }
open Go.RowKit in
theorem Tryz.strings_Compare (a b:ByteArray) (w:World) :
  Calls Tryz.prog 232 #[.string a,.string b] w fun e w'=>e=.returned (.int .i64 (Lib.compareBytes a.data.toList b.data.toList))∧w'=w:=Any.strings_Compare Tryz.lays106 a b w
def Tryz.lays137_ren:Go.Shelf.Ren:=⟨fun | 137=>155 | 217=>208 | 266=>233 | n=>n,fun | 9=>9 | 5=>5 | 3=>3 | n=>n,fun | n=>n⟩
theorem Tryz.lays137:Go.Proofs.Lays.n137 Tryz.prog Tryz.lays137_ren:={
 mixed:=by kernel_rfl
 f137:=Tryz.func155.trans (congrArg some (by kernel_rfl))
 f217:=Tryz.func208.trans (congrArg some (by kernel_rfl))
 f266:=Tryz.func233.trans (congrArg some (by kernel_rfl))
 t3:=Tryz.underlying3
 a3:=Tryz.isAgg3
 z3:=Tryz.sizeOf3
 v3:=Tryz.zeroValue3
 t5:=Tryz.underlying5
 a5:=Tryz.isAgg5
 z5:=Tryz.sizeOf5
 v5:=Tryz.zeroValue5
 t9:=Tryz.underlying9
 a9:=Tryz.isAgg9
 z9:=Tryz.sizeOf9
 v9:=Tryz.zeroValue9 }
open Go.RowKit in
theorem Tryz.strings_IndexByte (s:ByteArray) (c:Int) (w:World) :
  Calls Tryz.prog 155 #[.string s,.int .u8 c] w fun e w'=>e=.returned (.int .i64 (Lib.indexByte s.data.toList c.toNat.toUInt8))∧w'=w:=Any.strings_IndexByte Tryz.lays137 s c w
def Tryz.lays103_ren:Go.Shelf.Ren:=⟨fun | 103=>230 | 210=>247 | 206=>144 | n=>n,fun | 9=>9 | 4=>4 | 24=>59 | 3=>3 | n=>n,fun | n=>n⟩
theorem Tryz.lays103:Go.Proofs.Lays.n103 Tryz.prog Tryz.lays103_ren:={
 mixed:=by kernel_rfl
 f103:=Tryz.func230.trans (congrArg some (by kernel_rfl))
 f206:=Tryz.func144.trans (congrArg some (by kernel_rfl))
 f210:=Tryz.func247.trans (congrArg some (by kernel_rfl))
 t3:=Tryz.underlying3
 a3:=Tryz.isAgg3
 z3:=Tryz.sizeOf3
 v3:=Tryz.zeroValue3
 t4:=Tryz.underlying4
 a4:=Tryz.isAgg4
 z4:=Tryz.sizeOf4
 v4:=Tryz.zeroValue4
 t9:=Tryz.underlying9
 a9:=Tryz.isAgg9
 z9:=Tryz.sizeOf9
 v9:=Tryz.zeroValue9
 t24:=Tryz.underlying59
 a24:=Tryz.isAgg59
 z24:=Tryz.sizeOf59
 v24:=Tryz.zeroValue59 }
open Go.RowKit in
theorem Tryz.strings_CutPrefix (s p:ByteArray) (w:World) :
  Calls Tryz.prog 230 #[.string s,.string p] w fun e w'=>e=.returned (.tuple #[.string ⟨(Lib.trimPrefix s.data.toList p.data.toList).toArray⟩,.bool (Lib.hasPrefix s.data.toList p.data.toList)])∧w'=w:=Any.strings_CutPrefix Tryz.lays103 s p w
def Tryz.lays285_ren:Go.Shelf.Ren:=⟨fun | 285=>243 | n=>n,fun | 37=>22 | 53=>207 | 3=>3 | 4=>4 | 51=>33 | 9=>9 | 5=>5 | 0=>0 | n=>n,fun | n=>n⟩
theorem Tryz.lays285:Go.Proofs.Lays.n285 Tryz.prog Tryz.lays285_ren:={
 mixed:=by kernel_rfl
 f285:=Tryz.func243.trans (congrArg some (by kernel_rfl))
 t0:=Tryz.underlying0
 a0:=Tryz.isAgg0
 z0:=Tryz.sizeOf0
 v0:=Tryz.zeroValue0
 t3:=Tryz.underlying3
 a3:=Tryz.isAgg3
 z3:=Tryz.sizeOf3
 v3:=Tryz.zeroValue3
 t4:=Tryz.underlying4
 a4:=Tryz.isAgg4
 z4:=Tryz.sizeOf4
 v4:=Tryz.zeroValue4
 t5:=Tryz.underlying5
 a5:=Tryz.isAgg5
 z5:=Tryz.sizeOf5
 v5:=Tryz.zeroValue5
 t9:=Tryz.underlying9
 a9:=Tryz.isAgg9
 z9:=Tryz.sizeOf9
 v9:=Tryz.zeroValue9
 t37:=Tryz.underlying22
 a37:=Tryz.isAgg22
 z37:=Tryz.sizeOf22
 v37:=Tryz.zeroValue22
 t51:=Tryz.underlying33
 a51:=Tryz.isAgg33
 z51:=Tryz.sizeOf33
 v51:=Tryz.zeroValue33
 t53:=Tryz.underlying207
 a53:=Tryz.isAgg207
 z53:=Tryz.sizeOf207
 v53:=Tryz.zeroValue207 }
open Go.RowKit Go.Sort Go.Lib in
theorem Tryz.internal_strconv_formatBase10 (blk off cap u:Nat) (d:Array UInt8) (w:World) (hH:Holds (fun (b:UInt8)=>Value.int .u8 (b.toNat:Int)) w blk off d) (hu:u<10 ^ d.size) (hu64:u<18446744073709551616) (hsz:d.size<4611686018427387904) :
  Calls Tryz.prog 243 #[.slice (some ⟨blk,off,none⟩) d.size cap,.int .u64 u] w fun e w' =>
   e=.returned (.tuple #[])∧∃ (n v':Nat) (dk:Array UInt8),w'=(putRow (fun (b:UInt8)=>Value.int .u8 (b.toNat:Int)) w blk off dk).drewN n∧FmtInv d.size u 0 v' dk:=Any.internal_strconv_formatBase10 Tryz.lays285 blk off cap u d w hH hu hu64 hsz
def Tryz.laysM171_ren:Go.Shelf.Ren:=⟨fun | 171=>171 | 243=>214 | 246=>224 | 283=>241 | 284=>242 | 285=>243 | 286=>244 | 129=>255 | 317=>254 | 318=>256 | 319=>257 | 320=>258 | 337=>262 | 338=>263 | n=>n,fun | 3=>3 | 9=>9 | 2=>2 | 4=>4 | 171=>214 | 0=>0 | 53=>207 | 37=>22 | 5=>5 | 173=>217 | 212=>221 | 51=>33 | 20=>20 | 213=>222 | 46=>172 | 232=>226 | 233=>173 | n=>n,fun | 17=>3 | 18=>4 | 19=>5 | n=>n⟩
theorem Tryz.laysM171:Go.Proofs.LaysM.n171 Tryz.prog Tryz.laysM171_ren:={
 mixed:=by kernel_rfl
 f129:=Tryz.func255.trans (congrArg some (by kernel_rfl))
 f171:=Tryz.func171.trans (congrArg some (by kernel_rfl))
 f243:=Tryz.func214.trans (congrArg some (by kernel_rfl))
 f246:=Tryz.func224.trans (congrArg some (by kernel_rfl))
 f283:=Tryz.func241.trans (congrArg some (by kernel_rfl))
 f284:=Tryz.func242.trans (congrArg some (by kernel_rfl))
 f285:=Tryz.func243.trans (congrArg some (by kernel_rfl))
 f286:=Tryz.func244.trans (congrArg some (by kernel_rfl))
 f317:=Tryz.func254.trans (congrArg some (by kernel_rfl))
 f318:=Tryz.func256.trans (congrArg some (by kernel_rfl))
 f319:=Tryz.func257.trans (congrArg some (by kernel_rfl))
 f320:=Tryz.func258.trans (congrArg some (by kernel_rfl))
 f337:=Tryz.func262.trans (congrArg some (by kernel_rfl))
 f338:=Tryz.func263.trans (congrArg some (by kernel_rfl))
 t0:=Tryz.underlying0
 a0:=Tryz.isAgg0
 z0:=Tryz.sizeOf0
 v0:=Tryz.zeroValue0
 t2:=Tryz.underlying2
 a2:=Tryz.isAgg2
 z2:=Tryz.sizeOf2
 v2:=Tryz.zeroValue2
 t3:=Tryz.underlying3
 a3:=Tryz.isAgg3
 z3:=Tryz.sizeOf3
 v3:=Tryz.zeroValue3
 t4:=Tryz.underlying4
 a4:=Tryz.isAgg4
 z4:=Tryz.sizeOf4
 v4:=Tryz.zeroValue4
 t5:=Tryz.underlying5
 a5:=Tryz.isAgg5
 z5:=Tryz.sizeOf5
 v5:=Tryz.zeroValue5
 t9:=Tryz.underlying9
 a9:=Tryz.isAgg9
 z9:=Tryz.sizeOf9
 v9:=Tryz.zeroValue9
 t20:=Tryz.underlying20
 a20:=Tryz.isAgg20
 z20:=Tryz.sizeOf20
 v20:=Tryz.zeroValue20
 t37:=Tryz.underlying22
 a37:=Tryz.isAgg22
 z37:=Tryz.sizeOf22
 v37:=Tryz.zeroValue22
 t46:=Tryz.underlying172
 a46:=Tryz.isAgg172
 z46:=Tryz.sizeOf172
 v46:=Tryz.zeroValue172
 t51:=Tryz.underlying33
 a51:=Tryz.isAgg33
 z51:=Tryz.sizeOf33
 v51:=Tryz.zeroValue33
 t53:=Tryz.underlying207
 a53:=Tryz.isAgg207
 z53:=Tryz.sizeOf207
 v53:=Tryz.zeroValue207
 t171:=Tryz.underlying214
 a171:=Tryz.isAgg214
 z171:=Tryz.sizeOf214
 v171:=Tryz.zeroValue214
 t173:=Tryz.underlying217
 a173:=Tryz.isAgg217
 z173:=Tryz.sizeOf217
 v173:=Tryz.zeroValue217
 t212:=Tryz.underlying221
 a212:=Tryz.isAgg221
 z212:=Tryz.sizeOf221
 v212:=Tryz.zeroValue221
 t213:=Tryz.underlying222
 a213:=Tryz.isAgg222
 z213:=Tryz.sizeOf222
 t232:=Tryz.underlying226
 a232:=Tryz.isAgg226
 z232:=Tryz.sizeOf226
 v232:=Tryz.zeroValue226
 t233:=Tryz.underlying173
 a233:=Tryz.isAgg173
 z233:=Tryz.sizeOf173
 v233:=Tryz.zeroValue173
 g17:=by kernel_rfl
 g18:=by kernel_rfl
 g19:=by kernel_rfl
 i0:=by kernel_rfl
 i2:=by kernel_rfl
 i3:=by kernel_rfl
 i4:=by kernel_rfl
 i5:=by kernel_rfl
 i9:=by kernel_rfl
 i20:=by kernel_rfl
 i37:=by kernel_rfl
 i46:=by kernel_rfl
 i51:=by kernel_rfl
 i53:=by kernel_rfl
 i171:=by kernel_rfl
 i173:=by kernel_rfl
 i212:=by kernel_rfl
 i232:=by kernel_rfl
 i233:=by kernel_rfl
 m17:=by kernel_rfl
 m18:=by kernel_rfl
 m19:=by kernel_rfl }
open Go.RowKit Go.Sort Go.Lib in
theorem Tryz.strconv_Itoa (n:Int) (h0:-9223372036854775808≤n) (h1:n≤9223372036854775807) (w:World) (htab:Lib.TabIs Tryz.prog w "internal/strconv.uint64pow10" .u64 Lib.pow10Tab) :
  Calls Tryz.prog 171 #[.int .i64 n] w fun e w'=>e=.returned (.string ⟨(Lib.itoa n).toArray⟩)∧∃ k os,w'=grow (w.drewN k) os:=Any.strconv_Itoa Tryz.laysM171 n h0 h1 w htab
def Tryz.laysM316_ren:Go.Shelf.Ren:=⟨fun | 316=>68 | n=>n,fun | 9=>9 | 3=>3 | 4=>4 | 37=>22 | 0=>0 | 127=>128 | 5=>5 | n=>n,fun | n=>n⟩
theorem Tryz.laysM316:Go.Proofs.LaysM.n316 Tryz.prog Tryz.laysM316_ren:={
 mixed:=by kernel_rfl
 f316:=Tryz.func68.trans (congrArg some (by kernel_rfl))
 t0:=Tryz.underlying0
 a0:=Tryz.isAgg0
 z0:=Tryz.sizeOf0
 v0:=Tryz.zeroValue0
 t3:=Tryz.underlying3
 a3:=Tryz.isAgg3
 z3:=Tryz.sizeOf3
 v3:=Tryz.zeroValue3
 t4:=Tryz.underlying4
 a4:=Tryz.isAgg4
 z4:=Tryz.sizeOf4
 v4:=Tryz.zeroValue4
 t9:=Tryz.underlying9
 a9:=Tryz.isAgg9
 z9:=Tryz.sizeOf9
 v9:=Tryz.zeroValue9
 t37:=Tryz.underlying22
 a37:=Tryz.isAgg22
 z37:=Tryz.sizeOf22
 v37:=Tryz.zeroValue22
 t127:=Tryz.underlying128
 a127:=Tryz.isAgg128
 z127:=Tryz.sizeOf128
 v127:=Tryz.zeroValue128
 t5:=Tryz.underlying5
 a5:=Tryz.isAgg5
 z5:=Tryz.sizeOf5
 v5:=Tryz.zeroValue5
 i0:=by kernel_rfl
 i3:=by kernel_rfl
 i4:=by kernel_rfl
 i5:=by kernel_rfl
 i9:=by kernel_rfl
 i37:=by kernel_rfl
 i127:=by kernel_rfl }
open Go.RowKit in
theorem Tryz.stringslite_Clone (s:ByteArray) (w:World) (hlim:s.size≤281474976710656) :
  Calls Tryz.prog 68 #[.string s] w fun e w'=>e=.returned (.string s)∧Below w.heap.size w w':=Any.stringslite_Clone Tryz.laysM316 s w hlim
def Tryz.lays99_ren:Go.Shelf.Ren:=⟨fun | 99=>94 | 206=>144 | n=>n,fun | 9=>9 | 4=>4 | 3=>3 | n=>n,fun | n=>n⟩
theorem Tryz.lays99:Go.Proofs.Lays.n99 Tryz.prog Tryz.lays99_ren:={
 mixed:=by kernel_rfl
 f99:=Tryz.func94.trans (congrArg some (by kernel_rfl))
 f206:=Tryz.func144.trans (congrArg some (by kernel_rfl))
 t3:=Tryz.underlying3
 a3:=Tryz.isAgg3
 z3:=Tryz.sizeOf3
 v3:=Tryz.zeroValue3
 t4:=Tryz.underlying4
 a4:=Tryz.isAgg4
 z4:=Tryz.sizeOf4
 v4:=Tryz.zeroValue4
 t9:=Tryz.underlying9
 a9:=Tryz.isAgg9
 z9:=Tryz.sizeOf9
 v9:=Tryz.zeroValue9 }
open Go.RowKit Go.Lib in
theorem Tryz.strings_HasPrefix (s p:ByteArray) (w:World) :
  Calls Tryz.prog 94 #[.string s,.string p] w fun e w'=>e=.returned (.bool (Lib.hasPrefix s.data.toList p.data.toList))∧w'=w:=Any.strings_HasPrefix Tryz.lays99 s p w
def Tryz.lays146_ren:Go.Shelf.Ren:=⟨fun | 146=>103 | 221=>157 | 268=>212 | 138=>209 | 143=>211 | 195=>234 | 197=>189 | 218=>235 | 219=>237 | 260=>223 | 217=>208 | 225=>251 | 224=>252 | 267=>253 | 266=>233 | 314=>261 | n=>n,fun | 9=>9 | 31=>25 | 3=>3 | 4=>4 | 0=>0 | 105=>178 | 21=>21 | 5=>5 | 46=>172 | 119=>170 | 139=>213 | 138=>212 | 146=>205 | 51=>33 | n=>n,fun | 1=>2 | 3=>0 | 4=>1 | n=>n⟩
theorem Tryz.lays146:Go.Proofs.Lays.n146 Tryz.prog Tryz.lays146_ren:={
 mixed:=by kernel_rfl
 f138:=Tryz.func209.trans (congrArg some (by kernel_rfl))
 f143:=Tryz.func211.trans (congrArg some (by kernel_rfl))
 f146:=Tryz.func103.trans (congrArg some (by kernel_rfl))
 f195:=Tryz.func234.trans (congrArg some (by kernel_rfl))
 f197:=Tryz.func189.trans (congrArg some (by kernel_rfl))
 f217:=Tryz.func208.trans (congrArg some (by kernel_rfl))
 f218:=Tryz.func235.trans (congrArg some (by kernel_rfl))
 f219:=Tryz.func237.trans (congrArg some (by kernel_rfl))
 f221:=Tryz.func157.trans (congrArg some (by kernel_rfl))
 f224:=Tryz.func252.trans (congrArg some (by kernel_rfl))
 f225:=Tryz.func251.trans (congrArg some (by kernel_rfl))
 f260:=Tryz.func223.trans (congrArg some (by kernel_rfl))
 f266:=Tryz.func233.trans (congrArg some (by kernel_rfl))
 f267:=Tryz.func253.trans (congrArg some (by kernel_rfl))
 f268:=Tryz.func212.trans (congrArg some (by kernel_rfl))
 f314:=Tryz.func261.trans (congrArg some (by kernel_rfl))
 t0:=Tryz.underlying0
 a0:=Tryz.isAgg0
 z0:=Tryz.sizeOf0
 v0:=Tryz.zeroValue0
 t3:=Tryz.underlying3
 a3:=Tryz.isAgg3
 z3:=Tryz.sizeOf3
 v3:=Tryz.zeroValue3
 t4:=Tryz.underlying4
 a4:=Tryz.isAgg4
 z4:=Tryz.sizeOf4
 v4:=Tryz.zeroValue4
 t5:=Tryz.underlying5
 a5:=Tryz.isAgg5
 z5:=Tryz.sizeOf5
 v5:=Tryz.zeroValue5
 t9:=Tryz.underlying9
 a9:=Tryz.isAgg9
 z9:=Tryz.sizeOf9
 v9:=Tryz.zeroValue9
 t21:=Tryz.underlying21
 a21:=Tryz.isAgg21
 z21:=Tryz.sizeOf21
 v21:=Tryz.zeroValue21
 t31:=Tryz.underlying25
 a31:=Tryz.isAgg25
 z31:=Tryz.sizeOf25
 v31:=Tryz.zeroValue25
 t46:=Tryz.underlying172
 a46:=Tryz.isAgg172
 z46:=Tryz.sizeOf172
 v46:=Tryz.zeroValue172
 t51:=Tryz.underlying33
 a51:=Tryz.isAgg33
 z51:=Tryz.sizeOf33
 v51:=Tryz.zeroValue33
 t105:=Tryz.underlying178
 a105:=Tryz.isAgg178
 z105:=Tryz.sizeOf178
 v105:=Tryz.zeroValue178
 t119:=Tryz.underlying170
 a119:=Tryz.isAgg170
 z119:=Tryz.sizeOf170
 t138:=Tryz.underlying212
 a138:=Tryz.isAgg212
 z138:=Tryz.sizeOf212
 v138:=Tryz.zeroValue212
 t139:=Tryz.underlying213
 a139:=Tryz.isAgg213
 z139:=Tryz.sizeOf213
 v139:=Tryz.zeroValue213
 t146:=Tryz.underlying205
 a146:=Tryz.isAgg205
 z146:=Tryz.sizeOf205
 v146:=Tryz.zeroValue205
 g1:=by kernel_rfl
 g3:=by kernel_rfl
 g4:=by kernel_rfl }
open Go.RowKit Go.Lib in
theorem Tryz.strings_Split (s sep:ByteArray) (m:Int) (w:World) (hs:s.size<4294967281) (hm:w.cell? ⟨2,0,none⟩=some (.int .i64 m)) (h1:1≤sep.size) :
  Calls Tryz.prog 103 #[.string s,.string sep] w fun e w' =>
   e=.returned (.slice (some ⟨w.heap.size,0,none⟩) (Lib.countB s sep+1) (Lib.countB s sep+1))∧w'=w.alloc (.cells ((Lib.splitB sep 0 (Lib.countB s sep) s).map Value.string).toArray 9):=Any.strings_Split Tryz.lays146 (by kernel_rfl) s sep m w hs hm h1
def Tryz.lays155_ren:Go.Shelf.Ren:=⟨fun | 155=>102 | 154=>156 | 138=>209 | 165=>210 | 143=>211 | 166=>137 | 197=>189 | 169=>140 | 195=>234 | 218=>235 | 240=>188 | 241=>236 | 219=>237 | 260=>223 | 276=>222 | 277=>250 | 217=>208 | 225=>251 | 224=>252 | 267=>253 | 266=>233 | 314=>261 | n=>n,fun | 9=>9 | 3=>3 | 4=>4 | 72=>142 | 0=>0 | 76=>147 | 105=>178 | 21=>21 | 5=>5 | 70=>140 | 20=>20 | 37=>22 | 75=>144 | 127=>128 | 164=>201 | 46=>172 | 119=>170 | 139=>213 | 138=>212 | 146=>205 | 51=>33 | 80=>151 | n=>n,fun | 1=>2 | 3=>0 | 4=>1 | n=>n⟩
theorem Tryz.lays155:Go.Proofs.Lays.n155 Tryz.prog Tryz.lays155_ren:={
 mixed:=by kernel_rfl
 f138:=Tryz.func209.trans (congrArg some (by kernel_rfl))
 f143:=Tryz.func211.trans (congrArg some (by kernel_rfl))
 f154:=Tryz.func156.trans (congrArg some (by kernel_rfl))
 f155:=Tryz.func102.trans (congrArg some (by kernel_rfl))
 f165:=Tryz.func210.trans (congrArg some (by kernel_rfl))
 f166:=Tryz.func137.trans (congrArg some (by kernel_rfl))
 f169:=Tryz.func140.trans (congrArg some (by kernel_rfl))
 f195:=Tryz.func234.trans (congrArg some (by kernel_rfl))
 f197:=Tryz.func189.trans (congrArg some (by kernel_rfl))
 f217:=Tryz.func208.trans (congrArg some (by kernel_rfl))
 f218:=Tryz.func235.trans (congrArg some (by kernel_rfl))
 f219:=Tryz.func237.trans (congrArg some (by kernel_rfl))
 f224:=Tryz.func252.trans (congrArg some (by kernel_rfl))
 f225:=Tryz.func251.trans (congrArg some (by kernel_rfl))
 f240:=Tryz.func188.trans (congrArg some (by kernel_rfl))
 f241:=Tryz.func236.trans (congrArg some (by kernel_rfl))
 f260:=Tryz.func223.trans (congrArg some (by kernel_rfl))
 f266:=Tryz.func233.trans (congrArg some (by kernel_rfl))
 f267:=Tryz.func253.trans (congrArg some (by kernel_rfl))
 f276:=Tryz.func222.trans (congrArg some (by kernel_rfl))
 f277:=Tryz.func250.trans (congrArg some (by kernel_rfl))
 f314:=Tryz.func261.trans (congrArg some (by kernel_rfl))
 t0:=Tryz.underlying0
 a0:=Tryz.isAgg0
 z0:=Tryz.sizeOf0
 v0:=Tryz.zeroValue0
 t3:=Tryz.underlying3
 a3:=Tryz.isAgg3
 z3:=Tryz.sizeOf3
 v3:=Tryz.zeroValue3
 t4:=Tryz.underlying4
 a4:=Tryz.isAgg4
 z4:=Tryz.sizeOf4
 v4:=Tryz.zeroValue4
 t5:=Tryz.underlying5
 a5:=Tryz.isAgg5
 z5:=Tryz.sizeOf5
 v5:=Tryz.zeroValue5
 t9:=Tryz.underlying9
 a9:=Tryz.isAgg9
 z9:=Tryz.sizeOf9
 v9:=Tryz.zeroValue9
 t20:=Tryz.underlying20
 a20:=Tryz.isAgg20
 z20:=Tryz.sizeOf20
 v20:=Tryz.zeroValue20
 t21:=Tryz.underlying21
 a21:=Tryz.isAgg21
 z21:=Tryz.sizeOf21
 v21:=Tryz.zeroValue21
 t37:=Tryz.underlying22
 a37:=Tryz.isAgg22
 z37:=Tryz.sizeOf22
 v37:=Tryz.zeroValue22
 t46:=Tryz.underlying172
 a46:=Tryz.isAgg172
 z46:=Tryz.sizeOf172
 v46:=Tryz.zeroValue172
 t51:=Tryz.underlying33
 a51:=Tryz.isAgg33
 z51:=Tryz.sizeOf33
 v51:=Tryz.zeroValue33
 t70:=Tryz.underlying140
 a70:=Tryz.isAgg140
 z70:=Tryz.sizeOf140
 v70:=Tryz.zeroValue140
 t72:=Tryz.underlying142
 a72:=Tryz.isAgg142
 z72:=Tryz.sizeOf142
 v72:=Tryz.zeroValue142
 t75:=Tryz.underlying144
 a75:=Tryz.isAgg144
 z75:=Tryz.sizeOf144
 v75:=Tryz.zeroValue144
 t76:=Tryz.underlying147
 a76:=Tryz.isAgg147
 z76:=Tryz.sizeOf147
 v76:=Tryz.zeroValue147
 t105:=Tryz.underlying178
 a105:=Tryz.isAgg178
 z105:=Tryz.sizeOf178
 v105:=Tryz.zeroValue178
 t119:=Tryz.underlying170
 a119:=Tryz.isAgg170
 z119:=Tryz.sizeOf170
 t127:=Tryz.underlying128
 a127:=Tryz.isAgg128
 z127:=Tryz.sizeOf128
 v127:=Tryz.zeroValue128
 t138:=Tryz.underlying212
 a138:=Tryz.isAgg212
 z138:=Tryz.sizeOf212
 v138:=Tryz.zeroValue212
 t139:=Tryz.underlying213
 a139:=Tryz.isAgg213
 z139:=Tryz.sizeOf213
 v139:=Tryz.zeroValue213
 t146:=Tryz.underlying205
 a146:=Tryz.isAgg205
 z146:=Tryz.sizeOf205
 v146:=Tryz.zeroValue205
 t164:=Tryz.underlying201
 a164:=Tryz.isAgg201
 z164:=Tryz.sizeOf201
 v164:=Tryz.zeroValue201
 g1:=by kernel_rfl
 g3:=by kernel_rfl
 g4:=by kernel_rfl }
theorem Tryz.Builder_Extra_155:Builder.Extra Tryz.prog Tryz.lays155_ren:={
 sizeBuilder:=by kernel_rfl
 liesBuilder:=by kernel_rfl
 t5:=Tryz.underlying5
 a5:=Tryz.isAgg5
 z5:=Tryz.sizeOf5
 v5:=Tryz.zeroValue5
 infoByte:=by kernel_rfl
 cellsByte:=by kernel_rfl
 sizeByte:=by kernel_rfl
 neB5:=by decide }
open Go.RowKit Go.Lib in
theorem Tryz.strings_ReplaceAll (s old new:ByteArray) (m:Int) (w:World) (hs:s.size<4294967281) (hm:w.cell? ⟨2,0,none⟩=some (.int .i64 m)) (h1:1≤old.size) (hlen:s.size+Lib.countB s old * new.size≤140737488355328) :
  Calls Tryz.prog 102 #[.string s,.string old,.string new] w fun e w' =>
   e=.returned (.string ⟨(Lib.replaceAll s.data.toList old.data.toList new.data.toList).toArray⟩)∧Below w.heap.size w w':=Any.strings_ReplaceAll Tryz.lays155 Tryz.Builder_Extra_155 s old new m w hs hm h1 hlen
def Tryz.lays105_ren:Go.Shelf.Ren:=⟨fun | 105=>172 | 212=>215 | 99=>94 | 165=>210 | 166=>137 | 170=>216 | 169=>140 | 263=>238 | 264=>239 | 206=>144 | 240=>188 | 241=>236 | 276=>222 | 277=>250 | n=>n,fun | 9=>9 | 3=>3 | 4=>4 | 20=>20 | 0=>0 | 46=>172 | 109=>197 | 5=>5 | 72=>142 | 76=>147 | 51=>33 | 146=>205 | 53=>207 | 148=>208 | 70=>140 | 37=>22 | 75=>144 | 127=>128 | 164=>201 | 80=>151 | n=>n,fun | n=>n⟩
theorem Tryz.lays105:Go.Proofs.Lays.n105 Tryz.prog Tryz.lays105_ren:={
 mixed:=by kernel_rfl
 f99:=Tryz.func94.trans (congrArg some (by kernel_rfl))
 f105:=Tryz.func172.trans (congrArg some (by kernel_rfl))
 f165:=Tryz.func210.trans (congrArg some (by kernel_rfl))
 f166:=Tryz.func137.trans (congrArg some (by kernel_rfl))
 f169:=Tryz.func140.trans (congrArg some (by kernel_rfl))
 f170:=Tryz.func216.trans (congrArg some (by kernel_rfl))
 f206:=Tryz.func144.trans (congrArg some (by kernel_rfl))
 f212:=Tryz.func215.trans (congrArg some (by kernel_rfl))
 f240:=Tryz.func188.trans (congrArg some (by kernel_rfl))
 f241:=Tryz.func236.trans (congrArg some (by kernel_rfl))
 f263:=Tryz.func238.trans (congrArg some (by kernel_rfl))
 f264:=Tryz.func239.trans (congrArg some (by kernel_rfl))
 f276:=Tryz.func222.trans (congrArg some (by kernel_rfl))
 f277:=Tryz.func250.trans (congrArg some (by kernel_rfl))
 t0:=Tryz.underlying0
 a0:=Tryz.isAgg0
 z0:=Tryz.sizeOf0
 v0:=Tryz.zeroValue0
 t3:=Tryz.underlying3
 a3:=Tryz.isAgg3
 z3:=Tryz.sizeOf3
 v3:=Tryz.zeroValue3
 t4:=Tryz.underlying4
 a4:=Tryz.isAgg4
 z4:=Tryz.sizeOf4
 v4:=Tryz.zeroValue4
 t5:=Tryz.underlying5
 a5:=Tryz.isAgg5
 z5:=Tryz.sizeOf5
 v5:=Tryz.zeroValue5
 t9:=Tryz.underlying9
 a9:=Tryz.isAgg9
 z9:=Tryz.sizeOf9
 v9:=Tryz.zeroValue9
 t20:=Tryz.underlying20
 a20:=Tryz.isAgg20
 z20:=Tryz.sizeOf20
 v20:=Tryz.zeroValue20
 t37:=Tryz.underlying22
 a37:=Tryz.isAgg22
 z37:=Tryz.sizeOf22
 v37:=Tryz.zeroValue22
 t46:=Tryz.underlying172
 a46:=Tryz.isAgg172
 z46:=Tryz.sizeOf172
 v46:=Tryz.zeroValue172
 t51:=Tryz.underlying33
 a51:=Tryz.isAgg33
 z51:=Tryz.sizeOf33
 v51:=Tryz.zeroValue33
 t53:=Tryz.underlying207
 a53:=Tryz.isAgg207
 z53:=Tryz.sizeOf207
 v53:=Tryz.zeroValue207
 t70:=Tryz.underlying140
 a70:=Tryz.isAgg140
 z70:=Tryz.sizeOf140
 v70:=Tryz.zeroValue140
 t72:=Tryz.underlying142
 a72:=Tryz.isAgg142
 z72:=Tryz.sizeOf142
 v72:=Tryz.zeroValue142
 t75:=Tryz.underlying144
 a75:=Tryz.isAgg144
 z75:=Tryz.sizeOf144
 v75:=Tryz.zeroValue144
 t76:=Tryz.underlying147
 a76:=Tryz.isAgg147
 z76:=Tryz.sizeOf147
 v76:=Tryz.zeroValue147
 t109:=Tryz.underlying197
 a109:=Tryz.isAgg197
 z109:=Tryz.sizeOf197
 v109:=Tryz.zeroValue197
 t127:=Tryz.underlying128
 a127:=Tryz.isAgg128
 z127:=Tryz.sizeOf128
 v127:=Tryz.zeroValue128
 t146:=Tryz.underlying205
 a146:=Tryz.isAgg205
 z146:=Tryz.sizeOf205
 v146:=Tryz.zeroValue205
 t148:=Tryz.underlying208
 a148:=Tryz.isAgg208
 z148:=Tryz.sizeOf208
 v148:=Tryz.zeroValue208
 t164:=Tryz.underlying201
 a164:=Tryz.isAgg201
 z164:=Tryz.sizeOf201
 v164:=Tryz.zeroValue201 }
theorem Tryz.Builder_Extra_105:Builder.Extra Tryz.prog Tryz.lays105_ren:={
 sizeBuilder:=by kernel_rfl
 liesBuilder:=by kernel_rfl
 t5:=Tryz.underlying5
 a5:=Tryz.isAgg5
 z5:=Tryz.sizeOf5
 v5:=Tryz.zeroValue5
 infoByte:=by kernel_rfl
 cellsByte:=by kernel_rfl
 sizeByte:=by kernel_rfl
 neB5:=by decide }
open Go.RowKit Go.Lib in
theorem Tryz.strings_Repeat (s:ByteArray) (c:Nat) (w:World) (hc:c≤9223372036854775807) (hlen:s.size * c≤140737488355328) :
  Calls Tryz.prog 172 #[.string s,.int .i64 c] w fun e w'=>e=.returned (.string ⟨(Lib.repeatL s.data.toList c).toArray⟩)∧Below w.heap.size w w':=Any.strings_Repeat Tryz.lays105 Tryz.Builder_Extra_105 s c w hc hlen
end Go.Proofs
namespace Go.Proofs
open Go.Shelf
def Tryz.lays167_ren:Go.Shelf.Ren:=⟨fun | 167=>134 | 240=>188 | 276=>222 | n=>n,fun | 0=>0 | 4=>4 | 5=>5 | 9=>9 | 20=>20 | 37=>22 | 70=>140 | 72=>142 | 75=>144 | 80=>151 | 164=>201 | n=>n,fun | n=>n⟩
theorem Tryz.lays167:Go.Proofs.Lays.n167 Tryz.prog Tryz.lays167_ren:={
 mixed:=by kernel_rfl
 f167:=Tryz.func134.trans (congrArg some (by kernel_rfl))
 f240:=Tryz.func188.trans (congrArg some (by kernel_rfl))
 f276:=Tryz.func222.trans (congrArg some (by kernel_rfl))
 t0:=Tryz.underlying0
 a0:=Tryz.isAgg0
 z0:=Tryz.sizeOf0
 v0:=Tryz.zeroValue0
 t4:=Tryz.underlying4
 a4:=Tryz.isAgg4
 z4:=Tryz.sizeOf4
 v4:=Tryz.zeroValue4
 t5:=Tryz.underlying5
 a5:=Tryz.isAgg5
 z5:=Tryz.sizeOf5
 v5:=Tryz.zeroValue5
 t9:=Tryz.underlying9
 a9:=Tryz.isAgg9
 z9:=Tryz.sizeOf9
 v9:=Tryz.zeroValue9
 t20:=Tryz.underlying20
 a20:=Tryz.isAgg20
 z20:=Tryz.sizeOf20
 v20:=Tryz.zeroValue20
 t37:=Tryz.underlying22
 a37:=Tryz.isAgg22
 z37:=Tryz.sizeOf22
 v37:=Tryz.zeroValue22
 t70:=Tryz.underlying140
 a70:=Tryz.isAgg140
 z70:=Tryz.sizeOf140
 v70:=Tryz.zeroValue140
 t72:=Tryz.underlying142
 a72:=Tryz.isAgg142
 z72:=Tryz.sizeOf142
 v72:=Tryz.zeroValue142
 t75:=Tryz.underlying144
 a75:=Tryz.isAgg144
 z75:=Tryz.sizeOf144
 v75:=Tryz.zeroValue144
 t164:=Tryz.underlying201
 a164:=Tryz.isAgg201
 z164:=Tryz.sizeOf201
 v164:=Tryz.zeroValue201 }
theorem Tryz.Builder_Extra_167:Builder.Extra Tryz.prog Tryz.lays167_ren:={
 sizeBuilder:=by kernel_rfl
 liesBuilder:=by kernel_rfl
 t5:=Tryz.underlying5
 a5:=Tryz.isAgg5
 z5:=Tryz.sizeOf5
 v5:=Tryz.zeroValue5
 infoByte:=by kernel_rfl
 cellsByte:=by kernel_rfl
 sizeByte:=by kernel_rfl
 neB5:=by decide }
open Go.RowKit in
theorem Tryz.Builder_WriteByte (B b:Nat) (bs:List Value) (c:Int) (w:World) (h:Lib.IsBuilder 142 5 B b bs w) (hlen:bs.length+1≤140737488355328) (hBw:B≤w.heap.size) :
  Calls Tryz.prog 134 #[.pointer (some ⟨b,0,none⟩),.int .u8 c] w fun e w'=>e=.returned .nilIface∧(Lib.BuilderAt 142 5 B b (.pointer (some ⟨b,0,none⟩)) (bs++[.int .u8 c]) w'∧Below B w w'):=Any.Builder_WriteByte Tryz.lays167 Tryz.Builder_Extra_167 B b bs c w h hlen hBw
def Tryz.lays169_ren:Go.Shelf.Ren:=⟨fun | 169=>140 | n=>n,fun | 70=>140 | 9=>9 | 0=>0 | 72=>142 | 37=>22 | 127=>128 | 3=>3 | 5=>5 | n=>n,fun | n=>n⟩
theorem Tryz.lays169:Go.Proofs.Lays.n169 Tryz.prog Tryz.lays169_ren:={
 mixed:=by kernel_rfl
 f169:=Tryz.func140.trans (congrArg some (by kernel_rfl))
 t0:=Tryz.underlying0
 a0:=Tryz.isAgg0
 z0:=Tryz.sizeOf0
 v0:=Tryz.zeroValue0
 t3:=Tryz.underlying3
 a3:=Tryz.isAgg3
 z3:=Tryz.sizeOf3
 v3:=Tryz.zeroValue3
 t9:=Tryz.underlying9
 a9:=Tryz.isAgg9
 z9:=Tryz.sizeOf9
 v9:=Tryz.zeroValue9
 t37:=Tryz.underlying22
 a37:=Tryz.isAgg22
 z37:=Tryz.sizeOf22
 v37:=Tryz.zeroValue22
 t70:=Tryz.underlying140
 a70:=Tryz.isAgg140
 z70:=Tryz.sizeOf140
 v70:=Tryz.zeroValue140
 t72:=Tryz.underlying142
 a72:=Tryz.isAgg142
 z72:=Tryz.sizeOf142
 v72:=Tryz.zeroValue142
 t127:=Tryz.underlying128
 a127:=Tryz.isAgg128
 z127:=Tryz.sizeOf128
 v127:=Tryz.zeroValue128 }
theorem Tryz.Builder_Extra_169:Builder.Extra Tryz.prog Tryz.lays169_ren:={
 sizeBuilder:=by kernel_rfl
 liesBuilder:=by kernel_rfl
 t5:=Tryz.underlying5
 a5:=Tryz.isAgg5
 z5:=Tryz.sizeOf5
 v5:=Tryz.zeroValue5
 infoByte:=by kernel_rfl
 cellsByte:=by kernel_rfl
 sizeByte:=by kernel_rfl
 neB5:=by decide }
open Go.RowKit in
theorem Tryz.Builder_String_any (B b:Nat) (l:List UInt8) (w:World) (h:Lib.IsBuilder 142 5 B b (Lib.byteCells l) w) (hBw:B≤w.heap.size) :
  Calls Tryz.prog 140 #[.pointer (some ⟨b,0,none⟩)] w fun e w'=>e=.returned (.string ⟨l.toArray⟩)∧Below B w w':=Any.Builder_String_any Tryz.lays169 Tryz.Builder_Extra_169 B b l w h hBw
end Go.Proofs
namespace Go.Proofs
open Go.Shelf
def Tryz.lays196_ren:Go.Shelf.Ren:=⟨fun | 196=>221 | 259=>240 | n=>n,fun | 0=>0 | 3=>3 | 4=>4 | 5=>5 | 9=>9 | 12=>12 | 20=>20 | 21=>21 | 37=>22 | 46=>172 | 51=>33 | 53=>207 | 70=>140 | 72=>142 | 75=>144 | 80=>151 | 119=>170 | 138=>212 | 139=>213 | 164=>201 | n=>n,fun | 3=>0 | 4=>1 | n=>n⟩
theorem Tryz.lays196:Go.Proofs.Lays.n196 Tryz.prog Tryz.lays196_ren:={
 mixed:=by kernel_rfl
 f196:=Tryz.func221.trans (congrArg some (by kernel_rfl))
 f259:=Tryz.func240.trans (congrArg some (by kernel_rfl))
 t0:=Tryz.underlying0
 a0:=Tryz.isAgg0
 z0:=Tryz.sizeOf0
 v0:=Tryz.zeroValue0
 t3:=Tryz.underlying3
 a3:=Tryz.isAgg3
 z3:=Tryz.sizeOf3
 v3:=Tryz.zeroValue3
 t4:=Tryz.underlying4
 a4:=Tryz.isAgg4
 z4:=Tryz.sizeOf4
 v4:=Tryz.zeroValue4
 t5:=Tryz.underlying5
 a5:=Tryz.isAgg5
 z5:=Tryz.sizeOf5
 v5:=Tryz.zeroValue5
 t9:=Tryz.underlying9
 a9:=Tryz.isAgg9
 z9:=Tryz.sizeOf9
 v9:=Tryz.zeroValue9
 t12:=Tryz.underlying12
 a12:=Tryz.isAgg12
 z12:=Tryz.sizeOf12
 v12:=Tryz.zeroValue12
 t46:=Tryz.underlying172
 a46:=Tryz.isAgg172
 z46:=Tryz.sizeOf172
 v46:=Tryz.zeroValue172
 t53:=Tryz.underlying207
 a53:=Tryz.isAgg207
 z53:=Tryz.sizeOf207
 v53:=Tryz.zeroValue207
 t119:=Tryz.underlying170
 a119:=Tryz.isAgg170
 z119:=Tryz.sizeOf170
 t138:=Tryz.underlying212
 a138:=Tryz.isAgg212
 z138:=Tryz.sizeOf212
 v138:=Tryz.zeroValue212
 t139:=Tryz.underlying213
 a139:=Tryz.isAgg213
 z139:=Tryz.sizeOf213
 v139:=Tryz.zeroValue213
 g3:=by kernel_rfl
 g4:=by kernel_rfl }
def Tryz.lays168_ren:Go.Shelf.Ren:=⟨fun | 168=>139 | 240=>188 | 242=>192 | 276=>222 | 278=>225 | n=>n,fun | 0=>0 | 3=>3 | 4=>4 | 5=>5 | 9=>9 | 12=>12 | 20=>20 | 21=>21 | 37=>22 | 46=>172 | 51=>33 | 53=>207 | 70=>140 | 72=>142 | 75=>144 | 80=>151 | 119=>170 | 138=>212 | 139=>213 | 164=>201 | n=>n,fun  | n=>n⟩
theorem Tryz.lays168:Go.Proofs.Lays.n168 Tryz.prog Tryz.lays168_ren:={
 mixed:=by kernel_rfl
 f168:=Tryz.func139.trans (congrArg some (by kernel_rfl))
 f240:=Tryz.func188.trans (congrArg some (by kernel_rfl))
 f242:=Tryz.func192.trans (congrArg some (by kernel_rfl))
 f276:=Tryz.func222.trans (congrArg some (by kernel_rfl))
 f278:=Tryz.func225.trans (congrArg some (by kernel_rfl))
 t0:=Tryz.underlying0
 a0:=Tryz.isAgg0
 z0:=Tryz.sizeOf0
 v0:=Tryz.zeroValue0
 t3:=Tryz.underlying3
 a3:=Tryz.isAgg3
 z3:=Tryz.sizeOf3
 v3:=Tryz.zeroValue3
 t4:=Tryz.underlying4
 a4:=Tryz.isAgg4
 z4:=Tryz.sizeOf4
 v4:=Tryz.zeroValue4
 t5:=Tryz.underlying5
 a5:=Tryz.isAgg5
 z5:=Tryz.sizeOf5
 v5:=Tryz.zeroValue5
 t9:=Tryz.underlying9
 a9:=Tryz.isAgg9
 z9:=Tryz.sizeOf9
 v9:=Tryz.zeroValue9
 t20:=Tryz.underlying20
 a20:=Tryz.isAgg20
 z20:=Tryz.sizeOf20
 v20:=Tryz.zeroValue20
 t21:=Tryz.underlying21
 a21:=Tryz.isAgg21
 z21:=Tryz.sizeOf21
 v21:=Tryz.zeroValue21
 t37:=Tryz.underlying22
 a37:=Tryz.isAgg22
 z37:=Tryz.sizeOf22
 v37:=Tryz.zeroValue22
 t46:=Tryz.underlying172
 a46:=Tryz.isAgg172
 z46:=Tryz.sizeOf172
 v46:=Tryz.zeroValue172
 t51:=Tryz.underlying33
 a51:=Tryz.isAgg33
 z51:=Tryz.sizeOf33
 v51:=Tryz.zeroValue33
 t70:=Tryz.underlying140
 a70:=Tryz.isAgg140
 z70:=Tryz.sizeOf140
 v70:=Tryz.zeroValue140
 t72:=Tryz.underlying142
 a72:=Tryz.isAgg142
 z72:=Tryz.sizeOf142
 v72:=Tryz.zeroValue142
 t75:=Tryz.underlying144
 a75:=Tryz.isAgg144
 z75:=Tryz.sizeOf144
 v75:=Tryz.zeroValue144
 t164:=Tryz.underlying201
 a164:=Tryz.isAgg201
 z164:=Tryz.sizeOf201
 v164:=Tryz.zeroValue201 }
theorem Tryz.Builder_Extra_168:Builder.Extra Tryz.prog Tryz.lays168_ren:={
 sizeBuilder:=by kernel_rfl
 liesBuilder:=by kernel_rfl
 t5:=Tryz.underlying5
 a5:=Tryz.isAgg5
 z5:=Tryz.sizeOf5
 v5:=Tryz.zeroValue5
 infoByte:=by kernel_rfl
 cellsByte:=by kernel_rfl
 sizeByte:=by kernel_rfl
 neB5:=by decide }
theorem Tryz.u8Extra:U8Extra Tryz.prog Tryz.lays196_ren:=⟨by kernel_rfl,by kernel_rfl,by kernel_rfl,by kernel_rfl,by kernel_rfl,by kernel_rfl,by kernel_rfl⟩
open Go.RowKit in
theorem Tryz.utf8_ValidString (s:ByteArray) (w:World) (hs:s.size≤9223372036854775807) (hT:Lib.Utf8Tabs 0 1 w) :
  Calls Tryz.prog 221 #[.string s] w fun e w'=>e=.returned (.bool (Lib.validD s.data.toList))∧Below w.heap.size w w':=Any.utf8_ValidString Tryz.lays196 s w hs hT
open Go.RowKit in
theorem Tryz.Builder_WriteRune_k (B b:Nat) (bs:List Value) (r:Int) (hr0:-2147483648≤r) (hr1:r≤2147483647) (w:World) (h:Lib.IsBuilderF 142 5 B b bs w) (hlen:bs.length+4≤140737488355328) (hBw:B≤w.heap.size) :
  Calls Tryz.prog 139 #[.pointer (some ⟨b,0,none⟩),.int .i32 r] w fun e w'=>e=.returned (.tuple #[.int .i64 (Lib.runeCells r).length,.nilIface])∧(Lib.BuilderAtF 142 5 B b (.pointer (some ⟨b,0,none⟩)) (bs++Lib.runeCells r) w'∧Below B w w'∧Lib.OthersKept 5 (some b) w w'):=Any.Builder_WriteRune_k Tryz.lays168 Tryz.Builder_Extra_168 B b bs r hr0 hr1 w h hlen hBw
open Go.RowKit in
theorem Tryz.Builder_WriteByte_k (B b:Nat) (bs:List Value) (c:Int) (w:World) (h:Lib.IsBuilderF 142 5 B b bs w) (hlen:bs.length+1≤140737488355328) (hBw:B≤w.heap.size) :
  Calls Tryz.prog 134 #[.pointer (some ⟨b,0,none⟩),.int .u8 c] w fun e w'=>e=.returned .nilIface∧(Lib.BuilderAtF 142 5 B b (.pointer (some ⟨b,0,none⟩)) (bs++[.int .u8 c]) w'∧Below B w w'∧Lib.OthersKept 5 (some b) w w'):=Any.Builder_WriteByte_k Tryz.lays167 Tryz.Builder_Extra_167 B b bs c w h hlen hBw
open Go.RowKit in
theorem Tryz.Builder_String_any_k (B b:Nat) (l:List UInt8) (w:World) (h:Lib.IsBuilderF 142 5 B b (Lib.byteCells l) w) (hBw:B≤w.heap.size) :
  Calls Tryz.prog 140 #[.pointer (some ⟨b,0,none⟩)] w fun e w'=>e=.returned (.string ⟨l.toArray⟩)∧(Lib.IsBuilderF 142 5 B b (Lib.byteCells l) w'∧Below B w w'∧Lib.OthersKept 5 (some b) w w'):=Any.Builder_String_any_k Tryz.lays169 Tryz.Builder_Extra_169 B b l w h hBw
end Go.Proofs
