/- Made small by a program. -/
import Derived.Shelf.Strings.Trim
import Derived.Shelf.Small.Utf8
import Derived.Shelf.Small.Bits
import Derived.Shelf.Small.Strs
import Derived.Shelf.Small.Wraps
import Derived.Shelf.Utf8.RuneCount
import Derived.Shelf.Strconv.Itoa0
import Derived.Shelf.Strconv.Itoa1
import Derived.Shelf.LaysM
import Derived.Shelf.Strconv.Itoa2
import Derived.Shelf.Strconv.Itoa3
import Derived.Shelf.Strconv.Clone
import Derived.Shelf.Strconv.SyntaxError
import Derived.Shelf.LaysC
import Derived.Shelf.Strconv.ToError
import Derived.Shelf.Strconv.Lower
import Derived.Shelf.Strconv.ParseUint10
import Derived.Shelf.Strconv.ParseUint10Empty
import Derived.Shelf.Strconv.ParseUint10Any
import Derived.Shelf.Strconv.RangeError
import Derived.Shelf.Strconv.ToErrorRange
import Derived.Shelf.Strconv.ParseUintEmpty
import Derived.Shelf.Strconv.ParseUint10b64
import Derived.Shelf.Strconv.ParseUint10b32
import Derived.Shelf.Strconv.ParseUint10b16
import Derived.Shelf.Strconv.ParseUint10b8
import Derived.Shelf.Strconv.ParseUint10At
import Derived.Ground.MpProg
import Derived.Shelf.Pu.ParseUintPublic10
import Derived.Shelf.Pu.ErrVarParseUint
import Derived.Shelf.Strings.Search1
import Derived.Shelf.Strings.Search2
import Derived.Shelf.Strings.Search3
import Derived.Shelf.Strings.Count
import Derived.Shelf.Strings.Shaped
import Derived.Shelf.Sort.Plain
import Derived.Shelf.Strings.Prefix
import Derived.Shelf.Strings.Split
import Derived.Shelf.Strings.SplitShaped
import Derived.Shelf.Unicode.Decode
import Derived.Shelf.Strings.Runes
import Derived.Shelf.Strings.RuneCount
import Derived.Shelf.Strings.AsciiSet
import Derived.Shelf.Strings.Explode
import Derived.Shelf.Unicode.DecodeSlow
import Derived.Shelf.Unicode.DecodeAny
import Derived.Shelf.Unicode.DecodeLast
import Derived.Shelf.Slices.In.SortNone
import Derived.Test.YtobdmlejabjmiaaGreatDoorProg
set_option maxRecDepth 20000
set_option maxHeartbeats 8000000
namespace Go.Proofs
open Go.Shelf
def Tryz.lays160_ren:Go.Shelf.Ren:=⟨fun | 160=>56 | 232=>115 | 231=>114 | 227=>116 | 234=>118 | 233=>117 | 236=>120 | 235=>119 | 228=>169 | 271=>172 | 151=>171 | 197=>170 | 120=>201 | 152=>200 | 260=>199 | 137=>232 | 119=>233 | 224=>234 | 225=>235 | 217=>252 | 266=>259 | n=>n,fun | 9=>9 | 4=>4 | 3=>3 | 5=>5 | 117=>186 | 116=>185 | 0=>0 | 124=>189 | 21=>21 | 105=>240 | 46=>206 | 119=>289 | 139=>292 | 138=>291 | n=>n,fun | 3=>0 | 4=>1 | n=>n⟩
theorem Tryz.lays160:Go.Proofs.Lays.n160 Tryz.prog Tryz.lays160_ren:={
 mixed:=by kernel_rfl
 f119:=Tryz.func233.trans (congrArg some (by kernel_rfl))
 f120:=Tryz.func201.trans (congrArg some (by kernel_rfl))
 f137:=Tryz.func232.trans (congrArg some (by kernel_rfl))
 f151:=Tryz.func171.trans (congrArg some (by kernel_rfl))
 f152:=Tryz.func200.trans (congrArg some (by kernel_rfl))
 f160:=Tryz.func56.trans (congrArg some (by kernel_rfl))
 f197:=Tryz.func170.trans (congrArg some (by kernel_rfl))
 f217:=Tryz.func252.trans (congrArg some (by kernel_rfl))
 f224:=Tryz.func234.trans (congrArg some (by kernel_rfl))
 f225:=Tryz.func235.trans (congrArg some (by kernel_rfl))
 f227:=Tryz.func116.trans (congrArg some (by kernel_rfl))
 f228:=Tryz.func169.trans (congrArg some (by kernel_rfl))
 f231:=Tryz.func114.trans (congrArg some (by kernel_rfl))
 f232:=Tryz.func115.trans (congrArg some (by kernel_rfl))
 f233:=Tryz.func117.trans (congrArg some (by kernel_rfl))
 f234:=Tryz.func118.trans (congrArg some (by kernel_rfl))
 f235:=Tryz.func119.trans (congrArg some (by kernel_rfl))
 f236:=Tryz.func120.trans (congrArg some (by kernel_rfl))
 f260:=Tryz.func199.trans (congrArg some (by kernel_rfl))
 f266:=Tryz.func259.trans (congrArg some (by kernel_rfl))
 f271:=Tryz.func172.trans (congrArg some (by kernel_rfl))
 t0:=Tryz.underlying0
 a0:=Tryz.isAgg0
 z0:=Tryz.sizeOf0
 v0:=Tryz.zeroValue0
 t3:=Tryz.underlying3
 a3:=Tryz.isAgg3
 z3:=Tryz.sizeOf3
 v3:=Tryz.zeroValue3
 t4:=Tryz.underlying4
 a4:=Tryz.isAgg4
 z4:=Tryz.sizeOf4
 v4:=Tryz.zeroValue4
 t5:=Tryz.underlying5
 a5:=Tryz.isAgg5
 z5:=Tryz.sizeOf5
 v5:=Tryz.zeroValue5
 t9:=Tryz.underlying9
 a9:=Tryz.isAgg9
 z9:=Tryz.sizeOf9
 v9:=Tryz.zeroValue9
 t21:=Tryz.underlying21
 a21:=Tryz.isAgg21
 z21:=Tryz.sizeOf21
 v21:=Tryz.zeroValue21
 t46:=Tryz.underlying206
 a46:=Tryz.isAgg206
 z46:=Tryz.sizeOf206
 v46:=Tryz.zeroValue206
 t105:=Tryz.underlying240
 a105:=Tryz.isAgg240
 z105:=Tryz.sizeOf240
 v105:=Tryz.zeroValue240
 t116:=Tryz.underlying185
 a116:=Tryz.isAgg185
 z116:=Tryz.sizeOf185
 t117:=Tryz.underlying186
 a117:=Tryz.isAgg186
 z117:=Tryz.sizeOf186
 v117:=Tryz.zeroValue186
 t119:=Tryz.underlying289
 a119:=Tryz.isAgg289
 z119:=Tryz.sizeOf289
 t124:=Tryz.underlying189
 a124:=Tryz.isAgg189
 z124:=Tryz.sizeOf189
 v124:=Tryz.zeroValue189
 t138:=Tryz.underlying291
 a138:=Tryz.isAgg291
 z138:=Tryz.sizeOf291
 v138:=Tryz.zeroValue291
 t139:=Tryz.underlying292
 a139:=Tryz.isAgg292
 z139:=Tryz.sizeOf292
 v139:=Tryz.zeroValue292
 g3:=by kernel_rfl
 g4:=by kernel_rfl }
def Tryz.lays125_ren:Go.Shelf.Ren:=⟨fun | 125=>131 | 128=>187 | 129=>155 | n=>n,fun | 46=>206 | 3=>3 | 51=>198 | 53=>23 | 4=>4 | 5=>5 | 9=>9 | n=>n,fun | n=>n⟩
theorem Tryz.lays125:Go.Proofs.Lays.n125 Tryz.prog Tryz.lays125_ren:={
 mixed:=by kernel_rfl
 f125:=Tryz.func131.trans (congrArg some (by kernel_rfl))
 f128:=Tryz.func187.trans (congrArg some (by kernel_rfl))
 f129:=Tryz.func155.trans (congrArg some (by kernel_rfl))
 t3:=Tryz.underlying3
 a3:=Tryz.isAgg3
 z3:=Tryz.sizeOf3
 v3:=Tryz.zeroValue3
 t4:=Tryz.underlying4
 a4:=Tryz.isAgg4
 z4:=Tryz.sizeOf4
 v4:=Tryz.zeroValue4
 t5:=Tryz.underlying5
 a5:=Tryz.isAgg5
 z5:=Tryz.sizeOf5
 v5:=Tryz.zeroValue5
 t9:=Tryz.underlying9
 a9:=Tryz.isAgg9
 z9:=Tryz.sizeOf9
 v9:=Tryz.zeroValue9
 t46:=Tryz.underlying206
 a46:=Tryz.isAgg206
 z46:=Tryz.sizeOf206
 v46:=Tryz.zeroValue206
 t51:=Tryz.underlying198
 a51:=Tryz.isAgg198
 z51:=Tryz.sizeOf198
 v51:=Tryz.zeroValue198
 t53:=Tryz.underlying23
 a53:=Tryz.isAgg23
 z53:=Tryz.sizeOf23
 v53:=Tryz.zeroValue23 }
theorem Tryz.bits_Len(x:Int)(w:World)(h0:0<=x)(h1:x<=18446744073709551615) :
  Calls Tryz.prog 131 #[.int .u64 x] w fun e w'=>e=.returned (.int .i64 (Lib.bitLen x.toNat))/\w'=w:=Any.bits_Len Tryz.lays125 x w h0 h1
def Tryz.lays103_ren:Go.Shelf.Ren:=⟨fun | 103=>121 | 210=>173 | 206=>202 | n=>n,fun | 9=>9 | 4=>4 | 24=>190 | 3=>3 | n=>n,fun | n=>n⟩
theorem Tryz.lays103:Go.Proofs.Lays.n103 Tryz.prog Tryz.lays103_ren:={
 mixed:=by kernel_rfl
 f103:=Tryz.func121.trans (congrArg some (by kernel_rfl))
 f206:=Tryz.func202.trans (congrArg some (by kernel_rfl))
 f210:=Tryz.func173.trans (congrArg some (by kernel_rfl))
 t3:=Tryz.underlying3
 a3:=Tryz.isAgg3
 z3:=Tryz.sizeOf3
 v3:=Tryz.zeroValue3
 t4:=Tryz.underlying4
 a4:=Tryz.isAgg4
 z4:=Tryz.sizeOf4
 v4:=Tryz.zeroValue4
 t9:=Tryz.underlying9
 a9:=Tryz.isAgg9
 z9:=Tryz.sizeOf9
 v9:=Tryz.zeroValue9
 t24:=Tryz.underlying190
 a24:=Tryz.isAgg190
 z24:=Tryz.sizeOf190
 v24:=Tryz.zeroValue190 }
open Go.RowKit in
theorem Tryz.strings_CutPrefix(s p:ByteArray)(w:World) :
  Calls Tryz.prog 121 #[.string s,.string p] w fun e w'=>e=.returned (.tuple #[.string ⟨(Lib.trimPrefix s.data.toList p.data.toList).toArray⟩,.bool (Lib.hasPrefix s.data.toList p.data.toList)])/\w'=w:=Any.strings_CutPrefix Tryz.lays103 s p w
def Tryz.lays129_ren:Go.Shelf.Ren:=⟨fun | 129=>155 | n=>n,fun | 53=>23 | 3=>3 | 4=>4 | 46=>206 | 5=>5 | 9=>9 | n=>n,fun | n=>n⟩
theorem Tryz.lays129:Go.Proofs.Lays.n129 Tryz.prog Tryz.lays129_ren:={
 mixed:=by kernel_rfl
 f129:=Tryz.func155.trans (congrArg some (by kernel_rfl))
 t3:=Tryz.underlying3
 a3:=Tryz.isAgg3
 z3:=Tryz.sizeOf3
 v3:=Tryz.zeroValue3
 t4:=Tryz.underlying4
 a4:=Tryz.isAgg4
 z4:=Tryz.sizeOf4
 v4:=Tryz.zeroValue4
 t5:=Tryz.underlying5
 a5:=Tryz.isAgg5
 z5:=Tryz.sizeOf5
 v5:=Tryz.zeroValue5
 t9:=Tryz.underlying9
 a9:=Tryz.isAgg9
 z9:=Tryz.sizeOf9
 v9:=Tryz.zeroValue9
 t46:=Tryz.underlying206
 a46:=Tryz.isAgg206
 z46:=Tryz.sizeOf206
 v46:=Tryz.zeroValue206
 t53:=Tryz.underlying23
 a53:=Tryz.isAgg23
 z53:=Tryz.sizeOf23
 v53:=Tryz.zeroValue23 }
theorem Tryz.bits_Len64(x:Int)(w:World)(h0:0<=x)(h1:x<=18446744073709551615) :
  Calls Tryz.prog 155 #[.int .u64 x] w fun e w'=>e=.returned (.int .i64 (Lib.bitLen x.toNat))/\w'=w:=Any.bits_Len64 Tryz.lays129 x w h0 h1
def Tryz.lays283_ren:Go.Shelf.Ren:=⟨fun | 283=>209 | n=>n,fun | 3=>3 | 9=>9 | 4=>4 | n=>n,fun | n=>n⟩
theorem Tryz.lays283:Go.Proofs.Lays.n283 Tryz.prog Tryz.lays283_ren:={
 mixed:=by kernel_rfl
 f283:=Tryz.func209.trans (congrArg some (by kernel_rfl))
 t3:=Tryz.underlying3
 a3:=Tryz.isAgg3
 z3:=Tryz.sizeOf3
 v3:=Tryz.zeroValue3
 t4:=Tryz.underlying4
 a4:=Tryz.isAgg4
 z4:=Tryz.sizeOf4
 v4:=Tryz.zeroValue4
 t9:=Tryz.underlying9
 a9:=Tryz.isAgg9
 z9:=Tryz.sizeOf9
 v9:=Tryz.zeroValue9 }
open Go.Lib in
theorem Tryz.internal_strconv_small(i:Nat)(h:i<100)(w:World) :
  Calls Tryz.prog 209 #[.int .i64 i] w fun e w'=>e=.returned (.string ⟨(Lib.decDigits i).toArray⟩)/\w'=w:=Any.internal_strconv_small Tryz.lays283 i h w
def Tryz.laysM284_ren:Go.Shelf.Ren:=⟨fun | 284=>210 | 129=>155 | 317=>239 | 318=>240 | n=>n,fun | 53=>23 | 3=>3 | 212=>300 | 0=>0 | 4=>4 | 46=>206 | 5=>5 | 9=>9 | n=>n,fun | 17=>4 | n=>n⟩
theorem Tryz.laysM284:Go.Proofs.LaysM.n284 Tryz.prog Tryz.laysM284_ren:={
 mixed:=by kernel_rfl
 f129:=Tryz.func155.trans (congrArg some (by kernel_rfl))
 f284:=Tryz.func210.trans (congrArg some (by kernel_rfl))
 f317:=Tryz.func239.trans (congrArg some (by kernel_rfl))
 f318:=Tryz.func240.trans (congrArg some (by kernel_rfl))
 t0:=Tryz.underlying0
 a0:=Tryz.isAgg0
 z0:=Tryz.sizeOf0
 v0:=Tryz.zeroValue0
 t3:=Tryz.underlying3
 a3:=Tryz.isAgg3
 z3:=Tryz.sizeOf3
 v3:=Tryz.zeroValue3
 t4:=Tryz.underlying4
 a4:=Tryz.isAgg4
 z4:=Tryz.sizeOf4
 v4:=Tryz.zeroValue4
 t5:=Tryz.underlying5
 a5:=Tryz.isAgg5
 z5:=Tryz.sizeOf5
 v5:=Tryz.zeroValue5
 t9:=Tryz.underlying9
 a9:=Tryz.isAgg9
 z9:=Tryz.sizeOf9
 v9:=Tryz.zeroValue9
 t46:=Tryz.underlying206
 a46:=Tryz.isAgg206
 z46:=Tryz.sizeOf206
 v46:=Tryz.zeroValue206
 t53:=Tryz.underlying23
 a53:=Tryz.isAgg23
 z53:=Tryz.sizeOf23
 v53:=Tryz.zeroValue23
 t212:=Tryz.underlying300
 a212:=Tryz.isAgg300
 z212:=Tryz.sizeOf300
 v212:=Tryz.zeroValue300
 g17:=by kernel_rfl
 i0:=by kernel_rfl
 i3:=by kernel_rfl
 i4:=by kernel_rfl
 i5:=by kernel_rfl
 i9:=by kernel_rfl
 i46:=by kernel_rfl
 i53:=by kernel_rfl
 i212:=by kernel_rfl
 m17:=by kernel_rfl }
open Go.Lib in
theorem Tryz.internal_strconv_numDigits (u : Nat) (h1 : 1 ≤ u) (h2 : u < 18446744073709551616) (w : World) (htab : Lib.TabIs Tryz.prog w "internal/strconv.uint64pow10" .u64 Lib.pow10Tab) :
  Calls Tryz.prog 210 #[.int .u64 u] w fun e w'=>e=.returned (.int .i64 (Lib.nDigits u))/\w'=w:=Any.internal_strconv_numDigits Tryz.laysM284 u h1 h2 w htab
def Tryz.lays285_ren:Go.Shelf.Ren:=⟨fun | 285=>211 | n=>n,fun | 37=>34 | 53=>23 | 3=>3 | 4=>4 | 51=>198 | 9=>9 | 5=>5 | 0=>0 | n=>n,fun | n=>n⟩
theorem Tryz.lays285:Go.Proofs.Lays.n285 Tryz.prog Tryz.lays285_ren:={
 mixed:=by kernel_rfl
 f285:=Tryz.func211.trans (congrArg some (by kernel_rfl))
 t0:=Tryz.underlying0
 a0:=Tryz.isAgg0
 z0:=Tryz.sizeOf0
 v0:=Tryz.zeroValue0
 t3:=Tryz.underlying3
 a3:=Tryz.isAgg3
 z3:=Tryz.sizeOf3
 v3:=Tryz.zeroValue3
 t4:=Tryz.underlying4
 a4:=Tryz.isAgg4
 z4:=Tryz.sizeOf4
 v4:=Tryz.zeroValue4
 t5:=Tryz.underlying5
 a5:=Tryz.isAgg5
 z5:=Tryz.sizeOf5
 v5:=Tryz.zeroValue5
 t9:=Tryz.underlying9
 a9:=Tryz.isAgg9
 z9:=Tryz.sizeOf9
 v9:=Tryz.zeroValue9
 t37:=Tryz.underlying34
 a37:=Tryz.isAgg34
 z37:=Tryz.sizeOf34
 v37:=Tryz.zeroValue34
 t51:=Tryz.underlying198
 a51:=Tryz.isAgg198
 z51:=Tryz.sizeOf198
 v51:=Tryz.zeroValue198
 t53:=Tryz.underlying23
 a53:=Tryz.isAgg23
 z53:=Tryz.sizeOf23
 v53:=Tryz.zeroValue23 }
open Go.RowKit Go.Sort Go.Lib in
theorem Tryz.internal_strconv_formatBase10(blk off cap:Nat)(u:Nat)(d:Array UInt8)(w:World)(hH:Holds (fun(b:UInt8)=>Value.int .u8 (b.toNat:Int)) w blk off d)(hu:u<10 ^ d.size)(hu64:u<18446744073709551616)(hsz:d.size<4611686018427387904) :
  Calls Tryz.prog 211 #[.slice (some ⟨blk,off,none⟩) d.size cap,.int .u64 u] w fun e w' =>
   e=.returned (.tuple #[])/\∃(n v':Nat) (dk:Array UInt8),w'=(putRow (fun(b:UInt8)=>Value.int .u8 (b.toNat:Int)) w blk off dk).drewN n/\FmtInv d.size u 0 v' dk:=Any.internal_strconv_formatBase10 Tryz.lays285 blk off cap u d w hH hu hu64 hsz
def Tryz.laysPu14_ren:Go.Shelf.Ren:=⟨fun | 14=>122 | 16=>174 | 17=>175 | 19=>203 | 20=>204 | 21=>205 | 22=>206 | 23=>207 | 24=>208 | 25=>236 | 27=>238 | 26=>237 | 28=>253 | 29=>260 | 30=>209 | 31=>210 | 32=>211 | 33=>212 | 35=>155 | 34=>239 | 36=>240 | 37=>241 | 38=>242 | 39=>254 | 40=>255 | n=>n,fun | 9=>9 | 3=>3 | 22=>23 | 24=>193 | 25=>194 | 4=>4 | 34=>266 | 5=>5 | 36=>206 | 37=>34 | 0=>0 | 39=>268 | 21=>21 | 44=>297 | 47=>308 | 50=>311 | 48=>309 | 2=>2 | 52=>273 | 55=>275 | 59=>300 | 60=>198 | 20=>20 | 61=>301 | 65=>314 | 66=>315 | 67=>318 | n=>n,fun | 0=>2 | 1=>3 | 2=>4 | 3=>6 | 4=>7 | n=>n⟩
theorem Tryz.laysPu14:Go.Proofs.LaysPu.n14 Tryz.prog Tryz.laysPu14_ren:={
 mixed:=by kernel_rfl
 f14:=Tryz.func122.trans (congrArg some (by kernel_rfl))
 f16:=Tryz.func174.trans (congrArg some (by kernel_rfl))
 f17:=Tryz.func175.trans (congrArg some (by kernel_rfl))
 f19:=Tryz.func203.trans (congrArg some (by kernel_rfl))
 f20:=Tryz.func204.trans (congrArg some (by kernel_rfl))
 f21:=Tryz.func205.trans (congrArg some (by kernel_rfl))
 f22:=Tryz.func206.trans (congrArg some (by kernel_rfl))
 f23:=Tryz.func207.trans (congrArg some (by kernel_rfl))
 f24:=Tryz.func208.trans (congrArg some (by kernel_rfl))
 f25:=Tryz.func236.trans (congrArg some (by kernel_rfl))
 f26:=Tryz.func237.trans (congrArg some (by kernel_rfl))
 f27:=Tryz.func238.trans (congrArg some (by kernel_rfl))
 f28:=Tryz.func253.trans (congrArg some (by kernel_rfl))
 f29:=Tryz.func260.trans (congrArg some (by kernel_rfl))
 f30:=Tryz.func209.trans (congrArg some (by kernel_rfl))
 f31:=Tryz.func210.trans (congrArg some (by kernel_rfl))
 f32:=Tryz.func211.trans (congrArg some (by kernel_rfl))
 f33:=Tryz.func212.trans (congrArg some (by kernel_rfl))
 f34:=Tryz.func239.trans (congrArg some (by kernel_rfl))
 f35:=Tryz.func155.trans (congrArg some (by kernel_rfl))
 f36:=Tryz.func240.trans (congrArg some (by kernel_rfl))
 f37:=Tryz.func241.trans (congrArg some (by kernel_rfl))
 f38:=Tryz.func242.trans (congrArg some (by kernel_rfl))
 f39:=Tryz.func254.trans (congrArg some (by kernel_rfl))
 f40:=Tryz.func255.trans (congrArg some (by kernel_rfl))
 t0:=Tryz.underlying0
 a0:=Tryz.isAgg0
 z0:=Tryz.sizeOf0
 v0:=Tryz.zeroValue0
 i0:=by kernel_rfl
 t2:=Tryz.underlying2
 a2:=Tryz.isAgg2
 z2:=Tryz.sizeOf2
 v2:=Tryz.zeroValue2
 i2:=by kernel_rfl
 t3:=Tryz.underlying3
 a3:=Tryz.isAgg3
 z3:=Tryz.sizeOf3
 v3:=Tryz.zeroValue3
 i3:=by kernel_rfl
 t4:=Tryz.underlying4
 a4:=Tryz.isAgg4
 z4:=Tryz.sizeOf4
 v4:=Tryz.zeroValue4
 i4:=by kernel_rfl
 t5:=Tryz.underlying5
 a5:=Tryz.isAgg5
 z5:=Tryz.sizeOf5
 v5:=Tryz.zeroValue5
 i5:=by kernel_rfl
 t9:=Tryz.underlying9
 a9:=Tryz.isAgg9
 z9:=Tryz.sizeOf9
 v9:=Tryz.zeroValue9
 i9:=by kernel_rfl
 t20:=Tryz.underlying20
 a20:=Tryz.isAgg20
 z20:=Tryz.sizeOf20
 v20:=Tryz.zeroValue20
 i20:=by kernel_rfl
 t21:=Tryz.underlying21
 a21:=Tryz.isAgg21
 z21:=Tryz.sizeOf21
 v21:=Tryz.zeroValue21
 i21:=by kernel_rfl
 t22:=Tryz.underlying23
 a22:=Tryz.isAgg23
 z22:=Tryz.sizeOf23
 v22:=Tryz.zeroValue23
 i22:=by kernel_rfl
 t24:=Tryz.underlying193
 a24:=Tryz.isAgg193
 z24:=Tryz.sizeOf193
 v24:=Tryz.zeroValue193
 i24:=by kernel_rfl
 t25:=Tryz.underlying194
 a25:=Tryz.isAgg194
 z25:=Tryz.sizeOf194
 v25:=Tryz.zeroValue194
 i25:=by kernel_rfl
 t34:=Tryz.underlying266
 a34:=Tryz.isAgg266
 z34:=Tryz.sizeOf266
 v34:=Tryz.zeroValue266
 i34:=by kernel_rfl
 c34:=by kernel_rfl
 t36:=Tryz.underlying206
 a36:=Tryz.isAgg206
 z36:=Tryz.sizeOf206
 v36:=Tryz.zeroValue206
 i36:=by kernel_rfl
 t37:=Tryz.underlying34
 a37:=Tryz.isAgg34
 z37:=Tryz.sizeOf34
 v37:=Tryz.zeroValue34
 i37:=by kernel_rfl
 t39:=Tryz.underlying268
 a39:=Tryz.isAgg268
 z39:=Tryz.sizeOf268
 v39:=Tryz.zeroValue268
 i39:=by kernel_rfl
 t44:=Tryz.underlying297
 a44:=Tryz.isAgg297
 z44:=Tryz.sizeOf297
 v44:=Tryz.zeroValue297
 i44:=by kernel_rfl
 t47:=Tryz.underlying308
 a47:=Tryz.isAgg308
 z47:=Tryz.sizeOf308
 v47:=Tryz.zeroValue308
 i47:=by kernel_rfl
 t48:=Tryz.underlying309
 a48:=Tryz.isAgg309
 z48:=Tryz.sizeOf309
 v48:=Tryz.zeroValue309
 i48:=by kernel_rfl
 t50:=Tryz.underlying311
 a50:=Tryz.isAgg311
 z50:=Tryz.sizeOf311
 v50:=Tryz.zeroValue311
 i50:=by kernel_rfl
 t52:=Tryz.underlying273
 a52:=Tryz.isAgg273
 z52:=Tryz.sizeOf273
 v52:=Tryz.zeroValue273
 i52:=by kernel_rfl
 t55:=Tryz.underlying275
 a55:=Tryz.isAgg275
 z55:=Tryz.sizeOf275
 v55:=Tryz.zeroValue275
 i55:=by kernel_rfl
 t59:=Tryz.underlying300
 a59:=Tryz.isAgg300
 z59:=Tryz.sizeOf300
 v59:=Tryz.zeroValue300
 i59:=by kernel_rfl
 t60:=Tryz.underlying198
 a60:=Tryz.isAgg198
 z60:=Tryz.sizeOf198
 v60:=Tryz.zeroValue198
 i60:=by kernel_rfl
 t61:=Tryz.underlying301
 a61:=Tryz.isAgg301
 z61:=Tryz.sizeOf301
 t65:=Tryz.underlying314
 a65:=Tryz.isAgg314
 z65:=Tryz.sizeOf314
 v65:=Tryz.zeroValue314
 i65:=by kernel_rfl
 t66:=Tryz.underlying315
 a66:=Tryz.isAgg315
 z66:=Tryz.sizeOf315
 v66:=Tryz.zeroValue315
 i66:=by kernel_rfl
 t67:=Tryz.underlying318
 a67:=Tryz.isAgg318
 z67:=Tryz.sizeOf318
 v67:=Tryz.zeroValue318
 i67:=by kernel_rfl
 g0:=by kernel_rfl
 m0:=by kernel_rfl
 g1:=by kernel_rfl
 m1:=by kernel_rfl
 g2:=by kernel_rfl
 m2:=by kernel_rfl
 g3:=by kernel_rfl
 m3:=by kernel_rfl
 g4:=by kernel_rfl
 m4:=by kernel_rfl }
open Go.RowKit in
theorem Tryz.strconv_ParseUint_10_at64_ok(s:ByteArray)(hmax:s.size<=9223372036854775806)(u:Nat)(h:Lib.parseUintB 64 s.data.toList=.ok u)(w:World) :
  Calls Tryz.prog 122 #[.string s,.int .i64 10,.int .i64 64] w fun e w'=>e=.returned (.tuple #[.int .u64 u,.nilIface])/\(w'=w\/w'=Lib.bytesWorld w 5 s):=Any.strconv_ParseUint_10_at64_ok Tryz.laysPu14 s hmax u h w
open Go.RowKit in
theorem Tryz.strconv_ParseUint_10_at64_range_var (s : ByteArray) (hlim : s.size ≤ 281474976710656) (h : Lib.parseUintB 64 s.data.toList = .range) (tp : TypeId) (p : Value) (w : World) (hvar : w.var? Tryz.prog "strconv.ErrRange" = some #[.iface tp p]) :
  Calls Tryz.prog 122 #[.string s,.int .i64 10,.int .i64 64] w fun e w'=>∃N,e=.returned (.tuple #[.int .u64 18446744073709551615,.iface 268 (.pointer (some ⟨N,0,none⟩))])/\w.heap.size<=N/\w'.heap[N]?=some (.cells #[.string ⟨#[80,97,114,115,101,85,105,110,116]⟩,.string s,.iface tp p] 297 (0,0))/\Below w.heap.size w w':=Any.strconv_ParseUint_10_at64_range_var Tryz.laysPu14 s hlim h tp p w hvar
def Tryz.lays221_ren:Go.Shelf.Ren:=⟨fun | 221=>178 | 268=>213 | 138=>214 | 143=>215 | 195=>243 | 197=>170 | 218=>244 | 219=>245 | 260=>199 | 217=>252 | 225=>235 | 224=>234 | 267=>256 | 266=>259 | 314=>261 | n=>n,fun | 9=>9 | 3=>3 | 31=>79 | 4=>4 | 0=>0 | 105=>240 | 21=>21 | 5=>5 | 46=>206 | 119=>289 | 139=>292 | 138=>291 | 146=>316 | 51=>198 | n=>n,fun | 1=>5 | 3=>0 | 4=>1 | n=>n⟩
def Tryz.lays146_ren:Go.Shelf.Ren:=⟨fun | 146=>129 | 221=>178 | 268=>213 | 138=>214 | 143=>215 | 195=>243 | 197=>170 | 218=>244 | 219=>245 | 260=>199 | 217=>252 | 225=>235 | 224=>234 | 267=>256 | 266=>259 | 314=>261 | n=>n,fun | 9=>9 | 31=>79 | 3=>3 | 4=>4 | 0=>0 | 105=>240 | 21=>21 | 5=>5 | 46=>206 | 119=>289 | 139=>292 | 138=>291 | 146=>316 | 51=>198 | n=>n,fun | 1=>5 | 3=>0 | 4=>1 | n=>n⟩
theorem Tryz.lays146:Go.Proofs.Lays.n146 Tryz.prog Tryz.lays146_ren:={
 mixed:=by kernel_rfl
 f138:=Tryz.func214.trans (congrArg some (by kernel_rfl))
 f143:=Tryz.func215.trans (congrArg some (by kernel_rfl))
 f146:=Tryz.func129.trans (congrArg some (by kernel_rfl))
 f195:=Tryz.func243.trans (congrArg some (by kernel_rfl))
 f197:=Tryz.func170.trans (congrArg some (by kernel_rfl))
 f217:=Tryz.func252.trans (congrArg some (by kernel_rfl))
 f218:=Tryz.func244.trans (congrArg some (by kernel_rfl))
 f219:=Tryz.func245.trans (congrArg some (by kernel_rfl))
 f221:=Tryz.func178.trans (congrArg some (by kernel_rfl))
 f224:=Tryz.func234.trans (congrArg some (by kernel_rfl))
 f225:=Tryz.func235.trans (congrArg some (by kernel_rfl))
 f260:=Tryz.func199.trans (congrArg some (by kernel_rfl))
 f266:=Tryz.func259.trans (congrArg some (by kernel_rfl))
 f267:=Tryz.func256.trans (congrArg some (by kernel_rfl))
 f268:=Tryz.func213.trans (congrArg some (by kernel_rfl))
 f314:=Tryz.func261.trans (congrArg some (by kernel_rfl))
 t0:=Tryz.underlying0
 a0:=Tryz.isAgg0
 z0:=Tryz.sizeOf0
 v0:=Tryz.zeroValue0
 t3:=Tryz.underlying3
 a3:=Tryz.isAgg3
 z3:=Tryz.sizeOf3
 v3:=Tryz.zeroValue3
 t4:=Tryz.underlying4
 a4:=Tryz.isAgg4
 z4:=Tryz.sizeOf4
 v4:=Tryz.zeroValue4
 t5:=Tryz.underlying5
 a5:=Tryz.isAgg5
 z5:=Tryz.sizeOf5
 v5:=Tryz.zeroValue5
 t9:=Tryz.underlying9
 a9:=Tryz.isAgg9
 z9:=Tryz.sizeOf9
 v9:=Tryz.zeroValue9
 t21:=Tryz.underlying21
 a21:=Tryz.isAgg21
 z21:=Tryz.sizeOf21
 v21:=Tryz.zeroValue21
 t31:=Tryz.underlying79
 a31:=Tryz.isAgg79
 z31:=Tryz.sizeOf79
 v31:=Tryz.zeroValue79
 t46:=Tryz.underlying206
 a46:=Tryz.isAgg206
 z46:=Tryz.sizeOf206
 v46:=Tryz.zeroValue206
 t51:=Tryz.underlying198
 a51:=Tryz.isAgg198
 z51:=Tryz.sizeOf198
 v51:=Tryz.zeroValue198
 t105:=Tryz.underlying240
 a105:=Tryz.isAgg240
 z105:=Tryz.sizeOf240
 v105:=Tryz.zeroValue240
 t119:=Tryz.underlying289
 a119:=Tryz.isAgg289
 z119:=Tryz.sizeOf289
 t138:=Tryz.underlying291
 a138:=Tryz.isAgg291
 z138:=Tryz.sizeOf291
 v138:=Tryz.zeroValue291
 t139:=Tryz.underlying292
 a139:=Tryz.isAgg292
 z139:=Tryz.sizeOf292
 v139:=Tryz.zeroValue292
 t146:=Tryz.underlying316
 a146:=Tryz.isAgg316
 z146:=Tryz.sizeOf316
 v146:=Tryz.zeroValue316
 g1:=by kernel_rfl
 g3:=by kernel_rfl
 g4:=by kernel_rfl }
open Go.RowKit Go.Lib in
theorem Tryz.strings_Split(s sep:ByteArray)(m:Int)(w:World)(hs:s.size<4294967281)(hm:w.cell? ⟨5,0,none⟩=some (.int .i64 m))(h1:1<=sep.size) :
  Calls Tryz.prog 129 #[.string s,.string sep] w fun e w' =>
   e=.returned (.slice (some ⟨w.heap.size,0,none⟩) (Lib.countB s sep+1) (Lib.countB s sep+1))/\w'=w.alloc (.cells ((Lib.splitB sep 0 (Lib.countB s sep) s).map Value.string).toArray 9):=Any.strings_Split Tryz.lays146 (by kernel_rfl) s sep m w hs hm h1
def Tryz.laysM146_ren:Go.Shelf.Ren:=⟨fun | 146=>129 | 221=>178 | 268=>213 | 138=>214 | 143=>215 | 195=>243 | 197=>170 | 218=>244 | 219=>245 | 260=>199 | 217=>252 | 225=>235 | 224=>234 | 267=>256 | 266=>259 | 314=>261 | n=>n,fun | 9=>9 | 31=>79 | 3=>3 | 4=>4 | 0=>0 | 105=>240 | 21=>21 | 5=>5 | 46=>206 | 119=>289 | 139=>292 | 138=>291 | 146=>316 | 51=>198 | n=>n,fun | 1=>5 | 3=>0 | 4=>1 | n=>n⟩
theorem Tryz.laysM146:Go.Proofs.LaysM.n146 Tryz.prog Tryz.laysM146_ren:={
 mixed:=by kernel_rfl
 f138:=Tryz.func214.trans (congrArg some (by kernel_rfl))
 f143:=Tryz.func215.trans (congrArg some (by kernel_rfl))
 f146:=Tryz.func129.trans (congrArg some (by kernel_rfl))
 f195:=Tryz.func243.trans (congrArg some (by kernel_rfl))
 f197:=Tryz.func170.trans (congrArg some (by kernel_rfl))
 f217:=Tryz.func252.trans (congrArg some (by kernel_rfl))
 f218:=Tryz.func244.trans (congrArg some (by kernel_rfl))
 f219:=Tryz.func245.trans (congrArg some (by kernel_rfl))
 f221:=Tryz.func178.trans (congrArg some (by kernel_rfl))
 f224:=Tryz.func234.trans (congrArg some (by kernel_rfl))
 f225:=Tryz.func235.trans (congrArg some (by kernel_rfl))
 f260:=Tryz.func199.trans (congrArg some (by kernel_rfl))
 f266:=Tryz.func259.trans (congrArg some (by kernel_rfl))
 f267:=Tryz.func256.trans (congrArg some (by kernel_rfl))
 f268:=Tryz.func213.trans (congrArg some (by kernel_rfl))
 f314:=Tryz.func261.trans (congrArg some (by kernel_rfl))
 t0:=Tryz.underlying0
 a0:=Tryz.isAgg0
 z0:=Tryz.sizeOf0
 v0:=Tryz.zeroValue0
 t3:=Tryz.underlying3
 a3:=Tryz.isAgg3
 z3:=Tryz.sizeOf3
 v3:=Tryz.zeroValue3
 t4:=Tryz.underlying4
 a4:=Tryz.isAgg4
 z4:=Tryz.sizeOf4
 v4:=Tryz.zeroValue4
 t5:=Tryz.underlying5
 a5:=Tryz.isAgg5
 z5:=Tryz.sizeOf5
 v5:=Tryz.zeroValue5
 t9:=Tryz.underlying9
 a9:=Tryz.isAgg9
 z9:=Tryz.sizeOf9
 v9:=Tryz.zeroValue9
 t21:=Tryz.underlying21
 a21:=Tryz.isAgg21
 z21:=Tryz.sizeOf21
 v21:=Tryz.zeroValue21
 t31:=Tryz.underlying79
 a31:=Tryz.isAgg79
 z31:=Tryz.sizeOf79
 v31:=Tryz.zeroValue79
 t46:=Tryz.underlying206
 a46:=Tryz.isAgg206
 z46:=Tryz.sizeOf206
 v46:=Tryz.zeroValue206
 t51:=Tryz.underlying198
 a51:=Tryz.isAgg198
 z51:=Tryz.sizeOf198
 v51:=Tryz.zeroValue198
 t105:=Tryz.underlying240
 a105:=Tryz.isAgg240
 z105:=Tryz.sizeOf240
 v105:=Tryz.zeroValue240
 t119:=Tryz.underlying289
 a119:=Tryz.isAgg289
 z119:=Tryz.sizeOf289
 t138:=Tryz.underlying291
 a138:=Tryz.isAgg291
 z138:=Tryz.sizeOf291
 v138:=Tryz.zeroValue291
 t139:=Tryz.underlying292
 a139:=Tryz.isAgg292
 z139:=Tryz.sizeOf292
 v139:=Tryz.zeroValue292
 t146:=Tryz.underlying316
 a146:=Tryz.isAgg316
 z146:=Tryz.sizeOf316
 v146:=Tryz.zeroValue316
 g1:=by kernel_rfl
 g3:=by kernel_rfl
 g4:=by kernel_rfl
 i0:=by kernel_rfl
 i3:=by kernel_rfl
 i4:=by kernel_rfl
 i5:=by kernel_rfl
 i9:=by kernel_rfl
 i21:=by kernel_rfl
 i31:=by kernel_rfl
 i46:=by kernel_rfl
 i51:=by kernel_rfl
 i105:=by kernel_rfl
 i138:=by kernel_rfl
 i139:=by kernel_rfl
 i146:=by kernel_rfl
 m1:=by kernel_rfl
 s1_3:=fun w h=>Go.Proofs.cell_of_shapedOpen_int (zero:=#[.int .i64 0]) (t:=3) h (of_decide_eq_true (by kernel_rfl)) (by kernel_rfl) rfl (by kernel_rfl) (by kernel_rfl) Tryz.underlying3
 m3:=by kernel_rfl
 m4:=by kernel_rfl }
end Go.Proofs
