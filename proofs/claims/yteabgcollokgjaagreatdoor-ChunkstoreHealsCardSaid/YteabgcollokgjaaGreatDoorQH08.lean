/- Q -/
import Derived.Shelf.Small.Wraps
import Derived.Shelf.Strconv.Itoa1
import Derived.Shelf.LaysM
import Derived.Shelf.Strconv.Itoa2
import Derived.Shelf.Strconv.Itoa3
import Derived.Shelf.Sort.Plain
import Derived.Shelf.Strings.Prefix
import Derived.Shelf.Slices.Turned
import Derived.Shelf.Slices.In.SortNone
import Derived.Shelf.Bytes.SlSmallAll
import Derived.Shelf.Bytes.SlEqualAll
import Derived.Shelf.Bytes.Small
import Derived.Shelf.SlSortCmp.NoneTotal
import Derived.Shelf.SlicesE.Clone
import Derived.Ground.SlsfProg
import Derived.Ground.SlgnProg
import Derived.Ground.NamesProg
import Derived.Shelf.SlGeneric
import Derived.Test.YteabgcollokgjaaGreatDoorQH07
import Derived.IntWalk
import Derived.Sort.WalkA
import Derived.Sort.WalkA6
import Derived.Sort.AssemblyPlain
import Derived.Deep.Cut
import Derived.BigRegion
set_option linter.unusedSimpArgs false
set_option linter.unusedVariables false
set_option maxRecDepth 100000
set_option maxHeartbeats 32000000
open Go.Lib (hid)
open List renaming getD_eq_getElem?_getD → zA,getElem?_eq_getElem → zB
namespace Go.Proofs
section
open Go.Shelf
def Tryz.lays103_ren:Go.Shelf.Ren:=⟨fun | 103=>131 | 210=>172 | 206=>216 | n=>n,fun | 9=>9 | 4=>4 | 24=>204 | 3=>3 | n=>n,fun | n=>n⟩
theorem Tryz.lays103:Go.Proofs.Lays.n103 Tryz.prog Tryz.lays103_ren:={
 mixed:=by kernel_rfl
 f103:=Tryz.func131.trans (congrArg some (by kernel_rfl))
 f206:=Tryz.func216.trans (congrArg some (by kernel_rfl))
 f210:=Tryz.func172.trans (congrArg some (by kernel_rfl))
 t3:=Tryz.underlying3
 a3:=Tryz.isAgg3
 z3:=Tryz.sizeOf3
 v3:=Tryz.zeroValue3
 t4:=Tryz.underlying4
 a4:=Tryz.isAgg4
 z4:=Tryz.sizeOf4
 v4:=Tryz.zeroValue4
 t9:=Tryz.underlying9
 a9:=Tryz.isAgg9
 z9:=Tryz.sizeOf9
 v9:=Tryz.zeroValue9
 t24:=Tryz.underlying204
 a24:=Tryz.isAgg204
 z24:=Tryz.sizeOf204
 v24:=Tryz.zeroValue204 }
open Go.RowKit in
theorem Tryz.strings_CutPrefix (s p:ByteArray) (w:World):
 Calls Tryz.prog 131 #[.string s,.string p] w fun e w'=>e= .returned (.tuple #[.string ⟨(Lib.trimPrefix s.data.toList p.data.toList).toArray⟩,.bool (Lib.hasPrefix s.data.toList p.data.toList)])/\w'=w:=Any.strings_CutPrefix Tryz.lays103 s p w
def Tryz.laysM246_ren:Go.Shelf.Ren:=⟨fun | 246=>256 | 283=>286 | 284=>287 | 285=>288 | 286=>289 | 129=>198 | 317=>302 | 318=>303 | 319=>304 | 320=>305 | 337=>310 | 338=>311 | n=>n,fun | 2=>2 | 3=>3 | 9=>9 | 4=>4 | 171=>353 | 0=>0 | 53=>29 | 37=>34 | 5=>5 | 173=>355 | 212=>372 | 51=>276 | 20=>20 | 213=>373 | 46=>230 | 232=>375 | 233=>359 | n=>n,fun | 17=>2 | 18=>3 | 19=>4 | n=>n⟩
def Tryz.laysM243_ren:Go.Shelf.Ren:=⟨fun | 243=>201 | 246=>256 | 283=>286 | 284=>287 | 285=>288 | 286=>289 | 129=>198 | 317=>302 | 318=>303 | 319=>304 | 320=>305 | 337=>310 | 338=>311 | n=>n,fun | 3=>3 | 9=>9 | 2=>2 | 4=>4 | 171=>353 | 0=>0 | 53=>29 | 37=>34 | 5=>5 | 173=>355 | 212=>372 | 51=>276 | 20=>20 | 213=>373 | 46=>230 | 232=>375 | 233=>359 | n=>n,fun | 17=>2 | 18=>3 | 19=>4 | n=>n⟩
def Tryz.laysM171_ren:Go.Shelf.Ren:=⟨fun | 171=>155 | 243=>201 | 246=>256 | 283=>286 | 284=>287 | 285=>288 | 286=>289 | 129=>198 | 317=>302 | 318=>303 | 319=>304 | 320=>305 | 337=>310 | 338=>311 | n=>n,fun | 3=>3 | 9=>9 | 2=>2 | 4=>4 | 171=>353 | 0=>0 | 53=>29 | 37=>34 | 5=>5 | 173=>355 | 212=>372 | 51=>276 | 20=>20 | 213=>373 | 46=>230 | 232=>375 | 233=>359 | n=>n,fun | 17=>2 | 18=>3 | 19=>4 | n=>n⟩
def Tryz.lays171_ren:Go.Shelf.Ren:=⟨fun | 171=>155 | 243=>201 | 246=>256 | 283=>286 | 284=>287 | 285=>288 | 286=>289 | 129=>198 | 317=>302 | 318=>303 | 319=>304 | 320=>305 | 337=>310 | 338=>311 | n=>n,fun | 3=>3 | 9=>9 | 2=>2 | 4=>4 | 171=>353 | 0=>0 | 53=>29 | 37=>34 | 5=>5 | 173=>355 | 212=>372 | 51=>276 | 20=>20 | 213=>373 | 46=>230 | 232=>375 | 233=>359 | n=>n,fun | 17=>2 | 18=>3 | 19=>4 | n=>n⟩
theorem Tryz.lays171:Go.Proofs.Lays.n171 Tryz.prog Tryz.lays171_ren:={
 mixed:=by kernel_rfl
 f129:=Tryz.func198.trans (congrArg some (by kernel_rfl))
 f171:=Tryz.func155.trans (congrArg some (by kernel_rfl))
 f243:=Tryz.func201.trans (congrArg some (by kernel_rfl))
 f246:=Tryz.func256.trans (congrArg some (by kernel_rfl))
 f283:=Tryz.func286.trans (congrArg some (by kernel_rfl))
 f284:=Tryz.func287.trans (congrArg some (by kernel_rfl))
 f285:=Tryz.func288.trans (congrArg some (by kernel_rfl))
 f286:=Tryz.func289.trans (congrArg some (by kernel_rfl))
 f317:=Tryz.func302.trans (congrArg some (by kernel_rfl))
 f318:=Tryz.func303.trans (congrArg some (by kernel_rfl))
 f319:=Tryz.func304.trans (congrArg some (by kernel_rfl))
 f320:=Tryz.func305.trans (congrArg some (by kernel_rfl))
 f337:=Tryz.func310.trans (congrArg some (by kernel_rfl))
 f338:=Tryz.func311.trans (congrArg some (by kernel_rfl))
 t0:=Tryz.underlying0
 a0:=Tryz.isAgg0
 z0:=Tryz.sizeOf0
 v0:=Tryz.zeroValue0
 t2:=Tryz.underlying2
 a2:=Tryz.isAgg2
 z2:=Tryz.sizeOf2
 v2:=Tryz.zeroValue2
 t3:=Tryz.underlying3
 a3:=Tryz.isAgg3
 z3:=Tryz.sizeOf3
 v3:=Tryz.zeroValue3
 t4:=Tryz.underlying4
 a4:=Tryz.isAgg4
 z4:=Tryz.sizeOf4
 v4:=Tryz.zeroValue4
 t5:=Tryz.underlying5
 a5:=Tryz.isAgg5
 z5:=Tryz.sizeOf5
 v5:=Tryz.zeroValue5
 t9:=Tryz.underlying9
 a9:=Tryz.isAgg9
 z9:=Tryz.sizeOf9
 v9:=Tryz.zeroValue9
 t20:=Tryz.underlying20
 a20:=Tryz.isAgg20
 z20:=Tryz.sizeOf20
 v20:=Tryz.zeroValue20
 t37:=Tryz.underlying34
 a37:=Tryz.isAgg34
 z37:=Tryz.sizeOf34
 v37:=Tryz.zeroValue34
 t46:=Tryz.underlying230
 a46:=Tryz.isAgg230
 z46:=Tryz.sizeOf230
 v46:=Tryz.zeroValue230
 t51:=Tryz.underlying276
 a51:=Tryz.isAgg276
 z51:=Tryz.sizeOf276
 v51:=Tryz.zeroValue276
 t53:=Tryz.underlying29
 a53:=Tryz.isAgg29
 z53:=Tryz.sizeOf29
 v53:=Tryz.zeroValue29
 t171:=Tryz.underlying353
 a171:=Tryz.isAgg353
 z171:=Tryz.sizeOf353
 v171:=Tryz.zeroValue353
 t173:=Tryz.underlying355
 a173:=Tryz.isAgg355
 z173:=Tryz.sizeOf355
 v173:=Tryz.zeroValue355
 t212:=Tryz.underlying372
 a212:=Tryz.isAgg372
 z212:=Tryz.sizeOf372
 v212:=Tryz.zeroValue372
 t213:=Tryz.underlying373
 a213:=Tryz.isAgg373
 z213:=Tryz.sizeOf373
 t232:=Tryz.underlying375
 a232:=Tryz.isAgg375
 z232:=Tryz.sizeOf375
 v232:=Tryz.zeroValue375
 t233:=Tryz.underlying359
 a233:=Tryz.isAgg359
 z233:=Tryz.sizeOf359
 v233:=Tryz.zeroValue359
 g17:=by kernel_rfl
 g18:=by kernel_rfl
 g19:=by kernel_rfl }
open Go.RowKit Go.Sort Go.Lib in
theorem Tryz.strconv_Itoa_small (i:Nat) (hi:i<100) (w:World):
 Calls Tryz.prog 155 #[.int .i64 i] w fun e w'=>e= .returned (.string ⟨(Lib.decDigits i).toArray⟩)/\w'=w:=Any.strconv_Itoa_small Tryz.lays171 i hi w
def Tryz.lays189_ren:Go.Shelf.Ren:=⟨fun | 189=>133 | 125=>151 | 257=>175 | 128=>197 | 129=>198 | 294=>222 | 295=>223 | 296=>224 | 297=>225 | 298=>226 | 299=>227 | 216=>228 | 300=>229 | 301=>230 | 328=>274 | 329=>243 | 330=>244 | 331=>275 | 332=>276 | 215=>200 | 343=>299 | n=>n,fun | 28=>47 | 3=>3 | 46=>230 | 0=>0 | 51=>276 | 53=>29 | 4=>4 | 183=>269 | 182=>268 | 131=>155 | 5=>5 | 9=>9 | 218=>316 | 222=>320 | 228=>349 | 229=>159 | n=>n,fun | n=>n⟩
theorem Tryz.lays189:Go.Proofs.Lays.n189 Tryz.prog Tryz.lays189_ren:={
 mixed:=by kernel_rfl
 f125:=Tryz.func151.trans (congrArg some (by kernel_rfl))
 f128:=Tryz.func197.trans (congrArg some (by kernel_rfl))
 f129:=Tryz.func198.trans (congrArg some (by kernel_rfl))
 f189:=Tryz.func133.trans (congrArg some (by kernel_rfl))
 f215:=Tryz.func200.trans (congrArg some (by kernel_rfl))
 f216:=Tryz.func228.trans (congrArg some (by kernel_rfl))
 f257:=Tryz.func175.trans (congrArg some (by kernel_rfl))
 f294:=Tryz.func222.trans (congrArg some (by kernel_rfl))
 f295:=Tryz.func223.trans (congrArg some (by kernel_rfl))
 f296:=Tryz.func224.trans (congrArg some (by kernel_rfl))
 f297:=Tryz.func225.trans (congrArg some (by kernel_rfl))
 f298:=Tryz.func226.trans (congrArg some (by kernel_rfl))
 f299:=Tryz.func227.trans (congrArg some (by kernel_rfl))
 f300:=Tryz.func229.trans (congrArg some (by kernel_rfl))
 f301:=Tryz.func230.trans (congrArg some (by kernel_rfl))
 f328:=Tryz.func274.trans (congrArg some (by kernel_rfl))
 f329:=Tryz.func243.trans (congrArg some (by kernel_rfl))
 f330:=Tryz.func244.trans (congrArg some (by kernel_rfl))
 f331:=Tryz.func275.trans (congrArg some (by kernel_rfl))
 f332:=Tryz.func276.trans (congrArg some (by kernel_rfl))
 f343:=Tryz.func299.trans (congrArg some (by kernel_rfl))
 t0:=Tryz.underlying0
 a0:=Tryz.isAgg0
 z0:=Tryz.sizeOf0
 v0:=Tryz.zeroValue0
 t3:=Tryz.underlying3
 a3:=Tryz.isAgg3
 z3:=Tryz.sizeOf3
 v3:=Tryz.zeroValue3
 t4:=Tryz.underlying4
 a4:=Tryz.isAgg4
 z4:=Tryz.sizeOf4
 v4:=Tryz.zeroValue4
 t5:=Tryz.underlying5
 a5:=Tryz.isAgg5
 z5:=Tryz.sizeOf5
 v5:=Tryz.zeroValue5
 t9:=Tryz.underlying9
 a9:=Tryz.isAgg9
 z9:=Tryz.sizeOf9
 v9:=Tryz.zeroValue9
 t28:=Tryz.underlying47
 a28:=Tryz.isAgg47
 z28:=Tryz.sizeOf47
 v28:=Tryz.zeroValue47
 t46:=Tryz.underlying230
 a46:=Tryz.isAgg230
 z46:=Tryz.sizeOf230
 v46:=Tryz.zeroValue230
 t51:=Tryz.underlying276
 a51:=Tryz.isAgg276
 z51:=Tryz.sizeOf276
 v51:=Tryz.zeroValue276
 t53:=Tryz.underlying29
 a53:=Tryz.isAgg29
 z53:=Tryz.sizeOf29
 v53:=Tryz.zeroValue29
 t131:=Tryz.underlying155
 a131:=Tryz.isAgg155
 z131:=Tryz.sizeOf155
 v131:=Tryz.zeroValue155
 t182:=Tryz.underlying268
 a182:=Tryz.isAgg268
 z182:=Tryz.sizeOf268
 v182:=Tryz.zeroValue268
 t183:=Tryz.underlying269
 a183:=Tryz.isAgg269
 z183:=Tryz.sizeOf269
 v183:=Tryz.zeroValue269
 t218:=Tryz.underlying316
 a218:=Tryz.isAgg316
 z218:=Tryz.sizeOf316
 v218:=Tryz.zeroValue316
 t222:=Tryz.underlying320
 a222:=Tryz.isAgg320
 z222:=Tryz.sizeOf320
 v222:=Tryz.zeroValue320
 t228:=Tryz.underlying349
 a228:=Tryz.isAgg349
 z228:=Tryz.sizeOf349
 v228:=Tryz.zeroValue349
 t229:=Tryz.underlying159
 a229:=Tryz.isAgg159
 z229:=Tryz.sizeOf159
 v229:=Tryz.zeroValue159 }
open Go.Sort Go.RowKit in
theorem Tryz.slices_Sort_int (blk off cap:Nat) (zs:List Int) (w:World) (hH:Holds (Value.int .i64) w blk off zs.toArray) (hblk:blk<w.heap.size) (hsz:zs.length<4611686018427387904):
 Calls Tryz.prog 133 #[.slice (some ⟨blk,off,none⟩) zs.length cap] w fun e w'=>
  e= .returned (.tuple #[])/\∃ n os,w'=grow (putRow (Value.int .i64) (Sort.ahead w n) blk off (zs.mergeSort fun x y=>decide (x<=y)).toArray) os:=Any.slices_Sort_int Tryz.lays189 blk off cap zs w hH hblk hsz
def Tryz.lays190_ren:Go.Shelf.Ren:=⟨fun | 190=>96 | 125=>151 | 258=>150 | 128=>197 | 129=>198 | 302=>188 | 303=>189 | 304=>190 | 305=>191 | 306=>192 | 307=>193 | 308=>194 | 309=>195 | 310=>196 | 333=>242 | 329=>243 | 330=>244 | 334=>245 | 335=>246 | 336=>247 | 344=>282 | n=>n,fun | 31=>60 | 9=>9 | 3=>3 | 46=>230 | 0=>0 | 51=>276 | 53=>29 | 4=>4 | 183=>269 | 182=>268 | 131=>155 | 5=>5 | 218=>316 | 222=>320 | 228=>349 | 229=>159 | n=>n,fun | n=>n⟩
theorem Tryz.lays190:Go.Proofs.Lays.n190 Tryz.prog Tryz.lays190_ren:={
 mixed:=by kernel_rfl
 f125:=Tryz.func151.trans (congrArg some (by kernel_rfl))
 f128:=Tryz.func197.trans (congrArg some (by kernel_rfl))
 f129:=Tryz.func198.trans (congrArg some (by kernel_rfl))
 f190:=Tryz.func96.trans (congrArg some (by kernel_rfl))
 f258:=Tryz.func150.trans (congrArg some (by kernel_rfl))
 f302:=Tryz.func188.trans (congrArg some (by kernel_rfl))
 f303:=Tryz.func189.trans (congrArg some (by kernel_rfl))
 f304:=Tryz.func190.trans (congrArg some (by kernel_rfl))
 f305:=Tryz.func191.trans (congrArg some (by kernel_rfl))
 f306:=Tryz.func192.trans (congrArg some (by kernel_rfl))
 f307:=Tryz.func193.trans (congrArg some (by kernel_rfl))
 f308:=Tryz.func194.trans (congrArg some (by kernel_rfl))
 f309:=Tryz.func195.trans (congrArg some (by kernel_rfl))
 f310:=Tryz.func196.trans (congrArg some (by kernel_rfl))
 f329:=Tryz.func243.trans (congrArg some (by kernel_rfl))
 f330:=Tryz.func244.trans (congrArg some (by kernel_rfl))
 f333:=Tryz.func242.trans (congrArg some (by kernel_rfl))
 f334:=Tryz.func245.trans (congrArg some (by kernel_rfl))
 f335:=Tryz.func246.trans (congrArg some (by kernel_rfl))
 f336:=Tryz.func247.trans (congrArg some (by kernel_rfl))
 f344:=Tryz.func282.trans (congrArg some (by kernel_rfl))
 t0:=Tryz.underlying0
 a0:=Tryz.isAgg0
 z0:=Tryz.sizeOf0
 v0:=Tryz.zeroValue0
 t3:=Tryz.underlying3
 a3:=Tryz.isAgg3
 z3:=Tryz.sizeOf3
 v3:=Tryz.zeroValue3
 t4:=Tryz.underlying4
 a4:=Tryz.isAgg4
 z4:=Tryz.sizeOf4
 v4:=Tryz.zeroValue4
 t5:=Tryz.underlying5
 a5:=Tryz.isAgg5
 z5:=Tryz.sizeOf5
 v5:=Tryz.zeroValue5
 t9:=Tryz.underlying9
 a9:=Tryz.isAgg9
 z9:=Tryz.sizeOf9
 v9:=Tryz.zeroValue9
 t31:=Tryz.underlying60
 a31:=Tryz.isAgg60
 z31:=Tryz.sizeOf60
 v31:=Tryz.zeroValue60
 t46:=Tryz.underlying230
 a46:=Tryz.isAgg230
 z46:=Tryz.sizeOf230
 v46:=Tryz.zeroValue230
 t51:=Tryz.underlying276
 a51:=Tryz.isAgg276
 z51:=Tryz.sizeOf276
 v51:=Tryz.zeroValue276
 t53:=Tryz.underlying29
 a53:=Tryz.isAgg29
 z53:=Tryz.sizeOf29
 v53:=Tryz.zeroValue29
 t131:=Tryz.underlying155
 a131:=Tryz.isAgg155
 z131:=Tryz.sizeOf155
 v131:=Tryz.zeroValue155
 t182:=Tryz.underlying268
 a182:=Tryz.isAgg268
 z182:=Tryz.sizeOf268
 v182:=Tryz.zeroValue268
 t183:=Tryz.underlying269
 a183:=Tryz.isAgg269
 z183:=Tryz.sizeOf269
 v183:=Tryz.zeroValue269
 t218:=Tryz.underlying316
 a218:=Tryz.isAgg316
 z218:=Tryz.sizeOf316
 v218:=Tryz.zeroValue316
 t222:=Tryz.underlying320
 a222:=Tryz.isAgg320
 z222:=Tryz.sizeOf320
 v222:=Tryz.zeroValue320
 t228:=Tryz.underlying349
 a228:=Tryz.isAgg349
 z228:=Tryz.sizeOf349
 v228:=Tryz.zeroValue349
 t229:=Tryz.underlying159
 a229:=Tryz.isAgg159
 z229:=Tryz.sizeOf159
 v229:=Tryz.zeroValue159 }
open Go.Sort Go.RowKit in
theorem Tryz.slices_Sort_string (blk off cap:Nat) (ss:List (List UInt8)) (w:World) (hH:Holds encStr w blk off ss.toArray) (hblk:blk<w.heap.size) (hsz:ss.length<4611686018427387904):
 Calls Tryz.prog 96 #[.slice (some ⟨blk,off,none⟩) ss.length cap] w fun e w'=>
  e= .returned (.tuple #[])/\∃ n os,w'=grow (putRow encStr (Sort.ahead w n) blk off (ss.mergeSort fun x y=>decide (x<=y)).toArray) os:=Any.slices_Sort_string Tryz.lays190 blk off cap ss w hH hblk hsz
def Tryz.lays110_ren:Go.Shelf.Ren:=⟨fun | 110=>178 | 109=>233 | n=>n,fun | 31=>60 | 9=>9 | 4=>4 | 3=>3 | 0=>0 | n=>n,fun | n=>n⟩
theorem Tryz.lays110:Go.Proofs.Lays.n110 Tryz.prog Tryz.lays110_ren:={
 mixed:=by kernel_rfl
 f109:=Tryz.func233.trans (congrArg some (by kernel_rfl))
 f110:=Tryz.func178.trans (congrArg some (by kernel_rfl))
 t0:=Tryz.underlying0
 a0:=Tryz.isAgg0
 z0:=Tryz.sizeOf0
 v0:=Tryz.zeroValue0
 t3:=Tryz.underlying3
 a3:=Tryz.isAgg3
 z3:=Tryz.sizeOf3
 v3:=Tryz.zeroValue3
 t4:=Tryz.underlying4
 a4:=Tryz.isAgg4
 z4:=Tryz.sizeOf4
 v4:=Tryz.zeroValue4
 t9:=Tryz.underlying9
 a9:=Tryz.isAgg9
 z9:=Tryz.sizeOf9
 v9:=Tryz.zeroValue9
 t31:=Tryz.underlying60
 a31:=Tryz.isAgg60
 z31:=Tryz.sizeOf60
 v31:=Tryz.zeroValue60 }
open Go.Lib in
theorem Tryz.slices_Contains_string (b off n c:Nat) (zs:List ByteArray) (x:ByteArray) (w:World) (hz:n<=zs.length) (hbig:n<=9223372036854775807) (hc:∀ j,j<zs.length->w.cell? ⟨b,off+j,none⟩=some (.string (zs.getD j ByteArray.empty))):
 Calls Tryz.prog 178 #[.slice (some ⟨b,off,none⟩) n c,.string x] w fun e w'=>e= .returned (.bool (Lib.containsS (zs.take n) x))/\w'=w:=Any.slices_Contains_string Tryz.lays110 b off n c zs x w hz hbig hc
open Go.Lib in
theorem Tryz.slices_Contains_string_empty (a:Option Addr) (c:Nat) (x:ByteArray) (w:World):
 Calls Tryz.prog 178 #[.slice a 0 c,.string x] w fun e w'=>e= .returned (.bool false)/\w'=w:=Any.slices_Contains_string_empty Tryz.lays110 a c x w
open Go.RowKit Go.Sort in
theorem Tryz.slices_Sort_string_none (p:Option Addr) (cap:Nat) (w:World):
 Calls Tryz.prog 96 #[.slice p 0 cap] w fun e w'=>e= .returned (.tuple #[])/\w'=w:=Any.slices_Sort_string_none Tryz.lays190 p cap w
open Go.RowKit Go.Sort in
theorem Tryz.slices_Sort_int_none (p:Option Addr) (cap:Nat) (w:World):
 Calls Tryz.prog 133 #[.slice p 0 cap] w fun e w'=>e= .returned (.tuple #[])/\w'=w:=Any.slices_Sort_int_none Tryz.lays189 p cap w
def Tryz.laysnb116_ren:Go.Shelf.Ren:=⟨fun | 116=>231 | 115=>86 | n=>n,fun | 37=>34 | 4=>4 | 3=>3 | 9=>9 | 5=>5 | n=>n,fun | n=>n⟩
theorem Tryz.laysnb116:Go.Proofs.Lays.nb116 Tryz.prog Tryz.laysnb116_ren:={
 mixed:=by kernel_rfl
 f115:=Tryz.func86.trans (congrArg some (by kernel_rfl))
 f116:=Tryz.func231.trans (congrArg some (by kernel_rfl))
 t3:=Tryz.underlying3
 a3:=Tryz.isAgg3
 z3:=Tryz.sizeOf3
 v3:=Tryz.zeroValue3
 t4:=Tryz.underlying4
 a4:=Tryz.isAgg4
 z4:=Tryz.sizeOf4
 v4:=Tryz.zeroValue4
 t9:=Tryz.underlying9
 a9:=Tryz.isAgg9
 z9:=Tryz.sizeOf9
 v9:=Tryz.zeroValue9
 t37:=Tryz.underlying34
 a37:=Tryz.isAgg34
 z37:=Tryz.sizeOf34
 v37:=Tryz.zeroValue34
 t5:=Tryz.underlying5
 a5:=Tryz.isAgg5
 z5:=Tryz.sizeOf5
 v5:=Tryz.zeroValue5 }
theorem Tryz.bytes_HasPrefix_all (p1 p2:Option Addr) (n c m d:Nat) (xs ys:List Int) (w:World) (hx:xs.length=n) (hy:ys.length=m) (hnc:n<=c) (h1:Lib.BytesIn w p1 n xs) (h2:Lib.BytesIn w p2 m ys):
 Calls Tryz.prog 231 #[.slice p1 n c,.slice p2 m d] w fun e w'=>e= .returned (.bool (Lib.hasPrefix (Lib.bytesOf xs) (Lib.bytesOf ys)))/\w'=w:=Any.bytes_HasPrefix_all Tryz.laysnb116 p1 p2 n c m d xs ys w hx hy hnc h1 h2
def Tryz.laysnb115_ren:Go.Shelf.Ren:=⟨fun | 115=>86 | n=>n,fun | 37=>34 | 4=>4 | 9=>9 | 5=>5 | n=>n,fun | n=>n⟩
theorem Tryz.laysnb115:Go.Proofs.Lays.nb115 Tryz.prog Tryz.laysnb115_ren:={
 mixed:=by kernel_rfl
 f115:=Tryz.func86.trans (congrArg some (by kernel_rfl))
 t4:=Tryz.underlying4
 a4:=Tryz.isAgg4
 z4:=Tryz.sizeOf4
 v4:=Tryz.zeroValue4
 t9:=Tryz.underlying9
 a9:=Tryz.isAgg9
 z9:=Tryz.sizeOf9
 v9:=Tryz.zeroValue9
 t37:=Tryz.underlying34
 a37:=Tryz.isAgg34
 z37:=Tryz.sizeOf34
 v37:=Tryz.zeroValue34
 t5:=Tryz.underlying5
 a5:=Tryz.isAgg5
 z5:=Tryz.sizeOf5
 v5:=Tryz.zeroValue5 }
theorem Tryz.bytes_Equal_all (p1 p2:Option Addr) (n c m d:Nat) (xs ys:List Int) (w:World) (hx:xs.length=n) (hy:ys.length=m) (h1:Lib.BytesIn w p1 n xs) (h2:Lib.BytesIn w p2 m ys):
 Calls Tryz.prog 86 #[.slice p1 n c,.slice p2 m d] w fun e w'=>e= .returned (.bool (Lib.bytesOf xs==Lib.bytesOf ys))/\w'=w:=Any.bytes_Equal_all Tryz.laysnb115 p1 p2 n c m d xs ys w hx hy h1 h2
def Tryz.lay103_ren:Go.Shelf.Ren:=⟨fun | 6=>103 | 15=>151 | 14=>156 | 28=>197 | 29=>198 | 20=>202 | 21=>203 | 22=>204 | 23=>205 | 24=>206 | 25=>207 | 26=>208 | 27=>209 | 46=>257 | 47=>243 | 48=>244 | 49=>258 | 50=>259 | 57=>290 | n=>n,fun | 22=>38 | 24=>31 | 25=>169 | 3=>3 | 39=>230 | 0=>0 | 53=>276 | 55=>29 | 4=>4 | 46=>269 | 45=>268 | 50=>155 | 5=>5 | 9=>9 | 66=>316 | 70=>320 | 76=>349 | 77=>159 | n=>n,fun | n=>n⟩
def Tryz.lay152_ren:Go.Shelf.Ren:=⟨fun | 6=>152 | 15=>151 | 14=>199 | 28=>197 | 29=>198 | 20=>248 | 21=>249 | 22=>250 | 23=>251 | 24=>252 | 25=>253 | 26=>254 | 27=>255 | 46=>283 | 47=>243 | 48=>244 | 49=>284 | 50=>285 | 57=>301 | n=>n,fun | 22=>163 | 24=>166 | 25=>232 | 3=>3 | 39=>230 | 0=>0 | 53=>276 | 55=>29 | 4=>4 | 46=>269 | 45=>268 | 50=>155 | 5=>5 | 9=>9 | 66=>316 | 70=>320 | 76=>349 | 77=>159 | n=>n,fun | n=>n⟩
theorem Tryz.lay152:Go.Proofs.SlLaysF0.n6 Tryz.prog Tryz.lay152_ren:={
 mixed:=by kernel_rfl
 f6:=⟨Tryz.f152.name,by decide,Tryz.func152.trans (congrArg some (by kernel_rfl))⟩
 f14:=⟨Tryz.f199.name,by decide,Tryz.func199.trans (congrArg some (by kernel_rfl))⟩
 f15:=Tryz.func151.trans (congrArg some (by kernel_rfl))
 f20:=⟨Tryz.f248.name,by decide,Tryz.func248.trans (congrArg some (by kernel_rfl))⟩
 f21:=⟨Tryz.f249.name,by decide,Tryz.func249.trans (congrArg some (by kernel_rfl))⟩
 f22:=⟨Tryz.f250.name,by decide,Tryz.func250.trans (congrArg some (by kernel_rfl))⟩
 f23:=⟨Tryz.f251.name,by decide,Tryz.func251.trans (congrArg some (by kernel_rfl))⟩
 f24:=⟨Tryz.f252.name,by decide,Tryz.func252.trans (congrArg some (by kernel_rfl))⟩
 f25:=⟨Tryz.f253.name,by decide,Tryz.func253.trans (congrArg some (by kernel_rfl))⟩
 f26:=⟨Tryz.f254.name,by decide,Tryz.func254.trans (congrArg some (by kernel_rfl))⟩
 f27:=⟨Tryz.f255.name,by decide,Tryz.func255.trans (congrArg some (by kernel_rfl))⟩
 f28:=Tryz.func197.trans (congrArg some (by kernel_rfl))
 f29:=Tryz.func198.trans (congrArg some (by kernel_rfl))
 f46:=⟨Tryz.f283.name,by decide,Tryz.func283.trans (congrArg some (by kernel_rfl))⟩
 f47:=Tryz.func243.trans (congrArg some (by kernel_rfl))
 f48:=Tryz.func244.trans (congrArg some (by kernel_rfl))
 f49:=⟨Tryz.f284.name,by decide,Tryz.func284.trans (congrArg some (by kernel_rfl))⟩
 f50:=⟨Tryz.f285.name,by decide,Tryz.func285.trans (congrArg some (by kernel_rfl))⟩
 f57:=⟨Tryz.f301.name,by decide,Tryz.func301.trans (congrArg some (by kernel_rfl))⟩
 t0:=Tryz.underlying0
 a0:=Tryz.isAgg0
 z0:=Tryz.sizeOf0
 v0:=Tryz.zeroValue0
 t3:=Tryz.underlying3
 a3:=Tryz.isAgg3
 z3:=Tryz.sizeOf3
 v3:=Tryz.zeroValue3
 t4:=Tryz.underlying4
 a4:=Tryz.isAgg4
 z4:=Tryz.sizeOf4
 v4:=Tryz.zeroValue4
 t5:=Tryz.underlying5
 a5:=Tryz.isAgg5
 z5:=Tryz.sizeOf5
 v5:=Tryz.zeroValue5
 t9:=Tryz.underlying9
 a9:=Tryz.isAgg9
 z9:=Tryz.sizeOf9
 v9:=Tryz.zeroValue9
 t22:=Tryz.underlying163
 a22:=Tryz.isAgg163
 z22:=Tryz.sizeOf163
 v22:=Tryz.zeroValue163
 t25:=Tryz.underlying232
 a25:=Tryz.isAgg232
 z25:=Tryz.sizeOf232
 v25:=Tryz.zeroValue232
 t39:=Tryz.underlying230
 a39:=Tryz.isAgg230
 z39:=Tryz.sizeOf230
 v39:=Tryz.zeroValue230
 t45:=Tryz.underlying268
 a45:=Tryz.isAgg268
 z45:=Tryz.sizeOf268
 v45:=Tryz.zeroValue268
 t46:=Tryz.underlying269
 a46:=Tryz.isAgg269
 z46:=Tryz.sizeOf269
 v46:=Tryz.zeroValue269
 t50:=Tryz.underlying155
 a50:=Tryz.isAgg155
 z50:=Tryz.sizeOf155
 v50:=Tryz.zeroValue155
 t53:=Tryz.underlying276
 a53:=Tryz.isAgg276
 z53:=Tryz.sizeOf276
 v53:=Tryz.zeroValue276
 t55:=Tryz.underlying29
 a55:=Tryz.isAgg29
 z55:=Tryz.sizeOf29
 v55:=Tryz.zeroValue29
 t66:=Tryz.underlying316
 a66:=Tryz.isAgg316
 z66:=Tryz.sizeOf316
 v66:=Tryz.zeroValue316
 t70:=Tryz.underlying320
 a70:=Tryz.isAgg320
 z70:=Tryz.sizeOf320
 v70:=Tryz.zeroValue320
 t76:=Tryz.underlying349
 a76:=Tryz.isAgg349
 z76:=Tryz.sizeOf349
 v76:=Tryz.zeroValue349
 t77:=Tryz.underlying159
 a77:=Tryz.isAgg159
 z77:=Tryz.sizeOf159
 v77:=Tryz.zeroValue159 }
end
end Go.Proofs
namespace Go.Proofs.YteabgcollokgjaaGreatDoor
section
open Go.RowKit Go.Shelf Go.Sort
attribute [local go_sem] wext_cell
section
variable {α:Type} [Inhabited α] {enc:α->List Value} {k:Nat} {d:α}
theorem bang_getD (xs:List α) (j:Nat) (hj:j<xs.length):xs.toArray[j]! =xs.getD j d:=by
 rw [List.getElem!_toArray,zA,zB hj,getElem!_pos xs j hj];rfl
theorem holdsK_of_own (hk:∀ y,(enc y).length=k) (hk0:0<k) {w:World} {base g n cap:Nat} {e:TypeId} {xs:List α} (h:w.ownsRow base e k (.slice (some ⟨g,0,none⟩) n cap) n (xs.flatMap enc)):HoldsK enc k w g 0 xs.toArray:=by
 have hl:=h.1;rw [flat_len hk] at hl;intro j hj;rw [size_flatK] at hj;have hj':j<xs.length*k:=by simpa using hj
 refine ⟨?_,h.frozenAt _⟩;have hq:j / k<xs.length:=by rw [Nat.div_lt_iff_lt_mul hk0];exact hj'
 have hm:j % k<k:=Nat.mod_lt _ hk0;have hdm:j / k*k+j % k=j:=by rw [Nat.mul_comm];exact Nat.div_add_mod j k
 rw [get_flatK _ _ _ _ hj,Nat.zero_add,h.cellAt j (by omega),bang_getD (d:=default) xs _ hq];have h1:=flat_at hk default xs (j / k) (j % k) hq hm;rw [hdm] at h1;rw [h1];have hlt:j % k<(enc (xs.getD (j / k) default)).length:=by rw [hk];exact hm
 rw [zB hlt,getElem!_pos (enc (xs.getD (j / k) default)) (j % k) hlt];rfl
end
end
section
open Go.RowKit Go.Shelf Go.Sort
attribute [local go_sem] wext_cell
abbrev id0:ID:=(0,0)
def RowI (w:World) (g:Nat) (l:List ID):Prop:=∃ cur,IsB w g 31 cur/\l.length*2<=cur.size/\∀ j,j<l.length->cur[j*2]? =some (.int .u64 (l.getD j id0).1)/\cur[j*2+1]? =some (.int .i64 (l.getD j id0).2)
theorem RowI.on {w w':World} {g:Nat} {l:List ID} (h:RowI w g l) (hb:Below w.heap.size w w'):RowI w' g l:=by
 obtain ⟨cur,h1,h2⟩:=h;exact ⟨cur,h1.on hb,h2⟩
theorem RowI.cells {w:World} {g:Nat} {l:List ID} (h:RowI w g l) {j:Nat} (hj:j<l.length) {x:ID} (hx:l.getD j id0=x):w.cell? ⟨g,j*2,none⟩=some (.int .u64 x.1)/\w.cell? ⟨g,j*2+1,none⟩=some (.int .i64 x.2)/\w.frozen? ⟨g,j*2,none⟩=false/\w.frozen? ⟨g,j*2+1,none⟩=false:=by
 obtain ⟨cur,h1,h2,h3⟩:=h;subst hx;exact ⟨(h1.cell _).trans (h3 j hj).1,(h1.cell _).trans (h3 j hj).2,h1.frozen _,h1.frozen _⟩
theorem RowI.put {w:World} {g:Nat} {l:List ID} (h:RowI w g l) (k:Nat) (hk:k<l.length) (x:ID):RowI ((w.setCell ⟨g,k*2,none⟩ (.int .u64 x.1)).setCell ⟨g,k*2+1,none⟩ (.int .i64 x.2)) g (l.set k x):=by
 obtain ⟨cur,h1,h2,h3⟩:=h;refine ⟨_,(h1.set_ (k*2) (.int .u64 x.1)).set_ (k*2+1) (.int .i64 x.2),by simp;omega,fun j hj=>?_⟩;simp only [List.length_set] at hj;obtain ⟨c0,c1⟩:=h3 j hj;by_cases e:k=j
 · subst e;have e1:(l.set k x).getD k id0=x:=by rw [zA,List.getElem?_set_self hk];rfl
   rw [e1];refine ⟨?_,?_⟩
   · rw [Array.getElem?_setIfInBounds_ne (by omega),Array.getElem?_setIfInBounds_self_of_lt (by omega)]
   rw [Array.getElem?_setIfInBounds_self_of_lt (by simp;omega)]
 have e1:(l.set k x).getD j id0=l.getD j id0:=by rw [zA,List.getElem?_set_ne e,zA]
 rw [e1];refine ⟨?_,?_⟩
 · rw [Array.getElem?_setIfInBounds_ne (by omega),Array.getElem?_setIfInBounds_ne (by omega)];exact c0
 rw [Array.getElem?_setIfInBounds_ne (by omega),Array.getElem?_setIfInBounds_ne (by omega)];exact c1
theorem asc_any (x y:ID) (w:World):Calls Tryz.prog 104 #[.agg #[],.agg #[.int .u64 x.1,.int .i64 x.2],.agg #[.int .u64 y.1,.int .i64 y.2]] w fun e w'=>e= .returned (.int .i64 (cmpID x y))/\Below w.heap.size w w':=
 (asc_grow x.1 x.2 y.1 y.2 w).mono fun _ _ ⟨he,q,os,hw⟩=>⟨he,hw ▸ below_grow w q os⟩
def SortedI (l:List ID):Prop:=l.Pairwise (fun a b=>ltID b a=false)
abbrev vAsc:Value:=.func (.func 104) #[.agg #[]] #[]
end
section
open Go.RowKit Go.Shelf Go.Sort
theorem bits_len_any (n:Nat) (w:World) (hn:n<=1000):Calls Tryz.prog 151 #[.int .u64 (n:Int)] w fun e w'=>(∃ k:Int,e= .returned (.int .i64 k))/\w=w':=
 (Tryz.bits_Len n w (by omega) (by omega)).mono fun _ _ h=>⟨⟨_,h.1⟩,h.2.symm⟩
end
section
open Go.RowKit Go.MapKept Go.ChangeMaps Go.Shelf
theorem insN_any (w:World):Calls Tryz.prog 202 #[.slice none 0 0,.int .i64 0,.int .i64 0,vAsc] w (fun e w'=>e= .returned (.tuple #[])/\w=w'):=by
 go_enter Tryz.func202,Tryz.ntmps202;go_wp2_with fail
 refine wp_loop_rounds 1 ?_;rw [rounds_succ];go_wp2_with fail
 go_end0;exact ⟨rfl,rfl⟩
theorem pdqN_any (k:Int) (w:World):Calls Tryz.prog 156 #[.slice none 0 0,.int .i64 0,.int .i64 0,.int .i64 k,vAsc] w (fun e w'=>e= .returned (.tuple #[])/\w=w'):=by
 go_enter Tryz.func156,Tryz.ntmps156;go_wp2_with fail
 refine wp_loop_rounds 1 ?_;rw [rounds_succ];go_wp2_with (go_at_call 202;refine (insN_any _).mono ?_;rintro e w1 ⟨rfl,rfl⟩)
 refine bodyPost_ret (v:=.tuple #[]) (results_none rfl _ _ _) rfl ?_;exact ⟨rfl,rfl⟩
theorem sortN_any (w:World):Calls Tryz.prog 103 #[.slice none 0 0,vAsc] w (fun e w'=>e= .returned (.tuple #[])/\w=w'):=by
 go_enter Tryz.func103,Tryz.ntmps103;go_wp2_with (first | (go_at_call 151;refine (bits_len_any 0 _ (by omega)).mono ?_;rintro e w1 ⟨⟨k,rfl⟩,rfl⟩) | (go_at_call 156;refine (pdqN_any _ _).mono ?_;rintro e w1 ⟨rfl,rfl⟩))
 go_end0;exact ⟨rfl,rfl⟩
end
section
open Go.RowKit Go.Shelf Go.Sort
attribute [local go_sem] wext_cell
def RowA (w:World) (g:Nat) (d:Array ID):Prop:=RowI w g d.toList
theorem getA (d:Array ID) {j:Nat} (h:j<d.size):d.toList.getD j id0=d[j]! :=by
 rw [getElem!_pos d j h,zA,Array.getElem?_toList,Array.getElem?_eq_getElem h];rfl
section
variable {w w':World} {g:Nat} {d:Array ID}
theorem RowA.on (h:RowA w g d) (hb:Below w.heap.size w w'):RowA w' g d:=RowI.on h hb
theorem RowA.at (h:RowA w g d) {j:Nat} (hj:j<d.size) {x:ID} (hx:d[j]! =x):w.cell? ⟨g,j*2,none⟩=some (.int .u64 x.1)/\w.cell? ⟨g,j*2+1,none⟩=some (.int .i64 x.2)/\w.frozen? ⟨g,j*2,none⟩=false/\w.frozen? ⟨g,j*2+1,none⟩=false:=
 RowI.cells h (by simpa using hj) ((getA d hj).trans hx)
theorem swp_list (d:Array ID) {i j:Nat} (hi:i<d.size) (hj:j<d.size):(swp d i j).toList=(d.toList.set i d[j]!).set j d[i]! :=by
 unfold swp;rw [Array.toList_setIfInBounds,Array.toList_setIfInBounds]
theorem RowA.swp (h:RowA w g d) {i j:Nat} (hi:i<d.size) (hj:j<d.size) {x y:ID} (hx:d[i]! =x) (hy:d[j]! =y):
 RowA ((((w.setCell ⟨g,i*2,none⟩ (.int .u64 y.1)).setCell ⟨g,i*2+1,none⟩ (.int .i64 y.2)).setCell ⟨g,j*2,none⟩ (.int .u64 x.1)).setCell ⟨g,j*2+1,none⟩ (.int .i64 x.2)) g (swp d i j):=by
 unfold RowA;rw [swp_list d hi hj,hx,hy];exact RowI.put (RowI.put h i (by simpa using hi) y) j (by simpa using hj) x
theorem gsw {a:World} (h:a.grownBy w (some g)) (i j:Nat) (x y:ID):a.grownBy ((((w.setCell ⟨g,i*2,none⟩ (.int .u64 y.1)).setCell ⟨g,i*2+1,none⟩ (.int .i64 y.2)).setCell ⟨g,j*2,none⟩ (.int .u64 x.1)).setCell ⟨g,j*2+1,none⟩ (.int .i64 x.2)) (some g):=
 g_set (p:=⟨g,j*2+1,none⟩) (g_set (p:=⟨g,j*2,none⟩) (g_set (p:=⟨g,i*2+1,none⟩) (g_set (p:=⟨g,i*2,none⟩) h (.inl rfl) (.int .u64 y.1)) (.inl rfl) (.int .i64 y.2)) (.inl rfl) (.int .u64 x.1)) (.inl rfl) (.int .i64 x.2)
end
abbrev ltA:ID->ID->Bool:=ltOf cmpID
abbrev SortP (a b:Nat) (d:Array ID) (g:Nat) (w:World) (e:Ending) (w':World):Prop:=
 e= .returned (.tuple #[])/\∃ d',PermIn a b d d'/\SortedIn ltA a b d'/\RowA w' g d'/\w.grownBy w' (some g)
theorem insA_any (g c a b:Nat) (d:Array ID) (w:World) (h:RowA w g d) (hab:a<=b) (hb:b<=d.size) (hn:d.size<=1000000) (hg:g<w.heap.size):
 Calls Tryz.prog 202 #[.slice (some ⟨g,0,none⟩) d.size c,.int .i64 a,.int .i64 b,vAsc] w (SortP a b d g w):=by
 have H:=hid h;clear h;go_enter Tryz.func202,Tryz.ntmps202;go_wp2_with fail
 go_loopw [8] (fun v wr=>∃ (i:Nat) (dk:Array ID),a<i/\i<=b+1/\v= .int .i64 (i:Int)/\dk.size=d.size/\Hid (insOuter ltA a b i dk=insOuter ltA a b (a+1) d)/\RowA wr g dk/\w.grownBy wr (some g)) (fun v _=>b+1-(intOf v).toNat)
 case atStart=>exact ⟨a+1,d,by omega,by omega,by go_num,rfl,rfl,H.out,g_refl _ _⟩
 obtain ⟨i,dk,hai,hib,rfl,hsk,HO,hr,hgr⟩:=hrel;have R0:=hid hr;have G0:=hid hgr;clear hr hgr;by_cases hlt:i<b
 · have hlti:(i:Int)<(b:Int):=by omega
   go_wp2_with fail
   go_loopw [9] (fun v wq=>∃ (j:Nat) (dj:Array ID),a<=j/\j<=i/\v= .int .i64 (j:Int)/\dj.size=d.size/\Hid (insInner ltA a j dj=insInner ltA a i dk)/\RowA wq g dj/\w.grownBy wq (some g)) (fun v _=>(intOf v).toNat)
   case atStart=>exact ⟨i,dk,by omega,Nat.le_refl _,rfl,hsk,rfl,R0.out,G0.out⟩
   rename World=>wq;obtain ⟨j,dj,haj,hji,rfl,hsj,HI,hr,hgr⟩:=hrel;have R1:=hid hr;have G1:=hid hgr;clear hr hgr;have hgq:g<wq.heap.size:=Nat.lt_of_lt_of_le hg G1.out.size
   have out:(j<=a∨ltA dj[j]! dj[j-1]! =false)->Hid (insOuter ltA a b (i+1) dj=insOuter ltA a b (a+1) d):=fun hs=>by
    show _=_;rw [<- HO.out,insOuter_go _ _ _ _ _ hlt, <- HI.out,insInner_stop _ _ _ _ hs]
   have OUT:=hid out;clear out;by_cases hja:a<j
   · obtain ⟨m,rfl⟩:∃ m,j=m+1:=⟨j-1,by omega⟩;have hjaz:decide ((a:Int)<(m:Int)+1)=true:=decide_eq_true (by omega);obtain ⟨x,hx⟩:∃ x,dj[m+1]! =x:=⟨_,rfl⟩;obtain ⟨y,hy⟩:∃ y,dj[m]! =y:=⟨_,rfl⟩;obtain ⟨a0,a1,_,_⟩:=R1.out.at (j:=m+1) (by omega) hx;obtain ⟨b0,b1,_,_⟩:=R1.out.at (j:=m) (by omega) hy;have HX:=hid hx;have HY:=hid hy;have k1:(m:Int)+1<(d.size:Int):=by omega
     have k2:(m:Int)<(d.size:Int):=by omega
     clear hx hy;by_cases hc:ltA x y=true
     · have hcm:decide (cmpID x y<0)=true:=hc;have HC:=hid hc;clear hc;go_wp2_with fail
       refine wp_region_ext (by kernel_rfl) (by kernel_rfl) ?_;repeat (go_big_quiet_step ((go_at_call 104;exact ext_call (asc_any x y _))))
       refine wpQuiet_nil ?_;intro w1 hb1;have R2:=hid (R1.out.on hb1);have G2:Hid (w.grownBy w1 (some g)):=g_below G1.out hb1;clear a0 a1 b0 b1 hcm hb1;obtain ⟨a0,a1,a2,a3⟩:=R2.out.at (j:=m+1) (by omega) HX.out;obtain ⟨b0,b1,b2,b3⟩:=R2.out.at (j:=m) (by omega) HY.out;go_wp2_with fail
       go_region
       go_wp2_with fail
       go_roundw
       case rel=>
        refine ⟨m,swp dj (m+1) m,by omega,by omega,by go_num,by rw [size_swp];exact hsj,?_,R2.out.swp (by omega) (by omega) HX.out HY.out,?_⟩
        · rw [Hid, <- HI.out,insInner_go ltA a (m+1) dj hja (by rw [HX.out,show m+1-1=m from rfl,HY.out];exact HC.out)];rfl
        have hgg:=gsw G2.out (m+1) m x y;exact ⟨hgg.os,hgg.tape,hgg.output,hgg.size,hgg.block⟩
       simp [intOf]
     have hcf:ltA x y=false:=by simpa using hc
     have hcm:decide (cmpID x y<0)=false:=hcf;have HC:=hid hcf;clear hc hcf;go_wp2_with fail
     refine wp_region_ext (by kernel_rfl) (by kernel_rfl) ?_;repeat (go_big_quiet_step ((go_at_call 104;exact ext_call (asc_any x y _))))
     refine wpQuiet_nil ?_;intro w1 hb1;have R2:=hid (R1.out.on hb1);have G2:Hid (w.grownBy w1 (some g)):=g_below G1.out hb1;clear a0 a1 b0 b1 hcm hb1;go_wp2_with fail
     go_roundw
     case rel=>exact ⟨i+1,dj,by omega,by omega,by go_num,hsj,OUT.out (.inr (by rw [HX.out,show m+1-1=m from rfl,HY.out];exact HC.out)),R2.out,G2.out⟩
     simp [intOf];omega
   have hjaz:decide ((a:Int)<(j:Int))=false:=decide_eq_false (by omega);go_wp2_with fail
   go_quiet (fail)
   go_wp2_with fail
   go_roundw
   case rel=>exact ⟨i+1,dj,by omega,by omega,by go_num,hsj,OUT.out (.inl (by omega)),R1.out.on (bdrewN (Below.refl _ _) _),g_drewN G1.out _⟩
   simp [intOf];omega
 have hlti:¬ (i:Int)<(b:Int):=by omega
 go_wp2_with fail
 go_end0
 have e:insertionSort ltA d a b=dk:=by
  unfold Sort.insertionSort;rw [<- HO.out,insOuter_stop _ _ _ _ _ hlt]
 have hS:=insertionSort_holds (lt:=ltA) swoID d a b hab hb;rw [e] at hS;exact ⟨rfl,dk,hS.1,hS.2,R0.out,G0.out⟩
end
section
open Go.RowKit Go.Shelf Go.Sort
attribute [local go_sem] wext_cell
abbrev PermP (a b:Nat) (d:Array ID) (g:Nat) (w:World) (e:Ending) (w':World):Prop:=
 e= .returned (.tuple #[])/\∃ d',PermIn a b d d'/\RowA w' g d'/\w.grownBy w' (some g)
theorem perm_swp {a b i j:Nat} {d dk:Array ID} (h:PermIn a b d dk) (hi:a<=i) (hib:i<b) (hj:a<=j) (hjb:j<b) (hb:b<=d.size):PermIn a b d (swp dk i j):=
 permIn_trans _ _ _ _ _ h (swp_permIn _ _ _ _ _ hi hib hj hjb (by rw [h.1];exact hb))
theorem revA_any (g c a b:Nat) (d:Array ID) (w:World) (h:RowA w g d) (hab:a<b) (hb:b<=d.size) (hn:d.size<=1000000) (hg:g<w.heap.size):
 Calls Tryz.prog 206 #[.slice (some ⟨g,0,none⟩) d.size c,.int .i64 a,.int .i64 b,vAsc] w (PermP a b d g w):=by
 have H:=hid h;clear h;obtain ⟨m,rfl⟩:∃ m,b=m+1:=⟨b-1,by omega⟩;go_enter Tryz.func206,Tryz.ntmps206;go_wp2_with fail
 go_loopw [8,9] (fun s8 s9 wr=>∃ (i j:Nat) (dk:Array ID),a<=i/\j<m+1/\i<=j+1/\s8= .int .i64 (i:Int)/\s9= .int .i64 (j:Int)/\Hid (PermIn a (m+1) d dk)/\RowA wr g dk/\w.grownBy wr (some g)) (fun s8 s9 _=>(intOf s9+1-intOf s8).toNat)
 case atStart=>exact ⟨a,m,d,Nat.le_refl _,by omega,by omega,rfl,by go_num,permIn_refl _ _ _,H.out,g_refl _ _⟩
 obtain ⟨i,j,dk,hai,hjm,hij,rfl,rfl,HP,hr,hgr⟩:=hrel;have R0:=hid hr;have G0:=hid hgr;have HSZ:Hid (dk.size=d.size):=HP.out.1;clear hr hgr;by_cases hlt:i<j
 · obtain ⟨q,hq⟩:∃ q,j=q+1:=⟨j-1,by omega⟩;obtain ⟨x,HX⟩:∃ x,Hid (dk[i]! =x):=⟨_,rfl⟩;obtain ⟨y,HY⟩:∃ y,Hid (dk[j]! =y):=⟨_,rfl⟩;have hi:i<d.size:=by omega
   have hj:j<d.size:=by omega
   have HALL:=hid (show a<=i/\j<m+1/\i<j/\j=q+1/\i<dk.size/\j<dk.size by have:=HSZ.out;exact ⟨hai,hjm,hlt,hq,by omega,by omega⟩);have hwq:IntKind.i64.wrap ((j:Int)-1)=(q:Int):=by rw [IntWalk.i64_in _ (by omega)];omega
   have n1:¬ i=j:=by omega
   have n2:¬ j=i:=by omega
   have n3:¬ i*2=j*2+1:=by omega
   have n4:¬ i*2+1=j*2:=by omega
   have n5:¬ j*2=i*2+1:=by omega
   have n6:¬ j*2+1=i*2:=by omega
   obtain ⟨a0,a1,a2,a3⟩:=R0.out.at (j:=i) HALL.out.2.2.2.2.1 HX.out;obtain ⟨b0,b1,b2,b3⟩:=R0.out.at (j:=j) HALL.out.2.2.2.2.2 HY.out;clear hij hjm hai hq;go_upto_region 3 with fail
   go_region
   go_wp2_with fail
   go_roundw
   case rel=>
    obtain ⟨k1,k2,k3,k4,k5,k6⟩:=HALL.out;refine ⟨i+1,q,swp dk i j,by omega,by omega,by omega,by go_num,rfl,perm_swp HP.out k1 (by omega) (by omega) k2 hb,R0.out.swp k5 k6 HX.out HY.out,?_⟩;have hgg:=gsw G0.out i j x y;exact ⟨hgg.os,hgg.tape,hgg.output,hgg.size,hgg.block⟩
   have:=HALL.out;simp [intOf];omega
 have hlt':¬ (i:Int)<(j:Int):=by omega
 go_wp2_with fail
 go_end0;exact ⟨rfl,dk,HP.out,R0.out,G0.out⟩
end
end Go.Proofs.YteabgcollokgjaaGreatDoor
