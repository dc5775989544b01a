/- A range over a function whose rounds all go on; reading in blocks below a bound. Of no program. -/
import Derived.Shelf.Small.Utf8
import Derived.Shelf.Small.Bits
import Derived.Shelf.Small.Strs
import Derived.Shelf.Strconv.Itoa0
import Derived.Shelf.Strings.Search1
import Derived.Shelf.Sort.Plain
import Derived.Shelf.Strings.Runes
import Derived.Shelf.Strings.IndexAny
import Derived.Shelf.Strings.AsciiSet
import Derived.Shelf.Strings.IndexAnyAll
import Derived.Shelf.Slices.Turned
import Derived.Shelf.Slices.Equal
import Derived.Ground.Names2Prog
import Derived.Shelf.Slices.ReverseS
import Derived.Shelf.Slices.Clone
import Derived.Shelf.Slices.CompactI
import Derived.Shelf.Slices.CompactS
import Derived.Shelf.Slices.SearchI
import Derived.Shelf.Slices.Cells
import Derived.Shelf.Slices.In.SortNone
import Derived.Shelf.Slices.Empties2
import Derived.Ground.SlgnProg
import Derived.Shelf.SlicesE.Clone
import Derived.Test.YtabliahkhafddaaGreatProg
import Derived.WalkKit
import Derived.WalkSpells
import Derived.WalkLawsBesides
import Derived.Deep.QuietTactic
import Derived.BigQuiet
import Derived.Lib.Hide
import Derived.WalkSmall
import Derived.Deep.LoopGhost
import Derived.Laws.RangeString
import Derived.Laws.RangeAny
import Derived.Lib.IndexAny
import Derived.Test.YtabliahkhafddaaGreatPc0
import Derived.ChangeSlices
import Derived.ChangeSame
import Derived.ChangeArms
import GoSem.ClaimJoined
import Derived.ProofKit
import Derived.Test.YtabliahkhafddaaGreatPc2
set_option linter.unusedSimpArgs false
noncomputable section
namespace Go.Proofs
open Go.Shelf
def Tryz.lays119_ren:Go.Shelf.Ren:=⟨fun | 119=>406 | n=>n,fun | 21=>21 | 4=>4 | n=>n,fun | n=>n⟩
theorem Tryz.lays119 : Go.Proofs.Lays.n119 Tryz.prog Tryz.lays119_ren := {
 mixed:=by kernel_rfl
 f119:=Tryz.func406.trans (congrArg some (by kernel_rfl))
 t4:=Tryz.underlying4
 a4:=Tryz.isAgg4
 z4:=Tryz.sizeOf4
 v4:=Tryz.zeroValue4
 t21:=Tryz.underlying21
 a21:=Tryz.isAgg21
 z21:=Tryz.sizeOf21
 v21:=Tryz.zeroValue21 }
theorem Tryz.utf8_ValidRune (r:Int) (w:World) :
 Calls Tryz.prog 406 #[.int .i32 r] w fun e w'=>e=.returned (.bool (Lib.validRune r))∧w'=w:=Any.utf8_ValidRune Tryz.lays119 r w
def Tryz.lays137_ren:Go.Shelf.Ren:=⟨fun | 137=>405 | 217=>410 | 266=>412 | n=>n,fun | 9=>9 | 5=>5 | 3=>3 | n=>n,fun | n=>n⟩
theorem Tryz.lays137 : Go.Proofs.Lays.n137 Tryz.prog Tryz.lays137_ren := {
 mixed:=by kernel_rfl
 f137:=Tryz.func405.trans (congrArg some (by kernel_rfl))
 f217:=Tryz.func410.trans (congrArg some (by kernel_rfl))
 f266:=Tryz.func412.trans (congrArg some (by kernel_rfl))
 t3:=Tryz.underlying3
 a3:=Tryz.isAgg3
 z3:=Tryz.sizeOf3
 v3:=Tryz.zeroValue3
 t5:=Tryz.underlying5
 a5:=Tryz.isAgg5
 z5:=Tryz.sizeOf5
 v5:=Tryz.zeroValue5
 t9:=Tryz.underlying9
 a9:=Tryz.isAgg9
 z9:=Tryz.sizeOf9
 v9:=Tryz.zeroValue9 }
open Go.RowKit in
theorem Tryz.strings_IndexByte (s:ByteArray) (c:Int) (w:World) :
 Calls Tryz.prog 405 #[.string s,.int .u8 c] w fun e w'=>e=.returned (.int .i64 (Lib.indexByte s.data.toList c.toNat.toUInt8))∧w'=w:=Any.strings_IndexByte Tryz.lays137 s c w
def Tryz.lays217_ren:Go.Shelf.Ren:=⟨fun | 217=>410 | 266=>412 | n=>n,fun | 9=>9 | 5=>5 | 3=>3 | n=>n,fun | n=>n⟩
theorem Tryz.lays217 : Go.Proofs.Lays.n217 Tryz.prog Tryz.lays217_ren := {
 mixed:=by kernel_rfl
 f217:=Tryz.func410.trans (congrArg some (by kernel_rfl))
 f266:=Tryz.func412.trans (congrArg some (by kernel_rfl))
 t3:=Tryz.underlying3
 a3:=Tryz.isAgg3
 z3:=Tryz.sizeOf3
 v3:=Tryz.zeroValue3
 t5:=Tryz.underlying5
 a5:=Tryz.isAgg5
 z5:=Tryz.sizeOf5
 v5:=Tryz.zeroValue5
 t9:=Tryz.underlying9
 a9:=Tryz.isAgg9
 z9:=Tryz.sizeOf9
 v9:=Tryz.zeroValue9 }
open Go.RowKit Go.Lib in
theorem Tryz.stringslite_IndexByte (s:ByteArray) (c:Int) (w:World) :
 Calls Tryz.prog 410 #[.string s,.int .u8 c] w fun e w'=>e=.returned (.int .i64 (Lib.indexByte s.data.toList c.toNat.toUInt8))∧w'=w:=Any.stringslite_IndexByte Tryz.lays217 s c w
def Tryz.lays189_ren:Go.Shelf.Ren:=⟨fun | 189=>47 | 125=>92 | 257=>91 | 128=>161 | 129=>162 | 294=>152 | 295=>153 | 296=>154 | 297=>155 | 298=>156 | 299=>157 | 216=>158 | 300=>159 | 301=>160 | 328=>230 | 329=>231 | 330=>232 | 331=>233 | 332=>234 | 215=>235 | 343=>289 | n=>n,fun | 28=>27 | 3=>3 | 46=>162 | 0=>0 | 51=>242 | 53=>244 | 4=>4 | 183=>234 | 182=>233 | 131=>239 | 5=>5 | 9=>9 | 218=>291 | 222=>295 | 228=>346 | 229=>347 | n=>n,fun | n=>n⟩
theorem Tryz.lays189 : Go.Proofs.Lays.n189 Tryz.prog Tryz.lays189_ren := {
 mixed:=by kernel_rfl
 f125:=Tryz.func92.trans (congrArg some (by kernel_rfl))
 f128:=Tryz.func161.trans (congrArg some (by kernel_rfl))
 f129:=Tryz.func162.trans (congrArg some (by kernel_rfl))
 f189:=Tryz.func47.trans (congrArg some (by kernel_rfl))
 f215:=Tryz.func235.trans (congrArg some (by kernel_rfl))
 f216:=Tryz.func158.trans (congrArg some (by kernel_rfl))
 f257:=Tryz.func91.trans (congrArg some (by kernel_rfl))
 f294:=Tryz.func152.trans (congrArg some (by kernel_rfl))
 f295:=Tryz.func153.trans (congrArg some (by kernel_rfl))
 f296:=Tryz.func154.trans (congrArg some (by kernel_rfl))
 f297:=Tryz.func155.trans (congrArg some (by kernel_rfl))
 f298:=Tryz.func156.trans (congrArg some (by kernel_rfl))
 f299:=Tryz.func157.trans (congrArg some (by kernel_rfl))
 f300:=Tryz.func159.trans (congrArg some (by kernel_rfl))
 f301:=Tryz.func160.trans (congrArg some (by kernel_rfl))
 f328:=Tryz.func230.trans (congrArg some (by kernel_rfl))
 f329:=Tryz.func231.trans (congrArg some (by kernel_rfl))
 f330:=Tryz.func232.trans (congrArg some (by kernel_rfl))
 f331:=Tryz.func233.trans (congrArg some (by kernel_rfl))
 f332:=Tryz.func234.trans (congrArg some (by kernel_rfl))
 f343:=Tryz.func289.trans (congrArg some (by kernel_rfl))
 t0:=Tryz.underlying0
 a0:=Tryz.isAgg0
 z0:=Tryz.sizeOf0
 v0:=Tryz.zeroValue0
 t3:=Tryz.underlying3
 a3:=Tryz.isAgg3
 z3:=Tryz.sizeOf3
 v3:=Tryz.zeroValue3
 t4:=Tryz.underlying4
 a4:=Tryz.isAgg4
 z4:=Tryz.sizeOf4
 v4:=Tryz.zeroValue4
 t5:=Tryz.underlying5
 a5:=Tryz.isAgg5
 z5:=Tryz.sizeOf5
 v5:=Tryz.zeroValue5
 t9:=Tryz.underlying9
 a9:=Tryz.isAgg9
 z9:=Tryz.sizeOf9
 v9:=Tryz.zeroValue9
 t28:=Tryz.underlying27
 a28:=Tryz.isAgg27
 z28:=Tryz.sizeOf27
 v28:=Tryz.zeroValue27
 t46:=Tryz.underlying162
 a46:=Tryz.isAgg162
 z46:=Tryz.sizeOf162
 v46:=Tryz.zeroValue162
 t51:=Tryz.underlying242
 a51:=Tryz.isAgg242
 z51:=Tryz.sizeOf242
 v51:=Tryz.zeroValue242
 t53:=Tryz.underlying244
 a53:=Tryz.isAgg244
 z53:=Tryz.sizeOf244
 v53:=Tryz.zeroValue244
 t131:=Tryz.underlying239
 a131:=Tryz.isAgg239
 z131:=Tryz.sizeOf239
 v131:=Tryz.zeroValue239
 t182:=Tryz.underlying233
 a182:=Tryz.isAgg233
 z182:=Tryz.sizeOf233
 v182:=Tryz.zeroValue233
 t183:=Tryz.underlying234
 a183:=Tryz.isAgg234
 z183:=Tryz.sizeOf234
 v183:=Tryz.zeroValue234
 t218:=Tryz.underlying291
 a218:=Tryz.isAgg291
 z218:=Tryz.sizeOf291
 v218:=Tryz.zeroValue291
 t222:=Tryz.underlying295
 a222:=Tryz.isAgg295
 z222:=Tryz.sizeOf295
 v222:=Tryz.zeroValue295
 t228:=Tryz.underlying346
 a228:=Tryz.isAgg346
 z228:=Tryz.sizeOf346
 v228:=Tryz.zeroValue346
 t229:=Tryz.underlying347
 a229:=Tryz.isAgg347
 z229:=Tryz.sizeOf347
 v229:=Tryz.zeroValue347 }
open Go.Sort Go.RowKit in
theorem Tryz.slices_Sort_int (blk off cap:Nat) (zs:List Int) (w:World) (hH:Holds (Value.int .i64) w blk off zs.toArray) (hblk:blk<w.heap.size) (hsz:zs.length<4611686018427387904) :
 Calls Tryz.prog 47 #[.slice (some ⟨blk,off,none⟩) zs.length cap] w fun e w' =>
  e=.returned (.tuple #[])∧∃ n os,w'=grow (putRow (Value.int .i64) (Sort.ahead w n) blk off (zs.mergeSort fun x y=>decide (x≤y)).toArray) os:=Any.slices_Sort_int Tryz.lays189 blk off cap zs w hH hblk hsz
def Tryz.lays190_ren:Go.Shelf.Ren:=⟨fun | 190=>336 | 125=>92 | 258=>358 | 128=>161 | 129=>162 | 302=>373 | 303=>374 | 304=>375 | 305=>376 | 306=>377 | 307=>378 | 308=>293 | 309=>379 | 310=>380 | 333=>393 | 329=>231 | 330=>232 | 334=>394 | 335=>395 | 336=>331 | 344=>401 | n=>n,fun | 31=>46 | 9=>9 | 3=>3 | 46=>162 | 0=>0 | 51=>242 | 53=>244 | 4=>4 | 183=>234 | 182=>233 | 131=>239 | 5=>5 | 218=>291 | 222=>295 | 228=>346 | 229=>347 | n=>n,fun | n=>n⟩
theorem Tryz.lays190 : Go.Proofs.Lays.n190 Tryz.prog Tryz.lays190_ren := {
 mixed:=by kernel_rfl
 f125:=Tryz.func92.trans (congrArg some (by kernel_rfl))
 f128:=Tryz.func161.trans (congrArg some (by kernel_rfl))
 f129:=Tryz.func162.trans (congrArg some (by kernel_rfl))
 f190:=Tryz.func336.trans (congrArg some (by kernel_rfl))
 f258:=Tryz.func358.trans (congrArg some (by kernel_rfl))
 f302:=Tryz.func373.trans (congrArg some (by kernel_rfl))
 f303:=Tryz.func374.trans (congrArg some (by kernel_rfl))
 f304:=Tryz.func375.trans (congrArg some (by kernel_rfl))
 f305:=Tryz.func376.trans (congrArg some (by kernel_rfl))
 f306:=Tryz.func377.trans (congrArg some (by kernel_rfl))
 f307:=Tryz.func378.trans (congrArg some (by kernel_rfl))
 f308:=Tryz.func293.trans (congrArg some (by kernel_rfl))
 f309:=Tryz.func379.trans (congrArg some (by kernel_rfl))
 f310:=Tryz.func380.trans (congrArg some (by kernel_rfl))
 f329:=Tryz.func231.trans (congrArg some (by kernel_rfl))
 f330:=Tryz.func232.trans (congrArg some (by kernel_rfl))
 f333:=Tryz.func393.trans (congrArg some (by kernel_rfl))
 f334:=Tryz.func394.trans (congrArg some (by kernel_rfl))
 f335:=Tryz.func395.trans (congrArg some (by kernel_rfl))
 f336:=Tryz.func331.trans (congrArg some (by kernel_rfl))
 f344:=Tryz.func401.trans (congrArg some (by kernel_rfl))
 t0:=Tryz.underlying0
 a0:=Tryz.isAgg0
 z0:=Tryz.sizeOf0
 v0:=Tryz.zeroValue0
 t3:=Tryz.underlying3
 a3:=Tryz.isAgg3
 z3:=Tryz.sizeOf3
 v3:=Tryz.zeroValue3
 t4:=Tryz.underlying4
 a4:=Tryz.isAgg4
 z4:=Tryz.sizeOf4
 v4:=Tryz.zeroValue4
 t5:=Tryz.underlying5
 a5:=Tryz.isAgg5
 z5:=Tryz.sizeOf5
 v5:=Tryz.zeroValue5
 t9:=Tryz.underlying9
 a9:=Tryz.isAgg9
 z9:=Tryz.sizeOf9
 v9:=Tryz.zeroValue9
 t31:=Tryz.underlying46
 a31:=Tryz.isAgg46
 z31:=Tryz.sizeOf46
 v31:=Tryz.zeroValue46
 t46:=Tryz.underlying162
 a46:=Tryz.isAgg162
 z46:=Tryz.sizeOf162
 v46:=Tryz.zeroValue162
 t51:=Tryz.underlying242
 a51:=Tryz.isAgg242
 z51:=Tryz.sizeOf242
 v51:=Tryz.zeroValue242
 t53:=Tryz.underlying244
 a53:=Tryz.isAgg244
 z53:=Tryz.sizeOf244
 v53:=Tryz.zeroValue244
 t131:=Tryz.underlying239
 a131:=Tryz.isAgg239
 z131:=Tryz.sizeOf239
 v131:=Tryz.zeroValue239
 t182:=Tryz.underlying233
 a182:=Tryz.isAgg233
 z182:=Tryz.sizeOf233
 v182:=Tryz.zeroValue233
 t183:=Tryz.underlying234
 a183:=Tryz.isAgg234
 z183:=Tryz.sizeOf234
 v183:=Tryz.zeroValue234
 t218:=Tryz.underlying291
 a218:=Tryz.isAgg291
 z218:=Tryz.sizeOf291
 v218:=Tryz.zeroValue291
 t222:=Tryz.underlying295
 a222:=Tryz.isAgg295
 z222:=Tryz.sizeOf295
 v222:=Tryz.zeroValue295
 t228:=Tryz.underlying346
 a228:=Tryz.isAgg346
 z228:=Tryz.sizeOf346
 v228:=Tryz.zeroValue346
 t229:=Tryz.underlying347
 a229:=Tryz.isAgg347
 z229:=Tryz.sizeOf347
 v229:=Tryz.zeroValue347 }
open Go.Sort Go.RowKit in
theorem Tryz.slices_Sort_string (blk off cap:Nat) (ss:List (List UInt8)) (w:World) (hH:Holds encStr w blk off ss.toArray) (hblk:blk<w.heap.size) (hsz:ss.length<4611686018427387904) :
 Calls Tryz.prog 336 #[.slice (some ⟨blk,off,none⟩) ss.length cap] w fun e w' =>
  e=.returned (.tuple #[])∧∃ n os,w'=grow (putRow encStr (Sort.ahead w n) blk off (ss.mergeSort fun x y=>decide (x≤y)).toArray) os:=Any.slices_Sort_string Tryz.lays190 blk off cap ss w hH hblk hsz
def Tryz.lays152_ren:Go.Shelf.Ren:=⟨fun | 152=>398 | 137=>405 | 119=>406 | 224=>407 | 225=>408 | 217=>410 | 266=>412 | n=>n,fun | 9=>9 | 21=>21 | 3=>3 | 4=>4 | 5=>5 | 0=>0 | 46=>162 | n=>n,fun | n=>n⟩
theorem Tryz.lays152 : Go.Proofs.Lays.n152 Tryz.prog Tryz.lays152_ren := {
 mixed:=by kernel_rfl
 f119:=Tryz.func406.trans (congrArg some (by kernel_rfl))
 f137:=Tryz.func405.trans (congrArg some (by kernel_rfl))
 f152:=Tryz.func398.trans (congrArg some (by kernel_rfl))
 f217:=Tryz.func410.trans (congrArg some (by kernel_rfl))
 f224:=Tryz.func407.trans (congrArg some (by kernel_rfl))
 f225:=Tryz.func408.trans (congrArg some (by kernel_rfl))
 f266:=Tryz.func412.trans (congrArg some (by kernel_rfl))
 t0:=Tryz.underlying0
 a0:=Tryz.isAgg0
 z0:=Tryz.sizeOf0
 v0:=Tryz.zeroValue0
 t3:=Tryz.underlying3
 a3:=Tryz.isAgg3
 z3:=Tryz.sizeOf3
 v3:=Tryz.zeroValue3
 t4:=Tryz.underlying4
 a4:=Tryz.isAgg4
 z4:=Tryz.sizeOf4
 v4:=Tryz.zeroValue4
 t5:=Tryz.underlying5
 a5:=Tryz.isAgg5
 z5:=Tryz.sizeOf5
 v5:=Tryz.zeroValue5
 t9:=Tryz.underlying9
 a9:=Tryz.isAgg9
 z9:=Tryz.sizeOf9
 v9:=Tryz.zeroValue9
 t21:=Tryz.underlying21
 a21:=Tryz.isAgg21
 z21:=Tryz.sizeOf21
 v21:=Tryz.zeroValue21
 t46:=Tryz.underlying162
 a46:=Tryz.isAgg162
 z46:=Tryz.sizeOf162
 v46:=Tryz.zeroValue162 }
open Go.RowKit Go.Lib in
theorem Tryz.strings_IndexRune_ascii (s:ByteArray) (r:Int) (w:World) (h0:0≤r) (h1:r<128) :
 Calls Tryz.prog 398 #[.string s,.int .i32 r] w fun e w'=>e=.returned (.int .i64 (Lib.indexByte s.data.toList r.toNat.toUInt8))∧w'=w:=Any.strings_IndexRune_ascii Tryz.lays152 s r w h0 h1
def Tryz.lays151_ren:Go.Shelf.Ren:=⟨fun | 151=>385 | 152=>398 | 137=>405 | 119=>406 | 224=>407 | 225=>408 | 217=>410 | 266=>412 | n=>n,fun | 9=>9 | 21=>21 | 4=>4 | 3=>3 | 5=>5 | 0=>0 | 46=>162 | n=>n,fun | n=>n⟩
theorem Tryz.lays151 : Go.Proofs.Lays.n151 Tryz.prog Tryz.lays151_ren := {
 mixed:=by kernel_rfl
 f119:=Tryz.func406.trans (congrArg some (by kernel_rfl))
 f137:=Tryz.func405.trans (congrArg some (by kernel_rfl))
 f151:=Tryz.func385.trans (congrArg some (by kernel_rfl))
 f152:=Tryz.func398.trans (congrArg some (by kernel_rfl))
 f217:=Tryz.func410.trans (congrArg some (by kernel_rfl))
 f224:=Tryz.func407.trans (congrArg some (by kernel_rfl))
 f225:=Tryz.func408.trans (congrArg some (by kernel_rfl))
 f266:=Tryz.func412.trans (congrArg some (by kernel_rfl))
 t0:=Tryz.underlying0
 a0:=Tryz.isAgg0
 z0:=Tryz.sizeOf0
 v0:=Tryz.zeroValue0
 t3:=Tryz.underlying3
 a3:=Tryz.isAgg3
 z3:=Tryz.sizeOf3
 v3:=Tryz.zeroValue3
 t4:=Tryz.underlying4
 a4:=Tryz.isAgg4
 z4:=Tryz.sizeOf4
 v4:=Tryz.zeroValue4
 t5:=Tryz.underlying5
 a5:=Tryz.isAgg5
 z5:=Tryz.sizeOf5
 v5:=Tryz.zeroValue5
 t9:=Tryz.underlying9
 a9:=Tryz.isAgg9
 z9:=Tryz.sizeOf9
 v9:=Tryz.zeroValue9
 t21:=Tryz.underlying21
 a21:=Tryz.isAgg21
 z21:=Tryz.sizeOf21
 v21:=Tryz.zeroValue21
 t46:=Tryz.underlying162
 a46:=Tryz.isAgg162
 z46:=Tryz.sizeOf162
 v46:=Tryz.zeroValue162 }
open Go.RowKit Go.Lib in
theorem Tryz.strings_ContainsRune_ascii (s:ByteArray) (r:Int) (w:World) (h0:0≤r) (h1:r<128) :
 Calls Tryz.prog 385 #[.string s,.int .i32 r] w fun e w'=>e=.returned (.bool (decide (0≤Lib.indexByte s.data.toList r.toNat.toUInt8)))∧w'=w:=Any.strings_ContainsRune_ascii Tryz.lays151 s r w h0 h1
def Tryz.lays226_ren:Go.Shelf.Ren:=⟨fun | 226=>402 | n=>n,fun | 3=>3 | 4=>4 | n=>n,fun | n=>n⟩
theorem Tryz.lays226 : Go.Proofs.Lays.n226 Tryz.prog Tryz.lays226_ren := {
 mixed:=by kernel_rfl
 f226:=Tryz.func402.trans (congrArg some (by kernel_rfl))
 t3:=Tryz.underlying3
 a3:=Tryz.isAgg3
 z3:=Tryz.sizeOf3
 v3:=Tryz.zeroValue3
 t4:=Tryz.underlying4
 a4:=Tryz.isAgg4
 z4:=Tryz.sizeOf4
 v4:=Tryz.zeroValue4 }
open Go.RowKit Go.Lib in
theorem Tryz.strings_shouldUseASCIISet (n:Int) (w:World) :
 Calls Tryz.prog 402 #[.int .i64 n] w fun e w'=>e=.returned (.bool (decide (8<n)))∧w'=w:=Any.strings_shouldUseASCIISet Tryz.lays226 n w
def Tryz.lays153_ren:Go.Shelf.Ren:=⟨fun | 153=>397 | 152=>398 | 226=>402 | 227=>403 | 228=>404 | 137=>405 | 119=>406 | 224=>407 | 225=>408 | 217=>410 | 266=>412 | n=>n,fun | 9=>9 | 3=>3 | 4=>4 | 5=>5 | 21=>21 | 117=>434 | 116=>433 | 0=>0 | 46=>162 | 124=>439 | n=>n,fun | n=>n⟩
theorem Tryz.lays153 : Go.Proofs.Lays.n153 Tryz.prog Tryz.lays153_ren := {
 mixed:=by kernel_rfl
 f119:=Tryz.func406.trans (congrArg some (by kernel_rfl))
 f137:=Tryz.func405.trans (congrArg some (by kernel_rfl))
 f152:=Tryz.func398.trans (congrArg some (by kernel_rfl))
 f153:=Tryz.func397.trans (congrArg some (by kernel_rfl))
 f217:=Tryz.func410.trans (congrArg some (by kernel_rfl))
 f224:=Tryz.func407.trans (congrArg some (by kernel_rfl))
 f225:=Tryz.func408.trans (congrArg some (by kernel_rfl))
 f226:=Tryz.func402.trans (congrArg some (by kernel_rfl))
 f227:=Tryz.func403.trans (congrArg some (by kernel_rfl))
 f228:=Tryz.func404.trans (congrArg some (by kernel_rfl))
 f266:=Tryz.func412.trans (congrArg some (by kernel_rfl))
 t0:=Tryz.underlying0
 a0:=Tryz.isAgg0
 z0:=Tryz.sizeOf0
 v0:=Tryz.zeroValue0
 t3:=Tryz.underlying3
 a3:=Tryz.isAgg3
 z3:=Tryz.sizeOf3
 v3:=Tryz.zeroValue3
 t4:=Tryz.underlying4
 a4:=Tryz.isAgg4
 z4:=Tryz.sizeOf4
 v4:=Tryz.zeroValue4
 t5:=Tryz.underlying5
 a5:=Tryz.isAgg5
 z5:=Tryz.sizeOf5
 v5:=Tryz.zeroValue5
 t9:=Tryz.underlying9
 a9:=Tryz.isAgg9
 z9:=Tryz.sizeOf9
 v9:=Tryz.zeroValue9
 t21:=Tryz.underlying21
 a21:=Tryz.isAgg21
 z21:=Tryz.sizeOf21
 v21:=Tryz.zeroValue21
 t46:=Tryz.underlying162
 a46:=Tryz.isAgg162
 z46:=Tryz.sizeOf162
 v46:=Tryz.zeroValue162
 t116:=Tryz.underlying433
 a116:=Tryz.isAgg433
 z116:=Tryz.sizeOf433
 t117:=Tryz.underlying434
 a117:=Tryz.isAgg434
 z117:=Tryz.sizeOf434
 v117:=Tryz.zeroValue434
 t124:=Tryz.underlying439
 a124:=Tryz.isAgg439
 z124:=Tryz.sizeOf439
 v124:=Tryz.zeroValue439 }
open Go.RowKit Go.Lib in
theorem Tryz.strings_IndexAny_long (hv116:∀ w,(zeroValue 433).run Tryz.prog w=.ok (.agg (Array.replicate 256 (.bool false))) w) (s chars:ByteArray) (w:World) (h2:2≤chars.size) (h8:8<s.size) (hs:s.size<4294967281) (hcs:chars.size<4294967281) (hascii:∀ (j:Nat) b,chars.data.toList[j]?=some b→b.toNat<128) :
 Calls Tryz.prog 397 #[.string s,.string chars] w fun e w'=>e=.returned (.int .i64 (Lib.indexAny s.data.toList chars.data.toList))∧w'=((w.alloc (.cells (Lib.setCells chars.data.toList) 433)).alloc (.cells (Lib.setCells chars.data.toList) 433)):=Any.strings_IndexAny_long Tryz.lays153 hv116 (by kernel_rfl) s chars w h2 h8 hs hcs hascii
def Tryz.lays110_ren:Go.Shelf.Ren:=⟨fun | 110=>187 | 109=>252 | n=>n,fun | 31=>46 | 9=>9 | 4=>4 | 3=>3 | 0=>0 | n=>n,fun | n=>n⟩
theorem Tryz.lays110 : Go.Proofs.Lays.n110 Tryz.prog Tryz.lays110_ren := {
 mixed:=by kernel_rfl
 f109:=Tryz.func252.trans (congrArg some (by kernel_rfl))
 f110:=Tryz.func187.trans (congrArg some (by kernel_rfl))
 t0:=Tryz.underlying0
 a0:=Tryz.isAgg0
 z0:=Tryz.sizeOf0
 v0:=Tryz.zeroValue0
 t3:=Tryz.underlying3
 a3:=Tryz.isAgg3
 z3:=Tryz.sizeOf3
 v3:=Tryz.zeroValue3
 t4:=Tryz.underlying4
 a4:=Tryz.isAgg4
 z4:=Tryz.sizeOf4
 v4:=Tryz.zeroValue4
 t9:=Tryz.underlying9
 a9:=Tryz.isAgg9
 z9:=Tryz.sizeOf9
 v9:=Tryz.zeroValue9
 t31:=Tryz.underlying46
 a31:=Tryz.isAgg46
 z31:=Tryz.sizeOf46
 v31:=Tryz.zeroValue46 }
open Go.Lib in
theorem Tryz.slices_Contains_string (b off n c:Nat) (zs:List ByteArray) (x:ByteArray) (w:World) (hz:n≤zs.length) (hbig:n≤9223372036854775807) (hc:∀ j,j<zs.length→w.cell? ⟨b,off+j,none⟩=some (.string (zs.getD j ByteArray.empty))) :
 Calls Tryz.prog 187 #[.slice (some ⟨b,off,none⟩) n c,.string x] w fun e w'=>e=.returned (.bool (Lib.containsS (zs.take n) x))∧w'=w:=Any.slices_Contains_string Tryz.lays110 b off n c zs x w hz hbig hc
open Go.Lib in
theorem Tryz.slices_Contains_string_empty (a:Option Addr) (c:Nat) (x:ByteArray) (w:World) :
 Calls Tryz.prog 187 #[.slice a 0 c,.string x] w fun e w'=>e=.returned (.bool false)∧w'=w:=Any.slices_Contains_string_empty Tryz.lays110 a c x w
def Tryz.laysNm220_ren:Go.Shelf.Ren:=⟨fun | 20=>48 | n=>n,fun | 22=>27 | 3=>3 | 4=>4 | 0=>0 | n=>n,fun | n=>n⟩
theorem Tryz.laysNm220 : Go.Proofs.Lays2.n20 Tryz.prog Tryz.laysNm220_ren := {
 mixed:=by kernel_rfl
 f20:=Tryz.func48.trans (congrArg some (by kernel_rfl))
 t0:=Tryz.underlying0
 a0:=Tryz.isAgg0
 z0:=Tryz.sizeOf0
 v0:=Tryz.zeroValue0
 t3:=Tryz.underlying3
 a3:=Tryz.isAgg3
 z3:=Tryz.sizeOf3
 v3:=Tryz.zeroValue3
 t4:=Tryz.underlying4
 a4:=Tryz.isAgg4
 z4:=Tryz.sizeOf4
 v4:=Tryz.zeroValue4
 t22:=Tryz.underlying27
 a22:=Tryz.isAgg27
 z22:=Tryz.sizeOf27
 v22:=Tryz.zeroValue27
 i3:=by kernel_rfl }
open Go.RowKit Go.Lib Go.Sort in
theorem Tryz.slices_Compact_int (blk off cap:Nat) (zs:List Int) (w:World) (hH:Holds (Value.int .i64) w blk off zs.toArray) (hsz:zs.length≤9223372036854775807) (hcap:zs.length≤cap) :
 Calls Tryz.prog 48 #[.slice (some ⟨blk,off,none⟩) zs.length cap] w fun e w'=>e=.returned (.slice (some ⟨blk,off,none⟩) (Lib.compact zs).length cap)∧∃ q,w'=putRow (Value.int .i64) (Sort.ahead w q) blk off (Lib.compact zs++List.replicate (zs.length - (Lib.compact zs).length) 0).toArray:=Any.slices_Compact_int Tryz.laysNm220 blk off cap zs w hH hsz hcap
open Go.RowKit Go.Lib Go.Sort in
theorem Tryz.slices_Compact_int_empty (a:Option Addr) (cap:Nat) (w:World) :
 Calls Tryz.prog 48 #[.slice a 0 cap] w fun e w'=>e=.returned (.slice a 0 cap)∧w'=w:=Any.slices_Compact_int_empty Tryz.laysNm220 a cap w
def Tryz.lays194_ren:Go.Shelf.Ren:=⟨fun | 194=>301 | n=>n,fun | 31=>46 | 9=>9 | 3=>3 | 4=>4 | 0=>0 | n=>n,fun | n=>n⟩
theorem Tryz.lays194 : Go.Proofs.Lays.n194 Tryz.prog Tryz.lays194_ren := {
 mixed:=by kernel_rfl
 f194:=Tryz.func301.trans (congrArg some (by kernel_rfl))
 t0:=Tryz.underlying0
 a0:=Tryz.isAgg0
 z0:=Tryz.sizeOf0
 v0:=Tryz.zeroValue0
 t3:=Tryz.underlying3
 a3:=Tryz.isAgg3
 z3:=Tryz.sizeOf3
 v3:=Tryz.zeroValue3
 t4:=Tryz.underlying4
 a4:=Tryz.isAgg4
 z4:=Tryz.sizeOf4
 v4:=Tryz.zeroValue4
 t9:=Tryz.underlying9
 a9:=Tryz.isAgg9
 z9:=Tryz.sizeOf9
 v9:=Tryz.zeroValue9
 t31:=Tryz.underlying46
 a31:=Tryz.isAgg46
 z31:=Tryz.sizeOf46
 v31:=Tryz.zeroValue46 }
open Go.RowKit Go.Lib Go.Sort in
theorem Tryz.slices_Compact_string (blk off cap:Nat) (zs:List (List UInt8)) (w:World) (hH:Holds encStr w blk off zs.toArray) (hsz:zs.length≤9223372036854775807) (hcap:zs.length≤cap) :
 Calls Tryz.prog 301 #[.slice (some ⟨blk,off,none⟩) zs.length cap] w fun e w'=>e=.returned (.slice (some ⟨blk,off,none⟩) (Lib.compact zs).length cap)∧∃ q,w'=putRow encStr (Sort.ahead w q) blk off (Lib.compact zs++List.replicate (zs.length - (Lib.compact zs).length) []).toArray:=Any.slices_Compact_string Tryz.lays194 blk off cap zs w hH hsz hcap
open Go.RowKit Go.Lib Go.Sort in
theorem Tryz.slices_Compact_string_empty (a:Option Addr) (cap:Nat) (w:World) :
 Calls Tryz.prog 301 #[.slice a 0 cap] w fun e w'=>e=.returned (.slice a 0 cap)∧w'=w:=Any.slices_Compact_string_empty Tryz.lays194 a cap w
open Go.RowKit Go.Sort in
theorem Tryz.slices_Sort_string_none (p:Option Addr) (cap:Nat) (w:World) :
 Calls Tryz.prog 336 #[.slice p 0 cap] w fun e w'=>e=.returned (.tuple #[])∧w'=w:=Any.slices_Sort_string_none Tryz.lays190 p cap w
open Go.RowKit Go.Sort in
theorem Tryz.slices_Sort_int_none (p:Option Addr) (cap:Nat) (w:World) :
 Calls Tryz.prog 47 #[.slice p 0 cap] w fun e w'=>e=.returned (.tuple #[])∧w'=w:=Any.slices_Sort_int_none Tryz.lays189 p cap w
end Go.Proofs
namespace Go.Proofs.YtabliahkhafddaaGreat
open Go.RowKit
abbrev Str:=List UInt8
def bs (l:Str):ByteArray:=⟨l.toArray⟩
theorem cell_lt {w:World} {a:Addr} {v:Value} (h:w.cell? a=some v):a.block<w.heap.size:=by
 unfold World.cell? at h
 split at h
 ·rename_i hh;exact (Array.getElem?_eq_some_iff.1 hh).1
 ·cases h
theorem bup {a b c:World} (h:Below a.heap.size a b) (k:Below b.heap.size b c):Below a.heap.size a c :=
 h.trans (k.mono h.size)
theorem u8_beq (c d:UInt8):(c==d)=((c.toNat:Int)==(d.toNat:Int)):=by
 by_cases h:c=d
 ·subst h;simp
 ·have h2:c.toNat≠d.toNat:=fun e=>h (UInt8.toNat_inj.1 e)
  have h3:(c.toNat:Int)≠(d.toNat:Int):=by omega
  rw [beq_eq_false_iff_ne.2 h,beq_eq_false_iff_ne.2 h3]
theorem ba_len (s:ByteArray):s.data.toList.length=s.size:=by rw [Array.length_toList];rfl
theorem all_take_succ (p:UInt8→Bool) (s:ByteArray) (k:Nat) (h:k<s.size):(s.data.toList.take (k+1)).all p=((s.data.toList.take k).all p&&p s[k]):=by
 rw [List.take_succ_eq_append_getElem (by rw [ba_len];exact h),List.all_append];simp
 rfl
theorem all_false_at (p:UInt8→Bool) (s:ByteArray) (k:Nat) (h:k<s.size) (hp:p s[k]=false):s.data.toList.all p=false:=by
 rw [List.all_eq_false];exact ⟨s[k],by have:s[k]=s.data.toList[k]'(by rw [ba_len];exact h):=rfl;rw [this];exact List.getElem_mem _,by simp [hp]⟩
theorem take_all (s:ByteArray) (k:Nat) (h:¬k<s.size):s.data.toList.take k=s.data.toList:=List.take_of_length_le (by rw [ba_len];omega)
theorem bs_toList (l:Str):(bs l).toList=l:=by rw [ByteArray.toList_eq];rfl
theorem ret_bool {a b:Bool} (h:a=b):Ending.returned (.bool a)=.returned (.bool b):=by rw [h]
theorem Q2z {w w':World} {a:Addr} {v:Value} (h:w.cell? a=some v) (hb:Below w.heap.size w w'):w'.cell? a=some v:=by
 rw [hb.cell (cell_lt h)];exact h
theorem map_take_succ {α β:Type} (f:α→β) (l:List α) (k:Nat) (h:k<l.length):(l.take (k+1)).map f=(l.take k).map f++[f l[k]]:=by
 rw [List.take_succ_eq_append_getElem h,List.map_append];rfl
theorem Q0h (w:World) (o:Obj):Below w.heap.size w (w.alloc o):=(Below.refl _ w).alloc (Nat.le_refl _) o
theorem heap_al_new (w:World) (o:Obj):(w.alloc o).heap[w.heap.size]?=some o:=by
 show (w.heap.push o)[w.heap.size]?=_;simp
set_option maxHeartbeats 4000000 in
set_option maxRecDepth 1000000 in
theorem irune_err (s:ByteArray) (w:World) (ha:∀ (i:Nat) (h:i<s.size),(s[i]'h).toNat<128) :
 Calls Tryz.prog 398 #[.string s,.int .i32 65533] w fun e w'=>e=.returned (.int .i64 (-1))∧Below w.heap.size w w':=by
 have HA:=Lib.hid ha;clear ha
 go_enter Tryz.func398,Tryz.ntmps398
 go_wp2
 go_loopg [5,6] s.size (fun g _ _ wx=>∃ i:Nat,i+g=s.size∧wx=w.iter s i)
 case atStart=>exact ⟨0,by omega,rfl⟩
 case round =>
  obtain ⟨i,hig,rfl⟩:=hrel
  cases gk with
  | zero =>
    obtain rfl:i=s.size:=by omega
    have hnx:=run_next_end (P:=Tryz.prog) w s s.size
    go_wp2
    go_ret
    exact ⟨rfl,Q0h _ _⟩
  | succ g =>
    have hi:i<s.size:=by omega
    have hx128:=HA.out i hi;have hnx:=fun ty=>run_next_ascii (P:=Tryz.prog) w s i ty hi hx128;have hne:((s[i].toNat:Int)==65533)=false:=beq_eq_false_iff_ne.2 (by omega)
    go_wp2
    go_roundg g
    case measure=>omega
    case rel=>exact ⟨i+1,by omega,rfl⟩
set_option maxHeartbeats 4000000 in
set_option maxRecDepth 1000000 in
theorem irune_bad (s:ByteArray) (r:Int) (w:World) (h1:128≤r) (h2:r≠65533) (h3:Lib.validRune r=false) :
 Calls Tryz.prog 398 #[.string s,.int .i32 r] w fun e w'=>e=.returned (.int .i64 (-1))∧Below w.heap.size w w':=by
 have hne:(r==65533)=false:=beq_eq_false_iff_ne.2 h2;clear h2
 go_enter Tryz.func398,Tryz.ntmps398
 go_wp2_with fail
 refine (Tryz.utf8_ValidRune _ _).mono ?_;rintro e w' ⟨rfl,rfl⟩;rw [h3]
 go_wp2
 go_ret
 exact ⟨rfl,Below.refl _ _⟩
theorem valid_eq (r:Int):Utf8.valid r=Lib.validRune r:=by
 unfold Utf8.valid Lib.validRune;rw [Bool.eq_iff_iff];simp only [Bool.or_eq_true,Bool.and_eq_true,decide_eq_true_eq];omega
theorem idx_none (l:Str) (c:UInt8) (h:∀ b∈l,b≠c):Lib.indexByte l c=-1:=by
 induction l with
 | nil=>rfl
 | cons b l ih =>
   have h1:(b==c)=false:=beq_eq_false_iff_ne.2 (h b (by simp));have h2:=ih fun x hx=>h x (by simp [hx]);rw [Lib.indexByte,if_neg (by simp [h1]),h2];rfl
set_option maxHeartbeats 4000000 in
set_option maxRecDepth 1000000 in
theorem irune_good (s:ByteArray) (r:Int) (w:World) (hs:s.size≤1000000) (h4:4≤s.size) (ha:∀ (i:Nat) (h:i<s.size),(s[i]'h).toNat<128) (h1:128≤r) (h2:r≠65533) (h3:Lib.validRune r=true) :
 Calls Tryz.prog 398 #[.string s,.int .i32 r] w fun e w'=>e=.returned (.int .i64 (-1))∧Below w.heap.size w w':=by
 have hne:(r==65533)=false:=beq_eq_false_iff_ne.2 h2;clear h2;obtain ⟨f1,f2,f3⟩:=encode_facts r ((valid_eq r).trans h3) h1;have hcv:=fun w=>run_convert_int_string (P:=Tryz.prog) w 21 9 .i32 r (by kernel_rfl) Tryz.underlying9;generalize Utf8.encode r=rs at *;obtain ⟨n,hn⟩:∃ n,rs.size=n+1:=⟨rs.size - 1,by omega⟩;have hnl:n<rs.size:=by omega
 have hns:n<s.size:=by omega
 have f4:128≤rs[n].toNat:=by
  have e:rs.size - 1=n:=by omega
  have:=f3 (by omega);simpa only [e] using this
 have f5:=ha n hns;have hib:∀ w:World,Calls Tryz.prog 405 #[.string (s.extract (n+1) s.size),.int .u8 (rs[n].toNat:Int)] w fun e w'=>e=.returned (.int .i64 (-1))∧w'=w:=fun w=>by
  have h:=Tryz.strings_IndexByte (s.extract (n+1) s.size) (rs[n].toNat:Int) w;rw [idx_none _ _ ?_] at h
  ·exact h
  ·intro b hb
   rw [Lib.extract_data] at hb;have hb2:=List.mem_of_mem_drop (List.mem_of_mem_take hb);obtain ⟨j,hj,e⟩:=List.getElem_of_mem hb2;have hj2:j<s.size:=by rw [ba_len] at hj;exact hj
   have:=ha j hj2;have e2:s[j]=b:=e;rw [e2] at this;intro e3;rw [e3] at this;simp at this;omega
 have hnz:((s[n].toNat:Int) != (rs[n].toNat:Int))=true:=by rw [bne_iff_ne];omega
 have b1:(0:Int)≤(n:Int):=by omega
 have b2:(n:Int)<(s.size:Int):=by omega
 have b3:(n:Int)<(rs.size:Int):=by omega
 clear ha f3 f1 f4 f5;have HIB:=Lib.hid hib;clear hib
 go_enter Tryz.func398,Tryz.ntmps398
 go_wp2_with fail
 refine (Tryz.utf8_ValidRune _ _).mono ?_;rintro e w' ⟨rfl,rfl⟩;rw [h3]
 go_wp2_with fail
 go_step3
 go_wp2_with fail
 go_loopg [9] 1 (fun g v9 wx=>v9=.int .i64 n∧wx=w'∧g=1)
 case atStart=>exact ⟨rfl,rfl,rfl⟩
 case round =>
  obtain ⟨rfl,rfl,rfl⟩:=hrel;clear hn
  go_wp2_with fail
  go_step3
  go_wp2_with fail
  go_quiet (fail)
  have hB5:=below_drewN (Below.refl wr.heap.size wr) nq;generalize wr.drewN nq=w5 at hB5 ⊢
  go_wp2_with fail
  have q1:IntKind.i64.wrap ((n:Int)+1)=(n:Int)+1:=IntWalk.i64_in _ (by omega);have q2:(0:Int)≤(n:Int)+1:=by omega
  have q3:((n:Int)+1).toNat=n+1:=by omega
  have q4:(n:Int)+1≤(s.size:Int):=by omega
  go_quiet ((go_at_call 405;exact Calls.quiet_of_same (HIB.out _)))
  go_wp2
  simp only [Exit.noGoto,Exit.inBlock,Exit.then]
  go_ret
  exact ⟨rfl,below_drewN hB5 _⟩
theorem irune_high (s:ByteArray) (r:Int) (w:World) (hs:s.size≤1000000) (h4:4≤s.size) (ha:∀ (i:Nat) (h:i<s.size),(s[i]'h).toNat<128) (h1:128≤r) :
 Calls Tryz.prog 398 #[.string s,.int .i32 r] w fun e w'=>e=.returned (.int .i64 (-1))∧Below w.heap.size w w':=by
 by_cases h:r=65533
 ·subst h
  exact irune_err s w ha
 ·cases h3:Lib.validRune r
  ·exact irune_bad s r w h1 h h3
  ·exact irune_good s r w hs h4 ha h1 h h3
end Go.Proofs.YtabliahkhafddaaGreat
namespace Go.Proofs.YtabliahkhafddaaGreat
open Go.ChangeShapes Go.WideShapes Go.RowKit Go.Ev
inductive Simp where
 | mk (kind:Int) (name value:ByteArray) (a b:Int) (l:List Simp)
namespace Simp
def kind:Simp→Int | .mk k _ _ _ _ _=>k
def name:Simp→ByteArray | .mk _ n _ _ _ _=>n
def value:Simp→ByteArray | .mk _ _ v _ _ _=>v
def l:Simp→List Simp | .mk _ _ _ _ _ l=>l
end Simp
mutual
def encS:Simp→List AV
 | .mk k n v a b l=>[.g (.int .i64 k),.g (.string n),.g (.string v),.g (.int .i64 a),.g (.int .i64 b),.sl l.length 6 (encSs l)]
def encSs:List Simp→List AV
 | []=>[]
 | x::xs=>encS x++encSs xs
end
theorem encSs_flat:∀ l:List Simp,encSs l=l.flatMap encS
 | []=>by rw [encSs];rfl
 | x::xs=>by rw [encSs,encSs_flat xs,List.flatMap_cons]
theorem encS_len (x:Simp):(encS x).length=6:=by cases x;rw [encS];rfl
structure Part where
 comb:Int
 l:List Simp
structure Cx where
 parts:List Part
 pseudo:ByteArray
def encP (p:Part):List AV:=[.g (.int .i64 p.comb),.sl p.l.length 6 (p.l.flatMap encS)]
def encC (c:Cx):List AV:=[.sl c.parts.length 2 (c.parts.flatMap encP),.g (.string c.pseudo)]
section
variable {w:World}
theorem row_get {b o:Nat} {cs:List AV} (h:RowAt w b o cs) {i:Nat} {a:AV} (hi:cs[i]?=some a):∃ v,w.cell? ⟨b,o+i,none⟩=some v∧At w a v:=(RowR.get h hi).2
theorem flat_get {α:Type} (enc:α→List AV) (sz:Nat) (hsz:∀ x,(enc x).length=sz):∀ (l:List α) (k:Nat) (hk:k<l.length) (j:Nat),j<sz→(l.flatMap enc)[k*sz+j]?=(enc l[k])[j]?
 | x::xs,0,_,j,hj=>by
   rw [List.flatMap_cons,Nat.zero_mul,Nat.zero_add,List.getElem?_append_left (by rw [hsz];exact hj)];rfl
 | x::xs,k+1,hk,j,hj=>by
   rw [List.flatMap_cons,List.getElem?_append_right (by rw [hsz,Nat.succ_mul];omega),hsz];rw [show (k+1)*sz+j - sz=k*sz+j by rw [Nat.succ_mul];omega];exact flat_get enc sz hsz xs k (by simpa using hk) j hj
theorem At.sl_form {n sz:Nat} {cs:List AV} {v:Value} (h:At w (.sl n sz cs) v):∃ ad cap,v=.slice ad n cap∧n≤cap:=by
 obtain ⟨ad,cap,rfl,hc,-⟩:=h;exact ⟨_,_,rfl,hc⟩
end
section
variable {H:Type} {enc:TypeId×Value→H} {P:Program} {W:World} {sp:Nat→Bool} {held:Bool}
def Fits (P:Program) (t:TypeId) (d:DataW H):Prop:=∀ x∈d.weights P t,x≤reachBytes
theorem mem_weightsAll {e:TypeId}:∀ {l:List (DataW H)} {d:DataW H},d∈l→∀ x∈d.weights P e,x∈DataW.weightsAll P e l
 | y::l,d,h,x,hx=>by
   simp only [DataW.weightsAll,List.mem_append];rcases List.mem_cons.1 h with rfl | h
   ·exact .inl hx
   ·exact .inr (mem_weightsAll h x hx)
theorem Q1m:∀ {ts:List TypeId} {l:List (DataW H)} {i:Nat} {t:TypeId} {d:DataW H},ts[i]?=some t→l[i]?=some d→∀ x∈d.weights P t,x∈DataW.weightsEach P ts l
 | [],_,_,_,_,h,_,_,_=>by simp at h
 | _::_,[],_,_,_,_,h,_,_=>by simp at h
 | t'::ts,d'::l,0,t,d,h1,h2,x,hx=>by
   simp only [List.getElem?_cons_zero,Option.some.injEq] at h1 h2;subst h1 h2;simp only [DataW.weightsEach,List.mem_append];exact .inl hx
 | t'::ts,d'::l,i+1,t,d,h1,h2,x,hx=>by
   simp only [DataW.weightsEach,List.mem_append];exact .inr (Q1m (i:=i) (by simpa using h1) (by simpa using h2) x hx)
theorem open_sl {α:Type} (Good:α→Prop) (en:α→List AV) (sz:Nat) (hsz:∀ x,(en x).length=sz) (hpos:0<sz) {t e:TypeId} (ht:P.underlying t=some (.slice e)) (hc:P.cellsOf e=sz) {fuel:Nat}
 (hel:∀ m,m<fuel→∀ cs x,DataW.trod enc P W 0 sp held m e cs=some x→Fits P e x.1→∃ a:α,Ats W (en a) cs∧Good a) {cs:List Value} {x:DataW H×List MemPlace} (h:DataW.trod enc P W 0 sp held fuel t cs=some x) (hfit:Fits P t x.1) :
 ∃ (l:List α) (v:Value),cs=[v]∧At W (.sl l.length sz (l.flatMap en)) v∧(∀ a∈l,Good a)∧l.length*P.bytesOf e≤reachBytes:=by
 rcases DataW.trod_slice ht h with ⟨rfl,-⟩ | ⟨ad,len,cap,elems,rest,n,hf,rfl,rfl,-,hl,-,hlen,hcell,-,-⟩
 ·exact ⟨[],_,rfl,⟨none,0,rfl,Nat.le_refl _,.inl rfl⟩,by simp,by simp⟩
 ·have hw:(Go.DataW.slice (elems.map (·.1)) (rest.map (·.1))).weights P t=((elems.map (·.1)).length+(rest.map (·.1)).length)*P.bytesOf e::(DataW.weightsAll P e (elems.map (·.1))++DataW.weightsAll P e (rest.map (·.1))):=by
   rw [DataW.weights,ht]
  have hbound:len*P.bytesOf e≤reachBytes:=by
   have h9:=hfit _ (by rw [hw];exact List.mem_cons_self);rw [List.length_map,hlen] at h9;exact Nat.le_trans (Nat.mul_le_mul_right _ (Nat.le_add_right _ _)) h9
  have each:∀ i,i<len→∃ (a:α) (ci:List Value),W.cells? 0 (ad.add (i*sz)) sz=some ci∧Ats W (en a) ci∧Good a:=fun i hi=>by
   have h1:=hcell i hi;rw [List.getElem?_eq_getElem (by omega),hc,Option.bind_eq_some_iff] at h1;obtain ⟨ci,h2,h3⟩:=h1
   obtain ⟨a,ha,hg⟩:=hel n (by omega) ci _ h3 (fun y hy=>hfit y (by
    rw [hw]
    exact List.mem_cons_of_mem _ (List.mem_append_left _ (mem_weightsAll (List.mem_map.2 ⟨_,List.getElem_mem (by omega),rfl⟩) y hy))))
   exact ⟨a,ci,h2,ha,hg⟩
  have : ∃ l:List α,l.length=len∧(∀ a∈l,Good a)∧∀ i (hi:i<l.length),∃ ci:List Value,W.cells? 0 (ad.add (i*sz)) sz=some ci∧Ats W (en l[i]) ci:=by
   clear h hcell hlen hw hfit;have key:∀ m,m≤len→∃ l:List α,l.length=m∧(∀ a∈l,Good a)∧∀ i (hi:i<l.length),∃ ci:List Value,W.cells? 0 (ad.add (i*sz)) sz=some ci∧Ats W (en l[i]) ci:=by
    intro m
    induction m with
    | zero=>intro _;exact ⟨[],rfl,by simp,fun i hi=>by simp at hi⟩
    | succ m ih =>
      intro hm;obtain ⟨l,rfl,hgl,h2⟩:=ih (by omega);obtain ⟨a,ci,h3,h4,hga⟩:=each l.length (by omega);refine ⟨l++[a],by simp,fun y hy=>?_,fun i hi=>?_⟩
      ·rcases List.mem_append.1 hy with hy | hy
       ·exact hgl y hy
       ·simp at hy;subst hy;exact hga
      by_cases hil:i<l.length
      ·obtain ⟨cj,h5,h6⟩:=h2 i hil
       exact ⟨cj,h5,by rw [List.getElem_append_left hil];exact h6⟩
      ·have:i=l.length:=by simp at hi;omega
       subst this;exact ⟨ci,h3,by rw [List.getElem_append_right (Nat.le_refl _)];simpa using h4⟩
   exact key len (Nat.le_refl _)
  obtain ⟨l,hll,hgl,hl2⟩:=this;refine ⟨l,_,rfl,⟨some ad,cap,by rw [hll],by rw [hll];exact hl,?_⟩,hgl,by rw [hll];exact hbound⟩
  by_cases h0:l.length=0
  ·exact .inl h0
  ·right
   have hrow:∀ (i:Nat) (a:AV),(l.flatMap en)[i]?=some a→∃ v,W.cell? (ad.add i)=some v∧At W a v:=by
    intro i a hi;have hlt:i<l.length*sz:=by
     have:=(List.getElem?_eq_some_iff.1 hi).1;have e:(l.flatMap en).length=l.length*sz:=by
      clear hi this hl2 hll h0 hgl
      induction l with
      | nil=>simp
      | cons x xs ih=>rw [List.flatMap_cons,List.length_append,ih,hsz,List.length_cons,Nat.succ_mul];omega
     omega
    have hk:i / sz<l.length:=Nat.div_lt_of_lt_mul (by rw [Nat.mul_comm];exact hlt);have hj:i % sz<sz:=Nat.mod_lt _ hpos;obtain ⟨ci,h5,h6⟩:=hl2 (i / sz) hk;have e2:i / sz*sz+i % sz=i:=by rw [Nat.mul_comm];exact Nat.div_add_mod i sz
    have h7:=flat_get en sz hsz l (i / sz) hk (i % sz) hj;rw [e2,hi] at h7;obtain ⟨-,h8,h9⟩:=World.cells?_some h5;obtain ⟨v,h10,h11⟩:=VRs.get h6 h7.symm;refine ⟨v,?_,h11⟩;have h12:=h9 (i % sz) hj;rw [h10] at h12;rw [←h12]
    congr 1
    obtain ⟨b,o,s⟩:=ad;unfold Addr.add
    split <;> split <;> (try split) <;> simp_all <;> omega
   have hspot:ad=⟨ad.block,ad.off,none⟩:=by
    obtain ⟨v,h1,-⟩:=hrow 0 ((l.flatMap en)[0]'(by
     cases l with
     | nil=>exact absurd rfl h0
     | cons x xs=>rw [List.flatMap_cons,List.length_append,hsz];omega)) (List.getElem?_eq_getElem _)
    obtain ⟨b,o,s⟩:=ad
    cases s with
    | none=>rfl
    | some _ =>
      exfalso;revert h1;simp only [Addr.add,World.cell?]
      split <;> simp
   refine ⟨ad.block,ad.off,by rw [←hspot],RowR.mk ?_ fun i a hi=>?_⟩
   ·obtain ⟨v,h1,-⟩:=hrow 0 ((l.flatMap en)[0]'(by
     cases l with
     | nil=>exact absurd rfl h0
     | cons x xs=>rw [List.flatMap_cons,List.length_append,hsz];omega)) (List.getElem?_eq_getElem _)
    rw [hspot] at h1;have:=cell_lt h1;simpa [Addr.add] using this
   ·obtain ⟨v,h1,h2⟩:=hrow i a hi
    refine ⟨v,?_,h2⟩;rw [hspot] at h1;rw [show (⟨ad.block,ad.off+i,none⟩:Addr)=(⟨ad.block,ad.off,none⟩:Addr).add i by simp [Addr.add]];exact h1
end
theorem c_simp:Tryz.prog.cellsOf 141=6:=by kernel_rfl
theorem c_simps:Tryz.prog.cellsOf 71=1:=by kernel_rfl
theorem c_part:Tryz.prog.cellsOf 73=2:=by kernel_rfl
theorem c_parts:Tryz.prog.cellsOf 37=1:=by kernel_rfl
theorem c_cx:Tryz.prog.cellsOf 39=2:=by kernel_rfl
theorem b_part:Tryz.prog.bytesOf 73=32:=by kernel_rfl
theorem c_int:Tryz.prog.cellsOf 3=1:=by kernel_rfl
theorem c_str:Tryz.prog.cellsOf 9=1:=by kernel_rfl
section
variable {H:Type} {enc:TypeId×Value→H} {W:World} {sp:Nat→Bool} {held:Bool}
theorem field_of {t:TypeId} {fs:Array Field} (ht:Tryz.prog.underlying t=some (.struct fs)) {fuel:Nat} {cs:List Value} {x:DataW H×List MemPlace} (h:DataW.trod enc Tryz.prog W 0 sp held fuel t cs=some x) :
 cs.length=Tryz.prog.cellsOf t∧∃ n,fuel=n+1∧∀ (i:Nat) (f:Field),fs[i]?=some f→∃ y,DataW.trod enc Tryz.prog W 0 sp held n f.type ((cs.drop f.offset).take (Tryz.prog.cellsOf f.type))=some y∧(Fits Tryz.prog t x.1→Fits Tryz.prog f.type y.1):=by
 obtain ⟨xs,n,hf,rfl,hl,hlen,hfi⟩:=DataW.trod_struct ht h;refine ⟨hl,n,hf,fun i f hi=>?_⟩;have hlt:i<xs.length:=by rw [hlen];exact (Array.getElem?_eq_some_iff.1 hi).1
 refine ⟨xs[i],by rw [hfi i f hi,List.getElem?_eq_getElem hlt],fun hfit z hz=>hfit z ?_⟩;rw [DataW.weights,ht];exact Q1m (i:=i) (by rw [List.getElem?_map,Array.getElem?_toList,hi];rfl) (by rw [List.getElem?_map,List.getElem?_eq_getElem hlt];rfl) z hz
set_option maxRecDepth 100000 in
theorem open_simp:∀ (fuel:Nat) (cs:List Value) (x:DataW H×List MemPlace),DataW.trod enc Tryz.prog W 0 sp held fuel 141 cs=some x→Fits Tryz.prog 141 x.1→∃ a:Simp,Ats W (encS a) cs∧True:=by
 intro fuel
 induction fuel using Nat.strongRecOn with
 | ind fuel ih =>
   intro cs x h hfit;obtain ⟨hl,n,rfl,hf⟩:=field_of Tryz.underlying141 h;rw [c_simp] at hl;obtain ⟨c0,c1,c2,c3,c4,c5,rfl⟩:∃ c0 c1 c2 c3 c4 c5,cs=[c0,c1,c2,c3,c4,c5]:=by
    match cs,hl with
    | [a,b,c,d,e,f],_=>exact ⟨a,b,c,d,e,f,rfl⟩
   obtain ⟨y0,h0,f0⟩:∃ y,DataW.trod enc Tryz.prog W 0 sp held n 3 ((List.drop 0 [c0,c1,c2,c3,c4,c5]).take (Tryz.prog.cellsOf 3))=some y∧(Fits Tryz.prog 141 x.1→Fits Tryz.prog 3 y.1):=hf 0 _ rfl;obtain ⟨y1,h1,f1⟩:∃ y,DataW.trod enc Tryz.prog W 0 sp held n 9 ((List.drop 1 [c0,c1,c2,c3,c4,c5]).take (Tryz.prog.cellsOf 9))=some y∧(Fits Tryz.prog 141 x.1→Fits Tryz.prog 9 y.1):=hf 1 _ rfl;obtain ⟨y2,h2,f2⟩:∃ y,DataW.trod enc Tryz.prog W 0 sp held n 9 ((List.drop 2 [c0,c1,c2,c3,c4,c5]).take (Tryz.prog.cellsOf 9))=some y∧(Fits Tryz.prog 141 x.1→Fits Tryz.prog 9 y.1):=hf 2 _ rfl;obtain ⟨y3,h3,f3⟩:∃ y,DataW.trod enc Tryz.prog W 0 sp held n 3 ((List.drop 3 [c0,c1,c2,c3,c4,c5]).take (Tryz.prog.cellsOf 3))=some y∧(Fits Tryz.prog 141 x.1→Fits Tryz.prog 3 y.1):=hf 3 _ rfl;obtain ⟨y4,h4,f4⟩:∃ y,DataW.trod enc Tryz.prog W 0 sp held n 3 ((List.drop 4 [c0,c1,c2,c3,c4,c5]).take (Tryz.prog.cellsOf 3))=some y∧(Fits Tryz.prog 141 x.1→Fits Tryz.prog 3 y.1):=hf 4 _ rfl;obtain ⟨y5,h5,f5⟩:∃ y,DataW.trod enc Tryz.prog W 0 sp held n 71 ((List.drop 5 [c0,c1,c2,c3,c4,c5]).take (Tryz.prog.cellsOf 71))=some y∧(Fits Tryz.prog 141 x.1→Fits Tryz.prog 71 y.1):=hf 5 _ rfl;simp only [c_int,c_str,c_simps,List.drop,List.take] at h0 h1 h2 h3 h4 h5;obtain ⟨k,e0,-⟩:=DataW.trod_int Tryz.underlying3 h0;obtain ⟨nm,e1,-⟩:=DataW.trod_string Tryz.underlying9 h1;obtain ⟨vl,e2,-⟩:=DataW.trod_string Tryz.underlying9 h2;obtain ⟨a,e3,-⟩:=DataW.trod_int Tryz.underlying3 h3;obtain ⟨b,e4,-⟩:=DataW.trod_int Tryz.underlying3 h4;obtain ⟨l,v,e5,hv,-,-⟩:=open_sl (fun _=>True) encS 6 encS_len (by decide) Tryz.underlying71 c_simp (fun m hm=>ih m (by omega)) h5 (f5 hfit);simp only [List.cons.injEq,and_true] at e0 e1 e2 e3 e4 e5;subst e0 e1 e2 e3 e4 e5;refine ⟨.mk k nm vl a b l,?_,trivial⟩;rw [encS,encSs_flat];exact VRs.cons_mk rfl (VRs.cons_mk rfl (VRs.cons_mk rfl (VRs.cons_mk rfl (VRs.cons_mk rfl (VRs.cons_mk hv (by rw [VRs]))))))
set_option maxRecDepth 100000 in
theorem open_part (fuel:Nat) (cs:List Value) (x:DataW H×List MemPlace) (h:DataW.trod enc Tryz.prog W 0 sp held fuel 73 cs=some x) (hfit:Fits Tryz.prog 73 x.1):∃ a:Part,Ats W (encP a) cs∧True:=by
 obtain ⟨hl,n,rfl,hf⟩:=field_of Tryz.underlying73 h;rw [c_part] at hl;obtain ⟨c0,c1,rfl⟩:∃ c0 c1,cs=[c0,c1]:=by
  match cs,hl with
  | [a,b],_=>exact ⟨a,b,rfl⟩
 obtain ⟨y0,h0,f0⟩:∃ y,DataW.trod enc Tryz.prog W 0 sp held n 3 ((List.drop 0 [c0,c1]).take (Tryz.prog.cellsOf 3))=some y∧(Fits Tryz.prog 73 x.1→Fits Tryz.prog 3 y.1):=hf 0 _ rfl;obtain ⟨y1,h1,f1⟩:∃ y,DataW.trod enc Tryz.prog W 0 sp held n 71 ((List.drop 1 [c0,c1]).take (Tryz.prog.cellsOf 71))=some y∧(Fits Tryz.prog 73 x.1→Fits Tryz.prog 71 y.1):=hf 1 _ rfl;simp only [c_int,c_simps,List.drop,List.take] at h0 h1;obtain ⟨k,e0,-⟩:=DataW.trod_int Tryz.underlying3 h0;obtain ⟨l,v,e1,hv,-,-⟩:=open_sl (fun _=>True) encS 6 encS_len (by decide) Tryz.underlying71 c_simp (fun m _=>open_simp m) h1 (f1 hfit);simp only [List.cons.injEq,and_true] at e0 e1;subst e0 e1;exact ⟨⟨k,l⟩,VRs.cons_mk rfl (VRs.cons_mk hv (by rw [VRs])),trivial⟩
set_option maxRecDepth 100000 in
theorem open_cx (fuel:Nat) (cs:List Value) (x:DataW H×List MemPlace) (h:DataW.trod enc Tryz.prog W 0 sp held fuel 39 cs=some x) (hfit:Fits Tryz.prog 39 x.1):∃ a:Cx,Ats W (encC a) cs∧a.parts.length≤reachBytes:=by
 obtain ⟨hl,n,rfl,hf⟩:=field_of Tryz.underlying39 h;rw [c_cx] at hl;obtain ⟨c0,c1,rfl⟩:∃ c0 c1,cs=[c0,c1]:=by
  match cs,hl with
  | [a,b],_=>exact ⟨a,b,rfl⟩
 obtain ⟨y0,h0,f0⟩:∃ y,DataW.trod enc Tryz.prog W 0 sp held n 37 ((List.drop 0 [c0,c1]).take (Tryz.prog.cellsOf 37))=some y∧(Fits Tryz.prog 39 x.1→Fits Tryz.prog 37 y.1):=hf 0 _ rfl;obtain ⟨y1,h1,f1⟩:∃ y,DataW.trod enc Tryz.prog W 0 sp held n 9 ((List.drop 1 [c0,c1]).take (Tryz.prog.cellsOf 9))=some y∧(Fits Tryz.prog 39 x.1→Fits Tryz.prog 9 y.1):=hf 1 _ rfl;simp only [c_str,c_parts,List.drop,List.take] at h0 h1;obtain ⟨l,v,e0,hv,-,hb⟩:=open_sl (fun _=>True) encP 2 (fun _=>rfl) (by decide) Tryz.underlying37 c_part (fun m _=>open_part m) h0 (f0 hfit);obtain ⟨s,e1,-⟩:=DataW.trod_string Tryz.underlying9 h1;simp only [List.cons.injEq,and_true] at e0 e1;subst e0 e1;rw [b_part] at hb;exact ⟨⟨l,s⟩,VRs.cons_mk hv (VRs.cons_mk rfl (by rw [VRs])),by show l.length≤_;omega⟩
end
end Go.Proofs.YtabliahkhafddaaGreat
namespace Go.Proofs.YtabliahkhafddaaGreat
open Go.RowKit Go.Ev
end Go.Proofs.YtabliahkhafddaaGreat
namespace Go.Proofs.YtabliahkhafddaaGreat
open Go.ChangeShapes Go.WideShapes Go.RowKit Go.Ev
inductive Vl where
 | mk (kind tk:Int) (text:ByteArray) (n:Int) (l:List Vl)
namespace Vl
def kind:Vl→Int | .mk k _ _ _ _=>k
def tk:Vl→Int | .mk _ k _ _ _=>k
def text:Vl→ByteArray | .mk _ _ t _ _=>t
def n:Vl→Int | .mk _ _ _ n _=>n
def l:Vl→List Vl | .mk _ _ _ _ l=>l
end Vl
mutual
def encV:Vl→List AV
 | .mk k t s n l=>[.g (.int .i64 k),.g (.int .i64 t),.g (.string s),.g (.int .i64 n),.sl l.length 5 (encVs l)]
def encVs:List Vl→List AV
 | []=>[]
 | x::xs=>encV x++encVs xs
end
theorem encVs_flat:∀ l:List Vl,encVs l=l.flatMap encV
 | []=>by rw [encVs];rfl
 | x::xs=>by rw [encVs,encVs_flat xs,List.flatMap_cons]
theorem Q4f (x:Vl):(encV x).length=5:=by cases x;rw [encV];rfl
theorem vl_lt {l:List Vl} {x:Vl} (h:x∈l):SizeOf.sizeOf x.l<SizeOf.sizeOf l:=by
 have h1:=List.sizeOf_lt_of_mem h
 cases x
 simp [Vl.l] at h1 ⊢;omega
section
variable {H:Type} {enc:TypeId×Value→H} {W:World} {sp:Nat→Bool} {held:Bool}
end
end Go.Proofs.YtabliahkhafddaaGreat
namespace Go.Proofs.YtabliahkhafddaaGreat
open Go.RowKit Go.Ev
mutual
def cntV:Vl→Nat
 | .mk _ _ _ _ l=>1+cntVs l
def cntVs:List Vl→Nat
 | []=>0
 | x::xs=>cntV x+cntVs xs
end
theorem cntV_eq (x:Vl):cntV x=1+cntVs x.l:=by cases x;rw [cntV];rfl
theorem cntVs_append:∀ (a b:List Vl),cntVs (a++b)=cntVs a+cntVs b
 | [],b=>by simp [cntVs]
 | x::a,b=>by simp only [List.cons_append,cntVs,cntVs_append a b];omega
theorem cntVs_len:∀ (a:List Vl),a.length≤cntVs a
 | []=>by simp [cntVs]
 | x::a=>by
   have:=cntVs_len a;simp only [List.length_cons,cntVs,cntV_eq];omega
theorem cntVs_snoc {l:List Vl} {k:Nat} (hk:k<l.length):cntVs (l.take (k+1))=cntVs (l.take k)+1+cntVs l[k].l:=by
 rw [List.take_succ_eq_append_getElem hk,cntVs_append];simp only [cntVs,cntV_eq];omega
mutual
theorem VR_keep {w w':World} {I I':Nat→Prop} (him:∀ rb,I rb→I' rb) (hs:∀ rb,I rb→w'.heap[rb]?=w.heap[rb]?):∀ (a:AV) {v:Value},VR w ⟨fun _=>none,I⟩ a v→VR w' ⟨fun _=>none,I'⟩ a v
 | .any,_,_=>trivial
 | .g _,_,hv=>hv
 | .ptr b o,_,⟨rb,ro,h1,h2⟩=>by cases h1
 | .ept cs o,_,⟨rb,ro,h1,h2⟩=>⟨rb,ro,h1,RowR_keep him hs cs h2⟩
 | .sl n _ cs,_,⟨a,cap,h1,hc,h2⟩=>⟨a,cap,h1,hc,h2.imp id fun ⟨rb,ro,h3,h4⟩=>⟨rb,ro,h3,RowR_keep him hs cs h4⟩⟩
 | .gs b o n sz k,_,⟨rb,ro,o',cap,c,e,fr,h1,h2,h3,h4,h5,h6⟩=>by cases h1
 | .z0,_,hv=>hv
 | .mp b,_,⟨rb,h1,h2⟩=>by cases h1
 | .fn f x y,_,⟨rx,ry,h1,h2,h3⟩=>⟨rx,ry,h1,Q2p him hs x h2,Q2p him hs y h3⟩
 | .agg cs,_,⟨rc,h1,h2⟩=>⟨rc,h1,Q2p him hs cs h2⟩
 | .tup vs,_,⟨rc,h1,h2⟩=>⟨rc,h1,Q2p him hs vs h2⟩
 | .ifc t v,_,⟨x,h1,h2⟩=>⟨x,h1,VR_keep him hs v h2⟩
theorem Q2p {w w':World} {I I':Nat→Prop} (him:∀ rb,I rb→I' rb) (hs:∀ rb,I rb→w'.heap[rb]?=w.heap[rb]?):∀ (a:List AV) {v:List Value},VRs w ⟨fun _=>none,I⟩ a v→VRs w' ⟨fun _=>none,I'⟩ a v
 | [],_,hv=>hv
 | a::la,_,⟨v,vs,h1,h2,h3⟩=>⟨v,vs,h1,VR_keep him hs a h2,Q2p him hs la h3⟩
theorem RowR_keep {w w':World} {I I':Nat→Prop} (him:∀ rb,I rb→I' rb) (hs:∀ rb,I rb→w'.heap[rb]?=w.heap[rb]?) {rb:Nat}:∀ {o:Nat} (a:List AV),RowR w ⟨fun _=>none,I⟩ rb o a→RowR w' ⟨fun _=>none,I'⟩ rb o a
 | _,[],_=>trivial
 | _,a::la,⟨h1,⟨v,h2,h3⟩,h4⟩=>⟨him _ h1,⟨v,by rw [World.cell?_of_block (w:=w) (hs _ h1)];exact h2,VR_keep him hs a h3⟩,RowR_keep him hs la h4⟩
end
def AtB (z:Nat) (w:World) (a:AV) (v:Value):Prop:=VR w ⟨fun _=>none,fun b=>b<z⟩ a v
theorem At.toB {w:World} {a:AV} {v:Value} (h:At w a v):AtB w.heap.size w a v:=h
theorem AtB.below {z:Nat} {w w':World} {a:AV} {v:Value} (h:AtB z w a v) (hb:Below z w w'):AtB z w' a v :=
 VR_keep (fun _ h=>h) (fun rb hr=>hb.block rb hr) a h
theorem AtB.toAt {z:Nat} {w:World} {a:AV} {v:Value} (h:AtB z w a v) (hz:z≤w.heap.size):At w a v :=
 VR_keep (fun _ h=>Nat.lt_of_lt_of_le h hz) (fun _ _=>rfl) a h
theorem AtB.mono {z z':Nat} {w:World} {a:AV} {v:Value} (h:AtB z w a v) (hz:z≤z'):AtB z' w a v :=
 VR_keep (fun _ h=>Nat.lt_of_lt_of_le h hz) (fun _ _=>rfl) a h
theorem AtB.sl_form {z n sz:Nat} {cs:List AV} {w:World} {v:Value} (h:AtB z w (.sl n sz cs) v):∃ ad cap,v=.slice ad n cap∧n≤cap:=by
 obtain ⟨ad,cap,rfl,hc,-⟩:=h;exact ⟨_,_,rfl,hc⟩
theorem slB_cells {α:Type} (enc:α→List AV) (sz:Nat) (hsz:∀ x,(enc x).length=sz) (hs0:0<sz) {z:Nat} {w:World} {l:List α} {v:Value} (h:AtB z w (.sl l.length sz (l.flatMap enc)) v) :
 (l=[]∧∃ ad cap,v=.slice ad 0 cap)∨∃ b o cap,v=.slice (some ⟨b,o,none⟩) l.length cap∧l.length≤cap∧0<l.length∧b<z ∧
   ∀ k (hk:k<l.length) j a,(enc l[k])[j]?=some a→∃ x,w.cell? ⟨b,o+(k*sz+j),none⟩=some x∧AtB z w a x:=by
 obtain ⟨ad,cap,rfl,hcap,h0⟩:=h
 by_cases hl:l=[]
 ·subst hl;exact .inl ⟨rfl,ad,cap,rfl⟩
 ·have hpos:0<l.length:=List.length_pos_iff.2 hl
  rcases h0 with h0 | ⟨rb,ro,rfl,hr⟩
  ·omega
  ·have hI:rb<z:=by
    have h1:(l.flatMap enc)[0*sz+0]?=(enc l[0])[0]?:=flat_get enc sz hsz l 0 hpos 0 hs0;have h2:∃ a,(enc l[0])[0]?=some a:=⟨(enc l[0])[0]'(by rw [hsz];exact hs0),List.getElem?_eq_getElem _⟩;obtain ⟨a,ha⟩:=h2;rw [ha] at h1;exact (RowR.get hr h1).1
   refine .inr ⟨rb,ro,cap,rfl,hcap,hpos,hI,fun k hk j a hj=>?_⟩;have hjs:j<sz:=by have:=(List.getElem?_eq_some_iff.1 hj).1;rw [hsz] at this;exact this
   exact (RowR.get hr (by rw [flat_get enc sz hsz l k hk j hjs];exact hj)).2
theorem vlB_cells {z:Nat} {w:World} {b o:Nat} {l:List Vl} (h:∀ k (hk:k<l.length) j a,(encV l[k])[j]?=some a→∃ x,w.cell? ⟨b,o+(k*5+j),none⟩=some x∧AtB z w a x) {k:Nat} (hk:k<l.length) :
 w.cell? ⟨b,o+k*5,none⟩=some (.int .i64 l[k].kind)∧w.cell? ⟨b,o+k*5+1,none⟩=some (.int .i64 l[k].tk)∧w.cell? ⟨b,o+k*5+2,none⟩=some (.string l[k].text) ∧
  w.cell? ⟨b,o+k*5+3,none⟩=some (.int .i64 l[k].n) ∧
  ∃ ad cap,w.cell? ⟨b,o+k*5+4,none⟩=some (.slice ad l[k].l.length cap)∧AtB z w (.sl l[k].l.length 5 (l[k].l.flatMap encV)) (.slice ad l[k].l.length cap):=by
 have h9:=h k hk;generalize l[k]=x at *;obtain ⟨kd,tk,tx,n,ll⟩:=x;rw [encV,encVs_flat] at h9;obtain ⟨x0,e0,v0⟩:=h9 0 _ rfl;obtain ⟨x1,e1,v1⟩:=h9 1 _ rfl;obtain ⟨x2,e2,v2⟩:=h9 2 _ rfl;obtain ⟨x3,e3,v3⟩:=h9 3 _ rfl;obtain ⟨x4,e4,v4⟩:=h9 4 _ rfl;obtain rfl:x0=_:=v0;obtain rfl:x1=_:=v1;obtain rfl:x2=_:=v2;obtain rfl:x3=_:=v3;have v4':=v4;obtain ⟨ad,cap,rfl,-⟩:=AtB.sl_form v4;simp only [Nat.add_zero,←Nat.add_assoc] at e0 e1 e2 e3 e4;exact ⟨e0,e1,e2,e3,ad,cap,e4,v4'⟩
theorem upon_yield {F:Fence} (hd:F.depth=none) {n:Nat} {P:Program} {o:Oper} {a:Act} {K:Act→World→Prop} {Q:Exit→Act→World→Prop} {l:Nat} {args:Array Value} {W:World} {S:World→Prop}
 (h:YieldAt F (n - 1) P l args W fun e W'=>e=.returned (.bool true)∧S W') (hk:∀ W',S W'→K (a.put o.dst (.bool true)) W'):Oper.uponIn F n P o a K Q ((Instr.yield l args).run P W):=by
 obtain ⟨fn,tmps,assign,body,hy,hR⟩:=h;rw [hy];refine ⟨fun hs=>absurd hs (by rw [hd];simp),hR.mono ?_⟩;rintro e W' ⟨rfl,hs⟩;exact hk W' hs
end Go.Proofs.YtabliahkhafddaaGreat
namespace Go.Proofs.YtabliahkhafddaaGreat
open Go.RowKit
structure KO (Ow:World→Nat→Prop) (z:Nat) (A B:World):Prop where
 same:∀ k,k<A.heap.size→¬Ow A k→B.heap[k]?=A.heap[k]?
 own:∀ k,k<A.heap.size→Ow B k→Ow A k
 lt:∀ k,Ow B k→k<B.heap.size
 below:Below z A B
section
variable {Ow:World→Nat→Prop} {z:Nat}
theorem KO.refl {A:World} (h:∀ k,Ow A k→k<A.heap.size):KO Ow z A A:=⟨fun _ _ _=>rfl,fun _ _ h=>h,h,Below.refl _ _⟩
theorem KO.trans {A B C:World} (h:KO Ow z A B) (k:KO Ow z B C):KO Ow z A C :=
 ⟨fun i hi hn=>(k.same i (Nat.lt_of_lt_of_le hi h.below.size) fun ho=>hn (h.own i hi ho)).trans (h.same i hi hn),fun i hi ho=>h.own i hi (k.own i (Nat.lt_of_lt_of_le hi h.below.size) ho),k.lt,h.below.trans k.below⟩
theorem KO.grow {A B:World} (hb:Below A.heap.size A B) (hz:z≤A.heap.size) (ha:∀ k,Ow B k→Ow A k) (h:∀ k,Ow A k→k<A.heap.size):KO Ow z A B :=
 ⟨fun k hk _=>hb.block k hk,fun k _ ho=>ha k ho,fun k ho=>Nat.lt_of_lt_of_le (h k (ha k ho)) hb.size,hb.mono hz⟩
end
def IterAll {α:Type} (P:Program) (g:Nat) (lb:Array Value) (encs:α→Array Value) (z N:Nat) (S:List α→Prop) (w:World):Prop :=
 ∀ (n l:Nat) (Ow:World→Nat→Prop) (J:List α→World→Prop) (W:World),Below w.heap.size w W→(∀ k,Ow W k→k<W.heap.size)→(∀ s A B,J s A→Below A.heap.size A B→J s B) →
   (∀ A B k,W.heap.size≤A.heap.size→Below A.heap.size A B→Ow B k→Ow A k) →
   (∀ m pre x A,J pre A→pre.length<N→W.heap.size≤A.heap.size→YieldAt Fence.wide m P l (encs x) A fun e B=>e=.returned (.bool true)∧J (pre++[x]) B∧KO Ow z A B) →
   J [] W→CallsIn Fence.wide n P g (#[.func (.yield l) #[] #[]]++lb) W fun e B=>(∃ v,e=.returned v)∧∃ xs,S xs∧J xs B∧KO Ow z W B
section
variable {n:Nat} {P:Program} {α:Type}
theorem range_all {g:Operand} {ps:Array Tmp} {assign body:Code} {Q:Exit→Act→World→Prop} {a:Act} {w:World}
 {gf:Nat} {lb:Array Value} (hg:a.eval g=.func (.func gf) #[] lb) (eg:∀ args w,(callFunc gf args).run P w=.ok (.enter gf args) w)
 {encs:α→Array Value} (hps:∀ x,(encs x).size=ps.size) {z N:Nat} {S:List α→Prop} (hzw:z≤w.heap.size)
 (I:List α→World→Prop) (Ow:World→Nat→Prop) (h0:I [] w) (hIa:∀ s A B,I s A→Below A.heap.size A B→I s B)
 (hIL:∀ s A r r',I s A→A.heap[w.heap.size+1]?=some (.loop r)→I s (A.putObj (w.heap.size+1) (.loop r')))
 (hOw:∀ k,Ow w k→k<w.heap.size) (hOa:∀ A B k,w.heap.size≤A.heap.size→Below A.heap.size A B→Ow B k→Ow A k) (hOL:∀ A r r' k,A.heap[w.heap.size+1]?=some (.loop r)→(Ow (A.putObj (w.heap.size+1) (.loop r')) k↔Ow A k))
 (hOD:∀ s A,I s A→¬Ow A w.heap.size∧¬Ow A (w.heap.size+1))
 (hseq:IterAll P gf lb encs z N S w) (a₁:α→Act)
 (hassign:∀ (l:Nat) (x:α) (W:World) (m:Nat) (K:Act→World→Prop),K (a₁ x) W →
   assign.wpIn (Fence.wide.inRound l) m P (Exit.then K (fun _ _ _=>False)) { tmps:=(ps.zip (encs x)).foldl (fun t (p,v)=>t.setIfInBounds p v) a.tmps,defers:=[] } W)
 (hbody:∀ (l:Nat) (pre:List α) (x:α) (W:World) (m:Nat),I pre W→pre.length<N→w.heap.size+2≤W.heap.size→body.wpIn (Fence.wide.inRound l) m P (fun e _ B=>e=.normal∧I (pre++[x]) B∧KO Ow z W B) (a₁ x) W)
 (hdone:∀ (D:Nat) (xs:List α) (W:World),w.heap.size≤D→S xs→I xs W→Below z w W→W.heap[D]?=some (.deferred (some []))→Q .normal { a with defers:={ target:=.collected D,args:=#[] }::a.defers } W) :
 (Code.rangeFunc g ps assign body).wpIn Fence.wide n P Q a w:=by
 refine wpIn_rangeFunc fun fn hfn=>?_;rw [show Fence.wide.round=none from rfl];generalize hL:w.heap.size+1=L at *;generalize hD:w.heap.size=D at *;obtain ⟨mk,hmk⟩:∃ mk:LoopState→Option Code→Loop,mk=fun st pe=>{ state:=st,pending:=pe,fn,tmps:=a.tmps,params:=ps,assign,body,defers:=D }:=⟨_,rfl⟩;have e1:∀ pe st,(mk st pe).state=st:=fun pe st=>by rw [hmk]
 have e2:∀ pe st,(mk st pe).pending=pe:=fun pe st=>by rw [hmk]
 have e3:∀ pe st pe' st',{ mk st pe with state:=st',pending:=pe' }=mk st' pe':=fun pe st pe' st'=>by rw [hmk]
 have e4:∀ pe st st',{ mk st pe with state:=st' }=mk st' pe:=fun pe st st'=>by rw [hmk]
 have hne:D≠L:=by omega
 let W1:=(w.alloc (.deferred (some []))).alloc (.loop (mk .ready none))
 have hbook:Book L D (mk .ready none) W1:=by
  refine ⟨?_,?_⟩
  ·have:=World.alloc_heap_new (w.alloc (.deferred (some []))) (.loop (mk .ready none))
   rw [World.size_alloc,hD,hL] at this;exact this
  ·have:=World.alloc_heap_new w (.deferred (some []))
   rw [hD] at this;exact (Below.heap_alloc _ _ _ (by simp;omega)).trans this
 have hb1:Below w.heap.size w W1:=((Below.refl _ w).alloc (Nat.le_refl _) _).alloc (by simp) _;have hI1:I [] W1:=hIa _ _ _ h0 hb1;have hs1:W1.heap.size=D+2:=by show ((w.alloc _).alloc _).heap.size=_;simp;omega
 have hOw1:∀ k,Ow W1 k→k<W1.heap.size:=fun k hk=>by have:=hOw k (hOa _ _ _ (by omega) hb1 hk);omega
 refine ⟨L,[{ target:=.collected D,args:=#[] }],W1,{ target:=.fn (.func gf) lb,args:=#[.func (.yield L) #[] #[]] },W1,gf,#[.func (.yield L) #[] #[]]++lb,W1,?_,?_,fun f _=>trivial,?_,fun h=>(by cases h),?_⟩
 ·have:=run_enterLoop_outer (P:=P) (w:=w) fn a.tmps ps assign body
  rw [hD,hL] at this;rw [this];show _=Result.ok _ ((w.alloc _).alloc (.loop (mk .ready none)));rw [hmk]
 ·simp only [resolve,hg];simp [go_sem]
 ·simp [invoke,go_sem,eg]
 have hLsz:L<W1.heap.size:=by omega
 refine (hseq (n - 1) L (fun W k=>k=L∨Ow W k) (fun pre W=>I pre W∧Book L D (mk .ready none) W) W1 hb1 (fun k hk=>hk.elim (fun h=>by omega) (hOw1 k))
  (fun s A B h hb=>⟨hIa _ _ _ h.1 hb,⟨(hb.block _ (Array.getElem?_eq_some_iff.1 h.2.1).1).trans h.2.1,(hb.block _ (Array.getElem?_eq_some_iff.1 h.2.2).1).trans h.2.2⟩⟩)
  (fun A B k hs hb hk=>hk.imp id (hOa _ _ _ (by omega) hb)) ?_ ⟨hI1,hbook⟩).mono ?_
 ·rintro m pre x A ⟨hi,hbk⟩ hpN hsz
  have hy:=run_yield (P:=P) (args:=encs x) hbk.1 (by rw [hmk];exact hps x);refine ⟨fn,(ps.zip (encs x)).foldl (fun t (p,v)=>t.setIfInBounds p v) a.tmps,assign,body,by rw [hy];rw [hmk],roundIn_of_wpIn hfn (hassign L x A m _ ⟨_,run_beginRound hbk.1 (e1 _ _),?_⟩)⟩;rw [e4];have hbk2:Book L D (mk .busy none) (A.putObj L (.loop (mk .busy none))):=hbk.put hne;have hi2:I pre (A.putObj L (.loop (mk .busy none))):=hIL _ _ _ _ hi hbk.1;have hOL2:∀ k,Ow (A.putObj L (.loop (mk .busy none))) k↔Ow A k:=fun k=>hOL _ _ _ _ hbk.1;have hsame2:∀ k,k≠L→(A.putObj L (.loop (mk .busy none))).heap[k]?=A.heap[k]?:=fun k hk=>World.putObj_heap_other hk;have hsz2:(A.putObj L (.loop (mk .busy none))).heap.size=A.heap.size:=by simp
  have hos2:(A.putObj L (.loop (mk .busy none))).os=A.os∧(A.putObj L (.loop (mk .busy none))).tape=A.tape∧(A.putObj L (.loop (mk .busy none))).output=A.output:=⟨rfl,rfl,rfl⟩;generalize A.putObj L (.loop (mk .busy none))=B at hbk2 hi2 hOL2 hsame2 hsz2 hos2;refine wpIn_mono (hbody L pre x B m hi2 hpN (by omega)) ?_;rintro e a3 C ⟨rfl,hi3,hk⟩;obtain ⟨hnD,hnL⟩:=hOD _ _ hi2;have hLB:L<B.heap.size:=(Array.getElem?_eq_some_iff.1 hbk2.1).1;have hDB:D<B.heap.size:=(Array.getElem?_eq_some_iff.1 hbk2.2).1;have hl:C.heap[L]?=some (.loop (mk .busy none)):=(hk.same L hLB hnL).trans hbk2.1;have hr:=run_endRound (P:=P) none hl;rw [e3] at hr;have hbC:Book L D (mk .ready none) (C.putObj L (.loop (mk .ready none))):=Book.put (r:=mk .busy none) ⟨hl,(hk.same D hDB hnD).trans hbk2.2⟩ hne;refine ⟨_,_,hr,rfl,⟨hIL _ _ _ _ hi3 hl,hbC⟩,?_,?_,?_,?_⟩
  ·intro k hkA hn
   have hn1:k≠L:=fun h=>hn (.inl h);have hn2:¬Ow A k:=fun h=>hn (.inr h);rw [World.putObj_heap_other hn1,hk.same k (by omega) (fun h=>hn2 ((hOL2 k).1 h)),hsame2 k hn1]
  ·intro k hkA ho
   exact ho.imp id fun ho=>(hOL2 k).1 (hk.own k (by omega) ((hOL _ _ _ _ hl).1 ho))
  ·intro k ho
   have hs:(C.putObj L (.loop (mk .ready none))).heap.size=C.heap.size:=by simp
   have hCB:=hk.below.size;show k<(C.putObj L (.loop (mk .ready none))).heap.size;rcases ho with h | h
   ·omega
   ·have:=hk.lt k ((hOL _ _ _ _ hl).1 h);omega
  ·have hb:=hk.below
   refine ⟨hb.os.trans hos2.1,hb.tape.trans hos2.2.1,hb.output.trans hos2.2.2,?_,fun k hkz=>?_⟩
   ·have hs:(C.putObj L (.loop (mk .ready none))).heap.size=C.heap.size:=by simp
    have:=hb.size;show A.heap.size≤(C.putObj L (.loop (mk .ready none))).heap.size;omega
   ·have hkL:k≠L:=by omega
    show (C.putObj L (.loop (mk .ready none))).heap[k]?=_;rw [World.putObj_heap_other hkL,hb.block k hkz,hsame2 k hkL]
 ·rintro e C ⟨⟨v,rfl⟩,xs,hS,⟨hi,hb⟩,hKO⟩
  have hr:=run_endLoop (P:=P) hb.1 (by rw [e1];simp);rw [e4,e2] at hr;have hB2:Below z w C:=(hb1.mono (by omega)).trans hKO.below;refine ⟨none,_,hr,hdone D xs _ (Nat.le_refl _) hS (hIL _ _ _ _ hi hb.1) ?_ ((World.putObj_heap_other hne).trans hb.2)⟩;refine ⟨hB2.os,hB2.tape,hB2.output,?_,fun k hkz=>?_⟩
  ·have hs:(C.putObj L (.loop (mk .exhausted none))).heap.size=C.heap.size:=by simp
   have:=hB2.size;omega
  ·rw [World.putObj_heap_other (by omega)]
   exact hB2.block k hkz
end
end Go.Proofs.YtabliahkhafddaaGreat
end
