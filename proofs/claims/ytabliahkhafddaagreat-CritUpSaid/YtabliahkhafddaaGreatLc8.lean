/- What is appended to a row of values. -/
import Derived.Shelf.Small.Utf8
import Derived.Shelf.Small.Bits
import Derived.Shelf.Small.Strs
import Derived.Shelf.Strconv.Itoa0
import Derived.Shelf.Strings.Search1
import Derived.Shelf.Sort.Plain
import Derived.Shelf.Strings.Runes
import Derived.Shelf.Strings.IndexAny
import Derived.Shelf.Strings.AsciiSet
import Derived.Shelf.Strings.IndexAnyAll
import Derived.Shelf.Slices.Turned
import Derived.Shelf.Slices.Equal
import Derived.Ground.Names2Prog
import Derived.Shelf.Slices.ReverseS
import Derived.Shelf.Slices.Clone
import Derived.Shelf.Slices.CompactI
import Derived.Shelf.Slices.CompactS
import Derived.Shelf.Slices.SearchI
import Derived.Shelf.Slices.Cells
import Derived.Shelf.Slices.In.SortNone
import Derived.Shelf.Slices.Empties2
import Derived.Ground.SlgnProg
import Derived.Shelf.SlicesE.Clone
import Derived.Test.YtabliahkhafddaaGreatProg
import Derived.WalkKit
import Derived.WalkSpells
import Derived.WalkLawsBesides
import Derived.Deep.QuietTactic
import Derived.BigQuiet
import Derived.Lib.Hide
import Derived.WalkSmall
import Derived.Deep.LoopGhost
import Derived.Laws.RangeString
import Derived.Laws.RangeAny
import Derived.Lib.IndexAny
import Derived.Test.YtabliahkhafddaaGreatLc0
import Derived.ChangeSlices
import Derived.ChangeSame
import Derived.ChangeArms
import GoSem.ClaimJoined
import Derived.ProofKit
import Derived.Test.YtabliahkhafddaaGreatLc2
import Derived.Laws.OwnMore
import Derived.Sort.OwnSorted
set_option linter.unusedSimpArgs false
noncomputable section
namespace Go.Proofs
open Go.Shelf
def Tryz.lays137_ren:Go.Shelf.Ren:=⟨fun | 137=>405 | 217=>410 | 266=>412 | n=>n,fun | 9=>9 | 5=>5 | 3=>3 | n=>n,fun | n=>n⟩
def Tryz.lays217_ren:Go.Shelf.Ren:=⟨fun | 217=>410 | 266=>412 | n=>n,fun | 9=>9 | 5=>5 | 3=>3 | n=>n,fun | n=>n⟩
theorem Tryz.lays217 : Go.Proofs.Lays.n217 Tryz.prog Tryz.lays217_ren := {
 mixed:=by kernel_rfl
 f217:=Tryz.func410.trans (congrArg some (by kernel_rfl))
 f266:=Tryz.func412.trans (congrArg some (by kernel_rfl))
 t3:=Tryz.underlying3
 a3:=Tryz.isAgg3
 z3:=Tryz.sizeOf3
 v3:=Tryz.zeroValue3
 t5:=Tryz.underlying5
 a5:=Tryz.isAgg5
 z5:=Tryz.sizeOf5
 v5:=Tryz.zeroValue5
 t9:=Tryz.underlying9
 a9:=Tryz.isAgg9
 z9:=Tryz.sizeOf9
 v9:=Tryz.zeroValue9 }
open Go.RowKit Go.Lib in
theorem Tryz.stringslite_IndexByte (s:ByteArray) (c:Int) (w:World) :
 Calls Tryz.prog 410 #[.string s,.int .u8 c] w fun e w'=>e=.returned (.int .i64 (Lib.indexByte s.data.toList c.toNat.toUInt8))∧w'=w:=Any.stringslite_IndexByte Tryz.lays217 s c w
def Tryz.lays189_ren:Go.Shelf.Ren:=⟨fun | 189=>47 | 125=>92 | 257=>91 | 128=>161 | 129=>162 | 294=>152 | 295=>153 | 296=>154 | 297=>155 | 298=>156 | 299=>157 | 216=>158 | 300=>159 | 301=>160 | 328=>230 | 329=>231 | 330=>232 | 331=>233 | 332=>234 | 215=>235 | 343=>289 | n=>n,fun | 28=>27 | 3=>3 | 46=>162 | 0=>0 | 51=>242 | 53=>244 | 4=>4 | 183=>234 | 182=>233 | 131=>239 | 5=>5 | 9=>9 | 218=>291 | 222=>295 | 228=>346 | 229=>347 | n=>n,fun | n=>n⟩
theorem Tryz.lays189 : Go.Proofs.Lays.n189 Tryz.prog Tryz.lays189_ren := {
 mixed:=by kernel_rfl
 f125:=Tryz.func92.trans (congrArg some (by kernel_rfl))
 f128:=Tryz.func161.trans (congrArg some (by kernel_rfl))
 f129:=Tryz.func162.trans (congrArg some (by kernel_rfl))
 f189:=Tryz.func47.trans (congrArg some (by kernel_rfl))
 f215:=Tryz.func235.trans (congrArg some (by kernel_rfl))
 f216:=Tryz.func158.trans (congrArg some (by kernel_rfl))
 f257:=Tryz.func91.trans (congrArg some (by kernel_rfl))
 f294:=Tryz.func152.trans (congrArg some (by kernel_rfl))
 f295:=Tryz.func153.trans (congrArg some (by kernel_rfl))
 f296:=Tryz.func154.trans (congrArg some (by kernel_rfl))
 f297:=Tryz.func155.trans (congrArg some (by kernel_rfl))
 f298:=Tryz.func156.trans (congrArg some (by kernel_rfl))
 f299:=Tryz.func157.trans (congrArg some (by kernel_rfl))
 f300:=Tryz.func159.trans (congrArg some (by kernel_rfl))
 f301:=Tryz.func160.trans (congrArg some (by kernel_rfl))
 f328:=Tryz.func230.trans (congrArg some (by kernel_rfl))
 f329:=Tryz.func231.trans (congrArg some (by kernel_rfl))
 f330:=Tryz.func232.trans (congrArg some (by kernel_rfl))
 f331:=Tryz.func233.trans (congrArg some (by kernel_rfl))
 f332:=Tryz.func234.trans (congrArg some (by kernel_rfl))
 f343:=Tryz.func289.trans (congrArg some (by kernel_rfl))
 t0:=Tryz.underlying0
 a0:=Tryz.isAgg0
 z0:=Tryz.sizeOf0
 v0:=Tryz.zeroValue0
 t3:=Tryz.underlying3
 a3:=Tryz.isAgg3
 z3:=Tryz.sizeOf3
 v3:=Tryz.zeroValue3
 t4:=Tryz.underlying4
 a4:=Tryz.isAgg4
 z4:=Tryz.sizeOf4
 v4:=Tryz.zeroValue4
 t5:=Tryz.underlying5
 a5:=Tryz.isAgg5
 z5:=Tryz.sizeOf5
 v5:=Tryz.zeroValue5
 t9:=Tryz.underlying9
 a9:=Tryz.isAgg9
 z9:=Tryz.sizeOf9
 v9:=Tryz.zeroValue9
 t28:=Tryz.underlying27
 a28:=Tryz.isAgg27
 z28:=Tryz.sizeOf27
 v28:=Tryz.zeroValue27
 t46:=Tryz.underlying162
 a46:=Tryz.isAgg162
 z46:=Tryz.sizeOf162
 v46:=Tryz.zeroValue162
 t51:=Tryz.underlying242
 a51:=Tryz.isAgg242
 z51:=Tryz.sizeOf242
 v51:=Tryz.zeroValue242
 t53:=Tryz.underlying244
 a53:=Tryz.isAgg244
 z53:=Tryz.sizeOf244
 v53:=Tryz.zeroValue244
 t131:=Tryz.underlying239
 a131:=Tryz.isAgg239
 z131:=Tryz.sizeOf239
 v131:=Tryz.zeroValue239
 t182:=Tryz.underlying233
 a182:=Tryz.isAgg233
 z182:=Tryz.sizeOf233
 v182:=Tryz.zeroValue233
 t183:=Tryz.underlying234
 a183:=Tryz.isAgg234
 z183:=Tryz.sizeOf234
 v183:=Tryz.zeroValue234
 t218:=Tryz.underlying291
 a218:=Tryz.isAgg291
 z218:=Tryz.sizeOf291
 v218:=Tryz.zeroValue291
 t222:=Tryz.underlying295
 a222:=Tryz.isAgg295
 z222:=Tryz.sizeOf295
 v222:=Tryz.zeroValue295
 t228:=Tryz.underlying346
 a228:=Tryz.isAgg346
 z228:=Tryz.sizeOf346
 v228:=Tryz.zeroValue346
 t229:=Tryz.underlying347
 a229:=Tryz.isAgg347
 z229:=Tryz.sizeOf347
 v229:=Tryz.zeroValue347 }
open Go.Sort Go.RowKit in
theorem Tryz.slices_Sort_int (blk off cap:Nat) (zs:List Int) (w:World) (hH:Holds (Value.int .i64) w blk off zs.toArray) (hblk:blk<w.heap.size) (hsz:zs.length<4611686018427387904) :
 Calls Tryz.prog 47 #[.slice (some ⟨blk,off,none⟩) zs.length cap] w fun e w' =>
  e=.returned (.tuple #[])∧∃ n os,w'=grow (putRow (Value.int .i64) (Sort.ahead w n) blk off (zs.mergeSort fun x y=>decide (x≤y)).toArray) os:=Any.slices_Sort_int Tryz.lays189 blk off cap zs w hH hblk hsz
def Tryz.lays190_ren:Go.Shelf.Ren:=⟨fun | 190=>336 | 125=>92 | 258=>358 | 128=>161 | 129=>162 | 302=>373 | 303=>374 | 304=>375 | 305=>376 | 306=>377 | 307=>378 | 308=>293 | 309=>379 | 310=>380 | 333=>393 | 329=>231 | 330=>232 | 334=>394 | 335=>395 | 336=>331 | 344=>401 | n=>n,fun | 31=>46 | 9=>9 | 3=>3 | 46=>162 | 0=>0 | 51=>242 | 53=>244 | 4=>4 | 183=>234 | 182=>233 | 131=>239 | 5=>5 | 218=>291 | 222=>295 | 228=>346 | 229=>347 | n=>n,fun | n=>n⟩
theorem Tryz.lays190 : Go.Proofs.Lays.n190 Tryz.prog Tryz.lays190_ren := {
 mixed:=by kernel_rfl
 f125:=Tryz.func92.trans (congrArg some (by kernel_rfl))
 f128:=Tryz.func161.trans (congrArg some (by kernel_rfl))
 f129:=Tryz.func162.trans (congrArg some (by kernel_rfl))
 f190:=Tryz.func336.trans (congrArg some (by kernel_rfl))
 f258:=Tryz.func358.trans (congrArg some (by kernel_rfl))
 f302:=Tryz.func373.trans (congrArg some (by kernel_rfl))
 f303:=Tryz.func374.trans (congrArg some (by kernel_rfl))
 f304:=Tryz.func375.trans (congrArg some (by kernel_rfl))
 f305:=Tryz.func376.trans (congrArg some (by kernel_rfl))
 f306:=Tryz.func377.trans (congrArg some (by kernel_rfl))
 f307:=Tryz.func378.trans (congrArg some (by kernel_rfl))
 f308:=Tryz.func293.trans (congrArg some (by kernel_rfl))
 f309:=Tryz.func379.trans (congrArg some (by kernel_rfl))
 f310:=Tryz.func380.trans (congrArg some (by kernel_rfl))
 f329:=Tryz.func231.trans (congrArg some (by kernel_rfl))
 f330:=Tryz.func232.trans (congrArg some (by kernel_rfl))
 f333:=Tryz.func393.trans (congrArg some (by kernel_rfl))
 f334:=Tryz.func394.trans (congrArg some (by kernel_rfl))
 f335:=Tryz.func395.trans (congrArg some (by kernel_rfl))
 f336:=Tryz.func331.trans (congrArg some (by kernel_rfl))
 f344:=Tryz.func401.trans (congrArg some (by kernel_rfl))
 t0:=Tryz.underlying0
 a0:=Tryz.isAgg0
 z0:=Tryz.sizeOf0
 v0:=Tryz.zeroValue0
 t3:=Tryz.underlying3
 a3:=Tryz.isAgg3
 z3:=Tryz.sizeOf3
 v3:=Tryz.zeroValue3
 t4:=Tryz.underlying4
 a4:=Tryz.isAgg4
 z4:=Tryz.sizeOf4
 v4:=Tryz.zeroValue4
 t5:=Tryz.underlying5
 a5:=Tryz.isAgg5
 z5:=Tryz.sizeOf5
 v5:=Tryz.zeroValue5
 t9:=Tryz.underlying9
 a9:=Tryz.isAgg9
 z9:=Tryz.sizeOf9
 v9:=Tryz.zeroValue9
 t31:=Tryz.underlying46
 a31:=Tryz.isAgg46
 z31:=Tryz.sizeOf46
 v31:=Tryz.zeroValue46
 t46:=Tryz.underlying162
 a46:=Tryz.isAgg162
 z46:=Tryz.sizeOf162
 v46:=Tryz.zeroValue162
 t51:=Tryz.underlying242
 a51:=Tryz.isAgg242
 z51:=Tryz.sizeOf242
 v51:=Tryz.zeroValue242
 t53:=Tryz.underlying244
 a53:=Tryz.isAgg244
 z53:=Tryz.sizeOf244
 v53:=Tryz.zeroValue244
 t131:=Tryz.underlying239
 a131:=Tryz.isAgg239
 z131:=Tryz.sizeOf239
 v131:=Tryz.zeroValue239
 t182:=Tryz.underlying233
 a182:=Tryz.isAgg233
 z182:=Tryz.sizeOf233
 v182:=Tryz.zeroValue233
 t183:=Tryz.underlying234
 a183:=Tryz.isAgg234
 z183:=Tryz.sizeOf234
 v183:=Tryz.zeroValue234
 t218:=Tryz.underlying291
 a218:=Tryz.isAgg291
 z218:=Tryz.sizeOf291
 v218:=Tryz.zeroValue291
 t222:=Tryz.underlying295
 a222:=Tryz.isAgg295
 z222:=Tryz.sizeOf295
 v222:=Tryz.zeroValue295
 t228:=Tryz.underlying346
 a228:=Tryz.isAgg346
 z228:=Tryz.sizeOf346
 v228:=Tryz.zeroValue346
 t229:=Tryz.underlying347
 a229:=Tryz.isAgg347
 z229:=Tryz.sizeOf347
 v229:=Tryz.zeroValue347 }
open Go.Sort Go.RowKit in
theorem Tryz.slices_Sort_string (blk off cap:Nat) (ss:List (List UInt8)) (w:World) (hH:Holds encStr w blk off ss.toArray) (hblk:blk<w.heap.size) (hsz:ss.length<4611686018427387904) :
 Calls Tryz.prog 336 #[.slice (some ⟨blk,off,none⟩) ss.length cap] w fun e w' =>
  e=.returned (.tuple #[])∧∃ n os,w'=grow (putRow encStr (Sort.ahead w n) blk off (ss.mergeSort fun x y=>decide (x≤y)).toArray) os:=Any.slices_Sort_string Tryz.lays190 blk off cap ss w hH hblk hsz
def Tryz.lays110_ren:Go.Shelf.Ren:=⟨fun | 110=>187 | 109=>252 | n=>n,fun | 31=>46 | 9=>9 | 4=>4 | 3=>3 | 0=>0 | n=>n,fun | n=>n⟩
theorem Tryz.lays110 : Go.Proofs.Lays.n110 Tryz.prog Tryz.lays110_ren := {
 mixed:=by kernel_rfl
 f109:=Tryz.func252.trans (congrArg some (by kernel_rfl))
 f110:=Tryz.func187.trans (congrArg some (by kernel_rfl))
 t0:=Tryz.underlying0
 a0:=Tryz.isAgg0
 z0:=Tryz.sizeOf0
 v0:=Tryz.zeroValue0
 t3:=Tryz.underlying3
 a3:=Tryz.isAgg3
 z3:=Tryz.sizeOf3
 v3:=Tryz.zeroValue3
 t4:=Tryz.underlying4
 a4:=Tryz.isAgg4
 z4:=Tryz.sizeOf4
 v4:=Tryz.zeroValue4
 t9:=Tryz.underlying9
 a9:=Tryz.isAgg9
 z9:=Tryz.sizeOf9
 v9:=Tryz.zeroValue9
 t31:=Tryz.underlying46
 a31:=Tryz.isAgg46
 z31:=Tryz.sizeOf46
 v31:=Tryz.zeroValue46 }
open Go.Lib in
theorem Tryz.slices_Contains_string (b off n c:Nat) (zs:List ByteArray) (x:ByteArray) (w:World) (hz:n≤zs.length) (hbig:n≤9223372036854775807) (hc:∀ j,j<zs.length→w.cell? ⟨b,off+j,none⟩=some (.string (zs.getD j ByteArray.empty))) :
 Calls Tryz.prog 187 #[.slice (some ⟨b,off,none⟩) n c,.string x] w fun e w'=>e=.returned (.bool (Lib.containsS (zs.take n) x))∧w'=w:=Any.slices_Contains_string Tryz.lays110 b off n c zs x w hz hbig hc
open Go.Lib in
theorem Tryz.slices_Contains_string_empty (a:Option Addr) (c:Nat) (x:ByteArray) (w:World) :
 Calls Tryz.prog 187 #[.slice a 0 c,.string x] w fun e w'=>e=.returned (.bool false)∧w'=w:=Any.slices_Contains_string_empty Tryz.lays110 a c x w
def Tryz.laysNm220_ren:Go.Shelf.Ren:=⟨fun | 20=>48 | n=>n,fun | 22=>27 | 3=>3 | 4=>4 | 0=>0 | n=>n,fun | n=>n⟩
theorem Tryz.laysNm220 : Go.Proofs.Lays2.n20 Tryz.prog Tryz.laysNm220_ren := {
 mixed:=by kernel_rfl
 f20:=Tryz.func48.trans (congrArg some (by kernel_rfl))
 t0:=Tryz.underlying0
 a0:=Tryz.isAgg0
 z0:=Tryz.sizeOf0
 v0:=Tryz.zeroValue0
 t3:=Tryz.underlying3
 a3:=Tryz.isAgg3
 z3:=Tryz.sizeOf3
 v3:=Tryz.zeroValue3
 t4:=Tryz.underlying4
 a4:=Tryz.isAgg4
 z4:=Tryz.sizeOf4
 v4:=Tryz.zeroValue4
 t22:=Tryz.underlying27
 a22:=Tryz.isAgg27
 z22:=Tryz.sizeOf27
 v22:=Tryz.zeroValue27
 i3:=by kernel_rfl }
open Go.RowKit Go.Lib Go.Sort in
theorem Tryz.slices_Compact_int (blk off cap:Nat) (zs:List Int) (w:World) (hH:Holds (Value.int .i64) w blk off zs.toArray) (hsz:zs.length≤9223372036854775807) (hcap:zs.length≤cap) :
 Calls Tryz.prog 48 #[.slice (some ⟨blk,off,none⟩) zs.length cap] w fun e w'=>e=.returned (.slice (some ⟨blk,off,none⟩) (Lib.compact zs).length cap)∧∃ q,w'=putRow (Value.int .i64) (Sort.ahead w q) blk off (Lib.compact zs++List.replicate (zs.length - (Lib.compact zs).length) 0).toArray:=Any.slices_Compact_int Tryz.laysNm220 blk off cap zs w hH hsz hcap
open Go.RowKit Go.Lib Go.Sort in
theorem Tryz.slices_Compact_int_empty (a:Option Addr) (cap:Nat) (w:World) :
 Calls Tryz.prog 48 #[.slice a 0 cap] w fun e w'=>e=.returned (.slice a 0 cap)∧w'=w:=Any.slices_Compact_int_empty Tryz.laysNm220 a cap w
def Tryz.lays194_ren:Go.Shelf.Ren:=⟨fun | 194=>301 | n=>n,fun | 31=>46 | 9=>9 | 3=>3 | 4=>4 | 0=>0 | n=>n,fun | n=>n⟩
theorem Tryz.lays194 : Go.Proofs.Lays.n194 Tryz.prog Tryz.lays194_ren := {
 mixed:=by kernel_rfl
 f194:=Tryz.func301.trans (congrArg some (by kernel_rfl))
 t0:=Tryz.underlying0
 a0:=Tryz.isAgg0
 z0:=Tryz.sizeOf0
 v0:=Tryz.zeroValue0
 t3:=Tryz.underlying3
 a3:=Tryz.isAgg3
 z3:=Tryz.sizeOf3
 v3:=Tryz.zeroValue3
 t4:=Tryz.underlying4
 a4:=Tryz.isAgg4
 z4:=Tryz.sizeOf4
 v4:=Tryz.zeroValue4
 t9:=Tryz.underlying9
 a9:=Tryz.isAgg9
 z9:=Tryz.sizeOf9
 v9:=Tryz.zeroValue9
 t31:=Tryz.underlying46
 a31:=Tryz.isAgg46
 z31:=Tryz.sizeOf46
 v31:=Tryz.zeroValue46 }
open Go.RowKit Go.Lib Go.Sort in
theorem Tryz.slices_Compact_string (blk off cap:Nat) (zs:List (List UInt8)) (w:World) (hH:Holds encStr w blk off zs.toArray) (hsz:zs.length≤9223372036854775807) (hcap:zs.length≤cap) :
 Calls Tryz.prog 301 #[.slice (some ⟨blk,off,none⟩) zs.length cap] w fun e w'=>e=.returned (.slice (some ⟨blk,off,none⟩) (Lib.compact zs).length cap)∧∃ q,w'=putRow encStr (Sort.ahead w q) blk off (Lib.compact zs++List.replicate (zs.length - (Lib.compact zs).length) []).toArray:=Any.slices_Compact_string Tryz.lays194 blk off cap zs w hH hsz hcap
open Go.RowKit Go.Lib Go.Sort in
theorem Tryz.slices_Compact_string_empty (a:Option Addr) (cap:Nat) (w:World) :
 Calls Tryz.prog 301 #[.slice a 0 cap] w fun e w'=>e=.returned (.slice a 0 cap)∧w'=w:=Any.slices_Compact_string_empty Tryz.lays194 a cap w
open Go.RowKit Go.Sort in
theorem Tryz.slices_Sort_string_none (p:Option Addr) (cap:Nat) (w:World) :
 Calls Tryz.prog 336 #[.slice p 0 cap] w fun e w'=>e=.returned (.tuple #[])∧w'=w:=Any.slices_Sort_string_none Tryz.lays190 p cap w
open Go.RowKit Go.Sort in
theorem Tryz.slices_Sort_int_none (p:Option Addr) (cap:Nat) (w:World) :
 Calls Tryz.prog 47 #[.slice p 0 cap] w fun e w'=>e=.returned (.tuple #[])∧w'=w:=Any.slices_Sort_int_none Tryz.lays189 p cap w
end Go.Proofs
namespace Go.Proofs.YtabliahkhafddaaGreat
open Go.RowKit
abbrev Str:=List UInt8
def bs (l:Str):ByteArray:=⟨l.toArray⟩
theorem cell_lt {w:World} {a:Addr} {v:Value} (h:w.cell? a=some v):a.block<w.heap.size:=by
 unfold World.cell? at h
 split at h
 ·rename_i hh;exact (Array.getElem?_eq_some_iff.1 hh).1
 ·cases h
theorem bup {a b c:World} (h:Below a.heap.size a b) (k:Below b.heap.size b c):Below a.heap.size a c :=
 h.trans (k.mono h.size)
theorem ba_len (s:ByteArray):s.data.toList.length=s.size:=by rw [Array.length_toList];rfl
theorem bs_toList (l:Str):(bs l).toList=l:=by rw [ByteArray.toList_eq];rfl
theorem ret_bool {a b:Bool} (h:a=b):Ending.returned (.bool a)=.returned (.bool b):=by rw [h]
theorem Q2m {w w':World} {a:Addr} {v:Value} (h:w.cell? a=some v) (hb:Below w.heap.size w w'):w'.cell? a=some v:=by
 rw [hb.cell (cell_lt h)];exact h
theorem map_take_succ {α β:Type} (f:α→β) (l:List α) (k:Nat) (h:k<l.length):(l.take (k+1)).map f=(l.take k).map f++[f l[k]]:=by
 rw [List.take_succ_eq_append_getElem h,List.map_append];rfl
theorem Q0g (w:World) (o:Obj):Below w.heap.size w (w.alloc o):=(Below.refl _ w).alloc (Nat.le_refl _) o
theorem heap_al_new (w:World) (o:Obj):(w.alloc o).heap[w.heap.size]?=some o:=by
 show (w.heap.push o)[w.heap.size]?=_;simp
end Go.Proofs.YtabliahkhafddaaGreat
namespace Go.Proofs.YtabliahkhafddaaGreat
open Go.ChangeShapes Go.WideShapes Go.RowKit Go.Ev
inductive Simp where
 | mk (kind:Int) (name value:ByteArray) (a b:Int) (l:List Simp)
namespace Simp
def kind:Simp→Int | .mk k _ _ _ _ _=>k
def name:Simp→ByteArray | .mk _ n _ _ _ _=>n
def value:Simp→ByteArray | .mk _ _ v _ _ _=>v
def l:Simp→List Simp | .mk _ _ _ _ _ l=>l
end Simp
mutual
def encS:Simp→List AV
 | .mk k n v a b l=>[.g (.int .i64 k),.g (.string n),.g (.string v),.g (.int .i64 a),.g (.int .i64 b),.sl l.length 6 (encSs l)]
def encSs:List Simp→List AV
 | []=>[]
 | x::xs=>encS x++encSs xs
end
structure Part where
 comb:Int
 l:List Simp
structure Cx where
 parts:List Part
 pseudo:ByteArray
def encP (p:Part):List AV:=[.g (.int .i64 p.comb),.sl p.l.length 6 (p.l.flatMap encS)]
def encC (c:Cx):List AV:=[.sl c.parts.length 2 (c.parts.flatMap encP),.g (.string c.pseudo)]
section
variable {w:World}
theorem row_get {b o:Nat} {cs:List AV} (h:RowAt w b o cs) {i:Nat} {a:AV} (hi:cs[i]?=some a):∃ v,w.cell? ⟨b,o+i,none⟩=some v∧At w a v:=(RowR.get h hi).2
theorem flat_get {α:Type} (enc:α→List AV) (sz:Nat) (hsz:∀ x,(enc x).length=sz):∀ (l:List α) (k:Nat) (hk:k<l.length) (j:Nat),j<sz→(l.flatMap enc)[k*sz+j]?=(enc l[k])[j]?
 | x::xs,0,_,j,hj=>by
   rw [List.flatMap_cons,Nat.zero_mul,Nat.zero_add,List.getElem?_append_left (by rw [hsz];exact hj)];rfl
 | x::xs,k+1,hk,j,hj=>by
   rw [List.flatMap_cons,List.getElem?_append_right (by rw [hsz,Nat.succ_mul];omega),hsz];rw [show (k+1)*sz+j - sz=k*sz+j by rw [Nat.succ_mul];omega];exact flat_get enc sz hsz xs k (by simpa using hk) j hj
theorem At.sl_form {n sz:Nat} {cs:List AV} {v:Value} (h:At w (.sl n sz cs) v):∃ ad cap,v=.slice ad n cap∧n≤cap:=by
 obtain ⟨ad,cap,rfl,hc,-⟩:=h;exact ⟨_,_,rfl,hc⟩
end
section
variable {H:Type} {enc:TypeId×Value→H} {P:Program} {W:World} {sp:Nat→Bool} {held:Bool}
def Fits (P:Program) (t:TypeId) (d:DataW H):Prop:=∀ x∈d.weights P t,x≤reachBytes
theorem mem_weightsAll {e:TypeId}:∀ {l:List (DataW H)} {d:DataW H},d∈l→∀ x∈d.weights P e,x∈DataW.weightsAll P e l
 | y::l,d,h,x,hx=>by
   simp only [DataW.weightsAll,List.mem_append];rcases List.mem_cons.1 h with rfl | h
   ·exact .inl hx
   ·exact .inr (mem_weightsAll h x hx)
theorem Q2h:∀ {ts:List TypeId} {l:List (DataW H)} {i:Nat} {t:TypeId} {d:DataW H},ts[i]?=some t→l[i]?=some d→∀ x∈d.weights P t,x∈DataW.weightsEach P ts l
 | [],_,_,_,_,h,_,_,_=>by simp at h
 | _::_,[],_,_,_,_,h,_,_=>by simp at h
 | t'::ts,d'::l,0,t,d,h1,h2,x,hx=>by
   simp only [List.getElem?_cons_zero,Option.some.injEq] at h1 h2;subst h1 h2;simp only [DataW.weightsEach,List.mem_append];exact .inl hx
 | t'::ts,d'::l,i+1,t,d,h1,h2,x,hx=>by
   simp only [DataW.weightsEach,List.mem_append];exact .inr (Q2h (i:=i) (by simpa using h1) (by simpa using h2) x hx)
theorem open_sl {α:Type} (Good:α→Prop) (en:α→List AV) (sz:Nat) (hsz:∀ x,(en x).length=sz) (hpos:0<sz) {t e:TypeId} (ht:P.underlying t=some (.slice e)) (hc:P.cellsOf e=sz) {fuel:Nat}
 (hel:∀ m,m<fuel→∀ cs x,DataW.trod enc P W 0 sp held m e cs=some x→Fits P e x.1→∃ a:α,Ats W (en a) cs∧Good a) {cs:List Value} {x:DataW H×List MemPlace} (h:DataW.trod enc P W 0 sp held fuel t cs=some x) (hfit:Fits P t x.1) :
 ∃ (l:List α) (v:Value),cs=[v]∧At W (.sl l.length sz (l.flatMap en)) v∧(∀ a∈l,Good a)∧l.length*P.bytesOf e≤reachBytes:=by
 rcases DataW.trod_slice ht h with ⟨rfl,-⟩ | ⟨ad,len,cap,elems,rest,n,hf,rfl,rfl,-,hl,-,hlen,hcell,-,-⟩
 ·exact ⟨[],_,rfl,⟨none,0,rfl,Nat.le_refl _,.inl rfl⟩,by simp,by simp⟩
 ·have hw:(Go.DataW.slice (elems.map (·.1)) (rest.map (·.1))).weights P t=((elems.map (·.1)).length+(rest.map (·.1)).length)*P.bytesOf e::(DataW.weightsAll P e (elems.map (·.1))++DataW.weightsAll P e (rest.map (·.1))):=by
   rw [DataW.weights,ht]
  have hbound:len*P.bytesOf e≤reachBytes:=by
   have h9:=hfit _ (by rw [hw];exact List.mem_cons_self);rw [List.length_map,hlen] at h9;exact Nat.le_trans (Nat.mul_le_mul_right _ (Nat.le_add_right _ _)) h9
  have each:∀ i,i<len→∃ (a:α) (ci:List Value),W.cells? 0 (ad.add (i*sz)) sz=some ci∧Ats W (en a) ci∧Good a:=fun i hi=>by
   have h1:=hcell i hi;rw [List.getElem?_eq_getElem (by omega),hc,Option.bind_eq_some_iff] at h1;obtain ⟨ci,h2,h3⟩:=h1
   obtain ⟨a,ha,hg⟩:=hel n (by omega) ci _ h3 (fun y hy=>hfit y (by
    rw [hw]
    exact List.mem_cons_of_mem _ (List.mem_append_left _ (mem_weightsAll (List.mem_map.2 ⟨_,List.getElem_mem (by omega),rfl⟩) y hy))))
   exact ⟨a,ci,h2,ha,hg⟩
  have : ∃ l:List α,l.length=len∧(∀ a∈l,Good a)∧∀ i (hi:i<l.length),∃ ci:List Value,W.cells? 0 (ad.add (i*sz)) sz=some ci∧Ats W (en l[i]) ci:=by
   clear h hcell hlen hw hfit;have key:∀ m,m≤len→∃ l:List α,l.length=m∧(∀ a∈l,Good a)∧∀ i (hi:i<l.length),∃ ci:List Value,W.cells? 0 (ad.add (i*sz)) sz=some ci∧Ats W (en l[i]) ci:=by
    intro m
    induction m with
    | zero=>intro _;exact ⟨[],rfl,by simp,fun i hi=>by simp at hi⟩
    | succ m ih =>
      intro hm;obtain ⟨l,rfl,hgl,h2⟩:=ih (by omega);obtain ⟨a,ci,h3,h4,hga⟩:=each l.length (by omega);refine ⟨l++[a],by simp,fun y hy=>?_,fun i hi=>?_⟩
      ·rcases List.mem_append.1 hy with hy | hy
       ·exact hgl y hy
       ·simp at hy;subst hy;exact hga
      by_cases hil:i<l.length
      ·obtain ⟨cj,h5,h6⟩:=h2 i hil
       exact ⟨cj,h5,by rw [List.getElem_append_left hil];exact h6⟩
      ·have:i=l.length:=by simp at hi;omega
       subst this;exact ⟨ci,h3,by rw [List.getElem_append_right (Nat.le_refl _)];simpa using h4⟩
   exact key len (Nat.le_refl _)
  obtain ⟨l,hll,hgl,hl2⟩:=this;refine ⟨l,_,rfl,⟨some ad,cap,by rw [hll],by rw [hll];exact hl,?_⟩,hgl,by rw [hll];exact hbound⟩
  by_cases h0:l.length=0
  ·exact .inl h0
  ·right
   have hrow:∀ (i:Nat) (a:AV),(l.flatMap en)[i]?=some a→∃ v,W.cell? (ad.add i)=some v∧At W a v:=by
    intro i a hi;have hlt:i<l.length*sz:=by
     have:=(List.getElem?_eq_some_iff.1 hi).1;have e:(l.flatMap en).length=l.length*sz:=by
      clear hi this hl2 hll h0 hgl
      induction l with
      | nil=>simp
      | cons x xs ih=>rw [List.flatMap_cons,List.length_append,ih,hsz,List.length_cons,Nat.succ_mul];omega
     omega
    have hk:i / sz<l.length:=Nat.div_lt_of_lt_mul (by rw [Nat.mul_comm];exact hlt);have hj:i % sz<sz:=Nat.mod_lt _ hpos;obtain ⟨ci,h5,h6⟩:=hl2 (i / sz) hk;have e2:i / sz*sz+i % sz=i:=by rw [Nat.mul_comm];exact Nat.div_add_mod i sz
    have h7:=flat_get en sz hsz l (i / sz) hk (i % sz) hj;rw [e2,hi] at h7;obtain ⟨-,h8,h9⟩:=World.cells?_some h5;obtain ⟨v,h10,h11⟩:=VRs.get h6 h7.symm;refine ⟨v,?_,h11⟩;have h12:=h9 (i % sz) hj;rw [h10] at h12;rw [←h12]
    congr 1
    obtain ⟨b,o,s⟩:=ad;unfold Addr.add
    split <;> split <;> (try split) <;> simp_all <;> omega
   have hspot:ad=⟨ad.block,ad.off,none⟩:=by
    obtain ⟨v,h1,-⟩:=hrow 0 ((l.flatMap en)[0]'(by
     cases l with
     | nil=>exact absurd rfl h0
     | cons x xs=>rw [List.flatMap_cons,List.length_append,hsz];omega)) (List.getElem?_eq_getElem _)
    obtain ⟨b,o,s⟩:=ad
    cases s with
    | none=>rfl
    | some _ =>
      exfalso;revert h1;simp only [Addr.add,World.cell?]
      split <;> simp
   refine ⟨ad.block,ad.off,by rw [←hspot],RowR.mk ?_ fun i a hi=>?_⟩
   ·obtain ⟨v,h1,-⟩:=hrow 0 ((l.flatMap en)[0]'(by
     cases l with
     | nil=>exact absurd rfl h0
     | cons x xs=>rw [List.flatMap_cons,List.length_append,hsz];omega)) (List.getElem?_eq_getElem _)
    rw [hspot] at h1;have:=cell_lt h1;simpa [Addr.add] using this
   ·obtain ⟨v,h1,h2⟩:=hrow i a hi
    refine ⟨v,?_,h2⟩;rw [hspot] at h1;rw [show (⟨ad.block,ad.off+i,none⟩:Addr)=(⟨ad.block,ad.off,none⟩:Addr).add i by simp [Addr.add]];exact h1
end
theorem c_int:Tryz.prog.cellsOf 3=1:=by kernel_rfl
theorem c_str:Tryz.prog.cellsOf 9=1:=by kernel_rfl
section
variable {H:Type} {enc:TypeId×Value→H} {W:World} {sp:Nat→Bool} {held:Bool}
theorem field_of {t:TypeId} {fs:Array Field} (ht:Tryz.prog.underlying t=some (.struct fs)) {fuel:Nat} {cs:List Value} {x:DataW H×List MemPlace} (h:DataW.trod enc Tryz.prog W 0 sp held fuel t cs=some x) :
 cs.length=Tryz.prog.cellsOf t∧∃ n,fuel=n+1∧∀ (i:Nat) (f:Field),fs[i]?=some f→∃ y,DataW.trod enc Tryz.prog W 0 sp held n f.type ((cs.drop f.offset).take (Tryz.prog.cellsOf f.type))=some y∧(Fits Tryz.prog t x.1→Fits Tryz.prog f.type y.1):=by
 obtain ⟨xs,n,hf,rfl,hl,hlen,hfi⟩:=DataW.trod_struct ht h;refine ⟨hl,n,hf,fun i f hi=>?_⟩;have hlt:i<xs.length:=by rw [hlen];exact (Array.getElem?_eq_some_iff.1 hi).1
 refine ⟨xs[i],by rw [hfi i f hi,List.getElem?_eq_getElem hlt],fun hfit z hz=>hfit z ?_⟩;rw [DataW.weights,ht];exact Q2h (i:=i) (by rw [List.getElem?_map,Array.getElem?_toList,hi];rfl) (by rw [List.getElem?_map,List.getElem?_eq_getElem hlt];rfl) z hz
end
end Go.Proofs.YtabliahkhafddaaGreat
namespace Go.Proofs.YtabliahkhafddaaGreat
open Go.RowKit Go.Ev
end Go.Proofs.YtabliahkhafddaaGreat
namespace Go.Proofs.YtabliahkhafddaaGreat
open Go.ChangeShapes Go.WideShapes Go.RowKit Go.Ev
inductive Vl where
 | mk (kind tk:Int) (text:ByteArray) (n:Int) (l:List Vl)
namespace Vl
def kind:Vl→Int | .mk k _ _ _ _=>k
def tk:Vl→Int | .mk _ k _ _ _=>k
def text:Vl→ByteArray | .mk _ _ t _ _=>t
def n:Vl→Int | .mk _ _ _ n _=>n
def l:Vl→List Vl | .mk _ _ _ _ l=>l
end Vl
mutual
def encV:Vl→List AV
 | .mk k t s n l=>[.g (.int .i64 k),.g (.int .i64 t),.g (.string s),.g (.int .i64 n),.sl l.length 5 (encVs l)]
def encVs:List Vl→List AV
 | []=>[]
 | x::xs=>encV x++encVs xs
end
theorem encVs_flat:∀ l:List Vl,encVs l=l.flatMap encV
 | []=>by rw [encVs];rfl
 | x::xs=>by rw [encVs,encVs_flat xs,List.flatMap_cons]
theorem Q3i (x:Vl):(encV x).length=5:=by cases x;rw [encV];rfl
theorem vl_lt {l:List Vl} {x:Vl} (h:x∈l):SizeOf.sizeOf x.l<SizeOf.sizeOf l:=by
 have h1:=List.sizeOf_lt_of_mem h
 cases x
 simp [Vl.l] at h1 ⊢;omega
section
variable {H:Type} {enc:TypeId×Value→H} {W:World} {sp:Nat→Bool} {held:Bool}
end
end Go.Proofs.YtabliahkhafddaaGreat
namespace Go.Proofs.YtabliahkhafddaaGreat
open Go.RowKit Go.Ev
mutual
def cntV:Vl→Nat
 | .mk _ _ _ _ l=>1+cntVs l
def cntVs:List Vl→Nat
 | []=>0
 | x::xs=>cntV x+cntVs xs
end
theorem cntV_eq (x:Vl):cntV x=1+cntVs x.l:=by cases x;rw [cntV];rfl
theorem cntVs_append:∀ (a b:List Vl),cntVs (a++b)=cntVs a+cntVs b
 | [],b=>by simp [cntVs]
 | x::a,b=>by simp only [List.cons_append,cntVs,cntVs_append a b];omega
theorem cntVs_len:∀ (a:List Vl),a.length≤cntVs a
 | []=>by simp [cntVs]
 | x::a=>by
   have:=cntVs_len a;simp only [List.length_cons,cntVs,cntV_eq];omega
theorem cntVs_snoc {l:List Vl} {k:Nat} (hk:k<l.length):cntVs (l.take (k+1))=cntVs (l.take k)+1+cntVs l[k].l:=by
 rw [List.take_succ_eq_append_getElem hk,cntVs_append];simp only [cntVs,cntV_eq];omega
mutual
theorem VR_keep {w w':World} {I I':Nat→Prop} (him:∀ rb,I rb→I' rb) (hs:∀ rb,I rb→w'.heap[rb]?=w.heap[rb]?):∀ (a:AV) {v:Value},VR w ⟨fun _=>none,I⟩ a v→VR w' ⟨fun _=>none,I'⟩ a v
 | .any,_,_=>trivial
 | .g _,_,hv=>hv
 | .ptr b o,_,⟨rb,ro,h1,h2⟩=>by cases h1
 | .ept cs o,_,⟨rb,ro,h1,h2⟩=>⟨rb,ro,h1,RowR_keep him hs cs h2⟩
 | .sl n _ cs,_,⟨a,cap,h1,hc,h2⟩=>⟨a,cap,h1,hc,h2.imp id fun ⟨rb,ro,h3,h4⟩=>⟨rb,ro,h3,RowR_keep him hs cs h4⟩⟩
 | .gs b o n sz k,_,⟨rb,ro,o',cap,c,e,fr,h1,h2,h3,h4,h5,h6⟩=>by cases h1
 | .z0,_,hv=>hv
 | .mp b,_,⟨rb,h1,h2⟩=>by cases h1
 | .fn f x y,_,⟨rx,ry,h1,h2,h3⟩=>⟨rx,ry,h1,Q2d him hs x h2,Q2d him hs y h3⟩
 | .agg cs,_,⟨rc,h1,h2⟩=>⟨rc,h1,Q2d him hs cs h2⟩
 | .tup vs,_,⟨rc,h1,h2⟩=>⟨rc,h1,Q2d him hs vs h2⟩
 | .ifc t v,_,⟨x,h1,h2⟩=>⟨x,h1,VR_keep him hs v h2⟩
theorem Q2d {w w':World} {I I':Nat→Prop} (him:∀ rb,I rb→I' rb) (hs:∀ rb,I rb→w'.heap[rb]?=w.heap[rb]?):∀ (a:List AV) {v:List Value},VRs w ⟨fun _=>none,I⟩ a v→VRs w' ⟨fun _=>none,I'⟩ a v
 | [],_,hv=>hv
 | a::la,_,⟨v,vs,h1,h2,h3⟩=>⟨v,vs,h1,VR_keep him hs a h2,Q2d him hs la h3⟩
theorem RowR_keep {w w':World} {I I':Nat→Prop} (him:∀ rb,I rb→I' rb) (hs:∀ rb,I rb→w'.heap[rb]?=w.heap[rb]?) {rb:Nat}:∀ {o:Nat} (a:List AV),RowR w ⟨fun _=>none,I⟩ rb o a→RowR w' ⟨fun _=>none,I'⟩ rb o a
 | _,[],_=>trivial
 | _,a::la,⟨h1,⟨v,h2,h3⟩,h4⟩=>⟨him _ h1,⟨v,by rw [World.cell?_of_block (w:=w) (hs _ h1)];exact h2,VR_keep him hs a h3⟩,RowR_keep him hs la h4⟩
end
def AtB (z:Nat) (w:World) (a:AV) (v:Value):Prop:=VR w ⟨fun _=>none,fun b=>b<z⟩ a v
theorem At.toB {w:World} {a:AV} {v:Value} (h:At w a v):AtB w.heap.size w a v:=h
theorem AtB.below {z:Nat} {w w':World} {a:AV} {v:Value} (h:AtB z w a v) (hb:Below z w w'):AtB z w' a v :=
 VR_keep (fun _ h=>h) (fun rb hr=>hb.block rb hr) a h
theorem AtB.toAt {z:Nat} {w:World} {a:AV} {v:Value} (h:AtB z w a v) (hz:z≤w.heap.size):At w a v :=
 VR_keep (fun _ h=>Nat.lt_of_lt_of_le h hz) (fun _ _=>rfl) a h
theorem AtB.mono {z z':Nat} {w:World} {a:AV} {v:Value} (h:AtB z w a v) (hz:z≤z'):AtB z' w a v :=
 VR_keep (fun _ h=>Nat.lt_of_lt_of_le h hz) (fun _ _=>rfl) a h
theorem AtB.sl_form {z n sz:Nat} {cs:List AV} {w:World} {v:Value} (h:AtB z w (.sl n sz cs) v):∃ ad cap,v=.slice ad n cap∧n≤cap:=by
 obtain ⟨ad,cap,rfl,hc,-⟩:=h;exact ⟨_,_,rfl,hc⟩
theorem slB_cells {α:Type} (enc:α→List AV) (sz:Nat) (hsz:∀ x,(enc x).length=sz) (hs0:0<sz) {z:Nat} {w:World} {l:List α} {v:Value} (h:AtB z w (.sl l.length sz (l.flatMap enc)) v) :
 (l=[]∧∃ ad cap,v=.slice ad 0 cap)∨∃ b o cap,v=.slice (some ⟨b,o,none⟩) l.length cap∧l.length≤cap∧0<l.length∧b<z ∧
   ∀ k (hk:k<l.length) j a,(enc l[k])[j]?=some a→∃ x,w.cell? ⟨b,o+(k*sz+j),none⟩=some x∧AtB z w a x:=by
 obtain ⟨ad,cap,rfl,hcap,h0⟩:=h
 by_cases hl:l=[]
 ·subst hl;exact .inl ⟨rfl,ad,cap,rfl⟩
 ·have hpos:0<l.length:=List.length_pos_iff.2 hl
  rcases h0 with h0 | ⟨rb,ro,rfl,hr⟩
  ·omega
  ·have hI:rb<z:=by
    have h1:(l.flatMap enc)[0*sz+0]?=(enc l[0])[0]?:=flat_get enc sz hsz l 0 hpos 0 hs0;have h2:∃ a,(enc l[0])[0]?=some a:=⟨(enc l[0])[0]'(by rw [hsz];exact hs0),List.getElem?_eq_getElem _⟩;obtain ⟨a,ha⟩:=h2;rw [ha] at h1;exact (RowR.get hr h1).1
   refine .inr ⟨rb,ro,cap,rfl,hcap,hpos,hI,fun k hk j a hj=>?_⟩;have hjs:j<sz:=by have:=(List.getElem?_eq_some_iff.1 hj).1;rw [hsz] at this;exact this
   exact (RowR.get hr (by rw [flat_get enc sz hsz l k hk j hjs];exact hj)).2
theorem vlB_cells {z:Nat} {w:World} {b o:Nat} {l:List Vl} (h:∀ k (hk:k<l.length) j a,(encV l[k])[j]?=some a→∃ x,w.cell? ⟨b,o+(k*5+j),none⟩=some x∧AtB z w a x) {k:Nat} (hk:k<l.length) :
 w.cell? ⟨b,o+k*5,none⟩=some (.int .i64 l[k].kind)∧w.cell? ⟨b,o+k*5+1,none⟩=some (.int .i64 l[k].tk)∧w.cell? ⟨b,o+k*5+2,none⟩=some (.string l[k].text) ∧
  w.cell? ⟨b,o+k*5+3,none⟩=some (.int .i64 l[k].n) ∧
  ∃ ad cap,w.cell? ⟨b,o+k*5+4,none⟩=some (.slice ad l[k].l.length cap)∧AtB z w (.sl l[k].l.length 5 (l[k].l.flatMap encV)) (.slice ad l[k].l.length cap):=by
 have h9:=h k hk;generalize l[k]=x at *;obtain ⟨kd,tk,tx,n,ll⟩:=x;rw [encV,encVs_flat] at h9;obtain ⟨x0,e0,v0⟩:=h9 0 _ rfl;obtain ⟨x1,e1,v1⟩:=h9 1 _ rfl;obtain ⟨x2,e2,v2⟩:=h9 2 _ rfl;obtain ⟨x3,e3,v3⟩:=h9 3 _ rfl;obtain ⟨x4,e4,v4⟩:=h9 4 _ rfl;obtain rfl:x0=_:=v0;obtain rfl:x1=_:=v1;obtain rfl:x2=_:=v2;obtain rfl:x3=_:=v3;have v4':=v4;obtain ⟨ad,cap,rfl,-⟩:=AtB.sl_form v4;simp only [Nat.add_zero,←Nat.add_assoc] at e0 e1 e2 e3 e4;exact ⟨e0,e1,e2,e3,ad,cap,e4,v4'⟩
theorem upon_yield {F:Fence} (hd:F.depth=none) {n:Nat} {P:Program} {o:Oper} {a:Act} {K:Act→World→Prop} {Q:Exit→Act→World→Prop} {l:Nat} {args:Array Value} {W:World} {S:World→Prop}
 (h:YieldAt F (n - 1) P l args W fun e W'=>e=.returned (.bool true)∧S W') (hk:∀ W',S W'→K (a.put o.dst (.bool true)) W'):Oper.uponIn F n P o a K Q ((Instr.yield l args).run P W):=by
 obtain ⟨fn,tmps,assign,body,hy,hR⟩:=h;rw [hy];refine ⟨fun hs=>absurd hs (by rw [hd];simp),hR.mono ?_⟩;rintro e W' ⟨rfl,hs⟩;exact hk W' hs
end Go.Proofs.YtabliahkhafddaaGreat
namespace Go.Proofs.YtabliahkhafddaaGreat
open Go.RowKit
structure KO (Ow:World→Nat→Prop) (z:Nat) (A B:World):Prop where
 same:∀ k,k<A.heap.size→¬Ow A k→B.heap[k]?=A.heap[k]?
 own:∀ k,k<A.heap.size→Ow B k→Ow A k
 lt:∀ k,Ow B k→k<B.heap.size
 below:Below z A B
section
variable {Ow:World→Nat→Prop} {z:Nat}
theorem KO.refl {A:World} (h:∀ k,Ow A k→k<A.heap.size):KO Ow z A A:=⟨fun _ _ _=>rfl,fun _ _ h=>h,h,Below.refl _ _⟩
theorem KO.trans {A B C:World} (h:KO Ow z A B) (k:KO Ow z B C):KO Ow z A C :=
 ⟨fun i hi hn=>(k.same i (Nat.lt_of_lt_of_le hi h.below.size) fun ho=>hn (h.own i hi ho)).trans (h.same i hi hn),fun i hi ho=>h.own i hi (k.own i (Nat.lt_of_lt_of_le hi h.below.size) ho),k.lt,h.below.trans k.below⟩
theorem KO.grow {A B:World} (hb:Below A.heap.size A B) (hz:z≤A.heap.size) (ha:∀ k,Ow B k→Ow A k) (h:∀ k,Ow A k→k<A.heap.size):KO Ow z A B :=
 ⟨fun k hk _=>hb.block k hk,fun k _ ho=>ha k ho,fun k ho=>Nat.lt_of_lt_of_le (h k (ha k ho)) hb.size,hb.mono hz⟩
end
def IterAll {α:Type} (P:Program) (g:Nat) (lb:Array Value) (encs:α→Array Value) (z N:Nat) (S:List α→Prop) (w:World):Prop :=
 ∀ (n l:Nat) (Ow:World→Nat→Prop) (J:List α→World→Prop) (W:World),Below w.heap.size w W→(∀ k,Ow W k→k<W.heap.size)→(∀ s A B,J s A→Below A.heap.size A B→J s B) →
   (∀ A B k,W.heap.size≤A.heap.size→Below A.heap.size A B→Ow B k→Ow A k) →
   (∀ m pre x A,J pre A→pre.length<N→W.heap.size≤A.heap.size→YieldAt Fence.wide m P l (encs x) A fun e B=>e=.returned (.bool true)∧J (pre++[x]) B∧KO Ow z A B) →
   J [] W→CallsIn Fence.wide n P g (#[.func (.yield l) #[] #[]]++lb) W fun e B=>(∃ v,e=.returned v)∧∃ xs,S xs∧J xs B∧KO Ow z W B
section
variable {n:Nat} {P:Program} {α:Type}
theorem range_all {g:Operand} {ps:Array Tmp} {assign body:Code} {Q:Exit→Act→World→Prop} {a:Act} {w:World}
 {gf:Nat} {lb:Array Value} (hg:a.eval g=.func (.func gf) #[] lb) (eg:∀ args w,(callFunc gf args).run P w=.ok (.enter gf args) w)
 {encs:α→Array Value} (hps:∀ x,(encs x).size=ps.size) {z N:Nat} {S:List α→Prop} (hzw:z≤w.heap.size)
 (I:List α→World→Prop) (Ow:World→Nat→Prop) (h0:I [] w) (hIa:∀ s A B,I s A→Below A.heap.size A B→I s B)
 (hIL:∀ s A r r',I s A→A.heap[w.heap.size+1]?=some (.loop r)→I s (A.putObj (w.heap.size+1) (.loop r')))
 (hOw:∀ k,Ow w k→k<w.heap.size) (hOa:∀ A B k,w.heap.size≤A.heap.size→Below A.heap.size A B→Ow B k→Ow A k) (hOL:∀ A r r' k,A.heap[w.heap.size+1]?=some (.loop r)→(Ow (A.putObj (w.heap.size+1) (.loop r')) k↔Ow A k))
 (hOD:∀ s A,I s A→¬Ow A w.heap.size∧¬Ow A (w.heap.size+1))
 (hseq:IterAll P gf lb encs z N S w) (a₁:α→Act)
 (hassign:∀ (l:Nat) (x:α) (W:World) (m:Nat) (K:Act→World→Prop),K (a₁ x) W →
   assign.wpIn (Fence.wide.inRound l) m P (Exit.then K (fun _ _ _=>False)) { tmps:=(ps.zip (encs x)).foldl (fun t (p,v)=>t.setIfInBounds p v) a.tmps,defers:=[] } W)
 (hbody:∀ (l:Nat) (pre:List α) (x:α) (W:World) (m:Nat),I pre W→pre.length<N→w.heap.size+2≤W.heap.size→body.wpIn (Fence.wide.inRound l) m P (fun e _ B=>e=.normal∧I (pre++[x]) B∧KO Ow z W B) (a₁ x) W)
 (hdone:∀ (D:Nat) (xs:List α) (W:World),w.heap.size≤D→S xs→I xs W→Below z w W→W.heap[D]?=some (.deferred (some []))→Q .normal { a with defers:={ target:=.collected D,args:=#[] }::a.defers } W) :
 (Code.rangeFunc g ps assign body).wpIn Fence.wide n P Q a w:=by
 refine wpIn_rangeFunc fun fn hfn=>?_;rw [show Fence.wide.round=none from rfl];generalize hL:w.heap.size+1=L at *;generalize hD:w.heap.size=D at *;obtain ⟨mk,hmk⟩:∃ mk:LoopState→Option Code→Loop,mk=fun st pe=>{ state:=st,pending:=pe,fn,tmps:=a.tmps,params:=ps,assign,body,defers:=D }:=⟨_,rfl⟩;have e1:∀ pe st,(mk st pe).state=st:=fun pe st=>by rw [hmk]
 have e2:∀ pe st,(mk st pe).pending=pe:=fun pe st=>by rw [hmk]
 have e3:∀ pe st pe' st',{ mk st pe with state:=st',pending:=pe' }=mk st' pe':=fun pe st pe' st'=>by rw [hmk]
 have e4:∀ pe st st',{ mk st pe with state:=st' }=mk st' pe:=fun pe st st'=>by rw [hmk]
 have hne:D≠L:=by omega
 let W1:=(w.alloc (.deferred (some []))).alloc (.loop (mk .ready none))
 have hbook:Book L D (mk .ready none) W1:=by
  refine ⟨?_,?_⟩
  ·have:=World.alloc_heap_new (w.alloc (.deferred (some []))) (.loop (mk .ready none))
   rw [World.size_alloc,hD,hL] at this;exact this
  ·have:=World.alloc_heap_new w (.deferred (some []))
   rw [hD] at this;exact (Below.heap_alloc _ _ _ (by simp;omega)).trans this
 have hb1:Below w.heap.size w W1:=((Below.refl _ w).alloc (Nat.le_refl _) _).alloc (by simp) _;have hI1:I [] W1:=hIa _ _ _ h0 hb1;have hs1:W1.heap.size=D+2:=by show ((w.alloc _).alloc _).heap.size=_;simp;omega
 have hOw1:∀ k,Ow W1 k→k<W1.heap.size:=fun k hk=>by have:=hOw k (hOa _ _ _ (by omega) hb1 hk);omega
 refine ⟨L,[{ target:=.collected D,args:=#[] }],W1,{ target:=.fn (.func gf) lb,args:=#[.func (.yield L) #[] #[]] },W1,gf,#[.func (.yield L) #[] #[]]++lb,W1,?_,?_,fun f _=>trivial,?_,fun h=>(by cases h),?_⟩
 ·have:=run_enterLoop_outer (P:=P) (w:=w) fn a.tmps ps assign body
  rw [hD,hL] at this;rw [this];show _=Result.ok _ ((w.alloc _).alloc (.loop (mk .ready none)));rw [hmk]
 ·simp only [resolve,hg];simp [go_sem]
 ·simp [invoke,go_sem,eg]
 have hLsz:L<W1.heap.size:=by omega
 refine (hseq (n - 1) L (fun W k=>k=L∨Ow W k) (fun pre W=>I pre W∧Book L D (mk .ready none) W) W1 hb1 (fun k hk=>hk.elim (fun h=>by omega) (hOw1 k))
  (fun s A B h hb=>⟨hIa _ _ _ h.1 hb,⟨(hb.block _ (Array.getElem?_eq_some_iff.1 h.2.1).1).trans h.2.1,(hb.block _ (Array.getElem?_eq_some_iff.1 h.2.2).1).trans h.2.2⟩⟩)
  (fun A B k hs hb hk=>hk.imp id (hOa _ _ _ (by omega) hb)) ?_ ⟨hI1,hbook⟩).mono ?_
 ·rintro m pre x A ⟨hi,hbk⟩ hpN hsz
  have hy:=run_yield (P:=P) (args:=encs x) hbk.1 (by rw [hmk];exact hps x);refine ⟨fn,(ps.zip (encs x)).foldl (fun t (p,v)=>t.setIfInBounds p v) a.tmps,assign,body,by rw [hy];rw [hmk],roundIn_of_wpIn hfn (hassign L x A m _ ⟨_,run_beginRound hbk.1 (e1 _ _),?_⟩)⟩;rw [e4];have hbk2:Book L D (mk .busy none) (A.putObj L (.loop (mk .busy none))):=hbk.put hne;have hi2:I pre (A.putObj L (.loop (mk .busy none))):=hIL _ _ _ _ hi hbk.1;have hOL2:∀ k,Ow (A.putObj L (.loop (mk .busy none))) k↔Ow A k:=fun k=>hOL _ _ _ _ hbk.1;have hsame2:∀ k,k≠L→(A.putObj L (.loop (mk .busy none))).heap[k]?=A.heap[k]?:=fun k hk=>World.putObj_heap_other hk;have hsz2:(A.putObj L (.loop (mk .busy none))).heap.size=A.heap.size:=by simp
  have hos2:(A.putObj L (.loop (mk .busy none))).os=A.os∧(A.putObj L (.loop (mk .busy none))).tape=A.tape∧(A.putObj L (.loop (mk .busy none))).output=A.output:=⟨rfl,rfl,rfl⟩;generalize A.putObj L (.loop (mk .busy none))=B at hbk2 hi2 hOL2 hsame2 hsz2 hos2;refine wpIn_mono (hbody L pre x B m hi2 hpN (by omega)) ?_;rintro e a3 C ⟨rfl,hi3,hk⟩;obtain ⟨hnD,hnL⟩:=hOD _ _ hi2;have hLB:L<B.heap.size:=(Array.getElem?_eq_some_iff.1 hbk2.1).1;have hDB:D<B.heap.size:=(Array.getElem?_eq_some_iff.1 hbk2.2).1;have hl:C.heap[L]?=some (.loop (mk .busy none)):=(hk.same L hLB hnL).trans hbk2.1;have hr:=run_endRound (P:=P) none hl;rw [e3] at hr;have hbC:Book L D (mk .ready none) (C.putObj L (.loop (mk .ready none))):=Book.put (r:=mk .busy none) ⟨hl,(hk.same D hDB hnD).trans hbk2.2⟩ hne;refine ⟨_,_,hr,rfl,⟨hIL _ _ _ _ hi3 hl,hbC⟩,?_,?_,?_,?_⟩
  ·intro k hkA hn
   have hn1:k≠L:=fun h=>hn (.inl h);have hn2:¬Ow A k:=fun h=>hn (.inr h);rw [World.putObj_heap_other hn1,hk.same k (by omega) (fun h=>hn2 ((hOL2 k).1 h)),hsame2 k hn1]
  ·intro k hkA ho
   exact ho.imp id fun ho=>(hOL2 k).1 (hk.own k (by omega) ((hOL _ _ _ _ hl).1 ho))
  ·intro k ho
   have hs:(C.putObj L (.loop (mk .ready none))).heap.size=C.heap.size:=by simp
   have hCB:=hk.below.size;show k<(C.putObj L (.loop (mk .ready none))).heap.size;rcases ho with h | h
   ·omega
   ·have:=hk.lt k ((hOL _ _ _ _ hl).1 h);omega
  ·have hb:=hk.below
   refine ⟨hb.os.trans hos2.1,hb.tape.trans hos2.2.1,hb.output.trans hos2.2.2,?_,fun k hkz=>?_⟩
   ·have hs:(C.putObj L (.loop (mk .ready none))).heap.size=C.heap.size:=by simp
    have:=hb.size;show A.heap.size≤(C.putObj L (.loop (mk .ready none))).heap.size;omega
   ·have hkL:k≠L:=by omega
    show (C.putObj L (.loop (mk .ready none))).heap[k]?=_;rw [World.putObj_heap_other hkL,hb.block k hkz,hsame2 k hkL]
 ·rintro e C ⟨⟨v,rfl⟩,xs,hS,⟨hi,hb⟩,hKO⟩
  have hr:=run_endLoop (P:=P) hb.1 (by rw [e1];simp);rw [e4,e2] at hr;have hB2:Below z w C:=(hb1.mono (by omega)).trans hKO.below;refine ⟨none,_,hr,hdone D xs _ (Nat.le_refl _) hS (hIL _ _ _ _ hi hb.1) ?_ ((World.putObj_heap_other hne).trans hb.2)⟩;refine ⟨hB2.os,hB2.tape,hB2.output,?_,fun k hkz=>?_⟩
  ·have hs:(C.putObj L (.loop (mk .exhausted none))).heap.size=C.heap.size:=by simp
   have:=hB2.size;omega
  ·rw [World.putObj_heap_other (by omega)]
   exact hB2.block k hkz
end
end Go.Proofs.YtabliahkhafddaaGreat
namespace Go.Proofs.YtabliahkhafddaaGreat
open Go.RowKit Go.Ev
attribute [local go_sem] Oper.semAt_some
mutual
def txV (κ:Int):Vl→List ByteArray
 | .mk k t s _ l=>(if k=1∧t=κ then [s] else [])++(if 2≤k∧k≤5 then txVs κ l else [])
def txVs (κ:Int):List Vl→List ByteArray
 | []=>[]
 | x::xs=>txV κ x++txVs κ xs
end
theorem txV_eq (κ:Int) (x:Vl):txV κ x=(if x.kind=1∧x.tk=κ then [x.text] else [])++(if 2≤x.kind∧x.kind≤5 then txVs κ x.l else []):=by cases x;rw [txV];rfl
theorem txVs_append (κ:Int):∀ (a b:List Vl),txVs κ (a++b)=txVs κ a++txVs κ b
 | [],b=>by simp [txVs]
 | x::a,b=>by simp only [List.cons_append,txVs,txVs_append κ a b,List.append_assoc]
theorem txVs_snoc (κ:Int) {l:List Vl} {k:Nat} (hk:k<l.length):txVs κ (l.take (k+1))=txVs κ (l.take k)++txV κ l[k]:=by
 rw [List.take_succ_eq_append_getElem hk,txVs_append];simp only [txVs,List.append_nil]
theorem cntVs_at {l:List Vl} {k:Nat} (hk:k<l.length):cntVs l[k].l<cntVs l:=by
 have h:=cntVs_snoc hk;have h2:=cntVs_append (l.take (k+1)) (l.drop (k+1));rw [List.take_append_drop] at h2;omega
theorem txVs_le (κ:Int) {l:List Vl} (k:Nat):(txVs κ (l.take k)).length≤(txVs κ l).length:=by
 have h:=txVs_append κ (l.take k) (l.drop k);rw [List.take_append_drop] at h;rw [h,List.length_append];omega
set_option maxHeartbeats 4000000 in
theorem texts_in (l z m0 Nb:Nat) (κ:Int) (Ow:World→Nat→Prop) (J:List ByteArray→World→Prop) (hJ:∀ s A B,J s A→Below A.heap.size A B→J s B) (hO:∀ A B k,m0≤A.heap.size→Below A.heap.size A B→Ow B k→Ow A k) (hzm:z≤m0)
 (hY:∀ m pre x A,J pre A→pre.length<Nb→m0≤A.heap.size→YieldAt Fence.wide m Tryz.prog l #[.string x] A fun e B=>e=.returned (.bool true)∧J (pre++[x]) B∧KO Ow z A B) (N:Nat) :
 ∀ (vs:List Vl),SizeOf.sizeOf vs≤N→cntVs vs≤1000000→∀ (n:Nat) (v:Value) (pre:List ByteArray) (W:World),pre.length+(txVs κ vs).length≤Nb→m0≤W.heap.size→AtB z W (.sl vs.length 5 (vs.flatMap encV)) v→J pre W→(∀ k,Ow W k→k<W.heap.size) →
   CallsIn Fence.wide n Tryz.prog 300 #[v,.int .i64 κ,.func (.yield l) #[] #[]] W fun e B=>e=.returned (.bool true)∧J (pre++txVs κ vs) B∧KO Ow z W B:=by
 induction N with
 | zero=>intro vs hl;cases vs <;> simp at hl <;> omega
 | succ N ih =>
   intro vs hl hcn n v pre W hNb hm hv hj hOW;have hlen:=cntVs_len vs;rcases slB_cells encV 5 Q3i (by decide) hv with ⟨rfl,ad,cap,rfl⟩ | ⟨b,o,cap,rfl,hcap,hpos,hbz,hc⟩
   ·refine callsIn_of_wp Tryz.func300 rfl trivial ?_ rfl
    simp only [Tryz.ntmps300,List.size_toArray,List.length_cons,List.length_nil,Nat.reduceAdd,Nat.reduceSub,Array.replicate_succ,Array.replicate_zero,List.push_toArray,List.append_toArray,List.nil_append,List.cons_append]
    gi_wp2
    gi_loopw [11] (fun i wr=>i=.int .i64 0∧J pre wr∧KO Ow z W wr) (fun _ _=>0)
    case atStart=>exact ⟨rfl,hj,KO.refl hOW⟩
    case round =>
     obtain ⟨rfl,hj2,hB⟩:=hrel
     gi_wp2
     go_ret
     exact ⟨rfl,by simpa [txVs] using hj2,hB⟩
   ·have IH:=Lib.hid fun k (hk:k<vs.length)=>ih vs[k].l (by have:=vl_lt (List.getElem_mem hk);omega) (by have:=cntVs_at hk;omega)
    have HC:=Lib.hid fun k (hk:k<vs.length)=>vlB_cells hc hk;have HS:=Lib.hid fun k (hk:k<vs.length)=>txVs_snoc κ hk;clear ih hc hl hv;refine callsIn_of_wp Tryz.func300 rfl trivial ?_ rfl;simp only [Tryz.ntmps300,List.size_toArray,List.length_cons,List.length_nil,Nat.reduceAdd,Nat.reduceSub,Array.replicate_succ,Array.replicate_zero,List.push_toArray,List.append_toArray,List.nil_append,List.cons_append]
    gi_wp2
    gi_loopw [11] (fun i wr=>∃ k:Nat,k≤vs.length∧i=.int .i64 k∧J (pre++txVs κ (vs.take k)) wr∧KO Ow z W wr) (fun i _=>vs.length - (intOf i).toNat)
    case atStart=>exact ⟨0,Nat.zero_le _,rfl,by simpa [txVs] using hj,KO.refl hOW⟩
    case round =>
     obtain ⟨k,hk,rfl,hj2,hK⟩:=hrel;have hB:=hK.below
     by_cases hlt:k<vs.length
     ·obtain ⟨c0,c1,c2,c3,ad,cp,c4,ha⟩:=HC.out k hlt
      have c0':=(hB.cell (p:=⟨b,o+k*5,none⟩) hbz).trans c0;have c1':=(hB.cell (p:=⟨b,o+k*5+1,none⟩) hbz).trans c1;have c2':=(hB.cell (p:=⟨b,o+k*5+2,none⟩) hbz).trans c2;have c3':=(hB.cell (p:=⟨b,o+k*5+3,none⟩) hbz).trans c3;have c4':=(hB.cell (p:=⟨b,o+k*5+4,none⟩) hbz).trans c4;have ha':=ha.below hB;have HSN:=HS.out k hlt;rw [txV_eq] at HSN;have HREC:=Lib.hid (IH.out k hlt);have hmr:m0≤wr.heap.size:=Nat.le_trans hm hB.size;have hzr:z≤wr.heap.size:=Nat.le_trans hzm hmr;clear c0 c1 c2 c3 c4 ha IH HC HS;generalize vs[k].kind=kd at *;generalize vs[k].tk=tk at *;generalize vs[k].text=tx at *;generalize vs[k].n=nn at *;generalize vs[k].l=ll at *;have hnew:∀ (x:Obj) (B:World),KO Ow z (wr.alloc x) B→B.heap[wr.heap.size]?=some x∧KO Ow z W B:=by
       intro x B hKB;have hka:KO Ow z wr (wr.alloc x):=KO.grow (Q0g wr x) hzr (fun k hk=>hO _ _ _ hmr (Q0g _ _) hk) hK.lt;refine ⟨(hKB.same _ (by simp) fun ho=>?_).trans (World.alloc_heap_new wr x),hK.trans (hka.trans hKB)⟩;have:=hK.lt _ (hO _ _ _ hmr (Q0g _ _) ho);omega
      by_cases hk1:kd=1
      ·subst hk1
       simp only [true_and,show ¬((2:Int)≤1∧(1:Int)≤5) by omega,if_false,List.append_nil] at HSN
       by_cases ht:tk=κ
       ·subst ht
        rw [if_pos rfl] at HSN;have hpb:(pre++txVs tk (vs.take k)).length<Nb:=by
         have h9:=congrArg List.length HSN;simp only [List.length_append,List.length_cons,List.length_nil] at h9 ⊢;have h8:=txVs_le tk (l:=vs) (k+1);omega
        gi_wp2_with fail
        refine upon_yield rfl (hY _ _ _ _ (hJ _ _ _ hj2 (Q0g _ _)) hpb (by simp;omega)) ?_;rintro W2 ⟨hj3,hK3⟩;obtain ⟨hcell,hK4⟩:=hnew _ _ hK3;rw [List.append_assoc,←HSN] at hj3;have d0:W2.cell? ⟨wr.heap.size,0,none⟩=some (.int .i64 1):=by rw [Lib.cell_of_heap hcell];rfl
        clear hnew hcell HREC
        gi_wp2
        refine ⟨trivial,?_⟩
        gi_wp2
        go_roundw
        case rel=>exact ⟨k+1,by omega,by go_num,hj3,hK4⟩
        case measure=>simp [intOf];omega
       ·rw [if_neg ht,List.append_nil] at HSN
        have hj3:=hJ _ _ (wr.alloc (.cells #[.int .i64 1,.int .i64 tk,.string tx,.int .i64 nn,.slice ad ll.length cp] 193)) hj2 (Q0g _ _);have hK4:=(hnew (.cells #[.int .i64 1,.int .i64 tk,.string tx,.int .i64 nn,.slice ad ll.length cp] 193) _ (KO.refl fun k hk=>by have:=hK.lt k (hO _ _ _ hmr (Q0g _ _) hk);simp;omega)).2;rw [←HSN] at hj3;clear hnew HREC
        gi_wp2
        refine ⟨fun _ h=>(by cases h),?_⟩
        gi_wp2
        refine ⟨trivial,?_⟩
        gi_wp2
        go_roundw
        case rel=>exact ⟨k+1,by omega,by go_num,hj3,hK4⟩
        case measure=>simp [intOf];omega
      ·by_cases hkk:2≤kd∧kd≤5
       ·obtain ⟨hk2,hk5⟩:=hkk
        rw [if_neg (fun h=>hk1 h.1),if_pos ⟨hk2,hk5⟩,List.nil_append] at HSN;have hpb:(pre++txVs κ (vs.take k)).length+(txVs κ ll).length≤Nb:=by
         have h9:=congrArg List.length HSN;simp only [List.length_append] at h9 ⊢;have h8:=txVs_le κ (l:=vs) (k+1);omega
        have hr2:=HREC.out (n - 1) (.slice ad ll.length cp) (pre++txVs κ (vs.take k)) (wr.alloc (.cells #[.int .i64 kd,.int .i64 tk,.string tx,.int .i64 nn,.slice ad ll.length cp] 193)) hpb (by simp;omega)
         (ha'.below ((Below.refl _ wr).alloc hzr _)) (hJ _ _ _ hj2 (Q0g _ _)) (fun k hk=>by have:=hK.lt k (hO _ _ _ hmr (Q0g _ _) hk);simp;omega)
        have HR:=Lib.hid hr2;clear hr2 HREC
        gi_wp2_with fail
        refine ⟨fun _ h=>(by cases h),?_⟩
        gi_wp2_with fail
        refine ⟨trivial,?_⟩
        gi_wp2_with fail
        refine ⟨fun h=>(by cases h),HR.out.mono ?_⟩;rintro e W2 ⟨rfl,hj3,hK3⟩;obtain ⟨-,hK4⟩:=hnew _ _ hK3;rw [List.append_assoc,←HSN] at hj3;clear hnew
        gi_wp2
        go_roundw
        case rel=>exact ⟨k+1,by omega,by go_num,hj3,hK4⟩
        case measure=>simp [intOf];omega
       ·rw [if_neg (fun h=>hk1 h.1),if_neg hkk,List.append_nil,List.append_nil] at HSN
        have hj3:=hJ _ _ (wr.alloc (.cells #[.int .i64 kd,.int .i64 tk,.string tx,.int .i64 nn,.slice ad ll.length cp] 193)) hj2 (Q0g _ _);have hK4:=(hnew (.cells #[.int .i64 kd,.int .i64 tk,.string tx,.int .i64 nn,.slice ad ll.length cp] 193) _ (KO.refl fun k hk=>by have:=hK.lt k (hO _ _ _ hmr (Q0g _ _) hk);simp;omega)).2;rw [←HSN] at hj3;clear hnew HREC
        by_cases hk2:2≤kd
        ·have hk5:¬kd≤5:=fun h=>hkk ⟨hk2,h⟩
         gi_wp2
         refine ⟨fun _ h=>(by cases h),?_⟩
         gi_wp2
         refine ⟨trivial,?_⟩
         gi_wp2
         go_roundw
         case rel=>exact ⟨k+1,by omega,by go_num,hj3,hK4⟩
         case measure=>simp [intOf];omega
        ·gi_wp2
         refine ⟨fun _ h=>(by cases h),?_⟩
         gi_wp2
         refine ⟨trivial,?_⟩
         gi_wp2
         go_roundw
         case rel=>exact ⟨k+1,by omega,by go_num,hj3,hK4⟩
         case measure=>simp [intOf];omega
     ·obtain rfl:k=vs.length:=by omega
      rw [List.take_length] at hj2
      gi_wp2
      go_ret
      exact ⟨rfl,hj2,hK⟩
end Go.Proofs.YtabliahkhafddaaGreat
namespace Go.Proofs.YtabliahkhafddaaGreat
open Go.RowKit Go.Ev Go.Sort
def sOf (b:ByteArray):Str:=b.data.toList
theorem owns_mono {w:World} {B C:Nat} {e:TypeId} {size:Nat} {v:Value} {n:Nat} {xs:List Value} (h:w.ownsRow B e size v n xs) (hc:C≤B):w.ownsRow C e size v n xs:=by
 obtain ⟨h1,h2⟩:=h;refine ⟨h1,?_⟩;rcases h2 with h2 | ⟨g,cap,cur,hv,hg,hr⟩
 ·exact .inl h2
 ·exact .inr ⟨g,cap,cur,hv,Nat.le_trans hc hg,hr⟩
theorem owns_slice {w:World} {B:Nat} {e:TypeId} {sz:Nat} {v:Value} {n:Nat} {xs:List Value} (h:w.ownsRow B e sz v n xs):∃ a c,v=.slice a n c:=by
 rcases h.2 with ⟨rfl,rfl⟩ | ⟨g,cap,cur,rfl,-⟩
 ·exact ⟨_,_,rfl⟩
 ·exact ⟨_,_,rfl⟩
theorem owns_below {w w':World} {z e sz n:Nat} {v:Value} {xs:List Value} (h:w.ownsRow z e sz v n xs) (hb:Below w.heap.size w w'):w'.ownsRow z e sz v n xs:=by
 refine ⟨h.1,h.2.imp id ?_⟩;rintro ⟨g,cap,cur,h1,h2,h3,h4⟩;exact ⟨g,cap,cur,h1,h2,by rw [hb.block g (Array.getElem?_eq_some_iff.1 h3).1];exact h3,h4⟩
section
variable {w:World}
def SrcOf (w:World) (y:Value) (m size:Nat) (news:List Value):Prop :=
 (y=.slice none 0 0∧m=0∧news=[])∨∃ ad c,y=.slice (some ad) m c∧news.length=m*size∧(∀ j u,news[j]?=some u→w.cell? (ad.add j)=some u)∧∀ u∈news,u.oneCell'=true
theorem flat_len (l:List Vl):(l.flatMap encV).length=l.length*5:=by
 induction l with
 | nil=>rfl
 | cons c l ih=>rw [List.flatMap_cons,List.length_append,ih,List.length_cons];show (encV c).length+_=_;rw [Q3i];omega
end
theorem wpList_append_src {P:Program} {w:World} {ops:Array Oper} {rest:List Oper} {o:Oper} {a:Act} {Q:Exit→Act→World→Prop} (hgd:o.guard=none) (s x:Operand) (t:TypeId)
 (ho:o.op=.call { callee:=.builtin .append,args:=#[s,x],argTypes:=#[t,t] })
 (base:Nat) (e:TypeId) (i:TypeInfo) (z:Value) (size bytes:Nat) (ht:P.underlying t=some (.slice e)) (hi:P.info? e=some i) (hz:i.zero=some z)
 (hsize:i.size=size) (hby:i.bytes=bytes) (hzs:z.cells.size=size) (hsz:0<size)
 (v:Value) (n:Nat) (xs:List Value) (hs:a.eval s=v) (hown:w.ownsRow base e size v n xs)
 (y:Value) (m:Nat) (news:List Value) (hx:a.eval x=y) (hsrc:SrcOf w y m size news)
 (h63:n+m≤maxLen) (hbytes:(n+m)*bytes≤140737488355328) (hbase:base≤w.heap.size)
 (h:∀ v' w',w'.ownsRow base e size v' (n+m) (xs++news)→w.grownBy w' v.ownBlock→wpList P ops Q rest (a.put o.dst v') w'):wpList P ops Q (o::rest) a w:=by
 refine wpList_plain hgd fun K hK=>?_;have key:∃ v' w',(Builtin.append_ #[t,t] o.type #[v,y]).run P w=.ok v' w'∧w'.ownsRow base e size v' (n+m) (xs++news)∧w.grownBy w' v.ownBlock:=by
  rcases hsrc with ⟨rfl,rfl,rfl⟩ | ⟨ad,c,rfl,h1,h2,h3⟩
  ·exact ⟨v,w,run_append_owned_none w base t o.type e i size ht hi v n xs hown,by simpa using hown,⟨rfl,rfl,rfl,Nat.le_refl _,fun _ _ _=>rfl⟩⟩
  ·obtain ⟨v',w',g1,g2,g3,-⟩:=run_append_own (P:=P) (w:=w) base t o.type e i z size bytes ht hi hz hsize hby hzs hsz v n xs hown ad m c news h1 h2 h3 h63 hbytes hbase
   exact ⟨v',w',g1,g2,g3⟩
 obtain ⟨v',w',hrun,r1,r2⟩:=key;unfold Oper.wp;simp [execOp,ho,resolve,invoke,builtin,hs,hx,hrun,Result.andThen];exact hK _ _ (h v' w' r1 r2)
theorem SrcOf.below {w w':World} {y:Value} {m size:Nat} {news:List Value} (h:SrcOf w y m size news) (hb:Below w.heap.size w w'):SrcOf w' y m size news:=by
 rcases h with h | ⟨ad,c,h1,h2,h3,h4⟩
 ·exact .inl h
 ·exact .inr ⟨ad,c,h1,h2,fun j u hj=>Q2m (h3 j u hj) hb,h4⟩
end Go.Proofs.YtabliahkhafddaaGreat
end
