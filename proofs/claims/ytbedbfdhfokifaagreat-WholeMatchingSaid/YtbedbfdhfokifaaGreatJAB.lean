/- Part of the proof of WholeMatching. -/
import Derived.Shelf.Small.Bits
import Derived.Shelf.Strconv.Itoa0
import Derived.Shelf.Sort.Plain
import Derived.Shelf.Slices.In.SortNone
import Derived.Ground.SlsfProg
import Derived.Shelf.SlSortCmp.Insertion
import Derived.Shelf.SlSortCmp.Insertion1
import Derived.Shelf.SlSortCmp.ReverseRange1
import Derived.Shelf.SlSortCmp.PartialInsertion1
import Derived.Shelf.SlSortCmp.Partition1
import Derived.Test.YtbedbfdhfokifaaGreatProg
namespace Go.Proofs
open Go.Shelf
def Tryz.aoB:Go.Shelf.Ren:=⟨fun|189=>234|125=>71|257=>265|128=>111|129=>112|294=>284|295=>285|296=>286|297=>287|298=>288|299=>289|216=>290|300=>291|301=>292|328=>300|329=>153|330=>154|331=>301|332=>302|215=>72|343=>314|n=>n,fun|28=>60|3=>3|46=>149|0=>0|51=>207|53=>209|4=>4|183=>200|182=>199|131=>204|5=>5|9=>9|218=>243|222=>247|228=>307|229=>123|n=>n,fun|n=>n⟩
theorem Tryz.acA:Go.Proofs.Lays.n189 Tryz.prog Tryz.aoB:= {
 mixed:=by kernel_rfl
 f125:=Tryz.func71.trans (congrArg some (by kernel_rfl))
 f128:=Tryz.func111.trans (congrArg some (by kernel_rfl))
 f129:=Tryz.func112.trans (congrArg some (by kernel_rfl))
 f189:=Tryz.func234.trans (congrArg some (by kernel_rfl))
 f215:=Tryz.func72.trans (congrArg some (by kernel_rfl))
 f216:=Tryz.func290.trans (congrArg some (by kernel_rfl))
 f257:=Tryz.func265.trans (congrArg some (by kernel_rfl))
 f294:=Tryz.func284.trans (congrArg some (by kernel_rfl))
 f295:=Tryz.func285.trans (congrArg some (by kernel_rfl))
 f296:=Tryz.func286.trans (congrArg some (by kernel_rfl))
 f297:=Tryz.func287.trans (congrArg some (by kernel_rfl))
 f298:=Tryz.func288.trans (congrArg some (by kernel_rfl))
 f299:=Tryz.func289.trans (congrArg some (by kernel_rfl))
 f300:=Tryz.func291.trans (congrArg some (by kernel_rfl))
 f301:=Tryz.func292.trans (congrArg some (by kernel_rfl))
 f328:=Tryz.func300.trans (congrArg some (by kernel_rfl))
 f329:=Tryz.func153.trans (congrArg some (by kernel_rfl))
 f330:=Tryz.func154.trans (congrArg some (by kernel_rfl))
 f331:=Tryz.func301.trans (congrArg some (by kernel_rfl))
 f332:=Tryz.func302.trans (congrArg some (by kernel_rfl))
 f343:=Tryz.func314.trans (congrArg some (by kernel_rfl))
 t0:=Tryz.underlying0
 a0:=Tryz.isAgg0
 z0:=Tryz.sizeOf0
 v0:=Tryz.zeroValue0
 t3:=Tryz.underlying3
 a3:=Tryz.isAgg3
 z3:=Tryz.sizeOf3
 v3:=Tryz.zeroValue3
 t4:=Tryz.underlying4
 a4:=Tryz.isAgg4
 z4:=Tryz.sizeOf4
 v4:=Tryz.zeroValue4
 t5:=Tryz.underlying5
 a5:=Tryz.isAgg5
 z5:=Tryz.sizeOf5
 v5:=Tryz.zeroValue5
 t9:=Tryz.underlying9
 a9:=Tryz.isAgg9
 z9:=Tryz.sizeOf9
 v9:=Tryz.zeroValue9
 t28:=Tryz.underlying60
 a28:=Tryz.isAgg60
 z28:=Tryz.sizeOf60
 v28:=Tryz.zeroValue60
 t46:=Tryz.underlying149
 a46:=Tryz.isAgg149
 z46:=Tryz.sizeOf149
 v46:=Tryz.zeroValue149
 t51:=Tryz.underlying207
 a51:=Tryz.isAgg207
 z51:=Tryz.sizeOf207
 v51:=Tryz.zeroValue207
 t53:=Tryz.underlying209
 a53:=Tryz.isAgg209
 z53:=Tryz.sizeOf209
 v53:=Tryz.zeroValue209
 t131:=Tryz.underlying204
 a131:=Tryz.isAgg204
 z131:=Tryz.sizeOf204
 v131:=Tryz.zeroValue204
 t182:=Tryz.underlying199
 a182:=Tryz.isAgg199
 z182:=Tryz.sizeOf199
 v182:=Tryz.zeroValue199
 t183:=Tryz.underlying200
 a183:=Tryz.isAgg200
 z183:=Tryz.sizeOf200
 v183:=Tryz.zeroValue200
 t218:=Tryz.underlying243
 a218:=Tryz.isAgg243
 z218:=Tryz.sizeOf243
 v218:=Tryz.zeroValue243
 t222:=Tryz.underlying247
 a222:=Tryz.isAgg247
 z222:=Tryz.sizeOf247
 v222:=Tryz.zeroValue247
 t228:=Tryz.underlying307
 a228:=Tryz.isAgg307
 z228:=Tryz.sizeOf307
 v228:=Tryz.zeroValue307
 t229:=Tryz.underlying123
 a229:=Tryz.isAgg123
 z229:=Tryz.sizeOf123
 v229:=Tryz.zeroValue123 }
open Go.Sort Go.RowKit in
theorem Tryz.slices_Sort_int (blk off cap:Nat) (zs:List Int) (w:World) (hH:Holds (Value.int .i64) w blk off zs.toArray) (hblk:blk<w.heap.size) (hsz:zs.length<4611686018427387904):
 Calls Tryz.prog 234 #[.slice (some ⟨blk,off,none⟩) zs.length cap] w fun e w'=>
  e= .returned (.tuple #[])∧ ∃ n os,w'=grow (putRow (Value.int .i64) (Sort.ahead w n) blk off (zs.mergeSort fun x y=>decide (x≤y)).toArray) os:=Any.slices_Sort_int Tryz.acA blk off cap zs w hH hblk hsz
open Go.RowKit Go.Sort in
theorem Tryz.slices_Sort_int_none (p:Option Addr) (cap:Nat) (w:World):
 Calls Tryz.prog 234 #[.slice p 0 cap] w fun e w'=>e= .returned (.tuple #[])∧w'=w:=Any.slices_Sort_int_none Tryz.acA p cap w
end Go.Proofs
