/- Part of the proof of WholeMatching. -/
import Derived.Shelf.SlIterI.Sorted
import Derived.Shelf.SlIterI.Keys
import Derived.Ground.GgzProg
import Derived.Test.YtbedbfdhfokifaaGreatProg
namespace Go.Proofs
open Go.Shelf
def Tryz.aau:Go.Shelf.Ren:=⟨fun|7=>177|10=>235|n=>n,fun|23=>98|26=>3|3=>4|28=>274|0=>0|27=>273|33=>96|4=>4|n=>n,fun|n=>n⟩
theorem Tryz.aat:Go.Proofs.SlLaysZI.n7 Tryz.prog Tryz.aau:= {
 mixed:=by kernel_rfl
 f7:=⟨Tryz.f177.name,by decide,Tryz.func177.trans (congrArg some (by kernel_rfl))⟩
 f10:=⟨Tryz.f235.name,by decide,Tryz.func235.trans (congrArg some (by kernel_rfl))⟩
 t0:=Tryz.underlying0
 a0:=Tryz.isAgg0
 z0:=Tryz.sizeOf0
 v0:=Tryz.zeroValue0
 t4:=Tryz.underlying4
 a4:=Tryz.isAgg4
 z4:=Tryz.sizeOf4
 v4:=Tryz.zeroValue4
 t23:=Tryz.underlying98
 a23:=Tryz.isAgg98
 z23:=Tryz.sizeOf98
 v23:=Tryz.zeroValue98
 t26:=Tryz.underlying3
 a26:=Tryz.isAgg3
 z26:=Tryz.sizeOf3
 v26:=Tryz.zeroValue3
 t27:=Tryz.underlying273
 a27:=Tryz.isAgg273
 z27:=Tryz.sizeOf273
 v27:=Tryz.zeroValue273
 t28:=Tryz.underlying274
 a28:=Tryz.isAgg274
 z28:=Tryz.sizeOf274
 v28:=Tryz.zeroValue274
 t33:=Tryz.underlying96
 a33:=Tryz.isAgg96
 z33:=Tryz.sizeOf96
 v33:=Tryz.zeroValue96 }
def Tryz.ab1:Go.Shelf.Ren:=⟨fun|6=>176|8=>233|9=>234|11=>264|13=>71|12=>265|23=>111|24=>112|14=>284|15=>285|16=>286|17=>287|18=>288|19=>289|20=>290|21=>291|22=>292|25=>300|26=>153|27=>154|28=>301|29=>302|30=>72|31=>314|n=>n,fun|26=>3|28=>274|24=>60|0=>0|3=>3|37=>149|48=>207|50=>209|4=>4|40=>200|39=>199|45=>204|5=>5|9=>9|51=>243|55=>247|57=>307|58=>123|33=>96|n=>n,fun|n=>n⟩
theorem Tryz.an8:Go.Proofs.SlLaysZI.n6 Tryz.prog Tryz.ab1:= {
 mixed:=by kernel_rfl
 f6:=⟨Tryz.f176.name,by decide,Tryz.func176.trans (congrArg some (by kernel_rfl))⟩
 f8:=⟨Tryz.f233.name,by decide,Tryz.func233.trans (congrArg some (by kernel_rfl))⟩
 f11:=⟨Tryz.f264.name,by decide,Tryz.func264.trans (congrArg some (by kernel_rfl))⟩
 t0:=Tryz.underlying0
 a0:=Tryz.isAgg0
 z0:=Tryz.sizeOf0
 v0:=Tryz.zeroValue0
 t24:=Tryz.underlying60
 a24:=Tryz.isAgg60
 z24:=Tryz.sizeOf60
 v24:=Tryz.zeroValue60
 t26:=Tryz.underlying3
 a26:=Tryz.isAgg3
 z26:=Tryz.sizeOf3
 v26:=Tryz.zeroValue3
 t28:=Tryz.underlying274
 a28:=Tryz.isAgg274
 z28:=Tryz.sizeOf274
 v28:=Tryz.zeroValue274
 i26:=by kernel_rfl }
end Go.Proofs
