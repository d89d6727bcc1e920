/- The library's contracts of maps.Keys, slices.Sorted and slices.Sort at this program, laid by the kit's shelf (lay-plain.mjs). -/
import Derived.Shelf.SlGeneric
import Derived.Shelf.SlIterI.Nil
import Derived.Shelf.SortM.Plain
import Derived.Shelf.SortM.SortNone
import Derived.Ground.GgzProg
import Derived.Ground.SlgmProg
import Derived.Test.YtebndjnkmcahaaaGreatDoorProg
namespace Go.Proofs
set_option linter.unusedSimpArgs false
set_option linter.unusedVariables false
open Go.Shelf
def Tryz.keysA_ren:Go.Shelf.Ren:=⟨fun|7=>160|10=>206|n=>n,fun|23=>152|26=>3|3=>27|28=>212|0=>0|27=>211|33=>130|4=>4|n=>n,fun|n=>n⟩
theorem Tryz.keysA:Go.Proofs.SlLaysZI.n7 Tryz.prog Tryz.keysA_ren:={
 mixed:=by kernel_rfl
 f7:=⟨Tryz.f160.name,by decide,Tryz.func160.trans (congrArg some (by kernel_rfl))⟩
 f10:=⟨Tryz.f206.name,by decide,Tryz.func206.trans (congrArg some (by kernel_rfl))⟩
 t0:=Tryz.underlying0
 a0:=Tryz.isAgg0
 z0:=Tryz.sizeOf0
 v0:=Tryz.zeroValue0
 t4:=Tryz.underlying4
 a4:=Tryz.isAgg4
 z4:=Tryz.sizeOf4
 v4:=Tryz.zeroValue4
 t23:=Tryz.underlying152
 a23:=Tryz.isAgg152
 z23:=Tryz.sizeOf152
 v23:=Tryz.zeroValue152
 t26:=Tryz.underlying3
 a26:=Tryz.isAgg3
 z26:=Tryz.sizeOf3
 v26:=Tryz.zeroValue3
 t27:=Tryz.underlying211
 a27:=Tryz.isAgg211
 z27:=Tryz.sizeOf211
 v27:=Tryz.zeroValue211
 t28:=Tryz.underlying212
 a28:=Tryz.isAgg212
 z28:=Tryz.sizeOf212
 v28:=Tryz.zeroValue212
 t33:=Tryz.underlying130
 a33:=Tryz.isAgg130
 z33:=Tryz.sizeOf130
 v33:=Tryz.zeroValue130 }
def Tryz.sortedA_ren:Go.Shelf.Ren:=⟨fun|6=>159|8=>204|9=>205|11=>231|13=>212|12=>232|23=>243|24=>244|14=>253|15=>254|16=>255|17=>256|18=>257|19=>258|20=>259|21=>260|22=>261|25=>275|26=>266|27=>267|28=>276|29=>277|30=>278|31=>281|n=>n,fun|26=>3|28=>212|24=>30|0=>0|3=>3|37=>29|48=>231|50=>22|4=>4|40=>294|39=>293|45=>115|5=>5|9=>9|51=>321|55=>325|57=>333|58=>117|33=>130|n=>n,fun|n=>n⟩
theorem Tryz.sortedA:Go.Proofs.SlLaysZI.n6 Tryz.prog Tryz.sortedA_ren:={
 mixed:=by kernel_rfl
 f6:=⟨Tryz.f159.name,by decide,Tryz.func159.trans (congrArg some (by kernel_rfl))⟩
 f8:=⟨Tryz.f204.name,by decide,Tryz.func204.trans (congrArg some (by kernel_rfl))⟩
 f11:=⟨Tryz.f231.name,by decide,Tryz.func231.trans (congrArg some (by kernel_rfl))⟩
 t0:=Tryz.underlying0
 a0:=Tryz.isAgg0
 z0:=Tryz.sizeOf0
 v0:=Tryz.zeroValue0
 t24:=Tryz.underlying30
 a24:=Tryz.isAgg30
 z24:=Tryz.sizeOf30
 v24:=Tryz.zeroValue30
 t26:=Tryz.underlying3
 a26:=Tryz.isAgg3
 z26:=Tryz.sizeOf3
 v26:=Tryz.zeroValue3
 t28:=Tryz.underlying212
 a28:=Tryz.isAgg212
 z28:=Tryz.sizeOf212
 v28:=Tryz.zeroValue212
 i26:=by kernel_rfl }
def Tryz.sortA_ren:Go.Shelf.Ren:=⟨fun|5=>205|8=>212|7=>232|19=>243|20=>244|10=>253|11=>254|12=>255|13=>256|14=>257|15=>258|16=>259|17=>260|18=>261|30=>275|31=>266|32=>267|33=>276|34=>277|35=>278|40=>281|n=>n,fun|23=>30|25=>3|3=>3|32=>29|22=>30|0=>0|44=>231|46=>22|4=>4|36=>294|35=>293|41=>115|5=>5|9=>9|53=>321|57=>325|63=>333|64=>117|n=>n,fun|n=>n⟩
theorem Tryz.sortA:Go.Proofs.SlLaysM.n5 Tryz.prog Tryz.sortA_ren:={
 mixed:=by kernel_rfl
 f5:=⟨Tryz.f205.name,by decide,Tryz.func205.trans (congrArg some (by kernel_rfl))⟩
 f7:=⟨Tryz.f232.name,by decide,Tryz.func232.trans (congrArg some (by kernel_rfl))⟩
 f8:=Tryz.func212.trans (congrArg some (by kernel_rfl))
 f10:=⟨Tryz.f253.name,by decide,Tryz.func253.trans (congrArg some (by kernel_rfl))⟩
 f11:=⟨Tryz.f254.name,by decide,Tryz.func254.trans (congrArg some (by kernel_rfl))⟩
 f12:=⟨Tryz.f255.name,by decide,Tryz.func255.trans (congrArg some (by kernel_rfl))⟩
 f13:=⟨Tryz.f256.name,by decide,Tryz.func256.trans (congrArg some (by kernel_rfl))⟩
 f14:=⟨Tryz.f257.name,by decide,Tryz.func257.trans (congrArg some (by kernel_rfl))⟩
 f15:=⟨Tryz.f258.name,by decide,Tryz.func258.trans (congrArg some (by kernel_rfl))⟩
 f16:=⟨Tryz.f259.name,by decide,Tryz.func259.trans (congrArg some (by kernel_rfl))⟩
 f17:=⟨Tryz.f260.name,by decide,Tryz.func260.trans (congrArg some (by kernel_rfl))⟩
 f18:=⟨Tryz.f261.name,by decide,Tryz.func261.trans (congrArg some (by kernel_rfl))⟩
 f19:=Tryz.func243.trans (congrArg some (by kernel_rfl))
 f20:=Tryz.func244.trans (congrArg some (by kernel_rfl))
 f30:=⟨Tryz.f275.name,by decide,Tryz.func275.trans (congrArg some (by kernel_rfl))⟩
 f31:=Tryz.func266.trans (congrArg some (by kernel_rfl))
 f32:=Tryz.func267.trans (congrArg some (by kernel_rfl))
 f33:=⟨Tryz.f276.name,by decide,Tryz.func276.trans (congrArg some (by kernel_rfl))⟩
 f34:=⟨Tryz.f277.name,by decide,Tryz.func277.trans (congrArg some (by kernel_rfl))⟩
 f35:=⟨Tryz.f278.name,by decide,Tryz.func278.trans (congrArg some (by kernel_rfl))⟩
 f40:=⟨Tryz.f281.name,by decide,Tryz.func281.trans (congrArg some (by kernel_rfl))⟩
 t0:=Tryz.underlying0
 a0:=Tryz.isAgg0
 z0:=Tryz.sizeOf0
 v0:=Tryz.zeroValue0
 t3:=Tryz.underlying3
 a3:=Tryz.isAgg3
 z3:=Tryz.sizeOf3
 v3:=Tryz.zeroValue3
 t4:=Tryz.underlying4
 a4:=Tryz.isAgg4
 z4:=Tryz.sizeOf4
 v4:=Tryz.zeroValue4
 t5:=Tryz.underlying5
 a5:=Tryz.isAgg5
 z5:=Tryz.sizeOf5
 v5:=Tryz.zeroValue5
 t9:=Tryz.underlying9
 a9:=Tryz.isAgg9
 z9:=Tryz.sizeOf9
 v9:=Tryz.zeroValue9
 t22:=Tryz.underlying30
 a22:=Tryz.isAgg30
 z22:=Tryz.sizeOf30
 v22:=Tryz.zeroValue30
 t23:=Tryz.underlying30
 a23:=Tryz.isAgg30
 z23:=Tryz.sizeOf30
 v23:=Tryz.zeroValue30
 t25:=Tryz.underlying3
 a25:=Tryz.isAgg3
 z25:=Tryz.sizeOf3
 v25:=Tryz.zeroValue3
 t32:=Tryz.underlying29
 a32:=Tryz.isAgg29
 z32:=Tryz.sizeOf29
 v32:=Tryz.zeroValue29
 t35:=Tryz.underlying293
 a35:=Tryz.isAgg293
 z35:=Tryz.sizeOf293
 v35:=Tryz.zeroValue293
 t36:=Tryz.underlying294
 a36:=Tryz.isAgg294
 z36:=Tryz.sizeOf294
 v36:=Tryz.zeroValue294
 t41:=Tryz.underlying115
 a41:=Tryz.isAgg115
 z41:=Tryz.sizeOf115
 v41:=Tryz.zeroValue115
 t44:=Tryz.underlying231
 a44:=Tryz.isAgg231
 z44:=Tryz.sizeOf231
 v44:=Tryz.zeroValue231
 t46:=Tryz.underlying22
 a46:=Tryz.isAgg22
 z46:=Tryz.sizeOf22
 v46:=Tryz.zeroValue22
 t53:=Tryz.underlying321
 a53:=Tryz.isAgg321
 z53:=Tryz.sizeOf321
 v53:=Tryz.zeroValue321
 t57:=Tryz.underlying325
 a57:=Tryz.isAgg325
 z57:=Tryz.sizeOf325
 v57:=Tryz.zeroValue325
 t63:=Tryz.underlying333
 a63:=Tryz.isAgg333
 z63:=Tryz.sizeOf333
 v63:=Tryz.zeroValue333
 t64:=Tryz.underlying117
 a64:=Tryz.isAgg117
 z64:=Tryz.sizeOf117
 v64:=Tryz.zeroValue117 }
end Go.Proofs
