/- Lemmas for the law unambiguousClass. No conditions. -/
import Derived.Shelf.SlicesG.Clone
import Derived.Ground.SlgnProg
import Derived.Shelf.SlSortCmp.NoneTotal
import Derived.Ground.SlsfProg
import Derived.Shelf.SlicesG.Cmp
import Derived.Ground.SlgcProg
import Derived.Test.YtgmcbpjplcjmdaaGreatProg
set_option linter.all false
namespace Go.Proofs.YtgmcbpjplcjmdaaGreat.M
open Go.Shelf Go.RowKit
def zJT:Go.Shelf.Ren:=⟨fun|6=>35|15=>68|14=>67|28=>122|29=>123|20=>114|21=>115|22=>116|23=>117|24=>118|25=>119|26=>120|27=>121|46=>163|47=>164|48=>165|49=>166|50=>167|57=>185|n=>n,fun|22=>46|24=>85|25=>88|3=>3|39=>96|0=>0|53=>195|55=>197|4=>4|46=>188|45=>187|50=>192|5=>5|9=>9|66=>237|70=>241|76=>259|77=>260|n=>n,fun|n=>n⟩
theorem zNv:Go.Proofs.SlLaysF0.n6 Tryz.prog zJT:={
 mixed:=by kernel_rfl
 f6:=⟨Tryz.f35.name,by decide,Tryz.func35.trans (congrArg some (by kernel_rfl))⟩
 f14:=⟨Tryz.f67.name,by decide,Tryz.func67.trans (congrArg some (by kernel_rfl))⟩
 f15:=Tryz.func68.trans (congrArg some (by kernel_rfl))
 f20:=⟨Tryz.f114.name,by decide,Tryz.func114.trans (congrArg some (by kernel_rfl))⟩
 f21:=⟨Tryz.f115.name,by decide,Tryz.func115.trans (congrArg some (by kernel_rfl))⟩
 f22:=⟨Tryz.f116.name,by decide,Tryz.func116.trans (congrArg some (by kernel_rfl))⟩
 f23:=⟨Tryz.f117.name,by decide,Tryz.func117.trans (congrArg some (by kernel_rfl))⟩
 f24:=⟨Tryz.f118.name,by decide,Tryz.func118.trans (congrArg some (by kernel_rfl))⟩
 f25:=⟨Tryz.f119.name,by decide,Tryz.func119.trans (congrArg some (by kernel_rfl))⟩
 f26:=⟨Tryz.f120.name,by decide,Tryz.func120.trans (congrArg some (by kernel_rfl))⟩
 f27:=⟨Tryz.f121.name,by decide,Tryz.func121.trans (congrArg some (by kernel_rfl))⟩
 f28:=Tryz.func122.trans (congrArg some (by kernel_rfl))
 f29:=Tryz.func123.trans (congrArg some (by kernel_rfl))
 f46:=⟨Tryz.f163.name,by decide,Tryz.func163.trans (congrArg some (by kernel_rfl))⟩
 f47:=Tryz.func164.trans (congrArg some (by kernel_rfl))
 f48:=Tryz.func165.trans (congrArg some (by kernel_rfl))
 f49:=⟨Tryz.f166.name,by decide,Tryz.func166.trans (congrArg some (by kernel_rfl))⟩
 f50:=⟨Tryz.f167.name,by decide,Tryz.func167.trans (congrArg some (by kernel_rfl))⟩
 f57:=⟨Tryz.f185.name,by decide,Tryz.func185.trans (congrArg some (by kernel_rfl))⟩
 t0:=Tryz.underlying0
 a0:=Tryz.isAgg0
 z0:=Tryz.sizeOf0
 v0:=Tryz.zeroValue0
 t3:=Tryz.underlying3
 a3:=Tryz.isAgg3
 z3:=Tryz.sizeOf3
 v3:=Tryz.zeroValue3
 t4:=Tryz.underlying4
 a4:=Tryz.isAgg4
 z4:=Tryz.sizeOf4
 v4:=Tryz.zeroValue4
 t5:=Tryz.underlying5
 a5:=Tryz.isAgg5
 z5:=Tryz.sizeOf5
 v5:=Tryz.zeroValue5
 t9:=Tryz.underlying9
 a9:=Tryz.isAgg9
 z9:=Tryz.sizeOf9
 v9:=Tryz.zeroValue9
 t22:=Tryz.underlying46
 a22:=Tryz.isAgg46
 z22:=Tryz.sizeOf46
 v22:=Tryz.zeroValue46
 t25:=Tryz.underlying88
 a25:=Tryz.isAgg88
 z25:=Tryz.sizeOf88
 v25:=Tryz.zeroValue88
 t39:=Tryz.underlying96
 a39:=Tryz.isAgg96
 z39:=Tryz.sizeOf96
 v39:=Tryz.zeroValue96
 t45:=Tryz.underlying187
 a45:=Tryz.isAgg187
 z45:=Tryz.sizeOf187
 v45:=Tryz.zeroValue187
 t46:=Tryz.underlying188
 a46:=Tryz.isAgg188
 z46:=Tryz.sizeOf188
 v46:=Tryz.zeroValue188
 t50:=Tryz.underlying192
 a50:=Tryz.isAgg192
 z50:=Tryz.sizeOf192
 v50:=Tryz.zeroValue192
 t53:=Tryz.underlying195
 a53:=Tryz.isAgg195
 z53:=Tryz.sizeOf195
 v53:=Tryz.zeroValue195
 t55:=Tryz.underlying197
 a55:=Tryz.isAgg197
 z55:=Tryz.sizeOf197
 v55:=Tryz.zeroValue197
 t66:=Tryz.underlying237
 a66:=Tryz.isAgg237
 z66:=Tryz.sizeOf237
 v66:=Tryz.zeroValue237
 t70:=Tryz.underlying241
 a70:=Tryz.isAgg241
 z70:=Tryz.sizeOf241
 v70:=Tryz.zeroValue241
 t76:=Tryz.underlying259
 a76:=Tryz.isAgg259
 z76:=Tryz.sizeOf259
 v76:=Tryz.zeroValue259
 t77:=Tryz.underlying260
 a77:=Tryz.isAgg260
 z77:=Tryz.sizeOf260
 v77:=Tryz.zeroValue260 }
def zNZ:Go.Shelf.Ren:=⟨fun|5=>70|7=>124|n=>n,fun|22=>3|3=>3|4=>4|n=>n,fun|n=>n⟩
theorem zUm:Go.Proofs.SlLaysC2.n5 Tryz.prog zNZ:={
 mixed:=by kernel_rfl
 f5:=⟨Tryz.f70.name,by decide,Tryz.func70.trans (congrArg some (by kernel_rfl))⟩
 f7:=⟨Tryz.f124.name,by decide,Tryz.func124.trans (congrArg some (by kernel_rfl))⟩
 t3:=Tryz.underlying3
 a3:=Tryz.isAgg3
 z3:=Tryz.sizeOf3
 v3:=Tryz.zeroValue3
 t4:=Tryz.underlying4
 a4:=Tryz.isAgg4
 z4:=Tryz.sizeOf4
 v4:=Tryz.zeroValue4
 t22:=Tryz.underlying3
 a22:=Tryz.isAgg3
 z22:=Tryz.sizeOf3
 v22:=Tryz.zeroValue3 }
