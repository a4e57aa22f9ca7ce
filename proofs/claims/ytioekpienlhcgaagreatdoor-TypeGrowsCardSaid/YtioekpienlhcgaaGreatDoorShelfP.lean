/- The shelf's contracts at this dump. -/
import Derived.Shelf.SlSortCmp.WholeK
import Derived.Shelf.SlicesQ.IndexFunc
import Derived.Ground.SlsfProg
import Derived.Ground.SlgfProg
import Derived.Test.YtioekpienlhcgaaGreatDoorProg
set_option maxRecDepth 100000
namespace Go.Proofs
open Go.Shelf Tryz
theorem Tryz.skaP{p:Prop}(h:p:=by kernel_rfl):p:=h
theorem Tryz.sqaP{α:Type}{a:Option α}{b c:α}(h:a=some b)(e:b=c:=by kernel_rfl):a=some c:=h.trans (congrArg some e)
def Tryz.sortL_ren:Go.Shelf.Ren:=⟨λ|6=>133|15=>156|14=>155|28=>187|29=>188|20=>179|21=>180|22=>181|23=>182|24=>183|25=>184|26=>185|27=>186|46=>207|47=>208|48=>209|49=>210|50=>211|57=>226|n=>n,λ|22=>40|24=>43|25=>78|3=>3|39=>193|0=>0|53=>209|55=>221|4=>4|46=>250|45=>249|50=>254|5=>5|9=>9|66=>273|70=>277|76=>291|77=>292|n=>n,λ|n=>n⟩
theorem Tryz.sortL:Go.Proofs.SlLaysF0.n6 prog sortL_ren:=⟨skaP,⟨f133.name,by decide,func133.trans (congrArg some (by kernel_rfl))⟩,⟨f155.name,by decide,func155.trans (congrArg some (by kernel_rfl))⟩,sqaP func156,⟨f179.name,by decide,func179.trans (congrArg some (by kernel_rfl))⟩,⟨f180.name,by decide,func180.trans (congrArg some (by kernel_rfl))⟩,⟨f181.name,by decide,func181.trans (congrArg some (by kernel_rfl))⟩,⟨f182.name,by decide,func182.trans (congrArg some (by kernel_rfl))⟩,⟨f183.name,by decide,func183.trans (congrArg some (by kernel_rfl))⟩,⟨f184.name,by decide,func184.trans (congrArg some (by kernel_rfl))⟩,⟨f185.name,by decide,func185.trans (congrArg some (by kernel_rfl))⟩,⟨f186.name,by decide,func186.trans (congrArg some (by kernel_rfl))⟩,sqaP func187,sqaP func188,⟨f207.name,by decide,func207.trans (congrArg some (by kernel_rfl))⟩,sqaP func208,sqaP func209,⟨f210.name,by decide,func210.trans (congrArg some (by kernel_rfl))⟩,⟨f211.name,by decide,func211.trans (congrArg some (by kernel_rfl))⟩,⟨f226.name,by decide,func226.trans (congrArg some (by kernel_rfl))⟩,underlying0,isAgg0,sizeOf0,zeroValue0,underlying3,isAgg3,sizeOf3,zeroValue3,underlying4,isAgg4,sizeOf4,zeroValue4,underlying5,isAgg5,sizeOf5,zeroValue5,underlying9,isAgg9,sizeOf9,zeroValue9,underlying40,isAgg40,sizeOf40,zeroValue40,underlying78,isAgg78,sizeOf78,zeroValue78,underlying193,isAgg193,sizeOf193,zeroValue193,underlying249,isAgg249,sizeOf249,zeroValue249,underlying250,isAgg250,sizeOf250,zeroValue250,underlying254,isAgg254,sizeOf254,zeroValue254,underlying209,isAgg209,sizeOf209,zeroValue209,underlying221,isAgg221,sizeOf221,zeroValue221,underlying273,isAgg273,sizeOf273,zeroValue273,underlying277,isAgg277,sizeOf277,zeroValue277,underlying291,isAgg291,sizeOf291,zeroValue291,underlying292,isAgg292,sizeOf292,zeroValue292⟩
end Go.Proofs
