/- The shelf's contracts at this dump. -/
import Derived.Shelf.SlSortCmp.WholeK
import Derived.Shelf.SlicesQ.IndexFunc
import Derived.Ground.SlsfProg
import Derived.Ground.SlgfProg
import Derived.Test.YtnfiadlonjediaaGreatDoorProg
set_option maxRecDepth 100000
namespace Go.Proofs
open Go.Shelf Tryz
theorem Tryz.skaP{p:Prop}(h:p:=by kernel_rfl):p:=h
theorem Tryz.sqaP{α:Type}{a:Option α}{b c:α}(h:a=some b)(e:b=c:=by kernel_rfl):a=some c:=h.trans (congrArg some e)
def Tryz.sortL_ren:Go.Shelf.Ren:=⟨λ|6=>218|15=>217|14=>259|28=>257|29=>258|20=>283|21=>284|22=>285|23=>286|24=>287|25=>288|26=>289|27=>290|46=>305|47=>278|48=>279|49=>306|50=>307|57=>320|n=>n,λ|22=>43|24=>111|25=>219|3=>3|39=>224|0=>0|53=>225|55=>261|4=>4|46=>372|45=>371|50=>187|5=>5|9=>9|66=>391|70=>395|76=>422|77=>423|n=>n,λ|n=>n⟩
theorem Tryz.sortL:Go.Proofs.SlLaysF0.n6 prog sortL_ren:=⟨skaP,⟨f218.name,by decide,func218.trans (congrArg some (by kernel_rfl))⟩,⟨f259.name,by decide,func259.trans (congrArg some (by kernel_rfl))⟩,sqaP func217,⟨f283.name,by decide,func283.trans (congrArg some (by kernel_rfl))⟩,⟨f284.name,by decide,func284.trans (congrArg some (by kernel_rfl))⟩,⟨f285.name,by decide,func285.trans (congrArg some (by kernel_rfl))⟩,⟨f286.name,by decide,func286.trans (congrArg some (by kernel_rfl))⟩,⟨f287.name,by decide,func287.trans (congrArg some (by kernel_rfl))⟩,⟨f288.name,by decide,func288.trans (congrArg some (by kernel_rfl))⟩,⟨f289.name,by decide,func289.trans (congrArg some (by kernel_rfl))⟩,⟨f290.name,by decide,func290.trans (congrArg some (by kernel_rfl))⟩,sqaP func257,sqaP func258,⟨f305.name,by decide,func305.trans (congrArg some (by kernel_rfl))⟩,sqaP func278,sqaP func279,⟨f306.name,by decide,func306.trans (congrArg some (by kernel_rfl))⟩,⟨f307.name,by decide,func307.trans (congrArg some (by kernel_rfl))⟩,⟨f320.name,by decide,func320.trans (congrArg some (by kernel_rfl))⟩,underlying0,isAgg0,sizeOf0,zeroValue0,underlying3,isAgg3,sizeOf3,zeroValue3,underlying4,isAgg4,sizeOf4,zeroValue4,underlying5,isAgg5,sizeOf5,zeroValue5,underlying9,isAgg9,sizeOf9,zeroValue9,underlying43,isAgg43,sizeOf43,zeroValue43,underlying219,isAgg219,sizeOf219,zeroValue219,underlying224,isAgg224,sizeOf224,zeroValue224,underlying371,isAgg371,sizeOf371,zeroValue371,underlying372,isAgg372,sizeOf372,zeroValue372,underlying187,isAgg187,sizeOf187,zeroValue187,underlying225,isAgg225,sizeOf225,zeroValue225,underlying261,isAgg261,sizeOf261,zeroValue261,underlying391,isAgg391,sizeOf391,zeroValue391,underlying395,isAgg395,sizeOf395,zeroValue395,underlying422,isAgg422,sizeOf422,zeroValue422,underlying423,isAgg423,sizeOf423,zeroValue423⟩
end Go.Proofs
