/-
 DERIVED: THE SHELF's CONTRACTS AT THIS DUMP, IN PLAIN WORDS (tools/lay-plain.mjs out of 'YtblnlodlilcnaaaGreatLay.lean', which tools/lay-shelf.mjs wrote): THE SAME DECLARATIONS UNDER THE SAME NAMES: 'import', 'namespace', 'open', 'def', 'theorem' AND NOTHING ELSE: no command of the shelf's: FOR A HAND-IN. Each laying: the table of numbers ('.._ren') and one theorem, a field a fact of the dump's own or the kernel's comparison; each contract: ONE APPLICATION.
-/
import Derived.Shelf.SlSortCmp.WholeK
import Derived.Test.YtblnlodlilcnaaaGreatProg
namespace Go.Proofs
open Go.Shelf
def Tryz.sortP_ren:Go.Shelf.Ren:=⟨fun|6=>55|15=>85|14=>84|28=>111|29=>112|20=>103|21=>104|22=>105|23=>106|24=>107|25=>108|26=>109|27=>110|46=>119|47=>120|48=>121|49=>122|50=>123|57=>124|n=>n,fun|22=>25|24=>49|25=>81|3=>3|39=>120|0=>0|53=>140|55=>142|4=>4|46=>134|45=>133|50=>76|5=>5|9=>9|66=>146|70=>150|76=>152|77=>88|n=>n,fun|n=>n⟩
theorem Tryz.sortP:Go.Proofs.SlLaysF0.n6 Tryz.prog Tryz.sortP_ren:={
 mixed:=by kernel_rfl
 f6:=⟨Tryz.f55.name,by decide,Tryz.func55.trans (congrArg some (by kernel_rfl))⟩
 f14:=⟨Tryz.f84.name,by decide,Tryz.func84.trans (congrArg some (by kernel_rfl))⟩
 f15:=Tryz.func85.trans (congrArg some (by kernel_rfl))
 f20:=⟨Tryz.f103.name,by decide,Tryz.func103.trans (congrArg some (by kernel_rfl))⟩
 f21:=⟨Tryz.f104.name,by decide,Tryz.func104.trans (congrArg some (by kernel_rfl))⟩
 f22:=⟨Tryz.f105.name,by decide,Tryz.func105.trans (congrArg some (by kernel_rfl))⟩
 f23:=⟨Tryz.f106.name,by decide,Tryz.func106.trans (congrArg some (by kernel_rfl))⟩
 f24:=⟨Tryz.f107.name,by decide,Tryz.func107.trans (congrArg some (by kernel_rfl))⟩
 f25:=⟨Tryz.f108.name,by decide,Tryz.func108.trans (congrArg some (by kernel_rfl))⟩
 f26:=⟨Tryz.f109.name,by decide,Tryz.func109.trans (congrArg some (by kernel_rfl))⟩
 f27:=⟨Tryz.f110.name,by decide,Tryz.func110.trans (congrArg some (by kernel_rfl))⟩
 f28:=Tryz.func111.trans (congrArg some (by kernel_rfl))
 f29:=Tryz.func112.trans (congrArg some (by kernel_rfl))
 f46:=⟨Tryz.f119.name,by decide,Tryz.func119.trans (congrArg some (by kernel_rfl))⟩
 f47:=Tryz.func120.trans (congrArg some (by kernel_rfl))
 f48:=Tryz.func121.trans (congrArg some (by kernel_rfl))
 f49:=⟨Tryz.f122.name,by decide,Tryz.func122.trans (congrArg some (by kernel_rfl))⟩
 f50:=⟨Tryz.f123.name,by decide,Tryz.func123.trans (congrArg some (by kernel_rfl))⟩
 f57:=⟨Tryz.f124.name,by decide,Tryz.func124.trans (congrArg some (by kernel_rfl))⟩
 t0:=Tryz.underlying0
 a0:=Tryz.isAgg0
 z0:=Tryz.sizeOf0
 v0:=Tryz.zeroValue0
 t3:=Tryz.underlying3
 a3:=Tryz.isAgg3
 z3:=Tryz.sizeOf3
 v3:=Tryz.zeroValue3
 t4:=Tryz.underlying4
 a4:=Tryz.isAgg4
 z4:=Tryz.sizeOf4
 v4:=Tryz.zeroValue4
 t5:=Tryz.underlying5
 a5:=Tryz.isAgg5
 z5:=Tryz.sizeOf5
 v5:=Tryz.zeroValue5
 t9:=Tryz.underlying9
 a9:=Tryz.isAgg9
 z9:=Tryz.sizeOf9
 v9:=Tryz.zeroValue9
 t22:=Tryz.underlying25
 a22:=Tryz.isAgg25
 z22:=Tryz.sizeOf25
 v22:=Tryz.zeroValue25
 t25:=Tryz.underlying81
 a25:=Tryz.isAgg81
 z25:=Tryz.sizeOf81
 v25:=Tryz.zeroValue81
 t39:=Tryz.underlying120
 a39:=Tryz.isAgg120
 z39:=Tryz.sizeOf120
 v39:=Tryz.zeroValue120
 t45:=Tryz.underlying133
 a45:=Tryz.isAgg133
 z45:=Tryz.sizeOf133
 v45:=Tryz.zeroValue133
 t46:=Tryz.underlying134
 a46:=Tryz.isAgg134
 z46:=Tryz.sizeOf134
 v46:=Tryz.zeroValue134
 t50:=Tryz.underlying76
 a50:=Tryz.isAgg76
 z50:=Tryz.sizeOf76
 v50:=Tryz.zeroValue76
 t53:=Tryz.underlying140
 a53:=Tryz.isAgg140
 z53:=Tryz.sizeOf140
 v53:=Tryz.zeroValue140
 t55:=Tryz.underlying142
 a55:=Tryz.isAgg142
 z55:=Tryz.sizeOf142
 v55:=Tryz.zeroValue142
 t66:=Tryz.underlying146
 a66:=Tryz.isAgg146
 z66:=Tryz.sizeOf146
 v66:=Tryz.zeroValue146
 t70:=Tryz.underlying150
 a70:=Tryz.isAgg150
 z70:=Tryz.sizeOf150
 v70:=Tryz.zeroValue150
 t76:=Tryz.underlying152
 a76:=Tryz.isAgg152
 z76:=Tryz.sizeOf152
 v76:=Tryz.zeroValue152
 t77:=Tryz.underlying88
 a77:=Tryz.isAgg88
 z77:=Tryz.sizeOf88
 v77:=Tryz.zeroValue88 }
end Go.Proofs
