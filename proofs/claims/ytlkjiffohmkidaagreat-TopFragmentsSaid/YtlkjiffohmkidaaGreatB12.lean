/- A part of the proof: texts Xtf. -/
import Derived.Test.YtlkjiffohmkidaaGreatProg
import Derived.KernelRfl
import Derived.Test.YtlkjiffohmkidaaGreatB8
import Derived.Test.YtlkjiffohmkidaaGreatB11
namespace Go.Sh
set_option linter.unusedSectionVars false
set_option linter.unnecessarySimpa false
set_option linter.unusedSimpArgs false
set_option linter.unusedVariables false
set_option maxRecDepth 100000
set_option maxHeartbeats 4000000
section
open Go.Shelf Go.RowKit Go.Proofs
def lz:Go.Shelf.Ren:=⟨fun|156=>85|165=>143|166=>144|169=>145|240=>176|241=>177|276=>200|277=>201|n=>n,fun|31=>92|9=>9|3=>3|4=>4|0=>0|20=>20|72=>260|76=>264|70=>258|37=>58|75=>263|127=>283|164=>302|5=>5|80=>266|n=>n,fun|n=>n⟩
theorem FV:Go.Proofs.Lays.n156 Tryz.prog lz where
 mixed:=by kernel_rfl
 f156:=Tryz.func85.trans (congrArg some (by kernel_rfl))
 f165:=Tryz.func143.trans (congrArg some (by kernel_rfl))
 f166:=Tryz.func144.trans (congrArg some (by kernel_rfl))
 f169:=Tryz.func145.trans (congrArg some (by kernel_rfl))
 f240:=Tryz.func176.trans (congrArg some (by kernel_rfl))
 f241:=Tryz.func177.trans (congrArg some (by kernel_rfl))
 f276:=Tryz.func200.trans (congrArg some (by kernel_rfl))
 f277:=Tryz.func201.trans (congrArg some (by kernel_rfl))
 t0:=Tryz.underlying0
 a0:=Tryz.isAgg0
 z0:=Tryz.sizeOf0
 v0:=Tryz.zeroValue0
 t3:=Tryz.underlying3
 a3:=Tryz.isAgg3
 z3:=Tryz.sizeOf3
 v3:=Tryz.zeroValue3
 t4:=Tryz.underlying4
 a4:=Tryz.isAgg4
 z4:=Tryz.sizeOf4
 v4:=Tryz.zeroValue4
 t9:=Tryz.underlying9
 a9:=Tryz.isAgg9
 z9:=Tryz.sizeOf9
 v9:=Tryz.zeroValue9
 t20:=Tryz.underlying20
 a20:=Tryz.isAgg20
 z20:=Tryz.sizeOf20
 v20:=Tryz.zeroValue20
 t31:=Tryz.underlying92
 a31:=Tryz.isAgg92
 z31:=Tryz.sizeOf92
 v31:=Tryz.zeroValue92
 t37:=Tryz.underlying58
 a37:=Tryz.isAgg58
 z37:=Tryz.sizeOf58
 v37:=Tryz.zeroValue58
 t70:=Tryz.underlying258
 a70:=Tryz.isAgg258
 z70:=Tryz.sizeOf258
 v70:=Tryz.zeroValue258
 t72:=Tryz.underlying260
 a72:=Tryz.isAgg260
 z72:=Tryz.sizeOf260
 v72:=Tryz.zeroValue260
 t75:=Tryz.underlying263
 a75:=Tryz.isAgg263
 z75:=Tryz.sizeOf263
 v75:=Tryz.zeroValue263
 t76:=Tryz.underlying264
 a76:=Tryz.isAgg264
 z76:=Tryz.sizeOf264
 v76:=Tryz.zeroValue264
 t127:=Tryz.underlying283
 a127:=Tryz.isAgg283
 z127:=Tryz.sizeOf283
 v127:=Tryz.zeroValue283
 t164:=Tryz.underlying302
 a164:=Tryz.isAgg302
 z164:=Tryz.sizeOf302
 v164:=Tryz.zeroValue302
theorem Co:Builder.Extra Tryz.prog lz where
 sizeBuilder:=by kernel_rfl
 liesBuilder:=by kernel_rfl
 t5:=Tryz.underlying5
 a5:=Tryz.isAgg5
 z5:=Tryz.sizeOf5
 v5:=Tryz.zeroValue5
 infoByte:=by kernel_rfl
 cellsByte:=by kernel_rfl
 sizeByte:=by kernel_rfl
 neB5:=by decide
theorem exts:nw ⟨Tryz.prog,cU⟩:=by
 intro f k h
 have h2:f=85∧k=1:=by
  have h:(match(generalizing:=false) f with|85=>some 1|_=>none:Option Nat)=some k:=h
  split at h
  ·cases h;exact⟨rfl,rfl⟩
  ·cases h
 obtain⟨rfl,rfl⟩:=h2
 have h3:=yZ (C:=⟨Tryz.prog,cU⟩) FV Co
 have h4:lz.f 156=85:=by kernel_rfl
 rw[h4]at h3
 exact h3
end
end Go.Sh
