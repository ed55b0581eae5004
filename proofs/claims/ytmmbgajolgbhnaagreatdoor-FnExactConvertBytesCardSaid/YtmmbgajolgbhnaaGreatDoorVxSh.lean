import Derived.Shelf.Strings.Search3
import Derived.Shelf.Strings.Repeat
import Derived.Test.YtmmbgajolgbhnaaGreatDoorProg
set_option linter.all false
namespace Go.Proofs
open Go.Shelf
def Tryz.lays144_ren:Go.Shelf.Ren:=⟨fun | 144=>151 | 143=>191 | 219=>222 | 217=>240 | 225=>241 | 224=>242 | 267=>243 | 266=>259 | 314=>260 | n=>n,fun | 9=>9 | 4=>4 | 3=>3 | 5=>5 | 46=>149 | 146=>221 | 51=>220 | n=>n,fun | 1=>0 | n=>n⟩
theorem Tryz.lays144:Go.Proofs.Lays.n144 Tryz.prog Tryz.lays144_ren:={
  mixed:=by kernel_rfl
  f143:=Tryz.func191.trans (congrArg some (by kernel_rfl))
  f144:=Tryz.func151.trans (congrArg some (by kernel_rfl))
  f217:=Tryz.func240.trans (congrArg some (by kernel_rfl))
  f219:=Tryz.func222.trans (congrArg some (by kernel_rfl))
  f224:=Tryz.func242.trans (congrArg some (by kernel_rfl))
  f225:=Tryz.func241.trans (congrArg some (by kernel_rfl))
  f266:=Tryz.func259.trans (congrArg some (by kernel_rfl))
  f267:=Tryz.func243.trans (congrArg some (by kernel_rfl))
  f314:=Tryz.func260.trans (congrArg some (by kernel_rfl))
  t3:=Tryz.underlying3
  a3:=Tryz.isAgg3
  z3:=Tryz.sizeOf3
  v3:=Tryz.zeroValue3
  t4:=Tryz.underlying4
  a4:=Tryz.isAgg4
  z4:=Tryz.sizeOf4
  v4:=Tryz.zeroValue4
  t5:=Tryz.underlying5
  a5:=Tryz.isAgg5
  z5:=Tryz.sizeOf5
  v5:=Tryz.zeroValue5
  t9:=Tryz.underlying9
  a9:=Tryz.isAgg9
  z9:=Tryz.sizeOf9
  v9:=Tryz.zeroValue9
  t46:=Tryz.underlying149
  a46:=Tryz.isAgg149
  z46:=Tryz.sizeOf149
  v46:=Tryz.zeroValue149
  t51:=Tryz.underlying220
  a51:=Tryz.isAgg220
  z51:=Tryz.sizeOf220
  v51:=Tryz.zeroValue220
  t146:=Tryz.underlying221
  a146:=Tryz.isAgg221
  z146:=Tryz.sizeOf221
  v146:=Tryz.zeroValue221
  g1:=by kernel_rfl }
open Go.RowKit Go.Lib in
theorem Tryz.strings_Contains_one (s:ByteArray) (c:UInt8) (w:World):
    Calls Tryz.prog 151 #[.string s,.string ⟨#[c]⟩] w fun e w'=>e=.returned (.bool (decide (0≤Lib.indexByte s.data.toList c)))∧w'=w:=Any.strings_Contains_one Tryz.lays144 s c w
def Tryz.lays105_ren:Go.Shelf.Ren:=⟨fun | 105=>203 | 212=>226 | 99=>212 | 165=>186 | 166=>62 | 170=>227 | 169=>65 | 263=>246 | 264=>247 | 206=>230 | 240=>118 | 241=>216 | 276=>168 | 277=>232 | n=>n,fun | 9=>9 | 3=>3 | 4=>4 | 20=>20 | 0=>0 | 46=>149 | 109=>201 | 5=>5 | 72=>86 | 76=>89 | 51=>220 | 146=>221 | 53=>132 | 148=>223 | 70=>84 | 37=>38 | 75=>88 | 127=>145 | 164=>167 | 80=>93 | n=>n,fun | n=>n⟩
theorem Tryz.lays105:Go.Proofs.Lays.n105 Tryz.prog Tryz.lays105_ren:={
  mixed:=by kernel_rfl
  f99:=Tryz.func212.trans (congrArg some (by kernel_rfl))
  f105:=Tryz.func203.trans (congrArg some (by kernel_rfl))
  f165:=Tryz.func186.trans (congrArg some (by kernel_rfl))
  f166:=Tryz.func62.trans (congrArg some (by kernel_rfl))
  f169:=Tryz.func65.trans (congrArg some (by kernel_rfl))
  f170:=Tryz.func227.trans (congrArg some (by kernel_rfl))
  f206:=Tryz.func230.trans (congrArg some (by kernel_rfl))
  f212:=Tryz.func226.trans (congrArg some (by kernel_rfl))
  f240:=Tryz.func118.trans (congrArg some (by kernel_rfl))
  f241:=Tryz.func216.trans (congrArg some (by kernel_rfl))
  f263:=Tryz.func246.trans (congrArg some (by kernel_rfl))
  f264:=Tryz.func247.trans (congrArg some (by kernel_rfl))
  f276:=Tryz.func168.trans (congrArg some (by kernel_rfl))
  f277:=Tryz.func232.trans (congrArg some (by kernel_rfl))
  t0:=Tryz.underlying0
  a0:=Tryz.isAgg0
  z0:=Tryz.sizeOf0
  v0:=Tryz.zeroValue0
  t3:=Tryz.underlying3
  a3:=Tryz.isAgg3
  z3:=Tryz.sizeOf3
  v3:=Tryz.zeroValue3
  t4:=Tryz.underlying4
  a4:=Tryz.isAgg4
  z4:=Tryz.sizeOf4
  v4:=Tryz.zeroValue4
  t5:=Tryz.underlying5
  a5:=Tryz.isAgg5
  z5:=Tryz.sizeOf5
  v5:=Tryz.zeroValue5
  t9:=Tryz.underlying9
  a9:=Tryz.isAgg9
  z9:=Tryz.sizeOf9
  v9:=Tryz.zeroValue9
  t20:=Tryz.underlying20
  a20:=Tryz.isAgg20
  z20:=Tryz.sizeOf20
  v20:=Tryz.zeroValue20
  t37:=Tryz.underlying38
  a37:=Tryz.isAgg38
  z37:=Tryz.sizeOf38
  v37:=Tryz.zeroValue38
  t46:=Tryz.underlying149
  a46:=Tryz.isAgg149
  z46:=Tryz.sizeOf149
  v46:=Tryz.zeroValue149
  t51:=Tryz.underlying220
  a51:=Tryz.isAgg220
  z51:=Tryz.sizeOf220
  v51:=Tryz.zeroValue220
  t53:=Tryz.underlying132
  a53:=Tryz.isAgg132
  z53:=Tryz.sizeOf132
  v53:=Tryz.zeroValue132
  t70:=Tryz.underlying84
  a70:=Tryz.isAgg84
  z70:=Tryz.sizeOf84
  v70:=Tryz.zeroValue84
  t72:=Tryz.underlying86
  a72:=Tryz.isAgg86
  z72:=Tryz.sizeOf86
  v72:=Tryz.zeroValue86
  t75:=Tryz.underlying88
  a75:=Tryz.isAgg88
  z75:=Tryz.sizeOf88
  v75:=Tryz.zeroValue88
  t76:=Tryz.underlying89
  a76:=Tryz.isAgg89
  z76:=Tryz.sizeOf89
  v76:=Tryz.zeroValue89
  t109:=Tryz.underlying201
  a109:=Tryz.isAgg201
  z109:=Tryz.sizeOf201
  v109:=Tryz.zeroValue201
  t127:=Tryz.underlying145
  a127:=Tryz.isAgg145
  z127:=Tryz.sizeOf145
  v127:=Tryz.zeroValue145
  t146:=Tryz.underlying221
  a146:=Tryz.isAgg221
  z146:=Tryz.sizeOf221
  v146:=Tryz.zeroValue221
  t148:=Tryz.underlying223
  a148:=Tryz.isAgg223
  z148:=Tryz.sizeOf223
  v148:=Tryz.zeroValue223
  t164:=Tryz.underlying167
  a164:=Tryz.isAgg167
  z164:=Tryz.sizeOf167
  v164:=Tryz.zeroValue167 }
theorem Tryz.Builder_Extra_105:Builder.Extra Tryz.prog Tryz.lays105_ren:={
  sizeBuilder:=by kernel_rfl
  liesBuilder:=by kernel_rfl
  t5:=Tryz.underlying5
  a5:=Tryz.isAgg5
  z5:=Tryz.sizeOf5
  v5:=Tryz.zeroValue5
  infoByte:=by kernel_rfl
  cellsByte:=by kernel_rfl
  sizeByte:=by kernel_rfl
  neB5:=by decide }
open Go.RowKit Go.Lib in
theorem Tryz.strings_Repeat (s:ByteArray) (c:Nat) (w:World) (hc:c≤9223372036854775807) (hlen:s.size*c≤140737488355328):
    Calls Tryz.prog 203 #[.string s,.int .i64 c] w fun e w'=>e=.returned (.string ⟨(Lib.repeatL s.data.toList c).toArray⟩)∧Below w.heap.size w w':=Any.strings_Repeat Tryz.lays105 Tryz.Builder_Extra_105 s c w hc hlen
end Go.Proofs
