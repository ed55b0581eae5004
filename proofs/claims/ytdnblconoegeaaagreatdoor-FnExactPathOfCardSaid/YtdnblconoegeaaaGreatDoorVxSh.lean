import Derived.Shelf.LaysM
import Derived.Shelf.Strings.Split
import Derived.Shelf.Strings.SplitShaped
import Derived.Shelf.Strings.Repeat
import Derived.Shelf.Slices.Clone
import Derived.Shelf.SlicesE.DeleteFunc
import Derived.Test.YtdnblconoegeaaaGreatDoorProg
set_option linter.all false
namespace Go.Proofs
open Go.Shelf
def Tryz.lays146_ren:Go.Shelf.Ren:=⟨fun | 146=>218 | 221=>287 | 268=>324 | 138=>325 | 143=>326 | 195=>347 | 197=>348 | 218=>349 | 219=>350 | 260=>365 | 217=>366 | 225=>367 | 224=>368 | 267=>369 | 266=>373 | 314=>374 | n=>n,fun | 9=>9 | 31=>22 | 3=>3 | 4=>4 | 0=>0 | 105=>387 | 21=>21 | 5=>5 | 46=>311 | 119=>403 | 139=>406 | 138=>405 | 146=>396 | 51=>395 | n=>n,fun | 1=>0 | 3=>1 | 4=>2 | n=>n⟩
theorem Tryz.lays146:Go.Proofs.Lays.n146 Tryz.prog Tryz.lays146_ren:={
  mixed:=by kernel_rfl
  f138:=Tryz.func325.trans (congrArg some (by kernel_rfl))
  f143:=Tryz.func326.trans (congrArg some (by kernel_rfl))
  f146:=Tryz.func218.trans (congrArg some (by kernel_rfl))
  f195:=Tryz.func347.trans (congrArg some (by kernel_rfl))
  f197:=Tryz.func348.trans (congrArg some (by kernel_rfl))
  f217:=Tryz.func366.trans (congrArg some (by kernel_rfl))
  f218:=Tryz.func349.trans (congrArg some (by kernel_rfl))
  f219:=Tryz.func350.trans (congrArg some (by kernel_rfl))
  f221:=Tryz.func287.trans (congrArg some (by kernel_rfl))
  f224:=Tryz.func368.trans (congrArg some (by kernel_rfl))
  f225:=Tryz.func367.trans (congrArg some (by kernel_rfl))
  f260:=Tryz.func365.trans (congrArg some (by kernel_rfl))
  f266:=Tryz.func373.trans (congrArg some (by kernel_rfl))
  f267:=Tryz.func369.trans (congrArg some (by kernel_rfl))
  f268:=Tryz.func324.trans (congrArg some (by kernel_rfl))
  f314:=Tryz.func374.trans (congrArg some (by kernel_rfl))
  t0:=Tryz.underlying0
  a0:=Tryz.isAgg0
  z0:=Tryz.sizeOf0
  v0:=Tryz.zeroValue0
  t3:=Tryz.underlying3
  a3:=Tryz.isAgg3
  z3:=Tryz.sizeOf3
  v3:=Tryz.zeroValue3
  t4:=Tryz.underlying4
  a4:=Tryz.isAgg4
  z4:=Tryz.sizeOf4
  v4:=Tryz.zeroValue4
  t5:=Tryz.underlying5
  a5:=Tryz.isAgg5
  z5:=Tryz.sizeOf5
  v5:=Tryz.zeroValue5
  t9:=Tryz.underlying9
  a9:=Tryz.isAgg9
  z9:=Tryz.sizeOf9
  v9:=Tryz.zeroValue9
  t21:=Tryz.underlying21
  a21:=Tryz.isAgg21
  z21:=Tryz.sizeOf21
  v21:=Tryz.zeroValue21
  t31:=Tryz.underlying22
  a31:=Tryz.isAgg22
  z31:=Tryz.sizeOf22
  v31:=Tryz.zeroValue22
  t46:=Tryz.underlying311
  a46:=Tryz.isAgg311
  z46:=Tryz.sizeOf311
  v46:=Tryz.zeroValue311
  t51:=Tryz.underlying395
  a51:=Tryz.isAgg395
  z51:=Tryz.sizeOf395
  v51:=Tryz.zeroValue395
  t105:=Tryz.underlying387
  a105:=Tryz.isAgg387
  z105:=Tryz.sizeOf387
  v105:=Tryz.zeroValue387
  t119:=Tryz.underlying403
  a119:=Tryz.isAgg403
  z119:=Tryz.sizeOf403
  t138:=Tryz.underlying405
  a138:=Tryz.isAgg405
  z138:=Tryz.sizeOf405
  v138:=Tryz.zeroValue405
  t139:=Tryz.underlying406
  a139:=Tryz.isAgg406
  z139:=Tryz.sizeOf406
  v139:=Tryz.zeroValue406
  t146:=Tryz.underlying396
  a146:=Tryz.isAgg396
  z146:=Tryz.sizeOf396
  v146:=Tryz.zeroValue396
  g1:=by kernel_rfl
  g3:=by kernel_rfl
  g4:=by kernel_rfl }
open Go.RowKit Go.Lib in
theorem Tryz.strings_Split (s sep:ByteArray) (m:Int) (w:World) (hs:s.size<4294967281) (hm:w.cell? ⟨0,0,none⟩=some (.int .i64 m)) (h1:1≤sep.size):
    Calls Tryz.prog 218 #[.string s,.string sep] w fun e w'=>
      e=.returned (.slice (some ⟨w.heap.size,0,none⟩) (Lib.countB s sep+1) (Lib.countB s sep+1))∧w'=w.alloc (.cells ((Lib.splitB sep 0 (Lib.countB s sep) s).map Value.string).toArray 9):=Any.strings_Split Tryz.lays146 (by kernel_rfl) s sep m w hs hm h1
open Go.RowKit Go.Lib in
def Tryz.laysNm216_ren:Go.Shelf.Ren:=⟨fun | 16=>262 | n=>n,fun | 24=>22 | 9=>9 | 4=>4 | n=>n,fun | n=>n⟩
theorem Tryz.laysNm216:Go.Proofs.Lays2.n16 Tryz.prog Tryz.laysNm216_ren:={
  mixed:=by kernel_rfl
  f16:=Tryz.func262.trans (congrArg some (by kernel_rfl))
  t4:=Tryz.underlying4
  a4:=Tryz.isAgg4
  z4:=Tryz.sizeOf4
  v4:=Tryz.zeroValue4
  t9:=Tryz.underlying9
  a9:=Tryz.isAgg9
  z9:=Tryz.sizeOf9
  v9:=Tryz.zeroValue9
  t24:=Tryz.underlying22
  a24:=Tryz.isAgg22
  z24:=Tryz.sizeOf22
  v24:=Tryz.zeroValue22
  i9:=by kernel_rfl }
open Go.RowKit Go.Lib in
theorem Tryz.slices_Clone_string (b off n c:Nat) (zs:List ByteArray) (w:World) (hz:n≤zs.length) (hbig:n*16≤140737488355328) (hc:∀ j,j<zs.length→w.cell? ⟨b,off+j,none⟩=some (.string (zs.getD j ByteArray.empty))):
    Calls Tryz.prog 262 #[.slice (some ⟨b,off,none⟩) n c] w fun e w'=>∃ v',e=.returned v'∧w'.ownsRow w.heap.size 9 1 v' n ((zs.take n).map (Value.string))∧v'≠.slice none 0 0∧Below w.heap.size w w':=Any.slices_Clone_string Tryz.laysNm216 b off n c zs w hz hbig hc
open Go.RowKit Go.Lib in
theorem Tryz.slices_Clone_string_nil (n c:Nat) (w:World):
    Calls Tryz.prog 262 #[.slice none n c] w fun e w'=>e=.returned (.slice none 0 0)∧w'=w:=Any.slices_Clone_string_nil Tryz.laysNm216 n c w
open Go.RowKit Go.Lib in
theorem Tryz.slices_Clone_string_zero (a:Addr) (c:Nat) (w:World):
    Calls Tryz.prog 262 #[.slice (some a) 0 c] w fun e w'=>∃ v',e=.returned v'∧w'.ownsRow w.heap.size 9 1 v' 0 []∧v'≠.slice none 0 0∧Below w.heap.size w w':=Any.slices_Clone_string_zero Tryz.laysNm216 a c w
def Tryz.laysSlH10_f354_ren:Go.Shelf.Ren:=⟨fun | 10=>354 | 6=>288 | n=>n,fun | 22=>22 | 23=>9 | 25=>105 | 3=>3 | 4=>4 | 0=>0 | n=>n,fun | n=>n⟩
theorem Tryz.laysSlH10_f354:Go.Proofs.SlLaysH.n10 Tryz.prog Tryz.laysSlH10_f354_ren:={
  mixed:=by kernel_rfl
  f6:=⟨Tryz.f288.name,by decide,Tryz.func288.trans (congrArg some (by kernel_rfl))⟩
  f10:=⟨Tryz.f354.name,by decide,Tryz.func354.trans (congrArg some (by kernel_rfl))⟩
  t0:=Tryz.underlying0
  a0:=Tryz.isAgg0
  z0:=Tryz.sizeOf0
  v0:=Tryz.zeroValue0
  t3:=Tryz.underlying3
  a3:=Tryz.isAgg3
  z3:=Tryz.sizeOf3
  v3:=Tryz.zeroValue3
  t4:=Tryz.underlying4
  a4:=Tryz.isAgg4
  z4:=Tryz.sizeOf4
  v4:=Tryz.zeroValue4
  t22:=Tryz.underlying22
  a22:=Tryz.isAgg22
  z22:=Tryz.sizeOf22
  v22:=Tryz.zeroValue22
  a23:=Tryz.isAgg9
  z23:=Tryz.sizeOf9
  t25:=Tryz.underlying105
  a25:=Tryz.isAgg105
  z25:=Tryz.sizeOf105
  v25:=Tryz.zeroValue105 }
open Go.RowKit Go.Lib Go.Sort in
theorem Tryz.slices_DeleteFunc {α:Type} [Inhabited α] (enc:α→Value) (hO:OneCell enc) (p:α→Bool) (g:Nat) (lb:Array Value) (eg:∀ args w,(callFunc g args).run Tryz.prog w=.ok (.enter g args) w) (zr:α) (v23:∀ w,(zeroValue 9).run Tryz.prog w=.ok (enc zr) w) (blk off cap:Nat) (d:Array α) (w:World) (hp:PredAt Tryz.prog g lb enc p w) (hpo:PredOver Tryz.prog g lb enc p blk off d.size w) (hH:Holds enc w blk off d) (hsz:d.size≤9223372036854775807) (hcap:d.size≤cap):
    Calls Tryz.prog 354 #[.slice (some ⟨blk,off,none⟩) d.size cap,.func (.func g) #[] lb] w fun e w'=>e=.returned (.slice (some ⟨blk,off,none⟩) (d.toList.filter fun x=>!p x).length cap)∧∃ q,w'=putRow enc (Sort.ahead w q) blk off ((d.toList.filter fun x=>!p x)++List.replicate (d.size - (d.toList.filter fun x=>!p x).length) zr).toArray:=AnyE.slices_DeleteFunc Tryz.laysSlH10_f354 enc hO p g lb eg zr v23 blk off cap d w hp hpo hH hsz hcap
end Go.Proofs
