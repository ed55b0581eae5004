/-
  Our program is the seat's. Printed by mtall.py.
-/
import Derived.Test.YtdnblconoegeaaaGreatDoorC3
set_option linter.all false
namespace Go.VS
open Go Go.Proofs
/-- What is asked of one of our functions. -/
def MtAt (W:World) (n:Nat):Option Fd→Prop
  | none=>True
  | some (.ir _ nt rs k)=>n<1000∧(∀ args w,(callFunc (phi n) args).run Tryz.prog w=.ok (.enter (phi n) args) w)∧∃ fn,Tryz.prog.funcs[phi n]?=some fn∧mF tbS phi fn nt rs k=true
  | some (.pin _ nt rs k)=>(∀ args w,(callFunc (phi n) args).run Tryz.prog w=.ok (.enter (phi n) args) w)∧∃ fn,Tryz.prog.funcs[phi n]?=some fn∧mF tbS phi fn nt rs k=true
  | some (.intr sem)=>∀ s o,sem s=some o→Good Tryz.prog phi ⟨W.heap.size,Tryz.prog⟩ (oldJ W) (decide (1000≤n)) (phi n) s o
def Fd.plain:Fd→Bool
  | .intr _=>false
  | _=>true
theorem MtAt.mk {W:World} {n m:Nat} {fd:Fd} {F:Func} (hp:phi n=m) (hc:∀ args w,(callFunc m args).run Tryz.prog w=.ok (.enter m args) w) (hf:Tryz.prog.funcs[m]?=some F) (h:mFd F fd=true) (hi:fd.plain=true) (hn:n<1000∨∃ a b c d,fd=.pin a b c d):MtAt W n (some fd):=by
  subst hp
  cases fd with
  | ir np nt rs k=>rcases hn with hn | ⟨_,_,_,_,e⟩;exact ⟨hn,hc,F,hf,h⟩;cases e
  | pin np nt rs k=>exact ⟨hc,F,hf,h⟩
  | intr=>cases hi
theorem MtAt.intr {W:World} {n m:Nat} {sem:St→Option Out} (hp:phi n=m) (hn:n<1000) (h:∀ s o,sem s=some o→Good Tryz.prog phi ⟨W.heap.size,Tryz.prog⟩ (oldJ W) false m s o):MtAt W n (some (.intr sem)):=by
  subst hp
  show ∀ s o,sem s=some o→Good Tryz.prog phi ⟨W.heap.size,Tryz.prog⟩ (oldJ W) (decide (1000≤n)) (phi n) s o
  rw [decide_eq_false (by omega)]
  exact h
theorem MtAt.i {W:World} {n m:Nat} {fd:Fd} {F:Func} (hp:phi n=m) (hc:∀ args w,(callFunc m args).run Tryz.prog w=.ok (.enter m args) w) (hf:Tryz.prog.funcs[m]?=some F) (h:mFd F fd=true) (hi:fd.plain=true:=by rfl) (hn:n<1000:=by decide):MtAt W n (some fd):=.mk hp hc hf h hi (.inl hn)
section
variable {W:World} {mm:Int} (hm:W.cell? ⟨0,0,none⟩=some (.int .i64 mm))
include hm
set_option maxRecDepth 100000
theorem mt_c0:∀ n,MtAt W n (prog_0 n):=by
  intro n
  unfold prog_0
  split
  · exact .i (m:=10) rfl Tryz.call10 Tryz.func10 mt_0
  · exact .i (m:=13) rfl Tryz.call13 Tryz.func13 mt_1
  · exact .i (m:=16) rfl Tryz.call16 Tryz.func16 mt_4
  · exact .i (m:=78) rfl Tryz.call78 Tryz.func78 mt_12
  · exact .i (m:=36) rfl Tryz.call36 Tryz.func36 mt_13
  · exact .i (m:=37) rfl Tryz.call37 Tryz.func37 mt_14
  · exact .i (m:=138) rfl Tryz.call138 Tryz.func138 mt_15
  · exact .i (m:=39) rfl Tryz.call39 Tryz.func39 mt_16
  · exact .i (m:=43) rfl Tryz.call43 Tryz.func43 mt_18
  · exact .i (m:=44) rfl Tryz.call44 Tryz.func44 mt_19
  · exact .i (m:=45) rfl Tryz.call45 Tryz.func45 mt_20
  · exact .i (m:=47) rfl Tryz.call47 Tryz.func47 mt_21
  · exact .i (m:=65) rfl Tryz.call65 Tryz.func65 mt_22
  · exact .i (m:=52) rfl Tryz.call52 Tryz.func52 mt_24
  · exact .i (m:=53) rfl Tryz.call53 Tryz.func53 mt_25
  · exact .i (m:=54) rfl Tryz.call54 Tryz.func54 mt_26
  · exact .i (m:=75) rfl Tryz.call75 Tryz.func75 mt_31
  · exact .i (m:=156) rfl Tryz.call156 Tryz.func156 mt_32
  · exact .i (m:=92) rfl Tryz.call92 Tryz.func92 mt_33
  · exact .i (m:=93) rfl Tryz.call93 Tryz.func93 mt_34
  · exact .i (m:=94) rfl Tryz.call94 Tryz.func94 mt_35
  · exact .i (m:=61) rfl Tryz.call61 Tryz.func61 mt_36
  · exact .i (m:=96) rfl Tryz.call96 Tryz.func96 mt_37
  · exact .i (m:=97) rfl Tryz.call97 Tryz.func97 mt_38
  · exact .i (m:=98) rfl Tryz.call98 Tryz.func98 mt_39
  · exact .i (m:=99) rfl Tryz.call99 Tryz.func99 mt_40
  · exact .i (m:=100) rfl Tryz.call100 Tryz.func100 mt_41
  · exact .i (m:=101) rfl Tryz.call101 Tryz.func101 mt_42
  · exact .i (m:=153) rfl Tryz.call153 Tryz.func153 mt_43
  · exact .i (m:=213) rfl Tryz.call213 Tryz.func213 mt_44
  · exact .i (m:=109) rfl Tryz.call109 Tryz.func109 mt_46
  · exact .i (m:=110) rfl Tryz.call110 Tryz.func110 mt_47
  · exact .i (m:=111) rfl Tryz.call111 Tryz.func111 mt_48
  · exact .i (m:=113) rfl Tryz.call113 Tryz.func113 mt_49
  · exact .i (m:=114) rfl Tryz.call114 Tryz.func114 mt_50
  · exact .i (m:=115) rfl Tryz.call115 Tryz.func115 mt_51
  · exact .i (m:=116) rfl Tryz.call116 Tryz.func116 mt_52
  · exact .i (m:=117) rfl Tryz.call117 Tryz.func117 mt_53
  · exact .i (m:=141) rfl Tryz.call141 Tryz.func141 mt_54
  · exact .i (m:=128) rfl Tryz.call128 Tryz.func128 mt_56
  · trivial
theorem mt_c1:∀ n,MtAt W n (prog_1 n):=by
  intro n
  unfold prog_1
  split
  · exact .i (m:=129) rfl Tryz.call129 Tryz.func129 mt_57
  · exact .i (m:=130) rfl Tryz.call130 Tryz.func130 mt_58
  · exact .i (m:=230) rfl Tryz.call230 Tryz.func230 mt_60
  · exact .i (m:=154) rfl Tryz.call154 Tryz.func154 mt_65
  · exact .i (m:=231) rfl Tryz.call231 Tryz.func231 mt_66
  · exact .i (m:=172) rfl Tryz.call172 Tryz.func172 mt_67
  · exact .i (m:=137) rfl Tryz.call137 Tryz.func137 mt_68
  · exact .i (m:=173) rfl Tryz.call173 Tryz.func173 mt_69
  · exact .i (m:=174) rfl Tryz.call174 Tryz.func174 mt_70
  · exact .i (m:=182) rfl Tryz.call182 Tryz.func182 mt_71
  · exact .i (m:=177) rfl Tryz.call177 Tryz.func177 mt_72
  · exact .i (m:=144) rfl Tryz.call144 Tryz.func144 mt_73
  · exact .i (m:=277) rfl Tryz.call277 Tryz.func277 mt_74
  · exact .i (m:=278) rfl Tryz.call278 Tryz.func278 mt_75
  · exact .i (m:=279) rfl Tryz.call279 Tryz.func279 mt_76
  · exact .i (m:=190) rfl Tryz.call190 Tryz.func190 mt_77
  · exact .i (m:=191) rfl Tryz.call191 Tryz.func191 mt_78
  · exact .i (m:=192) rfl Tryz.call192 Tryz.func192 mt_79
  · exact .i (m:=193) rfl Tryz.call193 Tryz.func193 mt_80
  · exact .i (m:=195) rfl Tryz.call195 Tryz.func195 mt_81
  · exact .i (m:=194) rfl Tryz.call194 Tryz.func194 mt_82
  · exact .i (m:=197) rfl Tryz.call197 Tryz.func197 mt_83
  · exact .i (m:=217) rfl Tryz.call217 Tryz.func217 mt_84
  · exact .intr (m:=218) rfl (by decide) (aq6 hm)
  · exact .i (m:=219) rfl Tryz.call219 Tryz.func219 mt_86
  · exact .i (m:=220) rfl Tryz.call220 Tryz.func220 mt_87
  · exact .i (m:=221) rfl Tryz.call221 Tryz.func221 mt_88
  · exact .i (m:=212) rfl Tryz.call212 Tryz.func212 mt_91
  · exact .i (m:=76) rfl Tryz.call76 Tryz.func76 mt_92
  · exact .i (m:=265) rfl Tryz.call265 Tryz.func265 mt_93
  · exact .i (m:=203) rfl Tryz.call203 Tryz.func203 mt_94
  · exact .i (m:=300) rfl Tryz.call300 Tryz.func300 mt_95
  · exact .i (m:=79) rfl Tryz.call79 Tryz.func79 mt_96
  · exact .i (m:=146) rfl Tryz.call146 Tryz.func146 mt_98
  · exact .i (m:=244) rfl Tryz.call244 Tryz.func244 mt_99
  · exact .i (m:=247) rfl Tryz.call247 Tryz.func247 mt_100
  · exact .i (m:=176) rfl Tryz.call176 Tryz.func176 mt_101
  · exact .i (m:=104) rfl Tryz.call104 Tryz.func104 mt_102
  · exact .i (m:=249) rfl Tryz.call249 Tryz.func249 mt_103
  · exact .i (m:=250) rfl Tryz.call250 Tryz.func250 mt_104
  · trivial
theorem mt_c2:∀ n,MtAt W n (prog_2 n):=by
  intro n
  unfold prog_2
  split
  · exact .i (m:=280) rfl Tryz.call280 Tryz.func280 mt_105
  · exact .i (m:=320) rfl Tryz.call320 Tryz.func320 mt_106
  · exact .i (m:=321) rfl Tryz.call321 Tryz.func321 mt_107
  · exact .i (m:=322) rfl Tryz.call322 Tryz.func322 mt_108
  · exact .i (m:=256) rfl Tryz.call256 Tryz.func256 mt_109
  · exact .i (m:=258) rfl Tryz.call258 Tryz.func258 mt_110
  · exact .i (m:=257) rfl Tryz.call257 Tryz.func257 mt_111
  · exact .i (m:=260) rfl Tryz.call260 Tryz.func260 mt_112
  · exact .i (m:=196) rfl Tryz.call196 Tryz.func196 mt_113
  · exact .i (m:=261) rfl Tryz.call261 Tryz.func261 mt_114
  · exact .i (m:=286) rfl Tryz.call286 Tryz.func286 mt_115
  · exact .i (m:=288) rfl Tryz.call288 Tryz.func288 mt_116
  · exact .i (m:=64) rfl Tryz.call64 Tryz.func64 mt_117
  · exact .i (m:=289) rfl Tryz.call289 Tryz.func289 mt_118
  · exact .i (m:=290) rfl Tryz.call290 Tryz.func290 mt_119
  · exact .i (m:=291) rfl Tryz.call291 Tryz.func291 mt_120
  · exact .i (m:=292) rfl Tryz.call292 Tryz.func292 mt_122
  · exact .i (m:=269) rfl Tryz.call269 Tryz.func269 mt_123
  · exact .i (m:=270) rfl Tryz.call270 Tryz.func270 mt_124
  · exact .i (m:=157) rfl Tryz.call157 Tryz.func157 mt_125
  · exact .i (m:=122) rfl Tryz.call122 Tryz.func122 mt_126
  · exact .i (m:=245) rfl Tryz.call245 Tryz.func245 mt_127
  · exact .i (m:=246) rfl Tryz.call246 Tryz.func246 mt_128
  · exact .i (m:=175) rfl Tryz.call175 Tryz.func175 mt_129
  · exact .i (m:=178) rfl Tryz.call178 Tryz.func178 mt_130
  · exact .i (m:=179) rfl Tryz.call179 Tryz.func179 mt_131
  · exact .i (m:=62) rfl Tryz.call62 Tryz.func62 mt_132
  · exact .i (m:=309) rfl Tryz.call309 Tryz.func309 mt_133
  · exact .i (m:=259) rfl Tryz.call259 Tryz.func259 mt_134
  · exact .i (m:=323) rfl Tryz.call323 Tryz.func323 mt_135
  · exact .i (m:=298) rfl Tryz.call298 Tryz.func298 mt_136
  · exact .i (m:=327) rfl Tryz.call327 Tryz.func327 mt_137
  · exact .i (m:=118) rfl Tryz.call118 Tryz.func118 mt_138
  · exact .i (m:=272) rfl Tryz.call272 Tryz.func272 mt_139
  · exact .i (m:=328) rfl Tryz.call328 Tryz.func328 mt_140
  · exact .i (m:=329) rfl Tryz.call329 Tryz.func329 mt_141
  · exact .i (m:=330) rfl Tryz.call330 Tryz.func330 mt_142
  · exact .i (m:=331) rfl Tryz.call331 Tryz.func331 mt_143
  · exact .intr (m:=332) rfl (by decide) akk
  · exact .i (m:=312) rfl Tryz.call312 Tryz.func312 mt_145
  · trivial
theorem mt_c3:∀ n,MtAt W n (prog_3 n):=by
  intro n
  unfold prog_3
  split
  · exact .i (m:=313) rfl Tryz.call313 Tryz.func313 mt_146
  · exact .intr (m:=315) rfl (by decide) ar5
  · exact .i (m:=201) rfl Tryz.call201 Tryz.func201 mt_148
  · exact .i (m:=202) rfl Tryz.call202 Tryz.func202 mt_149
  · exact .i (m:=204) rfl Tryz.call204 Tryz.func204 mt_150
  · exact .intr (m:=206) rfl (by decide) aos
  · exact .i (m:=205) rfl Tryz.call205 Tryz.func205 mt_152
  · exact .i (m:=181) rfl Tryz.call181 Tryz.func181 mt_153
  · exact .i (m:=183) rfl Tryz.call183 Tryz.func183 mt_154
  · exact .i (m:=248) rfl Tryz.call248 Tryz.func248 mt_155
  · exact .i (m:=40) rfl Tryz.call40 Tryz.func40 mt_156
  · exact .i (m:=334) rfl Tryz.call334 Tryz.func334 mt_157
  · exact .i (m:=198) rfl Tryz.call198 Tryz.func198 mt_158
  · exact .i (m:=266) rfl Tryz.call266 Tryz.func266 mt_159
  · exact .i (m:=267) rfl Tryz.call267 Tryz.func267 mt_160
  · exact .i (m:=351) rfl Tryz.call351 Tryz.func351 mt_161
  · exact .i (m:=352) rfl Tryz.call352 Tryz.func352 mt_162
  · exact .i (m:=353) rfl Tryz.call353 Tryz.func353 mt_163
  · exact .i (m:=314) rfl Tryz.call314 Tryz.func314 mt_164
  · exact .i (m:=340) rfl Tryz.call340 Tryz.func340 mt_165
  · exact .i (m:=264) rfl Tryz.call264 Tryz.func264 mt_166
  · exact .i (m:=268) rfl Tryz.call268 Tryz.func268 mt_167
  · exact .i (m:=48) rfl Tryz.call48 Tryz.func48 mt_168
  · exact .i (m:=252) rfl Tryz.call252 Tryz.func252 mt_169
  · exact .i (m:=310) rfl Tryz.call310 Tryz.func310 mt_170
  · exact .i (m:=311) rfl Tryz.call311 Tryz.func311 mt_171
  · exact .i (m:=119) rfl Tryz.call119 Tryz.func119 mt_172
  · exact .i (m:=336) rfl Tryz.call336 Tryz.func336 mt_173
  · exact .i (m:=120) rfl Tryz.call120 Tryz.func120 mt_177
  · exact .intr (m:=271) rfl (by decide) akl
  · exact .i (m:=27) rfl Tryz.call27 Tryz.func27 mt_287
  · exact .i (m:=28) rfl Tryz.call28 Tryz.func28 mt_288
  · exact .i (m:=77) rfl Tryz.call77 Tryz.func77 mt_296
  · exact .i (m:=155) rfl Tryz.call155 Tryz.func155 mt_309
  · exact .i (m:=158) rfl Tryz.call158 Tryz.func158 mt_310
  · exact .i (m:=159) rfl Tryz.call159 Tryz.func159 mt_311
  · exact .i (m:=229) rfl Tryz.call229 Tryz.func229 mt_321
  · exact .i (m:=232) rfl Tryz.call232 Tryz.func232 mt_322
  · exact .i (m:=233) rfl Tryz.call233 Tryz.func233 mt_323
  · exact .i (m:=7) rfl Tryz.call7 Tryz.func7 mt_404
  · trivial
theorem mt_c4:∀ n,MtAt W n (prog_4 n):=by
  intro n
  unfold prog_4
  split
  · exact .mk (m:=80) rfl Tryz.call80 Tryz.func80 au3 rfl (.inr ⟨_,_,_,_,rfl⟩)
  · trivial
theorem mt_all:∀ n,MtAt W n (prog n):=by
  intro n
  unfold prog
  split
  · exact mt_c0 hm n
  split
  · exact mt_c1 hm n
  split
  · exact mt_c2 hm n
  split
  · exact mt_c3 hm n
  exact mt_c4 hm n
theorem matched:Matched Tryz.prog phi tbS ⟨W.heap.size,Tryz.prog⟩ (oldJ W) prog where
  ir f np nt rs k e:=by have:=mt_all hm f;rw [e] at this;exact this
  pin f np nt rs k e:=by have:=mt_all hm f;rw [e] at this;exact this
  intr f sem e:=by have:=mt_all hm f;rw [e] at this;exact this
end
end Go.VS
