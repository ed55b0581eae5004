import Derived.Test.YtdnblconoegeaaaGreatDoorB2
import Derived.Test.YtdnblconoegeaaaGreatDoorA3
import Derived.Test.YtdnblconoegeaaaGreatDoorProg
set_option linter.all false
namespace Go.VS
open Go Go.Proofs
noncomputable section
def phi:Nat→FuncId:=fun n=>match n with
  | 0=>10
  | 1=>13
  | 4=>16
  | 7=>308
  | 13=>36
  | 14=>37
  | 15=>138
  | 16=>39
  | 18=>43
  | 19=>44
  | 20=>45
  | 21=>47
  | 22=>65
  | 24=>52
  | 25=>53
  | 26=>54
  | 33=>92
  | 34=>93
  | 35=>94
  | 36=>61
  | 37=>96
  | 38=>97
  | 39=>98
  | 40=>99
  | 41=>100
  | 42=>101
  | 43=>153
  | 44=>213
  | 46=>109
  | 47=>110
  | 48=>111
  | 49=>113
  | 50=>114
  | 51=>115
  | 52=>116
  | 53=>117
  | 54=>141
  | 56=>128
  | 57=>129
  | 58=>130
  | 60=>230
  | 67=>172
  | 68=>137
  | 69=>173
  | 70=>174
  | 71=>182
  | 72=>177
  | 73=>144
  | 74=>277
  | 75=>278
  | 76=>279
  | 77=>190
  | 78=>191
  | 79=>192
  | 80=>193
  | 81=>195
  | 82=>194
  | 83=>197
  | 84=>217
  | 85=>218
  | 86=>219
  | 87=>220
  | 88=>221
  | 91=>212
  | 92=>76
  | 93=>265
  | 94=>203
  | 95=>300
  | 96=>79
  | 98=>146
  | 99=>244
  | 100=>247
  | 101=>176
  | 102=>104
  | 103=>249
  | 104=>250
  | 105=>280
  | 106=>320
  | 107=>321
  | 108=>322
  | 109=>256
  | 110=>258
  | 111=>257
  | 112=>260
  | 113=>196
  | 114=>261
  | 115=>286
  | 116=>288
  | 117=>64
  | 118=>289
  | 119=>290
  | 120=>291
  | 123=>269
  | 124=>270
  | 125=>157
  | 126=>122
  | 127=>245
  | 128=>246
  | 129=>175
  | 130=>178
  | 131=>179
  | 132=>62
  | 133=>309
  | 134=>259
  | 135=>323
  | 136=>298
  | 137=>327
  | 138=>118
  | 139=>272
  | 140=>328
  | 141=>329
  | 142=>330
  | 143=>331
  | 144=>332
  | 145=>312
  | 146=>313
  | 147=>315
  | 148=>201
  | 149=>202
  | 150=>204
  | 151=>206
  | 152=>205
  | 153=>181
  | 154=>183
  | 155=>248
  | 156=>40
  | 157=>334
  | 158=>198
  | 159=>266
  | 160=>267
  | 161=>351
  | 162=>352
  | 163=>353
  | 164=>314
  | 165=>340
  | 166=>264
  | 167=>268
  | 168=>48
  | 169=>252
  | 170=>310
  | 171=>311
  | 172=>119
  | 173=>336
  | 174=>337
  | 175=>338
  | 176=>339
  | 177=>120
  | 178=>271
  | 291=>31
  | 292=>33
  | 293=>32
  | 294=>34
  | 295=>35
  | 300=>83
  | 301=>84
  | 302=>85
  | 303=>86
  | 304=>87
  | 305=>88
  | 306=>89
  | 307=>90
  | 308=>91
  | 314=>165
  | 315=>166
  | 316=>167
  | 317=>168
  | 318=>169
  | 319=>170
  | 320=>171
  | 324=>237
  | 325=>238
  | 326=>239
  | 327=>240
  | 328=>241
  | 329=>242
  | 330=>243
  | 331=>301
  | 332=>302
  | 333=>303
  | 334=>304
  | 335=>305
  | 336=>307
  | 337=>306
  | 338=>335
  | 406=>9
  | _=>0
def tbS:TI:=fun t=>(Tryz.types)[t]?
def mFd (fn:Func):Fd→Bool
  | .ir _ nt rs k=>mF tbS phi fn nt rs k
  | .pin _ nt rs k=>mF tbS phi fn nt rs k
  | .intr _=>true
theorem mt_0:mFd Tryz.f10 af7=true:=by decide +kernel
theorem mt_1:mFd Tryz.f13 agb=true:=by decide +kernel
theorem mt_4:mFd Tryz.f16 af2=true:=by decide +kernel
theorem mt_7:mFd Tryz.f308 aev=true:=by decide +kernel
theorem mt_13:mFd Tryz.f36 ahf=true:=by decide +kernel
theorem mt_14:mFd Tryz.f37 af6=true:=by decide +kernel
theorem mt_15:mFd Tryz.f138 ae5=true:=by decide +kernel
theorem mt_16:mFd Tryz.f39 ait=true:=by decide +kernel
theorem mt_18:mFd Tryz.f43 ahi=true:=by decide +kernel
theorem mt_19:mFd Tryz.f44 age=true:=by decide +kernel
theorem mt_20:mFd Tryz.f45 aga=true:=by decide +kernel
theorem mt_21:mFd Tryz.f47 adk=true:=by decide +kernel
theorem mt_22:mFd Tryz.f65 aea=true:=by decide +kernel
theorem mt_24:mFd Tryz.f52 ahc=true:=by decide +kernel
theorem mt_25:mFd Tryz.f53 af5=true:=by decide +kernel
theorem mt_26:mFd Tryz.f54 af1=true:=by decide +kernel
theorem mt_33:mFd Tryz.f92 aej=true:=by decide +kernel
theorem mt_34:mFd Tryz.f93 ahh=true:=by decide +kernel
theorem mt_35:mFd Tryz.f94 ahg=true:=by decide +kernel
theorem mt_36:mFd Tryz.f61 ahl=true:=by decide +kernel
theorem mt_37:mFd Tryz.f96 ais=true:=by decide +kernel
theorem mt_38:mFd Tryz.f97 ads=true:=by decide +kernel
theorem mt_39:mFd Tryz.f98 air=true:=by decide +kernel
theorem mt_40:mFd Tryz.f99 ae0=true:=by decide +kernel
theorem mt_41:mFd Tryz.f100 aeq=true:=by decide +kernel
theorem mt_42:mFd Tryz.f101 agk=true:=by decide +kernel
theorem mt_43:mFd Tryz.f153 agn=true:=by decide +kernel
theorem mt_44:mFd Tryz.f213 agr=true:=by decide +kernel
theorem mt_46:mFd Tryz.f109 ael=true:=by decide +kernel
theorem mt_47:mFd Tryz.f110 ahk=true:=by decide +kernel
theorem mt_48:mFd Tryz.f111 ahj=true:=by decide +kernel
theorem mt_49:mFd Tryz.f113 aef=true:=by decide +kernel
theorem mt_50:mFd Tryz.f114 ahb=true:=by decide +kernel
theorem mt_51:mFd Tryz.f115 adl=true:=by decide +kernel
theorem mt_52:mFd Tryz.f116 acm=true:=by decide +kernel
theorem mt_53:mFd Tryz.f117 adi=true:=by decide +kernel
theorem mt_54:mFd Tryz.f141 aee=true:=by decide +kernel
theorem mt_56:mFd Tryz.f128 aeh=true:=by decide +kernel
theorem mt_57:mFd Tryz.f129 ahe=true:=by decide +kernel
theorem mt_58:mFd Tryz.f130 ahd=true:=by decide +kernel
theorem mt_60:mFd Tryz.f230 acv=true:=by decide +kernel
theorem mt_67:mFd Tryz.f172 aip=true:=by decide +kernel
theorem mt_68:mFd Tryz.f137 aen=true:=by decide +kernel
theorem mt_69:mFd Tryz.f173 agi=true:=by decide +kernel
theorem mt_70:mFd Tryz.f174 aep=true:=by decide +kernel
theorem mt_71:mFd Tryz.f182 agl=true:=by decide +kernel
theorem mt_72:mFd Tryz.f177 adt=true:=by decide +kernel
theorem mt_73:mFd Tryz.f144 ago=true:=by decide +kernel
theorem mt_74:mFd Tryz.f277 agq=true:=by decide +kernel
theorem mt_75:mFd Tryz.f278 adq=true:=by decide +kernel
theorem mt_76:mFd Tryz.f279 ac7=true:=by decide +kernel
theorem mt_77:mFd Tryz.f190 aiq=true:=by decide +kernel
theorem mt_78:mFd Tryz.f191 ad8=true:=by decide +kernel
theorem mt_79:mFd Tryz.f192 ado=true:=by decide +kernel
theorem mt_80:mFd Tryz.f193 afx=true:=by decide +kernel
theorem mt_81:mFd Tryz.f195 abq=true:=by decide +kernel
theorem mt_82:mFd Tryz.f194 aam=true:=by decide +kernel
theorem mt_83:mFd Tryz.f197 acl=true:=by decide +kernel
theorem mt_84:mFd Tryz.f217 acx=true:=by decide +kernel
theorem mt_86:mFd Tryz.f219 aas=true:=by decide +kernel
theorem mt_87:mFd Tryz.f220 acs=true:=by decide +kernel
theorem mt_88:mFd Tryz.f221 acg=true:=by decide +kernel
theorem mt_91:mFd Tryz.f212 aio=true:=by decide +kernel
theorem mt_92:mFd Tryz.f76 ahn=true:=by decide +kernel
theorem mt_93:mFd Tryz.f265 acu=true:=by decide +kernel
theorem mt_94:mFd Tryz.f203 ac6=true:=by decide +kernel
theorem mt_95:mFd Tryz.f300 afw=true:=by decide +kernel
theorem mt_96:mFd Tryz.f79 aa2=true:=by decide +kernel
theorem mt_98:mFd Tryz.f146 ab4=true:=by decide +kernel
theorem mt_99:mFd Tryz.f244 ae1=true:=by decide +kernel
theorem mt_100:mFd Tryz.f247 aeo=true:=by decide +kernel
theorem mt_101:mFd Tryz.f176 ahp=true:=by decide +kernel
theorem mt_102:mFd Tryz.f104 ae3=true:=by decide +kernel
theorem mt_103:mFd Tryz.f249 abn=true:=by decide +kernel
theorem mt_104:mFd Tryz.f250 abo=true:=by decide +kernel
theorem mt_105:mFd Tryz.f280 aiv=true:=by decide +kernel
theorem mt_106:mFd Tryz.f320 ahm=true:=by decide +kernel
theorem mt_107:mFd Tryz.f321 aiw=true:=by decide +kernel
theorem mt_108:mFd Tryz.f322 ae4=true:=by decide +kernel
theorem mt_109:mFd Tryz.f256 acn=true:=by decide +kernel
theorem mt_110:mFd Tryz.f258 aco=true:=by decide +kernel
theorem mt_111:mFd Tryz.f257 aan=true:=by decide +kernel
theorem mt_112:mFd Tryz.f260 aao=true:=by decide +kernel
theorem mt_113:mFd Tryz.f196 ad6=true:=by decide +kernel
theorem mt_114:mFd Tryz.f261 ac5=true:=by decide +kernel
theorem mt_115:mFd Tryz.f286 aau=true:=by decide +kernel
theorem mt_116:mFd Tryz.f288 aaw=true:=by decide +kernel
theorem mt_117:mFd Tryz.f64 ag7=true:=by decide +kernel
theorem mt_118:mFd Tryz.f289 ac3=true:=by decide +kernel
theorem mt_119:mFd Tryz.f290 adh=true:=by decide +kernel
theorem mt_120:mFd Tryz.f291 ac2=true:=by decide +kernel
theorem mt_123:mFd Tryz.f269 ag9=true:=by decide +kernel
theorem mt_124:mFd Tryz.f270 abk=true:=by decide +kernel
theorem mt_125:mFd Tryz.f157 aba=true:=by decide +kernel
theorem mt_126:mFd Tryz.f122 acf=true:=by decide +kernel
theorem mt_127:mFd Tryz.f245 agj=true:=by decide +kernel
theorem mt_128:mFd Tryz.f246 agh=true:=by decide +kernel
theorem mt_129:mFd Tryz.f175 agp=true:=by decide +kernel
theorem mt_130:mFd Tryz.f178 aey=true:=by decide +kernel
theorem mt_131:mFd Tryz.f179 acw=true:=by decide +kernel
theorem mt_132:mFd Tryz.f62 aem=true:=by decide +kernel
theorem mt_133:mFd Tryz.f309 aap=true:=by decide +kernel
theorem mt_134:mFd Tryz.f259 afy=true:=by decide +kernel
theorem mt_135:mFd Tryz.f323 aav=true:=by decide +kernel
theorem mt_136:mFd Tryz.f298 abl=true:=by decide +kernel
theorem mt_137:mFd Tryz.f327 abz=true:=by decide +kernel
theorem mt_138:mFd Tryz.f118 aai=true:=by decide +kernel
theorem mt_139:mFd Tryz.f272 ab6=true:=by decide +kernel
theorem mt_140:mFd Tryz.f328 ab8=true:=by decide +kernel
theorem mt_141:mFd Tryz.f329 ad9=true:=by decide +kernel
theorem mt_142:mFd Tryz.f330 ab7=true:=by decide +kernel
theorem mt_143:mFd Tryz.f331 adj=true:=by decide +kernel
theorem mt_145:mFd Tryz.f312 aag=true:=by decide +kernel
theorem mt_146:mFd Tryz.f313 aed=true:=by decide +kernel
theorem mt_148:mFd Tryz.f201 abj=true:=by decide +kernel
theorem mt_149:mFd Tryz.f202 adp=true:=by decide +kernel
theorem mt_150:mFd Tryz.f204 aa0=true:=by decide +kernel
theorem mt_152:mFd Tryz.f205 ack=true:=by decide +kernel
theorem mt_153:mFd Tryz.f181 agm=true:=by decide +kernel
theorem mt_154:mFd Tryz.f183 ahq=true:=by decide +kernel
theorem mt_155:mFd Tryz.f248 aho=true:=by decide +kernel
theorem mt_156:mFd Tryz.f40 aiu=true:=by decide +kernel
theorem mt_157:mFd Tryz.f334 aa9=true:=by decide +kernel
theorem mt_158:mFd Tryz.f198 aak=true:=by decide +kernel
theorem mt_159:mFd Tryz.f266 abm=true:=by decide +kernel
theorem mt_160:mFd Tryz.f267 ab9=true:=by decide +kernel
theorem mt_161:mFd Tryz.f351 acp=true:=by decide +kernel
theorem mt_162:mFd Tryz.f352 ace=true:=by decide +kernel
theorem mt_163:mFd Tryz.f353 ag8=true:=by decide +kernel
theorem mt_164:mFd Tryz.f314 acj=true:=by decide +kernel
theorem mt_165:mFd Tryz.f340 adg=true:=by decide +kernel
theorem mt_166:mFd Tryz.f264 ab5=true:=by decide +kernel
theorem mt_167:mFd Tryz.f268 af0=true:=by decide +kernel
theorem mt_168:mFd Tryz.f48 ac4=true:=by decide +kernel
theorem mt_169:mFd Tryz.f252 ae2=true:=by decide +kernel
theorem mt_170:mFd Tryz.f310 alj=true:=by decide +kernel
theorem mt_171:mFd Tryz.f311 acy=true:=by decide +kernel
theorem mt_172:mFd Tryz.f119 ab0=true:=by decide +kernel
theorem mt_173:mFd Tryz.f336 abp=true:=by decide +kernel
theorem mt_177:mFd Tryz.f120 aec=true:=by decide +kernel
theorem mt_291:mFd Tryz.f31 af8=true:=by decide +kernel
theorem mt_292:mFd Tryz.f33 agc=true:=by decide +kernel
theorem mt_293:mFd Tryz.f32 adr=true:=by decide +kernel
theorem mt_294:mFd Tryz.f34 adm=true:=by decide +kernel
theorem mt_295:mFd Tryz.f35 af3=true:=by decide +kernel
theorem mt_300:mFd Tryz.f83 af9=true:=by decide +kernel
theorem mt_301:mFd Tryz.f84 abs=true:=by decide +kernel
theorem mt_302:mFd Tryz.f85 aiz=true:=by decide +kernel
theorem mt_303:mFd Tryz.f86 agd=true:=by decide +kernel
theorem mt_304:mFd Tryz.f87 abt=true:=by decide +kernel
theorem mt_305:mFd Tryz.f88 adn=true:=by decide +kernel
theorem mt_306:mFd Tryz.f89 aha=true:=by decide +kernel
theorem mt_307:mFd Tryz.f90 af4=true:=by decide +kernel
theorem mt_308:mFd Tryz.f91 abr=true:=by decide +kernel
theorem mt_314:mFd Tryz.f165 ab2=true:=by decide +kernel
theorem mt_315:mFd Tryz.f166 aiy=true:=by decide +kernel
theorem mt_316:mFd Tryz.f167 ahr=true:=by decide +kernel
theorem mt_317:mFd Tryz.f168 ab3=true:=by decide +kernel
theorem mt_318:mFd Tryz.f169 abu=true:=by decide +kernel
theorem mt_319:mFd Tryz.f170 acq=true:=by decide +kernel
theorem mt_320:mFd Tryz.f171 ab1=true:=by decide +kernel
theorem mt_324:mFd Tryz.f237 aei=true:=by decide +kernel
theorem mt_325:mFd Tryz.f238 aix=true:=by decide +kernel
theorem mt_326:mFd Tryz.f239 aek=true:=by decide +kernel
theorem mt_327:mFd Tryz.f240 ad7=true:=by decide +kernel
theorem mt_328:mFd Tryz.f241 afz=true:=by decide +kernel
theorem mt_329:mFd Tryz.f242 aeb=true:=by decide +kernel
theorem mt_330:mFd Tryz.f243 aeg=true:=by decide +kernel
theorem mt_331:mFd Tryz.f301 aew=true:=by decide +kernel
theorem mt_332:mFd Tryz.f302 agf=true:=by decide +kernel
theorem mt_333:mFd Tryz.f303 aez=true:=by decide +kernel
theorem mt_334:mFd Tryz.f304 ags=true:=by decide +kernel
theorem mt_335:mFd Tryz.f305 aex=true:=by decide +kernel
theorem mt_336:mFd Tryz.f307 acr=true:=by decide +kernel
theorem mt_337:mFd Tryz.f306 aat=true:=by decide +kernel
theorem mt_338:mFd Tryz.f335 aa1=true:=by decide +kernel
theorem mt_406:mFd Tryz.f9 abi=true:=by decide +kernel
end
end Go.VS
