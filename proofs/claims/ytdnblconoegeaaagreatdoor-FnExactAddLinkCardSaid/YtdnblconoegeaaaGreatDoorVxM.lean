import Derived.Test.YtdnblconoegeaaaGreatDoorB2
import Derived.Test.YtdnblconoegeaaaGreatDoorA3
import Derived.Test.YtdnblconoegeaaaGreatDoorProg
set_option linter.all false
namespace Go.VS
open Go Go.Proofs
noncomputable section
def phi:Nat→FuncId:=fun n=>match n with
  | 0=>10
  | 1=>13
  | 4=>16
  | 13=>36
  | 14=>37
  | 15=>138
  | 16=>39
  | 18=>43
  | 19=>44
  | 20=>45
  | 21=>47
  | 22=>65
  | 24=>52
  | 25=>53
  | 26=>54
  | 31=>75
  | 32=>156
  | 33=>92
  | 34=>93
  | 35=>94
  | 36=>61
  | 37=>96
  | 38=>97
  | 39=>98
  | 40=>99
  | 41=>100
  | 42=>101
  | 43=>153
  | 44=>213
  | 45=>214
  | 46=>109
  | 47=>110
  | 48=>111
  | 49=>113
  | 50=>114
  | 51=>115
  | 52=>116
  | 53=>117
  | 54=>141
  | 56=>128
  | 57=>129
  | 58=>130
  | 60=>230
  | 64=>134
  | 65=>154
  | 66=>231
  | 67=>172
  | 68=>137
  | 69=>173
  | 70=>174
  | 71=>182
  | 72=>177
  | 73=>144
  | 74=>277
  | 75=>278
  | 76=>279
  | 77=>190
  | 78=>191
  | 79=>192
  | 80=>193
  | 81=>195
  | 82=>194
  | 83=>197
  | 84=>217
  | 85=>218
  | 86=>219
  | 87=>220
  | 88=>221
  | 89=>222
  | 91=>212
  | 92=>76
  | 93=>265
  | 94=>203
  | 95=>300
  | 96=>79
  | 98=>146
  | 99=>244
  | 100=>247
  | 101=>176
  | 102=>104
  | 103=>249
  | 104=>250
  | 105=>280
  | 106=>320
  | 107=>321
  | 108=>322
  | 109=>256
  | 110=>258
  | 111=>257
  | 112=>260
  | 113=>196
  | 114=>261
  | 115=>286
  | 116=>288
  | 117=>64
  | 118=>289
  | 119=>290
  | 120=>291
  | 121=>293
  | 122=>292
  | 123=>269
  | 124=>270
  | 125=>157
  | 126=>122
  | 127=>245
  | 128=>246
  | 129=>175
  | 130=>178
  | 131=>179
  | 132=>62
  | 133=>309
  | 134=>259
  | 135=>323
  | 136=>298
  | 137=>327
  | 138=>118
  | 139=>272
  | 140=>328
  | 141=>329
  | 142=>330
  | 143=>331
  | 144=>332
  | 145=>312
  | 146=>313
  | 147=>315
  | 148=>201
  | 149=>202
  | 150=>204
  | 151=>206
  | 152=>205
  | 153=>181
  | 154=>183
  | 155=>248
  | 156=>40
  | 157=>334
  | 158=>198
  | 159=>266
  | 160=>267
  | 161=>351
  | 162=>352
  | 163=>353
  | 164=>314
  | 165=>340
  | 166=>264
  | 167=>268
  | 168=>48
  | 169=>252
  | 170=>310
  | 171=>311
  | 172=>119
  | 173=>336
  | 174=>337
  | 175=>338
  | 176=>339
  | 177=>120
  | 178=>271
  | 189=>20
  | 190=>21
  | 191=>22
  | 192=>23
  | 193=>24
  | 194=>25
  | 195=>26
  | 197=>41
  | 198=>42
  | 201=>49
  | 204=>59
  | 205=>60
  | 206=>63
  | 207=>66
  | 208=>68
  | 209=>69
  | 210=>71
  | 211=>73
  | 212=>72
  | 214=>102
  | 215=>103
  | 216=>105
  | 217=>106
  | 218=>107
  | 219=>108
  | 221=>121
  | 222=>51
  | 223=>123
  | 224=>124
  | 225=>125
  | 226=>126
  | 227=>127
  | 229=>135
  | 230=>136
  | 231=>139
  | 232=>140
  | 233=>67
  | 234=>142
  | 235=>143
  | 236=>70
  | 237=>145
  | 238=>147
  | 239=>149
  | 240=>148
  | 241=>74
  | 242=>150
  | 243=>152
  | 244=>151
  | 245=>180
  | 246=>185
  | 247=>184
  | 248=>186
  | 249=>161
  | 250=>187
  | 251=>189
  | 252=>188
  | 253=>199
  | 254=>200
  | 255=>207
  | 256=>208
  | 257=>209
  | 258=>211
  | 259=>210
  | 260=>215
  | 261=>216
  | 262=>223
  | 263=>224
  | 264=>225
  | 265=>226
  | 266=>227
  | 267=>228
  | 268=>251
  | 269=>254
  | 270=>253
  | 271=>255
  | 272=>262
  | 273=>263
  | 274=>273
  | 275=>274
  | 276=>275
  | 277=>276
  | 278=>281
  | 279=>282
  | 280=>283
  | 281=>284
  | 282=>285
  | 283=>294
  | 284=>297
  | 285=>299
  | 286=>319
  | 401=>4
  | 402=>5
  | 403=>6
  | 1008=>18
  | 1029=>56
  | 1030=>57
  | 1062=>132
  | 1063=>133
  | _=>0
def tbS:TI:=fun t=>(Tryz.types)[t]?
def mFd (fn:Func):Fd→Bool
  | .ir _ nt rs k=>mF tbS phi fn nt rs k
  | .pin _ nt rs k=>mF tbS phi fn nt rs k
  | .intr _=>true
theorem mt_0:mFd Tryz.f10 aiu=true:=by decide +kernel
theorem mt_1:mFd Tryz.f13 aiw=true:=by decide +kernel
theorem mt_4:mFd Tryz.f16 air=true:=by decide +kernel
theorem mt_13:mFd Tryz.f36 akl=true:=by decide +kernel
theorem mt_14:mFd Tryz.f37 ait=true:=by decide +kernel
theorem mt_15:mFd Tryz.f138 aho=true:=by decide +kernel
theorem mt_16:mFd Tryz.f39 amt=true:=by decide +kernel
theorem mt_18:mFd Tryz.f43 ako=true:=by decide +kernel
theorem mt_19:mFd Tryz.f44 aix=true:=by decide +kernel
theorem mt_20:mFd Tryz.f45 aiv=true:=by decide +kernel
theorem mt_21:mFd Tryz.f47 aff=true:=by decide +kernel
theorem mt_22:mFd Tryz.f65 af9=true:=by decide +kernel
theorem mt_24:mFd Tryz.f52 aki=true:=by decide +kernel
theorem mt_25:mFd Tryz.f53 ais=true:=by decide +kernel
theorem mt_26:mFd Tryz.f54 aiq=true:=by decide +kernel
theorem mt_31:mFd Tryz.f75 afp=true:=by decide +kernel
theorem mt_32:mFd Tryz.f156 acp=true:=by decide +kernel
theorem mt_33:mFd Tryz.f92 agk=true:=by decide +kernel
theorem mt_34:mFd Tryz.f93 akn=true:=by decide +kernel
theorem mt_35:mFd Tryz.f94 akm=true:=by decide +kernel
theorem mt_36:mFd Tryz.f61 akr=true:=by decide +kernel
theorem mt_37:mFd Tryz.f96 ams=true:=by decide +kernel
theorem mt_38:mFd Tryz.f97 afm=true:=by decide +kernel
theorem mt_39:mFd Tryz.f98 amr=true:=by decide +kernel
theorem mt_40:mFd Tryz.f99 ahf=true:=by decide +kernel
theorem mt_41:mFd Tryz.f100 agq=true:=by decide +kernel
theorem mt_42:mFd Tryz.f101 ai4=true:=by decide +kernel
theorem mt_43:mFd Tryz.f153 ai9=true:=by decide +kernel
theorem mt_44:mFd Tryz.f213 ajl=true:=by decide +kernel
theorem mt_45:mFd Tryz.f214 aji=true:=by decide +kernel
theorem mt_46:mFd Tryz.f109 agl=true:=by decide +kernel
theorem mt_47:mFd Tryz.f110 akq=true:=by decide +kernel
theorem mt_48:mFd Tryz.f111 akp=true:=by decide +kernel
theorem mt_49:mFd Tryz.f113 agd=true:=by decide +kernel
theorem mt_50:mFd Tryz.f114 akh=true:=by decide +kernel
theorem mt_51:mFd Tryz.f115 afg=true:=by decide +kernel
theorem mt_52:mFd Tryz.f116 adt=true:=by decide +kernel
theorem mt_53:mFd Tryz.f117 afd=true:=by decide +kernel
theorem mt_54:mFd Tryz.f141 agc=true:=by decide +kernel
theorem mt_56:mFd Tryz.f128 age=true:=by decide +kernel
theorem mt_57:mFd Tryz.f129 akk=true:=by decide +kernel
theorem mt_58:mFd Tryz.f130 akj=true:=by decide +kernel
theorem mt_60:mFd Tryz.f230 ad1=true:=by decide +kernel
theorem mt_64:mFd Tryz.f134 ahc=true:=by decide +kernel
theorem mt_65:mFd Tryz.f154 ajo=true:=by decide +kernel
theorem mt_66:mFd Tryz.f231 ac2=true:=by decide +kernel
theorem mt_67:mFd Tryz.f172 amp=true:=by decide +kernel
theorem mt_68:mFd Tryz.f137 agn=true:=by decide +kernel
theorem mt_69:mFd Tryz.f173 ai2=true:=by decide +kernel
theorem mt_70:mFd Tryz.f174 agp=true:=by decide +kernel
theorem mt_71:mFd Tryz.f182 ai5=true:=by decide +kernel
theorem mt_72:mFd Tryz.f177 afn=true:=by decide +kernel
theorem mt_73:mFd Tryz.f144 ajd=true:=by decide +kernel
theorem mt_74:mFd Tryz.f277 ajk=true:=by decide +kernel
theorem mt_75:mFd Tryz.f278 afl=true:=by decide +kernel
theorem mt_76:mFd Tryz.f279 aer=true:=by decide +kernel
theorem mt_77:mFd Tryz.f190 amq=true:=by decide +kernel
theorem mt_78:mFd Tryz.f191 af7=true:=by decide +kernel
theorem mt_79:mFd Tryz.f192 afh=true:=by decide +kernel
theorem mt_80:mFd Tryz.f193 aim=true:=by decide +kernel
theorem mt_81:mFd Tryz.f195 acn=true:=by decide +kernel
theorem mt_82:mFd Tryz.f194 aan=true:=by decide +kernel
theorem mt_83:mFd Tryz.f197 ads=true:=by decide +kernel
theorem mt_84:mFd Tryz.f217 ad3=true:=by decide +kernel
theorem mt_86:mFd Tryz.f219 aaw=true:=by decide +kernel
theorem mt_87:mFd Tryz.f220 adx=true:=by decide +kernel
theorem mt_88:mFd Tryz.f221 adk=true:=by decide +kernel
theorem mt_89:mFd Tryz.f222 afk=true:=by decide +kernel
theorem mt_91:mFd Tryz.f212 amo=true:=by decide +kernel
theorem mt_92:mFd Tryz.f76 akt=true:=by decide +kernel
theorem mt_93:mFd Tryz.f265 ady=true:=by decide +kernel
theorem mt_94:mFd Tryz.f203 aen=true:=by decide +kernel
theorem mt_95:mFd Tryz.f300 ail=true:=by decide +kernel
theorem mt_96:mFd Tryz.f79 aba=true:=by decide +kernel
theorem mt_98:mFd Tryz.f146 ac3=true:=by decide +kernel
theorem mt_99:mFd Tryz.f244 ahg=true:=by decide +kernel
theorem mt_100:mFd Tryz.f247 ago=true:=by decide +kernel
theorem mt_101:mFd Tryz.f176 aky=true:=by decide +kernel
theorem mt_102:mFd Tryz.f104 ahj=true:=by decide +kernel
theorem mt_103:mFd Tryz.f249 aci=true:=by decide +kernel
theorem mt_104:mFd Tryz.f250 acj=true:=by decide +kernel
theorem mt_105:mFd Tryz.f280 amv=true:=by decide +kernel
theorem mt_106:mFd Tryz.f320 aks=true:=by decide +kernel
theorem mt_107:mFd Tryz.f321 amw=true:=by decide +kernel
theorem mt_108:mFd Tryz.f322 ahm=true:=by decide +kernel
theorem mt_109:mFd Tryz.f256 adu=true:=by decide +kernel
theorem mt_110:mFd Tryz.f258 adv=true:=by decide +kernel
theorem mt_111:mFd Tryz.f257 aao=true:=by decide +kernel
theorem mt_112:mFd Tryz.f260 aaq=true:=by decide +kernel
theorem mt_113:mFd Tryz.f196 af6=true:=by decide +kernel
theorem mt_114:mFd Tryz.f261 aek=true:=by decide +kernel
theorem mt_115:mFd Tryz.f286 aa1=true:=by decide +kernel
theorem mt_116:mFd Tryz.f288 aa3=true:=by decide +kernel
theorem mt_117:mFd Tryz.f64 akd=true:=by decide +kernel
theorem mt_118:mFd Tryz.f289 aeg=true:=by decide +kernel
theorem mt_119:mFd Tryz.f290 afb=true:=by decide +kernel
theorem mt_120:mFd Tryz.f291 aef=true:=by decide +kernel
theorem mt_121:mFd Tryz.f293 adi=true:=by decide +kernel
theorem mt_122:mFd Tryz.f292 aap=true:=by decide +kernel
theorem mt_123:mFd Tryz.f269 akg=true:=by decide +kernel
theorem mt_124:mFd Tryz.f270 aca=true:=by decide +kernel
theorem mt_125:mFd Tryz.f157 abu=true:=by decide +kernel
theorem mt_126:mFd Tryz.f122 adj=true:=by decide +kernel
theorem mt_127:mFd Tryz.f245 ai3=true:=by decide +kernel
theorem mt_128:mFd Tryz.f246 ai1=true:=by decide +kernel
theorem mt_129:mFd Tryz.f175 aje=true:=by decide +kernel
theorem mt_130:mFd Tryz.f178 ahd=true:=by decide +kernel
theorem mt_131:mFd Tryz.f179 ad2=true:=by decide +kernel
theorem mt_132:mFd Tryz.f62 agm=true:=by decide +kernel
theorem mt_133:mFd Tryz.f309 aar=true:=by decide +kernel
theorem mt_134:mFd Tryz.f259 ain=true:=by decide +kernel
theorem mt_135:mFd Tryz.f323 aa2=true:=by decide +kernel
theorem mt_136:mFd Tryz.f298 acb=true:=by decide +kernel
theorem mt_137:mFd Tryz.f327 acz=true:=by decide +kernel
theorem mt_138:mFd Tryz.f118 aai=true:=by decide +kernel
theorem mt_139:mFd Tryz.f272 ac5=true:=by decide +kernel
theorem mt_140:mFd Tryz.f328 ac7=true:=by decide +kernel
theorem mt_141:mFd Tryz.f329 af8=true:=by decide +kernel
theorem mt_142:mFd Tryz.f330 ac6=true:=by decide +kernel
theorem mt_143:mFd Tryz.f331 afe=true:=by decide +kernel
theorem mt_145:mFd Tryz.f312 aaf=true:=by decide +kernel
theorem mt_146:mFd Tryz.f313 agb=true:=by decide +kernel
theorem mt_148:mFd Tryz.f201 ab9=true:=by decide +kernel
theorem mt_149:mFd Tryz.f202 afi=true:=by decide +kernel
theorem mt_150:mFd Tryz.f204 aa6=true:=by decide +kernel
theorem mt_152:mFd Tryz.f205 adp=true:=by decide +kernel
theorem mt_153:mFd Tryz.f181 ai7=true:=by decide +kernel
theorem mt_154:mFd Tryz.f183 ak1=true:=by decide +kernel
theorem mt_155:mFd Tryz.f248 aku=true:=by decide +kernel
theorem mt_156:mFd Tryz.f40 amu=true:=by decide +kernel
theorem mt_157:mFd Tryz.f334 abq=true:=by decide +kernel
theorem mt_158:mFd Tryz.f198 aal=true:=by decide +kernel
theorem mt_159:mFd Tryz.f266 ach=true:=by decide +kernel
theorem mt_160:mFd Tryz.f267 ac8=true:=by decide +kernel
theorem mt_161:mFd Tryz.f351 adw=true:=by decide +kernel
theorem mt_162:mFd Tryz.f352 adg=true:=by decide +kernel
theorem mt_163:mFd Tryz.f353 ake=true:=by decide +kernel
theorem mt_164:mFd Tryz.f314 ado=true:=by decide +kernel
theorem mt_165:mFd Tryz.f340 ae9=true:=by decide +kernel
theorem mt_166:mFd Tryz.f264 ac4=true:=by decide +kernel
theorem mt_167:mFd Tryz.f268 aip=true:=by decide +kernel
theorem mt_168:mFd Tryz.f48 aei=true:=by decide +kernel
theorem mt_169:mFd Tryz.f252 ahi=true:=by decide +kernel
theorem mt_170:mFd Tryz.f310 aqf=true:=by decide +kernel
theorem mt_171:mFd Tryz.f311 ad4=true:=by decide +kernel
theorem mt_172:mFd Tryz.f119 ac0=true:=by decide +kernel
theorem mt_173:mFd Tryz.f336 ack=true:=by decide +kernel
theorem mt_177:mFd Tryz.f120 aga=true:=by decide +kernel
theorem mt_189:mFd Tryz.f20 agh=true:=by decide +kernel
theorem mt_190:mFd Tryz.f21 aep=true:=by decide +kernel
theorem mt_191:mFd Tryz.f22 aed=true:=by decide +kernel
theorem mt_192:mFd Tryz.f23 aiy=true:=by decide +kernel
theorem mt_193:mFd Tryz.f24 aik=true:=by decide +kernel
theorem mt_194:mFd Tryz.f25 aeq=true:=by decide +kernel
theorem mt_195:mFd Tryz.f26 aee=true:=by decide +kernel
theorem mt_197:mFd Tryz.f41 akz=true:=by decide +kernel
theorem mt_198:mFd Tryz.f42 ahl=true:=by decide +kernel
theorem mt_201:mFd Tryz.f49 adh=true:=by decide +kernel
theorem mt_204:mFd Tryz.f59 ag8=true:=by decide +kernel
theorem mt_205:mFd Tryz.f60 agf=true:=by decide +kernel
theorem mt_206:mFd Tryz.f63 ajn=true:=by decide +kernel
theorem mt_207:mFd Tryz.f66 acx=true:=by decide +kernel
theorem mt_208:mFd Tryz.f68 ajh=true:=by decide +kernel
theorem mt_209:mFd Tryz.f69 afa=true:=by decide +kernel
theorem mt_210:mFd Tryz.f71 ajj=true:=by decide +kernel
theorem mt_211:mFd Tryz.f73 acy=true:=by decide +kernel
theorem mt_212:mFd Tryz.f72 adr=true:=by decide +kernel
theorem mt_215:mFd Tryz.f103 ahh=true:=by decide +kernel
theorem mt_216:mFd Tryz.f105 ajc=true:=by decide +kernel
theorem mt_217:mFd Tryz.f106 afo=true:=by decide +kernel
theorem mt_218:mFd Tryz.f107 ajb=true:=by decide +kernel
theorem mt_219:mFd Tryz.f108 ahk=true:=by decide +kernel
theorem mt_221:mFd Tryz.f121 aeh=true:=by decide +kernel
theorem mt_222:mFd Tryz.f51 abt=true:=by decide +kernel
theorem mt_223:mFd Tryz.f123 adf=true:=by decide +kernel
theorem mt_224:mFd Tryz.f124 ag6=true:=by decide +kernel
theorem mt_225:mFd Tryz.f125 ab0=true:=by decide +kernel
theorem mt_226:mFd Tryz.f126 adz=true:=by decide +kernel
theorem mt_227:mFd Tryz.f127 ab2=true:=by decide +kernel
theorem mt_229:mFd Tryz.f135 ael=true:=by decide +kernel
theorem mt_230:mFd Tryz.f136 ag9=true:=by decide +kernel
theorem mt_231:mFd Tryz.f139 ajg=true:=by decide +kernel
theorem mt_232:mFd Tryz.f140 ak5=true:=by decide +kernel
theorem mt_233:mFd Tryz.f67 acg=true:=by decide +kernel
theorem mt_234:mFd Tryz.f142 abs=true:=by decide +kernel
theorem mt_235:mFd Tryz.f143 aco=true:=by decide +kernel
theorem mt_236:mFd Tryz.f70 acf=true:=by decide +kernel
theorem mt_237:mFd Tryz.f145 ab1=true:=by decide +kernel
theorem mt_238:mFd Tryz.f147 ajm=true:=by decide +kernel
theorem mt_239:mFd Tryz.f149 ahn=true:=by decide +kernel
theorem mt_240:mFd Tryz.f148 agu=true:=by decide +kernel
theorem mt_241:mFd Tryz.f74 abr=true:=by decide +kernel
theorem mt_242:mFd Tryz.f150 abz=true:=by decide +kernel
theorem mt_243:mFd Tryz.f152 afj=true:=by decide +kernel
theorem mt_244:mFd Tryz.f151 abm=true:=by decide +kernel
theorem mt_245:mFd Tryz.f180 ags=true:=by decide +kernel
theorem mt_246:mFd Tryz.f185 ai8=true:=by decide +kernel
theorem mt_247:mFd Tryz.f184 ak2=true:=by decide +kernel
theorem mt_248:mFd Tryz.f186 aes=true:=by decide +kernel
theorem mt_249:mFd Tryz.f161 akv=true:=by decide +kernel
theorem mt_250:mFd Tryz.f187 akx=true:=by decide +kernel
theorem mt_251:mFd Tryz.f189 akw=true:=by decide +kernel
theorem mt_252:mFd Tryz.f188 ak0=true:=by decide +kernel
theorem mt_253:mFd Tryz.f199 afc=true:=by decide +kernel
theorem mt_255:mFd Tryz.f207 ag7=true:=by decide +kernel
theorem mt_256:mFd Tryz.f208 acq=true:=by decide +kernel
theorem mt_257:mFd Tryz.f209 acd=true:=by decide +kernel
theorem mt_258:mFd Tryz.f211 akf=true:=by decide +kernel
theorem mt_259:mFd Tryz.f210 aeo=true:=by decide +kernel
theorem mt_260:mFd Tryz.f215 aiz=true:=by decide +kernel
theorem mt_261:mFd Tryz.f216 ahp=true:=by decide +kernel
theorem mt_262:mFd Tryz.f223 adq=true:=by decide +kernel
theorem mt_264:mFd Tryz.f225 ab3=true:=by decide +kernel
theorem mt_265:mFd Tryz.f226 agr=true:=by decide +kernel
theorem mt_266:mFd Tryz.f227 abl=true:=by decide +kernel
theorem mt_267:mFd Tryz.f228 acm=true:=by decide +kernel
theorem mt_268:mFd Tryz.f251 ai0=true:=by decide +kernel
theorem mt_269:mFd Tryz.f254 aja=true:=by decide +kernel
theorem mt_270:mFd Tryz.f253 ai6=true:=by decide +kernel
theorem mt_271:mFd Tryz.f255 ahe=true:=by decide +kernel
theorem mt_274:mFd Tryz.f273 ad0=true:=by decide +kernel
theorem mt_275:mFd Tryz.f274 ace=true:=by decide +kernel
theorem mt_277:mFd Tryz.f276 amn=true:=by decide +kernel
theorem mt_278:mFd Tryz.f281 ak4=true:=by decide +kernel
theorem mt_279:mFd Tryz.f282 ajf=true:=by decide +kernel
theorem mt_280:mFd Tryz.f283 agt=true:=by decide +kernel
theorem mt_281:mFd Tryz.f284 agv=true:=by decide +kernel
theorem mt_282:mFd Tryz.f285 ak3=true:=by decide +kernel
theorem mt_283:mFd Tryz.f294 abf=true:=by decide +kernel
theorem mt_284:mFd Tryz.f297 aej=true:=by decide +kernel
theorem mt_285:mFd Tryz.f299 aio=true:=by decide +kernel
theorem mt_401:mFd Tryz.f4 abx=true:=by decide +kernel
theorem mt_402:mFd Tryz.f5 ac1=true:=by decide +kernel
theorem mt_403:mFd Tryz.f6 aby=true:=by decide +kernel
theorem a12:mFd Tryz.f18 agj=true:=by decide +kernel
theorem a13:mFd Tryz.f56 aha=true:=by decide +kernel
theorem a14:mFd Tryz.f57 agi=true:=by decide +kernel
theorem a15:mFd Tryz.f132 aem=true:=by decide +kernel
theorem a16:mFd Tryz.f133 ahb=true:=by decide +kernel
end
end Go.VS
