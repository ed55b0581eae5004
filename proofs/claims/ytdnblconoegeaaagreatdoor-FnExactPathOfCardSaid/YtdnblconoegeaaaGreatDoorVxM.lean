import Derived.Test.YtdnblconoegeaaaGreatDoorB2
import Derived.Test.YtdnblconoegeaaaGreatDoorA3
import Derived.Test.YtdnblconoegeaaaGreatDoorProg
set_option linter.all false
namespace Go.VS
open Go Go.Proofs
noncomputable section
def phi:Nat→FuncId:=fun n=>match n with
  | 0=>10
  | 1=>13
  | 4=>16
  | 12=>78
  | 13=>36
  | 14=>37
  | 15=>138
  | 16=>39
  | 18=>43
  | 19=>44
  | 20=>45
  | 21=>47
  | 22=>65
  | 24=>52
  | 25=>53
  | 26=>54
  | 31=>75
  | 32=>156
  | 33=>92
  | 34=>93
  | 35=>94
  | 36=>61
  | 37=>96
  | 38=>97
  | 39=>98
  | 40=>99
  | 41=>100
  | 42=>101
  | 43=>153
  | 44=>213
  | 46=>109
  | 47=>110
  | 48=>111
  | 49=>113
  | 50=>114
  | 51=>115
  | 52=>116
  | 53=>117
  | 54=>141
  | 56=>128
  | 57=>129
  | 58=>130
  | 60=>230
  | 65=>154
  | 66=>231
  | 67=>172
  | 68=>137
  | 69=>173
  | 70=>174
  | 71=>182
  | 72=>177
  | 73=>144
  | 74=>277
  | 75=>278
  | 76=>279
  | 77=>190
  | 78=>191
  | 79=>192
  | 80=>193
  | 81=>195
  | 82=>194
  | 83=>197
  | 84=>217
  | 85=>218
  | 86=>219
  | 87=>220
  | 88=>221
  | 91=>212
  | 92=>76
  | 93=>265
  | 94=>203
  | 95=>300
  | 96=>79
  | 98=>146
  | 99=>244
  | 100=>247
  | 101=>176
  | 102=>104
  | 103=>249
  | 104=>250
  | 105=>280
  | 106=>320
  | 107=>321
  | 108=>322
  | 109=>256
  | 110=>258
  | 111=>257
  | 112=>260
  | 113=>196
  | 114=>261
  | 115=>286
  | 116=>288
  | 117=>64
  | 118=>289
  | 119=>290
  | 120=>291
  | 122=>292
  | 123=>269
  | 124=>270
  | 125=>157
  | 126=>122
  | 127=>245
  | 128=>246
  | 129=>175
  | 130=>178
  | 131=>179
  | 132=>62
  | 133=>309
  | 134=>259
  | 135=>323
  | 136=>298
  | 137=>327
  | 138=>118
  | 139=>272
  | 140=>328
  | 141=>329
  | 142=>330
  | 143=>331
  | 144=>332
  | 145=>312
  | 146=>313
  | 147=>315
  | 148=>201
  | 149=>202
  | 150=>204
  | 151=>206
  | 152=>205
  | 153=>181
  | 154=>183
  | 155=>248
  | 156=>40
  | 157=>334
  | 158=>198
  | 159=>266
  | 160=>267
  | 161=>351
  | 162=>352
  | 163=>353
  | 164=>314
  | 165=>340
  | 166=>264
  | 167=>268
  | 168=>48
  | 169=>252
  | 170=>310
  | 171=>311
  | 172=>119
  | 173=>336
  | 174=>337
  | 175=>338
  | 176=>339
  | 177=>120
  | 178=>271
  | 287=>27
  | 288=>28
  | 296=>77
  | 309=>155
  | 310=>158
  | 311=>159
  | 321=>229
  | 322=>232
  | 323=>233
  | 404=>7
  | 1297=>80
  | _=>0
def tbS:TI:=fun t=>(Tryz.types)[t]?
def mFd (fn:Func):Fd→Bool
  | .ir _ nt rs k=>mF tbS phi fn nt rs k
  | .pin _ nt rs k=>mF tbS phi fn nt rs k
  | .intr _=>true
theorem mt_0:mFd Tryz.f10 afu=true:=by decide +kernel
theorem mt_1:mFd Tryz.f13 afw=true:=by decide +kernel
theorem mt_4:mFd Tryz.f16 afr=true:=by decide +kernel
theorem mt_12:mFd Tryz.f78 ad4=true:=by decide +kernel
theorem mt_13:mFd Tryz.f36 agx=true:=by decide +kernel
theorem mt_14:mFd Tryz.f37 aft=true:=by decide +kernel
theorem mt_15:mFd Tryz.f138 aev=true:=by decide +kernel
theorem mt_16:mFd Tryz.f39 aib=true:=by decide +kernel
theorem mt_18:mFd Tryz.f43 ag0=true:=by decide +kernel
theorem mt_19:mFd Tryz.f44 afx=true:=by decide +kernel
theorem mt_20:mFd Tryz.f45 afv=true:=by decide +kernel
theorem mt_21:mFd Tryz.f47 adj=true:=by decide +kernel
theorem mt_22:mFd Tryz.f65 ad7=true:=by decide +kernel
theorem mt_24:mFd Tryz.f52 agu=true:=by decide +kernel
theorem mt_25:mFd Tryz.f53 afs=true:=by decide +kernel
theorem mt_26:mFd Tryz.f54 afq=true:=by decide +kernel
theorem mt_31:mFd Tryz.f75 adq=true:=by decide +kernel
theorem mt_32:mFd Tryz.f156 abv=true:=by decide +kernel
theorem mt_33:mFd Tryz.f92 aee=true:=by decide +kernel
theorem mt_34:mFd Tryz.f93 agz=true:=by decide +kernel
theorem mt_35:mFd Tryz.f94 agy=true:=by decide +kernel
theorem mt_36:mFd Tryz.f61 ag3=true:=by decide +kernel
theorem mt_37:mFd Tryz.f96 aia=true:=by decide +kernel
theorem mt_38:mFd Tryz.f97 ado=true:=by decide +kernel
theorem mt_39:mFd Tryz.f98 ah9=true:=by decide +kernel
theorem mt_40:mFd Tryz.f99 aeq=true:=by decide +kernel
theorem mt_41:mFd Tryz.f100 aek=true:=by decide +kernel
theorem mt_42:mFd Tryz.f101 af1=true:=by decide +kernel
theorem mt_43:mFd Tryz.f153 af4=true:=by decide +kernel
theorem mt_44:mFd Tryz.f213 af8=true:=by decide +kernel
theorem mt_46:mFd Tryz.f109 aef=true:=by decide +kernel
theorem mt_47:mFd Tryz.f110 ag2=true:=by decide +kernel
theorem mt_48:mFd Tryz.f111 ag1=true:=by decide +kernel
theorem mt_49:mFd Tryz.f113 aec=true:=by decide +kernel
theorem mt_50:mFd Tryz.f114 agt=true:=by decide +kernel
theorem mt_51:mFd Tryz.f115 adk=true:=by decide +kernel
theorem mt_52:mFd Tryz.f116 aco=true:=by decide +kernel
theorem mt_53:mFd Tryz.f117 adh=true:=by decide +kernel
theorem mt_54:mFd Tryz.f141 aeb=true:=by decide +kernel
theorem mt_56:mFd Tryz.f128 aed=true:=by decide +kernel
theorem mt_57:mFd Tryz.f129 agw=true:=by decide +kernel
theorem mt_58:mFd Tryz.f130 agv=true:=by decide +kernel
theorem mt_60:mFd Tryz.f230 acv=true:=by decide +kernel
theorem mt_65:mFd Tryz.f154 af9=true:=by decide +kernel
theorem mt_66:mFd Tryz.f231 ab2=true:=by decide +kernel
theorem mt_67:mFd Tryz.f172 ah7=true:=by decide +kernel
theorem mt_68:mFd Tryz.f137 aeh=true:=by decide +kernel
theorem mt_69:mFd Tryz.f173 afz=true:=by decide +kernel
theorem mt_70:mFd Tryz.f174 aej=true:=by decide +kernel
theorem mt_71:mFd Tryz.f182 af2=true:=by decide +kernel
theorem mt_72:mFd Tryz.f177 adp=true:=by decide +kernel
theorem mt_73:mFd Tryz.f144 af5=true:=by decide +kernel
theorem mt_74:mFd Tryz.f277 af7=true:=by decide +kernel
theorem mt_75:mFd Tryz.f278 adn=true:=by decide +kernel
theorem mt_76:mFd Tryz.f279 ac7=true:=by decide +kernel
theorem mt_77:mFd Tryz.f190 ah8=true:=by decide +kernel
theorem mt_78:mFd Tryz.f191 ad5=true:=by decide +kernel
theorem mt_79:mFd Tryz.f192 adl=true:=by decide +kernel
theorem mt_80:mFd Tryz.f193 afn=true:=by decide +kernel
theorem mt_81:mFd Tryz.f195 abu=true:=by decide +kernel
theorem mt_82:mFd Tryz.f194 aam=true:=by decide +kernel
theorem mt_83:mFd Tryz.f197 acn=true:=by decide +kernel
theorem mt_84:mFd Tryz.f217 acx=true:=by decide +kernel
theorem mt_86:mFd Tryz.f219 aau=true:=by decide +kernel
theorem mt_87:mFd Tryz.f220 acs=true:=by decide +kernel
theorem mt_88:mFd Tryz.f221 acg=true:=by decide +kernel
theorem mt_91:mFd Tryz.f212 ah6=true:=by decide +kernel
theorem mt_92:mFd Tryz.f76 ag6=true:=by decide +kernel
theorem mt_93:mFd Tryz.f265 acu=true:=by decide +kernel
theorem mt_94:mFd Tryz.f203 ac6=true:=by decide +kernel
theorem mt_95:mFd Tryz.f300 afm=true:=by decide +kernel
theorem mt_96:mFd Tryz.f79 aa2=true:=by decide +kernel
theorem mt_98:mFd Tryz.f146 ab3=true:=by decide +kernel
theorem mt_99:mFd Tryz.f244 aer=true:=by decide +kernel
theorem mt_100:mFd Tryz.f247 aei=true:=by decide +kernel
theorem mt_101:mFd Tryz.f176 ag8=true:=by decide +kernel
theorem mt_102:mFd Tryz.f104 aet=true:=by decide +kernel
theorem mt_103:mFd Tryz.f249 abq=true:=by decide +kernel
theorem mt_104:mFd Tryz.f250 abr=true:=by decide +kernel
theorem mt_105:mFd Tryz.f280 aid=true:=by decide +kernel
theorem mt_106:mFd Tryz.f320 ag4=true:=by decide +kernel
theorem mt_107:mFd Tryz.f321 aie=true:=by decide +kernel
theorem mt_108:mFd Tryz.f322 aeu=true:=by decide +kernel
theorem mt_109:mFd Tryz.f256 acp=true:=by decide +kernel
theorem mt_110:mFd Tryz.f258 acq=true:=by decide +kernel
theorem mt_111:mFd Tryz.f257 aan=true:=by decide +kernel
theorem mt_112:mFd Tryz.f260 aaq=true:=by decide +kernel
theorem mt_113:mFd Tryz.f196 ad3=true:=by decide +kernel
theorem mt_114:mFd Tryz.f261 ac5=true:=by decide +kernel
theorem mt_115:mFd Tryz.f286 aaw=true:=by decide +kernel
theorem mt_116:mFd Tryz.f288 aay=true:=by decide +kernel
theorem mt_117:mFd Tryz.f64 agp=true:=by decide +kernel
theorem mt_118:mFd Tryz.f289 ac3=true:=by decide +kernel
theorem mt_119:mFd Tryz.f290 adg=true:=by decide +kernel
theorem mt_120:mFd Tryz.f291 ac2=true:=by decide +kernel
theorem mt_122:mFd Tryz.f292 aap=true:=by decide +kernel
theorem mt_123:mFd Tryz.f269 ags=true:=by decide +kernel
theorem mt_124:mFd Tryz.f270 abl=true:=by decide +kernel
theorem mt_125:mFd Tryz.f157 abb=true:=by decide +kernel
theorem mt_126:mFd Tryz.f122 acf=true:=by decide +kernel
theorem mt_127:mFd Tryz.f245 af0=true:=by decide +kernel
theorem mt_128:mFd Tryz.f246 afy=true:=by decide +kernel
theorem mt_129:mFd Tryz.f175 af6=true:=by decide +kernel
theorem mt_130:mFd Tryz.f178 aep=true:=by decide +kernel
theorem mt_131:mFd Tryz.f179 acw=true:=by decide +kernel
theorem mt_132:mFd Tryz.f62 aeg=true:=by decide +kernel
theorem mt_133:mFd Tryz.f309 aar=true:=by decide +kernel
theorem mt_134:mFd Tryz.f259 afo=true:=by decide +kernel
theorem mt_135:mFd Tryz.f323 aax=true:=by decide +kernel
theorem mt_136:mFd Tryz.f298 abo=true:=by decide +kernel
theorem mt_137:mFd Tryz.f327 ab0=true:=by decide +kernel
theorem mt_138:mFd Tryz.f118 aai=true:=by decide +kernel
theorem mt_139:mFd Tryz.f272 ab5=true:=by decide +kernel
theorem mt_140:mFd Tryz.f328 ab7=true:=by decide +kernel
theorem mt_141:mFd Tryz.f329 ad6=true:=by decide +kernel
theorem mt_142:mFd Tryz.f330 ab6=true:=by decide +kernel
theorem mt_143:mFd Tryz.f331 adi=true:=by decide +kernel
theorem mt_145:mFd Tryz.f312 aag=true:=by decide +kernel
theorem mt_146:mFd Tryz.f313 aea=true:=by decide +kernel
theorem mt_148:mFd Tryz.f201 abk=true:=by decide +kernel
theorem mt_149:mFd Tryz.f202 adm=true:=by decide +kernel
theorem mt_150:mFd Tryz.f204 aa1=true:=by decide +kernel
theorem mt_152:mFd Tryz.f205 acm=true:=by decide +kernel
theorem mt_153:mFd Tryz.f181 af3=true:=by decide +kernel
theorem mt_154:mFd Tryz.f183 ag9=true:=by decide +kernel
theorem mt_155:mFd Tryz.f248 ag7=true:=by decide +kernel
theorem mt_156:mFd Tryz.f40 aic=true:=by decide +kernel
theorem mt_157:mFd Tryz.f334 aba=true:=by decide +kernel
theorem mt_158:mFd Tryz.f198 aak=true:=by decide +kernel
theorem mt_159:mFd Tryz.f266 abp=true:=by decide +kernel
theorem mt_160:mFd Tryz.f267 ab8=true:=by decide +kernel
theorem mt_161:mFd Tryz.f351 acr=true:=by decide +kernel
theorem mt_162:mFd Tryz.f352 acd=true:=by decide +kernel
theorem mt_163:mFd Tryz.f353 agr=true:=by decide +kernel
theorem mt_164:mFd Tryz.f314 acl=true:=by decide +kernel
theorem mt_165:mFd Tryz.f340 adf=true:=by decide +kernel
theorem mt_166:mFd Tryz.f264 ab4=true:=by decide +kernel
theorem mt_167:mFd Tryz.f268 afp=true:=by decide +kernel
theorem mt_168:mFd Tryz.f48 ac4=true:=by decide +kernel
theorem mt_169:mFd Tryz.f252 aes=true:=by decide +kernel
theorem mt_170:mFd Tryz.f310 ak0=true:=by decide +kernel
theorem mt_171:mFd Tryz.f311 acy=true:=by decide +kernel
theorem mt_172:mFd Tryz.f119 ab1=true:=by decide +kernel
theorem mt_173:mFd Tryz.f336 abs=true:=by decide +kernel
theorem mt_177:mFd Tryz.f120 ad9=true:=by decide +kernel
theorem mt_287:mFd Tryz.f27 ag5=true:=by decide +kernel
theorem mt_288:mFd Tryz.f28 agq=true:=by decide +kernel
theorem mt_296:mFd Tryz.f77 aew=true:=by decide +kernel
theorem mt_309:mFd Tryz.f155 agb=true:=by decide +kernel
theorem mt_310:mFd Tryz.f158 abn=true:=by decide +kernel
theorem mt_311:mFd Tryz.f159 ad8=true:=by decide +kernel
theorem mt_321:mFd Tryz.f229 aga=true:=by decide +kernel
theorem mt_322:mFd Tryz.f232 aao=true:=by decide +kernel
theorem mt_323:mFd Tryz.f233 aa7=true:=by decide +kernel
theorem mt_404:mFd Tryz.f7 ace=true:=by decide +kernel
theorem au3:mFd Tryz.f80 abm=true:=by decide +kernel
end
end Go.VS
