import Derived.Test.YtmmbgajolgbhnaaGreatDoorB2
import Derived.Test.YtmmbgajolgbhnaaGreatDoorA5
import Derived.Test.YtmmbgajolgbhnaaGreatDoorProg
set_option linter.all false
namespace Go.VS
open Go Go.Proofs
noncomputable section
def phi:Nat→FuncId:=fun n=>match n with
  | 7=>50
  | 33=>36
  | 36=>155
  | 39=>93
  | 50=>145
  | 56=>49
  | 68=>193
  | 84=>229
  | 92=>126
  | 95=>150
  | 96=>146
  | 115=>250
  | 117=>223
  | 125=>142
  | 130=>105
  | 135=>230
  | 150=>62
  | 151=>65
  | 155=>144
  | 167=>141
  | 170=>213
  | 171=>190
  | 173=>218
  | 174=>219
  | 175=>220
  | 176=>221
  | 178=>118
  | 250=>148
  | 255=>147
  | 268=>176
  | 277=>202
  | 283=>182
  | 286=>203
  | 331=>37
  | 407=>9
  | 408=>11
  | 411=>13
  | 425=>27
  | 426=>28
  | 434=>38
  | 435=>39
  | 436=>40
  | 439=>45
  | 440=>46
  | 441=>47
  | 443=>51
  | 444=>52
  | 461=>71
  | 463=>73
  | 464=>74
  | 467=>77
  | 468=>78
  | 469=>79
  | 471=>81
  | 475=>85
  | 476=>86
  | 477=>87
  | 478=>88
  | 479=>89
  | 480=>90
  | 481=>91
  | 482=>92
  | 483=>94
  | 484=>95
  | 485=>96
  | 486=>97
  | 487=>98
  | 488=>99
  | 494=>106
  | 495=>107
  | 497=>109
  | 498=>110
  | 505=>119
  | 506=>120
  | 511=>125
  | 512=>127
  | 514=>129
  | 515=>130
  | 516=>131
  | 517=>132
  | 518=>133
  | 519=>134
  | 520=>135
  | 521=>136
  | 523=>138
  | 524=>139
  | 525=>140
  | 526=>143
  | 527=>149
  | 528=>151
  | 529=>152
  | 530=>153
  | 531=>154
  | 534=>159
  | 535=>158
  | 536=>160
  | 537=>161
  | 538=>162
  | 548=>174
  | 549=>175
  | 550=>177
  | 551=>179
  | 552=>178
  | 553=>181
  | 554=>180
  | 555=>183
  | 556=>184
  | 557=>185
  | 560=>188
  | 561=>189
  | 563=>192
  | 565=>195
  | 566=>196
  | 567=>197
  | 568=>198
  | 569=>199
  | 570=>200
  | 574=>206
  | 575=>208
  | 576=>209
  | 577=>207
  | 578=>211
  | 579=>212
  | 580=>214
  | 581=>215
  | 583=>224
  | 586=>210
  | 587=>231
  | 616=>7
  | 618=>43
  | 619=>44
  | 1544=>169
  | _=>0
def tbS:TI:=fun t=>(Tryz.types)[t]?
def mFd (fn:Func):Fd→Bool
  | .ir _ nt rs k=>mF tbS phi fn nt rs k
  | .pin _ nt rs k=>mF tbS phi fn nt rs k
  | .glb _ nt rs k=>mF tbS phi fn nt rs k
  | .fin _ nt rs k=>mF tbS phi fn nt rs k
  | .intr _=>true
theorem mt_7:mFd Tryz.f50 aei=true:=by decide +kernel
theorem mt_33:mFd Tryz.f36 ad9=true:=by decide +kernel
theorem mt_36:mFd Tryz.f155 agm=true:=by decide +kernel
theorem mt_39:mFd Tryz.f93 ahn=true:=by decide +kernel
theorem mt_50:mFd Tryz.f145 agi=true:=by decide +kernel
theorem mt_56:mFd Tryz.f49 ad7=true:=by decide +kernel
theorem mt_68:mFd Tryz.f193 aec=true:=by decide +kernel
theorem mt_84:mFd Tryz.f229 acy=true:=by decide +kernel
theorem mt_92:mFd Tryz.f126 agn=true:=by decide +kernel
theorem mt_95:mFd Tryz.f150 afp=true:=by decide +kernel
theorem mt_96:mFd Tryz.f146 aay=true:=by decide +kernel
theorem mt_115:mFd Tryz.f250 aaq=true:=by decide +kernel
theorem mt_117:mFd Tryz.f223 age=true:=by decide +kernel
theorem mt_125:mFd Tryz.f142 abd=true:=by decide +kernel
theorem mt_130:mFd Tryz.f105 aew=true:=by decide +kernel
theorem mt_135:mFd Tryz.f230 aar=true:=by decide +kernel
theorem mt_150:mFd Tryz.f62 aas=true:=by decide +kernel
theorem mt_155:mFd Tryz.f144 ago=true:=by decide +kernel
theorem mt_167:mFd Tryz.f141 afr=true:=by decide +kernel
theorem mt_170:mFd Tryz.f213 ajq=true:=by decide +kernel
theorem mt_171:mFd Tryz.f190 ac0=true:=by decide +kernel
theorem mt_173:mFd Tryz.f218 aby=true:=by decide +kernel
theorem mt_250:mFd Tryz.f148 ags=true:=by decide +kernel
theorem mt_255:mFd Tryz.f147 aeh=true:=by decide +kernel
theorem mt_268:mFd Tryz.f176 afw=true:=by decide +kernel
theorem mt_277:mFd Tryz.f202 ahm=true:=by decide +kernel
theorem mt_283:mFd Tryz.f182 aa2=true:=by decide +kernel
theorem mt_331:mFd Tryz.f37 aek=true:=by decide +kernel
theorem mt_407:mFd Tryz.f9 agk=true:=by decide +kernel
theorem mt_408:mFd Tryz.f11 agl=true:=by decide +kernel
theorem mt_411:mFd Tryz.f13 agj=true:=by decide +kernel
theorem mt_425:mFd Tryz.f27 ac8=true:=by decide +kernel
theorem mt_426:mFd Tryz.f28 ac4=true:=by decide +kernel
theorem mt_434:mFd Tryz.f38 ad8=true:=by decide +kernel
theorem mt_435:mFd Tryz.f39 aft=true:=by decide +kernel
theorem mt_436:mFd Tryz.f40 aho=true:=by decide +kernel
theorem mt_439:mFd Tryz.f45 aea=true:=by decide +kernel
theorem mt_440:mFd Tryz.f46 afu=true:=by decide +kernel
theorem mt_441:mFd Tryz.f47 ad5=true:=by decide +kernel
theorem mt_443:mFd Tryz.f51 ad6=true:=by decide +kernel
theorem mt_444:mFd Tryz.f52 afs=true:=by decide +kernel
theorem mt_461:mFd Tryz.f71 ahp=true:=by decide +kernel
theorem mt_463:mFd Tryz.f73 agt=true:=by decide +kernel
theorem mt_464:mFd Tryz.f74 aed=true:=by decide +kernel
theorem mt_467:mFd Tryz.f77 abo=true:=by decide +kernel
theorem mt_468:mFd Tryz.f78 afz=true:=by decide +kernel
theorem mt_469:mFd Tryz.f79 abt=true:=by decide +kernel
theorem mt_471:mFd Tryz.f81 abs=true:=by decide +kernel
theorem mt_475:mFd Tryz.f85 ab1=true:=by decide +kernel
theorem mt_476:mFd Tryz.f86 adg=true:=by decide +kernel
theorem mt_477:mFd Tryz.f87 aeu=true:=by decide +kernel
theorem mt_478:mFd Tryz.f88 aet=true:=by decide +kernel
theorem mt_479:mFd Tryz.f89 ac7=true:=by decide +kernel
theorem mt_480:mFd Tryz.f90 ab9=true:=by decide +kernel
theorem mt_481:mFd Tryz.f91 ael=true:=by decide +kernel
theorem mt_482:mFd Tryz.f92 agr=true:=by decide +kernel
theorem mt_483:mFd Tryz.f94 afx=true:=by decide +kernel
theorem mt_484:mFd Tryz.f95 ac9=true:=by decide +kernel
theorem mt_485:mFd Tryz.f96 aep=true:=by decide +kernel
theorem mt_486:mFd Tryz.f97 aer=true:=by decide +kernel
theorem mt_487:mFd Tryz.f98 afy=true:=by decide +kernel
theorem mt_488:mFd Tryz.f99 aeq=true:=by decide +kernel
theorem mt_494:mFd Tryz.f106 aen=true:=by decide +kernel
theorem mt_495:mFd Tryz.f107 adj=true:=by decide +kernel
theorem mt_497:mFd Tryz.f109 aej=true:=by decide +kernel
theorem mt_498:mFd Tryz.f110 ad4=true:=by decide +kernel
theorem mt_505:mFd Tryz.f119 acx=true:=by decide +kernel
theorem mt_506:mFd Tryz.f120 adi=true:=by decide +kernel
theorem mt_511:mFd Tryz.f125 af0=true:=by decide +kernel
theorem mt_512:mFd Tryz.f127 ada=true:=by decide +kernel
theorem mt_514:mFd Tryz.f129 acn=true:=by decide +kernel
theorem mt_515:mFd Tryz.f130 ace=true:=by decide +kernel
theorem mt_516:mFd Tryz.f131 abx=true:=by decide +kernel
theorem mt_517:mFd Tryz.f132 acg=true:=by decide +kernel
theorem mt_518:mFd Tryz.f133 acd=true:=by decide +kernel
theorem mt_519:mFd Tryz.f134 agq=true:=by decide +kernel
theorem mt_520:mFd Tryz.f135 aev=true:=by decide +kernel
theorem mt_521:mFd Tryz.f136 abm=true:=by decide +kernel
theorem mt_525:mFd Tryz.f140 agf=true:=by decide +kernel
theorem mt_526:mFd Tryz.f143 aes=true:=by decide +kernel
theorem mt_527:mFd Tryz.f149 agh=true:=by decide +kernel
theorem mt_529:mFd Tryz.f152 ac6=true:=by decide +kernel
theorem mt_530:mFd Tryz.f153 aai=true:=by decide +kernel
theorem mt_531:mFd Tryz.f154 abl=true:=by decide +kernel
theorem mt_534:mFd Tryz.f159 ad3=true:=by decide +kernel
theorem mt_535:mFd Tryz.f158 aeg=true:=by decide +kernel
theorem mt_536:mFd Tryz.f160 adh=true:=by decide +kernel
theorem mt_537:mFd Tryz.f161 ac5=true:=by decide +kernel
theorem mt_538:mFd Tryz.f162 ab0=true:=by decide +kernel
theorem mt_548:mFd Tryz.f174 acf=true:=by decide +kernel
theorem mt_549:mFd Tryz.f175 afv=true:=by decide +kernel
theorem mt_550:mFd Tryz.f177 agp=true:=by decide +kernel
theorem mt_551:mFd Tryz.f179 abw=true:=by decide +kernel
theorem mt_552:mFd Tryz.f178 aco=true:=by decide +kernel
theorem mt_553:mFd Tryz.f181 aa5=true:=by decide +kernel
theorem mt_554:mFd Tryz.f180 aef=true:=by decide +kernel
theorem mt_555:mFd Tryz.f183 acb=true:=by decide +kernel
theorem mt_556:mFd Tryz.f184 abg=true:=by decide +kernel
theorem mt_557:mFd Tryz.f185 abv=true:=by decide +kernel
theorem mt_560:mFd Tryz.f188 aax=true:=by decide +kernel
theorem mt_561:mFd Tryz.f189 afn=true:=by decide +kernel
theorem mt_563:mFd Tryz.f192 aak=true:=by decide +kernel
theorem mt_565:mFd Tryz.f195 aa1=true:=by decide +kernel
theorem mt_566:mFd Tryz.f196 abc=true:=by decide +kernel
theorem mt_567:mFd Tryz.f197 aab=true:=by decide +kernel
theorem mt_568:mFd Tryz.f198 adk=true:=by decide +kernel
theorem mt_569:mFd Tryz.f199 aad=true:=by decide +kernel
theorem mt_570:mFd Tryz.f200 aca=true:=by decide +kernel
theorem mt_574:mFd Tryz.f206 aeo=true:=by decide +kernel
theorem mt_575:mFd Tryz.f208 ab2=true:=by decide +kernel
theorem mt_576:mFd Tryz.f209 abb=true:=by decide +kernel
theorem mt_578:mFd Tryz.f211 abu=true:=by decide +kernel
theorem mt_579:mFd Tryz.f212 acz=true:=by decide +kernel
theorem mt_580:mFd Tryz.f214 afo=true:=by decide +kernel
theorem mt_581:mFd Tryz.f215 abn=true:=by decide +kernel
theorem mt_583:mFd Tryz.f224 aat=true:=by decide +kernel
theorem mt_586:mFd Tryz.f210 afq=true:=by decide +kernel
theorem mt_616:mFd Tryz.f7 abf=true:=by decide +kernel
theorem mt_618:mFd Tryz.f43 aeb=true:=by decide +kernel
theorem mt_619:mFd Tryz.f44 aem=true:=by decide +kernel
theorem auz:mFd Tryz.f169 abe=true:=by decide +kernel
end
end Go.VS
