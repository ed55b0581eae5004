import Derived.Test.YtmmbgajolgbhnaaGreatDoorB2
import Derived.Test.YtmmbgajolgbhnaaGreatDoorA5
import Derived.Test.YtmmbgajolgbhnaaGreatDoorProg
set_option linter.all false
namespace Go.VS
open Go Go.Proofs
noncomputable section
def phi:Nat→FuncId:=fun n=>match n with
  | 36=>155
  | 39=>93
  | 50=>145
  | 68=>193
  | 84=>229
  | 92=>126
  | 95=>150
  | 96=>146
  | 115=>250
  | 117=>223
  | 125=>142
  | 130=>105
  | 135=>230
  | 150=>62
  | 151=>65
  | 155=>144
  | 167=>141
  | 170=>213
  | 171=>190
  | 173=>218
  | 174=>219
  | 175=>220
  | 176=>221
  | 178=>118
  | 249=>111
  | 250=>148
  | 255=>147
  | 268=>176
  | 277=>202
  | 283=>182
  | 286=>203
  | 414=>16
  | 421=>23
  | 426=>28
  | 427=>29
  | 428=>30
  | 429=>31
  | 430=>32
  | 431=>33
  | 432=>34
  | 433=>35
  | 436=>40
  | 441=>47
  | 449=>57
  | 450=>58
  | 451=>59
  | 452=>60
  | 453=>61
  | 461=>71
  | 463=>73
  | 464=>74
  | 465=>75
  | 467=>77
  | 469=>79
  | 470=>80
  | 471=>81
  | 472=>82
  | 473=>83
  | 474=>84
  | 475=>85
  | 476=>86
  | 477=>87
  | 478=>88
  | 479=>89
  | 480=>90
  | 482=>92
  | 483=>94
  | 484=>95
  | 485=>96
  | 486=>97
  | 487=>98
  | 488=>99
  | 495=>107
  | 498=>110
  | 499=>112
  | 500=>113
  | 501=>114
  | 502=>115
  | 503=>116
  | 504=>117
  | 505=>119
  | 506=>120
  | 511=>125
  | 512=>127
  | 514=>129
  | 515=>130
  | 516=>131
  | 517=>132
  | 518=>133
  | 519=>134
  | 521=>136
  | 522=>137
  | 523=>138
  | 524=>139
  | 525=>140
  | 526=>143
  | 527=>149
  | 528=>151
  | 529=>152
  | 530=>153
  | 531=>154
  | 534=>159
  | 535=>158
  | 536=>160
  | 537=>161
  | 538=>162
  | 548=>174
  | 549=>175
  | 551=>179
  | 552=>178
  | 553=>181
  | 554=>180
  | 555=>183
  | 556=>184
  | 557=>185
  | 560=>188
  | 561=>189
  | 563=>192
  | 565=>195
  | 566=>196
  | 567=>197
  | 568=>198
  | 569=>199
  | 570=>200
  | 574=>206
  | 575=>208
  | 576=>209
  | 577=>207
  | 578=>211
  | 579=>212
  | 580=>214
  | 581=>215
  | 583=>224
  | 586=>210
  | 587=>231
  | 617=>8
  | 1544=>169
  | 5448=>56
  | _=>0
def tbS:TI:=fun t=>(Tryz.types)[t]?
def mFd (fn:Func):Fd→Bool
  | .ir _ nt rs k=>mF tbS phi fn nt rs k
  | .pin _ nt rs k=>mF tbS phi fn nt rs k
  | .glb _ nt rs k=>mF tbS phi fn nt rs k
  | .fin _ nt rs k=>mF tbS phi fn nt rs k
  | .intr _=>true
theorem mt_36:mFd Tryz.f155 ag2=true:=by decide +kernel
theorem mt_39:mFd Tryz.f93 ah7=true:=by decide +kernel
theorem mt_50:mFd Tryz.f145 ag0=true:=by decide +kernel
theorem mt_68:mFd Tryz.f193 aev=true:=by decide +kernel
theorem mt_84:mFd Tryz.f229 adg=true:=by decide +kernel
theorem mt_92:mFd Tryz.f126 ag3=true:=by decide +kernel
theorem mt_95:mFd Tryz.f150 af2=true:=by decide +kernel
theorem mt_96:mFd Tryz.f146 aa2=true:=by decide +kernel
theorem mt_115:mFd Tryz.f250 aau=true:=by decide +kernel
theorem mt_117:mFd Tryz.f223 agx=true:=by decide +kernel
theorem mt_125:mFd Tryz.f142 abh=true:=by decide +kernel
theorem mt_130:mFd Tryz.f105 ae9=true:=by decide +kernel
theorem mt_135:mFd Tryz.f230 aav=true:=by decide +kernel
theorem mt_150:mFd Tryz.f62 aax=true:=by decide +kernel
theorem mt_155:mFd Tryz.f144 ag4=true:=by decide +kernel
theorem mt_167:mFd Tryz.f141 af4=true:=by decide +kernel
theorem mt_170:mFd Tryz.f213 aka=true:=by decide +kernel
theorem mt_171:mFd Tryz.f190 adi=true:=by decide +kernel
theorem mt_173:mFd Tryz.f218 ab5=true:=by decide +kernel
theorem mt_249:mFd Tryz.f111 ag5=true:=by decide +kernel
theorem mt_250:mFd Tryz.f148 aha=true:=by decide +kernel
theorem mt_255:mFd Tryz.f147 ae1=true:=by decide +kernel
theorem mt_268:mFd Tryz.f176 af9=true:=by decide +kernel
theorem mt_277:mFd Tryz.f202 ah6=true:=by decide +kernel
theorem mt_283:mFd Tryz.f182 aa6=true:=by decide +kernel
theorem mt_414:mFd Tryz.f16 ag1=true:=by decide +kernel
theorem mt_421:mFd Tryz.f23 adf=true:=by decide +kernel
theorem mt_426:mFd Tryz.f28 ado=true:=by decide +kernel
theorem mt_427:mFd Tryz.f29 acb=true:=by decide +kernel
theorem mt_428:mFd Tryz.f30 adn=true:=by decide +kernel
theorem mt_429:mFd Tryz.f31 ads=true:=by decide +kernel
theorem mt_430:mFd Tryz.f32 afz=true:=by decide +kernel
theorem mt_431:mFd Tryz.f33 af5=true:=by decide +kernel
theorem mt_432:mFd Tryz.f34 aey=true:=by decide +kernel
theorem mt_433:mFd Tryz.f35 adc=true:=by decide +kernel
theorem mt_436:mFd Tryz.f40 ah8=true:=by decide +kernel
theorem mt_441:mFd Tryz.f47 aeu=true:=by decide +kernel
theorem mt_449:mFd Tryz.f57 aga=true:=by decide +kernel
theorem mt_450:mFd Tryz.f58 ac0=true:=by decide +kernel
theorem mt_451:mFd Tryz.f59 agd=true:=by decide +kernel
theorem mt_452:mFd Tryz.f60 ade=true:=by decide +kernel
theorem mt_453:mFd Tryz.f61 ag7=true:=by decide +kernel
theorem mt_461:mFd Tryz.f71 ah9=true:=by decide +kernel
theorem mt_463:mFd Tryz.f73 ahb=true:=by decide +kernel
theorem mt_464:mFd Tryz.f74 aew=true:=by decide +kernel
theorem mt_465:mFd Tryz.f75 acj=true:=by decide +kernel
theorem mt_467:mFd Tryz.f77 abv=true:=by decide +kernel
theorem mt_469:mFd Tryz.f79 ab0=true:=by decide +kernel
theorem mt_470:mFd Tryz.f80 agf=true:=by decide +kernel
theorem mt_471:mFd Tryz.f81 abz=true:=by decide +kernel
theorem mt_472:mFd Tryz.f82 aea=true:=by decide +kernel
theorem mt_473:mFd Tryz.f83 adu=true:=by decide +kernel
theorem mt_474:mFd Tryz.f84 acn=true:=by decide +kernel
theorem mt_475:mFd Tryz.f85 ab9=true:=by decide +kernel
theorem mt_476:mFd Tryz.f86 ad4=true:=by decide +kernel
theorem mt_477:mFd Tryz.f87 ae8=true:=by decide +kernel
theorem mt_478:mFd Tryz.f88 ae7=true:=by decide +kernel
theorem mt_479:mFd Tryz.f89 adr=true:=by decide +kernel
theorem mt_480:mFd Tryz.f90 ack=true:=by decide +kernel
theorem mt_482:mFd Tryz.f92 ag9=true:=by decide +kernel
theorem mt_483:mFd Tryz.f94 agb=true:=by decide +kernel
theorem mt_484:mFd Tryz.f95 adt=true:=by decide +kernel
theorem mt_485:mFd Tryz.f96 ae3=true:=by decide +kernel
theorem mt_486:mFd Tryz.f97 ae5=true:=by decide +kernel
theorem mt_487:mFd Tryz.f98 agc=true:=by decide +kernel
theorem mt_488:mFd Tryz.f99 ae4=true:=by decide +kernel
theorem mt_495:mFd Tryz.f107 ad7=true:=by decide +kernel
theorem mt_498:mFd Tryz.f110 aet=true:=by decide +kernel
theorem mt_499:mFd Tryz.f112 acz=true:=by decide +kernel
theorem mt_500:mFd Tryz.f113 age=true:=by decide +kernel
theorem mt_501:mFd Tryz.f114 af8=true:=by decide +kernel
theorem mt_502:mFd Tryz.f115 adv=true:=by decide +kernel
theorem mt_503:mFd Tryz.f116 ag6=true:=by decide +kernel
theorem mt_504:mFd Tryz.f117 ac1=true:=by decide +kernel
theorem mt_505:mFd Tryz.f119 adb=true:=by decide +kernel
theorem mt_506:mFd Tryz.f120 ad6=true:=by decide +kernel
theorem mt_511:mFd Tryz.f125 agh=true:=by decide +kernel
theorem mt_512:mFd Tryz.f127 adw=true:=by decide +kernel
theorem mt_514:mFd Tryz.f129 acx=true:=by decide +kernel
theorem mt_515:mFd Tryz.f130 acp=true:=by decide +kernel
theorem mt_516:mFd Tryz.f131 ab4=true:=by decide +kernel
theorem mt_517:mFd Tryz.f132 acr=true:=by decide +kernel
theorem mt_518:mFd Tryz.f133 aco=true:=by decide +kernel
theorem mt_519:mFd Tryz.f134 ag8=true:=by decide +kernel
theorem mt_521:mFd Tryz.f136 abt=true:=by decide +kernel
theorem mt_522:mFd Tryz.f137 ac2=true:=by decide +kernel
theorem mt_525:mFd Tryz.f140 agy=true:=by decide +kernel
theorem mt_526:mFd Tryz.f143 ae6=true:=by decide +kernel
theorem mt_527:mFd Tryz.f149 agz=true:=by decide +kernel
theorem mt_529:mFd Tryz.f152 adq=true:=by decide +kernel
theorem mt_530:mFd Tryz.f153 aaj=true:=by decide +kernel
theorem mt_531:mFd Tryz.f154 abs=true:=by decide +kernel
theorem mt_534:mFd Tryz.f159 aes=true:=by decide +kernel
theorem mt_535:mFd Tryz.f158 ae0=true:=by decide +kernel
theorem mt_536:mFd Tryz.f160 ad5=true:=by decide +kernel
theorem mt_537:mFd Tryz.f161 adp=true:=by decide +kernel
theorem mt_538:mFd Tryz.f162 ab8=true:=by decide +kernel
theorem mt_548:mFd Tryz.f174 acq=true:=by decide +kernel
theorem mt_549:mFd Tryz.f175 af6=true:=by decide +kernel
theorem mt_551:mFd Tryz.f179 ab3=true:=by decide +kernel
theorem mt_552:mFd Tryz.f178 acy=true:=by decide +kernel
theorem mt_553:mFd Tryz.f181 aa8=true:=by decide +kernel
theorem mt_554:mFd Tryz.f180 aez=true:=by decide +kernel
theorem mt_555:mFd Tryz.f183 acm=true:=by decide +kernel
theorem mt_556:mFd Tryz.f184 abk=true:=by decide +kernel
theorem mt_557:mFd Tryz.f185 ab2=true:=by decide +kernel
theorem mt_560:mFd Tryz.f188 aa1=true:=by decide +kernel
theorem mt_561:mFd Tryz.f189 af0=true:=by decide +kernel
theorem mt_563:mFd Tryz.f192 aak=true:=by decide +kernel
theorem mt_565:mFd Tryz.f195 aa5=true:=by decide +kernel
theorem mt_566:mFd Tryz.f196 abg=true:=by decide +kernel
theorem mt_567:mFd Tryz.f197 aab=true:=by decide +kernel
theorem mt_568:mFd Tryz.f198 ad8=true:=by decide +kernel
theorem mt_569:mFd Tryz.f199 aad=true:=by decide +kernel
theorem mt_570:mFd Tryz.f200 acl=true:=by decide +kernel
theorem mt_574:mFd Tryz.f206 ae2=true:=by decide +kernel
theorem mt_575:mFd Tryz.f208 aca=true:=by decide +kernel
theorem mt_576:mFd Tryz.f209 abf=true:=by decide +kernel
theorem mt_578:mFd Tryz.f211 ab1=true:=by decide +kernel
theorem mt_579:mFd Tryz.f212 adh=true:=by decide +kernel
theorem mt_580:mFd Tryz.f214 af1=true:=by decide +kernel
theorem mt_581:mFd Tryz.f215 abu=true:=by decide +kernel
theorem mt_583:mFd Tryz.f224 aay=true:=by decide +kernel
theorem mt_586:mFd Tryz.f210 af3=true:=by decide +kernel
theorem mt_617:mFd Tryz.f8 ad9=true:=by decide +kernel
theorem avi:mFd Tryz.f169 abi=true:=by decide +kernel
theorem avj:mFd Tryz.f56 af7=true:=by decide +kernel
end
end Go.VS
