import Derived.Test.YtmmbgajolgbhnaaGreatDoorB2
import Derived.Test.YtmmbgajolgbhnaaGreatDoorA3
import Derived.Test.YtmmbgajolgbhnaaGreatDoorProg
set_option linter.all false
namespace Go.VS
open Go Go.Proofs
noncomputable section
def phi:Nat→FuncId:=fun n=>match n with
  | 7=>50
  | 33=>36
  | 36=>155
  | 39=>93
  | 50=>145
  | 56=>49
  | 68=>193
  | 92=>126
  | 95=>150
  | 96=>146
  | 117=>223
  | 125=>142
  | 130=>105
  | 150=>62
  | 151=>65
  | 155=>144
  | 165=>261
  | 167=>141
  | 171=>190
  | 173=>218
  | 174=>219
  | 175=>220
  | 176=>221
  | 178=>118
  | 249=>111
  | 250=>148
  | 255=>147
  | 268=>176
  | 277=>202
  | 283=>182
  | 286=>203
  | 331=>37
  | 407=>9
  | 408=>11
  | 409=>10
  | 410=>12
  | 411=>13
  | 412=>14
  | 413=>15
  | 421=>23
  | 433=>35
  | 434=>38
  | 435=>39
  | 436=>40
  | 437=>41
  | 438=>42
  | 439=>45
  | 440=>46
  | 441=>47
  | 442=>48
  | 443=>51
  | 444=>52
  | 445=>53
  | 446=>54
  | 447=>55
  | 461=>71
  | 462=>72
  | 463=>73
  | 464=>74
  | 466=>76
  | 468=>78
  | 475=>85
  | 476=>86
  | 477=>87
  | 478=>88
  | 479=>89
  | 480=>90
  | 481=>91
  | 482=>92
  | 483=>94
  | 484=>95
  | 485=>96
  | 486=>97
  | 487=>98
  | 488=>99
  | 489=>100
  | 490=>101
  | 491=>102
  | 492=>103
  | 493=>104
  | 494=>106
  | 495=>107
  | 496=>108
  | 497=>109
  | 498=>110
  | 505=>119
  | 506=>120
  | 511=>125
  | 512=>127
  | 513=>128
  | 514=>129
  | 519=>134
  | 520=>135
  | 526=>143
  | 527=>149
  | 528=>151
  | 529=>152
  | 530=>153
  | 531=>154
  | 532=>156
  | 533=>157
  | 534=>159
  | 535=>158
  | 536=>160
  | 537=>161
  | 538=>162
  | 539=>163
  | 540=>164
  | 541=>165
  | 542=>166
  | 543=>167
  | 546=>173
  | 547=>172
  | 550=>177
  | 563=>192
  | 564=>194
  | 565=>195
  | 566=>196
  | 567=>197
  | 568=>198
  | 569=>199
  | 570=>200
  | 571=>201
  | 572=>205
  | 573=>204
  | 583=>224
  | 584=>225
  | 591=>244
  | 592=>245
  | 612=>3
  | 613=>4
  | 618=>43
  | 619=>44
  | 1544=>169
  | _=>0
def tbS:TI:=fun t=>(Tryz.types)[t]?
def mFd (fn:Func):Fd→Bool
  | .ir _ nt rs k=>mF tbS phi fn nt rs k
  | .pin _ nt rs k=>mF tbS phi fn nt rs k
  | .intr _=>true
theorem mt_7:mFd Tryz.f50 aeh=true:=by decide +kernel
theorem mt_33:mFd Tryz.f36 ad4=true:=by decide +kernel
theorem mt_36:mFd Tryz.f155 agl=true:=by decide +kernel
theorem mt_39:mFd Tryz.f93 ahk=true:=by decide +kernel
theorem mt_50:mFd Tryz.f145 agh=true:=by decide +kernel
theorem mt_56:mFd Tryz.f49 ad2=true:=by decide +kernel
theorem mt_68:mFd Tryz.f193 ad7=true:=by decide +kernel
theorem mt_92:mFd Tryz.f126 agm=true:=by decide +kernel
theorem mt_95:mFd Tryz.f150 afk=true:=by decide +kernel
theorem mt_96:mFd Tryz.f146 aax=true:=by decide +kernel
theorem mt_117:mFd Tryz.f223 age=true:=by decide +kernel
theorem mt_125:mFd Tryz.f142 aa9=true:=by decide +kernel
theorem mt_130:mFd Tryz.f105 aeu=true:=by decide +kernel
theorem mt_150:mFd Tryz.f62 aau=true:=by decide +kernel
theorem mt_155:mFd Tryz.f144 agn=true:=by decide +kernel
theorem mt_165:mFd Tryz.f261 ac6=true:=by decide +kernel
theorem mt_167:mFd Tryz.f141 afl=true:=by decide +kernel
theorem mt_171:mFd Tryz.f190 aci=true:=by decide +kernel
theorem mt_173:mFd Tryz.f218 abk=true:=by decide +kernel
theorem mt_249:mFd Tryz.f111 ago=true:=by decide +kernel
theorem mt_250:mFd Tryz.f148 ags=true:=by decide +kernel
theorem mt_255:mFd Tryz.f147 aeg=true:=by decide +kernel
theorem mt_268:mFd Tryz.f176 afp=true:=by decide +kernel
theorem mt_277:mFd Tryz.f202 ahj=true:=by decide +kernel
theorem mt_283:mFd Tryz.f182 aa1=true:=by decide +kernel
theorem mt_331:mFd Tryz.f37 aej=true:=by decide +kernel
theorem mt_407:mFd Tryz.f9 agj=true:=by decide +kernel
theorem mt_408:mFd Tryz.f11 agk=true:=by decide +kernel
theorem mt_409:mFd Tryz.f10 ab1=true:=by decide +kernel
theorem mt_410:mFd Tryz.f12 abw=true:=by decide +kernel
theorem mt_411:mFd Tryz.f13 agi=true:=by decide +kernel
theorem mt_412:mFd Tryz.f14 acg=true:=by decide +kernel
theorem mt_413:mFd Tryz.f15 acb=true:=by decide +kernel
theorem mt_421:mFd Tryz.f23 ach=true:=by decide +kernel
theorem mt_433:mFd Tryz.f35 acf=true:=by decide +kernel
theorem mt_434:mFd Tryz.f38 ad3=true:=by decide +kernel
theorem mt_435:mFd Tryz.f39 afn=true:=by decide +kernel
theorem mt_436:mFd Tryz.f40 ahl=true:=by decide +kernel
theorem mt_437:mFd Tryz.f41 agv=true:=by decide +kernel
theorem mt_438:mFd Tryz.f42 adc=true:=by decide +kernel
theorem mt_439:mFd Tryz.f45 ad5=true:=by decide +kernel
theorem mt_440:mFd Tryz.f46 afo=true:=by decide +kernel
theorem mt_441:mFd Tryz.f47 ad0=true:=by decide +kernel
theorem mt_442:mFd Tryz.f48 afj=true:=by decide +kernel
theorem mt_443:mFd Tryz.f51 ad1=true:=by decide +kernel
theorem mt_444:mFd Tryz.f52 afm=true:=by decide +kernel
theorem mt_445:mFd Tryz.f53 afs=true:=by decide +kernel
theorem mt_446:mFd Tryz.f54 agu=true:=by decide +kernel
theorem mt_447:mFd Tryz.f55 ab5=true:=by decide +kernel
theorem mt_461:mFd Tryz.f71 ahm=true:=by decide +kernel
theorem mt_462:mFd Tryz.f72 acv=true:=by decide +kernel
theorem mt_463:mFd Tryz.f73 agt=true:=by decide +kernel
theorem mt_464:mFd Tryz.f74 ad9=true:=by decide +kernel
theorem mt_466:mFd Tryz.f76 abj=true:=by decide +kernel
theorem mt_468:mFd Tryz.f78 aft=true:=by decide +kernel
theorem mt_475:mFd Tryz.f85 abn=true:=by decide +kernel
theorem mt_476:mFd Tryz.f86 ac7=true:=by decide +kernel
theorem mt_477:mFd Tryz.f87 aes=true:=by decide +kernel
theorem mt_478:mFd Tryz.f88 aer=true:=by decide +kernel
theorem mt_479:mFd Tryz.f89 acu=true:=by decide +kernel
theorem mt_480:mFd Tryz.f90 abx=true:=by decide +kernel
theorem mt_481:mFd Tryz.f91 aek=true:=by decide +kernel
theorem mt_482:mFd Tryz.f92 agr=true:=by decide +kernel
theorem mt_483:mFd Tryz.f94 afq=true:=by decide +kernel
theorem mt_484:mFd Tryz.f95 acw=true:=by decide +kernel
theorem mt_485:mFd Tryz.f96 aen=true:=by decide +kernel
theorem mt_486:mFd Tryz.f97 aep=true:=by decide +kernel
theorem mt_487:mFd Tryz.f98 afr=true:=by decide +kernel
theorem mt_488:mFd Tryz.f99 aeo=true:=by decide +kernel
theorem mt_489:mFd Tryz.f100 ade=true:=by decide +kernel
theorem mt_490:mFd Tryz.f101 ad8=true:=by decide +kernel
theorem mt_491:mFd Tryz.f102 aea=true:=by decide +kernel
theorem mt_492:mFd Tryz.f103 afx=true:=by decide +kernel
theorem mt_493:mFd Tryz.f104 afv=true:=by decide +kernel
theorem mt_494:mFd Tryz.f106 aem=true:=by decide +kernel
theorem mt_495:mFd Tryz.f107 ada=true:=by decide +kernel
theorem mt_496:mFd Tryz.f108 aa2=true:=by decide +kernel
theorem mt_497:mFd Tryz.f109 aei=true:=by decide +kernel
theorem mt_498:mFd Tryz.f110 ady=true:=by decide +kernel
theorem mt_505:mFd Tryz.f119 acd=true:=by decide +kernel
theorem mt_506:mFd Tryz.f120 ac9=true:=by decide +kernel
theorem mt_511:mFd Tryz.f125 afu=true:=by decide +kernel
theorem mt_512:mFd Tryz.f127 acx=true:=by decide +kernel
theorem mt_513:mFd Tryz.f128 ahi=true:=by decide +kernel
theorem mt_514:mFd Tryz.f129 ab6=true:=by decide +kernel
theorem mt_519:mFd Tryz.f134 agq=true:=by decide +kernel
theorem mt_520:mFd Tryz.f135 aet=true:=by decide +kernel
theorem mt_526:mFd Tryz.f143 aeq=true:=by decide +kernel
theorem mt_527:mFd Tryz.f149 agf=true:=by decide +kernel
theorem mt_529:mFd Tryz.f152 acr=true:=by decide +kernel
theorem mt_530:mFd Tryz.f153 aal=true:=by decide +kernel
theorem mt_531:mFd Tryz.f154 abh=true:=by decide +kernel
theorem mt_532:mFd Tryz.f156 afw=true:=by decide +kernel
theorem mt_533:mFd Tryz.f157 aev=true:=by decide +kernel
theorem mt_534:mFd Tryz.f159 adx=true:=by decide +kernel
theorem mt_535:mFd Tryz.f158 aee=true:=by decide +kernel
theorem mt_536:mFd Tryz.f160 ac8=true:=by decide +kernel
theorem mt_537:mFd Tryz.f161 acq=true:=by decide +kernel
theorem mt_538:mFd Tryz.f162 abm=true:=by decide +kernel
theorem mt_539:mFd Tryz.f163 aby=true:=by decide +kernel
theorem mt_540:mFd Tryz.f164 aa7=true:=by decide +kernel
theorem mt_541:mFd Tryz.f165 abi=true:=by decide +kernel
theorem mt_542:mFd Tryz.f166 adz=true:=by decide +kernel
theorem mt_543:mFd Tryz.f167 acs=true:=by decide +kernel
theorem mt_546:mFd Tryz.f173 aef=true:=by decide +kernel
theorem mt_547:mFd Tryz.f172 aaj=true:=by decide +kernel
theorem mt_550:mFd Tryz.f177 agp=true:=by decide +kernel
theorem mt_563:mFd Tryz.f192 aan=true:=by decide +kernel
theorem mt_564:mFd Tryz.f194 aew=true:=by decide +kernel
theorem mt_565:mFd Tryz.f195 aa0=true:=by decide +kernel
theorem mt_566:mFd Tryz.f196 aa8=true:=by decide +kernel
theorem mt_567:mFd Tryz.f197 aab=true:=by decide +kernel
theorem mt_568:mFd Tryz.f198 adb=true:=by decide +kernel
theorem mt_569:mFd Tryz.f199 aad=true:=by decide +kernel
theorem mt_570:mFd Tryz.f200 ab0=true:=by decide +kernel
theorem mt_571:mFd Tryz.f201 ace=true:=by decide +kernel
theorem mt_572:mFd Tryz.f205 abz=true:=by decide +kernel
theorem mt_573:mFd Tryz.f204 aak=true:=by decide +kernel
theorem mt_583:mFd Tryz.f224 aav=true:=by decide +kernel
theorem mt_584:mFd Tryz.f225 aaq=true:=by decide +kernel
theorem mt_591:mFd Tryz.f244 adw=true:=by decide +kernel
theorem mt_592:mFd Tryz.f245 ab7=true:=by decide +kernel
theorem mt_612:mFd Tryz.f3 aaz=true:=by decide +kernel
theorem mt_613:mFd Tryz.f4 aa6=true:=by decide +kernel
theorem mt_618:mFd Tryz.f43 ad6=true:=by decide +kernel
theorem mt_619:mFd Tryz.f44 ael=true:=by decide +kernel
theorem atd:mFd Tryz.f169 aba=true:=by decide +kernel
end
end Go.VS
