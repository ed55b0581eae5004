/-
  Our program is the seat's. Printed by mtall.py.
-/
import Derived.Test.YtmmbgajolgbhnaaGreatDoorC4
set_option linter.all false
namespace Go.VS
open Go Go.Proofs
/-- What is asked of one of our functions. -/
def MtAt (W:World) (n:Nat):Option Fd→Prop
  | none=>True
  | some (.ir _ nt rs k)=>n<1000∧(∀ args w,(callFunc (phi n) args).run Tryz.prog w=.ok (.enter (phi n) args) w)∧∃ fn,Tryz.prog.funcs[phi n]?=some fn∧mF tbS phi fn nt rs k=true
  | some (.pin _ nt rs k)=>n<5000∧(∀ args w,(callFunc (phi n) args).run Tryz.prog w=.ok (.enter (phi n) args) w)∧∃ fn,Tryz.prog.funcs[phi n]?=some fn∧mF tbS phi fn nt rs k=true
  | some (.fin _ nt rs k)=>n<1000∧(∀ args w,(callFunc (phi n) args).run Tryz.prog w=.ok (.enter (phi n) args) w)∧∃ fn,Tryz.prog.funcs[phi n]?=some fn∧mF tbS phi fn nt rs k=true
  | some (.glb _ nt rs k)=>5000≤n∧(∀ args w,(callFunc (phi n) args).run Tryz.prog w=.ok (.enter (phi n) args) w)∧∃ fn,Tryz.prog.funcs[phi n]?=some fn∧mF tbS phi fn nt rs k=true
  | some (.intr sem)=>n<5000∧∀ s o,sem s=some o→Good Tryz.prog phi ⟨W.heap.size,Tryz.prog⟩ (oldJ W) (decide (1000≤n)) (phi n) s o
def Fd.plain:Fd→Bool
  | .intr _=>false
  | _=>true
def Fd.isGlb:Fd→Bool
  | .glb _ _ _ _=>true
  | _=>false
theorem MtAt.mk {W:World} {n m:Nat} {fd:Fd} {F:Func} (hp:phi n=m) (hc:∀ args w,(callFunc m args).run Tryz.prog w=.ok (.enter m args) w) (hf:Tryz.prog.funcs[m]?=some F) (h:mFd F fd=true) (hi:fd.plain=true) (hg:n<1000→fd.isGlb=false) (hn:n<1000∨(n<5000∧∃ a b c d,fd=.pin a b c d)∨(5000≤n∧∃ a b c d,fd=.glb a b c d)):MtAt W n (some fd):=by
  subst hp
  cases fd with
  | ir np nt rs k=>rcases hn with hn | ⟨_,_,_,_,_,e⟩ | ⟨_,_,_,_,_,e⟩;exact ⟨hn,hc,F,hf,h⟩;cases e;cases e
  | pin np nt rs k=>rcases hn with hn | ⟨hn,_⟩ | ⟨_,_,_,_,_,e⟩;exact ⟨by omega,hc,F,hf,h⟩;exact ⟨hn,hc,F,hf,h⟩;cases e
  | fin np nt rs k=>rcases hn with hn | ⟨_,_,_,_,_,e⟩ | ⟨_,_,_,_,_,e⟩;exact ⟨hn,hc,F,hf,h⟩;cases e;cases e
  | glb np nt rs k=>rcases hn with hn | ⟨_,_,_,_,_,e⟩ | ⟨hn,_⟩;exact nomatch hg hn;cases e;exact ⟨hn,hc,F,hf,h⟩
  | intr=>cases hi
theorem MtAt.intr {W:World} {n m:Nat} {sem:St→Option Out} (hp:phi n=m) (hn:n<1000) (h:∀ s o,sem s=some o→Good Tryz.prog phi ⟨W.heap.size,Tryz.prog⟩ (oldJ W) false m s o):MtAt W n (some (.intr sem)):=by
  subst hp
  refine ⟨by omega,?_⟩
  show ∀ s o,sem s=some o→Good Tryz.prog phi ⟨W.heap.size,Tryz.prog⟩ (oldJ W) (decide (1000≤n)) (phi n) s o
  rw [decide_eq_false (by omega)]
  exact h
theorem MtAt.i {W:World} {n m:Nat} {fd:Fd} {F:Func} (hp:phi n=m) (hc:∀ args w,(callFunc m args).run Tryz.prog w=.ok (.enter m args) w) (hf:Tryz.prog.funcs[m]?=some F) (h:mFd F fd=true) (hi:fd.plain=true:=by rfl) (hg:fd.isGlb=false:=by rfl) (hn:n<1000:=by decide):MtAt W n (some fd):=.mk hp hc hf h hi (fun _=>hg) (.inl hn)
section
variable {W:World} {mm:Int} (hm:W.cell? ⟨0,0,none⟩=some (.int .i64 mm)) (hl:LaidAll W)
include hm hl
set_option maxRecDepth 100000
theorem mt_c0:∀ n,MtAt W n (prog_0 n):=by
  intro n
  unfold prog_0
  split
  · exact .i (m:=155) rfl Tryz.call155 Tryz.func155 mt_36
  · exact .i (m:=93) rfl Tryz.call93 Tryz.func93 mt_39
  · exact .i (m:=145) rfl Tryz.call145 Tryz.func145 mt_50
  · exact .i (m:=193) rfl Tryz.call193 Tryz.func193 mt_68
  · exact .i (m:=229) rfl Tryz.call229 Tryz.func229 mt_84
  · exact .i (m:=126) rfl Tryz.call126 Tryz.func126 mt_92
  · exact .i (m:=150) rfl Tryz.call150 Tryz.func150 mt_95
  · exact .i (m:=146) rfl Tryz.call146 Tryz.func146 mt_96
  · exact .i (m:=250) rfl Tryz.call250 Tryz.func250 mt_115
  · exact .i (m:=223) rfl Tryz.call223 Tryz.func223 mt_117
  · exact .i (m:=142) rfl Tryz.call142 Tryz.func142 mt_125
  · exact .i (m:=105) rfl Tryz.call105 Tryz.func105 mt_130
  · exact .i (m:=230) rfl Tryz.call230 Tryz.func230 mt_135
  · exact .i (m:=62) rfl Tryz.call62 Tryz.func62 mt_150
  · exact .intr (m:=65) rfl (by decide) aoi
  · exact .i (m:=144) rfl Tryz.call144 Tryz.func144 mt_155
  · exact .i (m:=141) rfl Tryz.call141 Tryz.func141 mt_167
  · exact .i (m:=213) rfl Tryz.call213 Tryz.func213 mt_170
  · exact .i (m:=190) rfl Tryz.call190 Tryz.func190 mt_171
  · exact .i (m:=218) rfl Tryz.call218 Tryz.func218 mt_173
  · exact .intr (m:=118) rfl (by decide) aj0
  · exact .i (m:=111) rfl Tryz.call111 Tryz.func111 mt_249
  · exact .i (m:=148) rfl Tryz.call148 Tryz.func148 mt_250
  · exact .i (m:=147) rfl Tryz.call147 Tryz.func147 mt_255
  · exact .i (m:=176) rfl Tryz.call176 Tryz.func176 mt_268
  · exact .i (m:=202) rfl Tryz.call202 Tryz.func202 mt_277
  · exact .i (m:=182) rfl Tryz.call182 Tryz.func182 mt_283
  · exact .intr (m:=203) rfl (by decide) aoh
  · exact .i (m:=16) rfl Tryz.call16 Tryz.func16 mt_414
  · exact .i (m:=23) rfl Tryz.call23 Tryz.func23 mt_421
  · exact .i (m:=28) rfl Tryz.call28 Tryz.func28 mt_426
  · exact .i (m:=29) rfl Tryz.call29 Tryz.func29 mt_427
  · exact .i (m:=30) rfl Tryz.call30 Tryz.func30 mt_428
  · exact .i (m:=31) rfl Tryz.call31 Tryz.func31 mt_429
  · exact .i (m:=32) rfl Tryz.call32 Tryz.func32 mt_430
  · exact .i (m:=33) rfl Tryz.call33 Tryz.func33 mt_431
  · exact .i (m:=34) rfl Tryz.call34 Tryz.func34 mt_432
  · exact .i (m:=35) rfl Tryz.call35 Tryz.func35 mt_433
  · exact .i (m:=40) rfl Tryz.call40 Tryz.func40 mt_436
  · exact .i (m:=47) rfl Tryz.call47 Tryz.func47 mt_441
  · trivial
theorem mt_c1:∀ n,MtAt W n (prog_1 n):=by
  intro n
  unfold prog_1
  split
  · exact .i (m:=57) rfl Tryz.call57 Tryz.func57 mt_449
  · exact .i (m:=58) rfl Tryz.call58 Tryz.func58 mt_450
  · exact .i (m:=59) rfl Tryz.call59 Tryz.func59 mt_451
  · exact .i (m:=60) rfl Tryz.call60 Tryz.func60 mt_452
  · exact .i (m:=61) rfl Tryz.call61 Tryz.func61 mt_453
  · exact .i (m:=71) rfl Tryz.call71 Tryz.func71 mt_461
  · exact .i (m:=73) rfl Tryz.call73 Tryz.func73 mt_463
  · exact .i (m:=74) rfl Tryz.call74 Tryz.func74 mt_464
  · exact .i (m:=75) rfl Tryz.call75 Tryz.func75 mt_465
  · exact .i (m:=77) rfl Tryz.call77 Tryz.func77 mt_467
  · exact .i (m:=79) rfl Tryz.call79 Tryz.func79 mt_469
  · exact .i (m:=80) rfl Tryz.call80 Tryz.func80 mt_470
  · exact .i (m:=81) rfl Tryz.call81 Tryz.func81 mt_471
  · exact .i (m:=82) rfl Tryz.call82 Tryz.func82 mt_472
  · exact .i (m:=83) rfl Tryz.call83 Tryz.func83 mt_473
  · exact .i (m:=84) rfl Tryz.call84 Tryz.func84 mt_474
  · exact .i (m:=85) rfl Tryz.call85 Tryz.func85 mt_475
  · exact .i (m:=86) rfl Tryz.call86 Tryz.func86 mt_476
  · exact .i (m:=87) rfl Tryz.call87 Tryz.func87 mt_477
  · exact .i (m:=88) rfl Tryz.call88 Tryz.func88 mt_478
  · exact .i (m:=89) rfl Tryz.call89 Tryz.func89 mt_479
  · exact .i (m:=90) rfl Tryz.call90 Tryz.func90 mt_480
  · exact .i (m:=92) rfl Tryz.call92 Tryz.func92 mt_482
  · exact .i (m:=94) rfl Tryz.call94 Tryz.func94 mt_483
  · exact .i (m:=95) rfl Tryz.call95 Tryz.func95 mt_484
  · exact .i (m:=96) rfl Tryz.call96 Tryz.func96 mt_485
  · exact .i (m:=97) rfl Tryz.call97 Tryz.func97 mt_486
  · exact .i (m:=98) rfl Tryz.call98 Tryz.func98 mt_487
  · exact .i (m:=99) rfl Tryz.call99 Tryz.func99 mt_488
  · exact .i (m:=107) rfl Tryz.call107 Tryz.func107 mt_495
  · exact .i (m:=110) rfl Tryz.call110 Tryz.func110 mt_498
  · exact .i (m:=112) rfl Tryz.call112 Tryz.func112 mt_499
  · exact .i (m:=113) rfl Tryz.call113 Tryz.func113 mt_500
  · exact .i (m:=114) rfl Tryz.call114 Tryz.func114 mt_501
  · exact .i (m:=115) rfl Tryz.call115 Tryz.func115 mt_502
  · exact .i (m:=116) rfl Tryz.call116 Tryz.func116 mt_503
  · exact .i (m:=117) rfl Tryz.call117 Tryz.func117 mt_504
  · exact .i (m:=119) rfl Tryz.call119 Tryz.func119 mt_505
  · exact .i (m:=120) rfl Tryz.call120 Tryz.func120 mt_506
  · exact .i (m:=125) rfl Tryz.call125 Tryz.func125 mt_511
  · trivial
theorem mt_c2:∀ n,MtAt W n (prog_2 n):=by
  intro n
  unfold prog_2
  split
  · exact .i (m:=127) rfl Tryz.call127 Tryz.func127 mt_512
  · exact .i (m:=129) rfl Tryz.call129 Tryz.func129 mt_514
  · exact .i (m:=130) rfl Tryz.call130 Tryz.func130 mt_515
  · exact .i (m:=131) rfl Tryz.call131 Tryz.func131 mt_516
  · exact .i (m:=132) rfl Tryz.call132 Tryz.func132 mt_517
  · exact .i (m:=133) rfl Tryz.call133 Tryz.func133 mt_518
  · exact .i (m:=134) rfl Tryz.call134 Tryz.func134 mt_519
  · exact .i (m:=136) rfl Tryz.call136 Tryz.func136 mt_521
  · exact .i (m:=137) rfl Tryz.call137 Tryz.func137 mt_522
  · exact .intr (m:=138) rfl (by decide) ari
  · exact .intr (m:=139) rfl (by decide) (amz hl)
  · exact .i (m:=140) rfl Tryz.call140 Tryz.func140 mt_525
  · exact .i (m:=143) rfl Tryz.call143 Tryz.func143 mt_526
  · exact .i (m:=149) rfl Tryz.call149 Tryz.func149 mt_527
  · exact .intr (m:=151) rfl (by decide) alf
  · exact .i (m:=152) rfl Tryz.call152 Tryz.func152 mt_529
  · exact .i (m:=153) rfl Tryz.call153 Tryz.func153 mt_530
  · exact .i (m:=154) rfl Tryz.call154 Tryz.func154 mt_531
  · exact .i (m:=159) rfl Tryz.call159 Tryz.func159 mt_534
  · exact .i (m:=158) rfl Tryz.call158 Tryz.func158 mt_535
  · exact .i (m:=160) rfl Tryz.call160 Tryz.func160 mt_536
  · exact .i (m:=161) rfl Tryz.call161 Tryz.func161 mt_537
  · exact .i (m:=162) rfl Tryz.call162 Tryz.func162 mt_538
  · exact .i (m:=174) rfl Tryz.call174 Tryz.func174 mt_548
  · exact .i (m:=175) rfl Tryz.call175 Tryz.func175 mt_549
  · exact .i (m:=179) rfl Tryz.call179 Tryz.func179 mt_551
  · exact .i (m:=178) rfl Tryz.call178 Tryz.func178 mt_552
  · exact .i (m:=181) rfl Tryz.call181 Tryz.func181 mt_553
  · exact .i (m:=180) rfl Tryz.call180 Tryz.func180 mt_554
  · exact .i (m:=183) rfl Tryz.call183 Tryz.func183 mt_555
  · exact .i (m:=184) rfl Tryz.call184 Tryz.func184 mt_556
  · exact .i (m:=185) rfl Tryz.call185 Tryz.func185 mt_557
  · exact .i (m:=188) rfl Tryz.call188 Tryz.func188 mt_560
  · exact .i (m:=189) rfl Tryz.call189 Tryz.func189 mt_561
  · exact .i (m:=192) rfl Tryz.call192 Tryz.func192 mt_563
  · exact .i (m:=195) rfl Tryz.call195 Tryz.func195 mt_565
  · exact .i (m:=196) rfl Tryz.call196 Tryz.func196 mt_566
  · exact .i (m:=197) rfl Tryz.call197 Tryz.func197 mt_567
  · exact .i (m:=198) rfl Tryz.call198 Tryz.func198 mt_568
  · exact .i (m:=199) rfl Tryz.call199 Tryz.func199 mt_569
  · trivial
theorem mt_c3:∀ n,MtAt W n (prog_3 n):=by
  intro n
  unfold prog_3
  split
  · exact .i (m:=200) rfl Tryz.call200 Tryz.func200 mt_570
  · exact .i (m:=206) rfl Tryz.call206 Tryz.func206 mt_574
  · exact .i (m:=208) rfl Tryz.call208 Tryz.func208 mt_575
  · exact .i (m:=209) rfl Tryz.call209 Tryz.func209 mt_576
  · exact .intr (m:=207) rfl (by decide) (am0 hl)
  · exact .i (m:=211) rfl Tryz.call211 Tryz.func211 mt_578
  · exact .i (m:=212) rfl Tryz.call212 Tryz.func212 mt_579
  · exact .i (m:=214) rfl Tryz.call214 Tryz.func214 mt_580
  · exact .i (m:=215) rfl Tryz.call215 Tryz.func215 mt_581
  · exact .i (m:=224) rfl Tryz.call224 Tryz.func224 mt_583
  · exact .i (m:=210) rfl Tryz.call210 Tryz.func210 mt_586
  · exact .intr (m:=231) rfl (by decide) ajz
  · exact .i (m:=8) rfl Tryz.call8 Tryz.func8 mt_617
  · exact .mk (m:=169) rfl Tryz.call169 Tryz.func169 avi rfl (fun h=>absurd h (by decide)) (.inr (.inl ⟨by decide,_,_,_,_,rfl⟩))
  · exact .mk (m:=56) rfl Tryz.call56 Tryz.func56 avj rfl (fun h=>absurd h (by decide)) (.inr (.inr ⟨by decide,_,_,_,_,rfl⟩))
  · trivial
theorem mt_all:∀ n,MtAt W n (prog n):=by
  intro n
  unfold prog
  split
  · exact mt_c0 hm hl n
  split
  · exact mt_c1 hm hl n
  split
  · exact mt_c2 hm hl n
  exact mt_c3 hm hl n
theorem matched:Matched Tryz.prog phi tbS ⟨W.heap.size,Tryz.prog⟩ (oldJ W) prog where
  ir f np nt rs k e:=by have:=mt_all hm hl f;rw [e] at this;exact this
  pin f np nt rs k e:=by have:=mt_all hm hl f;rw [e] at this;exact this
  intr f sem e:=by have:=mt_all hm hl f;rw [e] at this;exact this
  fin f np nt rs k e:=by have:=mt_all hm hl f;rw [e] at this;exact this
  glb f np nt rs k e:=by have:=mt_all hm hl f;rw [e] at this;exact this
end
end Go.VS
