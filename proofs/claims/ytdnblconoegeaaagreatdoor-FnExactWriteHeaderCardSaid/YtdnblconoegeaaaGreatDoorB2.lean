/-
  The functions of the program, in the words of the evaluator. Printed by irgen.py.
-/
import Derived.Test.YtdnblconoegeaaaGreatDoorB1
set_option linter.all false
namespace Go.VS

def f_laws_szPager : Fd := .ir 2 24 [.t 4]
 (.seq (.r [.box 2 (.t 0), .mv 4 (.c (.i .i64 0))])
 (.seq (.r [.fad 5 (.t 2) 0, .ld 6 (.t 5) 4 true, .mv 7 (.t 1), .call (some 8) 13 [((.t 6), .b 0), ((.t 7), .b 0)], .mv 1 (.t 8)])
 (.seq (.seq (.r [.mv 9 (.t 1), .bin 10 .lss (.t 9) (.c (.i .i64 0))])
 (.cond (.t 10) (.seq (.r [.mv 4 (.c (.i .i64 (-1)))])
 (.ret))
 (.skip)))
 (.seq (.r [.fad 11 (.t 2) 10, .ld 12 (.t 11) 1 false, .mv 13 (.t 1), .call (some 14) 14 [((.t 12), .b 2), ((.t 13), .b 0)], .mv 1 (.t 14)])
 (.seq (.seq (.r [.mv 15 (.t 1), .bin 16 .lss (.t 15) (.c (.i .i64 0))])
 (.cond (.t 16) (.seq (.r [.mv 4 (.c (.i .i64 (-1)))])
 (.ret))
 (.skip)))
 (.seq (.r [.fad 17 (.t 2) 11, .ld 18 (.t 17) 1 false, .mv 19 (.t 1), .call (some 20) 14 [((.t 18), .b 2), ((.t 19), .b 0)], .mv 1 (.t 20)])
 (.seq (.seq (.r [.mv 21 (.t 1), .bin 22 .lss (.t 21) (.c (.i .i64 0))])
 (.cond (.t 22) (.seq (.r [.mv 4 (.c (.i .i64 (-1)))])
 (.ret))
 (.skip)))
 (.seq (.r [.mv 23 (.t 1), .mv 4 (.t 23)])
 (.ret)))))))))

def f_laws_toPager : Fd := .ir 1 27 [.c 2 12 true]
 (.seq (.r [.box 1 (.t 0), .alc 2 [.nil, .nil, .i .i64 0, .b false, .i .i64 0, .i .i64 0, .i .i64 0, .i .i64 0, .i .i64 0, .i .i64 0, .nil, .nil]])
 (.seq (.r [.alc 3 [.nil, .nil, .i .i64 0, .b false, .i .i64 0, .i .i64 0, .i .i64 0, .i .i64 0, .i .i64 0, .i .i64 0, .nil, .nil]])
 (.seq (.r [.fad 4 (.t 1) 0, .ld 5 (.t 4) 4 true, .call (some 6) 18 [((.t 5), .b 0)], .fad 7 (.t 3) 0, .st (.t 7) (.t 6) 4])
 (.seq (.r [.fad 8 (.t 1) 4, .ld 9 (.t 8) 4 true, .call (some 10) 19 [((.t 9), .b 0)], .fad 11 (.t 3) 4, .st (.t 11) (.t 10) 4])
 (.seq (.r [.fad 12 (.t 1) 8, .ld 13 (.t 12) 1 false, .fad 14 (.t 3) 8, .st (.t 14) (.t 13) 1])
 (.seq (.r [.fad 15 (.t 1) 9, .ld 16 (.t 15) 1 false, .fad 17 (.t 3) 9, .st (.t 17) (.t 16) 1])
 (.seq (.r [.fad 18 (.t 1) 10, .ld 19 (.t 18) 1 false, .call (some 20) 20 [((.t 19), .b 2)], .fad 21 (.t 3) 10, .st (.t 21) (.t 20) 1])
 (.seq (.r [.fad 22 (.t 1) 11, .ld 23 (.t 22) 1 false, .call (some 24) 20 [((.t 23), .b 2)], .fad 25 (.t 3) 11, .st (.t 25) (.t 24) 1])
 (.seq (.r [.ld 26 (.t 3) 12 true, .st (.t 2) (.t 26) 12])
 (.ret))))))))))

def f_laws_eqPager : Fd := .ir 2 39 [.t 4]
 (.seq (.r [.box 2 (.t 0), .box 3 (.t 1), .mv 4 (.c (.b false))])
 (.seq (.seq (.r [.fad 5 (.t 2) 0, .ld 6 (.t 5) 4 true, .fad 7 (.t 3) 0, .ld 8 (.t 7) 4 true, .call (some 9) 24 [((.t 6), .b 0), ((.t 8), .b 0)], .un 10 .not (.t 9)])
 (.cond (.t 10) (.seq (.r [.mv 4 (.c (.b false))])
 (.ret))
 (.skip)))
 (.seq (.seq (.r [.fad 11 (.t 2) 4, .ld 12 (.t 11) 4 true, .fad 13 (.t 3) 4, .ld 14 (.t 13) 4 true, .call (some 15) 25 [((.t 12), .b 0), ((.t 14), .b 0)], .un 16 .not (.t 15)])
 (.cond (.t 16) (.seq (.r [.mv 4 (.c (.b false))])
 (.ret))
 (.skip)))
 (.seq (.seq (.r [.fad 17 (.t 2) 8, .ld 18 (.t 17) 1 false, .fad 19 (.t 3) 8, .ld 20 (.t 19) 1 false, .bin 21 .neq (.t 18) (.t 20)])
 (.cond (.t 21) (.seq (.r [.mv 4 (.c (.b false))])
 (.ret))
 (.skip)))
 (.seq (.seq (.r [.fad 22 (.t 2) 9, .ld 23 (.t 22) 1 false, .fad 24 (.t 3) 9, .ld 25 (.t 24) 1 false, .bin 26 .neq (.t 23) (.t 25)])
 (.cond (.t 26) (.seq (.r [.mv 4 (.c (.b false))])
 (.ret))
 (.skip)))
 (.seq (.seq (.r [.fad 27 (.t 2) 10, .ld 28 (.t 27) 1 false, .fad 29 (.t 3) 10, .ld 30 (.t 29) 1 false, .call (some 31) 26 [((.t 28), .b 2), ((.t 30), .b 2)], .un 32 .not (.t 31)])
 (.cond (.t 32) (.seq (.r [.mv 4 (.c (.b false))])
 (.ret))
 (.skip)))
 (.seq (.seq (.r [.fad 33 (.t 2) 11, .ld 34 (.t 33) 1 false, .fad 35 (.t 3) 11, .ld 36 (.t 35) 1 false, .call (some 37) 26 [((.t 34), .b 2), ((.t 36), .b 2)], .un 38 .not (.t 37)])
 (.cond (.t 38) (.seq (.r [.mv 4 (.c (.b false))])
 (.ret))
 (.skip)))
 (.seq (.r [.mv 4 (.c (.b true))])
 (.ret)))))))))

def f_laws_eqInt64S : Fd := .ir 2 26 [.t 4]
 (.seq (.r [.mv 4 (.c (.b false))])
 (.seq (.seq (.r [.mv 6 (.t 0), .len 7 false (.t 6), .mv 8 (.t 1), .len 9 false (.t 8), .bin 10 .neq (.t 7) (.t 9)])
 (.cond (.t 10) (.seq (.r [.mv 4 (.c (.b false))])
 (.ret))
 (.skip)))
 (.seq (.seq (.r [.mv 5 (.c (.i .i64 0))])
 (.blk 0 (.loop [0, 1, 5] [] [] (.seq (.seq (.r [.mv 11 (.t 5), .mv 12 (.t 0), .len 13 false (.t 12), .bin 14 .lss (.t 11) (.t 13)])
 (.cond (.t 14) (.skip)
 (.ex 0)))
 (.seq (.blk 1 (.seq (.r [.mv 17 (.t 0), .mv 18 (.t 5), .ixa 19 (.t 17) (.t 18) 1, .ld 20 (.t 19) 1 false, .mv 21 (.t 1), .mv 22 (.t 5), .ixa 23 (.t 21) (.t 22) 1, .ld 24 (.t 23) 1 false, .bin 25 .neq (.t 20) (.t 24)])
 (.cond (.t 25) (.seq (.r [.mv 4 (.c (.b false))])
 (.ret))
 (.skip))))
 (.r [.mv 15 (.t 5), .bin 16 .add (.t 15) (.c (.i .i64 1)), .mv 5 (.t 16)]))))))
 (.seq (.r [.mv 4 (.c (.b true))])
 (.ret)))))

def f_laws_szDisk : Fd := .ir 2 18 [.t 4]
 (.seq (.r [.box 2 (.t 0), .mv 4 (.c (.i .i64 0))])
 (.seq (.r [.fad 5 (.t 2) 0, .ld 6 (.t 5) 1 false, .mv 7 (.t 1), .call (some 8) 33 [((.t 6), .b 1), ((.t 7), .b 0)], .mv 1 (.t 8)])
 (.seq (.seq (.r [.mv 9 (.t 1), .bin 10 .lss (.t 9) (.c (.i .i64 0))])
 (.cond (.t 10) (.seq (.r [.mv 4 (.c (.i .i64 (-1)))])
 (.ret))
 (.skip)))
 (.seq (.r [.fad 11 (.t 2) 1, .ld 12 (.t 11) 1 false, .mv 13 (.t 1), .call (some 14) 34 [((.t 12), .b 2), ((.t 13), .b 0)], .mv 1 (.t 14)])
 (.seq (.seq (.r [.mv 15 (.t 1), .bin 16 .lss (.t 15) (.c (.i .i64 0))])
 (.cond (.t 16) (.seq (.r [.mv 4 (.c (.i .i64 (-1)))])
 (.ret))
 (.skip)))
 (.seq (.r [.mv 17 (.t 1), .mv 4 (.t 17)])
 (.ret)))))))

def f_laws_szPageS : Fd := .ir 2 27 [.t 4]
 (.seq (.r [.mv 4 (.c (.i .i64 0))])
 (.seq (.r [.mv 6 (.t 1), .mv 7 (.t 0), .len 8 false (.t 7), .bin 9 .sub (.t 6) (.t 8), .mv 1 (.t 9)])
 (.seq (.seq (.r [.mv 10 (.t 1), .bin 11 .lss (.t 10) (.c (.i .i64 0))])
 (.cond (.t 11) (.seq (.r [.mv 4 (.c (.i .i64 (-1)))])
 (.ret))
 (.skip)))
 (.seq (.seq (.r [.mv 5 (.c (.i .i64 0))])
 (.blk 0 (.loop [0, 1, 5] [] [] (.seq (.seq (.r [.mv 12 (.t 5), .mv 13 (.t 0), .len 14 false (.t 13), .bin 15 .lss (.t 12) (.t 14)])
 (.cond (.t 15) (.skip)
 (.ex 0)))
 (.seq (.blk 1 (.seq (.r [.mv 18 (.t 0), .mv 19 (.t 5), .ixa 20 (.t 18) (.t 19) 2, .ld 21 (.t 20) 2 true, .mv 22 (.t 1), .call (some 23) 35 [((.t 21), .b 0), ((.t 22), .b 0)], .mv 1 (.t 23)])
 (.seq (.r [.mv 24 (.t 1), .bin 25 .lss (.t 24) (.c (.i .i64 0))])
 (.cond (.t 25) (.seq (.r [.mv 4 (.c (.i .i64 (-1)))])
 (.ret))
 (.skip)))))
 (.r [.mv 16 (.t 5), .bin 17 .add (.t 16) (.c (.i .i64 1)), .mv 5 (.t 17)]))))))
 (.seq (.r [.mv 26 (.t 1), .mv 4 (.t 26)])
 (.ret))))))

def f_spec_l12Ok : Fd := .ir 1 105 [.t 2]
 (.seq (.r [.mv 2 (.c (.b false))])
 (.seq (.r [.mv 4 (.t 0), .nck 5 (.t 4), .fad 6 (.t 5) 4, .ld 7 (.t 6) 4 true, .alc 3 [.i .i64 0, .i .i64 0, .i .i64 0, .i .i64 0], .st (.t 3) (.t 7) 4])
 (.seq (.seq (.r [.mv 8 (.t 0), .nck 9 (.t 8), .fad 10 (.t 9) 0, .call (some 11) 37 [((.t 10), .b 4)], .un 12 .not (.t 11), .mv 13 (.t 12), .g 13 false (some 14) (.mv 14 (.t 0)), .g 13 false (some 15) (.nck 15 (.t 14)), .g 13 false (some 16) (.fad 16 (.t 15) 0), .g 13 false (some 17) (.fad 17 (.t 16) 1), .g 13 false (some 18) (.ld 18 (.t 17) 1 false), .g 13 false (some 19) (.len 19 false (.t 18)), .g 13 false (some 20) (.bin 20 .gtr (.t 19) (.c (.i .i64 1))), .g 13 false (some 21) (.mv 21 (.t 20)), .g 21 true (some 22) (.mv 22 (.t 0)), .g 21 true (some 23) (.nck 23 (.t 22)), .g 21 true (some 24) (.fad 24 (.t 23) 0), .g 21 true (some 25) (.fad 25 (.t 24) 3), .g 21 true (some 26) (.ld 26 (.t 25) 1 false), .g 21 true (some 27) (.un 27 .not (.t 26)), .g 13 false (some 28) (.pick 28 (.t 21) (.t 27) (.c (.b false))), .pick 29 (.t 13) (.c (.b true)) (.t 28), .mv 30 (.t 29), .g 30 false (some 31) (.ld 31 (.t 3) 4 true), .g 30 false (some 32) (.call (some 32) 38 [((.t 31), .b 0)]), .g 30 false (some 33) (.un 33 .not (.t 32)), .pick 34 (.t 30) (.c (.b true)) (.t 33), .mv 35 (.t 34), .g 35 false (some 36) (.fad 36 (.t 3) 0), .g 35 false (some 37) (.ld 37 (.t 36) 1 false), .g 35 false (some 38) (.mv 38 (.t 0)), .g 35 false (some 39) (.nck 39 (.t 38)), .g 35 false (some 40) (.fad 40 (.t 39) 0), .g 35 false (some 41) (.fad 41 (.t 40) 0), .g 35 false (some 42) (.ld 42 (.t 41) 1 false), .g 35 false (some 43) (.len 43 false (.t 42)), .g 35 false (some 44) (.bin 44 .neq (.t 37) (.t 43)), .pick 45 (.t 35) (.c (.b true)) (.t 44)])
 (.cond (.t 45) (.seq (.r [.mv 2 (.c (.b false))])
 (.ret))
 (.skip)))
 (.seq (.seq (.r [.mv 46 (.t 0), .nck 47 (.t 46), .fad 48 (.t 47) 8, .ld 49 (.t 48) 1 false, .fad 50 (.t 3) 2, .ld 51 (.t 50) 1 false, .call (some 52) 39 [((.t 49), .b 0), ((.t 51), .b 0), ((.c (.i .i64 1000000000000)), .b 0)], .un 53 .not (.t 52), .mv 54 (.t 53), .g 54 false (some 55) (.mv 55 (.t 0)), .g 54 false (some 56) (.nck 56 (.t 55)), .g 54 false (some 57) (.fad 57 (.t 56) 9), .g 54 false (some 58) (.ld 58 (.t 57) 1 false), .g 54 false (some 59) (.fad 59 (.t 3) 1), .g 54 false (some 60) (.ld 60 (.t 59) 1 false), .g 54 false (some 61) (.call (some 61) 39 [((.t 58), .b 0), ((.c (.i .i64 0)), .b 0), ((.t 60), .b 0)]), .g 54 false (some 62) (.un 62 .not (.t 61)), .pick 63 (.t 54) (.c (.b true)) (.t 62), .mv 64 (.t 63), .g 64 false (some 65) (.mv 65 (.t 0)), .g 64 false (some 66) (.nck 66 (.t 65)), .g 64 false (some 67) (.fad 67 (.t 66) 10), .g 64 false (some 68) (.ld 68 (.t 67) 1 false), .g 64 false (some 69) (.call (some 69) 40 [((.t 68), .b 2)]), .g 64 false (some 70) (.un 70 .not (.t 69)), .pick 71 (.t 64) (.c (.b true)) (.t 70), .mv 72 (.t 71), .g 72 false (some 73) (.mv 73 (.t 0)), .g 72 false (some 74) (.nck 74 (.t 73)), .g 72 false (some 75) (.fad 75 (.t 74) 11), .g 72 false (some 76) (.ld 76 (.t 75) 1 false), .g 72 false (some 77) (.call (some 77) 40 [((.t 76), .b 2)]), .g 72 false (some 78) (.un 78 .not (.t 77)), .pick 79 (.t 72) (.c (.b true)) (.t 78), .mv 80 (.t 79), .g 80 false (some 81) (.ld 81 (.t 3) 4 true), .g 80 false (some 82) (.mv 82 (.t 0)), .g 80 false (some 83) (.nck 83 (.t 82)), .g 80 false (some 84) (.fad 84 (.t 83) 10), .g 80 false (some 85) (.ld 85 (.t 84) 1 false), .g 80 false (some 86) (.call (some 86) 41 [((.t 81), .b 0), ((.t 85), .b 2)]), .g 80 false (some 87) (.un 87 .not (.t 86)), .pick 88 (.t 80) (.c (.b true)) (.t 87), .mv 89 (.t 88), .g 89 false (some 90) (.ld 90 (.t 3) 4 true), .g 89 false (some 91) (.mv 91 (.t 0)), .g 89 false (some 92) (.nck 92 (.t 91)), .g 89 false (some 93) (.fad 93 (.t 92) 11), .g 89 false (some 94) (.ld 94 (.t 93) 1 false), .g 89 false (some 95) (.call (some 95) 41 [((.t 90), .b 0), ((.t 94), .b 2)]), .g 89 false (some 96) (.un 96 .not (.t 95)), .pick 97 (.t 89) (.c (.b true)) (.t 96)])
 (.cond (.t 97) (.seq (.r [.mv 2 (.c (.b false))])
 (.ret))
 (.skip)))
 (.seq (.r [.ld 98 (.t 3) 4 true, .mv 99 (.t 0), .nck 100 (.t 99), .fad 101 (.t 100) 11, .ld 102 (.t 101) 1 false, .len 103 false (.t 102), .call (some 104) 42 [((.t 98), .b 0), ((.t 103), .b 0)], .mv 2 (.t 104)])
 (.ret))))))

def f_laws_toDisk : Fd := .ir 1 19 [.c 2 4 true]
 (.seq (.r [.box 1 (.t 0), .alc 2 [.nil, .nil, .i .i64 0, .b false]])
 (.seq (.r [.alc 3 [.nil, .nil, .i .i64 0, .b false]])
 (.seq (.r [.fad 4 (.t 1) 0, .ld 5 (.t 4) 1 false, .call (some 6) 46 [((.t 5), .b 1)], .fad 7 (.t 3) 0, .st (.t 7) (.t 6) 1])
 (.seq (.r [.fad 8 (.t 1) 1, .ld 9 (.t 8) 1 false, .call (some 10) 47 [((.t 9), .b 2)], .fad 11 (.t 3) 1, .st (.t 11) (.t 10) 1])
 (.seq (.r [.fad 12 (.t 1) 2, .ld 13 (.t 12) 1 false, .fad 14 (.t 3) 2, .st (.t 14) (.t 13) 1])
 (.seq (.r [.fad 15 (.t 1) 3, .ld 16 (.t 15) 1 false, .fad 17 (.t 3) 3, .st (.t 17) (.t 16) 1])
 (.seq (.r [.ld 18 (.t 3) 4 true, .st (.t 2) (.t 18) 4])
 (.ret))))))))

def f_laws_toSuper : Fd := .ir 1 17 [.c 2 4 true]
 (.seq (.r [.box 1 (.t 0), .alc 2 [.i .i64 0, .i .i64 0, .i .i64 0, .i .i64 0]])
 (.seq (.r [.alc 3 [.i .i64 0, .i .i64 0, .i .i64 0, .i .i64 0]])
 (.seq (.r [.fad 4 (.t 1) 0, .ld 5 (.t 4) 1 false, .fad 6 (.t 3) 0, .st (.t 6) (.t 5) 1])
 (.seq (.r [.fad 7 (.t 1) 1, .ld 8 (.t 7) 1 false, .fad 9 (.t 3) 1, .st (.t 9) (.t 8) 1])
 (.seq (.r [.fad 10 (.t 1) 2, .ld 11 (.t 10) 1 false, .fad 12 (.t 3) 2, .st (.t 12) (.t 11) 1])
 (.seq (.r [.fad 13 (.t 1) 3, .ld 14 (.t 13) 1 false, .fad 15 (.t 3) 3, .st (.t 15) (.t 14) 1])
 (.seq (.r [.ld 16 (.t 3) 4 true, .st (.t 2) (.t 16) 4])
 (.ret))))))))

def f_laws_toPageS : Fd := .ir 1 23 [.t 2]
 (.seq (.r [.mv 2 (.c (.nil))])
 (.seq (.r [.mv 5 (.t 0), .len 6 false (.t 5), .mks 7 2 (.agg [.i .i64 0, .s []]) (.t 6) (.t 6), .mv 3 (.t 7)])
 (.seq (.seq (.r [.mv 4 (.c (.i .i64 0))])
 (.blk 0 (.loop [0, 3, 4] [] [] (.seq (.seq (.r [.mv 8 (.t 4), .mv 9 (.t 0), .len 10 false (.t 9), .bin 11 .lss (.t 8) (.t 10)])
 (.cond (.t 11) (.skip)
 (.ex 0)))
 (.seq (.blk 1 (.r [.mv 14 (.t 3), .mv 15 (.t 4), .mv 16 (.t 0), .mv 17 (.t 4), .ixa 18 (.t 16) (.t 17) 2, .ld 19 (.t 18) 2 true, .call (some 20) 48 [((.t 19), .b 0)], .ixa 21 (.t 14) (.t 15) 2, .st (.t 21) (.t 20) 2]))
 (.r [.mv 12 (.t 4), .bin 13 .add (.t 12) (.c (.i .i64 1)), .mv 4 (.t 13)]))))))
 (.seq (.r [.mv 22 (.t 3), .mv 2 (.t 22)])
 (.ret)))))

def f_impl_ValidPager : Fd := .ir 1 70 [.t 2]
 (.seq (.r [.box 1 (.t 0), .mv 2 (.c (.b false))])
 (.seq (.seq (.r [.fad 3 (.t 1) 0, .ld 4 (.t 3) 4 true, .fad 5 (.t 1) 4, .ld 6 (.t 5) 4 true, .call (some 7) 49 [((.t 4), .b 0), ((.t 6), .b 0)], .un 8 .not (.t 7), .mv 9 (.t 8), .g 9 false (some 10) (.fad 10 (.t 1) 0), .g 9 false (some 11) (.fad 11 (.t 10) 1), .g 9 false (some 12) (.ld 12 (.t 11) 1 false), .g 9 false (some 13) (.len 13 false (.t 12)), .g 9 false (some 14) (.bin 14 .gtr (.t 13) (.c (.i .i64 1))), .g 9 false (some 15) (.mv 15 (.t 14)), .g 15 true (some 16) (.fad 16 (.t 1) 0), .g 15 true (some 17) (.fad 17 (.t 16) 3), .g 15 true (some 18) (.ld 18 (.t 17) 1 false), .g 15 true (some 19) (.un 19 .not (.t 18)), .g 9 false (some 20) (.pick 20 (.t 15) (.t 19) (.c (.b false))), .pick 21 (.t 9) (.c (.b true)) (.t 20), .mv 22 (.t 21), .g 22 false (some 23) (.fad 23 (.t 1) 8), .g 22 false (some 24) (.ld 24 (.t 23) 1 false), .g 22 false (some 25) (.fad 25 (.t 1) 4), .g 22 false (some 26) (.fad 26 (.t 25) 2), .g 22 false (some 27) (.ld 27 (.t 26) 1 false), .g 22 false (some 28) (.call (some 28) 50 [((.t 24), .b 0), ((.t 27), .b 0), ((.c (.i .i64 1000000000000)), .b 0)]), .g 22 false (some 29) (.un 29 .not (.t 28)), .pick 30 (.t 22) (.c (.b true)) (.t 29), .mv 31 (.t 30), .g 31 false (some 32) (.fad 32 (.t 1) 9), .g 31 false (some 33) (.ld 33 (.t 32) 1 false), .g 31 false (some 34) (.fad 34 (.t 1) 4), .g 31 false (some 35) (.fad 35 (.t 34) 1), .g 31 false (some 36) (.ld 36 (.t 35) 1 false), .g 31 false (some 37) (.call (some 37) 50 [((.t 33), .b 0), ((.c (.i .i64 0)), .b 0), ((.t 36), .b 0)]), .g 31 false (some 38) (.un 38 .not (.t 37)), .pick 39 (.t 31) (.c (.b true)) (.t 38)])
 (.cond (.t 39) (.seq (.r [.mv 2 (.c (.b false))])
 (.ret))
 (.skip)))
 (.seq (.r [.fad 40 (.t 1) 10, .ld 41 (.t 40) 1 false, .call (some 42) 51 [((.t 41), .b 2)], .mv 43 (.t 42), .g 43 true (some 44) (.fad 44 (.t 1) 11), .g 43 true (some 45) (.ld 45 (.t 44) 1 false), .g 43 true (some 46) (.call (some 46) 51 [((.t 45), .b 2)]), .pick 47 (.t 43) (.t 46) (.c (.b false)), .mv 48 (.t 47), .g 48 true (some 49) (.fad 49 (.t 1) 4), .g 48 true (some 50) (.ld 50 (.t 49) 4 true), .g 48 true (some 51) (.fad 51 (.t 1) 10), .g 48 true (some 52) (.ld 52 (.t 51) 1 false), .g 48 true (some 53) (.call (some 53) 52 [((.t 50), .b 0), ((.t 52), .b 2)]), .pick 54 (.t 48) (.t 53) (.c (.b false)), .mv 55 (.t 54), .g 55 true (some 56) (.fad 56 (.t 1) 4), .g 55 true (some 57) (.ld 57 (.t 56) 4 true), .g 55 true (some 58) (.fad 58 (.t 1) 11), .g 55 true (some 59) (.ld 59 (.t 58) 1 false), .g 55 true (some 60) (.call (some 60) 52 [((.t 57), .b 0), ((.t 59), .b 2)]), .pick 61 (.t 55) (.t 60) (.c (.b false)), .mv 62 (.t 61), .g 62 true (some 63) (.fad 63 (.t 1) 4), .g 62 true (some 64) (.ld 64 (.t 63) 4 true), .g 62 true (some 65) (.fad 65 (.t 1) 11), .g 62 true (some 66) (.ld 66 (.t 65) 1 false), .g 62 true (some 67) (.len 67 false (.t 66)), .g 62 true (some 68) (.call (some 68) 53 [((.t 64), .b 0), ((.t 67), .b 0)]), .pick 69 (.t 62) (.t 68) (.c (.b false)), .mv 2 (.t 69)])
 (.ret))))

def f_laws_eqDisk : Fd := .ir 2 27 [.t 4]
 (.seq (.r [.box 2 (.t 0), .box 3 (.t 1), .mv 4 (.c (.b false))])
 (.seq (.seq (.r [.fad 5 (.t 2) 0, .ld 6 (.t 5) 1 false, .fad 7 (.t 3) 0, .ld 8 (.t 7) 1 false, .call (some 9) 56 [((.t 6), .b 1), ((.t 8), .b 1)], .un 10 .not (.t 9)])
 (.cond (.t 10) (.seq (.r [.mv 4 (.c (.b false))])
 (.ret))
 (.skip)))
 (.seq (.seq (.r [.fad 11 (.t 2) 1, .ld 12 (.t 11) 1 false, .fad 13 (.t 3) 1, .ld 14 (.t 13) 1 false, .call (some 15) 57 [((.t 12), .b 2), ((.t 14), .b 2)], .un 16 .not (.t 15)])
 (.cond (.t 16) (.seq (.r [.mv 4 (.c (.b false))])
 (.ret))
 (.skip)))
 (.seq (.seq (.r [.fad 17 (.t 2) 2, .ld 18 (.t 17) 1 false, .fad 19 (.t 3) 2, .ld 20 (.t 19) 1 false, .bin 21 .neq (.t 18) (.t 20)])
 (.cond (.t 21) (.seq (.r [.mv 4 (.c (.b false))])
 (.ret))
 (.skip)))
 (.seq (.seq (.r [.fad 22 (.t 2) 3, .ld 23 (.t 22) 1 false, .fad 24 (.t 3) 3, .ld 25 (.t 24) 1 false, .eqb 26 true (.t 23) (.t 25)])
 (.cond (.t 26) (.seq (.r [.mv 4 (.c (.b false))])
 (.ret))
 (.skip)))
 (.seq (.r [.mv 4 (.c (.b true))])
 (.ret)))))))

def f_laws_eqSuper : Fd := .ir 2 25 [.t 4]
 (.seq (.r [.box 2 (.t 0), .box 3 (.t 1), .mv 4 (.c (.b false))])
 (.seq (.seq (.r [.fad 5 (.t 2) 0, .ld 6 (.t 5) 1 false, .fad 7 (.t 3) 0, .ld 8 (.t 7) 1 false, .bin 9 .neq (.t 6) (.t 8)])
 (.cond (.t 9) (.seq (.r [.mv 4 (.c (.b false))])
 (.ret))
 (.skip)))
 (.seq (.seq (.r [.fad 10 (.t 2) 1, .ld 11 (.t 10) 1 false, .fad 12 (.t 3) 1, .ld 13 (.t 12) 1 false, .bin 14 .neq (.t 11) (.t 13)])
 (.cond (.t 14) (.seq (.r [.mv 4 (.c (.b false))])
 (.ret))
 (.skip)))
 (.seq (.seq (.r [.fad 15 (.t 2) 2, .ld 16 (.t 15) 1 false, .fad 17 (.t 3) 2, .ld 18 (.t 17) 1 false, .bin 19 .neq (.t 16) (.t 18)])
 (.cond (.t 19) (.seq (.r [.mv 4 (.c (.b false))])
 (.ret))
 (.skip)))
 (.seq (.seq (.r [.fad 20 (.t 2) 3, .ld 21 (.t 20) 1 false, .fad 22 (.t 3) 3, .ld 23 (.t 22) 1 false, .bin 24 .neq (.t 21) (.t 23)])
 (.cond (.t 24) (.seq (.r [.mv 4 (.c (.b false))])
 (.ret))
 (.skip)))
 (.seq (.r [.mv 4 (.c (.b true))])
 (.ret)))))))

def f_laws_eqPageS : Fd := .ir 2 27 [.t 4]
 (.seq (.r [.mv 4 (.c (.b false))])
 (.seq (.seq (.r [.mv 6 (.t 0), .len 7 false (.t 6), .mv 8 (.t 1), .len 9 false (.t 8), .bin 10 .neq (.t 7) (.t 9)])
 (.cond (.t 10) (.seq (.r [.mv 4 (.c (.b false))])
 (.ret))
 (.skip)))
 (.seq (.seq (.r [.mv 5 (.c (.i .i64 0))])
 (.blk 0 (.loop [0, 1, 5] [] [] (.seq (.seq (.r [.mv 11 (.t 5), .mv 12 (.t 0), .len 13 false (.t 12), .bin 14 .lss (.t 11) (.t 13)])
 (.cond (.t 14) (.skip)
 (.ex 0)))
 (.seq (.blk 1 (.seq (.r [.mv 17 (.t 0), .mv 18 (.t 5), .ixa 19 (.t 17) (.t 18) 2, .ld 20 (.t 19) 2 true, .mv 21 (.t 1), .mv 22 (.t 5), .ixa 23 (.t 21) (.t 22) 2, .ld 24 (.t 23) 2 true, .call (some 25) 58 [((.t 20), .b 0), ((.t 24), .b 0)], .un 26 .not (.t 25)])
 (.cond (.t 26) (.seq (.r [.mv 4 (.c (.b false))])
 (.ret))
 (.skip))))
 (.r [.mv 15 (.t 5), .bin 16 .add (.t 15) (.c (.i .i64 1)), .mv 5 (.t 16)]))))))
 (.seq (.r [.mv 4 (.c (.b true))])
 (.ret)))))

def f_laws_szStringS : Fd := .ir 2 28 [.t 4]
 (.seq (.r [.mv 4 (.c (.i .i64 0))])
 (.seq (.r [.mv 6 (.t 1), .mv 7 (.t 0), .len 8 false (.t 7), .bin 9 .sub (.t 6) (.t 8), .mv 1 (.t 9)])
 (.seq (.seq (.r [.mv 10 (.t 1), .bin 11 .lss (.t 10) (.c (.i .i64 0))])
 (.cond (.t 11) (.seq (.r [.mv 4 (.c (.i .i64 (-1)))])
 (.ret))
 (.skip)))
 (.seq (.seq (.r [.mv 5 (.c (.i .i64 0))])
 (.blk 0 (.loop [0, 1, 5] [] [] (.seq (.seq (.r [.mv 12 (.t 5), .mv 13 (.t 0), .len 14 false (.t 13), .bin 15 .lss (.t 12) (.t 14)])
 (.cond (.t 15) (.skip)
 (.ex 0)))
 (.seq (.blk 1 (.seq (.r [.mv 18 (.t 1), .mv 19 (.t 0), .mv 20 (.t 5), .ixa 21 (.t 19) (.t 20) 1, .ld 22 (.t 21) 1 false, .len 23 true (.t 22), .bin 24 .sub (.t 18) (.t 23), .mv 1 (.t 24)])
 (.seq (.r [.mv 25 (.t 1), .bin 26 .lss (.t 25) (.c (.i .i64 0))])
 (.cond (.t 26) (.seq (.r [.mv 4 (.c (.i .i64 (-1)))])
 (.ret))
 (.skip)))))
 (.r [.mv 16 (.t 5), .bin 17 .add (.t 16) (.c (.i .i64 1)), .mv 5 (.t 17)]))))))
 (.seq (.r [.mv 27 (.t 1), .mv 4 (.t 27)])
 (.ret))))))

def f_laws_szPutS : Fd := .ir 2 27 [.t 4]
 (.seq (.r [.mv 4 (.c (.i .i64 0))])
 (.seq (.r [.mv 6 (.t 1), .mv 7 (.t 0), .len 8 false (.t 7), .bin 9 .sub (.t 6) (.t 8), .mv 1 (.t 9)])
 (.seq (.seq (.r [.mv 10 (.t 1), .bin 11 .lss (.t 10) (.c (.i .i64 0))])
 (.cond (.t 11) (.seq (.r [.mv 4 (.c (.i .i64 (-1)))])
 (.ret))
 (.skip)))
 (.seq (.seq (.r [.mv 5 (.c (.i .i64 0))])
 (.blk 0 (.loop [0, 1, 5] [] [] (.seq (.seq (.r [.mv 12 (.t 5), .mv 13 (.t 0), .len 14 false (.t 13), .bin 15 .lss (.t 12) (.t 14)])
 (.cond (.t 15) (.skip)
 (.ex 0)))
 (.seq (.blk 1 (.seq (.r [.mv 18 (.t 0), .mv 19 (.t 5), .ixa 20 (.t 18) (.t 19) 2, .ld 21 (.t 20) 2 true, .mv 22 (.t 1), .call (some 23) 67 [((.t 21), .b 0), ((.t 22), .b 0)], .mv 1 (.t 23)])
 (.seq (.r [.mv 24 (.t 1), .bin 25 .lss (.t 24) (.c (.i .i64 0))])
 (.cond (.t 25) (.seq (.r [.mv 4 (.c (.i .i64 (-1)))])
 (.ret))
 (.skip)))))
 (.r [.mv 16 (.t 5), .bin 17 .add (.t 16) (.c (.i .i64 1)), .mv 5 (.t 17)]))))))
 (.seq (.r [.mv 26 (.t 1), .mv 4 (.t 26)])
 (.ret))))))

def f_laws_szPage : Fd := .ir 2 13 [.t 4]
 (.seq (.r [.box 2 (.t 0), .mv 4 (.c (.i .i64 0))])
 (.seq (.r [.mv 5 (.t 1), .fad 6 (.t 2) 1, .ld 7 (.t 6) 1 false, .len 8 true (.t 7), .bin 9 .sub (.t 5) (.t 8), .mv 1 (.t 9)])
 (.seq (.seq (.r [.mv 10 (.t 1), .bin 11 .lss (.t 10) (.c (.i .i64 0))])
 (.cond (.t 11) (.seq (.r [.mv 4 (.c (.i .i64 (-1)))])
 (.ret))
 (.skip)))
 (.seq (.r [.mv 12 (.t 1), .mv 4 (.t 12)])
 (.ret)))))

def f_spec_l09Ok : Fd := .ir 1 81 [.t 2]
 (.seq (.r [.mv 2 (.c (.b false))])
 (.seq (.r [.mv 6 (.t 0), .nck 7 (.t 6), .fad 8 (.t 7) 0, .ld 9 (.t 8) 1 false, .len 10 false (.t 9), .mv 3 (.t 10)])
 (.seq (.seq (.r [.mv 11 (.t 3), .call (some 12) 39 [((.t 11), .b 0), ((.c (.i .i64 16)), .b 0), ((.c (.i .i64 256)), .b 0)], .un 13 .not (.t 12), .mv 14 (.t 13), .g 14 false (some 15) (.mv 15 (.t 0)), .g 14 false (some 16) (.nck 16 (.t 15)), .g 14 false (some 17) (.fad 17 (.t 16) 1), .g 14 false (some 18) (.ld 18 (.t 17) 1 false), .g 14 false (some 19) (.len 19 false (.t 18)), .g 14 false (some 20) (.bin 20 .gtr (.t 19) (.c (.i .i64 600))), .pick 21 (.t 14) (.c (.b true)) (.t 20), .mv 22 (.t 21), .g 22 false (some 23) (.mv 23 (.t 0)), .g 22 false (some 24) (.nck 24 (.t 23)), .g 22 false (some 25) (.fad 25 (.t 24) 2), .g 22 false (some 26) (.ld 26 (.t 25) 1 false), .g 22 false (some 27) (.call (some 27) 39 [((.t 26), .b 0), ((.c (.i .i64 (-1))), .b 0), ((.c (.i .i64 100000)), .b 0)]), .g 22 false (some 28) (.un 28 .not (.t 27)), .pick 29 (.t 22) (.c (.b true)) (.t 28)])
 (.cond (.t 29) (.seq (.r [.mv 2 (.c (.b false))])
 (.ret))
 (.skip)))
 (.seq (.seq (.r [.mv 4 (.c (.i .i64 0))])
 (.blk 0 (.loop [0, 3, 4] [] [] (.seq (.seq (.r [.mv 30 (.t 4), .mv 31 (.t 0), .nck 32 (.t 31), .fad 33 (.t 32) 0, .ld 34 (.t 33) 1 false, .len 35 false (.t 34), .bin 36 .lss (.t 30) (.t 35)])
 (.cond (.t 36) (.skip)
 (.ex 0)))
 (.seq (.blk 1 (.seq (.r [.mv 39 (.t 0), .nck 40 (.t 39), .fad 41 (.t 40) 0, .ld 42 (.t 41) 1 false, .mv 43 (.t 4), .ixa 44 (.t 42) (.t 43) 1, .ld 45 (.t 44) 1 false, .len 46 true (.t 45), .bin 47 .neq (.t 46) (.c (.i .i64 64))])
 (.cond (.t 47) (.seq (.r [.mv 2 (.c (.b false))])
 (.ret))
 (.skip))))
 (.r [.mv 37 (.t 4), .bin 38 .add (.t 37) (.c (.i .i64 1)), .mv 4 (.t 38)]))))))
 (.seq (.seq (.r [.mv 5 (.c (.i .i64 0))])
 (.blk 2 (.loop [0, 3, 5] [] [] (.seq (.seq (.r [.mv 48 (.t 5), .mv 49 (.t 0), .nck 50 (.t 49), .fad 51 (.t 50) 1, .ld 52 (.t 51) 1 false, .len 53 false (.t 52), .bin 54 .lss (.t 48) (.t 53)])
 (.cond (.t 54) (.skip)
 (.ex 2)))
 (.seq (.blk 3 (.seq (.r [.mv 57 (.t 0), .nck 58 (.t 57), .fad 59 (.t 58) 1, .ld 60 (.t 59) 1 false, .mv 61 (.t 5), .ixa 62 (.t 60) (.t 61) 2, .fad 63 (.t 62) 0, .ld 64 (.t 63) 1 false, .mv 65 (.t 3), .bin 66 .sub (.t 65) (.c (.i .i64 1)), .call (some 67) 39 [((.t 64), .b 0), ((.c (.i .i64 0)), .b 0), ((.t 66), .b 0)], .un 68 .not (.t 67), .mv 69 (.t 68), .g 69 false (some 70) (.mv 70 (.t 0)), .g 69 false (some 71) (.nck 71 (.t 70)), .g 69 false (some 72) (.fad 72 (.t 71) 1), .g 69 false (some 73) (.ld 73 (.t 72) 1 false), .g 69 false (some 74) (.mv 74 (.t 5)), .g 69 false (some 75) (.ixa 75 (.t 73) (.t 74) 2), .g 69 false (some 76) (.fad 76 (.t 75) 1), .g 69 false (some 77) (.ld 77 (.t 76) 1 false), .g 69 false (some 78) (.len 78 true (.t 77)), .g 69 false (some 79) (.bin 79 .neq (.t 78) (.c (.i .i64 64))), .pick 80 (.t 69) (.c (.b true)) (.t 79)])
 (.cond (.t 80) (.seq (.r [.mv 2 (.c (.b false))])
 (.ret))
 (.skip))))
 (.r [.mv 55 (.t 5), .bin 56 .add (.t 55) (.c (.i .i64 1)), .mv 5 (.t 56)]))))))
 (.seq (.r [.mv 2 (.c (.b true))])
 (.ret)))))))

def f_spec_ValidSuper : Fd := .ir 1 29 [.t 2]
 (.seq (.r [.box 1 (.t 0), .mv 2 (.c (.b false))])
 (.seq (.r [.fad 3 (.t 1) 0, .ld 4 (.t 3) 1 false, .call (some 5) 39 [((.t 4), .b 0), ((.c (.i .i64 16)), .b 0), ((.c (.i .i64 256)), .b 0)], .mv 6 (.t 5), .g 6 true (some 7) (.fad 7 (.t 1) 1), .g 6 true (some 8) (.ld 8 (.t 7) 1 false), .g 6 true (some 9) (.call (some 9) 39 [((.t 8), .b 0), ((.c (.i .i64 8)), .b 0), ((.c (.i .i64 64)), .b 0)]), .pick 10 (.t 6) (.t 9) (.c (.b false)), .mv 11 (.t 10), .g 11 true (some 12) (.fad 12 (.t 1) 1), .g 11 true (some 13) (.ld 13 (.t 12) 1 false), .g 11 true (some 14) (.fad 14 (.t 1) 0), .g 11 true (some 15) (.ld 15 (.t 14) 1 false), .g 11 true (some 16) (.bin 16 .sub (.t 15) (.c (.i .i64 4))), .g 11 true (some 17) (.bin 17 .leq (.t 13) (.t 16)), .pick 18 (.t 11) (.t 17) (.c (.b false)), .mv 19 (.t 18), .g 19 true (some 20) (.fad 20 (.t 1) 2), .g 19 true (some 21) (.ld 21 (.t 20) 1 false), .g 19 true (some 22) (.call (some 22) 39 [((.t 21), .b 0), ((.c (.i .i64 0)), .b 0), ((.c (.i .i64 1000000000000)), .b 0)]), .pick 23 (.t 19) (.t 22) (.c (.b false)), .mv 24 (.t 23), .g 24 true (some 25) (.fad 25 (.t 1) 3), .g 24 true (some 26) (.ld 26 (.t 25) 1 false), .g 24 true (some 27) (.call (some 27) 39 [((.t 26), .b 0), ((.c (.i .i64 0)), .b 0), ((.c (.i .i64 1000000000000)), .b 0)]), .pick 28 (.t 24) (.t 27) (.c (.b false)), .mv 2 (.t 28)])
 (.ret)))

def f_spec_l00In : Fd := .ir 3 15 [.t 6]
 (.seq (.r [.mv 6 (.c (.b false))])
 (.seq (.r [.mv 7 (.t 0), .mv 8 (.t 1), .bin 9 .geq (.t 7) (.t 8), .mv 10 (.t 9), .g 10 true (some 11) (.mv 11 (.t 0)), .g 10 true (some 12) (.mv 12 (.t 2)), .g 10 true (some 13) (.bin 13 .leq (.t 11) (.t 12)), .pick 14 (.t 10) (.t 13) (.c (.b false)), .mv 6 (.t 14)])
 (.ret)))

def f_spec_l11Pages : Fd := .ir 1 47 [.t 2]
 (.seq (.r [.mv 2 (.c (.b false))])
 (.seq (.seq (.r [.mv 4 (.t 0), .len 5 false (.t 4), .bin 6 .gtr (.t 5) (.c (.i .i64 256))])
 (.cond (.t 6) (.seq (.r [.mv 2 (.c (.b false))])
 (.ret))
 (.skip)))
 (.seq (.seq (.r [.mv 3 (.c (.i .i64 0))])
 (.blk 0 (.loop [0, 3] [] [] (.seq (.seq (.r [.mv 7 (.t 3), .mv 8 (.t 0), .len 9 false (.t 8), .bin 10 .lss (.t 7) (.t 9)])
 (.cond (.t 10) (.skip)
 (.ex 0)))
 (.seq (.blk 1 (.seq (.r [.mv 13 (.t 0), .mv 14 (.t 3), .ixa 15 (.t 13) (.t 14) 2, .fad 16 (.t 15) 0, .ld 17 (.t 16) 1 false, .call (some 18) 39 [((.t 17), .b 0), ((.c (.i .i64 0)), .b 0), ((.c (.i .i64 255)), .b 0)], .un 19 .not (.t 18), .mv 20 (.t 19), .g 20 false (some 21) (.mv 21 (.t 0)), .g 20 false (some 22) (.mv 22 (.t 3)), .g 20 false (some 23) (.ixa 23 (.t 21) (.t 22) 2), .g 20 false (some 24) (.fad 24 (.t 23) 1), .g 20 false (some 25) (.ld 25 (.t 24) 1 false), .g 20 false (some 26) (.len 26 true (.t 25)), .g 20 false (some 27) (.bin 27 .neq (.t 26) (.c (.i .i64 64))), .pick 28 (.t 20) (.c (.b true)) (.t 27), .mv 29 (.t 28), .g 29 false (some 30) (.mv 30 (.t 3)), .g 29 false (some 31) (.bin 31 .gtr (.t 30) (.c (.i .i64 0))), .g 29 false (some 32) (.mv 32 (.t 31)), .g 32 true (some 33) (.mv 33 (.t 0)), .g 32 true (some 34) (.mv 34 (.t 3)), .g 32 true (some 35) (.bin 35 .sub (.t 34) (.c (.i .i64 1))), .g 32 true (some 36) (.ixa 36 (.t 33) (.t 35) 2), .g 32 true (some 37) (.fad 37 (.t 36) 0), .g 32 true (some 38) (.ld 38 (.t 37) 1 false), .g 32 true (some 39) (.mv 39 (.t 0)), .g 32 true (some 40) (.mv 40 (.t 3)), .g 32 true (some 41) (.ixa 41 (.t 39) (.t 40) 2), .g 32 true (some 42) (.fad 42 (.t 41) 0), .g 32 true (some 43) (.ld 43 (.t 42) 1 false), .g 32 true (some 44) (.bin 44 .geq (.t 38) (.t 43)), .g 29 false (some 45) (.pick 45 (.t 32) (.t 44) (.c (.b false))), .pick 46 (.t 29) (.c (.b true)) (.t 45)])
 (.cond (.t 46) (.seq (.r [.mv 2 (.c (.b false))])
 (.ret))
 (.skip))))
 (.r [.mv 11 (.t 3), .bin 12 .add (.t 11) (.c (.i .i64 1)), .mv 3 (.t 12)]))))))
 (.seq (.r [.mv 2 (.c (.b true))])
 (.ret)))))

def f_spec_l11Within : Fd := .ir 2 24 [.t 4]
 (.seq (.r [.box 2 (.t 0), .mv 4 (.c (.b false))])
 (.seq (.seq (.r [.mv 5 (.c (.i .i64 0))])
 (.blk 0 (.loop [1, 2, 5] [] [] (.seq (.seq (.r [.mv 6 (.t 5), .mv 7 (.t 1), .len 8 false (.t 7), .bin 9 .lss (.t 6) (.t 8)])
 (.cond (.t 9) (.skip)
 (.ex 0)))
 (.seq (.blk 1 (.seq (.r [.mv 12 (.t 1), .mv 13 (.t 5), .ixa 14 (.t 12) (.t 13) 2, .fad 15 (.t 14) 0, .ld 16 (.t 15) 1 false, .ld 17 (.t 2) 4 true, .call (some 18) 69 [((.t 17), .b 0)], .fad 19 (.t 2) 0, .ck (.np (.t 19)) (.ld 20 (.t 19) 1 false), .bin 21 .sub (.t 20) (.c (.i .i64 1)), .call (some 22) 39 [((.t 16), .b 0), ((.t 18), .b 0), ((.t 21), .b 0)], .un 23 .not (.t 22)])
 (.cond (.t 23) (.seq (.r [.mv 4 (.c (.b false))])
 (.ret))
 (.skip))))
 (.r [.mv 10 (.t 5), .bin 11 .add (.t 10) (.c (.i .i64 1)), .mv 5 (.t 11)]))))))
 (.seq (.r [.mv 4 (.c (.b true))])
 (.ret))))

def f_spec_l12Fits : Fd := .ir 2 18 [.t 4]
 (.seq (.r [.box 2 (.t 0), .mv 4 (.c (.b false))])
 (.seq (.r [.mv 5 (.t 1), .bin 6 .eql (.t 5) (.c (.i .i64 0)), .mv 7 (.t 6), .g 7 false (some 8) (.mv 8 (.t 1)), .g 7 false (some 9) (.bin 9 .leq (.t 8) (.c (.i .i64 60))), .g 7 false (some 10) (.mv 10 (.t 9)), .g 10 true (some 11) (.mv 11 (.t 1)), .g 10 true (some 12) (.call (some 12) 70 [((.t 11), .b 0)]), .g 10 true (some 13) (.fad 13 (.t 2) 1), .g 10 true (some 14) (.ck (.np (.t 13)) (.ld 14 (.t 13) 1 false)), .g 10 true (some 15) (.bin 15 .leq (.t 12) (.t 14)), .g 7 false (some 16) (.pick 16 (.t 10) (.t 15) (.c (.b false))), .pick 17 (.t 7) (.c (.b true)) (.t 16), .mv 4 (.t 17)])
 (.ret)))

def f_spec_l13Root : Fd := .ir 1 12 [.t 2]
 (.seq (.r [.mv 2 (.c (.i .i64 0))])
 (.seq (.r [.mv 6 (.t 0), .call (some 7) 71 [((.t 6), .b 12)], .call (some 8) 72 [((.t 7), .b 0), ((.c (.i .i64 0)), .b 0), ((.c (.i .i64 2)), .b 0)], .mv 5 (.t 8), .ext 9 (.t 5) 0, .ext 10 (.t 5) 1, .mv 3 (.t 9), .mv 4 (.t 10)])
 (.seq (.r [.mv 11 (.t 3), .mv 2 (.t 11)])
 (.ret))))

def f_laws_toStringS : Fd := .ir 1 22 [.t 2]
 (.seq (.r [.mv 2 (.c (.nil))])
 (.seq (.r [.mv 5 (.t 0), .len 6 false (.t 5), .mks 7 1 (.s []) (.t 6) (.t 6), .mv 3 (.t 7)])
 (.seq (.seq (.r [.mv 4 (.c (.i .i64 0))])
 (.blk 0 (.loop [0, 3, 4] [] [] (.seq (.seq (.r [.mv 8 (.t 4), .mv 9 (.t 0), .len 10 false (.t 9), .bin 11 .lss (.t 8) (.t 10)])
 (.cond (.t 11) (.skip)
 (.ex 0)))
 (.seq (.blk 1 (.r [.mv 14 (.t 3), .mv 15 (.t 4), .mv 16 (.t 0), .mv 17 (.t 4), .ixa 18 (.t 16) (.t 17) 1, .ld 19 (.t 18) 1 false, .ixa 20 (.t 14) (.t 15) 1, .st (.t 20) (.t 19) 1]))
 (.r [.mv 12 (.t 4), .bin 13 .add (.t 12) (.c (.i .i64 1)), .mv 4 (.t 13)]))))))
 (.seq (.r [.mv 21 (.t 3), .mv 2 (.t 21)])
 (.ret)))))

def f_laws_toPutS : Fd := .ir 1 23 [.t 2]
 (.seq (.r [.mv 2 (.c (.nil))])
 (.seq (.r [.mv 5 (.t 0), .len 6 false (.t 5), .mks 7 2 (.agg [.i .i64 0, .s []]) (.t 6) (.t 6), .mv 3 (.t 7)])
 (.seq (.seq (.r [.mv 4 (.c (.i .i64 0))])
 (.blk 0 (.loop [0, 3, 4] [] [] (.seq (.seq (.r [.mv 8 (.t 4), .mv 9 (.t 0), .len 10 false (.t 9), .bin 11 .lss (.t 8) (.t 10)])
 (.cond (.t 11) (.skip)
 (.ex 0)))
 (.seq (.blk 1 (.r [.mv 14 (.t 3), .mv 15 (.t 4), .mv 16 (.t 0), .mv 17 (.t 4), .ixa 18 (.t 16) (.t 17) 2, .ld 19 (.t 18) 2 true, .call (some 20) 77 [((.t 19), .b 0)], .ixa 21 (.t 14) (.t 15) 2, .st (.t 21) (.t 20) 2]))
 (.r [.mv 12 (.t 4), .bin 13 .add (.t 12) (.c (.i .i64 1)), .mv 4 (.t 13)]))))))
 (.seq (.r [.mv 22 (.t 3), .mv 2 (.t 22)])
 (.ret)))))

def f_laws_toPage : Fd := .ir 1 11 [.c 2 2 true]
 (.seq (.r [.box 1 (.t 0), .alc 2 [.i .i64 0, .s []]])
 (.seq (.r [.alc 3 [.i .i64 0, .s []]])
 (.seq (.r [.fad 4 (.t 1) 0, .ld 5 (.t 4) 1 false, .fad 6 (.t 3) 0, .st (.t 6) (.t 5) 1])
 (.seq (.r [.fad 7 (.t 1) 1, .ld 8 (.t 7) 1 false, .fad 9 (.t 3) 1, .st (.t 9) (.t 8) 1])
 (.seq (.r [.ld 10 (.t 3) 2 true, .st (.t 2) (.t 10) 2])
 (.ret))))))

def f_impl_superFits : Fd := .ir 2 19 [.t 4]
 (.seq (.r [.box 2 (.t 0), .box 3 (.t 1), .mv 4 (.c (.b false))])
 (.seq (.r [.ld 5 (.t 2) 4 true, .call (some 6) 78 [((.t 5), .b 0)], .mv 7 (.t 6), .g 7 true (some 8) (.ld 8 (.t 3) 4 true), .g 7 true (some 9) (.call (some 9) 79 [((.t 8), .b 0)]), .pick 10 (.t 7) (.t 9) (.c (.b false)), .mv 11 (.t 10), .g 11 true (some 12) (.fad 12 (.t 3) 0), .g 11 true (some 13) (.ld 13 (.t 12) 1 false), .g 11 true (some 14) (.fad 14 (.t 2) 0), .g 11 true (some 15) (.ld 15 (.t 14) 1 false), .g 11 true (some 16) (.len 16 false (.t 15)), .g 11 true (some 17) (.bin 17 .eql (.t 13) (.t 16)), .pick 18 (.t 11) (.t 17) (.c (.b false)), .mv 4 (.t 18)])
 (.ret)))

def f_impl_within : Fd := .ir 3 15 [.t 6]
 (.seq (.r [.mv 6 (.c (.b false))])
 (.seq (.r [.mv 7 (.t 0), .mv 8 (.t 1), .bin 9 .geq (.t 7) (.t 8), .mv 10 (.t 9), .g 10 true (some 11) (.mv 11 (.t 0)), .g 10 true (some 12) (.mv 12 (.t 2)), .g 10 true (some 13) (.bin 13 .leq (.t 11) (.t 12)), .pick 14 (.t 10) (.t 13) (.c (.b false)), .mv 6 (.t 14)])
 (.ret)))

def f_impl_ValidPages : Fd := .ir 1 41 [.t 2]
 (.seq (.r [.mv 2 (.c (.b false))])
 (.seq (.seq (.r [.mv 5 (.t 0), .len 6 false (.t 5), .mv 7 (.c (.i .i64 0))])
 (.blk 0 (.loop [0, 5, 6, 7] [] [] (.seq (.r [.bin 8 .lss (.t 7) (.t 6)])
 (.seq (.cond (.t 8) (.skip)
 (.ex 0))
 (.seq (.blk 1 (.seq (.r [.mv 9 (.t 7), .ixa 10 (.t 5) (.t 7) 2, .ld 11 (.t 10) 2 true, .alc 4 [.i .i64 0, .s []], .mv 3 (.t 9), .st (.t 4) (.t 11) 2])
 (.seq (.r [.fad 12 (.t 4) 0, .ld 13 (.t 12) 1 false, .call (some 14) 50 [((.t 13), .b 0), ((.c (.i .i64 0)), .b 0), ((.c (.i .i64 255)), .b 0)], .un 15 .not (.t 14), .mv 16 (.t 15), .g 16 false (some 17) (.mv 17 (.t 3)), .g 16 false (some 18) (.bin 18 .gtr (.t 17) (.c (.i .i64 0))), .g 16 false (some 19) (.mv 19 (.t 18)), .g 19 true (some 20) (.fad 20 (.t 4) 0), .g 19 true (some 21) (.ld 21 (.t 20) 1 false), .g 19 true (some 22) (.mv 22 (.t 0)), .g 19 true (some 23) (.mv 23 (.t 3)), .g 19 true (some 24) (.bin 24 .sub (.t 23) (.c (.i .i64 1))), .g 19 true (some 25) (.ixa 25 (.t 22) (.t 24) 2), .g 19 true (some 26) (.fad 26 (.t 25) 0), .g 19 true (some 27) (.ld 27 (.t 26) 1 false), .g 19 true (some 28) (.bin 28 .leq (.t 21) (.t 27)), .g 16 false (some 29) (.pick 29 (.t 19) (.t 28) (.c (.b false))), .pick 30 (.t 16) (.c (.b true)) (.t 29), .mv 31 (.t 30), .g 31 false (some 32) (.fad 32 (.t 4) 1), .g 31 false (some 33) (.ld 33 (.t 32) 1 false), .g 31 false (some 34) (.call (some 34) 80 [((.t 33), .b 0)]), .g 31 false (some 35) (.un 35 .not (.t 34)), .pick 36 (.t 31) (.c (.b true)) (.t 35)])
 (.cond (.t 36) (.seq (.r [.mv 2 (.c (.b false))])
 (.ret))
 (.skip)))))
 (.r [.bin 37 .add (.t 7) (.c (.i .i64 1)), .mv 7 (.t 37)])))))))
 (.seq (.r [.mv 38 (.t 0), .len 39 false (.t 38), .bin 40 .leq (.t 39) (.c (.i .i64 256)), .mv 2 (.t 40)])
 (.ret))))

def f_impl_Super_inArea : Fd := .ir 2 9 [.t 4]
 (.seq (.r [.box 2 (.t 0), .mv 4 (.c (.b false))])
 (.seq (.r [.mv 5 (.t 1), .mkf 6 81 [(.t 2)], .call (some 7) 82 [((.t 5), .b 2), ((.t 6), .b 0)], .un 8 .not (.t 7), .mv 4 (.t 8)])
 (.ret)))

def f_impl_Super_fits : Fd := .ir 2 14 [.t 4]
 (.seq (.r [.box 2 (.t 0), .mv 4 (.c (.b false))])
 (.seq (.r [.mv 5 (.t 1), .bin 6 .leq (.t 5) (.c (.i .i64 60)), .mv 7 (.t 6), .g 7 true (some 8) (.mv 8 (.t 1)), .g 7 true (some 9) (.call (some 9) 83 [((.t 8), .b 0)]), .g 7 true (some 10) (.fad 10 (.t 2) 1), .g 7 true (some 11) (.ck (.np (.t 10)) (.ld 11 (.t 10) 1 false)), .g 7 true (some 12) (.bin 12 .leq (.t 9) (.t 11)), .pick 13 (.t 7) (.t 12) (.c (.b false)), .mv 4 (.t 13)])
 (.ret)))

def f_laws_eqStringS : Fd := .ir 2 26 [.t 4]
 (.seq (.r [.mv 4 (.c (.b false))])
 (.seq (.seq (.r [.mv 6 (.t 0), .len 7 false (.t 6), .mv 8 (.t 1), .len 9 false (.t 8), .bin 10 .neq (.t 7) (.t 9)])
 (.cond (.t 10) (.seq (.r [.mv 4 (.c (.b false))])
 (.ret))
 (.skip)))
 (.seq (.seq (.r [.mv 5 (.c (.i .i64 0))])
 (.blk 0 (.loop [0, 1, 5] [] [] (.seq (.seq (.r [.mv 11 (.t 5), .mv 12 (.t 0), .len 13 false (.t 12), .bin 14 .lss (.t 11) (.t 13)])
 (.cond (.t 14) (.skip)
 (.ex 0)))
 (.seq (.blk 1 (.seq (.r [.mv 17 (.t 0), .mv 18 (.t 5), .ixa 19 (.t 17) (.t 18) 1, .ld 20 (.t 19) 1 false, .mv 21 (.t 1), .mv 22 (.t 5), .ixa 23 (.t 21) (.t 22) 1, .ld 24 (.t 23) 1 false, .bin 25 .neq (.t 20) (.t 24)])
 (.cond (.t 25) (.seq (.r [.mv 4 (.c (.b false))])
 (.ret))
 (.skip))))
 (.r [.mv 15 (.t 5), .bin 16 .add (.t 15) (.c (.i .i64 1)), .mv 5 (.t 16)]))))))
 (.seq (.r [.mv 4 (.c (.b true))])
 (.ret)))))

def f_laws_eqPutS : Fd := .ir 2 27 [.t 4]
 (.seq (.r [.mv 4 (.c (.b false))])
 (.seq (.seq (.r [.mv 6 (.t 0), .len 7 false (.t 6), .mv 8 (.t 1), .len 9 false (.t 8), .bin 10 .neq (.t 7) (.t 9)])
 (.cond (.t 10) (.seq (.r [.mv 4 (.c (.b false))])
 (.ret))
 (.skip)))
 (.seq (.seq (.r [.mv 5 (.c (.i .i64 0))])
 (.blk 0 (.loop [0, 1, 5] [] [] (.seq (.seq (.r [.mv 11 (.t 5), .mv 12 (.t 0), .len 13 false (.t 12), .bin 14 .lss (.t 11) (.t 13)])
 (.cond (.t 14) (.skip)
 (.ex 0)))
 (.seq (.blk 1 (.seq (.r [.mv 17 (.t 0), .mv 18 (.t 5), .ixa 19 (.t 17) (.t 18) 2, .ld 20 (.t 19) 2 true, .mv 21 (.t 1), .mv 22 (.t 5), .ixa 23 (.t 21) (.t 22) 2, .ld 24 (.t 23) 2 true, .call (some 25) 91 [((.t 20), .b 0), ((.t 24), .b 0)], .un 26 .not (.t 25)])
 (.cond (.t 26) (.seq (.r [.mv 4 (.c (.b false))])
 (.ret))
 (.skip))))
 (.r [.mv 15 (.t 5), .bin 16 .add (.t 15) (.c (.i .i64 1)), .mv 5 (.t 16)]))))))
 (.seq (.r [.mv 4 (.c (.b true))])
 (.ret)))))

def f_laws_eqPage : Fd := .ir 2 15 [.t 4]
 (.seq (.r [.box 2 (.t 0), .box 3 (.t 1), .mv 4 (.c (.b false))])
 (.seq (.seq (.r [.fad 5 (.t 2) 0, .ld 6 (.t 5) 1 false, .fad 7 (.t 3) 0, .ld 8 (.t 7) 1 false, .bin 9 .neq (.t 6) (.t 8)])
 (.cond (.t 9) (.seq (.r [.mv 4 (.c (.b false))])
 (.ret))
 (.skip)))
 (.seq (.seq (.r [.fad 10 (.t 2) 1, .ld 11 (.t 10) 1 false, .fad 12 (.t 3) 1, .ld 13 (.t 12) 1 false, .bin 14 .neq (.t 11) (.t 13)])
 (.cond (.t 14) (.seq (.r [.mv 4 (.c (.b false))])
 (.ret))
 (.skip)))
 (.seq (.r [.mv 4 (.c (.b true))])
 (.ret)))))

def f_p_impl_Pager_root : Fd := .ir 1 10 [.t 2]
 (.seq (.r [.mv 2 (.c (.i .i64 0))])
 (.seq (.r [.mv 3 (.t 0), .mv 4 (.t 0), .call (some 5) 93 [((.t 4), .b 12)], .call (some 6) 94 [((.t 3), .b 12), ((.t 5), .b 0)], .slc 7 (.t 6) none (some (.c (.i .i64 2))) 0, .call (some 8) 95 [((.t 7), .b 0)], .cvi 9 .i64 (.t 8), .mv 2 (.t 9)])
 (.ret)))

def f_laws_markText : Fd := .ir 1 20 [.t 2]
 (.seq (.r [.mv 2 (.c (.s []))])
 (.seq (.seq (.r [.mv 4 (.t 0), .bin 5 .leq (.t 4) (.c (.i .i64 0))])
 (.cond (.t 5) (.seq (.r [.mv 2 (.c (.s [109, 48]))])
 (.ret))
 (.skip)))
 (.seq (.r [.mv 3 (.c (.s []))])
 (.seq (.blk 0 (.loop [0, 3] [] [] (.seq (.seq (.r [.mv 6 (.t 0), .bin 7 .gtr (.t 6) (.c (.i .i64 0))])
 (.cond (.t 7) (.skip)
 (.ex 0)))
 (.blk 1 (.seq (.r [.mv 8 (.t 0), .bin 9 .rem (.t 8) (.c (.i .i64 10)), .bin 10 .add (.c (.i .i64 48)) (.t 9), .cvi 11 .u8 (.t 10), .bsl 12 1 [(.t 11)], .cvs 13 (.t 12), .mv 14 (.t 3), .bin 15 .add (.t 13) (.t 14), .mv 3 (.t 15)])
 (.r [.mv 16 (.t 0), .bin 17 .quo (.t 16) (.c (.i .i64 10)), .mv 0 (.t 17)]))))))
 (.seq (.r [.mv 18 (.t 3), .bin 19 .add (.c (.s [109])) (.t 18), .mv 2 (.t 19)])
 (.ret))))))

def f_laws_szPut : Fd := .ir 2 13 [.t 4]
 (.seq (.r [.box 2 (.t 0), .mv 4 (.c (.i .i64 0))])
 (.seq (.r [.mv 5 (.t 1), .fad 6 (.t 2) 1, .ld 7 (.t 6) 1 false, .len 8 true (.t 7), .bin 9 .sub (.t 5) (.t 8), .mv 1 (.t 9)])
 (.seq (.seq (.r [.mv 10 (.t 1), .bin 11 .lss (.t 10) (.c (.i .i64 0))])
 (.cond (.t 11) (.seq (.r [.mv 4 (.c (.i .i64 (-1)))])
 (.ret))
 (.skip)))
 (.seq (.r [.mv 12 (.t 1), .mv 4 (.t 12)])
 (.ret)))))

def f_spec_l10Area : Fd := .ir 1 6 [.t 2]
 (.seq (.r [.box 1 (.t 0), .mv 2 (.c (.i .i64 0))])
 (.seq (.r [.fad 3 (.t 1) 1, .ld 4 (.t 3) 1 false, .bin 5 .add (.c (.i .i64 2)) (.t 4), .mv 2 (.t 5)])
 (.ret)))

def f_spec_l11Blocks : Fd := .ir 1 8 [.t 2]
 (.seq (.r [.mv 2 (.c (.i .i64 0))])
 (.seq (.r [.mv 3 (.t 0), .call (some 4) 99 [((.t 3), .b 0)], .bin 5 .add (.c (.i .i64 1)) (.t 4), .mv 6 (.t 0), .bin 7 .add (.t 5) (.t 6), .mv 2 (.t 7)])
 (.ret)))

def f_spec_l13Area : Fd := .ir 1 10 [.t 2]
 (.seq (.r [.mv 2 (.c (.s []))])
 (.seq (.r [.mv 3 (.t 0), .mv 4 (.t 0), .nck 5 (.t 4), .fad 6 (.t 5) 4, .ld 7 (.t 6) 4 true, .call (some 8) 69 [((.t 7), .b 0)], .call (some 9) 101 [((.t 3), .b 12), ((.t 8), .b 0)], .mv 2 (.t 9)])
 (.ret)))

def f_spec_l01GetUint : Fd := .ir 3 42 [.t 6, .t 7]
 (.seq (.r [.mv 6 (.c (.i .i64 0)), .mv 7 (.c (.b false))])
 (.seq (.seq (.r [.mv 10 (.t 0), .mv 11 (.t 1), .mv 12 (.t 2), .call (some 13) 100 [((.t 10), .b 0), ((.t 11), .b 0), ((.t 12), .b 0)], .un 14 .not (.t 13), .mv 15 (.t 14), .g 15 false (some 16) (.mv 16 (.t 2)), .g 15 false (some 17) (.bin 17 .eql (.t 16) (.c (.i .i64 8))), .g 15 false (some 18) (.mv 18 (.t 17)), .g 18 true (some 19) (.mv 19 (.t 0)), .g 18 true (some 20) (.mv 20 (.t 1)), .g 18 true (some 21) (.bin 21 .add (.t 20) (.c (.i .i64 7))), .g 18 true (some 22) (.ixs 22 (.t 19) (.t 21)), .g 18 true (some 23) (.bin 23 .gtr (.t 22) (.c (.i .u8 127))), .g 15 false (some 24) (.pick 24 (.t 18) (.t 23) (.c (.b false))), .pick 25 (.t 15) (.c (.b true)) (.t 24)])
 (.cond (.t 25) (.seq (.r [.mv 6 (.c (.i .i64 0)), .mv 7 (.c (.b false))])
 (.ret))
 (.skip)))
 (.seq (.r [.mv 8 (.c (.i .i64 0))])
 (.seq (.seq (.r [.mv 26 (.t 2), .bin 27 .sub (.t 26) (.c (.i .i64 1)), .mv 9 (.t 27)])
 (.blk 0 (.loop [0, 1, 8, 9] [] [] (.seq (.seq (.r [.mv 28 (.t 9), .bin 29 .geq (.t 28) (.c (.i .i64 0))])
 (.cond (.t 29) (.skip)
 (.ex 0)))
 (.seq (.blk 1 (.r [.mv 32 (.t 8), .bin 33 .mul (.t 32) (.c (.i .i64 256)), .mv 34 (.t 0), .mv 35 (.t 1), .mv 36 (.t 9), .bin 37 .add (.t 35) (.t 36), .ixs 38 (.t 34) (.t 37), .cvi 39 .i64 (.t 38), .bin 40 .add (.t 33) (.t 39), .mv 8 (.t 40)]))
 (.r [.mv 30 (.t 9), .bin 31 .sub (.t 30) (.c (.i .i64 1)), .mv 9 (.t 31)]))))))
 (.seq (.r [.mv 41 (.t 8), .mv 6 (.t 41), .mv 7 (.c (.b true))])
 (.ret))))))

def f_laws_toPut : Fd := .ir 1 11 [.c 2 2 true]
 (.seq (.r [.box 1 (.t 0), .alc 2 [.i .i64 0, .s []]])
 (.seq (.r [.alc 3 [.i .i64 0, .s []]])
 (.seq (.r [.fad 4 (.t 1) 0, .ld 5 (.t 4) 1 false, .fad 6 (.t 3) 0, .st (.t 6) (.t 5) 1])
 (.seq (.r [.fad 7 (.t 1) 1, .ld 8 (.t 7) 1 false, .fad 9 (.t 3) 1, .st (.t 9) (.t 8) 1])
 (.seq (.r [.ld 10 (.t 3) 2 true, .st (.t 2) (.t 10) 2])
 (.ret))))))

def f_impl_ValidDisk : Fd := .ir 1 28 [.t 2]
 (.seq (.r [.box 1 (.t 0), .mv 2 (.c (.b false))])
 (.seq (.seq (.r [.fad 3 (.t 1) 0, .ld 4 (.t 3) 1 false, .len 5 false (.t 4), .call (some 6) 50 [((.t 5), .b 0), ((.c (.i .i64 16)), .b 0), ((.c (.i .i64 256)), .b 0)], .un 7 .not (.t 6), .mv 8 (.t 7), .g 8 false (some 9) (.fad 9 (.t 1) 1), .g 8 false (some 10) (.ld 10 (.t 9) 1 false), .g 8 false (some 11) (.len 11 false (.t 10)), .g 8 false (some 12) (.bin 12 .gtr (.t 11) (.c (.i .i64 600))), .pick 13 (.t 8) (.c (.b true)) (.t 12), .mv 14 (.t 13), .g 14 false (some 15) (.fad 15 (.t 1) 2), .g 14 false (some 16) (.ld 16 (.t 15) 1 false), .g 14 false (some 17) (.call (some 17) 50 [((.t 16), .b 0), ((.c (.i .i64 (-1))), .b 0), ((.c (.i .i64 100000)), .b 0)]), .g 14 false (some 18) (.un 18 .not (.t 17)), .pick 19 (.t 14) (.c (.b true)) (.t 18)])
 (.cond (.t 19) (.seq (.r [.mv 2 (.c (.b false))])
 (.ret))
 (.skip)))
 (.seq (.seq (.r [.fad 20 (.t 1) 0, .ld 21 (.t 20) 1 false, .call (some 22) 86 [((.t 21), .b 1), ((.c (.fn 109 [])), .b 0)]])
 (.cond (.t 22) (.seq (.r [.mv 2 (.c (.b false))])
 (.ret))
 (.skip)))
 (.seq (.r [.fad 23 (.t 1) 1, .ld 24 (.t 23) 1 false, .mkf 25 110 [(.t 1)], .call (some 26) 111 [((.t 24), .b 2), ((.t 25), .b 0)], .un 27 .not (.t 26), .mv 2 (.t 27)])
 (.ret)))))

def f_impl_ValidSuper : Fd := .ir 1 25 [.t 2]
 (.seq (.r [.box 1 (.t 0), .mv 2 (.c (.b false))])
 (.seq (.r [.fad 3 (.t 1) 0, .ld 4 (.t 3) 1 false, .call (some 5) 50 [((.t 4), .b 0), ((.c (.i .i64 16)), .b 0), ((.c (.i .i64 256)), .b 0)], .mv 6 (.t 5), .g 6 true (some 7) (.fad 7 (.t 1) 1), .g 6 true (some 8) (.ld 8 (.t 7) 1 false), .g 6 true (some 9) (.fad 9 (.t 1) 0), .g 6 true (some 10) (.ld 10 (.t 9) 1 false), .g 6 true (some 11) (.bin 11 .sub (.t 10) (.c (.i .i64 4))), .g 6 true (some 12) (.mm 12 false (.c (.i .i64 64)) (.t 11)), .g 6 true (some 13) (.call (some 13) 50 [((.t 8), .b 0), ((.c (.i .i64 8)), .b 0), ((.t 12), .b 0)]), .pick 14 (.t 6) (.t 13) (.c (.b false)), .mv 15 (.t 14), .g 15 true (some 16) (.fad 16 (.t 1) 2), .g 15 true (some 17) (.ld 17 (.t 16) 1 false), .g 15 true (some 18) (.call (some 18) 50 [((.t 17), .b 0), ((.c (.i .i64 0)), .b 0), ((.c (.i .i64 1000000000000)), .b 0)]), .pick 19 (.t 15) (.t 18) (.c (.b false)), .mv 20 (.t 19), .g 20 true (some 21) (.fad 21 (.t 1) 3), .g 20 true (some 22) (.ld 22 (.t 21) 1 false), .g 20 true (some 23) (.call (some 23) 50 [((.t 22), .b 0), ((.c (.i .i64 0)), .b 0), ((.c (.i .i64 1000000000000)), .b 0)]), .pick 24 (.t 20) (.t 23) (.c (.b false)), .mv 2 (.t 24)])
 (.ret)))

def f_impl_isBlock : Fd := .ir 1 6 [.t 2]
 (.seq (.r [.mv 2 (.c (.b false))])
 (.seq (.r [.mv 3 (.t 0), .len 4 true (.t 3), .bin 5 .eql (.t 4) (.c (.i .i64 64)), .mv 2 (.t 5)])
 (.ret)))

def f_impl_Super_inArea_s1 : Fd := .ir 2 13 [.t 3]
 (.seq (.r [.box 2 (.t 0), .mv 3 (.c (.b false))])
 (.seq (.r [.fad 4 (.t 2) 0, .ld 5 (.t 4) 1 false, .ld 6 (.t 1) 4 true, .call (some 7) 113 [((.t 6), .b 0)], .fad 8 (.t 1) 0, .ck (.np (.t 8)) (.ld 9 (.t 8) 1 false), .bin 10 .sub (.t 9) (.c (.i .i64 1)), .call (some 11) 50 [((.t 5), .b 0), ((.t 7), .b 0), ((.t 10), .b 0)], .un 12 .not (.t 11), .mv 3 (.t 12)])
 (.ret)))

def f_slices_ContainsFunc_impl_Page_impl_Page : Fd := .ir 2 9 [.t 4]
 (.seq (.r [.mv 4 (.c (.b false))])
 (.seq (.r [.mv 5 (.t 0), .mv 6 (.t 1), .call (some 7) 112 [((.t 5), .b 2), ((.t 6), .b 0)], .bin 8 .geq (.t 7) (.c (.i .i64 0)), .mv 4 (.t 8)])
 (.ret)))

def f_impl_RecordBlocks : Fd := .ir 1 11 [.t 2]
 (.seq (.r [.mv 2 (.c (.i .i64 0))])
 (.seq (.seq (.r [.mv 3 (.t 0), .call (some 4) 50 [((.t 3), .b 0), ((.c (.i .i64 1)), .b 0), ((.c (.i .i64 60)), .b 0)], .un 5 .not (.t 4)])
 (.cond (.t 5) (.seq (.r [.mv 2 (.c (.i .i64 0))])
 (.ret))
 (.skip)))
 (.seq (.r [.mv 6 (.t 0), .call (some 7) 114 [((.t 6), .b 0)], .bin 8 .add (.c (.i .i64 1)) (.t 7), .mv 9 (.t 0), .bin 10 .add (.t 8) (.t 9), .mv 2 (.t 10)])
 (.ret))))

def f_slices_ContainsFunc_string_string : Fd := .ir 2 9 [.t 4]
 (.seq (.r [.mv 4 (.c (.b false))])
 (.seq (.r [.mv 5 (.t 0), .mv 6 (.t 1), .call (some 7) 116 [((.t 5), .b 1), ((.t 6), .b 0)], .bin 8 .geq (.t 7) (.c (.i .i64 0)), .mv 4 (.t 8)])
 (.ret)))

def f_laws_eqPut : Fd := .ir 2 15 [.t 4]
 (.seq (.r [.box 2 (.t 0), .box 3 (.t 1), .mv 4 (.c (.b false))])
 (.seq (.seq (.r [.fad 5 (.t 2) 0, .ld 6 (.t 5) 1 false, .fad 7 (.t 3) 0, .ld 8 (.t 7) 1 false, .bin 9 .neq (.t 6) (.t 8)])
 (.cond (.t 9) (.seq (.r [.mv 4 (.c (.b false))])
 (.ret))
 (.skip)))
 (.seq (.seq (.r [.fad 10 (.t 2) 1, .ld 11 (.t 10) 1 false, .fad 12 (.t 3) 1, .ld 13 (.t 12) 1 false, .bin 14 .neq (.t 11) (.t 13)])
 (.cond (.t 14) (.seq (.r [.mv 4 (.c (.b false))])
 (.ret))
 (.skip)))
 (.seq (.r [.mv 4 (.c (.b true))])
 (.ret)))))

def f_spec_l00Has : Fd := .ir 2 18 [.t 4]
 (.seq (.r [.mv 4 (.c (.b false))])
 (.seq (.seq (.r [.mv 5 (.c (.i .i64 0))])
 (.blk 0 (.loop [0, 1, 5] [] [] (.seq (.seq (.r [.mv 6 (.t 5), .mv 7 (.t 0), .len 8 false (.t 7), .bin 9 .lss (.t 6) (.t 8)])
 (.cond (.t 9) (.skip)
 (.ex 0)))
 (.seq (.blk 1 (.seq (.r [.mv 12 (.t 0), .mv 13 (.t 5), .ixa 14 (.t 12) (.t 13) 1, .ld 15 (.t 14) 1 false, .mv 16 (.t 1), .bin 17 .eql (.t 15) (.t 16)])
 (.cond (.t 17) (.seq (.r [.mv 4 (.c (.b true))])
 (.ret))
 (.skip))))
 (.r [.mv 10 (.t 5), .bin 11 .add (.t 10) (.c (.i .i64 1)), .mv 5 (.t 11)]))))))
 (.seq (.r [.mv 4 (.c (.b false))])
 (.ret))))

def f_p_impl_Pager_area : Fd := .ir 1 9 [.t 2]
 (.seq (.r [.mv 2 (.c (.i .i64 0))])
 (.seq (.r [.mv 3 (.t 0), .nck 4 (.t 3), .fad 5 (.t 4) 4, .fad 6 (.t 5) 1, .ld 7 (.t 6) 1 false, .bin 8 .add (.c (.i .i64 2)) (.t 7), .mv 2 (.t 8)])
 (.ret)))

def f_p_impl_Pager_get : Fd := .ir 2 28 [.t 4]
 (.seq (.r [.mv 4 (.c (.s []))])
 (.seq (.seq (.r [.mv 8 (.t 0), .nck 9 (.t 8), .fad 10 (.t 9) 11, .ld 11 (.t 10) 1 false, .mv 12 (.t 1), .call (some 13) 123 [((.t 11), .b 2), ((.t 12), .b 0)], .mv 7 (.t 13), .ext 14 (.t 7) 0, .ext 15 (.t 7) 1, .mv 5 (.t 14), .mv 6 (.t 15)])
 (.seq (.r [.mv 16 (.t 6)])
 (.cond (.t 16) (.seq (.r [.mv 17 (.t 0), .nck 18 (.t 17), .fad 19 (.t 18) 11, .ld 20 (.t 19) 1 false, .mv 21 (.t 5), .ixa 22 (.t 20) (.t 21) 2, .fad 23 (.t 22) 1, .ld 24 (.t 23) 1 false, .mv 4 (.t 24)])
 (.ret))
 (.skip))))
 (.seq (.r [.mv 25 (.t 0), .mv 26 (.t 1), .call (some 27) 124 [((.t 25), .b 12), ((.t 26), .b 0)], .mv 4 (.t 27)])
 (.ret))))

def f_impl_getBits : Fd := .ir 1 21 [.t 2]
 (.seq (.r [.mv 2 (.c (.i .u64 0))])
 (.seq (.r [.mv 3 (.c (.i .u64 0))])
 (.seq (.seq (.r [.mv 5 (.t 0), .len 6 true (.t 5), .mv 7 (.c (.i .i64 0))])
 (.blk 0 (.loop [0, 3, 6, 7] [] [] (.seq (.r [.bin 8 .lss (.t 7) (.t 6)])
 (.seq (.cond (.t 8) (.skip)
 (.ex 0))
 (.seq (.blk 1 (.seq (.r [.mv 9 (.t 7), .mv 4 (.t 9)])
 (.r [.mv 10 (.t 3), .mv 11 (.t 0), .mv 12 (.t 4), .ixs 13 (.t 11) (.t 12), .cvi 14 .u64 (.t 13), .mv 15 (.t 4), .bin 16 .mul (.c (.i .i64 8)) (.t 15), .bin 17 .shl (.t 14) (.t 16), .bin 18 .or (.t 10) (.t 17), .mv 3 (.t 18)])))
 (.r [.bin 19 .add (.t 7) (.c (.i .i64 1)), .mv 7 (.t 19)])))))))
 (.seq (.r [.mv 20 (.t 3), .mv 2 (.t 20)])
 (.ret)))))

def f_slices_Contains_int64_int64 : Fd := .ir 2 9 [.t 4]
 (.seq (.r [.mv 4 (.c (.b false))])
 (.seq (.r [.mv 5 (.t 0), .mv 6 (.t 1), .call (some 7) 125 [((.t 5), .b 1), ((.t 6), .b 0)], .bin 8 .geq (.t 7) (.c (.i .i64 0)), .mv 4 (.t 8)])
 (.ret)))

def f_spec_l11Table : Fd := .ir 1 8 [.t 2]
 (.seq (.r [.mv 2 (.c (.i .i64 0))])
 (.seq (.r [.mv 3 (.t 0), .bin 4 .mul (.c (.i .i64 2)) (.t 3), .bin 5 .add (.t 4) (.c (.i .i64 64)), .bin 6 .sub (.t 5) (.c (.i .i64 1)), .bin 7 .quo (.t 6) (.c (.i .i64 64)), .mv 2 (.t 7)])
 (.ret)))

def f_spec_l01Within : Fd := .ir 3 23 [.t 6]
 (.seq (.r [.mv 6 (.c (.b false))])
 (.seq (.r [.mv 7 (.t 2), .call (some 8) 39 [((.t 7), .b 0), ((.c (.i .i64 1)), .b 0), ((.c (.i .i64 8)), .b 0)], .mv 9 (.t 8), .g 9 true (some 10) (.mv 10 (.t 1)), .g 9 true (some 11) (.mv 11 (.t 0)), .g 9 true (some 12) (.len 12 true (.t 11)), .g 9 true (some 13) (.call (some 13) 39 [((.t 10), .b 0), ((.c (.i .i64 0)), .b 0), ((.t 12), .b 0)]), .pick 14 (.t 9) (.t 13) (.c (.b false)), .mv 15 (.t 14), .g 15 true (some 16) (.mv 16 (.t 2)), .g 15 true (some 17) (.mv 17 (.t 0)), .g 15 true (some 18) (.len 18 true (.t 17)), .g 15 true (some 19) (.mv 19 (.t 1)), .g 15 true (some 20) (.bin 20 .sub (.t 18) (.t 19)), .g 15 true (some 21) (.bin 21 .leq (.t 16) (.t 20)), .pick 22 (.t 15) (.t 21) (.c (.b false)), .mv 6 (.t 22)])
 (.ret)))

def f_spec_l12Get : Fd := .ir 2 44 [.t 4]
 (.seq (.r [.mv 4 (.c (.s []))])
 (.seq (.seq (.r [.mv 7 (.t 0), .nck 8 (.t 7), .fad 9 (.t 8) 11, .ld 10 (.t 9) 1 false, .mv 11 (.t 1), .call (some 12) 127 [((.t 10), .b 2), ((.t 11), .b 0)], .mv 5 (.t 12)])
 (.seq (.r [.mv 13 (.t 5), .bin 14 .geq (.t 13) (.c (.i .i64 0))])
 (.cond (.t 14) (.seq (.r [.mv 15 (.t 0), .nck 16 (.t 15), .fad 17 (.t 16) 11, .ld 18 (.t 17) 1 false, .mv 19 (.t 5), .ixa 20 (.t 18) (.t 19) 2, .fad 21 (.t 20) 1, .ld 22 (.t 21) 1 false, .mv 4 (.t 22)])
 (.ret))
 (.skip))))
 (.seq (.seq (.r [.mv 23 (.t 0), .nck 24 (.t 23), .fad 25 (.t 24) 10, .ld 26 (.t 25) 1 false, .mv 27 (.t 1), .call (some 28) 127 [((.t 26), .b 2), ((.t 27), .b 0)], .mv 6 (.t 28)])
 (.seq (.r [.mv 29 (.t 6), .bin 30 .geq (.t 29) (.c (.i .i64 0))])
 (.cond (.t 30) (.seq (.r [.mv 31 (.t 0), .nck 32 (.t 31), .fad 33 (.t 32) 10, .ld 34 (.t 33) 1 false, .mv 35 (.t 6), .ixa 36 (.t 34) (.t 35) 2, .fad 37 (.t 36) 1, .ld 38 (.t 37) 1 false, .mv 4 (.t 38)])
 (.ret))
 (.skip))))
 (.seq (.r [.mv 39 (.t 0), .nck 40 (.t 39), .fad 41 (.t 40) 0, .mv 42 (.t 1), .call (some 43) 128 [((.t 41), .b 4), ((.t 42), .b 0)], .mv 4 (.t 43)])
 (.ret)))))

def f_spec_l14Chain : Fd := .ir 2 88 [.t 4, .c 5 3 true, .t 6]
 (.seq (.r [.mv 4 (.c (.nil)), .alc 5 [.i .i64 0, .i .i64 0, .nil], .mv 6 (.c (.b false))])
 (.seq (.r [.bsl 17 1 [], .mv 7 (.t 17)])
 (.seq (.r [.mv 8 (.c (.s []))])
 (.seq (.seq (.r [.mv 18 (.t 1), .mv 9 (.t 18)])
 (.blk 0 (.loop [0, 5, 7, 8, 9] [] [] (.blk 1 (.seq (.seq (.r [.mv 19 (.t 0), .mv 20 (.t 9), .call (some 21) 129 [((.t 19), .b 12), ((.t 20), .b 0)], .un 22 .not (.t 21), .mv 23 (.t 22), .g 23 false (some 24) (.mv 24 (.t 7)), .g 23 false (some 25) (.mv 25 (.t 9)), .g 23 false (some 26) (.call (some 26) 92 [((.t 24), .b 1), ((.t 25), .b 0)]), .pick 27 (.t 23) (.c (.b true)) (.t 26)])
 (.cond (.t 27) (.seq (.r [.bld 28 [.i .i64 0, .i .i64 0, .nil] [], .mv 4 (.c (.nil)), .st (.t 5) (.t 28) 3, .mv 6 (.c (.b false))])
 (.ret))
 (.skip)))
 (.seq (.r [.mv 29 (.t 7), .mv 30 (.t 9), .bsl 31 1 [(.t 30)], .app 32 (.t 29) (.t 31) 1, .mv 7 (.t 32)])
 (.seq (.r [.mv 33 (.t 0), .mv 34 (.t 9), .call (some 35) 101 [((.t 33), .b 12), ((.t 34), .b 0)], .mv 10 (.t 35)])
 (.seq (.r [.mv 37 (.t 10), .call (some 38) 72 [((.t 37), .b 0), ((.c (.i .i64 0)), .b 0), ((.c (.i .i64 2)), .b 0)], .mv 36 (.t 38), .ext 39 (.t 36) 0, .ext 40 (.t 36) 1, .mv 11 (.t 39), .mv 12 (.t 40)])
 (.seq (.r [.mv 42 (.t 10), .call (some 43) 72 [((.t 42), .b 0), ((.c (.i .i64 2)), .b 0), ((.c (.i .i64 2)), .b 0)], .mv 41 (.t 43), .ext 44 (.t 41) 0, .ext 45 (.t 41) 1, .mv 13 (.t 44), .mv 14 (.t 45)])
 (.seq (.seq (.r [.mv 46 (.t 13), .bin 47 .lss (.t 46) (.c (.i .i64 1)), .mv 48 (.t 47), .g 48 false (some 49) (.mv 49 (.t 13)), .g 48 false (some 50) (.bin 50 .gtr (.t 49) (.c (.i .i64 60))), .pick 51 (.t 48) (.c (.b true)) (.t 50), .mv 52 (.t 51), .g 52 false (some 53) (.mv 53 (.t 11)), .g 52 false (some 54) (.bin 54 .neq (.t 53) (.c (.i .i64 0))), .g 52 false (some 55) (.mv 55 (.t 54)), .g 55 true (some 56) (.mv 56 (.t 13)), .g 55 true (some 57) (.bin 57 .neq (.t 56) (.c (.i .i64 60))), .g 52 false (some 58) (.pick 58 (.t 55) (.t 57) (.c (.b false))), .pick 59 (.t 52) (.c (.b true)) (.t 58), .mv 60 (.t 59), .g 60 false (some 61) (.mv 61 (.t 10)), .g 60 false (some 62) (.mv 62 (.t 13)), .g 60 false (some 63) (.bin 63 .add (.c (.i .i64 4)) (.t 62)), .g 60 false (some 64) (.slc 64 (.t 61) (some (.t 63)) none 0), .g 60 false (some 65) (.mv 65 (.t 13)), .g 60 false (some 66) (.bin 66 .sub (.c (.i .i64 60)) (.t 65)), .g 60 false (some 67) (.call (some 67) 130 [((.t 66), .b 0)]), .g 60 false (some 68) (.bin 68 .neq (.t 64) (.t 67)), .pick 69 (.t 60) (.c (.b true)) (.t 68)])
 (.cond (.t 69) (.seq (.r [.bld 70 [.i .i64 0, .i .i64 0, .nil] [], .mv 4 (.c (.nil)), .st (.t 5) (.t 70) 3, .mv 6 (.c (.b false))])
 (.ret))
 (.skip)))
 (.seq (.r [.mv 71 (.t 8), .mv 72 (.t 10), .mv 73 (.t 13), .bin 74 .add (.c (.i .i64 4)) (.t 73), .slc 75 (.t 72) (some (.c (.i .i64 4))) (some (.t 74)) 0, .bin 76 .add (.t 71) (.t 75), .mv 8 (.t 76)])
 (.seq (.seq (.r [.mv 77 (.t 11), .bin 78 .eql (.t 77) (.c (.i .i64 0))])
 (.cond (.t 78) (.ex 0)
 (.skip)))
 (.r [.mv 79 (.t 11), .mv 9 (.t 79)])))))))))))))
 (.seq (.r [.mv 81 (.t 8), .call (some 82) 131 [((.t 81), .b 0)], .mv 80 (.t 82), .ext 83 (.t 80) 0, .ext 84 (.t 80) 1, .alc 15 [.i .i64 0, .i .i64 0, .nil], .st (.t 15) (.t 83) 3, .mv 16 (.t 84)])
 (.seq (.r [.mv 85 (.t 7), .ld 86 (.t 15) 3 true, .mv 87 (.t 16), .mv 4 (.t 85), .st (.t 5) (.t 86) 3, .mv 6 (.t 87)])
 (.ret)))))))

def f_p_spec_l02Reader_byte : Fd := .ir 1 34 [.t 2]
 (.seq (.r [.mv 2 (.c (.i .i64 0))])
 (.seq (.seq (.r [.mv 3 (.t 0), .nck 4 (.t 3), .fad 5 (.t 4) 1, .ld 6 (.t 5) 1 false, .mv 7 (.t 0), .nck 8 (.t 7), .fad 9 (.t 8) 0, .ld 10 (.t 9) 1 false, .len 11 true (.t 10), .bin 12 .geq (.t 6) (.t 11)])
 (.cond (.t 12) (.seq (.r [.mv 13 (.t 0), .nck 14 (.t 13), .fad 15 (.t 14) 2, .st (.t 15) (.c (.b true)) 1])
 (.seq (.r [.mv 2 (.c (.i .i64 0))])
 (.ret)))
 (.skip)))
 (.seq (.r [.mv 16 (.t 0), .nck 17 (.t 16), .fad 18 (.t 17) 1, .ld 19 (.t 18) 1 false, .bin 20 .add (.t 19) (.c (.i .i64 1)), .nck 21 (.t 16), .fad 22 (.t 21) 1, .st (.t 22) (.t 20) 1])
 (.seq (.r [.mv 23 (.t 0), .nck 24 (.t 23), .fad 25 (.t 24) 0, .ld 26 (.t 25) 1 false, .mv 27 (.t 0), .nck 28 (.t 27), .fad 29 (.t 28) 1, .ld 30 (.t 29) 1 false, .bin 31 .sub (.t 30) (.c (.i .i64 1)), .ixs 32 (.t 26) (.t 31), .cvi 33 .i64 (.t 32), .mv 2 (.t 33)])
 (.ret)))))

def f_p_spec_l02Reader_take : Fd := .ir 2 47 [.t 4]
 (.seq (.r [.mv 4 (.c (.s []))])
 (.seq (.seq (.r [.mv 5 (.t 1), .bin 6 .lss (.t 5) (.c (.i .i64 0)), .mv 7 (.t 6), .g 7 false (some 8) (.mv 8 (.t 1)), .g 7 false (some 9) (.mv 9 (.t 0)), .g 7 false (some 10) (.nck 10 (.t 9)), .g 7 false (some 11) (.fad 11 (.t 10) 0), .g 7 false (some 12) (.ld 12 (.t 11) 1 false), .g 7 false (some 13) (.len 13 true (.t 12)), .g 7 false (some 14) (.mv 14 (.t 0)), .g 7 false (some 15) (.nck 15 (.t 14)), .g 7 false (some 16) (.fad 16 (.t 15) 1), .g 7 false (some 17) (.ld 17 (.t 16) 1 false), .g 7 false (some 18) (.bin 18 .sub (.t 13) (.t 17)), .g 7 false (some 19) (.bin 19 .gtr (.t 8) (.t 18)), .pick 20 (.t 7) (.c (.b true)) (.t 19)])
 (.cond (.t 20) (.seq (.r [.mv 21 (.t 0), .nck 22 (.t 21), .fad 23 (.t 22) 2, .st (.t 23) (.c (.b true)) 1])
 (.seq (.r [.mv 4 (.c (.s []))])
 (.ret)))
 (.skip)))
 (.seq (.r [.mv 24 (.t 0), .nck 25 (.t 24), .fad 26 (.t 25) 1, .ld 27 (.t 26) 1 false, .mv 28 (.t 1), .bin 29 .add (.t 27) (.t 28), .nck 30 (.t 24), .fad 31 (.t 30) 1, .st (.t 31) (.t 29) 1])
 (.seq (.r [.mv 32 (.t 0), .nck 33 (.t 32), .fad 34 (.t 33) 0, .ld 35 (.t 34) 1 false, .mv 36 (.t 0), .nck 37 (.t 36), .fad 38 (.t 37) 1, .ld 39 (.t 38) 1 false, .mv 40 (.t 1), .bin 41 .sub (.t 39) (.t 40), .mv 42 (.t 0), .nck 43 (.t 42), .fad 44 (.t 43) 1, .ld 45 (.t 44) 1 false, .slc 46 (.t 35) (some (.t 41)) (some (.t 45)) 0, .mv 4 (.t 46)])
 (.ret)))))

def f_impl_ValidDisk_s1 : Fd := .ir 1 6 [.t 2]
 (.seq (.r [.mv 2 (.c (.b false))])
 (.seq (.r [.mv 3 (.t 0), .call (some 4) 80 [((.t 3), .b 0)], .un 5 .not (.t 4), .mv 2 (.t 5)])
 (.ret)))

def f_impl_ValidDisk_s2 : Fd := .ir 2 17 [.t 3]
 (.seq (.r [.box 2 (.t 0), .mv 3 (.c (.b false))])
 (.seq (.r [.fad 4 (.t 2) 0, .ld 5 (.t 4) 1 false, .fad 6 (.t 1) 0, .ld 7 (.t 6) 1 false, .len 8 false (.t 7), .call (some 9) 134 [((.t 5), .b 0), ((.t 8), .b 0)], .un 10 .not (.t 9), .mv 11 (.t 10), .g 11 false (some 12) (.fad 12 (.t 2) 1), .g 11 false (some 13) (.ld 13 (.t 12) 1 false), .g 11 false (some 14) (.call (some 14) 80 [((.t 13), .b 0)]), .g 11 false (some 15) (.un 15 .not (.t 14)), .pick 16 (.t 11) (.c (.b true)) (.t 15), .mv 3 (.t 16)])
 (.ret)))

def f_slices_ContainsFunc_impl_Put_impl_Put : Fd := .ir 2 9 [.t 4]
 (.seq (.r [.mv 4 (.c (.b false))])
 (.seq (.r [.mv 5 (.t 0), .mv 6 (.t 1), .call (some 7) 133 [((.t 5), .b 2), ((.t 6), .b 0)], .bin 8 .geq (.t 7) (.c (.i .i64 0)), .mv 4 (.t 8)])
 (.ret)))

def f_slices_IndexFunc_impl_Page_impl_Page : Fd := .ir 2 19 [.t 4]
 (.seq (.r [.mv 4 (.c (.i .i64 0))])
 (.seq (.seq (.r [.mv 6 (.t 0), .len 7 false (.t 6), .mv 8 (.c (.i .i64 0))])
 (.blk 0 (.loop [0, 1, 7, 8] [] [] (.seq (.r [.bin 9 .lss (.t 8) (.t 7)])
 (.seq (.cond (.t 9) (.skip)
 (.ex 0))
 (.seq (.blk 1 (.seq (.r [.mv 10 (.t 8), .mv 5 (.t 10)])
 (.seq (.r [.mv 11 (.t 1), .mv 12 (.t 0), .mv 13 (.t 5), .ixa 14 (.t 12) (.t 13) 2, .ld 15 (.t 14) 2 true, .callv (some 16) (.t 11) [((.t 15), .b 0)]])
 (.cond (.t 16) (.seq (.r [.mv 17 (.t 5), .mv 4 (.t 17)])
 (.ret))
 (.skip)))))
 (.r [.bin 18 .add (.t 8) (.c (.i .i64 1)), .mv 8 (.t 18)])))))))
 (.seq (.r [.mv 4 (.c (.i .i64 (-1)))])
 (.ret))))

def f_impl_AreaBlock : Fd := .ir 1 9 [.t 2]
 (.seq (.r [.box 1 (.t 0), .mv 2 (.c (.i .i64 0))])
 (.seq (.seq (.r [.ld 3 (.t 1) 4 true, .call (some 4) 79 [((.t 3), .b 0)], .un 5 .not (.t 4)])
 (.cond (.t 5) (.seq (.r [.mv 2 (.c (.i .i64 0))])
 (.ret))
 (.skip)))
 (.seq (.r [.fad 6 (.t 1) 1, .ld 7 (.t 6) 1 false, .bin 8 .add (.c (.i .i64 2)) (.t 7), .mv 2 (.t 8)])
 (.ret))))

def f_impl_tableBlocks : Fd := .ir 1 8 [.t 2]
 (.seq (.r [.mv 2 (.c (.i .i64 0))])
 (.seq (.r [.mv 3 (.t 0), .bin 4 .mul (.c (.i .i64 2)) (.t 3), .bin 5 .add (.t 4) (.c (.i .i64 64)), .bin 6 .sub (.t 5) (.c (.i .i64 1)), .bin 7 .quo (.t 6) (.c (.i .i64 64)), .mv 2 (.t 7)])
 (.ret)))

def f_slices_IndexFunc_string_string : Fd := .ir 2 19 [.t 4]
 (.seq (.r [.mv 4 (.c (.i .i64 0))])
 (.seq (.seq (.r [.mv 6 (.t 0), .len 7 false (.t 6), .mv 8 (.c (.i .i64 0))])
 (.blk 0 (.loop [0, 1, 7, 8] [] [] (.seq (.r [.bin 9 .lss (.t 8) (.t 7)])
 (.seq (.cond (.t 9) (.skip)
 (.ex 0))
 (.seq (.blk 1 (.seq (.r [.mv 10 (.t 8), .mv 5 (.t 10)])
 (.seq (.r [.mv 11 (.t 1), .mv 12 (.t 0), .mv 13 (.t 5), .ixa 14 (.t 12) (.t 13) 1, .ld 15 (.t 14) 1 false, .callv (some 16) (.t 11) [((.t 15), .b 0)]])
 (.cond (.t 16) (.seq (.r [.mv 17 (.t 5), .mv 4 (.t 17)])
 (.ret))
 (.skip)))))
 (.r [.bin 18 .add (.t 8) (.c (.i .i64 1)), .mv 8 (.t 18)])))))))
 (.seq (.r [.mv 4 (.c (.i .i64 (-1)))])
 (.ret))))

def f_impl_pageAt : Fd := .ir 2 11 [.t 4, .t 5]
 (.seq (.r [.mv 4 (.c (.i .i64 0)), .mv 5 (.c (.b false))])
 (.seq (.r [.mv 6 (.t 0), .mv 7 (.t 1), .call (some 8) 145 [((.t 6), .b 2), ((.t 7), .b 0), ((.c (.fn 146 [])), .b 0)], .ext 9 (.t 8) 0, .ext 10 (.t 8) 1, .mv 4 (.t 9), .mv 5 (.t 10)])
 (.ret)))

def f_p_impl_Pager_committed : Fd := .ir 2 31 [.t 4]
 (.seq (.r [.mv 4 (.c (.s []))])
 (.seq (.seq (.r [.mv 8 (.t 0), .nck 9 (.t 8), .fad 10 (.t 9) 10, .ld 11 (.t 10) 1 false, .mv 12 (.t 1), .call (some 13) 123 [((.t 11), .b 2), ((.t 12), .b 0)], .mv 7 (.t 13), .ext 14 (.t 7) 0, .ext 15 (.t 7) 1, .mv 5 (.t 14), .mv 6 (.t 15)])
 (.seq (.r [.mv 16 (.t 6)])
 (.cond (.t 16) (.seq (.r [.mv 17 (.t 0), .nck 18 (.t 17), .fad 19 (.t 18) 10, .ld 20 (.t 19) 1 false, .mv 21 (.t 5), .ixa 22 (.t 20) (.t 21) 2, .fad 23 (.t 22) 1, .ld 24 (.t 23) 1 false, .mv 4 (.t 24)])
 (.ret))
 (.skip))))
 (.seq (.r [.mv 25 (.t 0), .nck 26 (.t 25), .fad 27 (.t 26) 0, .ld 28 (.t 27) 4 true, .mv 29 (.t 1), .call (some 30) 147 [((.t 28), .b 0), ((.t 29), .b 0)], .mv 4 (.t 30)])
 (.ret))))

def f_slices_Index_int64_int64 : Fd := .ir 2 19 [.t 4]
 (.seq (.r [.mv 4 (.c (.i .i64 0))])
 (.seq (.seq (.r [.mv 6 (.t 0), .len 7 false (.t 6), .mv 8 (.c (.i .i64 0))])
 (.blk 0 (.loop [0, 1, 7, 8] [] [] (.seq (.r [.bin 9 .lss (.t 8) (.t 7)])
 (.seq (.cond (.t 9) (.skip)
 (.ex 0))
 (.seq (.blk 1 (.seq (.r [.mv 10 (.t 8), .mv 5 (.t 10)])
 (.seq (.r [.mv 11 (.t 1), .mv 12 (.t 0), .mv 13 (.t 5), .ixa 14 (.t 12) (.t 13) 1, .ld 15 (.t 14) 1 false, .bin 16 .eql (.t 11) (.t 15)])
 (.cond (.t 16) (.seq (.r [.mv 17 (.t 5), .mv 4 (.t 17)])
 (.ret))
 (.skip)))))
 (.r [.bin 18 .add (.t 8) (.c (.i .i64 1)), .mv 8 (.t 18)])))))))
 (.seq (.r [.mv 4 (.c (.i .i64 (-1)))])
 (.ret))))

def f_p_impl_Pager_chain : Fd := .ir 2 55 [.t 4, .c 5 3 true, .t 6]
 (.seq (.r [.mv 4 (.c (.nil)), .alc 5 [.i .i64 0, .i .i64 0, .nil], .mv 6 (.c (.b false))])
 (.seq (.r [.mv 7 (.c (.nil))])
 (.seq (.r [.alc 8 [.bz, .nil]])
 (.seq (.seq (.r [.mv 9 (.c (.b true))])
 (.blk 0 (.loop [0, 1, 5, 7, 8] [(7, 1)] [(1, 1, 5001)] (.seq (.seq (.r [.mv 13 (.t 1), .bin 14 .neq (.t 13) (.c (.i .i64 0)), .mv 15 (.t 14), .g 15 false (some 16) (.mv 16 (.t 7)), .g 15 false (some 17) (.len 17 false (.t 16)), .g 15 false (some 18) (.bin 18 .eql (.t 17) (.c (.i .i64 0))), .pick 19 (.t 15) (.c (.b true)) (.t 18)])
 (.cond (.t 19) (.skip)
 (.ex 0)))
 (.blk 1 (.seq (.seq (.r [.mv 20 (.t 0), .mv 21 (.t 1), .call (some 22) 148 [((.t 20), .b 12), ((.t 21), .b 0)], .un 23 .not (.t 22), .mv 24 (.t 23), .g 24 false (some 25) (.mv 25 (.t 7)), .g 24 false (some 26) (.mv 26 (.t 1)), .g 24 false (some 27) (.call (some 27) 96 [((.t 25), .b 1), ((.t 26), .b 0)]), .pick 28 (.t 24) (.c (.b true)) (.t 27)])
 (.cond (.t 28) (.seq (.r [.bld 29 [.i .i64 0, .i .i64 0, .nil] [], .mv 4 (.c (.nil)), .st (.t 5) (.t 29) 3, .mv 6 (.c (.b false))])
 (.ret))
 (.skip)))
 (.seq (.r [.mv 30 (.t 7), .mv 31 (.t 1), .bsl 32 1 [(.t 31)], .app 33 (.t 30) (.t 32) 1, .mv 7 (.t 33)])
 (.seq (.r [.mv 10 (.c (.s []))])
 (.seq (.seq (.r [.mv 35 (.t 0), .mv 36 (.t 1), .call (some 37) 94 [((.t 35), .b 12), ((.t 36), .b 0)], .call (some 38) 149 [((.t 37), .b 0)], .mv 34 (.t 38), .ext 39 (.t 34) 0, .ext 40 (.t 34) 1, .ext 41 (.t 34) 2, .mv 1 (.t 39), .mv 10 (.t 40), .mv 9 (.t 41)])
 (.seq (.r [.mv 42 (.t 9), .un 43 .not (.t 42)])
 (.cond (.t 43) (.seq (.r [.bld 44 [.i .i64 0, .i .i64 0, .nil] [], .mv 4 (.c (.nil)), .st (.t 5) (.t 44) 3, .mv 6 (.c (.b false))])
 (.ret))
 (.skip))))
 (.r [.mv 45 (.t 10), .call (some 46) 150 [((.t 8), .m 0), ((.t 45), .b 0)]]))))))))))
 (.seq (.r [.call (some 48) 151 [((.t 8), .m 0)], .call (some 49) 152 [((.t 48), .b 0)], .mv 47 (.t 49), .ext 50 (.t 47) 0, .ext 51 (.t 47) 1, .alc 11 [.i .i64 0, .i .i64 0, .nil], .st (.t 11) (.t 50) 3, .mv 12 (.t 51)])
 (.seq (.r [.mv 52 (.t 7), .ld 53 (.t 11) 3 true, .mv 54 (.t 12), .mv 4 (.t 52), .st (.t 5) (.t 53) 3, .mv 6 (.t 54)])
 (.ret)))))))

def f_spec_l11Find : Fd := .ir 2 20 [.t 4]
 (.seq (.r [.mv 4 (.c (.i .i64 0))])
 (.seq (.seq (.r [.mv 5 (.c (.i .i64 0))])
 (.blk 0 (.loop [0, 1, 5] [] [] (.seq (.seq (.r [.mv 6 (.t 5), .mv 7 (.t 0), .len 8 false (.t 7), .bin 9 .lss (.t 6) (.t 8)])
 (.cond (.t 9) (.skip)
 (.ex 0)))
 (.seq (.blk 1 (.seq (.r [.mv 12 (.t 0), .mv 13 (.t 5), .ixa 14 (.t 12) (.t 13) 2, .fad 15 (.t 14) 0, .ld 16 (.t 15) 1 false, .mv 17 (.t 1), .bin 18 .eql (.t 16) (.t 17)])
 (.cond (.t 18) (.seq (.r [.mv 19 (.t 5), .mv 4 (.t 19)])
 (.ret))
 (.skip))))
 (.r [.mv 10 (.t 5), .bin 11 .add (.t 10) (.c (.i .i64 1)), .mv 5 (.t 11)]))))))
 (.seq (.r [.mv 4 (.c (.i .i64 (-1)))])
 (.ret))))

def f_spec_l09Read : Fd := .ir 2 41 [.t 4]
 (.seq (.r [.mv 4 (.c (.s []))])
 (.seq (.seq (.r [.mv 6 (.t 0), .nck 7 (.t 6), .fad 8 (.t 7) 1, .ld 9 (.t 8) 1 false, .len 10 false (.t 9), .bin 11 .sub (.t 10) (.c (.i .i64 1)), .mv 5 (.t 11)])
 (.blk 0 (.loop [0, 1, 5] [] [] (.seq (.seq (.r [.mv 12 (.t 5), .bin 13 .geq (.t 12) (.c (.i .i64 0))])
 (.cond (.t 13) (.skip)
 (.ex 0)))
 (.seq (.blk 1 (.seq (.r [.mv 16 (.t 0), .nck 17 (.t 16), .fad 18 (.t 17) 1, .ld 19 (.t 18) 1 false, .mv 20 (.t 5), .ixa 21 (.t 19) (.t 20) 2, .fad 22 (.t 21) 0, .ld 23 (.t 22) 1 false, .mv 24 (.t 1), .bin 25 .eql (.t 23) (.t 24)])
 (.cond (.t 25) (.seq (.r [.mv 26 (.t 0), .nck 27 (.t 26), .fad 28 (.t 27) 1, .ld 29 (.t 28) 1 false, .mv 30 (.t 5), .ixa 31 (.t 29) (.t 30) 2, .fad 32 (.t 31) 1, .ld 33 (.t 32) 1 false, .mv 4 (.t 33)])
 (.ret))
 (.skip))))
 (.r [.mv 14 (.t 5), .bin 15 .sub (.t 14) (.c (.i .i64 1)), .mv 5 (.t 15)]))))))
 (.seq (.r [.mv 34 (.t 0), .nck 35 (.t 34), .fad 36 (.t 35) 0, .ld 37 (.t 36) 1 false, .mv 38 (.t 1), .ixa 39 (.t 37) (.t 38) 1, .ld 40 (.t 39) 1 false, .mv 4 (.t 40)])
 (.ret))))

def f_spec_l14Used : Fd := .ir 2 14 [.t 4]
 (.seq (.r [.mv 4 (.c (.b false))])
 (.seq (.r [.mv 5 (.t 0), .mv 6 (.t 1), .call (some 7) 153 [((.t 5), .b 12), ((.t 6), .b 0), ((.c (.i .i64 1)), .b 0)], .mv 8 (.t 7), .g 8 true (some 9) (.mv 9 (.t 0)), .g 8 true (some 10) (.call (some 10) 71 [((.t 9), .b 12)]), .g 8 true (some 11) (.mv 11 (.t 1)), .g 8 true (some 12) (.call (some 12) 154 [((.t 10), .b 0), ((.t 11), .b 0)]), .pick 13 (.t 8) (.t 12) (.c (.b false)), .mv 4 (.t 13)])
 (.ret)))

def f_spec_l03Zeros : Fd := .ir 1 7 [.t 2]
 (.seq (.r [.mv 2 (.c (.s []))])
 (.seq (.r [.mv 3 (.t 0), .call (some 4) 155 [((.t 3), .b 0), ((.c (.i .i64 0)), .b 0)], .mks 5 1 (.i .u8 0) (.t 4) (.t 4), .cvs 6 (.t 5), .mv 2 (.t 6)])
 (.ret)))

def f_spec_DecodeHeader : Fd := .ir 1 74 [.c 2 3 true, .t 3]
 (.seq (.r [.alc 2 [.i .i64 0, .i .i64 0, .nil], .mv 3 (.c (.b false))])
 (.seq (.r [.mv 8 (.t 0), .bld 9 [.s [], .i .i64 0, .b false] [(0, 1, (.t 8))], .box 10 (.t 9), .mv 4 (.t 10)])
 (.seq (.r [.mv 11 (.t 4), .call (some 12) 103 [((.t 11), .m 3)], .bld 13 [.i .i64 0, .i .i64 0, .nil] [(0, 1, (.t 12))], .alc 5 [.i .i64 0, .i .i64 0, .nil], .st (.t 5) (.t 13) 3])
 (.seq (.r [.mv 14 (.t 4), .call (some 15) 103 [((.t 14), .m 3)], .fad 16 (.t 5) 1, .st (.t 16) (.t 15) 1])
 (.seq (.r [.fad 17 (.t 5) 1, .ck (.sb (.t 17) (.t 5)) (.ld 18 (.t 17) 1 false), .mv 19 (.t 4), .ck (.dj [.t 5]) (.call (some 20) 103 [((.t 19), .m 3)]), .bin 21 .mul (.c (.i .i64 256)) (.t 20), .bin 22 .add (.t 18) (.t 21), .fad 23 (.t 5) 1, .st (.t 23) (.t 22) 1])
 (.seq (.seq (.r [.mv 24 (.t 4), .call (some 25) 103 [((.t 24), .m 3)], .mv 6 (.t 25)])
 (.blk 0 (.loop [0, 2, 4, 5, 6] [] [(2, 2, 3)] (.seq (.seq (.r [.mv 26 (.t 6), .bin 27 .gtr (.t 26) (.c (.i .i64 0)), .mv 28 (.t 27), .g 28 true (some 29) (.mv 29 (.t 4)), .g 28 true (some 30) (.nck 30 (.t 29)), .g 28 true (some 31) (.fad 31 (.t 30) 2), .g 28 true (some 32) (.ld 32 (.t 31) 1 false), .g 28 true (some 33) (.un 33 .not (.t 32)), .pick 34 (.t 28) (.t 33) (.c (.b false))])
 (.cond (.t 34) (.skip)
 (.ex 0)))
 (.seq (.blk 1 (.seq (.r [.mv 37 (.t 4), .call (some 38) 103 [((.t 37), .m 3)], .bld 39 [.i .i64 0, .i .i64 0, .s []] [(0, 1, (.t 38))], .alc 7 [.i .i64 0, .i .i64 0, .s []], .st (.t 7) (.t 39) 3])
 (.seq (.r [.mv 40 (.t 4), .call (some 41) 103 [((.t 40), .m 3)], .fad 42 (.t 7) 1, .st (.t 42) (.t 41) 1])
 (.seq (.r [.mv 43 (.t 4), .mv 44 (.t 4), .call (some 45) 103 [((.t 44), .m 3)], .call (some 46) 104 [((.t 43), .m 3), ((.t 45), .b 0)], .fad 47 (.t 7) 2, .st (.t 47) (.t 46) 1])
 (.r [.fad 48 (.t 5) 2, .ld 49 (.t 48) 1 false, .ld 50 (.t 7) 3 true, .bsl 51 3 [(.t 50)], .app 52 (.t 49) (.t 51) 3, .fad 53 (.t 5) 2, .st (.t 53) (.t 52) 1])))))
 (.r [.mv 35 (.t 6), .bin 36 .sub (.t 35) (.c (.i .i64 1)), .mv 6 (.t 36)]))))))
 (.seq (.seq (.r [.mv 54 (.t 4), .nck 55 (.t 54), .fad 56 (.t 55) 2, .ld 57 (.t 56) 1 false, .mv 58 (.t 57), .g 58 false (some 59) (.mv 59 (.t 4)), .g 58 false (some 60) (.nck 60 (.t 59)), .g 58 false (some 61) (.fad 61 (.t 60) 1), .g 58 false (some 62) (.ld 62 (.t 61) 1 false), .g 58 false (some 63) (.mv 63 (.t 0)), .g 58 false (some 64) (.len 64 true (.t 63)), .g 58 false (some 65) (.bin 65 .neq (.t 62) (.t 64)), .pick 66 (.t 58) (.c (.b true)) (.t 65), .mv 67 (.t 66), .g 67 false (some 68) (.ld 68 (.t 5) 3 true), .g 67 false (some 69) (.call (some 69) 156 [((.t 68), .b 0)]), .g 67 false (some 70) (.un 70 .not (.t 69)), .pick 71 (.t 67) (.c (.b true)) (.t 70)])
 (.cond (.t 71) (.seq (.r [.bld 72 [.i .i64 0, .i .i64 0, .nil] [], .st (.t 2) (.t 72) 3, .mv 3 (.c (.b false))])
 (.ret))
 (.skip)))
 (.seq (.r [.ld 73 (.t 5) 3 true, .st (.t 2) (.t 73) 3, .mv 3 (.c (.b true))])
 (.ret)))))))))

def f_slices_IndexFunc_impl_Put_impl_Put : Fd := .ir 2 19 [.t 4]
 (.seq (.r [.mv 4 (.c (.i .i64 0))])
 (.seq (.seq (.r [.mv 6 (.t 0), .len 7 false (.t 6), .mv 8 (.c (.i .i64 0))])
 (.blk 0 (.loop [0, 1, 7, 8] [] [] (.seq (.r [.bin 9 .lss (.t 8) (.t 7)])
 (.seq (.cond (.t 9) (.skip)
 (.ex 0))
 (.seq (.blk 1 (.seq (.r [.mv 10 (.t 8), .mv 5 (.t 10)])
 (.seq (.r [.mv 11 (.t 1), .mv 12 (.t 0), .mv 13 (.t 5), .ixa 14 (.t 12) (.t 13) 2, .ld 15 (.t 14) 2 true, .callv (some 16) (.t 11) [((.t 15), .b 0)]])
 (.cond (.t 16) (.seq (.r [.mv 17 (.t 5), .mv 4 (.t 17)])
 (.ret))
 (.skip)))))
 (.r [.bin 18 .add (.t 8) (.c (.i .i64 1)), .mv 8 (.t 18)])))))))
 (.seq (.r [.mv 4 (.c (.i .i64 (-1)))])
 (.ret))))

def f_impl_isIndex : Fd := .ir 2 9 [.t 4]
 (.seq (.r [.mv 4 (.c (.b false))])
 (.seq (.r [.mv 5 (.t 0), .mv 6 (.t 1), .bin 7 .sub (.t 6) (.c (.i .i64 1)), .call (some 8) 50 [((.t 5), .b 0), ((.c (.i .i64 0)), .b 0), ((.t 7), .b 0)], .mv 4 (.t 8)])
 (.ret)))

def f_slices_ContainsFunc_impl_Message_impl_Message : Fd := .ir 2 9 [.t 4]
 (.seq (.r [.mv 4 (.c (.b false))])
 (.seq (.r [.mv 5 (.t 0), .mv 6 (.t 1), .call (some 7) 158 [((.t 5), .b 3), ((.t 6), .b 0)], .bin 8 .geq (.t 7) (.c (.i .i64 0)), .mv 4 (.t 8)])
 (.ret)))

def f_p_impl_decoder_byte : Fd := .ir 1 5 [.t 2]
 (.seq (.r [.mv 2 (.c (.i .i64 0))])
 (.seq (.r [.mv 3 (.t 0), .call (some 4) 159 [((.t 3), .m 2), ((.c (.i .i64 1)), .b 0)], .mv 2 (.t 4)])
 (.ret)))

def f_slices_BinarySearchFunc_impl_Page_impl_Page_int64 : Fd := .ir 3 49 [.t 6, .t 7]
 (.seq (.r [.mv 6 (.c (.i .i64 0)), .mv 7 (.c (.b false))])
 (.seq (.r [.mv 12 (.t 0), .len 13 false (.t 12), .mv 8 (.t 13)])
 (.seq (.r [.mv 14 (.t 8), .mv 9 (.c (.i .i64 0)), .mv 10 (.t 14)])
 (.seq (.blk 0 (.loop [0, 1, 2, 8, 9, 10] [] [] (.seq (.seq (.r [.mv 15 (.t 9), .mv 16 (.t 10), .bin 17 .lss (.t 15) (.t 16)])
 (.cond (.t 17) (.skip)
 (.ex 0)))
 (.blk 1 (.seq (.r [.mv 18 (.t 9), .mv 19 (.t 10), .bin 20 .add (.t 18) (.t 19), .cvi 21 .u64 (.t 20), .bin 22 .shr (.t 21) (.c (.i .u64 1)), .cvi 23 .i64 (.t 22), .mv 11 (.t 23)])
 (.seq (.r [.mv 24 (.t 2), .mv 25 (.t 0), .mv 26 (.t 11), .ixa 27 (.t 25) (.t 26) 2, .ld 28 (.t 27) 2 true, .mv 29 (.t 1), .callv (some 30) (.t 24) [((.t 28), .b 0), ((.t 29), .b 0)], .bin 31 .lss (.t 30) (.c (.i .i64 0))])
 (.cond (.t 31) (.r [.mv 32 (.t 11), .bin 33 .add (.t 32) (.c (.i .i64 1)), .mv 9 (.t 33)])
 (.r [.mv 34 (.t 11), .mv 10 (.t 34)]))))))))
 (.seq (.r [.mv 35 (.t 9), .mv 36 (.t 9), .mv 37 (.t 8), .bin 38 .lss (.t 36) (.t 37), .mv 39 (.t 38), .g 39 true (some 40) (.mv 40 (.t 2)), .g 39 true (some 41) (.mv 41 (.t 0)), .g 39 true (some 42) (.mv 42 (.t 9)), .g 39 true (some 43) (.ixa 43 (.t 41) (.t 42) 2), .g 39 true (some 44) (.ld 44 (.t 43) 2 true), .g 39 true (some 45) (.mv 45 (.t 1)), .g 39 true (some 46) (.callv (some 46) (.t 40) [((.t 44), .b 0), ((.t 45), .b 0)]), .g 39 true (some 47) (.bin 47 .eql (.t 46) (.c (.i .i64 0))), .pick 48 (.t 39) (.t 47) (.c (.b false)), .mv 6 (.t 35), .mv 7 (.t 48)])
 (.ret))))))

def f_impl_pageAt_s1 : Fd := .ir 2 9 [.t 4]
 (.seq (.r [.box 2 (.t 0), .mv 4 (.c (.i .i64 0))])
 (.seq (.r [.fad 5 (.t 2) 0, .ld 6 (.t 5) 1 false, .mv 7 (.t 1), .call (some 8) 164 [((.t 6), .b 0), ((.t 7), .b 0)], .mv 4 (.t 8)])
 (.ret)))

def f_p_impl_Pager_allocated : Fd := .ir 2 23 [.t 4]
 (.seq (.r [.mv 4 (.c (.b false))])
 (.seq (.r [.mv 5 (.t 0), .mv 6 (.t 1), .call (some 7) 166 [((.t 5), .b 12), ((.t 6), .b 0), ((.c (.i .i64 1)), .b 0)], .mv 8 (.t 7), .g 8 true (some 9) (.mv 9 (.t 0)), .g 8 true (some 10) (.mv 10 (.t 0)), .g 8 true (some 11) (.call (some 11) 93 [((.t 10), .b 12)]), .g 8 true (some 12) (.call (some 12) 94 [((.t 9), .b 12), ((.t 11), .b 0)]), .g 8 true (some 13) (.mv 13 (.t 1)), .g 8 true (some 14) (.bin 14 .quo (.t 13) (.c (.i .i64 8))), .g 8 true (some 15) (.bin 15 .add (.c (.i .i64 4)) (.t 14)), .g 8 true (some 16) (.ixs 16 (.t 12) (.t 15)), .g 8 true (some 17) (.mv 17 (.t 1)), .g 8 true (some 18) (.bin 18 .rem (.t 17) (.c (.i .i64 8))), .g 8 true (some 19) (.bin 19 .shr (.t 16) (.t 18)), .g 8 true (some 20) (.bin 20 .and (.t 19) (.c (.i .u8 1))), .g 8 true (some 21) (.bin 21 .eql (.t 20) (.c (.i .u8 1))), .pick 22 (.t 8) (.t 21) (.c (.b false)), .mv 4 (.t 22)])
 (.ret)))

def f_impl_chainBytes : Fd := .ir 1 38 [.t 2, .t 3, .t 4]
 (.seq (.r [.mv 2 (.c (.i .i64 0)), .mv 3 (.c (.s [])), .mv 4 (.c (.b false))])
 (.seq (.r [.mv 9 (.t 0), .bld 10 [.s [], .b false] [(0, 1, (.t 9))], .box 11 (.t 10), .mv 5 (.t 11)])
 (.seq (.r [.mv 12 (.t 5), .call (some 13) 159 [((.t 12), .m 2), ((.c (.i .i64 2)), .b 0)], .mv 14 (.t 5), .call (some 15) 159 [((.t 14), .m 2), ((.c (.i .i64 2)), .b 0)], .mv 6 (.t 13), .mv 7 (.t 15)])
 (.seq (.seq (.r [.mv 16 (.t 7), .call (some 17) 50 [((.t 16), .b 0), ((.c (.i .i64 1)), .b 0), ((.c (.i .i64 60)), .b 0)], .un 18 .not (.t 17)])
 (.cond (.t 18) (.seq (.r [.mv 2 (.c (.i .i64 0)), .mv 3 (.c (.s [])), .mv 4 (.c (.b false))])
 (.ret))
 (.skip)))
 (.seq (.r [.mv 19 (.t 5), .mv 20 (.t 7), .call (some 21) 160 [((.t 19), .m 2), ((.t 20), .b 0)], .mv 8 (.t 21)])
 (.seq (.r [.mv 22 (.t 6), .mv 23 (.t 8), .mv 24 (.t 5), .nck 25 (.t 24), .fad 26 (.t 25) 0, .ld 27 (.t 26) 1 false, .call (some 28) 167 [((.t 27), .b 0)], .bin 29 .eql (.t 28) (.c (.s [])), .mv 30 (.t 29), .g 30 true (some 31) (.mv 31 (.t 7)), .g 30 true (some 32) (.bin 32 .eql (.t 31) (.c (.i .i64 60))), .g 30 true (some 33) (.mv 33 (.t 32)), .g 33 false (some 34) (.mv 34 (.t 6)), .g 33 false (some 35) (.bin 35 .eql (.t 34) (.c (.i .i64 0))), .g 30 true (some 36) (.pick 36 (.t 33) (.c (.b true)) (.t 35)), .pick 37 (.t 30) (.t 36) (.c (.b false)), .mv 2 (.t 22), .mv 3 (.t 23), .mv 4 (.t 37)])
 (.ret)))))))

def f_p_strings_Builder_WriteString : Fd := .ir 2 19 [.t 4, .t 5]
 (.seq (.r [.mv 4 (.c (.i .i64 0)), .mv 5 (.c (.no))])
 (.seq (.r [.mv 6 (.t 0), .call (some 7) 178 [((.t 6), .m 2)]])
 (.seq (.r [.mv 8 (.t 0), .mv 9 (.t 0), .nck 10 (.t 9), .fad 11 (.t 10) 1, .ld 12 (.t 11) 1 false, .mv 13 (.t 1), .apb 14 (.t 12) (.t 13), .nck 15 (.t 8), .fad 16 (.t 15) 1, .st (.t 16) (.t 14) 1])
 (.seq (.r [.mv 17 (.t 1), .len 18 true (.t 17), .mv 4 (.t 18), .mv 5 (.c (.no))])
 (.ret)))))

def f_impl_DecodeHeader : Fd := .ir 1 60 [.c 2 3 true, .t 3]
 (.seq (.r [.alc 2 [.i .i64 0, .i .i64 0, .nil], .mv 3 (.c (.b false))])
 (.seq (.r [.mv 7 (.t 0), .bld 8 [.s [], .b false] [(0, 1, (.t 7))], .box 9 (.t 8), .mv 4 (.t 9)])
 (.seq (.r [.mv 10 (.t 4), .call (some 11) 139 [((.t 10), .m 2)], .mv 12 (.t 4), .call (some 13) 159 [((.t 12), .m 2), ((.c (.i .i64 2)), .b 0)], .bld 14 [.i .i64 0, .i .i64 0, .nil] [(0, 1, (.t 11)), (1, 1, (.t 13))], .alc 5 [.i .i64 0, .i .i64 0, .nil], .st (.t 5) (.t 14) 3])
 (.seq (.seq (.r [.mv 15 (.t 4), .call (some 16) 139 [((.t 15), .m 2)], .mv 6 (.t 16)])
 (.blk 0 (.loop [2, 4, 5, 6] [] [(2, 2, 3)] (.seq (.seq (.r [.mv 17 (.t 6), .bin 18 .gtr (.t 17) (.c (.i .i64 0)), .mv 19 (.t 18), .g 19 true (some 20) (.mv 20 (.t 4)), .g 19 true (some 21) (.nck 21 (.t 20)), .g 19 true (some 22) (.fad 22 (.t 21) 1), .g 19 true (some 23) (.ld 23 (.t 22) 1 false), .g 19 true (some 24) (.un 24 .not (.t 23)), .pick 25 (.t 19) (.t 24) (.c (.b false))])
 (.cond (.t 25) (.skip)
 (.ex 0)))
 (.seq (.blk 1 (.r [.fad 28 (.t 5) 2, .ck (.sb (.t 28) (.t 5)) (.ld 29 (.t 28) 1 false), .mv 30 (.t 4), .ck (.dj [.t 5]) (.call (some 31) 139 [((.t 30), .m 2)]), .mv 32 (.t 4), .ck (.dj [.t 5]) (.call (some 33) 139 [((.t 32), .m 2)]), .mv 34 (.t 4), .mv 35 (.t 4), .ck (.dj [.t 5]) (.call (some 36) 139 [((.t 35), .m 2)]), .ck (.dj [.t 5]) (.call (some 37) 160 [((.t 34), .m 2), ((.t 36), .b 0)]), .bld 38 [.i .i64 0, .i .i64 0, .s []] [(0, 1, (.t 31)), (1, 1, (.t 33)), (2, 1, (.t 37))], .bsl 39 3 [(.t 38)], .app 40 (.t 29) (.t 39) 3, .fad 41 (.t 5) 2, .st (.t 41) (.t 40) 1]))
 (.r [.mv 26 (.t 6), .bin 27 .sub (.t 26) (.c (.i .i64 1)), .mv 6 (.t 27)]))))))
 (.seq (.seq (.r [.mv 42 (.t 4), .nck 43 (.t 42), .fad 44 (.t 43) 1, .ld 45 (.t 44) 1 false, .mv 46 (.t 45), .g 46 false (some 47) (.mv 47 (.t 4)), .g 46 false (some 48) (.nck 48 (.t 47)), .g 46 false (some 49) (.fad 49 (.t 48) 0), .g 46 false (some 50) (.ld 50 (.t 49) 1 false), .g 46 false (some 51) (.bin 51 .neq (.t 50) (.c (.s []))), .pick 52 (.t 46) (.c (.b true)) (.t 51), .mv 53 (.t 52), .g 53 false (some 54) (.ld 54 (.t 5) 3 true), .g 53 false (some 55) (.call (some 55) 168 [((.t 54), .b 0)]), .g 53 false (some 56) (.un 56 .not (.t 55)), .pick 57 (.t 53) (.c (.b true)) (.t 56)])
 (.cond (.t 57) (.seq (.r [.bld 58 [.i .i64 0, .i .i64 0, .nil] [], .st (.t 2) (.t 58) 3, .mv 3 (.c (.b false))])
 (.ret))
 (.skip)))
 (.seq (.r [.ld 59 (.t 5) 3 true, .st (.t 2) (.t 59) 3, .mv 3 (.c (.b true))])
 (.ret)))))))

def f_spec_l13Data : Fd := .ir 3 32 [.t 6]
 (.seq (.r [.mv 6 (.c (.b false))])
 (.seq (.r [.mv 7 (.t 2), .call (some 8) 39 [((.t 7), .b 0), ((.c (.i .i64 1)), .b 0), ((.c (.i .i64 256)), .b 0)], .mv 9 (.t 8), .g 9 true (some 10) (.mv 10 (.t 1)), .g 9 true (some 11) (.mv 11 (.t 0)), .g 9 true (some 12) (.call (some 12) 169 [((.t 11), .b 12)]), .g 9 true (some 13) (.mv 13 (.t 0)), .g 9 true (some 14) (.nck 14 (.t 13)), .g 9 true (some 15) (.fad 15 (.t 14) 4), .g 9 true (some 16) (.fad 16 (.t 15) 0), .g 9 true (some 17) (.ck (.np (.t 16)) (.ld 17 (.t 16) 1 false)), .g 9 true (some 18) (.bin 18 .sub (.t 17) (.c (.i .i64 1))), .g 9 true (some 19) (.call (some 19) 39 [((.t 10), .b 0), ((.t 12), .b 0), ((.t 18), .b 0)]), .pick 20 (.t 9) (.t 19) (.c (.b false)), .mv 21 (.t 20), .g 21 true (some 22) (.mv 22 (.t 1)), .g 21 true (some 23) (.mv 23 (.t 2)), .g 21 true (some 24) (.bin 24 .add (.t 22) (.t 23)), .g 21 true (some 25) (.mv 25 (.t 0)), .g 21 true (some 26) (.nck 26 (.t 25)), .g 21 true (some 27) (.fad 27 (.t 26) 4), .g 21 true (some 28) (.fad 28 (.t 27) 0), .g 21 true (some 29) (.ld 29 (.t 28) 1 false), .g 21 true (some 30) (.bin 30 .leq (.t 24) (.t 29)), .pick 31 (.t 21) (.t 30) (.c (.b false)), .mv 6 (.t 31)])
 (.ret)))

def f_spec_l13Bit : Fd := .ir 2 16 [.t 4]
 (.seq (.r [.mv 4 (.c (.b false))])
 (.seq (.r [.mv 5 (.t 0), .mv 6 (.t 1), .bin 7 .quo (.t 6) (.c (.i .i64 8)), .bin 8 .add (.c (.i .i64 4)) (.t 7), .ixs 9 (.t 5) (.t 8), .mv 10 (.t 1), .bin 11 .rem (.t 10) (.c (.i .i64 8)), .cvi 12 .u64 (.t 11), .bin 13 .shr (.t 9) (.t 12), .bin 14 .and (.t 13) (.c (.i .u8 1)), .bin 15 .eql (.t 14) (.c (.i .u8 1)), .mv 4 (.t 15)])
 (.ret)))

def f_spec_l00Max : Fd := .ir 2 10 [.t 4]
 (.seq (.r [.mv 4 (.c (.i .i64 0))])
 (.seq (.seq (.r [.mv 5 (.t 0), .mv 6 (.t 1), .bin 7 .gtr (.t 5) (.t 6)])
 (.cond (.t 7) (.seq (.r [.mv 8 (.t 0), .mv 4 (.t 8)])
 (.ret))
 (.skip)))
 (.seq (.r [.mv 9 (.t 1), .mv 4 (.t 9)])
 (.ret))))

def f_spec_l14Ok : Fd := .ir 1 49 [.t 2]
 (.seq (.r [.box 1 (.t 0), .mv 2 (.c (.b false))])
 (.seq (.seq (.r [.fad 5 (.t 1) 0, .ld 6 (.t 5) 1 false, .call (some 7) 39 [((.t 6), .b 0), ((.c (.i .i64 1)), .b 0), ((.c (.i .i64 3)), .b 0)], .un 8 .not (.t 7), .mv 9 (.t 8), .g 9 false (some 10) (.fad 10 (.t 1) 1), .g 9 false (some 11) (.ld 11 (.t 10) 1 false), .g 9 false (some 12) (.call (some 12) 39 [((.t 11), .b 0), ((.c (.i .i64 0)), .b 0), ((.c (.i .i64 1000)), .b 0)]), .g 9 false (some 13) (.un 13 .not (.t 12)), .pick 14 (.t 9) (.c (.b true)) (.t 13), .mv 15 (.t 14), .g 15 false (some 16) (.fad 16 (.t 1) 2), .g 15 false (some 17) (.ld 17 (.t 16) 1 false), .g 15 false (some 18) (.len 18 false (.t 17)), .g 15 false (some 19) (.bin 19 .gtr (.t 18) (.c (.i .i64 24))), .pick 20 (.t 15) (.c (.b true)) (.t 19)])
 (.cond (.t 20) (.seq (.r [.mv 2 (.c (.b false))])
 (.ret))
 (.skip)))
 (.seq (.seq (.r [.mv 3 (.c (.i .i64 0))])
 (.blk 0 (.loop [1, 3] [] [] (.seq (.seq (.r [.mv 21 (.t 3), .fad 22 (.t 1) 2, .ld 23 (.t 22) 1 false, .len 24 false (.t 23), .bin 25 .lss (.t 21) (.t 24)])
 (.cond (.t 25) (.skip)
 (.ex 0)))
 (.seq (.blk 1 (.seq (.r [.fad 28 (.t 1) 2, .ld 29 (.t 28) 1 false, .mv 30 (.t 3), .ixa 31 (.t 29) (.t 30) 3, .ld 32 (.t 31) 3 true, .alc 4 [.i .i64 0, .i .i64 0, .s []], .st (.t 4) (.t 32) 3])
 (.seq (.r [.fad 33 (.t 4) 0, .ld 34 (.t 33) 1 false, .call (some 35) 39 [((.t 34), .b 0), ((.c (.i .i64 1)), .b 0), ((.c (.i .i64 9)), .b 0)], .un 36 .not (.t 35), .mv 37 (.t 36), .g 37 false (some 38) (.fad 38 (.t 4) 1), .g 37 false (some 39) (.ld 39 (.t 38) 1 false), .g 37 false (some 40) (.call (some 40) 39 [((.t 39), .b 0), ((.c (.i .i64 0)), .b 0), ((.c (.i .i64 255)), .b 0)]), .g 37 false (some 41) (.un 41 .not (.t 40)), .pick 42 (.t 37) (.c (.b true)) (.t 41), .mv 43 (.t 42), .g 43 false (some 44) (.fad 44 (.t 4) 2), .g 43 false (some 45) (.ld 45 (.t 44) 1 false), .g 43 false (some 46) (.len 46 true (.t 45)), .g 43 false (some 47) (.bin 47 .gtr (.t 46) (.c (.i .i64 200))), .pick 48 (.t 43) (.c (.b true)) (.t 47)])
 (.cond (.t 48) (.seq (.r [.mv 2 (.c (.b false))])
 (.ret))
 (.skip)))))
 (.r [.mv 26 (.t 3), .bin 27 .add (.t 26) (.c (.i .i64 1)), .mv 3 (.t 27)]))))))
 (.seq (.r [.mv 2 (.c (.b true))])
 (.ret)))))

def f_slices_IndexFunc_impl_Message_impl_Message : Fd := .ir 2 19 [.t 4]
 (.seq (.r [.mv 4 (.c (.i .i64 0))])
 (.seq (.seq (.r [.mv 6 (.t 0), .len 7 false (.t 6), .mv 8 (.c (.i .i64 0))])
 (.blk 0 (.loop [0, 1, 7, 8] [] [] (.seq (.r [.bin 9 .lss (.t 8) (.t 7)])
 (.seq (.cond (.t 9) (.skip)
 (.ex 0))
 (.seq (.blk 1 (.seq (.r [.mv 10 (.t 8), .mv 5 (.t 10)])
 (.seq (.r [.mv 11 (.t 1), .mv 12 (.t 0), .mv 13 (.t 5), .ixa 14 (.t 12) (.t 13) 3, .ld 15 (.t 14) 3 true, .callv (some 16) (.t 11) [((.t 15), .b 0)]])
 (.cond (.t 16) (.seq (.r [.mv 17 (.t 5), .mv 4 (.t 17)])
 (.ret))
 (.skip)))))
 (.r [.bin 18 .add (.t 8) (.c (.i .i64 1)), .mv 8 (.t 18)])))))))
 (.seq (.r [.mv 4 (.c (.i .i64 (-1)))])
 (.ret))))

def f_p_impl_decoder_number : Fd := .ir 2 10 [.t 4]
 (.seq (.r [.mv 4 (.c (.i .i64 0))])
 (.seq (.r [.mv 5 (.t 0), .mv 6 (.t 1), .call (some 7) 160 [((.t 5), .m 2), ((.t 6), .b 0)], .call (some 8) 95 [((.t 7), .b 0)], .cvi 9 .i64 (.t 8), .mv 4 (.t 9)])
 (.ret)))

def f_p_impl_decoder_take : Fd := .ir 2 31 [.t 4]
 (.seq (.r [.mv 4 (.c (.s []))])
 (.seq (.r [.mv 8 (.t 0), .nck 9 (.t 8), .fad 10 (.t 9) 0, .ld 11 (.t 10) 1 false, .mv 12 (.t 1), .call (some 13) 170 [((.t 11), .b 0), ((.c (.i .i64 0)), .b 0), ((.t 12), .b 0)], .mv 7 (.t 13), .ext 14 (.t 7) 0, .ext 15 (.t 7) 1, .mv 5 (.t 14), .mv 6 (.t 15)])
 (.seq (.seq (.r [.mv 16 (.t 6), .un 17 .not (.t 16)])
 (.cond (.t 17) (.seq (.r [.mv 18 (.t 0), .nck 19 (.t 18), .fad 20 (.t 19) 1, .st (.t 20) (.c (.b true)) 1])
 (.seq (.r [.mv 4 (.c (.s []))])
 (.ret)))
 (.skip)))
 (.seq (.r [.mv 21 (.t 0), .mv 22 (.t 0), .nck 23 (.t 22), .fad 24 (.t 23) 0, .ld 25 (.t 24) 1 false, .mv 26 (.t 1), .slc 27 (.t 25) (some (.t 26)) none 0, .nck 28 (.t 21), .fad 29 (.t 28) 0, .st (.t 29) (.t 27) 1])
 (.seq (.r [.mv 30 (.t 5), .mv 4 (.t 30)])
 (.ret))))))

def f_cmp_Compare_int64 : Fd := .ir 2 20 [.t 4]
 (.seq (.r [.mv 4 (.c (.i .i64 0))])
 (.seq (.r [.mv 7 (.t 0), .call (some 8) 165 [((.t 7), .b 0)], .mv 5 (.t 8)])
 (.seq (.r [.mv 9 (.t 1), .call (some 10) 165 [((.t 9), .b 0)], .mv 6 (.t 10)])
 (.seq (.seq (.r [.mv 11 (.t 5)])
 (.cond (.t 11) (.seq (.seq (.r [.mv 12 (.t 6)])
 (.cond (.t 12) (.seq (.r [.mv 4 (.c (.i .i64 0))])
 (.ret))
 (.skip)))
 (.seq (.r [.mv 4 (.c (.i .i64 (-1)))])
 (.ret)))
 (.skip)))
 (.seq (.seq (.r [.mv 13 (.t 6)])
 (.cond (.t 13) (.seq (.r [.mv 4 (.c (.i .i64 1))])
 (.ret))
 (.skip)))
 (.seq (.seq (.r [.mv 14 (.t 0), .mv 15 (.t 1), .bin 16 .lss (.t 14) (.t 15)])
 (.cond (.t 16) (.seq (.r [.mv 4 (.c (.i .i64 (-1)))])
 (.ret))
 (.skip)))
 (.seq (.seq (.r [.mv 17 (.t 0), .mv 18 (.t 1), .bin 19 .gtr (.t 17) (.t 18)])
 (.cond (.t 19) (.seq (.r [.mv 4 (.c (.i .i64 1))])
 (.ret))
 (.skip)))
 (.seq (.r [.mv 4 (.c (.i .i64 0))])
 (.ret)))))))))

def f_cmp_isNaN_int64 : Fd := .ir 1 6 [.t 2]
 (.seq (.r [.mv 2 (.c (.b false))])
 (.seq (.r [.mv 3 (.t 0), .mv 4 (.t 0), .bin 5 .neq (.t 3) (.t 4), .mv 2 (.t 5)])
 (.ret)))

def f_p_impl_Pager_isData : Fd := .ir 3 31 [.t 6]
 (.seq (.r [.mv 6 (.c (.b false))])
 (.seq (.r [.mv 7 (.t 1), .mv 8 (.t 0), .call (some 9) 93 [((.t 8), .b 12)], .bin 10 .gtr (.t 7) (.t 9), .mv 11 (.t 10), .g 11 true (some 12) (.mv 12 (.t 2)), .g 11 true (some 13) (.mv 13 (.t 0)), .g 11 true (some 14) (.nck 14 (.t 13)), .g 11 true (some 15) (.fad 15 (.t 14) 4), .g 11 true (some 16) (.fad 16 (.t 15) 0), .g 11 true (some 17) (.ld 17 (.t 16) 1 false), .g 11 true (some 18) (.bin 18 .leq (.t 12) (.t 17)), .pick 19 (.t 11) (.t 18) (.c (.b false)), .mv 20 (.t 19), .g 20 true (some 21) (.mv 21 (.t 1)), .g 20 true (some 22) (.mv 22 (.t 0)), .g 20 true (some 23) (.nck 23 (.t 22)), .g 20 true (some 24) (.fad 24 (.t 23) 4), .g 20 true (some 25) (.fad 25 (.t 24) 0), .g 20 true (some 26) (.ld 26 (.t 25) 1 false), .g 20 true (some 27) (.mv 27 (.t 2)), .g 20 true (some 28) (.bin 28 .sub (.t 26) (.t 27)), .g 20 true (some 29) (.bin 29 .leq (.t 21) (.t 28)), .pick 30 (.t 20) (.t 29) (.c (.b false)), .mv 6 (.t 30)])
 (.ret)))

def f_impl_trimmed : Fd := .ir 1 5 [.t 2]
 (.seq (.r [.mv 2 (.c (.s []))])
 (.seq (.r [.mv 3 (.t 0), .call (some 4) 171 [((.t 3), .b 0), ((.c (.s [0])), .b 0)], .mv 2 (.t 4)])
 (.ret)))

def f_impl_ValidHeader : Fd := .ir 1 23 [.t 2]
 (.seq (.r [.box 1 (.t 0), .mv 2 (.c (.b false))])
 (.seq (.r [.fad 3 (.t 1) 0, .ld 4 (.t 3) 1 false, .call (some 5) 50 [((.t 4), .b 0), ((.c (.i .i64 1)), .b 0), ((.c (.i .i64 3)), .b 0)], .mv 6 (.t 5), .g 6 true (some 7) (.fad 7 (.t 1) 1), .g 6 true (some 8) (.ld 8 (.t 7) 1 false), .g 6 true (some 9) (.call (some 9) 50 [((.t 8), .b 0), ((.c (.i .i64 0)), .b 0), ((.c (.i .i64 1000)), .b 0)]), .pick 10 (.t 6) (.t 9) (.c (.b false)), .mv 11 (.t 10), .g 11 true (some 12) (.fad 12 (.t 1) 2), .g 11 true (some 13) (.ld 13 (.t 12) 1 false), .g 11 true (some 14) (.len 14 false (.t 13)), .g 11 true (some 15) (.bin 15 .leq (.t 14) (.c (.i .i64 24))), .pick 16 (.t 11) (.t 15) (.c (.b false)), .mv 17 (.t 16), .g 17 true (some 18) (.fad 18 (.t 1) 2), .g 17 true (some 19) (.ld 19 (.t 18) 1 false), .g 17 true (some 20) (.call (some 20) 138 [((.t 19), .b 3), ((.c (.fn 172 [])), .b 0)]), .g 17 true (some 21) (.un 21 .not (.t 20)), .pick 22 (.t 17) (.t 21) (.c (.b false)), .mv 2 (.t 22)])
 (.ret)))

def f_spec_l13First : Fd := .ir 1 9 [.t 2]
 (.seq (.r [.mv 2 (.c (.i .i64 0))])
 (.seq (.r [.mv 3 (.t 0), .nck 4 (.t 3), .fad 5 (.t 4) 4, .ld 6 (.t 5) 4 true, .call (some 7) 69 [((.t 6), .b 0)], .bin 8 .add (.t 7) (.c (.i .i64 1)), .mv 2 (.t 8)])
 (.ret)))

def f_impl_cut : Fd := .ir 3 25 [.t 6, .t 7]
 (.seq (.r [.mv 6 (.c (.s [])), .mv 7 (.c (.b false))])
 (.seq (.seq (.r [.mv 8 (.t 2), .bin 9 .lss (.t 8) (.c (.i .i64 0)), .mv 10 (.t 9), .g 10 false (some 11) (.mv 11 (.t 1)), .g 10 false (some 12) (.mv 12 (.t 0)), .g 10 false (some 13) (.len 13 true (.t 12)), .g 10 false (some 14) (.mv 14 (.t 2)), .g 10 false (some 15) (.bin 15 .sub (.t 13) (.t 14)), .g 10 false (some 16) (.call (some 16) 50 [((.t 11), .b 0), ((.c (.i .i64 0)), .b 0), ((.t 15), .b 0)]), .g 10 false (some 17) (.un 17 .not (.t 16)), .pick 18 (.t 10) (.c (.b true)) (.t 17)])
 (.cond (.t 18) (.seq (.r [.mv 6 (.c (.s [])), .mv 7 (.c (.b false))])
 (.ret))
 (.skip)))
 (.seq (.r [.mv 19 (.t 0), .mv 20 (.t 1), .mv 21 (.t 1), .mv 22 (.t 2), .bin 23 .add (.t 21) (.t 22), .slc 24 (.t 19) (some (.t 20)) (some (.t 23)) 0, .mv 6 (.t 24), .mv 7 (.c (.b true))])
 (.ret))))

def f_strings_TrimRight : Fd := .ir 2 37 [.t 4]
 (.seq (.r [.mv 4 (.c (.s []))])
 (.seq (.seq (.r [.mv 7 (.t 0), .bin 8 .eql (.t 7) (.c (.s [])), .mv 9 (.t 8), .g 9 false (some 10) (.mv 10 (.t 1)), .g 9 false (some 11) (.bin 11 .eql (.t 10) (.c (.s []))), .pick 12 (.t 9) (.c (.b true)) (.t 11)])
 (.cond (.t 12) (.seq (.r [.mv 13 (.t 0), .mv 4 (.t 13)])
 (.ret))
 (.skip)))
 (.seq (.seq (.r [.mv 14 (.t 1), .len 15 true (.t 14), .bin 16 .eql (.t 15) (.c (.i .i64 1)), .mv 17 (.t 16), .g 17 true (some 18) (.mv 18 (.t 1)), .g 17 true (some 19) (.ixs 19 (.t 18) (.c (.i .i64 0))), .g 17 true (some 20) (.bin 20 .lss (.t 19) (.c (.i .u8 128))), .pick 21 (.t 17) (.t 20) (.c (.b false))])
 (.cond (.t 21) (.seq (.r [.mv 22 (.t 0), .mv 23 (.t 1), .ixs 24 (.t 23) (.c (.i .i64 0)), .call (some 25) 173 [((.t 22), .b 0), ((.t 24), .b 0)], .mv 4 (.t 25)])
 (.ret))
 (.skip)))
 (.seq (.seq (.r [.mv 27 (.t 1), .call (some 28) 174 [((.t 27), .b 0)], .mv 26 (.t 28), .ext 29 (.t 26) 0, .ext 30 (.t 26) 1, .alc 5 [.b false, .b false, .b false, .b false, .b false, .b false, .b false, .b false, .b false, .b false, .b false, .b false, .b false, .b false, .b false, .b false, .b false, .b false, .b false, .b false, .b false, .b false, .b false, .b false, .b false, .b false, .b false, .b false, .b false, .b false, .b false, .b false, .b false, .b false, .b false, .b false, .b false, .b false, .b false, .b false, .b false, .b false, .b false, .b false, .b false, .b false, .b false, .b false, .b false, .b false, .b false, .b false, .b false, .b false, .b false, .b false, .b false, .b false, .b false, .b false, .b false, .b false, .b false, .b false, .b false, .b false, .b false, .b false, .b false, .b false, .b false, .b false, .b false, .b false, .b false, .b false, .b false, .b false, .b false, .b false, .b false, .b false, .b false, .b false, .b false, .b false, .b false, .b false, .b false, .b false, .b false, .b false, .b false, .b false, .b false, .b false, .b false, .b false, .b false, .b false, .b false, .b false, .b false, .b false, .b false, .b false, .b false, .b false, .b false, .b false, .b false, .b false, .b false, .b false, .b false, .b false, .b false, .b false, .b false, .b false, .b false, .b false, .b false, .b false, .b false, .b false, .b false, .b false, .b false, .b false, .b false, .b false, .b false, .b false, .b false, .b false, .b false, .b false, .b false, .b false, .b false, .b false, .b false, .b false, .b false, .b false, .b false, .b false, .b false, .b false, .b false, .b false, .b false, .b false, .b false, .b false, .b false, .b false, .b false, .b false, .b false, .b false, .b false, .b false, .b false, .b false, .b false, .b false, .b false, .b false, .b false, .b false, .b false, .b false, .b false, .b false, .b false, .b false, .b false, .b false, .b false, .b false, .b false, .b false, .b false, .b false, .b false, .b false, .b false, .b false, .b false, .b false, .b false, .b false, .b false, .b false, .b false, .b false, .b false, .b false, .b false, .b false, .b false, .b false, .b false, .b false, .b false, .b false, .b false, .b false, .b false, .b false, .b false, .b false, .b false, .b false, .b false, .b false, .b false, .b false, .b false, .b false, .b false, .b false, .b false, .b false, .b false, .b false, .b false, .b false, .b false, .b false, .b false, .b false, .b false, .b false, .b false, .b false, .b false, .b false, .b false, .b false, .b false, .b false, .b false, .b false, .b false, .b false, .b false, .b false, .b false, .b false, .b false, .b false, .b false, .b false], .st (.t 5) (.t 29) 256, .mv 6 (.t 30)])
 (.seq (.r [.mv 31 (.t 6)])
 (.cond (.t 31) (.seq (.r [.mv 32 (.t 0), .call (some 33) 175 [((.t 32), .b 0), ((.t 5), .b 256)], .mv 4 (.t 33)])
 (.ret))
 (.skip))))
 (.seq (.r [.mv 34 (.t 0), .mv 35 (.t 1), .call (some 36) 176 [((.t 34), .b 0), ((.t 35), .b 0)], .mv 4 (.t 36)])
 (.ret))))))

def f_impl_ValidHeader_s1 : Fd := .ir 1 6 [.t 2]
 (.seq (.r [.box 1 (.t 0), .mv 2 (.c (.b false))])
 (.seq (.r [.ld 3 (.t 1) 3 true, .call (some 4) 177 [((.t 3), .b 0)], .un 5 .not (.t 4), .mv 2 (.t 5)])
 (.ret)))

def f_strings_trimRightByte : Fd := .ir 2 23 [.t 4]
 (.seq (.r [.mv 4 (.c (.s []))])
 (.seq (.blk 0 (.loop [0, 1] [] [] (.seq (.seq (.r [.mv 5 (.t 0), .len 6 true (.t 5), .bin 7 .gtr (.t 6) (.c (.i .i64 0)), .mv 8 (.t 7), .g 8 true (some 9) (.mv 9 (.t 0)), .g 8 true (some 10) (.mv 10 (.t 0)), .g 8 true (some 11) (.len 11 true (.t 10)), .g 8 true (some 12) (.bin 12 .sub (.t 11) (.c (.i .i64 1))), .g 8 true (some 13) (.ixs 13 (.t 9) (.t 12)), .g 8 true (some 14) (.mv 14 (.t 1)), .g 8 true (some 15) (.bin 15 .eql (.t 13) (.t 14)), .pick 16 (.t 8) (.t 15) (.c (.b false))])
 (.cond (.t 16) (.skip)
 (.ex 0)))
 (.blk 1 (.r [.mv 17 (.t 0), .mv 18 (.t 0), .len 19 true (.t 18), .bin 20 .sub (.t 19) (.c (.i .i64 1)), .slc 21 (.t 17) none (some (.t 20)) 0, .mv 0 (.t 21)])))))
 (.seq (.r [.mv 22 (.t 0), .mv 4 (.t 22)])
 (.ret))))

def f_impl_messageOk : Fd := .ir 1 17 [.t 2]
 (.seq (.r [.box 1 (.t 0), .mv 2 (.c (.b false))])
 (.seq (.r [.fad 3 (.t 1) 0, .ld 4 (.t 3) 1 false, .call (some 5) 50 [((.t 4), .b 0), ((.c (.i .i64 1)), .b 0), ((.c (.i .i64 9)), .b 0)], .mv 6 (.t 5), .g 6 true (some 7) (.fad 7 (.t 1) 1), .g 6 true (some 8) (.ld 8 (.t 7) 1 false), .g 6 true (some 9) (.call (some 9) 50 [((.t 8), .b 0), ((.c (.i .i64 0)), .b 0), ((.c (.i .i64 255)), .b 0)]), .pick 10 (.t 6) (.t 9) (.c (.b false)), .mv 11 (.t 10), .g 11 true (some 12) (.fad 12 (.t 1) 2), .g 11 true (some 13) (.ld 13 (.t 12) 1 false), .g 11 true (some 14) (.len 14 true (.t 13)), .g 11 true (some 15) (.bin 15 .leq (.t 14) (.c (.i .i64 200))), .pick 16 (.t 11) (.t 15) (.c (.b false)), .mv 2 (.t 16)])
 (.ret)))

def f_laws_szHeader : Fd := .ir 2 12 [.t 4]
 (.seq (.r [.box 2 (.t 0), .mv 4 (.c (.i .i64 0))])
 (.seq (.r [.fad 5 (.t 2) 2, .ld 6 (.t 5) 1 false, .mv 7 (.t 1), .call (some 8) 196 [((.t 6), .b 3), ((.t 7), .b 0)], .mv 1 (.t 8)])
 (.seq (.seq (.r [.mv 9 (.t 1), .bin 10 .lss (.t 9) (.c (.i .i64 0))])
 (.cond (.t 10) (.seq (.r [.mv 4 (.c (.i .i64 (-1)))])
 (.ret))
 (.skip)))
 (.seq (.r [.mv 11 (.t 1), .mv 4 (.t 11)])
 (.ret)))))

def f_laws_toHeader : Fd := .ir 1 15 [.c 2 3 true]
 (.seq (.r [.box 1 (.t 0), .alc 2 [.i .i64 0, .i .i64 0, .nil]])
 (.seq (.r [.alc 3 [.i .i64 0, .i .i64 0, .nil]])
 (.seq (.r [.fad 4 (.t 1) 0, .ld 5 (.t 4) 1 false, .fad 6 (.t 3) 0, .st (.t 6) (.t 5) 1])
 (.seq (.r [.fad 7 (.t 1) 1, .ld 8 (.t 7) 1 false, .fad 9 (.t 3) 1, .st (.t 9) (.t 8) 1])
 (.seq (.r [.fad 10 (.t 1) 2, .ld 11 (.t 10) 1 false, .call (some 12) 199 [((.t 11), .b 3)], .fad 13 (.t 3) 2, .st (.t 13) (.t 12) 1])
 (.seq (.r [.ld 14 (.t 3) 3 true, .st (.t 2) (.t 14) 3])
 (.ret)))))))

def f_spec_WriteHeader : Fd := .ir 3 27 [.c 6 12 true, .t 7]
 (.seq (.r [.box 3 (.t 0), .box 5 (.t 2), .alc 6 [.nil, .nil, .i .i64 0, .b false, .i .i64 0, .i .i64 0, .i .i64 0, .i .i64 0, .i .i64 0, .i .i64 0, .nil, .nil], .mv 7 (.c (.i .i64 0))])
 (.seq (.seq (.r [.call (some 10) 16 [((.t 3), .b 12)], .un 11 .not (.t 10), .mv 12 (.t 11), .g 12 false (some 13) (.ld 13 (.t 5) 3 true), .g 12 false (some 14) (.call (some 14) 156 [((.t 13), .b 0)]), .g 12 false (some 15) (.un 15 .not (.t 14)), .pick 16 (.t 12) (.c (.b true)) (.t 15)])
 (.cond (.t 16) (.seq (.r [.bld 17 [.nil, .nil, .i .i64 0, .b false, .i .i64 0, .i .i64 0, .i .i64 0, .i .i64 0, .i .i64 0, .i .i64 0, .nil, .nil] [], .st (.t 6) (.t 17) 12, .mv 7 (.c (.i .i64 1))])
 (.ret))
 (.skip)))
 (.seq (.r [.call (some 18) 197 [((.t 3), .b 12)], .alc 8 [.nil, .nil, .i .i64 0, .b false, .i .i64 0, .i .i64 0, .i .i64 0, .i .i64 0, .i .i64 0, .i .i64 0, .nil, .nil], .st (.t 8) (.t 18) 12])
 (.seq (.r [.mv 19 (.t 1), .ld 20 (.t 5) 3 true, .call (some 21) 198 [((.t 8), .m 12), ((.t 19), .b 0), ((.t 20), .b 0)], .mv 9 (.t 21)])
 (.seq (.seq (.r [.mv 22 (.t 9), .bin 23 .neq (.t 22) (.c (.i .i64 0))])
 (.cond (.t 23) (.seq (.r [.bld 24 [.nil, .nil, .i .i64 0, .b false, .i .i64 0, .i .i64 0, .i .i64 0, .i .i64 0, .i .i64 0, .i .i64 0, .nil, .nil] [], .mv 25 (.t 9), .st (.t 6) (.t 24) 12, .mv 7 (.t 25)])
 (.ret))
 (.skip)))
 (.seq (.r [.ld 26 (.t 8) 12 true, .st (.t 6) (.t 26) 12, .mv 7 (.c (.i .i64 0))])
 (.ret)))))))

def f_impl_WriteHeader : Fd := .ir 3 22 [.c 6 12 true, .t 7]
 (.seq (.r [.box 3 (.t 0), .box 4 (.t 1), .box 5 (.t 2), .alc 6 [.nil, .nil, .i .i64 0, .b false, .i .i64 0, .i .i64 0, .i .i64 0, .i .i64 0, .i .i64 0, .i .i64 0, .nil, .nil], .mv 7 (.c (.i .i64 0))])
 (.seq (.seq (.r [.ld 8 (.t 3) 12 true, .call (some 9) 21 [((.t 8), .b 0)], .un 10 .not (.t 9), .mv 11 (.t 10), .g 11 false (some 12) (.ld 12 (.t 5) 3 true), .g 11 false (some 13) (.call (some 13) 168 [((.t 12), .b 0)]), .g 11 false (some 14) (.un 14 .not (.t 13)), .pick 15 (.t 11) (.c (.b true)) (.t 14)])
 (.cond (.t 15) (.seq (.r [.bld 16 [.nil, .nil, .i .i64 0, .b false, .i .i64 0, .i .i64 0, .i .i64 0, .i .i64 0, .i .i64 0, .i .i64 0, .nil, .nil] [], .st (.t 6) (.t 16) 12, .mv 7 (.c (.i .i64 1))])
 (.ret))
 (.skip)))
 (.seq (.r [.ld 17 (.t 3) 12 true, .mkf 18 200 [(.t 4), (.t 5)], .call (some 19) 201 [((.t 17), .b 0), ((.t 18), .b 0)], .ext 20 (.t 19) 0, .ext 21 (.t 19) 1, .st (.t 6) (.t 20) 12, .mv 7 (.t 21)])
 (.ret))))

def f_laws_eqHeader : Fd := .ir 2 21 [.t 4]
 (.seq (.r [.box 2 (.t 0), .box 3 (.t 1), .mv 4 (.c (.b false))])
 (.seq (.seq (.r [.fad 5 (.t 2) 0, .ld 6 (.t 5) 1 false, .fad 7 (.t 3) 0, .ld 8 (.t 7) 1 false, .bin 9 .neq (.t 6) (.t 8)])
 (.cond (.t 9) (.seq (.r [.mv 4 (.c (.b false))])
 (.ret))
 (.skip)))
 (.seq (.seq (.r [.fad 10 (.t 2) 1, .ld 11 (.t 10) 1 false, .fad 12 (.t 3) 1, .ld 13 (.t 12) 1 false, .bin 14 .neq (.t 11) (.t 13)])
 (.cond (.t 14) (.seq (.r [.mv 4 (.c (.b false))])
 (.ret))
 (.skip)))
 (.seq (.seq (.r [.fad 15 (.t 2) 2, .ld 16 (.t 15) 1 false, .fad 17 (.t 3) 2, .ld 18 (.t 17) 1 false, .call (some 19) 202 [((.t 16), .b 3), ((.t 18), .b 3)], .un 20 .not (.t 19)])
 (.cond (.t 20) (.seq (.r [.mv 4 (.c (.b false))])
 (.ret))
 (.skip)))
 (.seq (.r [.mv 4 (.c (.b true))])
 (.ret))))))

def f_laws_heldPager : Fd := .ir 2 24 [.t 4]
 (.seq (.r [.box 2 (.t 0), .mv 4 (.c (.i .i64 0))])
 (.seq (.r [.fad 5 (.t 2) 0, .ld 6 (.t 5) 4 true, .mv 7 (.t 1), .call (some 8) 204 [((.t 6), .b 0), ((.t 7), .b 0)], .mv 1 (.t 8)])
 (.seq (.seq (.r [.mv 9 (.t 1), .bin 10 .lss (.t 9) (.c (.i .i64 0))])
 (.cond (.t 10) (.seq (.r [.mv 4 (.c (.i .i64 (-1)))])
 (.ret))
 (.skip)))
 (.seq (.r [.fad 11 (.t 2) 10, .ld 12 (.t 11) 1 false, .mv 13 (.t 1), .call (some 14) 205 [((.t 12), .b 2), ((.t 13), .b 0)], .mv 1 (.t 14)])
 (.seq (.seq (.r [.mv 15 (.t 1), .bin 16 .lss (.t 15) (.c (.i .i64 0))])
 (.cond (.t 16) (.seq (.r [.mv 4 (.c (.i .i64 (-1)))])
 (.ret))
 (.skip)))
 (.seq (.r [.fad 17 (.t 2) 11, .ld 18 (.t 17) 1 false, .mv 19 (.t 1), .call (some 20) 205 [((.t 18), .b 2), ((.t 19), .b 0)], .mv 1 (.t 20)])
 (.seq (.seq (.r [.mv 21 (.t 1), .bin 22 .lss (.t 21) (.c (.i .i64 0))])
 (.cond (.t 22) (.seq (.r [.mv 4 (.c (.i .i64 (-1)))])
 (.ret))
 (.skip)))
 (.seq (.r [.mv 23 (.t 1), .mv 4 (.t 23)])
 (.ret)))))))))

def f_laws_szMessageS : Fd := .ir 2 27 [.t 4]
 (.seq (.r [.mv 4 (.c (.i .i64 0))])
 (.seq (.r [.mv 6 (.t 1), .mv 7 (.t 0), .len 8 false (.t 7), .bin 9 .sub (.t 6) (.t 8), .mv 1 (.t 9)])
 (.seq (.seq (.r [.mv 10 (.t 1), .bin 11 .lss (.t 10) (.c (.i .i64 0))])
 (.cond (.t 11) (.seq (.r [.mv 4 (.c (.i .i64 (-1)))])
 (.ret))
 (.skip)))
 (.seq (.seq (.r [.mv 5 (.c (.i .i64 0))])
 (.blk 0 (.loop [0, 1, 5] [] [] (.seq (.seq (.r [.mv 12 (.t 5), .mv 13 (.t 0), .len 14 false (.t 13), .bin 15 .lss (.t 12) (.t 14)])
 (.cond (.t 15) (.skip)
 (.ex 0)))
 (.seq (.blk 1 (.seq (.r [.mv 18 (.t 0), .mv 19 (.t 5), .ixa 20 (.t 18) (.t 19) 3, .ld 21 (.t 20) 3 true, .mv 22 (.t 1), .call (some 23) 213 [((.t 21), .b 0), ((.t 22), .b 0)], .mv 1 (.t 23)])
 (.seq (.r [.mv 24 (.t 1), .bin 25 .lss (.t 24) (.c (.i .i64 0))])
 (.cond (.t 25) (.seq (.r [.mv 4 (.c (.i .i64 (-1)))])
 (.ret))
 (.skip)))))
 (.r [.mv 16 (.t 5), .bin 17 .add (.t 16) (.c (.i .i64 1)), .mv 5 (.t 17)]))))))
 (.seq (.r [.mv 26 (.t 1), .mv 4 (.t 26)])
 (.ret))))))

def f_spec_l12Own : Fd := .ir 1 30 [.c 2 12 true]
 (.seq (.r [.alc 2 [.nil, .nil, .i .i64 0, .b false, .i .i64 0, .i .i64 0, .i .i64 0, .i .i64 0, .i .i64 0, .i .i64 0, .nil, .nil]])
 (.seq (.r [.mv 3 (.t 0), .nck 4 (.t 3), .fad 5 (.t 4) 0, .call (some 6) 214 [((.t 5), .b 4)], .mv 7 (.t 0), .nck 8 (.t 7), .fad 9 (.t 8) 4, .ck (.np (.t 9)) (.ld 10 (.t 9) 4 true), .mv 11 (.t 0), .nck 12 (.t 11), .fad 13 (.t 12) 8, .ck (.np (.t 13)) (.ld 14 (.t 13) 1 false), .mv 15 (.t 0), .nck 16 (.t 15), .fad 17 (.t 16) 9, .ck (.np (.t 17)) (.ld 18 (.t 17) 1 false), .mv 19 (.t 0), .nck 20 (.t 19), .fad 21 (.t 20) 10, .ck (.np (.t 21)) (.ld 22 (.t 21) 1 false), .call (some 23) 215 [((.t 22), .b 2)], .mv 24 (.t 0), .nck 25 (.t 24), .fad 26 (.t 25) 11, .ck (.np (.t 26)) (.ld 27 (.t 26) 1 false), .call (some 28) 215 [((.t 27), .b 2)], .bld 29 [.nil, .nil, .i .i64 0, .b false, .i .i64 0, .i .i64 0, .i .i64 0, .i .i64 0, .i .i64 0, .i .i64 0, .nil, .nil] [(0, 4, (.t 6)), (4, 4, (.t 10)), (8, 1, (.t 14)), (9, 1, (.t 18)), (10, 1, (.t 23)), (11, 1, (.t 28))], .st (.t 2) (.t 29) 12])
 (.ret)))

def f_spec_l14Write : Fd := .ir 3 62 [.t 6]
 (.seq (.r [.box 5 (.t 2), .mv 6 (.c (.i .i64 0))])
 (.seq (.r [.mv 15 (.t 0), .mv 16 (.t 1), .call (some 17) 102 [((.t 15), .b 12), ((.t 16), .b 0)], .mv 14 (.t 17), .ext 18 (.t 14) 0, .ext 19 (.t 14) 1, .ext 20 (.t 14) 2, .alc 8 [.i .i64 0, .i .i64 0, .nil], .mv 7 (.t 18), .st (.t 8) (.t 19) 3, .mv 9 (.t 20)])
 (.seq (.seq (.r [.mv 21 (.t 9), .un 22 .not (.t 21)])
 (.cond (.t 22) (.seq (.r [.mv 6 (.c (.i .i64 10))])
 (.ret))
 (.skip)))
 (.seq (.r [.ld 23 (.t 5) 3 true, .call (some 24) 216 [((.t 23), .b 0)], .mv 10 (.t 24)])
 (.seq (.seq (.r [.mv 25 (.t 10), .mv 11 (.t 25)])
 (.blk 0 (.loop [0, 5, 7, 10, 11] [] [] (.seq (.seq (.r [.mv 26 (.t 11), .mv 27 (.t 7), .len 28 false (.t 27), .bin 29 .lss (.t 26) (.t 28)])
 (.cond (.t 29) (.skip)
 (.ex 0)))
 (.seq (.blk 1 (.seq (.r [.mv 32 (.t 0), .mv 33 (.t 7), .mv 34 (.t 11), .ixa 35 (.t 33) (.t 34) 1, .ld 36 (.t 35) 1 false, .call (some 37) 217 [((.t 32), .m 12), ((.t 36), .b 0), ((.c (.i .i64 1)), .b 0)], .mv 12 (.t 37)])
 (.seq (.r [.mv 38 (.t 12), .bin 39 .neq (.t 38) (.c (.i .i64 0))])
 (.cond (.t 39) (.seq (.r [.mv 40 (.t 12), .mv 6 (.t 40)])
 (.ret))
 (.skip)))))
 (.r [.mv 30 (.t 11), .bin 31 .add (.t 30) (.c (.i .i64 1)), .mv 11 (.t 31)]))))))
 (.seq (.seq (.r [.mv 41 (.t 7), .len 42 false (.t 41), .mv 43 (.t 10), .bin 44 .gtr (.t 42) (.t 43)])
 (.cond (.t 44) (.r [.mv 45 (.t 7), .mv 46 (.t 10), .slc 47 (.t 45) none (some (.t 46)) 1, .mv 7 (.t 47)])
 (.skip)))
 (.seq (.r [.mv 49 (.t 0), .mv 50 (.t 7), .mv 51 (.t 10), .call (some 52) 218 [((.t 49), .m 12), ((.t 50), .m 0), ((.t 51), .b 0)], .mv 48 (.t 52), .ext 53 (.t 48) 0, .ext 54 (.t 48) 1, .mv 7 (.t 53), .mv 13 (.t 54)])
 (.seq (.seq (.r [.mv 55 (.t 13), .bin 56 .neq (.t 55) (.c (.i .i64 0))])
 (.cond (.t 56) (.seq (.r [.mv 57 (.t 13), .mv 6 (.t 57)])
 (.ret))
 (.skip)))
 (.seq (.r [.mv 58 (.t 0), .mv 59 (.t 7), .ld 60 (.t 5) 3 true, .call (some 61) 219 [((.t 58), .m 12), ((.t 59), .b 1), ((.t 60), .b 0)], .mv 6 (.t 61)])
 (.ret))))))))))

def f_laws_toMessageS : Fd := .ir 1 23 [.t 2]
 (.seq (.r [.mv 2 (.c (.nil))])
 (.seq (.r [.mv 5 (.t 0), .len 6 false (.t 5), .mks 7 3 (.agg [.i .i64 0, .i .i64 0, .s []]) (.t 6) (.t 6), .mv 3 (.t 7)])
 (.seq (.seq (.r [.mv 4 (.c (.i .i64 0))])
 (.blk 0 (.loop [0, 3, 4] [] [] (.seq (.seq (.r [.mv 8 (.t 4), .mv 9 (.t 0), .len 10 false (.t 9), .bin 11 .lss (.t 8) (.t 10)])
 (.cond (.t 11) (.skip)
 (.ex 0)))
 (.seq (.blk 1 (.r [.mv 14 (.t 3), .mv 15 (.t 4), .mv 16 (.t 0), .mv 17 (.t 4), .ixa 18 (.t 16) (.t 17) 3, .ld 19 (.t 18) 3 true, .call (some 20) 220 [((.t 19), .b 0)], .ixa 21 (.t 14) (.t 15) 3, .st (.t 21) (.t 20) 3]))
 (.r [.mv 12 (.t 4), .bin 13 .add (.t 12) (.c (.i .i64 1)), .mv 4 (.t 13)]))))))
 (.seq (.r [.mv 22 (.t 3), .mv 2 (.t 22)])
 (.ret)))))

def f_impl_WriteHeader_s1 : Fd := .ir 3 9 [.t 4]
 (.seq (.r [.mv 4 (.c (.i .i64 0))])
 (.seq (.r [.mv 5 (.t 0), .ld 6 (.t 1) 1 false, .ld 7 (.t 2) 3 true, .call (some 8) 222 [((.t 5), .m 12), ((.t 6), .b 0), ((.t 7), .b 0)], .mv 4 (.t 8)])
 (.ret)))

def f_impl_Pager_changed : Fd := .ir 2 17 [.c 4 12 true, .t 5]
 (.seq (.r [.box 2 (.t 0), .alc 4 [.nil, .nil, .i .i64 0, .b false, .i .i64 0, .i .i64 0, .i .i64 0, .i .i64 0, .i .i64 0, .i .i64 0, .nil, .nil], .mv 5 (.c (.i .i64 0))])
 (.seq (.r [.ld 8 (.t 2) 12 true, .call (some 9) 221 [((.t 8), .b 0)], .alc 6 [.nil, .nil, .i .i64 0, .b false, .i .i64 0, .i .i64 0, .i .i64 0, .i .i64 0, .i .i64 0, .i .i64 0, .nil, .nil], .st (.t 6) (.t 9) 12])
 (.seq (.seq (.r [.mv 10 (.t 1), .callv (some 11) (.t 10) [((.t 6), .m 12)], .mv 7 (.t 11)])
 (.seq (.r [.mv 12 (.t 7), .bin 13 .neq (.t 12) (.c (.i .i64 0))])
 (.cond (.t 13) (.seq (.r [.bld 14 [.nil, .nil, .i .i64 0, .b false, .i .i64 0, .i .i64 0, .i .i64 0, .i .i64 0, .i .i64 0, .i .i64 0, .nil, .nil] [], .mv 15 (.t 7), .st (.t 4) (.t 14) 12, .mv 5 (.t 15)])
 (.ret))
 (.skip))))
 (.seq (.r [.ld 16 (.t 6) 12 true, .st (.t 4) (.t 16) 12, .mv 5 (.c (.i .i64 0))])
 (.ret)))))

def f_laws_eqMessageS : Fd := .ir 2 27 [.t 4]
 (.seq (.r [.mv 4 (.c (.b false))])
 (.seq (.seq (.r [.mv 6 (.t 0), .len 7 false (.t 6), .mv 8 (.t 1), .len 9 false (.t 8), .bin 10 .neq (.t 7) (.t 9)])
 (.cond (.t 10) (.seq (.r [.mv 4 (.c (.b false))])
 (.ret))
 (.skip)))
 (.seq (.seq (.r [.mv 5 (.c (.i .i64 0))])
 (.blk 0 (.loop [0, 1, 5] [] [] (.seq (.seq (.r [.mv 11 (.t 5), .mv 12 (.t 0), .len 13 false (.t 12), .bin 14 .lss (.t 11) (.t 13)])
 (.cond (.t 14) (.skip)
 (.ex 0)))
 (.seq (.blk 1 (.seq (.r [.mv 17 (.t 0), .mv 18 (.t 5), .ixa 19 (.t 17) (.t 18) 3, .ld 20 (.t 19) 3 true, .mv 21 (.t 1), .mv 22 (.t 5), .ixa 23 (.t 21) (.t 22) 3, .ld 24 (.t 23) 3 true, .call (some 25) 228 [((.t 20), .b 0), ((.t 24), .b 0)], .un 26 .not (.t 25)])
 (.cond (.t 26) (.seq (.r [.mv 4 (.c (.b false))])
 (.ret))
 (.skip))))
 (.r [.mv 15 (.t 5), .bin 16 .add (.t 15) (.c (.i .i64 1)), .mv 5 (.t 16)]))))))
 (.seq (.r [.mv 4 (.c (.b true))])
 (.ret)))))

def f_laws_heldDisk : Fd := .ir 2 18 [.t 4]
 (.seq (.r [.box 2 (.t 0), .mv 4 (.c (.i .i64 0))])
 (.seq (.r [.fad 5 (.t 2) 0, .ld 6 (.t 5) 1 false, .mv 7 (.t 1), .call (some 8) 229 [((.t 6), .b 1), ((.t 7), .b 0)], .mv 1 (.t 8)])
 (.seq (.seq (.r [.mv 9 (.t 1), .bin 10 .lss (.t 9) (.c (.i .i64 0))])
 (.cond (.t 10) (.seq (.r [.mv 4 (.c (.i .i64 (-1)))])
 (.ret))
 (.skip)))
 (.seq (.r [.fad 11 (.t 2) 1, .ld 12 (.t 11) 1 false, .mv 13 (.t 1), .call (some 14) 230 [((.t 12), .b 2), ((.t 13), .b 0)], .mv 1 (.t 14)])
 (.seq (.seq (.r [.mv 15 (.t 1), .bin 16 .lss (.t 15) (.c (.i .i64 0))])
 (.cond (.t 16) (.seq (.r [.mv 4 (.c (.i .i64 (-1)))])
 (.ret))
 (.skip)))
 (.seq (.r [.mv 17 (.t 1), .mv 4 (.t 17)])
 (.ret)))))))

def f_laws_heldPageS : Fd := .ir 2 32 [.t 4]
 (.seq (.r [.mv 4 (.c (.i .i64 0))])
 (.seq (.seq (.r [.mv 5 (.c (.i .i64 0))])
 (.blk 0 (.loop [0, 1, 5] [] [] (.seq (.seq (.r [.mv 6 (.t 5), .mv 7 (.t 0), .len 8 false (.t 7), .bin 9 .lss (.t 6) (.t 8)])
 (.cond (.t 9) (.skip)
 (.ex 0)))
 (.seq (.blk 1 (.seq (.seq (.r [.mv 12 (.t 0), .mv 13 (.t 5), .ixa 14 (.t 12) (.t 13) 2, .fad 15 (.t 14) 0, .ld 16 (.t 15) 1 false, .mv 17 (.t 1), .bin 18 .neq (.t 16) (.t 17)])
 (.cond (.t 18) (.seq (.r [.mv 4 (.c (.i .i64 (-1)))])
 (.ret))
 (.skip)))
 (.seq (.r [.mv 19 (.t 1), .bin 20 .add (.t 19) (.c (.i .i64 1)), .mv 1 (.t 20)])
 (.seq (.seq (.r [.mv 21 (.t 0), .mv 22 (.t 5), .ixa 23 (.t 21) (.t 22) 2, .fad 24 (.t 23) 1, .ld 25 (.t 24) 1 false, .mv 26 (.t 1), .call (some 27) 64 [((.t 26), .b 0)], .bin 28 .neq (.t 25) (.t 27)])
 (.cond (.t 28) (.seq (.r [.mv 4 (.c (.i .i64 (-1)))])
 (.ret))
 (.skip)))
 (.r [.mv 29 (.t 1), .bin 30 .add (.t 29) (.c (.i .i64 1)), .mv 1 (.t 30)])))))
 (.r [.mv 10 (.t 5), .bin 11 .add (.t 10) (.c (.i .i64 1)), .mv 5 (.t 11)]))))))
 (.seq (.r [.mv 31 (.t 1), .mv 4 (.t 31)])
 (.ret))))

def f_laws_szMessage : Fd := .ir 2 13 [.t 4]
 (.seq (.r [.box 2 (.t 0), .mv 4 (.c (.i .i64 0))])
 (.seq (.r [.mv 5 (.t 1), .fad 6 (.t 2) 2, .ld 7 (.t 6) 1 false, .len 8 true (.t 7), .bin 9 .sub (.t 5) (.t 8), .mv 1 (.t 9)])
 (.seq (.seq (.r [.mv 10 (.t 1), .bin 11 .lss (.t 10) (.c (.i .i64 0))])
 (.cond (.t 11) (.seq (.r [.mv 4 (.c (.i .i64 (-1)))])
 (.ret))
 (.skip)))
 (.seq (.r [.mv 12 (.t 1), .mv 4 (.t 12)])
 (.ret)))))

def f_spec_l12Pages : Fd := .ir 1 6 [.t 2]
 (.seq (.r [.mv 2 (.c (.nil))])
 (.seq (.r [.bsl 3 2 [], .mv 4 (.t 0), .app 5 (.t 3) (.t 4) 2, .mv 2 (.t 5)])
 (.ret)))

def f_spec_l14Need : Fd := .ir 1 9 [.t 2]
 (.seq (.r [.box 1 (.t 0), .mv 2 (.c (.i .i64 0))])
 (.seq (.r [.ld 3 (.t 1) 3 true, .call (some 4) 245 [((.t 3), .b 0)], .len 5 true (.t 4), .bin 6 .add (.t 5) (.c (.i .i64 60)), .bin 7 .sub (.t 6) (.c (.i .i64 1)), .bin 8 .quo (.t 7) (.c (.i .i64 60)), .mv 2 (.t 8)])
 (.ret)))

def f_spec_l13Release : Fd := .ir 3 34 [.t 6]
 (.seq (.r [.mv 6 (.c (.i .i64 0))])
 (.seq (.seq (.r [.mv 9 (.t 0), .mv 10 (.t 1), .mv 11 (.t 2), .call (some 12) 153 [((.t 9), .b 12), ((.t 10), .b 0), ((.t 11), .b 0)], .un 13 .not (.t 12)])
 (.cond (.t 13) (.seq (.r [.mv 6 (.c (.i .i64 2))])
 (.ret))
 (.skip)))
 (.seq (.r [.mv 14 (.t 0), .call (some 15) 71 [((.t 14), .b 12)], .mv 7 (.t 15)])
 (.seq (.seq (.r [.mv 16 (.t 1), .mv 8 (.t 16)])
 (.blk 0 (.loop [0, 1, 2, 7, 8] [] [] (.seq (.seq (.r [.mv 17 (.t 8), .mv 18 (.t 1), .mv 19 (.t 2), .bin 20 .add (.t 18) (.t 19), .bin 21 .lss (.t 17) (.t 20)])
 (.cond (.t 21) (.skip)
 (.ex 0)))
 (.seq (.blk 1 (.seq (.r [.mv 24 (.t 7), .mv 25 (.t 8), .call (some 26) 154 [((.t 24), .b 0), ((.t 25), .b 0)], .un 27 .not (.t 26)])
 (.cond (.t 27) (.seq (.r [.mv 6 (.c (.i .i64 6))])
 (.ret))
 (.skip))))
 (.r [.mv 22 (.t 8), .bin 23 .add (.t 22) (.c (.i .i64 1)), .mv 8 (.t 23)]))))))
 (.seq (.r [.mv 28 (.t 0), .mv 29 (.t 7), .mv 30 (.t 1), .mv 31 (.t 2), .call (some 32) 246 [((.t 29), .b 0), ((.t 30), .b 0), ((.t 31), .b 0), ((.c (.b false)), .b 0)], .call (some 33) 247 [((.t 28), .m 12), ((.t 32), .b 0)], .mv 6 (.t 33)])
 (.ret))))))

def f_spec_l14Grow : Fd := .ir 3 27 [.t 6, .t 7]
 (.seq (.r [.mv 6 (.c (.nil)), .mv 7 (.c (.i .i64 0))])
 (.seq (.blk 0 (.loop [0, 1, 2] [(1, 1)] [] (.seq (.seq (.r [.mv 10 (.t 1), .len 11 false (.t 10), .mv 12 (.t 2), .bin 13 .lss (.t 11) (.t 12)])
 (.cond (.t 13) (.skip)
 (.ex 0)))
 (.blk 1 (.seq (.r [.mv 15 (.t 0), .call (some 16) 248 [((.t 15), .m 12), ((.c (.i .i64 1)), .b 0)], .mv 14 (.t 16), .ext 17 (.t 14) 0, .ext 18 (.t 14) 1, .mv 8 (.t 17), .mv 9 (.t 18)])
 (.seq (.seq (.r [.mv 19 (.t 9), .bin 20 .neq (.t 19) (.c (.i .i64 0))])
 (.cond (.t 20) (.seq (.r [.mv 21 (.t 9), .mv 6 (.c (.nil)), .mv 7 (.t 21)])
 (.ret))
 (.skip)))
 (.r [.mv 22 (.t 1), .mv 23 (.t 8), .bsl 24 1 [(.t 23)], .app 25 (.t 22) (.t 24) 1, .mv 1 (.t 25)])))))))
 (.seq (.r [.mv 26 (.t 1), .mv 6 (.t 26), .mv 7 (.c (.i .i64 0))])
 (.ret))))

def f_spec_l14Store : Fd := .ir 3 54 [.t 6]
 (.seq (.r [.box 5 (.t 2), .mv 6 (.c (.i .i64 0))])
 (.seq (.r [.ld 12 (.t 5) 3 true, .call (some 13) 245 [((.t 12), .b 0)], .mv 7 (.t 13)])
 (.seq (.seq (.r [.mv 8 (.c (.i .i64 0))])
 (.blk 0 (.loop [0, 1, 7, 8] [] [] (.seq (.seq (.r [.mv 14 (.t 8), .mv 15 (.t 1), .len 16 false (.t 15), .bin 17 .lss (.t 14) (.t 16)])
 (.cond (.t 17) (.skip)
 (.ex 0)))
 (.seq (.blk 1 (.seq (.r [.mv 9 (.c (.i .i64 0))])
 (.seq (.seq (.r [.mv 20 (.t 8), .bin 21 .add (.t 20) (.c (.i .i64 1)), .mv 22 (.t 1), .len 23 false (.t 22), .bin 24 .lss (.t 21) (.t 23)])
 (.cond (.t 24) (.r [.mv 25 (.t 1), .mv 26 (.t 8), .bin 27 .add (.t 26) (.c (.i .i64 1)), .ixa 28 (.t 25) (.t 27) 1, .ld 29 (.t 28) 1 false, .mv 9 (.t 29)])
 (.skip)))
 (.seq (.r [.mv 30 (.t 7), .len 31 true (.t 30), .call (some 32) 249 [((.c (.i .i64 60)), .b 0), ((.t 31), .b 0)], .mv 10 (.t 32)])
 (.seq (.r [.mv 33 (.t 9), .call (some 34) 250 [((.t 33), .b 0), ((.c (.i .i64 2)), .b 0), ((.c (.b false)), .b 0)], .mv 35 (.t 10), .call (some 36) 250 [((.t 35), .b 0), ((.c (.i .i64 2)), .b 0), ((.c (.b false)), .b 0)], .bin 37 .add (.t 34) (.t 36), .mv 38 (.t 7), .mv 39 (.t 10), .ck (.np (.t 38)) (.slc 40 (.t 38) none (some (.t 39)) 0), .bin 41 .add (.t 37) (.t 40), .mv 11 (.t 41)])
 (.seq (.r [.mv 42 (.t 7), .mv 43 (.t 10), .slc 44 (.t 42) (some (.t 43)) none 0, .mv 7 (.t 44)])
 (.seq (.r [.mv 45 (.t 0), .mv 46 (.t 1), .mv 47 (.t 8), .ixa 48 (.t 46) (.t 47) 1, .ld 49 (.t 48) 1 false, .mv 50 (.t 11), .call (some 51) 251 [((.t 50), .b 0), ((.c (.i .i64 64)), .b 0)], .call (some 52) 252 [((.t 45), .m 12), ((.t 49), .b 0), ((.t 51), .b 0)], .un 53 .not (.t 52)])
 (.cond (.t 53) (.seq (.r [.mv 6 (.c (.i .i64 5))])
 (.ret))
 (.skip)))))))))
 (.r [.mv 18 (.t 8), .bin 19 .add (.t 18) (.c (.i .i64 1)), .mv 8 (.t 19)]))))))
 (.seq (.r [.mv 6 (.c (.i .i64 0))])
 (.ret)))))

def f_laws_toMessage : Fd := .ir 1 14 [.c 2 3 true]
 (.seq (.r [.box 1 (.t 0), .alc 2 [.i .i64 0, .i .i64 0, .s []]])
 (.seq (.r [.alc 3 [.i .i64 0, .i .i64 0, .s []]])
 (.seq (.r [.fad 4 (.t 1) 0, .ld 5 (.t 4) 1 false, .fad 6 (.t 3) 0, .st (.t 6) (.t 5) 1])
 (.seq (.r [.fad 7 (.t 1) 1, .ld 8 (.t 7) 1 false, .fad 9 (.t 3) 1, .st (.t 9) (.t 8) 1])
 (.seq (.r [.fad 10 (.t 1) 2, .ld 11 (.t 10) 1 false, .fad 12 (.t 3) 2, .st (.t 12) (.t 11) 1])
 (.seq (.r [.ld 13 (.t 3) 3 true, .st (.t 2) (.t 13) 3])
 (.ret)))))))

def f_impl_Pager_clone : Fd := .ir 1 16 [.c 2 12 true]
 (.seq (.r [.box 1 (.t 0), .alc 2 [.nil, .nil, .i .i64 0, .b false, .i .i64 0, .i .i64 0, .i .i64 0, .i .i64 0, .i .i64 0, .i .i64 0, .nil, .nil]])
 (.seq (.r [.fad 3 (.t 1) 0, .ld 4 (.t 3) 4 true, .call (some 5) 253 [((.t 4), .b 0)], .fad 6 (.t 1) 0, .st (.t 6) (.t 5) 4])
 (.seq (.r [.fad 7 (.t 1) 10, .ld 8 (.t 7) 1 false, .call (some 9) 254 [((.t 8), .b 2)], .fad 10 (.t 1) 10, .st (.t 10) (.t 9) 1])
 (.seq (.r [.fad 11 (.t 1) 11, .ld 12 (.t 11) 1 false, .call (some 13) 254 [((.t 12), .b 2)], .fad 14 (.t 1) 11, .st (.t 14) (.t 13) 1])
 (.seq (.r [.ld 15 (.t 1) 12 true, .st (.t 2) (.t 15) 12])
 (.ret))))))

def f_p_impl_Pager_writeHeader : Fd := .ir 3 57 [.t 6]
 (.seq (.r [.box 5 (.t 2), .mv 6 (.c (.i .i64 0))])
 (.seq (.r [.mv 15 (.t 0), .mv 16 (.t 1), .call (some 17) 126 [((.t 15), .b 12), ((.t 16), .b 0)], .mv 14 (.t 17), .ext 18 (.t 14) 0, .ext 19 (.t 14) 1, .ext 20 (.t 14) 2, .alc 8 [.i .i64 0, .i .i64 0, .nil], .mv 7 (.t 18), .st (.t 8) (.t 19) 3, .mv 9 (.t 20)])
 (.seq (.seq (.r [.mv 21 (.t 9), .un 22 .not (.t 21)])
 (.cond (.t 22) (.seq (.r [.mv 6 (.c (.i .i64 10))])
 (.ret))
 (.skip)))
 (.seq (.r [.ld 23 (.t 5) 3 true, .call (some 24) 223 [((.t 23), .b 0)], .mv 10 (.t 24)])
 (.seq (.seq (.r [.mv 25 (.t 10), .call (some 26) 224 [((.t 25), .b 0)], .mv 11 (.t 26)])
 (.seq (.r [.mv 27 (.t 11), .mv 28 (.t 7), .len 29 false (.t 28), .bin 30 .lss (.t 27) (.t 29)])
 (.cond (.t 30) (.seq (.seq (.r [.mv 31 (.t 0), .mv 32 (.t 7), .mv 33 (.t 11), .slc 34 (.t 32) (some (.t 33)) none 1, .call (some 35) 225 [((.t 31), .m 12), ((.t 34), .b 1)], .mv 12 (.t 35)])
 (.seq (.r [.mv 36 (.t 12), .bin 37 .neq (.t 36) (.c (.i .i64 0))])
 (.cond (.t 37) (.seq (.r [.mv 38 (.t 12), .mv 6 (.t 38)])
 (.ret))
 (.skip))))
 (.r [.mv 39 (.t 7), .mv 40 (.t 11), .slc 41 (.t 39) none (some (.t 40)) 1, .mv 7 (.t 41)]))
 (.skip))))
 (.seq (.r [.mv 43 (.t 0), .mv 44 (.t 7), .mv 45 (.t 10), .call (some 46) 224 [((.t 45), .b 0)], .call (some 47) 226 [((.t 43), .m 12), ((.t 44), .m 0), ((.t 46), .b 0)], .mv 42 (.t 47), .ext 48 (.t 42) 0, .ext 49 (.t 42) 1, .mv 7 (.t 48), .mv 13 (.t 49)])
 (.seq (.seq (.r [.mv 50 (.t 13), .bin 51 .neq (.t 50) (.c (.i .i64 0))])
 (.cond (.t 51) (.seq (.r [.mv 52 (.t 13), .mv 6 (.t 52)])
 (.ret))
 (.skip)))
 (.seq (.r [.mv 53 (.t 0), .mv 54 (.t 7), .mv 55 (.t 10), .call (some 56) 227 [((.t 53), .m 12), ((.t 54), .b 1), ((.t 55), .b 0)], .mv 6 (.t 56)])
 (.ret)))))))))

def f_impl_Header_encode : Fd := .ir 1 44 [.t 2]
 (.seq (.r [.box 1 (.t 0), .mv 2 (.c (.s []))])
 (.seq (.r [.alc 3 [.bz, .nil]])
 (.seq (.r [.fad 6 (.t 1) 0, .ld 7 (.t 6) 1 false, .call (some 8) 255 [((.t 7), .b 0), ((.c (.i .i64 1)), .b 0)], .fad 9 (.t 1) 1, .ck (.np (.t 9)) (.ld 10 (.t 9) 1 false), .call (some 11) 255 [((.t 10), .b 0), ((.c (.i .i64 2)), .b 0)], .bin 12 .add (.t 8) (.t 11), .fad 13 (.t 1) 2, .ck (.np (.t 13)) (.ld 14 (.t 13) 1 false), .len 15 false (.t 14), .call (some 16) 255 [((.t 15), .b 0), ((.c (.i .i64 1)), .b 0)], .bin 17 .add (.t 12) (.t 16), .call (some 18) 150 [((.t 3), .m 0), ((.t 17), .b 0)]])
 (.seq (.seq (.r [.fad 19 (.t 1) 2, .ld 20 (.t 19) 1 false, .len 21 false (.t 20), .mv 22 (.c (.i .i64 0))])
 (.blk 0 (.loop [3, 20, 21, 22] [] [] (.seq (.r [.bin 23 .lss (.t 22) (.t 21)])
 (.seq (.cond (.t 23) (.skip)
 (.ex 0))
 (.seq (.blk 1 (.seq (.r [.ixa 24 (.t 20) (.t 22) 3, .ld 25 (.t 24) 3 true, .alc 5 [.i .i64 0, .i .i64 0, .s []], .st (.t 5) (.t 25) 3])
 (.r [.fad 26 (.t 5) 0, .ld 27 (.t 26) 1 false, .call (some 28) 255 [((.t 27), .b 0), ((.c (.i .i64 1)), .b 0)], .fad 29 (.t 5) 1, .ck (.np (.t 29)) (.ld 30 (.t 29) 1 false), .call (some 31) 255 [((.t 30), .b 0), ((.c (.i .i64 1)), .b 0)], .bin 32 .add (.t 28) (.t 31), .fad 33 (.t 5) 2, .ck (.np (.t 33)) (.ld 34 (.t 33) 1 false), .len 35 true (.t 34), .call (some 36) 255 [((.t 35), .b 0), ((.c (.i .i64 1)), .b 0)], .bin 37 .add (.t 32) (.t 36), .fad 38 (.t 5) 2, .ck (.np (.t 38)) (.ld 39 (.t 38) 1 false), .bin 40 .add (.t 37) (.t 39), .call (some 41) 150 [((.t 3), .m 0), ((.t 40), .b 0)]])))
 (.r [.bin 42 .add (.t 22) (.c (.i .i64 1)), .mv 22 (.t 42)])))))))
 (.seq (.r [.call (some 43) 151 [((.t 3), .m 0)], .mv 2 (.t 43)])
 (.ret))))))

def f_impl_chainLen : Fd := .ir 1 8 [.t 2]
 (.seq (.r [.mv 2 (.c (.i .i64 0))])
 (.seq (.r [.mv 3 (.t 0), .len 4 true (.t 3), .bin 5 .add (.t 4) (.c (.i .i64 60)), .bin 6 .sub (.t 5) (.c (.i .i64 1)), .bin 7 .quo (.t 6) (.c (.i .i64 60)), .mv 2 (.t 7)])
 (.ret)))

def f_p_impl_Pager_releaseAll : Fd := .ir 2 21 [.t 4]
 (.seq (.r [.mv 4 (.c (.i .i64 0))])
 (.seq (.seq (.r [.mv 8 (.t 1), .len 9 false (.t 8), .mv 10 (.c (.i .i64 0))])
 (.blk 0 (.loop [0, 8, 9, 10] [] [] (.seq (.r [.bin 11 .lss (.t 10) (.t 9)])
 (.seq (.cond (.t 11) (.skip)
 (.ex 0))
 (.seq (.blk 1 (.seq (.r [.ixa 12 (.t 8) (.t 10) 1, .ld 13 (.t 12) 1 false, .mv 6 (.t 13)])
 (.seq (.r [.mv 14 (.t 0), .mv 15 (.t 6), .call (some 16) 256 [((.t 14), .m 12), ((.t 15), .b 0), ((.c (.i .i64 1)), .b 0)], .mv 7 (.t 16)])
 (.seq (.r [.mv 17 (.t 7), .bin 18 .neq (.t 17) (.c (.i .i64 0))])
 (.cond (.t 18) (.seq (.r [.mv 19 (.t 7), .mv 4 (.t 19)])
 (.ret))
 (.skip))))))
 (.r [.bin 20 .add (.t 10) (.c (.i .i64 1)), .mv 10 (.t 20)])))))))
 (.seq (.r [.mv 4 (.c (.i .i64 0))])
 (.ret))))

def f_p_impl_Pager_grow : Fd := .ir 3 27 [.t 6, .t 7]
 (.seq (.r [.mv 6 (.c (.nil)), .mv 7 (.c (.i .i64 0))])
 (.seq (.blk 0 (.loop [0, 1, 2] [(1, 1)] [] (.seq (.seq (.r [.mv 10 (.t 1), .len 11 false (.t 10), .mv 12 (.t 2), .bin 13 .lss (.t 11) (.t 12)])
 (.cond (.t 13) (.skip)
 (.ex 0)))
 (.blk 1 (.seq (.r [.mv 15 (.t 0), .call (some 16) 257 [((.t 15), .m 12), ((.c (.i .i64 1)), .b 0)], .mv 14 (.t 16), .ext 17 (.t 14) 0, .ext 18 (.t 14) 1, .mv 8 (.t 17), .mv 9 (.t 18)])
 (.seq (.seq (.r [.mv 19 (.t 9), .bin 20 .neq (.t 19) (.c (.i .i64 0))])
 (.cond (.t 20) (.seq (.r [.mv 21 (.t 9), .mv 6 (.c (.nil)), .mv 7 (.t 21)])
 (.ret))
 (.skip)))
 (.r [.mv 22 (.t 1), .mv 23 (.t 8), .bsl 24 1 [(.t 23)], .app 25 (.t 22) (.t 24) 1, .mv 1 (.t 25)])))))))
 (.seq (.r [.mv 26 (.t 1), .mv 6 (.t 26), .mv 7 (.c (.i .i64 0))])
 (.ret))))

def f_p_impl_Pager_writeChain : Fd := .ir 3 52 [.t 6]
 (.seq (.r [.mv 6 (.c (.i .i64 0))])
 (.seq (.seq (.r [.mv 12 (.t 1), .len 13 false (.t 12), .mv 14 (.c (.i .i64 0))])
 (.blk 0 (.loop [0, 1, 2, 12, 13, 14] [] [] (.seq (.r [.bin 15 .lss (.t 14) (.t 13)])
 (.seq (.cond (.t 15) (.skip)
 (.ex 0))
 (.seq (.blk 1 (.seq (.r [.mv 16 (.t 14), .ixa 17 (.t 12) (.t 14) 1, .ld 18 (.t 17) 1 false, .mv 7 (.t 16), .mv 8 (.t 18)])
 (.seq (.r [.mv 9 (.c (.i .i64 0))])
 (.seq (.seq (.r [.mv 19 (.t 7), .bin 20 .add (.t 19) (.c (.i .i64 1)), .mv 21 (.t 1), .len 22 false (.t 21), .bin 23 .lss (.t 20) (.t 22)])
 (.cond (.t 23) (.r [.mv 24 (.t 1), .mv 25 (.t 7), .bin 26 .add (.t 25) (.c (.i .i64 1)), .ixa 27 (.t 24) (.t 26) 1, .ld 28 (.t 27) 1 false, .mv 9 (.t 28)])
 (.skip)))
 (.seq (.r [.mv 29 (.t 2), .len 30 true (.t 29), .mm 31 false (.c (.i .i64 60)) (.t 30), .mv 10 (.t 31)])
 (.seq (.seq (.r [.mv 32 (.t 0), .mv 33 (.t 8), .mv 34 (.t 9), .call (some 35) 255 [((.t 34), .b 0), ((.c (.i .i64 2)), .b 0)], .mv 36 (.t 10), .call (some 37) 255 [((.t 36), .b 0), ((.c (.i .i64 2)), .b 0)], .bin 38 .add (.t 35) (.t 37), .mv 39 (.t 2), .mv 40 (.t 10), .ck (.np (.t 39)) (.slc 41 (.t 39) none (some (.t 40)) 0), .bin 42 .add (.t 38) (.t 41), .call (some 43) 258 [((.t 42), .b 0), ((.c (.i .i64 64)), .b 0)], .call (some 44) 259 [((.t 32), .m 12), ((.t 33), .b 0), ((.t 43), .b 0)], .mv 11 (.t 44)])
 (.seq (.r [.mv 45 (.t 11), .bin 46 .neq (.t 45) (.c (.i .i64 0))])
 (.cond (.t 46) (.seq (.r [.mv 47 (.t 11), .mv 6 (.t 47)])
 (.ret))
 (.skip))))
 (.r [.mv 48 (.t 2), .mv 49 (.t 10), .slc 50 (.t 48) (some (.t 49)) none 0, .mv 2 (.t 50)])))))))
 (.r [.bin 51 .add (.t 14) (.c (.i .i64 1)), .mv 14 (.t 51)])))))))
 (.seq (.r [.mv 6 (.c (.i .i64 0))])
 (.ret))))

def f_laws_eqMessage : Fd := .ir 2 20 [.t 4]
 (.seq (.r [.box 2 (.t 0), .box 3 (.t 1), .mv 4 (.c (.b false))])
 (.seq (.seq (.r [.fad 5 (.t 2) 0, .ld 6 (.t 5) 1 false, .fad 7 (.t 3) 0, .ld 8 (.t 7) 1 false, .bin 9 .neq (.t 6) (.t 8)])
 (.cond (.t 9) (.seq (.r [.mv 4 (.c (.b false))])
 (.ret))
 (.skip)))
 (.seq (.seq (.r [.fad 10 (.t 2) 1, .ld 11 (.t 10) 1 false, .fad 12 (.t 3) 1, .ld 13 (.t 12) 1 false, .bin 14 .neq (.t 11) (.t 13)])
 (.cond (.t 14) (.seq (.r [.mv 4 (.c (.b false))])
 (.ret))
 (.skip)))
 (.seq (.seq (.r [.fad 15 (.t 2) 2, .ld 16 (.t 15) 1 false, .fad 17 (.t 3) 2, .ld 18 (.t 17) 1 false, .bin 19 .neq (.t 16) (.t 18)])
 (.cond (.t 19) (.seq (.r [.mv 4 (.c (.b false))])
 (.ret))
 (.skip)))
 (.seq (.r [.mv 4 (.c (.b true))])
 (.ret))))))

def f_laws_heldStringS : Fd := .ir 2 22 [.t 4]
 (.seq (.r [.mv 4 (.c (.i .i64 0))])
 (.seq (.seq (.r [.mv 5 (.c (.i .i64 0))])
 (.blk 0 (.loop [0, 1, 5] [] [] (.seq (.seq (.r [.mv 6 (.t 5), .mv 7 (.t 0), .len 8 false (.t 7), .bin 9 .lss (.t 6) (.t 8)])
 (.cond (.t 9) (.skip)
 (.ex 0)))
 (.seq (.blk 1 (.seq (.seq (.r [.mv 12 (.t 0), .mv 13 (.t 5), .ixa 14 (.t 12) (.t 13) 1, .ld 15 (.t 14) 1 false, .mv 16 (.t 1), .call (some 17) 64 [((.t 16), .b 0)], .bin 18 .neq (.t 15) (.t 17)])
 (.cond (.t 18) (.seq (.r [.mv 4 (.c (.i .i64 (-1)))])
 (.ret))
 (.skip)))
 (.r [.mv 19 (.t 1), .bin 20 .add (.t 19) (.c (.i .i64 1)), .mv 1 (.t 20)])))
 (.r [.mv 10 (.t 5), .bin 11 .add (.t 10) (.c (.i .i64 1)), .mv 5 (.t 11)]))))))
 (.seq (.r [.mv 21 (.t 1), .mv 4 (.t 21)])
 (.ret))))

def f_laws_heldPutS : Fd := .ir 2 32 [.t 4]
 (.seq (.r [.mv 4 (.c (.i .i64 0))])
 (.seq (.seq (.r [.mv 5 (.c (.i .i64 0))])
 (.blk 0 (.loop [0, 1, 5] [] [] (.seq (.seq (.r [.mv 6 (.t 5), .mv 7 (.t 0), .len 8 false (.t 7), .bin 9 .lss (.t 6) (.t 8)])
 (.cond (.t 9) (.skip)
 (.ex 0)))
 (.seq (.blk 1 (.seq (.seq (.r [.mv 12 (.t 0), .mv 13 (.t 5), .ixa 14 (.t 12) (.t 13) 2, .fad 15 (.t 14) 0, .ld 16 (.t 15) 1 false, .mv 17 (.t 1), .bin 18 .neq (.t 16) (.t 17)])
 (.cond (.t 18) (.seq (.r [.mv 4 (.c (.i .i64 (-1)))])
 (.ret))
 (.skip)))
 (.seq (.r [.mv 19 (.t 1), .bin 20 .add (.t 19) (.c (.i .i64 1)), .mv 1 (.t 20)])
 (.seq (.seq (.r [.mv 21 (.t 0), .mv 22 (.t 5), .ixa 23 (.t 21) (.t 22) 2, .fad 24 (.t 23) 1, .ld 25 (.t 24) 1 false, .mv 26 (.t 1), .call (some 27) 64 [((.t 26), .b 0)], .bin 28 .neq (.t 25) (.t 27)])
 (.cond (.t 28) (.seq (.r [.mv 4 (.c (.i .i64 (-1)))])
 (.ret))
 (.skip)))
 (.r [.mv 29 (.t 1), .bin 30 .add (.t 29) (.c (.i .i64 1)), .mv 1 (.t 30)])))))
 (.r [.mv 10 (.t 5), .bin 11 .add (.t 10) (.c (.i .i64 1)), .mv 5 (.t 11)]))))))
 (.seq (.r [.mv 31 (.t 1), .mv 4 (.t 31)])
 (.ret))))

def f_spec_l14Encode : Fd := .ir 1 48 [.t 2]
 (.seq (.r [.box 1 (.t 0), .mv 2 (.c (.s []))])
 (.seq (.r [.fad 6 (.t 1) 0, .ld 7 (.t 6) 1 false, .call (some 8) 268 [((.t 7), .b 0)], .fad 9 (.t 1) 1, .ck (.np (.t 9)) (.ld 10 (.t 9) 1 false), .call (some 11) 250 [((.t 10), .b 0), ((.c (.i .i64 2)), .b 0), ((.c (.b false)), .b 0)], .bin 12 .add (.t 8) (.t 11), .fad 13 (.t 1) 2, .ck (.np (.t 13)) (.ld 14 (.t 13) 1 false), .len 15 false (.t 14), .call (some 16) 268 [((.t 15), .b 0)], .bin 17 .add (.t 12) (.t 16), .mv 3 (.t 17)])
 (.seq (.seq (.r [.mv 4 (.c (.i .i64 0))])
 (.blk 0 (.loop [1, 3, 4] [] [] (.seq (.seq (.r [.mv 18 (.t 4), .fad 19 (.t 1) 2, .ld 20 (.t 19) 1 false, .len 21 false (.t 20), .bin 22 .lss (.t 18) (.t 21)])
 (.cond (.t 22) (.skip)
 (.ex 0)))
 (.seq (.blk 1 (.seq (.r [.fad 25 (.t 1) 2, .ld 26 (.t 25) 1 false, .mv 27 (.t 4), .ixa 28 (.t 26) (.t 27) 3, .ld 29 (.t 28) 3 true, .alc 5 [.i .i64 0, .i .i64 0, .s []], .st (.t 5) (.t 29) 3])
 (.r [.mv 30 (.t 3), .fad 31 (.t 5) 0, .ld 32 (.t 31) 1 false, .call (some 33) 268 [((.t 32), .b 0)], .fad 34 (.t 5) 1, .ck (.np (.t 34)) (.ld 35 (.t 34) 1 false), .call (some 36) 268 [((.t 35), .b 0)], .bin 37 .add (.t 33) (.t 36), .fad 38 (.t 5) 2, .ck (.np (.t 38)) (.ld 39 (.t 38) 1 false), .len 40 true (.t 39), .call (some 41) 268 [((.t 40), .b 0)], .bin 42 .add (.t 37) (.t 41), .fad 43 (.t 5) 2, .ck (.np (.t 43)) (.ld 44 (.t 43) 1 false), .bin 45 .add (.t 42) (.t 44), .bin 46 .add (.t 30) (.t 45), .mv 3 (.t 46)])))
 (.r [.mv 23 (.t 4), .bin 24 .add (.t 23) (.c (.i .i64 1)), .mv 4 (.t 24)]))))))
 (.seq (.r [.mv 47 (.t 3), .mv 2 (.t 47)])
 (.ret)))))

def f_spec_l13Mark : Fd := .ir 4 55 [.t 8]
 (.seq (.r [.mv 8 (.c (.s []))])
 (.seq (.r [.mv 12 (.t 0), .cvb 13 (.t 12), .mv 9 (.t 13)])
 (.seq (.seq (.r [.mv 14 (.t 1), .mv 10 (.t 14)])
 (.blk 0 (.loop [1, 2, 3, 9, 10] [] [] (.seq (.seq (.r [.mv 15 (.t 10), .mv 16 (.t 1), .mv 17 (.t 2), .bin 18 .add (.t 16) (.t 17), .bin 19 .lss (.t 15) (.t 18)])
 (.cond (.t 19) (.skip)
 (.ex 0)))
 (.seq (.blk 1 (.seq (.r [.mv 22 (.t 10), .bin 23 .rem (.t 22) (.c (.i .i64 8)), .cvi 24 .u64 (.t 23), .bin 25 .shl (.c (.i .u8 1)) (.t 24), .mv 11 (.t 25)])
 (.seq (.r [.mv 26 (.t 3)])
 (.cond (.t 26) (.r [.mv 27 (.t 9), .mv 28 (.t 10), .bin 29 .quo (.t 28) (.c (.i .i64 8)), .bin 30 .add (.c (.i .i64 4)) (.t 29), .mv 31 (.t 9), .mv 32 (.t 10), .bin 33 .quo (.t 32) (.c (.i .i64 8)), .bin 34 .add (.c (.i .i64 4)) (.t 33), .ixa 35 (.t 31) (.t 34) 1, .ld 36 (.t 35) 1 false, .mv 37 (.t 11), .bin 38 .or (.t 36) (.t 37), .ixa 39 (.t 27) (.t 30) 1, .st (.t 39) (.t 38) 1])
 (.r [.mv 40 (.t 9), .mv 41 (.t 10), .bin 42 .quo (.t 41) (.c (.i .i64 8)), .bin 43 .add (.c (.i .i64 4)) (.t 42), .mv 44 (.t 9), .mv 45 (.t 10), .bin 46 .quo (.t 45) (.c (.i .i64 8)), .bin 47 .add (.c (.i .i64 4)) (.t 46), .ixa 48 (.t 44) (.t 47) 1, .ld 49 (.t 48) 1 false, .mv 50 (.t 11), .bin 51 .andNot (.t 49) (.t 50), .ixa 52 (.t 40) (.t 43) 1, .st (.t 52) (.t 51) 1])))))
 (.r [.mv 20 (.t 10), .bin 21 .add (.t 20) (.c (.i .i64 1)), .mv 10 (.t 21)]))))))
 (.seq (.r [.mv 53 (.t 9), .cvs 54 (.t 53), .mv 8 (.t 54)])
 (.ret)))))

def f_spec_l13Put : Fd := .ir 2 14 [.t 4]
 (.seq (.r [.mv 4 (.c (.i .i64 0))])
 (.seq (.seq (.r [.mv 5 (.t 0), .mv 6 (.t 0), .nck 7 (.t 6), .fad 8 (.t 7) 4, .ld 9 (.t 8) 4 true, .call (some 10) 69 [((.t 9), .b 0)], .mv 11 (.t 1), .call (some 12) 252 [((.t 5), .m 12), ((.t 10), .b 0), ((.t 11), .b 0)], .un 13 .not (.t 12)])
 (.cond (.t 13) (.seq (.r [.mv 4 (.c (.i .i64 5))])
 (.ret))
 (.skip)))
 (.seq (.r [.mv 4 (.c (.i .i64 0))])
 (.ret))))

def f_spec_l13Allocate : Fd := .ir 2 21 [.t 4, .t 5]
 (.seq (.r [.mv 4 (.c (.i .i64 0)), .mv 5 (.c (.i .i64 0))])
 (.seq (.r [.mv 7 (.t 0), .call (some 8) 269 [((.t 7), .b 12)], .mv 9 (.t 1), .call (some 10) 270 [((.t 8), .b 2), ((.t 9), .b 0)], .mv 6 (.t 10)])
 (.seq (.seq (.r [.mv 11 (.t 6), .bin 12 .eql (.t 11) (.c (.i .i64 0))])
 (.cond (.t 12) (.seq (.r [.mv 4 (.c (.i .i64 0)), .mv 5 (.c (.i .i64 5))])
 (.ret))
 (.skip)))
 (.seq (.r [.mv 13 (.t 6), .mv 14 (.t 0), .mv 15 (.t 0), .call (some 16) 71 [((.t 15), .b 12)], .mv 17 (.t 6), .mv 18 (.t 1), .call (some 19) 246 [((.t 16), .b 0), ((.t 17), .b 0), ((.t 18), .b 0), ((.c (.b true)), .b 0)], .call (some 20) 247 [((.t 14), .m 12), ((.t 19), .b 0)], .mv 4 (.t 13), .mv 5 (.t 20)])
 (.ret)))))

def f_spec_l00Min : Fd := .ir 2 10 [.t 4]
 (.seq (.r [.mv 4 (.c (.i .i64 0))])
 (.seq (.seq (.r [.mv 5 (.t 0), .mv 6 (.t 1), .bin 7 .lss (.t 5) (.t 6)])
 (.cond (.t 7) (.seq (.r [.mv 8 (.t 0), .mv 4 (.t 8)])
 (.ret))
 (.skip)))
 (.seq (.r [.mv 9 (.t 1), .mv 4 (.t 9)])
 (.ret))))

def f_spec_l02Put : Fd := .ir 3 30 [.t 6]
 (.seq (.r [.mv 6 (.c (.s []))])
 (.seq (.r [.mv 7 (.c (.s []))])
 (.seq (.seq (.r [.mv 8 (.c (.i .i64 0))])
 (.blk 0 (.loop [0, 1, 2, 7, 8] [] [] (.seq (.seq (.r [.mv 10 (.t 8), .mv 11 (.t 1), .bin 12 .lss (.t 10) (.t 11)])
 (.cond (.t 12) (.skip)
 (.ex 0)))
 (.seq (.blk 1 (.seq (.r [.mv 15 (.t 0), .mv 16 (.t 8), .bin 17 .mul (.c (.i .i64 8)) (.t 16), .cvi 18 .u64 (.t 17), .bin 19 .shr (.t 15) (.t 18), .bin 20 .and (.t 19) (.c (.i .i64 255)), .call (some 21) 268 [((.t 20), .b 0)], .mv 9 (.t 21)])
 (.seq (.r [.mv 22 (.t 2)])
 (.cond (.t 22) (.r [.mv 23 (.t 9), .mv 24 (.t 7), .bin 25 .add (.t 23) (.t 24), .mv 7 (.t 25)])
 (.r [.mv 26 (.t 7), .mv 27 (.t 9), .bin 28 .add (.t 26) (.t 27), .mv 7 (.t 28)])))))
 (.r [.mv 13 (.t 8), .bin 14 .add (.t 13) (.c (.i .i64 1)), .mv 8 (.t 14)]))))))
 (.seq (.r [.mv 29 (.t 7), .mv 6 (.t 29)])
 (.ret)))))

def f_spec_l01Pad : Fd := .ir 2 18 [.t 4]
 (.seq (.r [.mv 4 (.c (.s []))])
 (.seq (.seq (.r [.mv 5 (.t 0), .len 6 true (.t 5), .mv 7 (.t 1), .bin 8 .geq (.t 6) (.t 7)])
 (.cond (.t 8) (.seq (.r [.mv 9 (.t 0), .mv 4 (.t 9)])
 (.ret))
 (.skip)))
 (.seq (.r [.mv 10 (.t 0), .mv 11 (.t 1), .mv 12 (.t 0), .len 13 true (.t 12), .bin 14 .sub (.t 11) (.t 13), .mks 15 1 (.i .u8 0) (.t 14) (.t 14), .cvs 16 (.t 15), .bin 17 .add (.t 10) (.t 16), .mv 4 (.t 17)])
 (.ret))))

def f_spec_l12Set : Fd := .ir 3 29 [.t 6]
 (.seq (.r [.mv 6 (.c (.b false))])
 (.seq (.r [.mv 8 (.t 0), .nck 9 (.t 8), .fad 10 (.t 9) 11, .ld 11 (.t 10) 1 false, .mv 12 (.t 1), .mv 13 (.t 2), .bld 14 [.i .i64 0, .s []] [(0, 1, (.t 12)), (1, 1, (.t 13))], .bsl 15 2 [(.t 14)], .call (some 16) 271 [((.t 11), .b 2), ((.t 15), .b 2)], .mv 7 (.t 16)])
 (.seq (.seq (.r [.mv 17 (.t 0), .nck 18 (.t 17), .fad 19 (.t 18) 4, .ld 20 (.t 19) 4 true, .mv 21 (.t 7), .len 22 false (.t 21), .call (some 23) 42 [((.t 20), .b 0), ((.t 22), .b 0)], .un 24 .not (.t 23)])
 (.cond (.t 24) (.seq (.r [.mv 6 (.c (.b false))])
 (.ret))
 (.skip)))
 (.seq (.r [.mv 25 (.t 0), .mv 26 (.t 7), .nck 27 (.t 25), .fad 28 (.t 27) 11, .st (.t 28) (.t 26) 1])
 (.seq (.r [.mv 6 (.c (.b true))])
 (.ret))))))

def f_impl_Disk_clone : Fd := .ir 1 14 [.c 2 4 true]
 (.seq (.r [.box 1 (.t 0), .alc 2 [.nil, .nil, .i .i64 0, .b false]])
 (.seq (.r [.fad 3 (.t 1) 0, .ld 4 (.t 3) 1 false, .call (some 5) 272 [((.t 4), .b 1)], .fad 6 (.t 1) 1, .ck (.np (.t 6)) (.ld 7 (.t 6) 1 false), .call (some 8) 273 [((.t 7), .b 2)], .fad 9 (.t 1) 2, .ck (.np (.t 9)) (.ld 10 (.t 9) 1 false), .fad 11 (.t 1) 3, .ck (.np (.t 11)) (.ld 12 (.t 11) 1 false), .bld 13 [.nil, .nil, .i .i64 0, .b false] [(0, 1, (.t 5)), (1, 1, (.t 8)), (2, 1, (.t 10)), (3, 1, (.t 12))], .st (.t 2) (.t 13) 4])
 (.ret)))

def f_impl_putBytes : Fd := .ir 2 25 [.t 4]
 (.seq (.r [.mv 4 (.c (.s []))])
 (.seq (.r [.mv 7 (.t 1), .mks 8 1 (.i .u8 0) (.t 7) (.t 7), .mv 5 (.t 8)])
 (.seq (.seq (.r [.mv 9 (.t 5), .len 10 false (.t 9), .mv 11 (.c (.i .i64 0))])
 (.blk 0 (.loop [0, 5, 10, 11] [] [] (.seq (.r [.bin 12 .lss (.t 11) (.t 10)])
 (.seq (.cond (.t 12) (.skip)
 (.ex 0))
 (.seq (.blk 1 (.seq (.r [.mv 13 (.t 11), .mv 6 (.t 13)])
 (.r [.mv 14 (.t 5), .mv 15 (.t 6), .mv 16 (.t 0), .mv 17 (.t 6), .bin 18 .mul (.c (.i .i64 8)) (.t 17), .bin 19 .shr (.t 16) (.t 18), .cvi 20 .u8 (.t 19), .ixa 21 (.t 14) (.t 15) 1, .st (.t 21) (.t 20) 1])))
 (.r [.bin 22 .add (.t 11) (.c (.i .i64 1)), .mv 11 (.t 22)])))))))
 (.seq (.r [.mv 23 (.t 5), .cvs 24 (.t 23), .mv 4 (.t 24)])
 (.ret)))))

def f_p_impl_Pager_release : Fd := .ir 3 29 [.t 6]
 (.seq (.r [.mv 6 (.c (.i .i64 0))])
 (.seq (.seq (.r [.mv 8 (.t 0), .mv 9 (.t 1), .mv 10 (.t 2), .call (some 11) 166 [((.t 8), .b 12), ((.t 9), .b 0), ((.t 10), .b 0)], .un 12 .not (.t 11)])
 (.cond (.t 12) (.seq (.r [.mv 6 (.c (.i .i64 2))])
 (.ret))
 (.skip)))
 (.seq (.seq (.r [.mv 13 (.t 1), .mv 7 (.t 13)])
 (.blk 0 (.loop [0, 1, 2, 7] [] [] (.seq (.seq (.r [.mv 14 (.t 7), .mv 15 (.t 1), .mv 16 (.t 2), .bin 17 .add (.t 15) (.t 16), .bin 18 .lss (.t 14) (.t 17)])
 (.cond (.t 18) (.skip)
 (.ex 0)))
 (.seq (.blk 1 (.seq (.r [.mv 21 (.t 0), .mv 22 (.t 7), .call (some 23) 148 [((.t 21), .b 12), ((.t 22), .b 0)], .un 24 .not (.t 23)])
 (.cond (.t 24) (.seq (.r [.mv 6 (.c (.i .i64 6))])
 (.ret))
 (.skip))))
 (.r [.mv 19 (.t 7), .bin 20 .add (.t 19) (.c (.i .i64 1)), .mv 7 (.t 20)]))))))
 (.seq (.r [.mv 25 (.t 0), .mv 26 (.t 1), .mv 27 (.t 2), .call (some 28) 274 [((.t 25), .m 12), ((.t 26), .b 0), ((.t 27), .b 0), ((.c (.b false)), .b 0)], .mv 6 (.t 28)])
 (.ret)))))

def f_p_impl_Pager_allocate : Fd := .ir 2 44 [.t 4, .t 5]
 (.seq (.r [.mv 4 (.c (.i .i64 0)), .mv 5 (.c (.i .i64 0))])
 (.seq (.r [.alc 6 [.i .i64 0, .i .i64 0]])
 (.seq (.seq (.r [.mv 9 (.t 0), .call (some 10) 275 [((.t 9), .b 12)], .len 11 false (.t 10), .mv 12 (.c (.i .i64 0))])
 (.blk 0 (.loop [0, 1, 6, 10, 11, 12] [] [] (.seq (.r [.bin 13 .lss (.t 12) (.t 11)])
 (.seq (.cond (.t 13) (.skip)
 (.ex 0))
 (.seq (.blk 1 (.seq (.r [.ixa 14 (.t 10) (.t 12) 2, .ld 15 (.t 14) 2 true, .alc 8 [.i .i64 0, .i .i64 0], .st (.t 8) (.t 15) 2])
 (.seq (.r [.fad 16 (.t 8) 1, .ld 17 (.t 16) 1 false, .mv 18 (.t 1), .bin 19 .geq (.t 17) (.t 18), .mv 20 (.t 19), .g 20 true (some 21) (.fad 21 (.t 6) 1), .g 20 true (some 22) (.ld 22 (.t 21) 1 false), .g 20 true (some 23) (.bin 23 .eql (.t 22) (.c (.i .i64 0))), .g 20 true (some 24) (.mv 24 (.t 23)), .g 24 false (some 25) (.fad 25 (.t 8) 1), .g 24 false (some 26) (.ld 26 (.t 25) 1 false), .g 24 false (some 27) (.fad 27 (.t 6) 1), .g 24 false (some 28) (.ld 28 (.t 27) 1 false), .g 24 false (some 29) (.bin 29 .lss (.t 26) (.t 28)), .g 20 true (some 30) (.pick 30 (.t 24) (.c (.b true)) (.t 29)), .pick 31 (.t 20) (.t 30) (.c (.b false))])
 (.cond (.t 31) (.r [.ld 32 (.t 8) 2 true, .st (.t 6) (.t 32) 2])
 (.skip)))))
 (.r [.bin 33 .add (.t 12) (.c (.i .i64 1)), .mv 12 (.t 33)])))))))
 (.seq (.seq (.r [.fad 34 (.t 6) 1, .ld 35 (.t 34) 1 false, .bin 36 .eql (.t 35) (.c (.i .i64 0))])
 (.cond (.t 36) (.seq (.r [.mv 4 (.c (.i .i64 0)), .mv 5 (.c (.i .i64 5))])
 (.ret))
 (.skip)))
 (.seq (.r [.fad 37 (.t 6) 0, .ck (.sb (.t 37) (.t 6)) (.ld 38 (.t 37) 1 false), .mv 39 (.t 0), .fad 40 (.t 6) 0, .ld 41 (.t 40) 1 false, .mv 42 (.t 1), .ck (.dj [.t 6]) (.call (some 43) 274 [((.t 39), .m 12), ((.t 41), .b 0), ((.t 42), .b 0), ((.c (.b true)), .b 0)]), .mv 4 (.t 38), .mv 5 (.t 43)])
 (.ret))))))

def f_impl_padded : Fd := .ir 2 12 [.t 4]
 (.seq (.r [.mv 4 (.c (.s []))])
 (.seq (.r [.mv 5 (.t 0), .mv 6 (.t 1), .mv 7 (.t 0), .len 8 true (.t 7), .bin 9 .sub (.t 6) (.t 8), .call (some 10) 277 [((.t 9), .b 0)], .bin 11 .add (.t 5) (.t 10), .mv 4 (.t 11)])
 (.ret)))

def f_p_impl_Pager_set : Fd := .ir 3 54 [.t 6]
 (.seq (.r [.mv 6 (.c (.i .i64 0))])
 (.seq (.r [.mv 10 (.t 0), .nck 11 (.t 10), .fad 12 (.t 11) 11, .ld 13 (.t 12) 1 false, .mv 14 (.t 1), .call (some 15) 123 [((.t 13), .b 2), ((.t 14), .b 0)], .mv 9 (.t 15), .ext 16 (.t 9) 0, .ext 17 (.t 9) 1, .mv 7 (.t 16), .mv 8 (.t 17)])
 (.seq (.blk 0 (.seq (.r [.mv 32 (.t 8), .mv 31 (.t 32)])
 (.cond (.t 31) (.r [.mv 33 (.t 0), .nck 34 (.t 33), .fad 35 (.t 34) 11, .ld 36 (.t 35) 1 false, .mv 37 (.t 7), .mv 38 (.t 2), .ixa 39 (.t 36) (.t 37) 2, .fad 40 (.t 39) 1, .st (.t 40) (.t 38) 1])
 (.seq (.r [.mv 42 (.t 0), .nck 43 (.t 42), .fad 44 (.t 43) 4, .ld 45 (.t 44) 4 true, .mv 46 (.t 0), .nck 47 (.t 46), .fad 48 (.t 47) 11, .ld 49 (.t 48) 1 false, .len 50 false (.t 49), .bin 51 .add (.t 50) (.c (.i .i64 1)), .call (some 52) 53 [((.t 45), .b 0), ((.t 51), .b 0)], .un 53 .not (.t 52), .mv 41 (.t 53)])
 (.cond (.t 41) (.seq (.r [.mv 6 (.c (.i .i64 5))])
 (.ret))
 (.r [.mv 18 (.t 0), .mv 19 (.t 0), .nck 20 (.t 19), .fad 21 (.t 20) 11, .ld 22 (.t 21) 1 false, .mv 23 (.t 7), .mv 24 (.t 1), .mv 25 (.t 2), .bld 26 [.i .i64 0, .s []] [(0, 1, (.t 24)), (1, 1, (.t 25))], .bsl 27 2 [(.t 26)], .call (some 28) 276 [((.t 22), .m 0), ((.t 23), .b 0), ((.t 27), .m 0)], .nck 29 (.t 18), .fad 30 (.t 29) 11, .st (.t 30) (.t 28) 1]))))))
 (.seq (.r [.mv 6 (.c (.i .i64 0))])
 (.ret)))))

def f_spec_l02Byte : Fd := .ir 1 7 [.t 2]
 (.seq (.r [.mv 2 (.c (.s []))])
 (.seq (.r [.mv 3 (.t 0), .cvi 4 .u8 (.t 3), .bsl 5 1 [(.t 4)], .cvs 6 (.t 5), .mv 2 (.t 6)])
 (.ret)))

def f_spec_l13Runs : Fd := .ir 1 54 [.t 2]
 (.seq (.r [.mv 2 (.c (.nil))])
 (.seq (.r [.mv 9 (.t 0), .call (some 10) 71 [((.t 9), .b 12)], .mv 3 (.t 10)])
 (.seq (.r [.bsl 11 2 [], .mv 4 (.t 11)])
 (.seq (.r [.mv 5 (.c (.b false))])
 (.seq (.seq (.r [.mv 12 (.t 0), .call (some 13) 169 [((.t 12), .b 12)], .mv 6 (.t 13)])
 (.blk 0 (.loop [0, 3, 4, 5, 6] [] [] (.seq (.seq (.r [.mv 14 (.t 6), .mv 15 (.t 0), .nck 16 (.t 15), .fad 17 (.t 16) 4, .fad 18 (.t 17) 0, .ld 19 (.t 18) 1 false, .bin 20 .lss (.t 14) (.t 19)])
 (.cond (.t 20) (.skip)
 (.ex 0)))
 (.seq (.blk 1 (.seq (.r [.mv 23 (.t 3), .mv 24 (.t 6), .call (some 25) 154 [((.t 23), .b 0), ((.t 24), .b 0)], .un 26 .not (.t 25), .mv 7 (.t 26)])
 (.seq (.seq (.r [.mv 27 (.t 7), .mv 28 (.t 27), .g 28 true (some 29) (.mv 29 (.t 5)), .pick 30 (.t 28) (.t 29) (.c (.b false))])
 (.cond (.t 30) (.seq (.r [.mv 31 (.t 4), .len 32 false (.t 31), .bin 33 .sub (.t 32) (.c (.i .i64 1)), .mv 8 (.t 33)])
 (.r [.mv 34 (.t 4), .mv 35 (.t 8), .ixa 36 (.t 34) (.t 35) 2, .fad 37 (.t 36) 1, .ld 38 (.t 37) 1 false, .bin 39 .add (.t 38) (.c (.i .i64 1)), .ixa 40 (.t 34) (.t 35) 2, .fad 41 (.t 40) 1, .st (.t 41) (.t 39) 1]))
 (.skip)))
 (.seq (.seq (.r [.mv 42 (.t 7), .mv 43 (.t 42), .g 43 true (some 44) (.mv 44 (.t 5)), .g 43 true (some 45) (.un 45 .not (.t 44)), .pick 46 (.t 43) (.t 45) (.c (.b false))])
 (.cond (.t 46) (.r [.mv 47 (.t 4), .mv 48 (.t 6), .bld 49 [.i .i64 0, .i .i64 0] [(0, 1, (.t 48)), (1, 1, (.c (.i .i64 1)))], .bsl 50 2 [(.t 49)], .app 51 (.t 47) (.t 50) 2, .mv 4 (.t 51)])
 (.skip)))
 (.r [.mv 52 (.t 7), .mv 5 (.t 52)])))))
 (.r [.mv 21 (.t 6), .bin 22 .add (.t 21) (.c (.i .i64 1)), .mv 6 (.t 22)]))))))
 (.seq (.r [.mv 53 (.t 4), .mv 2 (.t 53)])
 (.ret)))))))

def f_spec_l13Best : Fd := .ir 2 42 [.t 4]
 (.seq (.r [.mv 4 (.c (.i .i64 0))])
 (.seq (.r [.bld 7 [.i .i64 0, .i .i64 0] [], .alc 5 [.i .i64 0, .i .i64 0], .st (.t 5) (.t 7) 2])
 (.seq (.seq (.r [.mv 6 (.c (.i .i64 0))])
 (.blk 0 (.loop [0, 1, 5, 6] [] [] (.seq (.seq (.r [.mv 8 (.t 6), .mv 9 (.t 0), .len 10 false (.t 9), .bin 11 .lss (.t 8) (.t 10)])
 (.cond (.t 11) (.skip)
 (.ex 0)))
 (.seq (.blk 1 (.seq (.r [.mv 14 (.t 0), .mv 15 (.t 6), .ixa 16 (.t 14) (.t 15) 2, .fad 17 (.t 16) 1, .ld 18 (.t 17) 1 false, .mv 19 (.t 1), .bin 20 .geq (.t 18) (.t 19), .mv 21 (.t 20), .g 21 true (some 22) (.fad 22 (.t 5) 0), .g 21 true (some 23) (.ld 23 (.t 22) 1 false), .g 21 true (some 24) (.bin 24 .eql (.t 23) (.c (.i .i64 0))), .g 21 true (some 25) (.mv 25 (.t 24)), .g 25 false (some 26) (.mv 26 (.t 0)), .g 25 false (some 27) (.mv 27 (.t 6)), .g 25 false (some 28) (.ixa 28 (.t 26) (.t 27) 2), .g 25 false (some 29) (.fad 29 (.t 28) 1), .g 25 false (some 30) (.ld 30 (.t 29) 1 false), .g 25 false (some 31) (.fad 31 (.t 5) 1), .g 25 false (some 32) (.ld 32 (.t 31) 1 false), .g 25 false (some 33) (.bin 33 .lss (.t 30) (.t 32)), .g 21 true (some 34) (.pick 34 (.t 25) (.c (.b true)) (.t 33)), .pick 35 (.t 21) (.t 34) (.c (.b false))])
 (.cond (.t 35) (.r [.mv 36 (.t 0), .mv 37 (.t 6), .ixa 38 (.t 36) (.t 37) 2, .ld 39 (.t 38) 2 true, .st (.t 5) (.t 39) 2])
 (.skip))))
 (.r [.mv 12 (.t 6), .bin 13 .add (.t 12) (.c (.i .i64 1)), .mv 6 (.t 13)]))))))
 (.seq (.r [.fad 40 (.t 5) 0, .ld 41 (.t 40) 1 false, .mv 4 (.t 41)])
 (.ret)))))

def f_spec_l11Merge : Fd := .ir 2 81 [.t 4]
 (.seq (.r [.mv 4 (.c (.nil))])
 (.seq (.r [.bsl 8 2 [], .mv 5 (.t 8)])
 (.seq (.r [.mv 6 (.c (.i .i64 0))])
 (.seq (.r [.mv 7 (.c (.i .i64 0))])
 (.seq (.blk 0 (.loop [0, 1, 5, 6, 7] [] [] (.seq (.seq (.r [.mv 9 (.t 6), .mv 10 (.t 0), .len 11 false (.t 10), .bin 12 .lss (.t 9) (.t 11), .mv 13 (.t 12), .g 13 false (some 14) (.mv 14 (.t 7)), .g 13 false (some 15) (.mv 15 (.t 1)), .g 13 false (some 16) (.len 16 false (.t 15)), .g 13 false (some 17) (.bin 17 .lss (.t 14) (.t 16)), .pick 18 (.t 13) (.c (.b true)) (.t 17)])
 (.cond (.t 18) (.skip)
 (.ex 0)))
 (.blk 1 (.blk 2 (.seq (.r [.mv 48 (.t 7), .mv 49 (.t 1), .len 50 false (.t 49), .bin 51 .eql (.t 48) (.t 50), .mv 52 (.t 51), .g 52 false (some 53) (.mv 53 (.t 6)), .g 52 false (some 54) (.mv 54 (.t 0)), .g 52 false (some 55) (.len 55 false (.t 54)), .g 52 false (some 56) (.bin 56 .lss (.t 53) (.t 55)), .g 52 false (some 57) (.mv 57 (.t 56)), .g 57 true (some 58) (.mv 58 (.t 0)), .g 57 true (some 59) (.mv 59 (.t 6)), .g 57 true (some 60) (.ixa 60 (.t 58) (.t 59) 2), .g 57 true (some 61) (.fad 61 (.t 60) 0), .g 57 true (some 62) (.ld 62 (.t 61) 1 false), .g 57 true (some 63) (.mv 63 (.t 1)), .g 57 true (some 64) (.mv 64 (.t 7)), .g 57 true (some 65) (.ixa 65 (.t 63) (.t 64) 2), .g 57 true (some 66) (.fad 66 (.t 65) 0), .g 57 true (some 67) (.ld 67 (.t 66) 1 false), .g 57 true (some 68) (.bin 68 .lss (.t 62) (.t 67)), .g 52 false (some 69) (.pick 69 (.t 57) (.t 68) (.c (.b false))), .pick 70 (.t 52) (.c (.b true)) (.t 69), .mv 47 (.t 70)])
 (.cond (.t 47) (.seq (.r [.mv 71 (.t 5), .mv 72 (.t 0), .mv 73 (.t 6), .ixa 74 (.t 72) (.t 73) 2, .ld 75 (.t 74) 2 true, .bsl 76 2 [(.t 75)], .app 77 (.t 71) (.t 76) 2, .mv 5 (.t 77)])
 (.r [.mv 78 (.t 6), .bin 79 .add (.t 78) (.c (.i .i64 1)), .mv 6 (.t 79)]))
 (.seq (.seq (.r [.mv 19 (.t 6), .mv 20 (.t 0), .len 21 false (.t 20), .bin 22 .lss (.t 19) (.t 21), .mv 23 (.t 22), .g 23 true (some 24) (.mv 24 (.t 0)), .g 23 true (some 25) (.mv 25 (.t 6)), .g 23 true (some 26) (.ixa 26 (.t 24) (.t 25) 2), .g 23 true (some 27) (.fad 27 (.t 26) 0), .g 23 true (some 28) (.ld 28 (.t 27) 1 false), .g 23 true (some 29) (.mv 29 (.t 1)), .g 23 true (some 30) (.mv 30 (.t 7)), .g 23 true (some 31) (.ixa 31 (.t 29) (.t 30) 2), .g 23 true (some 32) (.fad 32 (.t 31) 0), .g 23 true (some 33) (.ld 33 (.t 32) 1 false), .g 23 true (some 34) (.bin 34 .eql (.t 28) (.t 33)), .pick 35 (.t 23) (.t 34) (.c (.b false))])
 (.cond (.t 35) (.r [.mv 36 (.t 6), .bin 37 .add (.t 36) (.c (.i .i64 1)), .mv 6 (.t 37)])
 (.skip)))
 (.seq (.r [.mv 38 (.t 5), .mv 39 (.t 1), .mv 40 (.t 7), .ixa 41 (.t 39) (.t 40) 2, .ld 42 (.t 41) 2 true, .bsl 43 2 [(.t 42)], .app 44 (.t 38) (.t 43) 2, .mv 5 (.t 44)])
 (.r [.mv 45 (.t 7), .bin 46 .add (.t 45) (.c (.i .i64 1)), .mv 7 (.t 46)]))))))))))
 (.seq (.r [.mv 80 (.t 5), .mv 4 (.t 80)])
 (.ret)))))))

def f_p_impl_Pager_mark : Fd := .ir 4 53 [.t 8]
 (.seq (.r [.mv 8 (.c (.i .i64 0))])
 (.seq (.r [.mv 12 (.t 0), .mv 13 (.t 0), .call (some 14) 93 [((.t 13), .b 12)], .call (some 15) 94 [((.t 12), .b 12), ((.t 14), .b 0)], .cvb 16 (.t 15), .mv 9 (.t 16)])
 (.seq (.seq (.r [.mv 17 (.t 1), .mv 10 (.t 17)])
 (.blk 0 (.loop [0, 1, 2, 3, 9, 10] [] [] (.seq (.seq (.r [.mv 18 (.t 10), .mv 19 (.t 1), .mv 20 (.t 2), .bin 21 .add (.t 19) (.t 20), .bin 22 .lss (.t 18) (.t 21)])
 (.cond (.t 22) (.skip)
 (.ex 0)))
 (.seq (.blk 1 (.seq (.r [.mv 25 (.t 10), .bin 26 .rem (.t 25) (.c (.i .i64 8)), .bin 27 .shl (.c (.i .u8 1)) (.t 26), .mv 11 (.t 27)])
 (.seq (.r [.mv 28 (.t 3)])
 (.cond (.t 28) (.r [.mv 29 (.t 9), .mv 30 (.t 10), .bin 31 .quo (.t 30) (.c (.i .i64 8)), .bin 32 .add (.c (.i .i64 4)) (.t 31), .ixa 33 (.t 29) (.t 32) 1, .ld 34 (.t 33) 1 false, .mv 35 (.t 11), .bin 36 .or (.t 34) (.t 35), .ixa 37 (.t 29) (.t 32) 1, .st (.t 37) (.t 36) 1])
 (.r [.mv 38 (.t 9), .mv 39 (.t 10), .bin 40 .quo (.t 39) (.c (.i .i64 8)), .bin 41 .add (.c (.i .i64 4)) (.t 40), .ixa 42 (.t 38) (.t 41) 1, .ld 43 (.t 42) 1 false, .mv 44 (.t 11), .bin 45 .andNot (.t 43) (.t 44), .ixa 46 (.t 38) (.t 41) 1, .st (.t 46) (.t 45) 1])))))
 (.r [.mv 23 (.t 10), .bin 24 .add (.t 23) (.c (.i .i64 1)), .mv 10 (.t 24)]))))))
 (.seq (.r [.mv 47 (.t 0), .mv 48 (.t 0), .ck (.dj [.t 9]) (.call (some 49) 93 [((.t 48), .b 12)]), .mv 50 (.t 9), .ck (.sb (.t 50) (.t 9)) (.cvs 51 (.t 50)), .call (some 52) 259 [((.t 47), .m 12), ((.t 49), .b 0), ((.t 51), .b 0)], .mv 8 (.t 52)])
 (.ret)))))

def f_p_impl_Pager_freeRuns : Fd := .ir 1 47 [.t 2]
 (.seq (.r [.mv 2 (.c (.nil))])
 (.seq (.r [.mv 3 (.c (.nil))])
 (.seq (.r [.mv 4 (.c (.b false))])
 (.seq (.seq (.r [.mv 7 (.t 0), .call (some 8) 93 [((.t 7), .b 12)], .bin 9 .add (.t 8) (.c (.i .i64 1)), .mv 5 (.t 9)])
 (.blk 0 (.loop [0, 3, 4, 5] [(3, 2)] [] (.seq (.seq (.r [.mv 10 (.t 5), .mv 11 (.t 0), .nck 12 (.t 11), .fad 13 (.t 12) 4, .fad 14 (.t 13) 0, .ld 15 (.t 14) 1 false, .bin 16 .lss (.t 10) (.t 15)])
 (.cond (.t 16) (.skip)
 (.ex 0)))
 (.seq (.blk 1 (.seq (.r [.mv 19 (.t 4), .mv 6 (.t 19)])
 (.seq (.r [.mv 20 (.t 0), .mv 21 (.t 5), .call (some 22) 148 [((.t 20), .b 12), ((.t 21), .b 0)], .un 23 .not (.t 22), .mv 4 (.t 23)])
 (.blk 2 (.seq (.r [.mv 25 (.t 4), .mv 26 (.t 25), .g 26 true (some 27) (.mv 27 (.t 6)), .pick 28 (.t 26) (.t 27) (.c (.b false)), .mv 24 (.t 28)])
 (.cond (.t 24) (.r [.mv 29 (.t 3), .mv 30 (.t 3), .len 31 false (.t 30), .bin 32 .sub (.t 31) (.c (.i .i64 1)), .ixa 33 (.t 29) (.t 32) 2, .fad 34 (.t 33) 1, .ld 35 (.t 34) 1 false, .bin 36 .add (.t 35) (.c (.i .i64 1)), .ixa 37 (.t 29) (.t 32) 2, .fad 38 (.t 37) 1, .st (.t 38) (.t 36) 1])
 (.seq (.r [.mv 40 (.t 4), .mv 39 (.t 40)])
 (.cond (.t 39) (.r [.mv 41 (.t 3), .mv 42 (.t 5), .bld 43 [.i .i64 0, .i .i64 0] [(0, 1, (.t 42)), (1, 1, (.c (.i .i64 1)))], .bsl 44 2 [(.t 43)], .app 45 (.t 41) (.t 44) 2, .mv 3 (.t 45)])
 (.skip)))))))))
 (.r [.mv 17 (.t 5), .bin 18 .add (.t 17) (.c (.i .i64 1)), .mv 5 (.t 18)]))))))
 (.seq (.r [.mv 46 (.t 3), .mv 2 (.t 46)])
 (.ret))))))

def f_impl_zeros : Fd := .ir 1 5 [.t 2]
 (.seq (.r [.mv 2 (.c (.s []))])
 (.seq (.r [.mv 3 (.t 0), .call (some 4) 286 [((.c (.s [0])), .b 0), ((.t 3), .b 0)], .mv 2 (.t 4)])
 (.ret)))

def f_laws_FnExactWriteHeader : Fd := .ir 3 124 [.t 6]
 (.seq (.r [.box 3 (.t 0), .box 5 (.t 2), .mv 6 (.c (.b false))])
 (.seq (.r [.mv 7 (.c (.i .i64 1048576))])
 (.seq (.r [.ld 19 (.t 3) 12 true, .mv 20 (.t 7), .call (some 21) 0 [((.t 19), .b 0), ((.t 20), .b 0)], .mv 7 (.t 21)])
 (.seq (.seq (.r [.mv 22 (.t 7), .bin 23 .lss (.t 22) (.c (.i .i64 0))])
 (.cond (.t 23) (.seq (.r [.mv 6 (.c (.b true))])
 (.ret))
 (.skip)))
 (.seq (.r [.ld 24 (.t 5) 3 true, .mv 25 (.t 7), .call (some 26) 183 [((.t 24), .b 0), ((.t 25), .b 0)], .mv 7 (.t 26)])
 (.seq (.seq (.r [.mv 27 (.t 7), .bin 28 .lss (.t 27) (.c (.i .i64 0))])
 (.cond (.t 28) (.seq (.r [.mv 6 (.c (.b true))])
 (.ret))
 (.skip)))
 (.seq (.r [.ld 30 (.t 3) 12 true, .ck (.dq [.t 5]) (.call (some 31) 1 [((.t 30), .b 0)]), .mv 32 (.t 1), .ld 33 (.t 5) 3 true, .ck (.dq []) (.call (some 34) 184 [((.t 33), .b 0)]), .ck (.dq []) (.call (some 35) 185 [((.t 31), .b 0), ((.t 32), .b 0), ((.t 34), .b 0)]), .mv 29 (.t 35), .ext 36 (.t 29) 0, .ext 37 (.t 29) 1, .alc 8 [.nil, .nil, .i .i64 0, .b false, .i .i64 0, .i .i64 0, .i .i64 0, .i .i64 0, .i .i64 0, .i .i64 0, .nil, .nil], .st (.t 8) (.t 36) 12, .mv 9 (.t 37)])
 (.seq (.r [.ld 38 (.t 3) 12 true, .call (some 39) 1 [((.t 38), .b 0)], .alc 10 [.nil, .nil, .i .i64 0, .b false, .i .i64 0, .i .i64 0, .i .i64 0, .i .i64 0, .i .i64 0, .i .i64 0, .nil, .nil], .st (.t 10) (.t 39) 12])
 (.seq (.r [.ld 40 (.t 5) 3 true, .call (some 41) 184 [((.t 40), .b 0)], .alc 11 [.i .i64 0, .i .i64 0, .nil], .st (.t 11) (.t 41) 3])
 (.seq (.r [.ld 43 (.t 10) 12 true, .mv 44 (.t 1), .ld 45 (.t 11) 3 true, .call (some 46) 186 [((.t 43), .b 0), ((.t 44), .b 0), ((.t 45), .b 0)], .mv 42 (.t 46), .ext 47 (.t 42) 0, .ext 48 (.t 42) 1, .alc 12 [.nil, .nil, .i .i64 0, .b false, .i .i64 0, .i .i64 0, .i .i64 0, .i .i64 0, .i .i64 0, .i .i64 0, .nil, .nil], .st (.t 12) (.t 47) 12, .mv 13 (.t 48)])
 (.seq (.seq (.r [.ld 49 (.t 12) 12 true, .ld 50 (.t 8) 12 true, .call (some 51) 4 [((.t 49), .b 0), ((.t 50), .b 0)], .un 52 .not (.t 51), .mv 53 (.t 52), .g 53 false (some 54) (.mv 54 (.t 13)), .g 53 false (some 55) (.mv 55 (.t 9)), .g 53 false (some 56) (.bin 56 .neq (.t 54) (.t 55)), .pick 57 (.t 53) (.c (.b true)) (.t 56)])
 (.cond (.t 57) (.seq (.r [.mv 6 (.c (.b false))])
 (.ret))
 (.skip)))
 (.seq (.seq (.r [.ld 58 (.t 10) 12 true, .ld 59 (.t 3) 12 true, .ck (.dj [.t 10]) (.call (some 60) 1 [((.t 59), .b 0)]), .call (some 61) 4 [((.t 58), .b 0), ((.t 60), .b 0)], .un 62 .not (.t 61)])
 (.cond (.t 62) (.seq (.r [.mv 6 (.c (.b false))])
 (.ret))
 (.skip)))
 (.seq (.seq (.r [.ld 63 (.t 11) 3 true, .ld 64 (.t 5) 3 true, .ck (.dj [.t 11]) (.call (some 65) 184 [((.t 64), .b 0)]), .call (some 66) 187 [((.t 63), .b 0), ((.t 65), .b 0)], .un 67 .not (.t 66)])
 (.cond (.t 67) (.seq (.r [.mv 6 (.c (.b false))])
 (.ret))
 (.skip)))
 (.seq (.r [.mv 14 (.c (.i .i64 1))])
 (.seq (.r [.ld 68 (.t 10) 12 true, .mv 69 (.t 14), .call (some 70) 1008 [((.t 68), .m 0), ((.t 69), .b 0)], .mv 14 (.t 70)])
 (.seq (.r [.ld 71 (.t 11) 3 true, .mv 72 (.t 14), .call (some 73) 1188 [((.t 71), .m 0), ((.t 72), .b 0)], .mv 14 (.t 73)])
 (.seq (.seq (.r [.mv 74 (.t 14), .bin 75 .lss (.t 74) (.c (.i .i64 0)), .mv 76 (.t 75), .g 76 false (some 77) (.ld 77 (.t 12) 12 true), .g 76 false (some 78) (.ld 78 (.t 8) 12 true), .g 76 false (some 79) (.call (some 79) 4 [((.t 77), .b 0), ((.t 78), .b 0)]), .g 76 false (some 80) (.un 80 .not (.t 79)), .pick 81 (.t 76) (.c (.b true)) (.t 80), .mv 82 (.t 81), .g 82 false (some 83) (.mv 83 (.t 13)), .g 82 false (some 84) (.mv 84 (.t 9)), .g 82 false (some 85) (.bin 85 .neq (.t 83) (.t 84)), .pick 86 (.t 82) (.c (.b true)) (.t 85)])
 (.cond (.t 86) (.seq (.r [.mv 6 (.c (.b false))])
 (.ret))
 (.skip)))
 (.seq (.r [.mv 15 (.c (.i .i64 1))])
 (.seq (.r [.ld 87 (.t 12) 12 true, .mv 88 (.t 15), .call (some 89) 1008 [((.t 87), .m 0), ((.t 88), .b 0)], .mv 15 (.t 89)])
 (.seq (.r [.mv 16 (.c (.i .i64 1))])
 (.seq (.r [.ld 90 (.t 12) 12 true, .mv 91 (.t 16), .call (some 92) 189 [((.t 90), .b 0), ((.t 91), .b 0)], .mv 16 (.t 92)])
 (.seq (.seq (.r [.mv 93 (.t 16), .bin 94 .lss (.t 93) (.c (.i .i64 0))])
 (.cond (.t 94) (.seq (.r [.mv 6 (.c (.b false))])
 (.ret))
 (.skip)))
 (.seq (.seq (.r [.mv 95 (.t 16), .mv 96 (.t 15), .bin 97 .neq (.t 95) (.t 96)])
 (.cond (.t 97) (.seq (.r [.mv 6 (.c (.b false))])
 (.ret))
 (.skip)))
 (.seq (.r [.ld 99 (.t 3) 12 true, .ck (.dq [.t 5]) (.call (some 100) 1 [((.t 99), .b 0)]), .mv 101 (.t 1), .ld 102 (.t 5) 3 true, .ck (.dq []) (.call (some 103) 184 [((.t 102), .b 0)]), .ck (.dq []) (.call (some 104) 186 [((.t 100), .b 0), ((.t 101), .b 0), ((.t 103), .b 0)]), .mv 98 (.t 104), .ext 105 (.t 98) 0, .ext 106 (.t 98) 1, .alc 17 [.nil, .nil, .i .i64 0, .b false, .i .i64 0, .i .i64 0, .i .i64 0, .i .i64 0, .i .i64 0, .i .i64 0, .nil, .nil], .st (.t 17) (.t 105) 12, .mv 18 (.t 106)])
 (.seq (.seq (.r [.ld 107 (.t 17) 12 true, .ld 108 (.t 8) 12 true, .call (some 109) 4 [((.t 107), .b 0), ((.t 108), .b 0)], .un 110 .not (.t 109), .mv 111 (.t 110), .g 111 false (some 112) (.mv 112 (.t 18)), .g 111 false (some 113) (.mv 113 (.t 9)), .g 111 false (some 114) (.bin 114 .neq (.t 112) (.t 113)), .pick 115 (.t 111) (.c (.b true)) (.t 114)])
 (.cond (.t 115) (.seq (.r [.mv 6 (.c (.b false))])
 (.ret))
 (.skip)))
 (.seq (.r [.mv 16 (.c (.i .i64 1))])
 (.seq (.r [.ld 116 (.t 12) 12 true, .mv 117 (.t 16), .call (some 118) 189 [((.t 116), .b 0), ((.t 117), .b 0)], .mv 16 (.t 118)])
 (.seq (.seq (.r [.mv 119 (.t 16), .bin 120 .lss (.t 119) (.c (.i .i64 0))])
 (.cond (.t 120) (.seq (.r [.mv 6 (.c (.b false))])
 (.ret))
 (.skip)))
 (.seq (.seq (.r [.mv 121 (.t 16), .mv 122 (.t 15), .bin 123 .neq (.t 121) (.t 122)])
 (.cond (.t 123) (.seq (.r [.mv 6 (.c (.b false))])
 (.ret))
 (.skip)))
 (.seq (.r [.mv 6 (.c (.b true))])
 (.ret)))))))))))))))))))))))))))))))

def f_laws_markPager : Fd := .pin 2 18 [.t 4]
 (.seq (.r [.box 2 (.t 0), .mv 4 (.c (.i .i64 0))])
 (.seq (.r [.fad 5 (.t 2) 0, .ld 6 (.t 5) 4 true, .mv 7 (.t 1), .call (some 8) 1029 [((.t 6), .m 0), ((.t 7), .b 0)], .mv 1 (.t 8)])
 (.seq (.r [.fad 9 (.t 2) 10, .ld 10 (.t 9) 1 false, .mv 11 (.t 1), .call (some 12) 1030 [((.t 10), .m 0), ((.t 11), .b 0)], .mv 1 (.t 12)])
 (.seq (.r [.fad 13 (.t 2) 11, .ld 14 (.t 13) 1 false, .mv 15 (.t 1), .call (some 16) 1030 [((.t 14), .m 0), ((.t 15), .b 0)], .mv 1 (.t 16)])
 (.seq (.r [.mv 17 (.t 1), .mv 4 (.t 17)])
 (.ret))))))

def f_laws_markDisk : Fd := .pin 2 14 [.t 4]
 (.seq (.r [.box 2 (.t 0), .mv 4 (.c (.i .i64 0))])
 (.seq (.r [.fad 5 (.t 2) 0, .ld 6 (.t 5) 1 false, .mv 7 (.t 1), .call (some 8) 1062 [((.t 6), .m 0), ((.t 7), .b 0)], .mv 1 (.t 8)])
 (.seq (.r [.fad 9 (.t 2) 1, .ld 10 (.t 9) 1 false, .mv 11 (.t 1), .call (some 12) 1063 [((.t 10), .m 0), ((.t 11), .b 0)], .mv 1 (.t 12)])
 (.seq (.r [.mv 13 (.t 1), .mv 4 (.t 13)])
 (.ret)))))

def f_laws_markPageS : Fd := .pin 2 28 [.t 4]
 (.seq (.r [.mv 4 (.c (.i .i64 0))])
 (.seq (.seq (.r [.mv 5 (.c (.i .i64 0))])
 (.blk 0 (.loop [0, 1, 5] [] [(1000000, 1, 0)] (.seq (.seq (.r [.mv 6 (.t 5), .mv 7 (.t 0), .len 8 false (.t 7), .bin 9 .lss (.t 6) (.t 8)])
 (.cond (.t 9) (.skip)
 (.ex 0)))
 (.seq (.blk 1 (.seq (.r [.mv 12 (.t 0), .mv 13 (.t 5), .mv 14 (.t 1), .ixa 15 (.t 12) (.t 13) 2, .fad 16 (.t 15) 0, .st (.t 16) (.t 14) 1])
 (.seq (.r [.mv 17 (.t 1), .bin 18 .add (.t 17) (.c (.i .i64 1)), .mv 1 (.t 18)])
 (.seq (.r [.mv 19 (.t 0), .mv 20 (.t 5), .mv 21 (.t 1), .call (some 22) 64 [((.t 21), .b 0)], .ixa 23 (.t 19) (.t 20) 2, .fad 24 (.t 23) 1, .st (.t 24) (.t 22) 1])
 (.r [.mv 25 (.t 1), .bin 26 .add (.t 25) (.c (.i .i64 1)), .mv 1 (.t 26)])))))
 (.r [.mv 10 (.t 5), .bin 11 .add (.t 10) (.c (.i .i64 1)), .mv 5 (.t 11)]))))))
 (.seq (.r [.mv 27 (.t 1), .mv 4 (.t 27)])
 (.ret))))

def f_laws_markStringS : Fd := .pin 2 20 [.t 4]
 (.seq (.r [.mv 4 (.c (.i .i64 0))])
 (.seq (.seq (.r [.mv 5 (.c (.i .i64 0))])
 (.blk 0 (.loop [0, 1, 5] [] [(1000000, 1, 0)] (.seq (.seq (.r [.mv 6 (.t 5), .mv 7 (.t 0), .len 8 false (.t 7), .bin 9 .lss (.t 6) (.t 8)])
 (.cond (.t 9) (.skip)
 (.ex 0)))
 (.seq (.blk 1 (.seq (.r [.mv 12 (.t 0), .mv 13 (.t 5), .mv 14 (.t 1), .call (some 15) 64 [((.t 14), .b 0)], .ixa 16 (.t 12) (.t 13) 1, .st (.t 16) (.t 15) 1])
 (.r [.mv 17 (.t 1), .bin 18 .add (.t 17) (.c (.i .i64 1)), .mv 1 (.t 18)])))
 (.r [.mv 10 (.t 5), .bin 11 .add (.t 10) (.c (.i .i64 1)), .mv 5 (.t 11)]))))))
 (.seq (.r [.mv 19 (.t 1), .mv 4 (.t 19)])
 (.ret))))

def f_laws_markPutS : Fd := .pin 2 28 [.t 4]
 (.seq (.r [.mv 4 (.c (.i .i64 0))])
 (.seq (.seq (.r [.mv 5 (.c (.i .i64 0))])
 (.blk 0 (.loop [0, 1, 5] [] [(1000000, 1, 0)] (.seq (.seq (.r [.mv 6 (.t 5), .mv 7 (.t 0), .len 8 false (.t 7), .bin 9 .lss (.t 6) (.t 8)])
 (.cond (.t 9) (.skip)
 (.ex 0)))
 (.seq (.blk 1 (.seq (.r [.mv 12 (.t 0), .mv 13 (.t 5), .mv 14 (.t 1), .ixa 15 (.t 12) (.t 13) 2, .fad 16 (.t 15) 0, .st (.t 16) (.t 14) 1])
 (.seq (.r [.mv 17 (.t 1), .bin 18 .add (.t 17) (.c (.i .i64 1)), .mv 1 (.t 18)])
 (.seq (.r [.mv 19 (.t 0), .mv 20 (.t 5), .mv 21 (.t 1), .call (some 22) 64 [((.t 21), .b 0)], .ixa 23 (.t 19) (.t 20) 2, .fad 24 (.t 23) 1, .st (.t 24) (.t 22) 1])
 (.r [.mv 25 (.t 1), .bin 26 .add (.t 25) (.c (.i .i64 1)), .mv 1 (.t 26)])))))
 (.r [.mv 10 (.t 5), .bin 11 .add (.t 10) (.c (.i .i64 1)), .mv 5 (.t 11)]))))))
 (.seq (.r [.mv 27 (.t 1), .mv 4 (.t 27)])
 (.ret))))

def f_laws_markHeader : Fd := .pin 2 10 [.t 4]
 (.seq (.r [.box 2 (.t 0), .mv 4 (.c (.i .i64 0))])
 (.seq (.r [.fad 5 (.t 2) 2, .ld 6 (.t 5) 1 false, .mv 7 (.t 1), .call (some 8) 1203 [((.t 6), .m 0), ((.t 7), .b 0)], .mv 1 (.t 8)])
 (.seq (.r [.mv 9 (.t 1), .mv 4 (.t 9)])
 (.ret))))

def f_laws_markMessageS : Fd := .pin 2 35 [.t 4]
 (.seq (.r [.mv 4 (.c (.i .i64 0))])
 (.seq (.seq (.r [.mv 5 (.c (.i .i64 0))])
 (.blk 0 (.loop [0, 1, 5] [] [(1000000, 1, 0)] (.seq (.seq (.r [.mv 6 (.t 5), .mv 7 (.t 0), .len 8 false (.t 7), .bin 9 .lss (.t 6) (.t 8)])
 (.cond (.t 9) (.skip)
 (.ex 0)))
 (.seq (.blk 1 (.seq (.r [.mv 12 (.t 0), .mv 13 (.t 5), .mv 14 (.t 1), .ixa 15 (.t 12) (.t 13) 3, .fad 16 (.t 15) 0, .st (.t 16) (.t 14) 1])
 (.seq (.r [.mv 17 (.t 1), .bin 18 .add (.t 17) (.c (.i .i64 1)), .mv 1 (.t 18)])
 (.seq (.r [.mv 19 (.t 0), .mv 20 (.t 5), .mv 21 (.t 1), .ixa 22 (.t 19) (.t 20) 3, .fad 23 (.t 22) 1, .st (.t 23) (.t 21) 1])
 (.seq (.r [.mv 24 (.t 1), .bin 25 .add (.t 24) (.c (.i .i64 1)), .mv 1 (.t 25)])
 (.seq (.r [.mv 26 (.t 0), .mv 27 (.t 5), .mv 28 (.t 1), .call (some 29) 64 [((.t 28), .b 0)], .ixa 30 (.t 26) (.t 27) 3, .fad 31 (.t 30) 2, .st (.t 31) (.t 29) 1])
 (.r [.mv 32 (.t 1), .bin 33 .add (.t 32) (.c (.i .i64 1)), .mv 1 (.t 33)])))))))
 (.r [.mv 10 (.t 5), .bin 11 .add (.t 10) (.c (.i .i64 1)), .mv 5 (.t 11)]))))))
 (.seq (.r [.mv 34 (.t 1), .mv 4 (.t 34)])
 (.ret))))

def prog_0 : Prog := fun n => match n with
  | 0 => some f_laws_szPager
  | 1 => some f_laws_toPager
  | 4 => some f_laws_eqPager
  | 7 => some f_laws_eqInt64S
  | 13 => some f_laws_szDisk
  | 14 => some f_laws_szPageS
  | 16 => some f_spec_l12Ok
  | 18 => some f_laws_toDisk
  | 19 => some f_laws_toSuper
  | 20 => some f_laws_toPageS
  | 21 => some f_impl_ValidPager
  | 24 => some f_laws_eqDisk
  | 25 => some f_laws_eqSuper
  | 26 => some f_laws_eqPageS
  | 33 => some f_laws_szStringS
  | 34 => some f_laws_szPutS
  | 35 => some f_laws_szPage
  | 37 => some f_spec_l09Ok
  | 38 => some f_spec_ValidSuper
  | 39 => some f_spec_l00In
  | 40 => some f_spec_l11Pages
  | 41 => some f_spec_l11Within
  | 42 => some f_spec_l12Fits
  | 43 => some f_spec_l13Root
  | 46 => some f_laws_toStringS
  | 47 => some f_laws_toPutS
  | 48 => some f_laws_toPage
  | 49 => some f_impl_superFits
  | 50 => some f_impl_within
  | 51 => some f_impl_ValidPages
  | 52 => some f_impl_Super_inArea
  | 53 => some f_impl_Super_fits
  | 56 => some f_laws_eqStringS
  | 57 => some f_laws_eqPutS
  | 58 => some f_laws_eqPage
  | 60 => some f_p_impl_Pager_root
  | 64 => some f_laws_markText
  | 67 => some f_laws_szPut
  | 69 => some f_spec_l10Area
  | 70 => some f_spec_l11Blocks
  | _ => none

def prog_1 : Prog := fun n => match n with
  | 71 => some f_spec_l13Area
  | 72 => some f_spec_l01GetUint
  | 77 => some f_laws_toPut
  | 78 => some f_impl_ValidDisk
  | 79 => some f_impl_ValidSuper
  | 80 => some f_impl_isBlock
  | 81 => some f_impl_Super_inArea_s1
  | 82 => some f_slices_ContainsFunc_impl_Page_impl_Page
  | 83 => some f_impl_RecordBlocks
  | 86 => some f_slices_ContainsFunc_string_string
  | 91 => some f_laws_eqPut
  | 92 => some f_spec_l00Has
  | 93 => some f_p_impl_Pager_area
  | 94 => some f_p_impl_Pager_get
  | 95 => some f_impl_getBits
  | 96 => some f_slices_Contains_int64_int64
  | 99 => some f_spec_l11Table
  | 100 => some f_spec_l01Within
  | 101 => some f_spec_l12Get
  | 102 => some f_spec_l14Chain
  | 103 => some f_p_spec_l02Reader_byte
  | 104 => some f_p_spec_l02Reader_take
  | 109 => some f_impl_ValidDisk_s1
  | 110 => some f_impl_ValidDisk_s2
  | 111 => some f_slices_ContainsFunc_impl_Put_impl_Put
  | 112 => some f_slices_IndexFunc_impl_Page_impl_Page
  | 113 => some f_impl_AreaBlock
  | 114 => some f_impl_tableBlocks
  | 116 => some f_slices_IndexFunc_string_string
  | 123 => some f_impl_pageAt
  | 124 => some f_p_impl_Pager_committed
  | 125 => some f_slices_Index_int64_int64
  | 126 => some f_p_impl_Pager_chain
  | 127 => some f_spec_l11Find
  | 128 => some f_spec_l09Read
  | 129 => some f_spec_l14Used
  | 130 => some f_spec_l03Zeros
  | 131 => some f_spec_DecodeHeader
  | 133 => some f_slices_IndexFunc_impl_Put_impl_Put
  | 134 => some f_impl_isIndex
  | _ => none

def prog_2 : Prog := fun n => match n with
  | 138 => some f_slices_ContainsFunc_impl_Message_impl_Message
  | 139 => some f_p_impl_decoder_byte
  | 145 => some f_slices_BinarySearchFunc_impl_Page_impl_Page_int64
  | 146 => some f_impl_pageAt_s1
  | 147 => some (.intr nDiskRead)
  | 148 => some f_p_impl_Pager_allocated
  | 149 => some f_impl_chainBytes
  | 150 => some f_p_strings_Builder_WriteString
  | 151 => some (.intr nBuilderString)
  | 152 => some f_impl_DecodeHeader
  | 153 => some f_spec_l13Data
  | 154 => some f_spec_l13Bit
  | 155 => some f_spec_l00Max
  | 156 => some f_spec_l14Ok
  | 158 => some f_slices_IndexFunc_impl_Message_impl_Message
  | 159 => some f_p_impl_decoder_number
  | 160 => some f_p_impl_decoder_take
  | 164 => some f_cmp_Compare_int64
  | 165 => some f_cmp_isNaN_int64
  | 166 => some f_p_impl_Pager_isData
  | 167 => some f_impl_trimmed
  | 168 => some f_impl_ValidHeader
  | 169 => some f_spec_l13First
  | 170 => some f_impl_cut
  | 171 => some f_strings_TrimRight
  | 172 => some f_impl_ValidHeader_s1
  | 173 => some f_strings_trimRightByte
  | 177 => some f_impl_messageOk
  | 178 => some (.intr nCopyCheck)
  | 183 => some f_laws_szHeader
  | 184 => some f_laws_toHeader
  | 185 => some f_spec_WriteHeader
  | 186 => some f_impl_WriteHeader
  | 187 => some f_laws_eqHeader
  | 189 => some f_laws_heldPager
  | 196 => some f_laws_szMessageS
  | 197 => some f_spec_l12Own
  | 198 => some f_spec_l14Write
  | 199 => some f_laws_toMessageS
  | 200 => some f_impl_WriteHeader_s1
  | _ => none

def prog_3 : Prog := fun n => match n with
  | 201 => some f_impl_Pager_changed
  | 202 => some f_laws_eqMessageS
  | 204 => some f_laws_heldDisk
  | 205 => some f_laws_heldPageS
  | 213 => some f_laws_szMessage
  | 214 => some (.intr nOwnDisk)
  | 215 => some f_spec_l12Pages
  | 216 => some f_spec_l14Need
  | 217 => some f_spec_l13Release
  | 218 => some f_spec_l14Grow
  | 219 => some f_spec_l14Store
  | 220 => some f_laws_toMessage
  | 221 => some f_impl_Pager_clone
  | 222 => some f_p_impl_Pager_writeHeader
  | 223 => some f_impl_Header_encode
  | 224 => some f_impl_chainLen
  | 225 => some f_p_impl_Pager_releaseAll
  | 226 => some f_p_impl_Pager_grow
  | 227 => some f_p_impl_Pager_writeChain
  | 228 => some f_laws_eqMessage
  | 229 => some f_laws_heldStringS
  | 230 => some f_laws_heldPutS
  | 245 => some f_spec_l14Encode
  | 246 => some f_spec_l13Mark
  | 247 => some f_spec_l13Put
  | 248 => some f_spec_l13Allocate
  | 249 => some f_spec_l00Min
  | 250 => some f_spec_l02Put
  | 251 => some f_spec_l01Pad
  | 252 => some f_spec_l12Set
  | 253 => some f_impl_Disk_clone
  | 254 => some (.intr (nClone 2))
  | 255 => some f_impl_putBytes
  | 256 => some f_p_impl_Pager_release
  | 257 => some f_p_impl_Pager_allocate
  | 258 => some f_impl_padded
  | 259 => some f_p_impl_Pager_set
  | 268 => some f_spec_l02Byte
  | 269 => some f_spec_l13Runs
  | 270 => some f_spec_l13Best
  | _ => none

def prog_4 : Prog := fun n => match n with
  | 271 => some f_spec_l11Merge
  | 272 => some (.intr (nClone 1))
  | 273 => some (.intr (nClone 2))
  | 274 => some f_p_impl_Pager_mark
  | 275 => some f_p_impl_Pager_freeRuns
  | 276 => some (.intr (nInsert 2))
  | 277 => some f_impl_zeros
  | 286 => some (.intr nRepeat)
  | 400 => some f_laws_FnExactWriteHeader
  | 1008 => some f_laws_markPager
  | 1029 => some f_laws_markDisk
  | 1030 => some f_laws_markPageS
  | 1062 => some f_laws_markStringS
  | 1063 => some f_laws_markPutS
  | 1188 => some f_laws_markHeader
  | 1203 => some f_laws_markMessageS
  | _ => none

def prog : Prog := fun n =>
  if n < 71 then prog_0 n else
  if n < 138 then prog_1 n else
  if n < 201 then prog_2 n else
  if n < 271 then prog_3 n else
  prog_4 n

abbrev n_laws_szPager : Nat := 0
abbrev n_laws_toPager : Nat := 1
abbrev n_laws_eqPager : Nat := 4
abbrev n_laws_eqInt64S : Nat := 7
abbrev n_laws_szDisk : Nat := 13
abbrev n_laws_szPageS : Nat := 14
abbrev n_spec_l12Ok : Nat := 16
abbrev n_laws_toDisk : Nat := 18
abbrev n_laws_toSuper : Nat := 19
abbrev n_laws_toPageS : Nat := 20
abbrev n_impl_ValidPager : Nat := 21
abbrev n_laws_eqDisk : Nat := 24
abbrev n_laws_eqSuper : Nat := 25
abbrev n_laws_eqPageS : Nat := 26
abbrev n_laws_szStringS : Nat := 33
abbrev n_laws_szPutS : Nat := 34
abbrev n_laws_szPage : Nat := 35
abbrev n_spec_l09Ok : Nat := 37
abbrev n_spec_ValidSuper : Nat := 38
abbrev n_spec_l00In : Nat := 39
abbrev n_spec_l11Pages : Nat := 40
abbrev n_spec_l11Within : Nat := 41
abbrev n_spec_l12Fits : Nat := 42
abbrev n_spec_l13Root : Nat := 43
abbrev n_laws_toStringS : Nat := 46
abbrev n_laws_toPutS : Nat := 47
abbrev n_laws_toPage : Nat := 48
abbrev n_impl_superFits : Nat := 49
abbrev n_impl_within : Nat := 50
abbrev n_impl_ValidPages : Nat := 51
abbrev n_impl_Super_inArea : Nat := 52
abbrev n_impl_Super_fits : Nat := 53
abbrev n_laws_eqStringS : Nat := 56
abbrev n_laws_eqPutS : Nat := 57
abbrev n_laws_eqPage : Nat := 58
abbrev n_p_impl_Pager_root : Nat := 60
abbrev n_laws_markText : Nat := 64
abbrev n_laws_szPut : Nat := 67
abbrev n_spec_l10Area : Nat := 69
abbrev n_spec_l11Blocks : Nat := 70
abbrev n_spec_l13Area : Nat := 71
abbrev n_spec_l01GetUint : Nat := 72
abbrev n_laws_toPut : Nat := 77
abbrev n_impl_ValidDisk : Nat := 78
abbrev n_impl_ValidSuper : Nat := 79
abbrev n_impl_isBlock : Nat := 80
abbrev n_impl_Super_inArea_s1 : Nat := 81
abbrev n_slices_ContainsFunc_impl_Page_impl_Page : Nat := 82
abbrev n_impl_RecordBlocks : Nat := 83
abbrev n_slices_ContainsFunc_string_string : Nat := 86
abbrev n_laws_eqPut : Nat := 91
abbrev n_spec_l00Has : Nat := 92
abbrev n_p_impl_Pager_area : Nat := 93
abbrev n_p_impl_Pager_get : Nat := 94
abbrev n_impl_getBits : Nat := 95
abbrev n_slices_Contains_int64_int64 : Nat := 96
abbrev n_spec_l11Table : Nat := 99
abbrev n_spec_l01Within : Nat := 100
abbrev n_spec_l12Get : Nat := 101
abbrev n_spec_l14Chain : Nat := 102
abbrev n_p_spec_l02Reader_byte : Nat := 103
abbrev n_p_spec_l02Reader_take : Nat := 104
abbrev n_impl_ValidDisk_s1 : Nat := 109
abbrev n_impl_ValidDisk_s2 : Nat := 110
abbrev n_slices_ContainsFunc_impl_Put_impl_Put : Nat := 111
abbrev n_slices_IndexFunc_impl_Page_impl_Page : Nat := 112
abbrev n_impl_AreaBlock : Nat := 113
abbrev n_impl_tableBlocks : Nat := 114
abbrev n_slices_IndexFunc_string_string : Nat := 116
abbrev n_impl_pageAt : Nat := 123
abbrev n_p_impl_Pager_committed : Nat := 124
abbrev n_slices_Index_int64_int64 : Nat := 125
abbrev n_p_impl_Pager_chain : Nat := 126
abbrev n_spec_l11Find : Nat := 127
abbrev n_spec_l09Read : Nat := 128
abbrev n_spec_l14Used : Nat := 129
abbrev n_spec_l03Zeros : Nat := 130
abbrev n_spec_DecodeHeader : Nat := 131
abbrev n_slices_IndexFunc_impl_Put_impl_Put : Nat := 133
abbrev n_impl_isIndex : Nat := 134
abbrev n_slices_ContainsFunc_impl_Message_impl_Message : Nat := 138
abbrev n_p_impl_decoder_byte : Nat := 139
abbrev n_slices_BinarySearchFunc_impl_Page_impl_Page_int64 : Nat := 145
abbrev n_impl_pageAt_s1 : Nat := 146
abbrev n_impl_Disk_read : Nat := 147
abbrev n_p_impl_Pager_allocated : Nat := 148
abbrev n_impl_chainBytes : Nat := 149
abbrev n_p_strings_Builder_WriteString : Nat := 150
abbrev n_p_strings_Builder_String : Nat := 151
abbrev n_impl_DecodeHeader : Nat := 152
abbrev n_spec_l13Data : Nat := 153
abbrev n_spec_l13Bit : Nat := 154
abbrev n_spec_l00Max : Nat := 155
abbrev n_spec_l14Ok : Nat := 156
abbrev n_slices_IndexFunc_impl_Message_impl_Message : Nat := 158
abbrev n_p_impl_decoder_number : Nat := 159
abbrev n_p_impl_decoder_take : Nat := 160
abbrev n_cmp_Compare_int64 : Nat := 164
abbrev n_cmp_isNaN_int64 : Nat := 165
abbrev n_p_impl_Pager_isData : Nat := 166
abbrev n_impl_trimmed : Nat := 167
abbrev n_impl_ValidHeader : Nat := 168
abbrev n_spec_l13First : Nat := 169
abbrev n_impl_cut : Nat := 170
abbrev n_strings_TrimRight : Nat := 171
abbrev n_impl_ValidHeader_s1 : Nat := 172
abbrev n_strings_trimRightByte : Nat := 173
abbrev n_impl_messageOk : Nat := 177
abbrev n_p_strings_Builder_copyCheck : Nat := 178
abbrev n_laws_szHeader : Nat := 183
abbrev n_laws_toHeader : Nat := 184
abbrev n_spec_WriteHeader : Nat := 185
abbrev n_impl_WriteHeader : Nat := 186
abbrev n_laws_eqHeader : Nat := 187
abbrev n_laws_heldPager : Nat := 189
abbrev n_laws_szMessageS : Nat := 196
abbrev n_spec_l12Own : Nat := 197
abbrev n_spec_l14Write : Nat := 198
abbrev n_laws_toMessageS : Nat := 199
abbrev n_impl_WriteHeader_s1 : Nat := 200
abbrev n_impl_Pager_changed : Nat := 201
abbrev n_laws_eqMessageS : Nat := 202
abbrev n_laws_heldDisk : Nat := 204
abbrev n_laws_heldPageS : Nat := 205
abbrev n_laws_szMessage : Nat := 213
abbrev n_spec_l09Own : Nat := 214
abbrev n_spec_l12Pages : Nat := 215
abbrev n_spec_l14Need : Nat := 216
abbrev n_spec_l13Release : Nat := 217
abbrev n_spec_l14Grow : Nat := 218
abbrev n_spec_l14Store : Nat := 219
abbrev n_laws_toMessage : Nat := 220
abbrev n_impl_Pager_clone : Nat := 221
abbrev n_p_impl_Pager_writeHeader : Nat := 222
abbrev n_impl_Header_encode : Nat := 223
abbrev n_impl_chainLen : Nat := 224
abbrev n_p_impl_Pager_releaseAll : Nat := 225
abbrev n_p_impl_Pager_grow : Nat := 226
abbrev n_p_impl_Pager_writeChain : Nat := 227
abbrev n_laws_eqMessage : Nat := 228
abbrev n_laws_heldStringS : Nat := 229
abbrev n_laws_heldPutS : Nat := 230
abbrev n_spec_l14Encode : Nat := 245
abbrev n_spec_l13Mark : Nat := 246
abbrev n_spec_l13Put : Nat := 247
abbrev n_spec_l13Allocate : Nat := 248
abbrev n_spec_l00Min : Nat := 249
abbrev n_spec_l02Put : Nat := 250
abbrev n_spec_l01Pad : Nat := 251
abbrev n_spec_l12Set : Nat := 252
abbrev n_impl_Disk_clone : Nat := 253
abbrev n_slices_Clone_impl_Page_impl_Page : Nat := 254
abbrev n_impl_putBytes : Nat := 255
abbrev n_p_impl_Pager_release : Nat := 256
abbrev n_p_impl_Pager_allocate : Nat := 257
abbrev n_impl_padded : Nat := 258
abbrev n_p_impl_Pager_set : Nat := 259
abbrev n_spec_l02Byte : Nat := 268
abbrev n_spec_l13Runs : Nat := 269
abbrev n_spec_l13Best : Nat := 270
abbrev n_spec_l11Merge : Nat := 271
abbrev n_slices_Clone_string_string : Nat := 272
abbrev n_slices_Clone_impl_Put_impl_Put : Nat := 273
abbrev n_p_impl_Pager_mark : Nat := 274
abbrev n_p_impl_Pager_freeRuns : Nat := 275
abbrev n_slices_Insert_impl_Page_impl_Page : Nat := 276
abbrev n_impl_zeros : Nat := 277
abbrev n_strings_Repeat : Nat := 286
abbrev n_laws_FnExactWriteHeader : Nat := 400
abbrev n_laws_markPager : Nat := 1008
abbrev n_laws_markDisk : Nat := 1029
abbrev n_laws_markPageS : Nat := 1030
abbrev n_laws_markStringS : Nat := 1062
abbrev n_laws_markPutS : Nat := 1063
abbrev n_laws_markHeader : Nat := 1188
abbrev n_laws_markMessageS : Nat := 1203

end Go.VS
