/-
  The functions of the program, in the words of the evaluator. Printed by irgen.py.
-/
import Derived.Test.YtekbnablgfhhpaaGreatDoorB1
set_option linter.all false
namespace Go.VS

def f_laws_FnExactFindPath : Fd := .ir 2 47 [.t 4]
 (.seq (.r [.box 2 (.t 0), .mv 4 (.c (.b false))])
 (.seq (.seq (.r [.mv 11 (.t 1), .len 12 true (.t 11), .bin 13 .gtr (.t 12) (.c (.i .i64 1048576))])
 (.cond (.t 13) (.seq (.r [.mv 4 (.c (.b true))])
 (.ret))
 (.skip)))
 (.seq (.r [.mv 5 (.c (.i .i64 1048576))])
 (.seq (.r [.ld 14 (.t 2) 12 true, .mv 15 (.t 5), .call (some 16) 0 [((.t 14), .b 0), ((.t 15), .b 0)], .mv 5 (.t 16)])
 (.seq (.seq (.r [.mv 17 (.t 5), .bin 18 .lss (.t 17) (.c (.i .i64 0))])
 (.cond (.t 18) (.seq (.r [.mv 4 (.c (.b true))])
 (.ret))
 (.skip)))
 (.seq (.r [.ld 20 (.t 2) 12 true, .call (some 21) 1 [((.t 20), .b 0)], .mv 22 (.t 1), .call (some 23) 2 [((.t 21), .b 0), ((.t 22), .b 0)], .mv 19 (.t 23), .ext 24 (.t 19) 0, .ext 25 (.t 19) 1, .mv 6 (.t 24), .mv 7 (.t 25)])
 (.seq (.r [.ld 26 (.t 2) 12 true, .call (some 27) 1 [((.t 26), .b 0)], .alc 8 [.nil, .nil, .i .i64 0, .b false, .i .i64 0, .i .i64 0, .i .i64 0, .i .i64 0, .i .i64 0, .i .i64 0, .nil, .nil], .st (.t 8) (.t 27) 12])
 (.seq (.r [.ld 29 (.t 8) 12 true, .mv 30 (.t 1), .call (some 31) 3 [((.t 29), .b 0), ((.t 30), .b 0)], .mv 28 (.t 31), .ext 32 (.t 28) 0, .ext 33 (.t 28) 1, .mv 9 (.t 32), .mv 10 (.t 33)])
 (.seq (.seq (.r [.mv 34 (.t 9), .mv 35 (.t 6), .bin 36 .neq (.t 34) (.t 35), .mv 37 (.t 36), .g 37 false (some 38) (.mv 38 (.t 10)), .g 37 false (some 39) (.mv 39 (.t 7)), .g 37 false (some 40) (.bin 40 .neq (.t 38) (.t 39)), .pick 41 (.t 37) (.c (.b true)) (.t 40)])
 (.cond (.t 41) (.seq (.r [.mv 4 (.c (.b false))])
 (.ret))
 (.skip)))
 (.seq (.seq (.r [.ld 42 (.t 8) 12 true, .ld 43 (.t 2) 12 true, .ck (.dj [.t 8]) (.call (some 44) 1 [((.t 43), .b 0)]), .call (some 45) 4 [((.t 42), .b 0), ((.t 44), .b 0)], .un 46 .not (.t 45)])
 (.cond (.t 46) (.seq (.r [.mv 4 (.c (.b false))])
 (.ret))
 (.skip)))
 (.seq (.r [.mv 4 (.c (.b true))])
 (.ret))))))))))))

def f_laws_FnExactWalkStore : Fd := .ir 1 96 [.t 2]
 (.seq (.r [.box 1 (.t 0), .mv 2 (.c (.b false))])
 (.seq (.r [.mv 3 (.c (.i .i64 1048576))])
 (.seq (.r [.ld 14 (.t 1) 12 true, .mv 15 (.t 3), .call (some 16) 0 [((.t 14), .b 0), ((.t 15), .b 0)], .mv 3 (.t 16)])
 (.seq (.seq (.r [.mv 17 (.t 3), .bin 18 .lss (.t 17) (.c (.i .i64 0))])
 (.cond (.t 18) (.seq (.r [.mv 2 (.c (.b true))])
 (.ret))
 (.skip)))
 (.seq (.r [.ld 20 (.t 1) 12 true, .call (some 21) 1 [((.t 20), .b 0)], .call (some 22) 5 [((.t 21), .b 0)], .mv 19 (.t 22), .ext 23 (.t 19) 0, .ext 24 (.t 19) 1, .mv 4 (.t 23), .mv 5 (.t 24)])
 (.seq (.r [.ld 25 (.t 1) 12 true, .call (some 26) 1 [((.t 25), .b 0)], .alc 6 [.nil, .nil, .i .i64 0, .b false, .i .i64 0, .i .i64 0, .i .i64 0, .i .i64 0, .i .i64 0, .i .i64 0, .nil, .nil], .st (.t 6) (.t 26) 12])
 (.seq (.r [.ld 28 (.t 6) 12 true, .call (some 29) 6 [((.t 28), .b 0)], .mv 27 (.t 29), .ext 30 (.t 27) 0, .ext 31 (.t 27) 1, .mv 7 (.t 30), .mv 8 (.t 31)])
 (.seq (.seq (.r [.mv 32 (.t 7), .mv 33 (.t 4), .call (some 34) 7 [((.t 32), .b 1), ((.t 33), .b 1)], .un 35 .not (.t 34), .mv 36 (.t 35), .g 36 false (some 37) (.mv 37 (.t 8)), .g 36 false (some 38) (.mv 38 (.t 5)), .g 36 false (some 39) (.bin 39 .neq (.t 37) (.t 38)), .pick 40 (.t 36) (.c (.b true)) (.t 39)])
 (.cond (.t 40) (.seq (.r [.mv 2 (.c (.b false))])
 (.ret))
 (.skip)))
 (.seq (.seq (.r [.ld 41 (.t 6) 12 true, .ld 42 (.t 1) 12 true, .ck (.dj [.t 6]) (.call (some 43) 1 [((.t 42), .b 0)]), .call (some 44) 4 [((.t 41), .b 0), ((.t 43), .b 0)], .un 45 .not (.t 44)])
 (.cond (.t 45) (.seq (.r [.mv 2 (.c (.b false))])
 (.ret))
 (.skip)))
 (.seq (.r [.mv 9 (.c (.i .i64 1))])
 (.seq (.r [.ld 46 (.t 6) 12 true, .mv 47 (.t 9), .call (some 48) 8 [((.t 46), .m 0), ((.t 47), .b 0)], .mv 9 (.t 48)])
 (.seq (.seq (.r [.mv 49 (.t 9), .bin 50 .lss (.t 49) (.c (.i .i64 0)), .mv 51 (.t 50), .g 51 false (some 52) (.mv 52 (.t 7)), .g 51 false (some 53) (.mv 53 (.t 4)), .g 51 false (some 54) (.call (some 54) 7 [((.t 52), .b 1), ((.t 53), .b 1)]), .g 51 false (some 55) (.un 55 .not (.t 54)), .pick 56 (.t 51) (.c (.b true)) (.t 55), .mv 57 (.t 56), .g 57 false (some 58) (.mv 58 (.t 8)), .g 57 false (some 59) (.mv 59 (.t 5)), .g 57 false (some 60) (.bin 60 .neq (.t 58) (.t 59)), .pick 61 (.t 57) (.c (.b true)) (.t 60)])
 (.cond (.t 61) (.seq (.r [.mv 2 (.c (.b false))])
 (.ret))
 (.skip)))
 (.seq (.r [.mv 10 (.c (.i .i64 1))])
 (.seq (.r [.mv 62 (.t 7), .mv 63 (.t 10), .call (some 64) 1009 [((.t 62), .m 0), ((.t 63), .b 0)], .mv 10 (.t 64)])
 (.seq (.r [.mv 11 (.c (.i .i64 1))])
 (.seq (.r [.mv 65 (.t 7), .mv 66 (.t 11), .call (some 67) 10 [((.t 65), .b 1), ((.t 66), .b 0)], .mv 11 (.t 67)])
 (.seq (.seq (.r [.mv 68 (.t 11), .bin 69 .lss (.t 68) (.c (.i .i64 0))])
 (.cond (.t 69) (.seq (.r [.mv 2 (.c (.b false))])
 (.ret))
 (.skip)))
 (.seq (.seq (.r [.mv 70 (.t 11), .mv 71 (.t 10), .bin 72 .neq (.t 70) (.t 71)])
 (.cond (.t 72) (.seq (.r [.mv 2 (.c (.b false))])
 (.ret))
 (.skip)))
 (.seq (.r [.ld 74 (.t 1) 12 true, .call (some 75) 1 [((.t 74), .b 0)], .call (some 76) 6 [((.t 75), .b 0)], .mv 73 (.t 76), .ext 77 (.t 73) 0, .ext 78 (.t 73) 1, .mv 12 (.t 77), .mv 13 (.t 78)])
 (.seq (.seq (.r [.mv 79 (.t 12), .mv 80 (.t 4), .call (some 81) 7 [((.t 79), .b 1), ((.t 80), .b 1)], .un 82 .not (.t 81), .mv 83 (.t 82), .g 83 false (some 84) (.mv 84 (.t 13)), .g 83 false (some 85) (.mv 85 (.t 5)), .g 83 false (some 86) (.bin 86 .neq (.t 84) (.t 85)), .pick 87 (.t 83) (.c (.b true)) (.t 86)])
 (.cond (.t 87) (.seq (.r [.mv 2 (.c (.b false))])
 (.ret))
 (.skip)))
 (.seq (.r [.mv 11 (.c (.i .i64 1))])
 (.seq (.r [.mv 88 (.t 7), .mv 89 (.t 11), .call (some 90) 10 [((.t 88), .b 1), ((.t 89), .b 0)], .mv 11 (.t 90)])
 (.seq (.seq (.r [.mv 91 (.t 11), .bin 92 .lss (.t 91) (.c (.i .i64 0))])
 (.cond (.t 92) (.seq (.r [.mv 2 (.c (.b false))])
 (.ret))
 (.skip)))
 (.seq (.seq (.r [.mv 93 (.t 11), .mv 94 (.t 10), .bin 95 .neq (.t 93) (.t 94)])
 (.cond (.t 95) (.seq (.r [.mv 2 (.c (.b false))])
 (.ret))
 (.skip)))
 (.seq (.r [.mv 2 (.c (.b true))])
 (.ret))))))))))))))))))))))))))

def f_laws_FnExactObjectsOf : Fd := .ir 1 96 [.t 2]
 (.seq (.r [.box 1 (.t 0), .mv 2 (.c (.b false))])
 (.seq (.r [.mv 3 (.c (.i .i64 1048576))])
 (.seq (.r [.ld 14 (.t 1) 12 true, .mv 15 (.t 3), .call (some 16) 0 [((.t 14), .b 0), ((.t 15), .b 0)], .mv 3 (.t 16)])
 (.seq (.seq (.r [.mv 17 (.t 3), .bin 18 .lss (.t 17) (.c (.i .i64 0))])
 (.cond (.t 18) (.seq (.r [.mv 2 (.c (.b true))])
 (.ret))
 (.skip)))
 (.seq (.r [.ld 20 (.t 1) 12 true, .call (some 21) 1 [((.t 20), .b 0)], .call (some 22) 11 [((.t 21), .b 0)], .mv 19 (.t 22), .ext 23 (.t 19) 0, .ext 24 (.t 19) 1, .mv 4 (.t 23), .mv 5 (.t 24)])
 (.seq (.r [.ld 25 (.t 1) 12 true, .call (some 26) 1 [((.t 25), .b 0)], .alc 6 [.nil, .nil, .i .i64 0, .b false, .i .i64 0, .i .i64 0, .i .i64 0, .i .i64 0, .i .i64 0, .i .i64 0, .nil, .nil], .st (.t 6) (.t 26) 12])
 (.seq (.r [.ld 28 (.t 6) 12 true, .call (some 29) 12 [((.t 28), .b 0)], .mv 27 (.t 29), .ext 30 (.t 27) 0, .ext 31 (.t 27) 1, .mv 7 (.t 30), .mv 8 (.t 31)])
 (.seq (.seq (.r [.mv 32 (.t 7), .mv 33 (.t 4), .call (some 34) 7 [((.t 32), .b 1), ((.t 33), .b 1)], .un 35 .not (.t 34), .mv 36 (.t 35), .g 36 false (some 37) (.mv 37 (.t 8)), .g 36 false (some 38) (.mv 38 (.t 5)), .g 36 false (some 39) (.bin 39 .neq (.t 37) (.t 38)), .pick 40 (.t 36) (.c (.b true)) (.t 39)])
 (.cond (.t 40) (.seq (.r [.mv 2 (.c (.b false))])
 (.ret))
 (.skip)))
 (.seq (.seq (.r [.ld 41 (.t 6) 12 true, .ld 42 (.t 1) 12 true, .ck (.dj [.t 6]) (.call (some 43) 1 [((.t 42), .b 0)]), .call (some 44) 4 [((.t 41), .b 0), ((.t 43), .b 0)], .un 45 .not (.t 44)])
 (.cond (.t 45) (.seq (.r [.mv 2 (.c (.b false))])
 (.ret))
 (.skip)))
 (.seq (.r [.mv 9 (.c (.i .i64 1))])
 (.seq (.r [.ld 46 (.t 6) 12 true, .mv 47 (.t 9), .call (some 48) 8 [((.t 46), .m 0), ((.t 47), .b 0)], .mv 9 (.t 48)])
 (.seq (.seq (.r [.mv 49 (.t 9), .bin 50 .lss (.t 49) (.c (.i .i64 0)), .mv 51 (.t 50), .g 51 false (some 52) (.mv 52 (.t 7)), .g 51 false (some 53) (.mv 53 (.t 4)), .g 51 false (some 54) (.call (some 54) 7 [((.t 52), .b 1), ((.t 53), .b 1)]), .g 51 false (some 55) (.un 55 .not (.t 54)), .pick 56 (.t 51) (.c (.b true)) (.t 55), .mv 57 (.t 56), .g 57 false (some 58) (.mv 58 (.t 8)), .g 57 false (some 59) (.mv 59 (.t 5)), .g 57 false (some 60) (.bin 60 .neq (.t 58) (.t 59)), .pick 61 (.t 57) (.c (.b true)) (.t 60)])
 (.cond (.t 61) (.seq (.r [.mv 2 (.c (.b false))])
 (.ret))
 (.skip)))
 (.seq (.r [.mv 10 (.c (.i .i64 1))])
 (.seq (.r [.mv 62 (.t 7), .mv 63 (.t 10), .call (some 64) 1009 [((.t 62), .m 0), ((.t 63), .b 0)], .mv 10 (.t 64)])
 (.seq (.r [.mv 11 (.c (.i .i64 1))])
 (.seq (.r [.mv 65 (.t 7), .mv 66 (.t 11), .call (some 67) 10 [((.t 65), .b 1), ((.t 66), .b 0)], .mv 11 (.t 67)])
 (.seq (.seq (.r [.mv 68 (.t 11), .bin 69 .lss (.t 68) (.c (.i .i64 0))])
 (.cond (.t 69) (.seq (.r [.mv 2 (.c (.b false))])
 (.ret))
 (.skip)))
 (.seq (.seq (.r [.mv 70 (.t 11), .mv 71 (.t 10), .bin 72 .neq (.t 70) (.t 71)])
 (.cond (.t 72) (.seq (.r [.mv 2 (.c (.b false))])
 (.ret))
 (.skip)))
 (.seq (.r [.ld 74 (.t 1) 12 true, .call (some 75) 1 [((.t 74), .b 0)], .call (some 76) 12 [((.t 75), .b 0)], .mv 73 (.t 76), .ext 77 (.t 73) 0, .ext 78 (.t 73) 1, .mv 12 (.t 77), .mv 13 (.t 78)])
 (.seq (.seq (.r [.mv 79 (.t 12), .mv 80 (.t 4), .call (some 81) 7 [((.t 79), .b 1), ((.t 80), .b 1)], .un 82 .not (.t 81), .mv 83 (.t 82), .g 83 false (some 84) (.mv 84 (.t 13)), .g 83 false (some 85) (.mv 85 (.t 5)), .g 83 false (some 86) (.bin 86 .neq (.t 84) (.t 85)), .pick 87 (.t 83) (.c (.b true)) (.t 86)])
 (.cond (.t 87) (.seq (.r [.mv 2 (.c (.b false))])
 (.ret))
 (.skip)))
 (.seq (.r [.mv 11 (.c (.i .i64 1))])
 (.seq (.r [.mv 88 (.t 7), .mv 89 (.t 11), .call (some 90) 10 [((.t 88), .b 1), ((.t 89), .b 0)], .mv 11 (.t 90)])
 (.seq (.seq (.r [.mv 91 (.t 11), .bin 92 .lss (.t 91) (.c (.i .i64 0))])
 (.cond (.t 92) (.seq (.r [.mv 2 (.c (.b false))])
 (.ret))
 (.skip)))
 (.seq (.seq (.r [.mv 93 (.t 11), .mv 94 (.t 10), .bin 95 .neq (.t 93) (.t 94)])
 (.cond (.t 95) (.seq (.r [.mv 2 (.c (.b false))])
 (.ret))
 (.skip)))
 (.seq (.r [.mv 2 (.c (.b true))])
 (.ret))))))))))))))))))))))))))

def f_laws_szPager : Fd := .ir 2 24 [.t 4]
 (.seq (.r [.box 2 (.t 0), .mv 4 (.c (.i .i64 0))])
 (.seq (.r [.fad 5 (.t 2) 0, .ld 6 (.t 5) 4 true, .mv 7 (.t 1), .call (some 8) 13 [((.t 6), .b 0), ((.t 7), .b 0)], .mv 1 (.t 8)])
 (.seq (.seq (.r [.mv 9 (.t 1), .bin 10 .lss (.t 9) (.c (.i .i64 0))])
 (.cond (.t 10) (.seq (.r [.mv 4 (.c (.i .i64 (-1)))])
 (.ret))
 (.skip)))
 (.seq (.r [.fad 11 (.t 2) 10, .ld 12 (.t 11) 1 false, .mv 13 (.t 1), .call (some 14) 14 [((.t 12), .b 2), ((.t 13), .b 0)], .mv 1 (.t 14)])
 (.seq (.seq (.r [.mv 15 (.t 1), .bin 16 .lss (.t 15) (.c (.i .i64 0))])
 (.cond (.t 16) (.seq (.r [.mv 4 (.c (.i .i64 (-1)))])
 (.ret))
 (.skip)))
 (.seq (.r [.fad 17 (.t 2) 11, .ld 18 (.t 17) 1 false, .mv 19 (.t 1), .call (some 20) 14 [((.t 18), .b 2), ((.t 19), .b 0)], .mv 1 (.t 20)])
 (.seq (.seq (.r [.mv 21 (.t 1), .bin 22 .lss (.t 21) (.c (.i .i64 0))])
 (.cond (.t 22) (.seq (.r [.mv 4 (.c (.i .i64 (-1)))])
 (.ret))
 (.skip)))
 (.seq (.r [.mv 23 (.t 1), .mv 4 (.t 23)])
 (.ret)))))))))

def f_spec_FindPath : Fd := .ir 2 23 [.t 4, .t 5]
 (.seq (.r [.box 2 (.t 0), .mv 4 (.c (.i .i64 0)), .mv 5 (.c (.i .i64 0))])
 (.seq (.r [.mv 9 (.t 1), .call (some 10) 15 [((.t 9), .b 0)], .mv 8 (.t 10), .ext 11 (.t 8) 0, .ext 12 (.t 8) 1, .mv 6 (.t 11), .mv 7 (.t 12)])
 (.seq (.seq (.r [.call (some 13) 16 [((.t 2), .b 12)], .un 14 .not (.t 13), .mv 15 (.t 14), .g 15 false (some 16) (.mv 16 (.t 7)), .g 15 false (some 17) (.un 17 .not (.t 16)), .pick 18 (.t 15) (.c (.b true)) (.t 17)])
 (.cond (.t 18) (.seq (.r [.mv 4 (.c (.i .i64 0)), .mv 5 (.c (.i .i64 1))])
 (.ret))
 (.skip)))
 (.seq (.r [.mv 19 (.t 6), .call (some 20) 17 [((.t 2), .b 12), ((.t 19), .m 0)], .ext 21 (.t 20) 0, .ext 22 (.t 20) 1, .mv 4 (.t 21), .mv 5 (.t 22)])
 (.ret)))))

def f_laws_toPager : Fd := .ir 1 27 [.c 2 12 true]
 (.seq (.r [.box 1 (.t 0), .alc 2 [.nil, .nil, .i .i64 0, .b false, .i .i64 0, .i .i64 0, .i .i64 0, .i .i64 0, .i .i64 0, .i .i64 0, .nil, .nil]])
 (.seq (.r [.alc 3 [.nil, .nil, .i .i64 0, .b false, .i .i64 0, .i .i64 0, .i .i64 0, .i .i64 0, .i .i64 0, .i .i64 0, .nil, .nil]])
 (.seq (.r [.fad 4 (.t 1) 0, .ld 5 (.t 4) 4 true, .call (some 6) 18 [((.t 5), .b 0)], .fad 7 (.t 3) 0, .st (.t 7) (.t 6) 4])
 (.seq (.r [.fad 8 (.t 1) 4, .ld 9 (.t 8) 4 true, .call (some 10) 19 [((.t 9), .b 0)], .fad 11 (.t 3) 4, .st (.t 11) (.t 10) 4])
 (.seq (.r [.fad 12 (.t 1) 8, .ld 13 (.t 12) 1 false, .fad 14 (.t 3) 8, .st (.t 14) (.t 13) 1])
 (.seq (.r [.fad 15 (.t 1) 9, .ld 16 (.t 15) 1 false, .fad 17 (.t 3) 9, .st (.t 17) (.t 16) 1])
 (.seq (.r [.fad 18 (.t 1) 10, .ld 19 (.t 18) 1 false, .call (some 20) 20 [((.t 19), .b 2)], .fad 21 (.t 3) 10, .st (.t 21) (.t 20) 1])
 (.seq (.r [.fad 22 (.t 1) 11, .ld 23 (.t 22) 1 false, .call (some 24) 20 [((.t 23), .b 2)], .fad 25 (.t 3) 11, .st (.t 25) (.t 24) 1])
 (.seq (.r [.ld 26 (.t 3) 12 true, .st (.t 2) (.t 26) 12])
 (.ret))))))))))

def f_impl_FindPath : Fd := .ir 2 18 [.t 4, .t 5]
 (.seq (.r [.box 2 (.t 0), .mv 4 (.c (.i .i64 0)), .mv 5 (.c (.i .i64 0))])
 (.seq (.seq (.r [.ld 6 (.t 2) 12 true, .call (some 7) 21 [((.t 6), .b 0)], .un 8 .not (.t 7), .mv 9 (.t 8), .g 9 false (some 10) (.mv 10 (.t 1)), .g 9 false (some 11) (.call (some 11) 22 [((.t 10), .b 0)]), .g 9 false (some 12) (.un 12 .not (.t 11)), .pick 13 (.t 9) (.c (.b true)) (.t 12)])
 (.cond (.t 13) (.seq (.r [.mv 4 (.c (.i .i64 0)), .mv 5 (.c (.i .i64 1))])
 (.ret))
 (.skip)))
 (.seq (.r [.mv 14 (.t 1), .call (some 15) 23 [((.t 2), .b 0), ((.t 14), .b 0)], .ext 16 (.t 15) 0, .ext 17 (.t 15) 1, .mv 4 (.t 16), .mv 5 (.t 17)])
 (.ret))))

def f_laws_eqPager : Fd := .ir 2 39 [.t 4]
 (.seq (.r [.box 2 (.t 0), .box 3 (.t 1), .mv 4 (.c (.b false))])
 (.seq (.seq (.r [.fad 5 (.t 2) 0, .ld 6 (.t 5) 4 true, .fad 7 (.t 3) 0, .ld 8 (.t 7) 4 true, .call (some 9) 24 [((.t 6), .b 0), ((.t 8), .b 0)], .un 10 .not (.t 9)])
 (.cond (.t 10) (.seq (.r [.mv 4 (.c (.b false))])
 (.ret))
 (.skip)))
 (.seq (.seq (.r [.fad 11 (.t 2) 4, .ld 12 (.t 11) 4 true, .fad 13 (.t 3) 4, .ld 14 (.t 13) 4 true, .call (some 15) 25 [((.t 12), .b 0), ((.t 14), .b 0)], .un 16 .not (.t 15)])
 (.cond (.t 16) (.seq (.r [.mv 4 (.c (.b false))])
 (.ret))
 (.skip)))
 (.seq (.seq (.r [.fad 17 (.t 2) 8, .ld 18 (.t 17) 1 false, .fad 19 (.t 3) 8, .ld 20 (.t 19) 1 false, .bin 21 .neq (.t 18) (.t 20)])
 (.cond (.t 21) (.seq (.r [.mv 4 (.c (.b false))])
 (.ret))
 (.skip)))
 (.seq (.seq (.r [.fad 22 (.t 2) 9, .ld 23 (.t 22) 1 false, .fad 24 (.t 3) 9, .ld 25 (.t 24) 1 false, .bin 26 .neq (.t 23) (.t 25)])
 (.cond (.t 26) (.seq (.r [.mv 4 (.c (.b false))])
 (.ret))
 (.skip)))
 (.seq (.seq (.r [.fad 27 (.t 2) 10, .ld 28 (.t 27) 1 false, .fad 29 (.t 3) 10, .ld 30 (.t 29) 1 false, .call (some 31) 26 [((.t 28), .b 2), ((.t 30), .b 2)], .un 32 .not (.t 31)])
 (.cond (.t 32) (.seq (.r [.mv 4 (.c (.b false))])
 (.ret))
 (.skip)))
 (.seq (.seq (.r [.fad 33 (.t 2) 11, .ld 34 (.t 33) 1 false, .fad 35 (.t 3) 11, .ld 36 (.t 35) 1 false, .call (some 37) 26 [((.t 34), .b 2), ((.t 36), .b 2)], .un 38 .not (.t 37)])
 (.cond (.t 38) (.seq (.r [.mv 4 (.c (.b false))])
 (.ret))
 (.skip)))
 (.seq (.r [.mv 4 (.c (.b true))])
 (.ret)))))))))

def f_spec_WalkStore : Fd := .ir 1 7 [.t 2, .t 3]
 (.seq (.r [.box 1 (.t 0), .mv 2 (.c (.nil)), .mv 3 (.c (.i .i64 0))])
 (.seq (.seq (.r [.call (some 4) 16 [((.t 1), .b 12)], .un 5 .not (.t 4)])
 (.cond (.t 5) (.seq (.r [.mv 2 (.c (.nil)), .mv 3 (.c (.i .i64 1))])
 (.ret))
 (.skip)))
 (.seq (.r [.call (some 6) 27 [((.t 1), .b 12)], .mv 2 (.t 6), .mv 3 (.c (.i .i64 0))])
 (.ret))))

def f_impl_WalkStore : Fd := .ir 1 8 [.t 2, .t 3]
 (.seq (.r [.box 1 (.t 0), .mv 2 (.c (.nil)), .mv 3 (.c (.i .i64 0))])
 (.seq (.seq (.r [.ld 4 (.t 1) 12 true, .call (some 5) 21 [((.t 4), .b 0)], .un 6 .not (.t 5)])
 (.cond (.t 6) (.seq (.r [.mv 2 (.c (.nil)), .mv 3 (.c (.i .i64 1))])
 (.ret))
 (.skip)))
 (.seq (.r [.call (some 7) 28 [((.t 1), .b 0)], .mv 2 (.t 7), .mv 3 (.c (.i .i64 0))])
 (.ret))))

def f_laws_eqInt64S : Fd := .ir 2 26 [.t 4]
 (.seq (.r [.mv 4 (.c (.b false))])
 (.seq (.seq (.r [.mv 6 (.t 0), .len 7 false (.t 6), .mv 8 (.t 1), .len 9 false (.t 8), .bin 10 .neq (.t 7) (.t 9)])
 (.cond (.t 10) (.seq (.r [.mv 4 (.c (.b false))])
 (.ret))
 (.skip)))
 (.seq (.seq (.r [.mv 5 (.c (.i .i64 0))])
 (.blk 0 (.loop [0, 1, 5] [] [] (.seq (.seq (.r [.mv 11 (.t 5), .mv 12 (.t 0), .len 13 false (.t 12), .bin 14 .lss (.t 11) (.t 13)])
 (.cond (.t 14) (.skip)
 (.ex 0)))
 (.seq (.blk 1 (.seq (.r [.mv 17 (.t 0), .mv 18 (.t 5), .ixa 19 (.t 17) (.t 18) 1, .ld 20 (.t 19) 1 false, .mv 21 (.t 1), .mv 22 (.t 5), .ixa 23 (.t 21) (.t 22) 1, .ld 24 (.t 23) 1 false, .bin 25 .neq (.t 20) (.t 24)])
 (.cond (.t 25) (.seq (.r [.mv 4 (.c (.b false))])
 (.ret))
 (.skip))))
 (.r [.mv 15 (.t 5), .bin 16 .add (.t 15) (.c (.i .i64 1)), .mv 5 (.t 16)]))))))
 (.seq (.r [.mv 4 (.c (.b true))])
 (.ret)))))

def f_laws_markPager : Fd := .ir 2 18 [.t 4]
 (.seq (.r [.box 2 (.t 0), .mv 4 (.c (.i .i64 0))])
 (.seq (.r [.fad 5 (.t 2) 0, .ld 6 (.t 5) 4 true, .mv 7 (.t 1), .call (some 8) 29 [((.t 6), .m 0), ((.t 7), .b 0)], .mv 1 (.t 8)])
 (.seq (.r [.fad 9 (.t 2) 10, .ld 10 (.t 9) 1 false, .mv 11 (.t 1), .call (some 12) 30 [((.t 10), .m 0), ((.t 11), .b 0)], .mv 1 (.t 12)])
 (.seq (.r [.fad 13 (.t 2) 11, .ld 14 (.t 13) 1 false, .mv 15 (.t 1), .call (some 16) 30 [((.t 14), .m 0), ((.t 15), .b 0)], .mv 1 (.t 16)])
 (.seq (.r [.mv 17 (.t 1), .mv 4 (.t 17)])
 (.ret))))))

def f_laws_markInt64S : Fd := .pin 2 19 [.t 4]
 (.seq (.r [.mv 4 (.c (.i .i64 0))])
 (.seq (.seq (.r [.mv 5 (.c (.i .i64 0))])
 (.blk 0 (.loop [0, 1, 5] [] [(1000000, 1, 0)] (.seq (.seq (.r [.mv 6 (.t 5), .mv 7 (.t 0), .len 8 false (.t 7), .bin 9 .lss (.t 6) (.t 8)])
 (.cond (.t 9) (.skip)
 (.ex 0)))
 (.seq (.blk 1 (.seq (.r [.mv 12 (.t 0), .mv 13 (.t 5), .mv 14 (.t 1), .ixa 15 (.t 12) (.t 13) 1, .st (.t 15) (.t 14) 1])
 (.r [.mv 16 (.t 1), .bin 17 .add (.t 16) (.c (.i .i64 1)), .mv 1 (.t 17)])))
 (.r [.mv 10 (.t 5), .bin 11 .add (.t 10) (.c (.i .i64 1)), .mv 5 (.t 11)]))))))
 (.seq (.r [.mv 18 (.t 1), .mv 4 (.t 18)])
 (.ret))))

def f_laws_heldInt64S : Fd := .ir 2 21 [.t 4]
 (.seq (.r [.mv 4 (.c (.i .i64 0))])
 (.seq (.seq (.r [.mv 5 (.c (.i .i64 0))])
 (.blk 0 (.loop [0, 1, 5] [] [] (.seq (.seq (.r [.mv 6 (.t 5), .mv 7 (.t 0), .len 8 false (.t 7), .bin 9 .lss (.t 6) (.t 8)])
 (.cond (.t 9) (.skip)
 (.ex 0)))
 (.seq (.blk 1 (.seq (.seq (.r [.mv 12 (.t 0), .mv 13 (.t 5), .ixa 14 (.t 12) (.t 13) 1, .ld 15 (.t 14) 1 false, .mv 16 (.t 1), .bin 17 .neq (.t 15) (.t 16)])
 (.cond (.t 17) (.seq (.r [.mv 4 (.c (.i .i64 (-1)))])
 (.ret))
 (.skip)))
 (.r [.mv 18 (.t 1), .bin 19 .add (.t 18) (.c (.i .i64 1)), .mv 1 (.t 19)])))
 (.r [.mv 10 (.t 5), .bin 11 .add (.t 10) (.c (.i .i64 1)), .mv 5 (.t 11)]))))))
 (.seq (.r [.mv 20 (.t 1), .mv 4 (.t 20)])
 (.ret))))

def f_spec_ObjectsOf : Fd := .ir 1 9 [.t 2, .t 3]
 (.seq (.r [.box 1 (.t 0), .mv 2 (.c (.nil)), .mv 3 (.c (.i .i64 0))])
 (.seq (.seq (.r [.call (some 4) 16 [((.t 1), .b 12)], .un 5 .not (.t 4)])
 (.cond (.t 5) (.seq (.r [.mv 2 (.c (.nil)), .mv 3 (.c (.i .i64 1))])
 (.ret))
 (.skip)))
 (.seq (.r [.call (some 6) 31 [((.t 1), .b 12)], .ext 7 (.t 6) 0, .ext 8 (.t 6) 1, .mv 2 (.t 7), .mv 3 (.t 8)])
 (.ret))))

def f_impl_ObjectsOf : Fd := .ir 1 10 [.t 2, .t 3]
 (.seq (.r [.box 1 (.t 0), .mv 2 (.c (.nil)), .mv 3 (.c (.i .i64 0))])
 (.seq (.seq (.r [.ld 4 (.t 1) 12 true, .call (some 5) 21 [((.t 4), .b 0)], .un 6 .not (.t 5)])
 (.cond (.t 6) (.seq (.r [.mv 2 (.c (.nil)), .mv 3 (.c (.i .i64 1))])
 (.ret))
 (.skip)))
 (.seq (.r [.call (some 7) 32 [((.t 1), .b 0)], .ext 8 (.t 7) 0, .ext 9 (.t 7) 1, .mv 2 (.t 8), .mv 3 (.t 9)])
 (.ret))))

def f_laws_szDisk : Fd := .ir 2 18 [.t 4]
 (.seq (.r [.box 2 (.t 0), .mv 4 (.c (.i .i64 0))])
 (.seq (.r [.fad 5 (.t 2) 0, .ld 6 (.t 5) 1 false, .mv 7 (.t 1), .call (some 8) 33 [((.t 6), .b 1), ((.t 7), .b 0)], .mv 1 (.t 8)])
 (.seq (.seq (.r [.mv 9 (.t 1), .bin 10 .lss (.t 9) (.c (.i .i64 0))])
 (.cond (.t 10) (.seq (.r [.mv 4 (.c (.i .i64 (-1)))])
 (.ret))
 (.skip)))
 (.seq (.r [.fad 11 (.t 2) 1, .ld 12 (.t 11) 1 false, .mv 13 (.t 1), .call (some 14) 34 [((.t 12), .b 2), ((.t 13), .b 0)], .mv 1 (.t 14)])
 (.seq (.seq (.r [.mv 15 (.t 1), .bin 16 .lss (.t 15) (.c (.i .i64 0))])
 (.cond (.t 16) (.seq (.r [.mv 4 (.c (.i .i64 (-1)))])
 (.ret))
 (.skip)))
 (.seq (.r [.mv 17 (.t 1), .mv 4 (.t 17)])
 (.ret)))))))

def f_laws_szPageS : Fd := .ir 2 27 [.t 4]
 (.seq (.r [.mv 4 (.c (.i .i64 0))])
 (.seq (.r [.mv 6 (.t 1), .mv 7 (.t 0), .len 8 false (.t 7), .bin 9 .sub (.t 6) (.t 8), .mv 1 (.t 9)])
 (.seq (.seq (.r [.mv 10 (.t 1), .bin 11 .lss (.t 10) (.c (.i .i64 0))])
 (.cond (.t 11) (.seq (.r [.mv 4 (.c (.i .i64 (-1)))])
 (.ret))
 (.skip)))
 (.seq (.seq (.r [.mv 5 (.c (.i .i64 0))])
 (.blk 0 (.loop [0, 1, 5] [] [] (.seq (.seq (.r [.mv 12 (.t 5), .mv 13 (.t 0), .len 14 false (.t 13), .bin 15 .lss (.t 12) (.t 14)])
 (.cond (.t 15) (.skip)
 (.ex 0)))
 (.seq (.blk 1 (.seq (.r [.mv 18 (.t 0), .mv 19 (.t 5), .ixa 20 (.t 18) (.t 19) 2, .ld 21 (.t 20) 2 true, .mv 22 (.t 1), .call (some 23) 35 [((.t 21), .b 0), ((.t 22), .b 0)], .mv 1 (.t 23)])
 (.seq (.r [.mv 24 (.t 1), .bin 25 .lss (.t 24) (.c (.i .i64 0))])
 (.cond (.t 25) (.seq (.r [.mv 4 (.c (.i .i64 (-1)))])
 (.ret))
 (.skip)))))
 (.r [.mv 16 (.t 5), .bin 17 .add (.t 16) (.c (.i .i64 1)), .mv 5 (.t 17)]))))))
 (.seq (.r [.mv 26 (.t 1), .mv 4 (.t 26)])
 (.ret))))))

def f_spec_l17Split : Fd := .ir 1 53 [.t 2, .t 3]
 (.seq (.r [.mv 2 (.c (.nil)), .mv 3 (.c (.b false))])
 (.seq (.seq (.r [.mv 7 (.t 0), .bin 8 .eql (.t 7) (.c (.s [47]))])
 (.cond (.t 8) (.seq (.r [.bsl 9 1 [], .mv 2 (.t 9), .mv 3 (.c (.b true))])
 (.ret))
 (.skip)))
 (.seq (.seq (.r [.mv 10 (.t 0), .bin 11 .eql (.t 10) (.c (.s [])), .mv 12 (.t 11), .g 12 false (some 13) (.mv 13 (.t 0)), .g 12 false (some 14) (.ixs 14 (.t 13) (.c (.i .i64 0))), .g 12 false (some 15) (.bin 15 .neq (.t 14) (.c (.i .u8 47))), .pick 16 (.t 12) (.c (.b true)) (.t 15)])
 (.cond (.t 16) (.seq (.r [.mv 2 (.c (.nil)), .mv 3 (.c (.b false))])
 (.ret))
 (.skip)))
 (.seq (.r [.bsl 17 1 [], .mv 4 (.t 17)])
 (.seq (.r [.mv 5 (.c (.i .i64 1))])
 (.seq (.seq (.r [.mv 6 (.c (.i .i64 1))])
 (.blk 0 (.loop [0, 4, 5, 6] [] [] (.seq (.seq (.r [.mv 18 (.t 6), .mv 19 (.t 0), .len 20 true (.t 19), .bin 21 .leq (.t 18) (.t 20)])
 (.cond (.t 21) (.skip)
 (.ex 0)))
 (.seq (.blk 1 (.seq (.seq (.r [.mv 24 (.t 6), .mv 25 (.t 0), .len 26 true (.t 25), .bin 27 .lss (.t 24) (.t 26), .mv 28 (.t 27), .g 28 true (some 29) (.mv 29 (.t 0)), .g 28 true (some 30) (.mv 30 (.t 6)), .g 28 true (some 31) (.ixs 31 (.t 29) (.t 30)), .g 28 true (some 32) (.bin 32 .neq (.t 31) (.c (.i .u8 47))), .pick 33 (.t 28) (.t 32) (.c (.b false))])
 (.cond (.t 33) (.ex 1)
 (.skip)))
 (.seq (.seq (.r [.mv 34 (.t 0), .mv 35 (.t 5), .mv 36 (.t 6), .slc 37 (.t 34) (some (.t 35)) (some (.t 36)) 0, .call (some 38) 36 [((.t 37), .b 0)], .un 39 .not (.t 38)])
 (.cond (.t 39) (.seq (.r [.mv 2 (.c (.nil)), .mv 3 (.c (.b false))])
 (.ret))
 (.skip)))
 (.seq (.r [.mv 40 (.t 4), .mv 41 (.t 0), .mv 42 (.t 5), .mv 43 (.t 6), .slc 44 (.t 41) (some (.t 42)) (some (.t 43)) 0, .bsl 45 1 [(.t 44)], .app 46 (.t 40) (.t 45) 1, .mv 4 (.t 46)])
 (.r [.mv 47 (.t 6), .bin 48 .add (.t 47) (.c (.i .i64 1)), .mv 5 (.t 48)])))))
 (.r [.mv 22 (.t 6), .bin 23 .add (.t 22) (.c (.i .i64 1)), .mv 6 (.t 23)]))))))
 (.seq (.seq (.r [.mv 49 (.t 4), .len 50 false (.t 49), .bin 51 .gtr (.t 50) (.c (.i .i64 6))])
 (.cond (.t 51) (.seq (.r [.mv 2 (.c (.nil)), .mv 3 (.c (.b false))])
 (.ret))
 (.skip)))
 (.seq (.r [.mv 52 (.t 4), .mv 2 (.t 52), .mv 3 (.c (.b true))])
 (.ret)))))))))

def f_spec_l12Ok : Fd := .ir 1 105 [.t 2]
 (.seq (.r [.mv 2 (.c (.b false))])
 (.seq (.r [.mv 4 (.t 0), .nck 5 (.t 4), .fad 6 (.t 5) 4, .ld 7 (.t 6) 4 true, .alc 3 [.i .i64 0, .i .i64 0, .i .i64 0, .i .i64 0], .st (.t 3) (.t 7) 4])
 (.seq (.seq (.r [.mv 8 (.t 0), .nck 9 (.t 8), .fad 10 (.t 9) 0, .call (some 11) 37 [((.t 10), .b 4)], .un 12 .not (.t 11), .mv 13 (.t 12), .g 13 false (some 14) (.mv 14 (.t 0)), .g 13 false (some 15) (.nck 15 (.t 14)), .g 13 false (some 16) (.fad 16 (.t 15) 0), .g 13 false (some 17) (.fad 17 (.t 16) 1), .g 13 false (some 18) (.ld 18 (.t 17) 1 false), .g 13 false (some 19) (.len 19 false (.t 18)), .g 13 false (some 20) (.bin 20 .gtr (.t 19) (.c (.i .i64 1))), .g 13 false (some 21) (.mv 21 (.t 20)), .g 21 true (some 22) (.mv 22 (.t 0)), .g 21 true (some 23) (.nck 23 (.t 22)), .g 21 true (some 24) (.fad 24 (.t 23) 0), .g 21 true (some 25) (.fad 25 (.t 24) 3), .g 21 true (some 26) (.ld 26 (.t 25) 1 false), .g 21 true (some 27) (.un 27 .not (.t 26)), .g 13 false (some 28) (.pick 28 (.t 21) (.t 27) (.c (.b false))), .pick 29 (.t 13) (.c (.b true)) (.t 28), .mv 30 (.t 29), .g 30 false (some 31) (.ld 31 (.t 3) 4 true), .g 30 false (some 32) (.call (some 32) 38 [((.t 31), .b 0)]), .g 30 false (some 33) (.un 33 .not (.t 32)), .pick 34 (.t 30) (.c (.b true)) (.t 33), .mv 35 (.t 34), .g 35 false (some 36) (.fad 36 (.t 3) 0), .g 35 false (some 37) (.ld 37 (.t 36) 1 false), .g 35 false (some 38) (.mv 38 (.t 0)), .g 35 false (some 39) (.nck 39 (.t 38)), .g 35 false (some 40) (.fad 40 (.t 39) 0), .g 35 false (some 41) (.fad 41 (.t 40) 0), .g 35 false (some 42) (.ld 42 (.t 41) 1 false), .g 35 false (some 43) (.len 43 false (.t 42)), .g 35 false (some 44) (.bin 44 .neq (.t 37) (.t 43)), .pick 45 (.t 35) (.c (.b true)) (.t 44)])
 (.cond (.t 45) (.seq (.r [.mv 2 (.c (.b false))])
 (.ret))
 (.skip)))
 (.seq (.seq (.r [.mv 46 (.t 0), .nck 47 (.t 46), .fad 48 (.t 47) 8, .ld 49 (.t 48) 1 false, .fad 50 (.t 3) 2, .ld 51 (.t 50) 1 false, .call (some 52) 39 [((.t 49), .b 0), ((.t 51), .b 0), ((.c (.i .i64 1000000000000)), .b 0)], .un 53 .not (.t 52), .mv 54 (.t 53), .g 54 false (some 55) (.mv 55 (.t 0)), .g 54 false (some 56) (.nck 56 (.t 55)), .g 54 false (some 57) (.fad 57 (.t 56) 9), .g 54 false (some 58) (.ld 58 (.t 57) 1 false), .g 54 false (some 59) (.fad 59 (.t 3) 1), .g 54 false (some 60) (.ld 60 (.t 59) 1 false), .g 54 false (some 61) (.call (some 61) 39 [((.t 58), .b 0), ((.c (.i .i64 0)), .b 0), ((.t 60), .b 0)]), .g 54 false (some 62) (.un 62 .not (.t 61)), .pick 63 (.t 54) (.c (.b true)) (.t 62), .mv 64 (.t 63), .g 64 false (some 65) (.mv 65 (.t 0)), .g 64 false (some 66) (.nck 66 (.t 65)), .g 64 false (some 67) (.fad 67 (.t 66) 10), .g 64 false (some 68) (.ld 68 (.t 67) 1 false), .g 64 false (some 69) (.call (some 69) 40 [((.t 68), .b 2)]), .g 64 false (some 70) (.un 70 .not (.t 69)), .pick 71 (.t 64) (.c (.b true)) (.t 70), .mv 72 (.t 71), .g 72 false (some 73) (.mv 73 (.t 0)), .g 72 false (some 74) (.nck 74 (.t 73)), .g 72 false (some 75) (.fad 75 (.t 74) 11), .g 72 false (some 76) (.ld 76 (.t 75) 1 false), .g 72 false (some 77) (.call (some 77) 40 [((.t 76), .b 2)]), .g 72 false (some 78) (.un 78 .not (.t 77)), .pick 79 (.t 72) (.c (.b true)) (.t 78), .mv 80 (.t 79), .g 80 false (some 81) (.ld 81 (.t 3) 4 true), .g 80 false (some 82) (.mv 82 (.t 0)), .g 80 false (some 83) (.nck 83 (.t 82)), .g 80 false (some 84) (.fad 84 (.t 83) 10), .g 80 false (some 85) (.ld 85 (.t 84) 1 false), .g 80 false (some 86) (.call (some 86) 41 [((.t 81), .b 0), ((.t 85), .b 2)]), .g 80 false (some 87) (.un 87 .not (.t 86)), .pick 88 (.t 80) (.c (.b true)) (.t 87), .mv 89 (.t 88), .g 89 false (some 90) (.ld 90 (.t 3) 4 true), .g 89 false (some 91) (.mv 91 (.t 0)), .g 89 false (some 92) (.nck 92 (.t 91)), .g 89 false (some 93) (.fad 93 (.t 92) 11), .g 89 false (some 94) (.ld 94 (.t 93) 1 false), .g 89 false (some 95) (.call (some 95) 41 [((.t 90), .b 0), ((.t 94), .b 2)]), .g 89 false (some 96) (.un 96 .not (.t 95)), .pick 97 (.t 89) (.c (.b true)) (.t 96)])
 (.cond (.t 97) (.seq (.r [.mv 2 (.c (.b false))])
 (.ret))
 (.skip)))
 (.seq (.r [.ld 98 (.t 3) 4 true, .mv 99 (.t 0), .nck 100 (.t 99), .fad 101 (.t 100) 11, .ld 102 (.t 101) 1 false, .len 103 false (.t 102), .call (some 104) 42 [((.t 98), .b 0), ((.t 103), .b 0)], .mv 2 (.t 104)])
 (.ret))))))

def f_spec_l17Find : Fd := .ir 2 71 [.t 4, .t 5]
 (.seq (.r [.mv 4 (.c (.i .i64 0)), .mv 5 (.c (.i .i64 0))])
 (.seq (.r [.mv 15 (.t 0), .call (some 16) 43 [((.t 15), .b 12)], .mv 6 (.t 16)])
 (.seq (.seq (.r [.mv 17 (.t 6), .bin 18 .eql (.t 17) (.c (.i .i64 0))])
 (.cond (.t 18) (.seq (.r [.mv 4 (.c (.i .i64 0)), .mv 5 (.c (.i .i64 6))])
 (.ret))
 (.skip)))
 (.seq (.r [.mv 19 (.t 1), .mv 7 (.t 19)])
 (.seq (.r [.mv 8 (.c (.i .i64 0))])
 (.seq (.blk 0 (.loop [0, 6, 7, 8] [(7, 1)] [] (.seq (.seq (.r [.mv 20 (.t 7), .len 21 false (.t 20), .bin 22 .gtr (.t 21) (.c (.i .i64 0))])
 (.cond (.t 22) (.skip)
 (.ex 0)))
 (.blk 1 (.seq (.r [.mv 24 (.t 0), .mv 25 (.t 6), .call (some 26) 44 [((.t 24), .b 12), ((.t 25), .b 0)], .mv 23 (.t 26), .ext 27 (.t 23) 0, .ext 28 (.t 23) 1, .alc 9 [.i .i64 0, .i .i64 0, .nil, .nil, .nil], .st (.t 9) (.t 27) 5, .mv 10 (.t 28)])
 (.seq (.seq (.r [.mv 29 (.t 10), .bin 30 .neq (.t 29) (.c (.i .i64 0))])
 (.cond (.t 30) (.seq (.r [.mv 31 (.t 10), .mv 4 (.c (.i .i64 0)), .mv 5 (.t 31)])
 (.ret))
 (.skip)))
 (.seq (.r [.fad 32 (.t 9) 4, .ld 33 (.t 32) 1 false, .mv 34 (.t 7), .ixa 35 (.t 34) (.c (.i .i64 0)) 1, .ld 36 (.t 35) 1 false, .call (some 37) 45 [((.t 33), .b 3), ((.t 36), .b 0)], .mv 11 (.t 37)])
 (.seq (.seq (.r [.mv 38 (.t 11), .bin 39 .lss (.t 38) (.c (.i .i64 0))])
 (.cond (.t 39) (.seq (.r [.mv 4 (.c (.i .i64 0)), .mv 5 (.c (.i .i64 3))])
 (.ret))
 (.skip)))
 (.seq (.r [.fad 40 (.t 9) 4, .ld 41 (.t 40) 1 false, .mv 42 (.t 11), .ixa 43 (.t 41) (.t 42) 3, .ld 44 (.t 43) 3 true, .alc 12 [.s [], .i .i64 0, .s []], .st (.t 12) (.t 44) 3])
 (.seq (.seq (.r [.fad 45 (.t 12) 2, .ld 46 (.t 45) 1 false, .bin 47 .eql (.t 46) (.c (.s []))])
 (.cond (.t 47) (.seq (.r [.fad 48 (.t 12) 1, .ld 49 (.t 48) 1 false, .mv 6 (.t 49)])
 (.seq (.r [.mv 50 (.t 7), .slc 51 (.t 50) (some (.c (.i .i64 1))) none 1, .mv 7 (.t 51)])
 (.ex 1)))
 (.skip)))
 (.seq (.seq (.r [.mv 52 (.t 8), .bin 53 .eql (.t 52) (.c (.i .i64 8))])
 (.cond (.t 53) (.seq (.r [.mv 4 (.c (.i .i64 0)), .mv 5 (.c (.i .i64 11))])
 (.ret))
 (.skip)))
 (.seq (.r [.mv 54 (.t 8), .bin 55 .add (.t 54) (.c (.i .i64 1)), .mv 8 (.t 55)])
 (.seq (.r [.fad 57 (.t 12) 2, .ld 58 (.t 57) 1 false, .call (some 59) 15 [((.t 58), .b 0)], .mv 56 (.t 59), .ext 60 (.t 56) 0, .ext 61 (.t 56) 1, .mv 13 (.t 60), .mv 14 (.t 61)])
 (.seq (.r [.ck (.dj [.t 7]) (.bsl 62 1 []), .mv 63 (.t 13), .ck (.dj [.t 7]) (.app 64 (.t 62) (.t 63) 1), .mv 65 (.t 7), .ck (.sb (.t 65) (.t 7)) (.slc 66 (.t 65) (some (.c (.i .i64 1))) none 1), .app 67 (.t 64) (.t 66) 1, .mv 7 (.t 67)])
 (.r [.mv 68 (.t 0), .call (some 69) 43 [((.t 68), .b 12)], .mv 6 (.t 69)])))))))))))))))
 (.seq (.r [.mv 70 (.t 6), .mv 4 (.t 70), .mv 5 (.c (.i .i64 0))])
 (.ret))))))))

def f_laws_toDisk : Fd := .ir 1 19 [.c 2 4 true]
 (.seq (.r [.box 1 (.t 0), .alc 2 [.nil, .nil, .i .i64 0, .b false]])
 (.seq (.r [.alc 3 [.nil, .nil, .i .i64 0, .b false]])
 (.seq (.r [.fad 4 (.t 1) 0, .ld 5 (.t 4) 1 false, .call (some 6) 46 [((.t 5), .b 1)], .fad 7 (.t 3) 0, .st (.t 7) (.t 6) 1])
 (.seq (.r [.fad 8 (.t 1) 1, .ld 9 (.t 8) 1 false, .call (some 10) 47 [((.t 9), .b 2)], .fad 11 (.t 3) 1, .st (.t 11) (.t 10) 1])
 (.seq (.r [.fad 12 (.t 1) 2, .ld 13 (.t 12) 1 false, .fad 14 (.t 3) 2, .st (.t 14) (.t 13) 1])
 (.seq (.r [.fad 15 (.t 1) 3, .ld 16 (.t 15) 1 false, .fad 17 (.t 3) 3, .st (.t 17) (.t 16) 1])
 (.seq (.r [.ld 18 (.t 3) 4 true, .st (.t 2) (.t 18) 4])
 (.ret))))))))

def f_laws_toSuper : Fd := .ir 1 17 [.c 2 4 true]
 (.seq (.r [.box 1 (.t 0), .alc 2 [.i .i64 0, .i .i64 0, .i .i64 0, .i .i64 0]])
 (.seq (.r [.alc 3 [.i .i64 0, .i .i64 0, .i .i64 0, .i .i64 0]])
 (.seq (.r [.fad 4 (.t 1) 0, .ld 5 (.t 4) 1 false, .fad 6 (.t 3) 0, .st (.t 6) (.t 5) 1])
 (.seq (.r [.fad 7 (.t 1) 1, .ld 8 (.t 7) 1 false, .fad 9 (.t 3) 1, .st (.t 9) (.t 8) 1])
 (.seq (.r [.fad 10 (.t 1) 2, .ld 11 (.t 10) 1 false, .fad 12 (.t 3) 2, .st (.t 12) (.t 11) 1])
 (.seq (.r [.fad 13 (.t 1) 3, .ld 14 (.t 13) 1 false, .fad 15 (.t 3) 3, .st (.t 15) (.t 14) 1])
 (.seq (.r [.ld 16 (.t 3) 4 true, .st (.t 2) (.t 16) 4])
 (.ret))))))))

def f_laws_toPageS : Fd := .ir 1 23 [.t 2]
 (.seq (.r [.mv 2 (.c (.nil))])
 (.seq (.r [.mv 5 (.t 0), .len 6 false (.t 5), .mks 7 2 (.agg [.i .i64 0, .s []]) (.t 6) (.t 6), .mv 3 (.t 7)])
 (.seq (.seq (.r [.mv 4 (.c (.i .i64 0))])
 (.blk 0 (.loop [0, 3, 4] [] [] (.seq (.seq (.r [.mv 8 (.t 4), .mv 9 (.t 0), .len 10 false (.t 9), .bin 11 .lss (.t 8) (.t 10)])
 (.cond (.t 11) (.skip)
 (.ex 0)))
 (.seq (.blk 1 (.r [.mv 14 (.t 3), .mv 15 (.t 4), .mv 16 (.t 0), .mv 17 (.t 4), .ixa 18 (.t 16) (.t 17) 2, .ld 19 (.t 18) 2 true, .call (some 20) 48 [((.t 19), .b 0)], .ixa 21 (.t 14) (.t 15) 2, .st (.t 21) (.t 20) 2]))
 (.r [.mv 12 (.t 4), .bin 13 .add (.t 12) (.c (.i .i64 1)), .mv 4 (.t 13)]))))))
 (.seq (.r [.mv 22 (.t 3), .mv 2 (.t 22)])
 (.ret)))))

def f_impl_ValidPager : Fd := .ir 1 70 [.t 2]
 (.seq (.r [.box 1 (.t 0), .mv 2 (.c (.b false))])
 (.seq (.seq (.r [.fad 3 (.t 1) 0, .ld 4 (.t 3) 4 true, .fad 5 (.t 1) 4, .ld 6 (.t 5) 4 true, .call (some 7) 49 [((.t 4), .b 0), ((.t 6), .b 0)], .un 8 .not (.t 7), .mv 9 (.t 8), .g 9 false (some 10) (.fad 10 (.t 1) 0), .g 9 false (some 11) (.fad 11 (.t 10) 1), .g 9 false (some 12) (.ld 12 (.t 11) 1 false), .g 9 false (some 13) (.len 13 false (.t 12)), .g 9 false (some 14) (.bin 14 .gtr (.t 13) (.c (.i .i64 1))), .g 9 false (some 15) (.mv 15 (.t 14)), .g 15 true (some 16) (.fad 16 (.t 1) 0), .g 15 true (some 17) (.fad 17 (.t 16) 3), .g 15 true (some 18) (.ld 18 (.t 17) 1 false), .g 15 true (some 19) (.un 19 .not (.t 18)), .g 9 false (some 20) (.pick 20 (.t 15) (.t 19) (.c (.b false))), .pick 21 (.t 9) (.c (.b true)) (.t 20), .mv 22 (.t 21), .g 22 false (some 23) (.fad 23 (.t 1) 8), .g 22 false (some 24) (.ld 24 (.t 23) 1 false), .g 22 false (some 25) (.fad 25 (.t 1) 4), .g 22 false (some 26) (.fad 26 (.t 25) 2), .g 22 false (some 27) (.ld 27 (.t 26) 1 false), .g 22 false (some 28) (.call (some 28) 50 [((.t 24), .b 0), ((.t 27), .b 0), ((.c (.i .i64 1000000000000)), .b 0)]), .g 22 false (some 29) (.un 29 .not (.t 28)), .pick 30 (.t 22) (.c (.b true)) (.t 29), .mv 31 (.t 30), .g 31 false (some 32) (.fad 32 (.t 1) 9), .g 31 false (some 33) (.ld 33 (.t 32) 1 false), .g 31 false (some 34) (.fad 34 (.t 1) 4), .g 31 false (some 35) (.fad 35 (.t 34) 1), .g 31 false (some 36) (.ld 36 (.t 35) 1 false), .g 31 false (some 37) (.call (some 37) 50 [((.t 33), .b 0), ((.c (.i .i64 0)), .b 0), ((.t 36), .b 0)]), .g 31 false (some 38) (.un 38 .not (.t 37)), .pick 39 (.t 31) (.c (.b true)) (.t 38)])
 (.cond (.t 39) (.seq (.r [.mv 2 (.c (.b false))])
 (.ret))
 (.skip)))
 (.seq (.r [.fad 40 (.t 1) 10, .ld 41 (.t 40) 1 false, .call (some 42) 51 [((.t 41), .b 2)], .mv 43 (.t 42), .g 43 true (some 44) (.fad 44 (.t 1) 11), .g 43 true (some 45) (.ld 45 (.t 44) 1 false), .g 43 true (some 46) (.call (some 46) 51 [((.t 45), .b 2)]), .pick 47 (.t 43) (.t 46) (.c (.b false)), .mv 48 (.t 47), .g 48 true (some 49) (.fad 49 (.t 1) 4), .g 48 true (some 50) (.ld 50 (.t 49) 4 true), .g 48 true (some 51) (.fad 51 (.t 1) 10), .g 48 true (some 52) (.ld 52 (.t 51) 1 false), .g 48 true (some 53) (.call (some 53) 52 [((.t 50), .b 0), ((.t 52), .b 2)]), .pick 54 (.t 48) (.t 53) (.c (.b false)), .mv 55 (.t 54), .g 55 true (some 56) (.fad 56 (.t 1) 4), .g 55 true (some 57) (.ld 57 (.t 56) 4 true), .g 55 true (some 58) (.fad 58 (.t 1) 11), .g 55 true (some 59) (.ld 59 (.t 58) 1 false), .g 55 true (some 60) (.call (some 60) 52 [((.t 57), .b 0), ((.t 59), .b 2)]), .pick 61 (.t 55) (.t 60) (.c (.b false)), .mv 62 (.t 61), .g 62 true (some 63) (.fad 63 (.t 1) 4), .g 62 true (some 64) (.ld 64 (.t 63) 4 true), .g 62 true (some 65) (.fad 65 (.t 1) 11), .g 62 true (some 66) (.ld 66 (.t 65) 1 false), .g 62 true (some 67) (.len 67 false (.t 66)), .g 62 true (some 68) (.call (some 68) 53 [((.t 64), .b 0), ((.t 67), .b 0)]), .pick 69 (.t 62) (.t 68) (.c (.b false)), .mv 2 (.t 69)])
 (.ret))))

def f_impl_ValidPath : Fd := .ir 1 11 [.t 2]
 (.seq (.r [.mv 2 (.c (.b false))])
 (.seq (.r [.mv 6 (.t 0), .call (some 7) 54 [((.t 6), .b 0)], .mv 5 (.t 7), .ext 8 (.t 5) 0, .ext 9 (.t 5) 1, .mv 3 (.t 8), .mv 4 (.t 9)])
 (.seq (.r [.mv 10 (.t 4), .mv 2 (.t 10)])
 (.ret))))

def f_p_impl_Pager_findPath : Fd := .ir 2 18 [.t 4, .t 5]
 (.seq (.r [.mv 4 (.c (.i .i64 0)), .mv 5 (.c (.i .i64 0))])
 (.seq (.r [.mv 9 (.t 1), .call (some 10) 54 [((.t 9), .b 0)], .mv 8 (.t 10), .ext 11 (.t 8) 0, .ext 12 (.t 8) 1, .mv 6 (.t 11), .mv 7 (.t 12)])
 (.seq (.r [.mv 13 (.t 0), .mv 14 (.t 6), .call (some 15) 55 [((.t 13), .b 12), ((.t 14), .m 0)], .ext 16 (.t 15) 0, .ext 17 (.t 15) 1, .mv 4 (.t 16), .mv 5 (.t 17)])
 (.ret))))

def f_laws_eqDisk : Fd := .ir 2 27 [.t 4]
 (.seq (.r [.box 2 (.t 0), .box 3 (.t 1), .mv 4 (.c (.b false))])
 (.seq (.seq (.r [.fad 5 (.t 2) 0, .ld 6 (.t 5) 1 false, .fad 7 (.t 3) 0, .ld 8 (.t 7) 1 false, .call (some 9) 56 [((.t 6), .b 1), ((.t 8), .b 1)], .un 10 .not (.t 9)])
 (.cond (.t 10) (.seq (.r [.mv 4 (.c (.b false))])
 (.ret))
 (.skip)))
 (.seq (.seq (.r [.fad 11 (.t 2) 1, .ld 12 (.t 11) 1 false, .fad 13 (.t 3) 1, .ld 14 (.t 13) 1 false, .call (some 15) 57 [((.t 12), .b 2), ((.t 14), .b 2)], .un 16 .not (.t 15)])
 (.cond (.t 16) (.seq (.r [.mv 4 (.c (.b false))])
 (.ret))
 (.skip)))
 (.seq (.seq (.r [.fad 17 (.t 2) 2, .ld 18 (.t 17) 1 false, .fad 19 (.t 3) 2, .ld 20 (.t 19) 1 false, .bin 21 .neq (.t 18) (.t 20)])
 (.cond (.t 21) (.seq (.r [.mv 4 (.c (.b false))])
 (.ret))
 (.skip)))
 (.seq (.seq (.r [.fad 22 (.t 2) 3, .ld 23 (.t 22) 1 false, .fad 24 (.t 3) 3, .ld 25 (.t 24) 1 false, .eqb 26 true (.t 23) (.t 25)])
 (.cond (.t 26) (.seq (.r [.mv 4 (.c (.b false))])
 (.ret))
 (.skip)))
 (.seq (.r [.mv 4 (.c (.b true))])
 (.ret)))))))

def f_laws_eqSuper : Fd := .ir 2 25 [.t 4]
 (.seq (.r [.box 2 (.t 0), .box 3 (.t 1), .mv 4 (.c (.b false))])
 (.seq (.seq (.r [.fad 5 (.t 2) 0, .ld 6 (.t 5) 1 false, .fad 7 (.t 3) 0, .ld 8 (.t 7) 1 false, .bin 9 .neq (.t 6) (.t 8)])
 (.cond (.t 9) (.seq (.r [.mv 4 (.c (.b false))])
 (.ret))
 (.skip)))
 (.seq (.seq (.r [.fad 10 (.t 2) 1, .ld 11 (.t 10) 1 false, .fad 12 (.t 3) 1, .ld 13 (.t 12) 1 false, .bin 14 .neq (.t 11) (.t 13)])
 (.cond (.t 14) (.seq (.r [.mv 4 (.c (.b false))])
 (.ret))
 (.skip)))
 (.seq (.seq (.r [.fad 15 (.t 2) 2, .ld 16 (.t 15) 1 false, .fad 17 (.t 3) 2, .ld 18 (.t 17) 1 false, .bin 19 .neq (.t 16) (.t 18)])
 (.cond (.t 19) (.seq (.r [.mv 4 (.c (.b false))])
 (.ret))
 (.skip)))
 (.seq (.seq (.r [.fad 20 (.t 2) 3, .ld 21 (.t 20) 1 false, .fad 22 (.t 3) 3, .ld 23 (.t 22) 1 false, .bin 24 .neq (.t 21) (.t 23)])
 (.cond (.t 24) (.seq (.r [.mv 4 (.c (.b false))])
 (.ret))
 (.skip)))
 (.seq (.r [.mv 4 (.c (.b true))])
 (.ret)))))))

def f_laws_eqPageS : Fd := .ir 2 27 [.t 4]
 (.seq (.r [.mv 4 (.c (.b false))])
 (.seq (.seq (.r [.mv 6 (.t 0), .len 7 false (.t 6), .mv 8 (.t 1), .len 9 false (.t 8), .bin 10 .neq (.t 7) (.t 9)])
 (.cond (.t 10) (.seq (.r [.mv 4 (.c (.b false))])
 (.ret))
 (.skip)))
 (.seq (.seq (.r [.mv 5 (.c (.i .i64 0))])
 (.blk 0 (.loop [0, 1, 5] [] [] (.seq (.seq (.r [.mv 11 (.t 5), .mv 12 (.t 0), .len 13 false (.t 12), .bin 14 .lss (.t 11) (.t 13)])
 (.cond (.t 14) (.skip)
 (.ex 0)))
 (.seq (.blk 1 (.seq (.r [.mv 17 (.t 0), .mv 18 (.t 5), .ixa 19 (.t 17) (.t 18) 2, .ld 20 (.t 19) 2 true, .mv 21 (.t 1), .mv 22 (.t 5), .ixa 23 (.t 21) (.t 22) 2, .ld 24 (.t 23) 2 true, .call (some 25) 58 [((.t 20), .b 0), ((.t 24), .b 0)], .un 26 .not (.t 25)])
 (.cond (.t 26) (.seq (.r [.mv 4 (.c (.b false))])
 (.ret))
 (.skip))))
 (.r [.mv 15 (.t 5), .bin 16 .add (.t 15) (.c (.i .i64 1)), .mv 5 (.t 16)]))))))
 (.seq (.r [.mv 4 (.c (.b true))])
 (.ret)))))

def f_spec_l28All : Fd := .ir 1 13 [.t 2]
 (.seq (.r [.mv 2 (.c (.nil))])
 (.seq (.r [.mv 4 (.t 0), .call (some 5) 43 [((.t 4), .b 12)], .mv 3 (.t 5)])
 (.seq (.seq (.r [.mv 6 (.t 3), .bin 7 .eql (.t 6) (.c (.i .i64 0))])
 (.cond (.t 7) (.seq (.r [.bsl 8 1 [], .mv 2 (.t 8)])
 (.ret))
 (.skip)))
 (.seq (.r [.mv 9 (.t 0), .bsl 10 1 [], .mv 11 (.t 3), .call (some 12) 59 [((.t 9), .b 12), ((.t 10), .m 0), ((.t 11), .b 0)], .mv 2 (.t 12)])
 (.ret)))))

def f_p_impl_Pager_walk : Fd := .ir 1 11 [.t 2]
 (.seq (.r [.mv 2 (.c (.nil))])
 (.seq (.r [.mv 4 (.t 0), .call (some 5) 60 [((.t 4), .b 12)], .mv 3 (.t 5)])
 (.seq (.seq (.r [.mv 6 (.t 3), .bin 7 .eql (.t 6) (.c (.i .i64 0))])
 (.cond (.t 7) (.seq (.r [.mv 2 (.c (.nil))])
 (.ret))
 (.skip)))
 (.seq (.r [.mv 8 (.t 0), .mv 9 (.t 3), .call (some 10) 61 [((.t 8), .b 12), ((.c (.nil)), .m 0), ((.t 9), .b 0)], .mv 2 (.t 10)])
 (.ret)))))

def f_laws_markDisk : Fd := .ir 2 14 [.t 4]
 (.seq (.r [.box 2 (.t 0), .mv 4 (.c (.i .i64 0))])
 (.seq (.r [.fad 5 (.t 2) 0, .ld 6 (.t 5) 1 false, .mv 7 (.t 1), .call (some 8) 62 [((.t 6), .m 0), ((.t 7), .b 0)], .mv 1 (.t 8)])
 (.seq (.r [.fad 9 (.t 2) 1, .ld 10 (.t 9) 1 false, .mv 11 (.t 1), .call (some 12) 63 [((.t 10), .m 0), ((.t 11), .b 0)], .mv 1 (.t 12)])
 (.seq (.r [.mv 13 (.t 1), .mv 4 (.t 13)])
 (.ret)))))

def f_laws_markPageS : Fd := .ir 2 28 [.t 4]
 (.seq (.r [.mv 4 (.c (.i .i64 0))])
 (.seq (.seq (.r [.mv 5 (.c (.i .i64 0))])
 (.blk 0 (.loop [0, 1, 5] [] [] (.seq (.seq (.r [.mv 6 (.t 5), .mv 7 (.t 0), .len 8 false (.t 7), .bin 9 .lss (.t 6) (.t 8)])
 (.cond (.t 9) (.skip)
 (.ex 0)))
 (.seq (.blk 1 (.seq (.r [.mv 12 (.t 0), .mv 13 (.t 5), .mv 14 (.t 1), .ixa 15 (.t 12) (.t 13) 2, .fad 16 (.t 15) 0, .st (.t 16) (.t 14) 1])
 (.seq (.r [.mv 17 (.t 1), .bin 18 .add (.t 17) (.c (.i .i64 1)), .mv 1 (.t 18)])
 (.seq (.r [.mv 19 (.t 0), .mv 20 (.t 5), .mv 21 (.t 1), .call (some 22) 64 [((.t 21), .b 0)], .ixa 23 (.t 19) (.t 20) 2, .fad 24 (.t 23) 1, .st (.t 24) (.t 22) 1])
 (.r [.mv 25 (.t 1), .bin 26 .add (.t 25) (.c (.i .i64 1)), .mv 1 (.t 26)])))))
 (.r [.mv 10 (.t 5), .bin 11 .add (.t 10) (.c (.i .i64 1)), .mv 5 (.t 11)]))))))
 (.seq (.r [.mv 27 (.t 1), .mv 4 (.t 27)])
 (.ret))))

def f_spec_l17Objects : Fd := .ir 1 15 [.t 2, .t 3]
 (.seq (.r [.mv 2 (.c (.nil)), .mv 3 (.c (.i .i64 0))])
 (.seq (.r [.mv 5 (.t 0), .call (some 6) 43 [((.t 5), .b 12)], .mv 4 (.t 6)])
 (.seq (.seq (.r [.mv 7 (.t 4), .bin 8 .eql (.t 7) (.c (.i .i64 0))])
 (.cond (.t 8) (.seq (.r [.mv 2 (.c (.nil)), .mv 3 (.c (.i .i64 6))])
 (.ret))
 (.skip)))
 (.seq (.r [.mv 9 (.t 0), .bsl 10 1 [], .mv 11 (.t 4), .call (some 12) 65 [((.t 9), .b 12), ((.t 10), .m 0), ((.t 11), .b 0)], .ext 13 (.t 12) 0, .ext 14 (.t 12) 1, .mv 2 (.t 13), .mv 3 (.t 14)])
 (.ret)))))

def f_p_impl_Pager_objects : Fd := .ir 1 14 [.t 2, .t 3]
 (.seq (.r [.mv 2 (.c (.nil)), .mv 3 (.c (.i .i64 0))])
 (.seq (.r [.mv 5 (.t 0), .call (some 6) 60 [((.t 5), .b 12)], .mv 4 (.t 6)])
 (.seq (.seq (.r [.mv 7 (.t 4), .bin 8 .eql (.t 7) (.c (.i .i64 0))])
 (.cond (.t 8) (.seq (.r [.mv 2 (.c (.nil)), .mv 3 (.c (.i .i64 6))])
 (.ret))
 (.skip)))
 (.seq (.r [.mv 9 (.t 0), .mv 10 (.t 4), .call (some 11) 66 [((.t 9), .b 12), ((.c (.nil)), .m 0), ((.t 10), .b 0)], .ext 12 (.t 11) 0, .ext 13 (.t 11) 1, .mv 2 (.t 12), .mv 3 (.t 13)])
 (.ret)))))

def f_laws_szStringS : Fd := .ir 2 28 [.t 4]
 (.seq (.r [.mv 4 (.c (.i .i64 0))])
 (.seq (.r [.mv 6 (.t 1), .mv 7 (.t 0), .len 8 false (.t 7), .bin 9 .sub (.t 6) (.t 8), .mv 1 (.t 9)])
 (.seq (.seq (.r [.mv 10 (.t 1), .bin 11 .lss (.t 10) (.c (.i .i64 0))])
 (.cond (.t 11) (.seq (.r [.mv 4 (.c (.i .i64 (-1)))])
 (.ret))
 (.skip)))
 (.seq (.seq (.r [.mv 5 (.c (.i .i64 0))])
 (.blk 0 (.loop [0, 1, 5] [] [] (.seq (.seq (.r [.mv 12 (.t 5), .mv 13 (.t 0), .len 14 false (.t 13), .bin 15 .lss (.t 12) (.t 14)])
 (.cond (.t 15) (.skip)
 (.ex 0)))
 (.seq (.blk 1 (.seq (.r [.mv 18 (.t 1), .mv 19 (.t 0), .mv 20 (.t 5), .ixa 21 (.t 19) (.t 20) 1, .ld 22 (.t 21) 1 false, .len 23 true (.t 22), .bin 24 .sub (.t 18) (.t 23), .mv 1 (.t 24)])
 (.seq (.r [.mv 25 (.t 1), .bin 26 .lss (.t 25) (.c (.i .i64 0))])
 (.cond (.t 26) (.seq (.r [.mv 4 (.c (.i .i64 (-1)))])
 (.ret))
 (.skip)))))
 (.r [.mv 16 (.t 5), .bin 17 .add (.t 16) (.c (.i .i64 1)), .mv 5 (.t 17)]))))))
 (.seq (.r [.mv 27 (.t 1), .mv 4 (.t 27)])
 (.ret))))))

def f_laws_szPutS : Fd := .ir 2 27 [.t 4]
 (.seq (.r [.mv 4 (.c (.i .i64 0))])
 (.seq (.r [.mv 6 (.t 1), .mv 7 (.t 0), .len 8 false (.t 7), .bin 9 .sub (.t 6) (.t 8), .mv 1 (.t 9)])
 (.seq (.seq (.r [.mv 10 (.t 1), .bin 11 .lss (.t 10) (.c (.i .i64 0))])
 (.cond (.t 11) (.seq (.r [.mv 4 (.c (.i .i64 (-1)))])
 (.ret))
 (.skip)))
 (.seq (.seq (.r [.mv 5 (.c (.i .i64 0))])
 (.blk 0 (.loop [0, 1, 5] [] [] (.seq (.seq (.r [.mv 12 (.t 5), .mv 13 (.t 0), .len 14 false (.t 13), .bin 15 .lss (.t 12) (.t 14)])
 (.cond (.t 15) (.skip)
 (.ex 0)))
 (.seq (.blk 1 (.seq (.r [.mv 18 (.t 0), .mv 19 (.t 5), .ixa 20 (.t 18) (.t 19) 2, .ld 21 (.t 20) 2 true, .mv 22 (.t 1), .call (some 23) 67 [((.t 21), .b 0), ((.t 22), .b 0)], .mv 1 (.t 23)])
 (.seq (.r [.mv 24 (.t 1), .bin 25 .lss (.t 24) (.c (.i .i64 0))])
 (.cond (.t 25) (.seq (.r [.mv 4 (.c (.i .i64 (-1)))])
 (.ret))
 (.skip)))))
 (.r [.mv 16 (.t 5), .bin 17 .add (.t 16) (.c (.i .i64 1)), .mv 5 (.t 17)]))))))
 (.seq (.r [.mv 26 (.t 1), .mv 4 (.t 26)])
 (.ret))))))

def f_laws_szPage : Fd := .ir 2 13 [.t 4]
 (.seq (.r [.box 2 (.t 0), .mv 4 (.c (.i .i64 0))])
 (.seq (.r [.mv 5 (.t 1), .fad 6 (.t 2) 1, .ld 7 (.t 6) 1 false, .len 8 true (.t 7), .bin 9 .sub (.t 5) (.t 8), .mv 1 (.t 9)])
 (.seq (.seq (.r [.mv 10 (.t 1), .bin 11 .lss (.t 10) (.c (.i .i64 0))])
 (.cond (.t 11) (.seq (.r [.mv 4 (.c (.i .i64 (-1)))])
 (.ret))
 (.skip)))
 (.seq (.r [.mv 12 (.t 1), .mv 4 (.t 12)])
 (.ret)))))

def f_spec_IsName : Fd := .ir 1 48 [.t 2]
 (.seq (.r [.mv 2 (.c (.b false))])
 (.seq (.seq (.r [.mv 4 (.t 0), .len 5 true (.t 4), .bin 6 .eql (.t 5) (.c (.i .i64 0)), .mv 7 (.t 6), .g 7 false (some 8) (.mv 8 (.t 0)), .g 7 false (some 9) (.len 9 true (.t 8)), .g 7 false (some 10) (.bin 10 .gtr (.t 9) (.c (.i .i64 12))), .pick 11 (.t 7) (.c (.b true)) (.t 10), .mv 12 (.t 11), .g 12 false (some 13) (.mv 13 (.t 0)), .g 12 false (some 14) (.ixs 14 (.t 13) (.c (.i .i64 0))), .g 12 false (some 15) (.call (some 15) 68 [((.t 14), .b 0)]), .g 12 false (some 16) (.un 16 .not (.t 15)), .pick 17 (.t 12) (.c (.b true)) (.t 16)])
 (.cond (.t 17) (.seq (.r [.mv 2 (.c (.b false))])
 (.ret))
 (.skip)))
 (.seq (.seq (.r [.mv 3 (.c (.i .i64 1))])
 (.blk 0 (.loop [0, 3] [] [] (.seq (.seq (.r [.mv 18 (.t 3), .mv 19 (.t 0), .len 20 true (.t 19), .bin 21 .lss (.t 18) (.t 20)])
 (.cond (.t 21) (.skip)
 (.ex 0)))
 (.seq (.blk 1 (.seq (.r [.mv 24 (.t 0), .mv 25 (.t 3), .ixs 26 (.t 24) (.t 25), .call (some 27) 68 [((.t 26), .b 0)], .un 28 .not (.t 27), .mv 29 (.t 28), .g 29 true (some 30) (.mv 30 (.t 0)), .g 29 true (some 31) (.mv 31 (.t 3)), .g 29 true (some 32) (.ixs 32 (.t 30) (.t 31)), .g 29 true (some 33) (.bin 33 .geq (.t 32) (.c (.i .u8 48))), .g 29 true (some 34) (.mv 34 (.t 33)), .g 34 true (some 35) (.mv 35 (.t 0)), .g 34 true (some 36) (.mv 36 (.t 3)), .g 34 true (some 37) (.ixs 37 (.t 35) (.t 36)), .g 34 true (some 38) (.bin 38 .leq (.t 37) (.c (.i .u8 57))), .g 29 true (some 39) (.pick 39 (.t 34) (.t 38) (.c (.b false))), .g 29 true (some 40) (.un 40 .not (.t 39)), .pick 41 (.t 29) (.t 40) (.c (.b false)), .mv 42 (.t 41), .g 42 true (some 43) (.mv 43 (.t 0)), .g 42 true (some 44) (.mv 44 (.t 3)), .g 42 true (some 45) (.ixs 45 (.t 43) (.t 44)), .g 42 true (some 46) (.bin 46 .neq (.t 45) (.c (.i .u8 95))), .pick 47 (.t 42) (.t 46) (.c (.b false))])
 (.cond (.t 47) (.seq (.r [.mv 2 (.c (.b false))])
 (.ret))
 (.skip))))
 (.r [.mv 22 (.t 3), .bin 23 .add (.t 22) (.c (.i .i64 1)), .mv 3 (.t 23)]))))))
 (.seq (.r [.mv 2 (.c (.b true))])
 (.ret)))))

def f_spec_l09Ok : Fd := .ir 1 81 [.t 2]
 (.seq (.r [.mv 2 (.c (.b false))])
 (.seq (.r [.mv 6 (.t 0), .nck 7 (.t 6), .fad 8 (.t 7) 0, .ld 9 (.t 8) 1 false, .len 10 false (.t 9), .mv 3 (.t 10)])
 (.seq (.seq (.r [.mv 11 (.t 3), .call (some 12) 39 [((.t 11), .b 0), ((.c (.i .i64 16)), .b 0), ((.c (.i .i64 256)), .b 0)], .un 13 .not (.t 12), .mv 14 (.t 13), .g 14 false (some 15) (.mv 15 (.t 0)), .g 14 false (some 16) (.nck 16 (.t 15)), .g 14 false (some 17) (.fad 17 (.t 16) 1), .g 14 false (some 18) (.ld 18 (.t 17) 1 false), .g 14 false (some 19) (.len 19 false (.t 18)), .g 14 false (some 20) (.bin 20 .gtr (.t 19) (.c (.i .i64 600))), .pick 21 (.t 14) (.c (.b true)) (.t 20), .mv 22 (.t 21), .g 22 false (some 23) (.mv 23 (.t 0)), .g 22 false (some 24) (.nck 24 (.t 23)), .g 22 false (some 25) (.fad 25 (.t 24) 2), .g 22 false (some 26) (.ld 26 (.t 25) 1 false), .g 22 false (some 27) (.call (some 27) 39 [((.t 26), .b 0), ((.c (.i .i64 (-1))), .b 0), ((.c (.i .i64 100000)), .b 0)]), .g 22 false (some 28) (.un 28 .not (.t 27)), .pick 29 (.t 22) (.c (.b true)) (.t 28)])
 (.cond (.t 29) (.seq (.r [.mv 2 (.c (.b false))])
 (.ret))
 (.skip)))
 (.seq (.seq (.r [.mv 4 (.c (.i .i64 0))])
 (.blk 0 (.loop [0, 3, 4] [] [] (.seq (.seq (.r [.mv 30 (.t 4), .mv 31 (.t 0), .nck 32 (.t 31), .fad 33 (.t 32) 0, .ld 34 (.t 33) 1 false, .len 35 false (.t 34), .bin 36 .lss (.t 30) (.t 35)])
 (.cond (.t 36) (.skip)
 (.ex 0)))
 (.seq (.blk 1 (.seq (.r [.mv 39 (.t 0), .nck 40 (.t 39), .fad 41 (.t 40) 0, .ld 42 (.t 41) 1 false, .mv 43 (.t 4), .ixa 44 (.t 42) (.t 43) 1, .ld 45 (.t 44) 1 false, .len 46 true (.t 45), .bin 47 .neq (.t 46) (.c (.i .i64 64))])
 (.cond (.t 47) (.seq (.r [.mv 2 (.c (.b false))])
 (.ret))
 (.skip))))
 (.r [.mv 37 (.t 4), .bin 38 .add (.t 37) (.c (.i .i64 1)), .mv 4 (.t 38)]))))))
 (.seq (.seq (.r [.mv 5 (.c (.i .i64 0))])
 (.blk 2 (.loop [0, 3, 5] [] [] (.seq (.seq (.r [.mv 48 (.t 5), .mv 49 (.t 0), .nck 50 (.t 49), .fad 51 (.t 50) 1, .ld 52 (.t 51) 1 false, .len 53 false (.t 52), .bin 54 .lss (.t 48) (.t 53)])
 (.cond (.t 54) (.skip)
 (.ex 2)))
 (.seq (.blk 3 (.seq (.r [.mv 57 (.t 0), .nck 58 (.t 57), .fad 59 (.t 58) 1, .ld 60 (.t 59) 1 false, .mv 61 (.t 5), .ixa 62 (.t 60) (.t 61) 2, .fad 63 (.t 62) 0, .ld 64 (.t 63) 1 false, .mv 65 (.t 3), .bin 66 .sub (.t 65) (.c (.i .i64 1)), .call (some 67) 39 [((.t 64), .b 0), ((.c (.i .i64 0)), .b 0), ((.t 66), .b 0)], .un 68 .not (.t 67), .mv 69 (.t 68), .g 69 false (some 70) (.mv 70 (.t 0)), .g 69 false (some 71) (.nck 71 (.t 70)), .g 69 false (some 72) (.fad 72 (.t 71) 1), .g 69 false (some 73) (.ld 73 (.t 72) 1 false), .g 69 false (some 74) (.mv 74 (.t 5)), .g 69 false (some 75) (.ixa 75 (.t 73) (.t 74) 2), .g 69 false (some 76) (.fad 76 (.t 75) 1), .g 69 false (some 77) (.ld 77 (.t 76) 1 false), .g 69 false (some 78) (.len 78 true (.t 77)), .g 69 false (some 79) (.bin 79 .neq (.t 78) (.c (.i .i64 64))), .pick 80 (.t 69) (.c (.b true)) (.t 79)])
 (.cond (.t 80) (.seq (.r [.mv 2 (.c (.b false))])
 (.ret))
 (.skip))))
 (.r [.mv 55 (.t 5), .bin 56 .add (.t 55) (.c (.i .i64 1)), .mv 5 (.t 56)]))))))
 (.seq (.r [.mv 2 (.c (.b true))])
 (.ret)))))))

def f_spec_ValidSuper : Fd := .ir 1 29 [.t 2]
 (.seq (.r [.box 1 (.t 0), .mv 2 (.c (.b false))])
 (.seq (.r [.fad 3 (.t 1) 0, .ld 4 (.t 3) 1 false, .call (some 5) 39 [((.t 4), .b 0), ((.c (.i .i64 16)), .b 0), ((.c (.i .i64 256)), .b 0)], .mv 6 (.t 5), .g 6 true (some 7) (.fad 7 (.t 1) 1), .g 6 true (some 8) (.ld 8 (.t 7) 1 false), .g 6 true (some 9) (.call (some 9) 39 [((.t 8), .b 0), ((.c (.i .i64 8)), .b 0), ((.c (.i .i64 64)), .b 0)]), .pick 10 (.t 6) (.t 9) (.c (.b false)), .mv 11 (.t 10), .g 11 true (some 12) (.fad 12 (.t 1) 1), .g 11 true (some 13) (.ld 13 (.t 12) 1 false), .g 11 true (some 14) (.fad 14 (.t 1) 0), .g 11 true (some 15) (.ld 15 (.t 14) 1 false), .g 11 true (some 16) (.bin 16 .sub (.t 15) (.c (.i .i64 4))), .g 11 true (some 17) (.bin 17 .leq (.t 13) (.t 16)), .pick 18 (.t 11) (.t 17) (.c (.b false)), .mv 19 (.t 18), .g 19 true (some 20) (.fad 20 (.t 1) 2), .g 19 true (some 21) (.ld 21 (.t 20) 1 false), .g 19 true (some 22) (.call (some 22) 39 [((.t 21), .b 0), ((.c (.i .i64 0)), .b 0), ((.c (.i .i64 1000000000000)), .b 0)]), .pick 23 (.t 19) (.t 22) (.c (.b false)), .mv 24 (.t 23), .g 24 true (some 25) (.fad 25 (.t 1) 3), .g 24 true (some 26) (.ld 26 (.t 25) 1 false), .g 24 true (some 27) (.call (some 27) 39 [((.t 26), .b 0), ((.c (.i .i64 0)), .b 0), ((.c (.i .i64 1000000000000)), .b 0)]), .pick 28 (.t 24) (.t 27) (.c (.b false)), .mv 2 (.t 28)])
 (.ret)))

def f_spec_l00In : Fd := .ir 3 15 [.t 6]
 (.seq (.r [.mv 6 (.c (.b false))])
 (.seq (.r [.mv 7 (.t 0), .mv 8 (.t 1), .bin 9 .geq (.t 7) (.t 8), .mv 10 (.t 9), .g 10 true (some 11) (.mv 11 (.t 0)), .g 10 true (some 12) (.mv 12 (.t 2)), .g 10 true (some 13) (.bin 13 .leq (.t 11) (.t 12)), .pick 14 (.t 10) (.t 13) (.c (.b false)), .mv 6 (.t 14)])
 (.ret)))

def f_spec_l11Pages : Fd := .ir 1 47 [.t 2]
 (.seq (.r [.mv 2 (.c (.b false))])
 (.seq (.seq (.r [.mv 4 (.t 0), .len 5 false (.t 4), .bin 6 .gtr (.t 5) (.c (.i .i64 256))])
 (.cond (.t 6) (.seq (.r [.mv 2 (.c (.b false))])
 (.ret))
 (.skip)))
 (.seq (.seq (.r [.mv 3 (.c (.i .i64 0))])
 (.blk 0 (.loop [0, 3] [] [] (.seq (.seq (.r [.mv 7 (.t 3), .mv 8 (.t 0), .len 9 false (.t 8), .bin 10 .lss (.t 7) (.t 9)])
 (.cond (.t 10) (.skip)
 (.ex 0)))
 (.seq (.blk 1 (.seq (.r [.mv 13 (.t 0), .mv 14 (.t 3), .ixa 15 (.t 13) (.t 14) 2, .fad 16 (.t 15) 0, .ld 17 (.t 16) 1 false, .call (some 18) 39 [((.t 17), .b 0), ((.c (.i .i64 0)), .b 0), ((.c (.i .i64 255)), .b 0)], .un 19 .not (.t 18), .mv 20 (.t 19), .g 20 false (some 21) (.mv 21 (.t 0)), .g 20 false (some 22) (.mv 22 (.t 3)), .g 20 false (some 23) (.ixa 23 (.t 21) (.t 22) 2), .g 20 false (some 24) (.fad 24 (.t 23) 1), .g 20 false (some 25) (.ld 25 (.t 24) 1 false), .g 20 false (some 26) (.len 26 true (.t 25)), .g 20 false (some 27) (.bin 27 .neq (.t 26) (.c (.i .i64 64))), .pick 28 (.t 20) (.c (.b true)) (.t 27), .mv 29 (.t 28), .g 29 false (some 30) (.mv 30 (.t 3)), .g 29 false (some 31) (.bin 31 .gtr (.t 30) (.c (.i .i64 0))), .g 29 false (some 32) (.mv 32 (.t 31)), .g 32 true (some 33) (.mv 33 (.t 0)), .g 32 true (some 34) (.mv 34 (.t 3)), .g 32 true (some 35) (.bin 35 .sub (.t 34) (.c (.i .i64 1))), .g 32 true (some 36) (.ixa 36 (.t 33) (.t 35) 2), .g 32 true (some 37) (.fad 37 (.t 36) 0), .g 32 true (some 38) (.ld 38 (.t 37) 1 false), .g 32 true (some 39) (.mv 39 (.t 0)), .g 32 true (some 40) (.mv 40 (.t 3)), .g 32 true (some 41) (.ixa 41 (.t 39) (.t 40) 2), .g 32 true (some 42) (.fad 42 (.t 41) 0), .g 32 true (some 43) (.ld 43 (.t 42) 1 false), .g 32 true (some 44) (.bin 44 .geq (.t 38) (.t 43)), .g 29 false (some 45) (.pick 45 (.t 32) (.t 44) (.c (.b false))), .pick 46 (.t 29) (.c (.b true)) (.t 45)])
 (.cond (.t 46) (.seq (.r [.mv 2 (.c (.b false))])
 (.ret))
 (.skip))))
 (.r [.mv 11 (.t 3), .bin 12 .add (.t 11) (.c (.i .i64 1)), .mv 3 (.t 12)]))))))
 (.seq (.r [.mv 2 (.c (.b true))])
 (.ret)))))

def f_spec_l11Within : Fd := .ir 2 24 [.t 4]
 (.seq (.r [.box 2 (.t 0), .mv 4 (.c (.b false))])
 (.seq (.seq (.r [.mv 5 (.c (.i .i64 0))])
 (.blk 0 (.loop [1, 2, 5] [] [] (.seq (.seq (.r [.mv 6 (.t 5), .mv 7 (.t 1), .len 8 false (.t 7), .bin 9 .lss (.t 6) (.t 8)])
 (.cond (.t 9) (.skip)
 (.ex 0)))
 (.seq (.blk 1 (.seq (.r [.mv 12 (.t 1), .mv 13 (.t 5), .ixa 14 (.t 12) (.t 13) 2, .fad 15 (.t 14) 0, .ld 16 (.t 15) 1 false, .ld 17 (.t 2) 4 true, .call (some 18) 69 [((.t 17), .b 0)], .fad 19 (.t 2) 0, .ck (.np (.t 19)) (.ld 20 (.t 19) 1 false), .bin 21 .sub (.t 20) (.c (.i .i64 1)), .call (some 22) 39 [((.t 16), .b 0), ((.t 18), .b 0), ((.t 21), .b 0)], .un 23 .not (.t 22)])
 (.cond (.t 23) (.seq (.r [.mv 4 (.c (.b false))])
 (.ret))
 (.skip))))
 (.r [.mv 10 (.t 5), .bin 11 .add (.t 10) (.c (.i .i64 1)), .mv 5 (.t 11)]))))))
 (.seq (.r [.mv 4 (.c (.b true))])
 (.ret))))

def f_spec_l12Fits : Fd := .ir 2 18 [.t 4]
 (.seq (.r [.box 2 (.t 0), .mv 4 (.c (.b false))])
 (.seq (.r [.mv 5 (.t 1), .bin 6 .eql (.t 5) (.c (.i .i64 0)), .mv 7 (.t 6), .g 7 false (some 8) (.mv 8 (.t 1)), .g 7 false (some 9) (.bin 9 .leq (.t 8) (.c (.i .i64 60))), .g 7 false (some 10) (.mv 10 (.t 9)), .g 10 true (some 11) (.mv 11 (.t 1)), .g 10 true (some 12) (.call (some 12) 70 [((.t 11), .b 0)]), .g 10 true (some 13) (.fad 13 (.t 2) 1), .g 10 true (some 14) (.ck (.np (.t 13)) (.ld 14 (.t 13) 1 false)), .g 10 true (some 15) (.bin 15 .leq (.t 12) (.t 14)), .g 7 false (some 16) (.pick 16 (.t 10) (.t 15) (.c (.b false))), .pick 17 (.t 7) (.c (.b true)) (.t 16), .mv 4 (.t 17)])
 (.ret)))

def f_spec_l13Root : Fd := .ir 1 12 [.t 2]
 (.seq (.r [.mv 2 (.c (.i .i64 0))])
 (.seq (.r [.mv 6 (.t 0), .call (some 7) 71 [((.t 6), .b 12)], .call (some 8) 72 [((.t 7), .b 0), ((.c (.i .i64 0)), .b 0), ((.c (.i .i64 2)), .b 0)], .mv 5 (.t 8), .ext 9 (.t 5) 0, .ext 10 (.t 5) 1, .mv 3 (.t 9), .mv 4 (.t 10)])
 (.seq (.r [.mv 11 (.t 3), .mv 2 (.t 11)])
 (.ret))))

def f_spec_l17Read : Fd := .ir 2 69 [.c 4 5 true, .t 5]
 (.seq (.r [.alc 4 [.i .i64 0, .i .i64 0, .nil, .nil, .nil], .mv 5 (.c (.i .i64 0))])
 (.seq (.r [.mv 14 (.t 0), .mv 15 (.t 1), .call (some 16) 73 [((.t 14), .b 12), ((.t 15), .b 0)], .mv 13 (.t 16), .ext 17 (.t 13) 0, .ext 18 (.t 13) 1, .alc 6 [.i .i64 0, .i .i64 0, .nil], .st (.t 6) (.t 17) 3, .mv 7 (.t 18)])
 (.seq (.seq (.r [.mv 19 (.t 7), .bin 20 .neq (.t 19) (.c (.i .i64 0))])
 (.cond (.t 20) (.seq (.r [.bld 21 [.i .i64 0, .i .i64 0, .nil, .nil, .nil] [], .mv 22 (.t 7), .st (.t 4) (.t 21) 5, .mv 5 (.t 22)])
 (.ret))
 (.skip)))
 (.seq (.seq (.r [.fad 23 (.t 6) 0, .ld 24 (.t 23) 1 false, .bin 25 .neq (.t 24) (.c (.i .i64 1))])
 (.cond (.t 25) (.seq (.r [.bld 26 [.i .i64 0, .i .i64 0, .nil, .nil, .nil] [], .st (.t 4) (.t 26) 5, .mv 5 (.c (.i .i64 7))])
 (.ret))
 (.skip)))
 (.seq (.r [.ld 27 (.t 6) 3 true, .call (some 28) 74 [((.t 27), .b 0), ((.c (.i .i64 9)), .b 0)], .mv 8 (.t 28)])
 (.seq (.r [.ld 29 (.t 6) 3 true, .call (some 30) 74 [((.t 29), .b 0), ((.c (.i .i64 7)), .b 0)], .mv 9 (.t 30)])
 (.seq (.seq (.r [.mv 31 (.t 8), .bin 32 .lss (.t 31) (.c (.i .i64 0)), .mv 33 (.t 32), .g 33 false (some 34) (.mv 34 (.t 9)), .g 33 false (some 35) (.bin 35 .lss (.t 34) (.c (.i .i64 0))), .pick 36 (.t 33) (.c (.b true)) (.t 35)])
 (.cond (.t 36) (.seq (.r [.bld 37 [.i .i64 0, .i .i64 0, .nil, .nil, .nil] [], .st (.t 4) (.t 37) 5, .mv 5 (.c (.i .i64 10))])
 (.ret))
 (.skip)))
 (.seq (.r [.fad 39 (.t 6) 2, .ld 40 (.t 39) 1 false, .mv 41 (.t 8), .ixa 42 (.t 40) (.t 41) 3, .fad 43 (.t 42) 2, .ld 44 (.t 43) 1 false, .call (some 45) 75 [((.t 44), .b 0)], .mv 38 (.t 45), .ext 46 (.t 38) 0, .ext 47 (.t 38) 1, .alc 10 [.nil], .st (.t 10) (.t 46) 1, .mv 11 (.t 47)])
 (.seq (.seq (.r [.mv 48 (.t 11), .un 49 .not (.t 48)])
 (.cond (.t 49) (.seq (.r [.bld 50 [.i .i64 0, .i .i64 0, .nil, .nil, .nil] [], .st (.t 4) (.t 50) 5, .mv 5 (.c (.i .i64 10))])
 (.ret))
 (.skip)))
 (.seq (.r [.fad 52 (.t 6) 2, .ld 53 (.t 52) 1 false, .mv 54 (.t 9), .ixa 55 (.t 53) (.t 54) 3, .fad 56 (.t 55) 2, .ld 57 (.t 56) 1 false, .ld 58 (.t 10) 1 true, .call (some 59) 76 [((.t 57), .b 0), ((.t 58), .b 0)], .mv 51 (.t 59), .ext 60 (.t 51) 0, .ext 61 (.t 51) 1, .mv 12 (.t 60), .mv 11 (.t 61)])
 (.seq (.seq (.r [.mv 62 (.t 11), .un 63 .not (.t 62)])
 (.cond (.t 63) (.seq (.r [.bld 64 [.i .i64 0, .i .i64 0, .nil, .nil, .nil] [], .st (.t 4) (.t 64) 5, .mv 5 (.c (.i .i64 10))])
 (.ret))
 (.skip)))
 (.seq (.r [.ld 65 (.t 6) 3 true, .ld 66 (.t 10) 1 true, .mv 67 (.t 12), .bld 68 [.i .i64 0, .i .i64 0, .nil, .nil, .nil] [(0, 3, (.t 65)), (3, 1, (.t 66)), (4, 1, (.t 67))], .st (.t 4) (.t 68) 5, .mv 5 (.c (.i .i64 0))])
 (.ret)))))))))))))

def f_spec_l17Link : Fd := .ir 2 20 [.t 4]
 (.seq (.r [.mv 4 (.c (.i .i64 0))])
 (.seq (.seq (.r [.mv 5 (.c (.i .i64 0))])
 (.blk 0 (.loop [0, 1, 5] [] [] (.seq (.seq (.r [.mv 6 (.t 5), .mv 7 (.t 0), .len 8 false (.t 7), .bin 9 .lss (.t 6) (.t 8)])
 (.cond (.t 9) (.skip)
 (.ex 0)))
 (.seq (.blk 1 (.seq (.r [.mv 12 (.t 0), .mv 13 (.t 5), .ixa 14 (.t 12) (.t 13) 3, .fad 15 (.t 14) 0, .ld 16 (.t 15) 1 false, .mv 17 (.t 1), .bin 18 .eql (.t 16) (.t 17)])
 (.cond (.t 18) (.seq (.r [.mv 19 (.t 5), .mv 4 (.t 19)])
 (.ret))
 (.skip))))
 (.r [.mv 10 (.t 5), .bin 11 .add (.t 10) (.c (.i .i64 1)), .mv 5 (.t 11)]))))))
 (.seq (.r [.mv 4 (.c (.i .i64 (-1)))])
 (.ret))))

def f_laws_toStringS : Fd := .ir 1 22 [.t 2]
 (.seq (.r [.mv 2 (.c (.nil))])
 (.seq (.r [.mv 5 (.t 0), .len 6 false (.t 5), .mks 7 1 (.s []) (.t 6) (.t 6), .mv 3 (.t 7)])
 (.seq (.seq (.r [.mv 4 (.c (.i .i64 0))])
 (.blk 0 (.loop [0, 3, 4] [] [] (.seq (.seq (.r [.mv 8 (.t 4), .mv 9 (.t 0), .len 10 false (.t 9), .bin 11 .lss (.t 8) (.t 10)])
 (.cond (.t 11) (.skip)
 (.ex 0)))
 (.seq (.blk 1 (.r [.mv 14 (.t 3), .mv 15 (.t 4), .mv 16 (.t 0), .mv 17 (.t 4), .ixa 18 (.t 16) (.t 17) 1, .ld 19 (.t 18) 1 false, .ixa 20 (.t 14) (.t 15) 1, .st (.t 20) (.t 19) 1]))
 (.r [.mv 12 (.t 4), .bin 13 .add (.t 12) (.c (.i .i64 1)), .mv 4 (.t 13)]))))))
 (.seq (.r [.mv 21 (.t 3), .mv 2 (.t 21)])
 (.ret)))))

def f_laws_toPutS : Fd := .ir 1 23 [.t 2]
 (.seq (.r [.mv 2 (.c (.nil))])
 (.seq (.r [.mv 5 (.t 0), .len 6 false (.t 5), .mks 7 2 (.agg [.i .i64 0, .s []]) (.t 6) (.t 6), .mv 3 (.t 7)])
 (.seq (.seq (.r [.mv 4 (.c (.i .i64 0))])
 (.blk 0 (.loop [0, 3, 4] [] [] (.seq (.seq (.r [.mv 8 (.t 4), .mv 9 (.t 0), .len 10 false (.t 9), .bin 11 .lss (.t 8) (.t 10)])
 (.cond (.t 11) (.skip)
 (.ex 0)))
 (.seq (.blk 1 (.r [.mv 14 (.t 3), .mv 15 (.t 4), .mv 16 (.t 0), .mv 17 (.t 4), .ixa 18 (.t 16) (.t 17) 2, .ld 19 (.t 18) 2 true, .call (some 20) 77 [((.t 19), .b 0)], .ixa 21 (.t 14) (.t 15) 2, .st (.t 21) (.t 20) 2]))
 (.r [.mv 12 (.t 4), .bin 13 .add (.t 12) (.c (.i .i64 1)), .mv 4 (.t 13)]))))))
 (.seq (.r [.mv 22 (.t 3), .mv 2 (.t 22)])
 (.ret)))))

def f_laws_toPage : Fd := .ir 1 11 [.c 2 2 true]
 (.seq (.r [.box 1 (.t 0), .alc 2 [.i .i64 0, .s []]])
 (.seq (.r [.alc 3 [.i .i64 0, .s []]])
 (.seq (.r [.fad 4 (.t 1) 0, .ld 5 (.t 4) 1 false, .fad 6 (.t 3) 0, .st (.t 6) (.t 5) 1])
 (.seq (.r [.fad 7 (.t 1) 1, .ld 8 (.t 7) 1 false, .fad 9 (.t 3) 1, .st (.t 9) (.t 8) 1])
 (.seq (.r [.ld 10 (.t 3) 2 true, .st (.t 2) (.t 10) 2])
 (.ret))))))

def f_impl_superFits : Fd := .ir 2 19 [.t 4]
 (.seq (.r [.box 2 (.t 0), .box 3 (.t 1), .mv 4 (.c (.b false))])
 (.seq (.r [.ld 5 (.t 2) 4 true, .call (some 6) 78 [((.t 5), .b 0)], .mv 7 (.t 6), .g 7 true (some 8) (.ld 8 (.t 3) 4 true), .g 7 true (some 9) (.call (some 9) 79 [((.t 8), .b 0)]), .pick 10 (.t 7) (.t 9) (.c (.b false)), .mv 11 (.t 10), .g 11 true (some 12) (.fad 12 (.t 3) 0), .g 11 true (some 13) (.ld 13 (.t 12) 1 false), .g 11 true (some 14) (.fad 14 (.t 2) 0), .g 11 true (some 15) (.ld 15 (.t 14) 1 false), .g 11 true (some 16) (.len 16 false (.t 15)), .g 11 true (some 17) (.bin 17 .eql (.t 13) (.t 16)), .pick 18 (.t 11) (.t 17) (.c (.b false)), .mv 4 (.t 18)])
 (.ret)))

def f_impl_within : Fd := .ir 3 15 [.t 6]
 (.seq (.r [.mv 6 (.c (.b false))])
 (.seq (.r [.mv 7 (.t 0), .mv 8 (.t 1), .bin 9 .geq (.t 7) (.t 8), .mv 10 (.t 9), .g 10 true (some 11) (.mv 11 (.t 0)), .g 10 true (some 12) (.mv 12 (.t 2)), .g 10 true (some 13) (.bin 13 .leq (.t 11) (.t 12)), .pick 14 (.t 10) (.t 13) (.c (.b false)), .mv 6 (.t 14)])
 (.ret)))

def f_impl_ValidPages : Fd := .ir 1 41 [.t 2]
 (.seq (.r [.mv 2 (.c (.b false))])
 (.seq (.seq (.r [.mv 5 (.t 0), .len 6 false (.t 5), .mv 7 (.c (.i .i64 0))])
 (.blk 0 (.loop [0, 5, 6, 7] [] [] (.seq (.r [.bin 8 .lss (.t 7) (.t 6)])
 (.seq (.cond (.t 8) (.skip)
 (.ex 0))
 (.seq (.blk 1 (.seq (.r [.mv 9 (.t 7), .ixa 10 (.t 5) (.t 7) 2, .ld 11 (.t 10) 2 true, .alc 4 [.i .i64 0, .s []], .mv 3 (.t 9), .st (.t 4) (.t 11) 2])
 (.seq (.r [.fad 12 (.t 4) 0, .ld 13 (.t 12) 1 false, .call (some 14) 50 [((.t 13), .b 0), ((.c (.i .i64 0)), .b 0), ((.c (.i .i64 255)), .b 0)], .un 15 .not (.t 14), .mv 16 (.t 15), .g 16 false (some 17) (.mv 17 (.t 3)), .g 16 false (some 18) (.bin 18 .gtr (.t 17) (.c (.i .i64 0))), .g 16 false (some 19) (.mv 19 (.t 18)), .g 19 true (some 20) (.fad 20 (.t 4) 0), .g 19 true (some 21) (.ld 21 (.t 20) 1 false), .g 19 true (some 22) (.mv 22 (.t 0)), .g 19 true (some 23) (.mv 23 (.t 3)), .g 19 true (some 24) (.bin 24 .sub (.t 23) (.c (.i .i64 1))), .g 19 true (some 25) (.ixa 25 (.t 22) (.t 24) 2), .g 19 true (some 26) (.fad 26 (.t 25) 0), .g 19 true (some 27) (.ld 27 (.t 26) 1 false), .g 19 true (some 28) (.bin 28 .leq (.t 21) (.t 27)), .g 16 false (some 29) (.pick 29 (.t 19) (.t 28) (.c (.b false))), .pick 30 (.t 16) (.c (.b true)) (.t 29), .mv 31 (.t 30), .g 31 false (some 32) (.fad 32 (.t 4) 1), .g 31 false (some 33) (.ld 33 (.t 32) 1 false), .g 31 false (some 34) (.call (some 34) 80 [((.t 33), .b 0)]), .g 31 false (some 35) (.un 35 .not (.t 34)), .pick 36 (.t 31) (.c (.b true)) (.t 35)])
 (.cond (.t 36) (.seq (.r [.mv 2 (.c (.b false))])
 (.ret))
 (.skip)))))
 (.r [.bin 37 .add (.t 7) (.c (.i .i64 1)), .mv 7 (.t 37)])))))))
 (.seq (.r [.mv 38 (.t 0), .len 39 false (.t 38), .bin 40 .leq (.t 39) (.c (.i .i64 256)), .mv 2 (.t 40)])
 (.ret))))

def f_impl_Super_inArea : Fd := .ir 2 9 [.t 4]
 (.seq (.r [.box 2 (.t 0), .mv 4 (.c (.b false))])
 (.seq (.r [.mv 5 (.t 1), .mkf 6 81 [(.t 2)], .call (some 7) 82 [((.t 5), .b 2), ((.t 6), .b 0)], .un 8 .not (.t 7), .mv 4 (.t 8)])
 (.ret)))

def f_impl_Super_fits : Fd := .ir 2 14 [.t 4]
 (.seq (.r [.box 2 (.t 0), .mv 4 (.c (.b false))])
 (.seq (.r [.mv 5 (.t 1), .bin 6 .leq (.t 5) (.c (.i .i64 60)), .mv 7 (.t 6), .g 7 true (some 8) (.mv 8 (.t 1)), .g 7 true (some 9) (.call (some 9) 83 [((.t 8), .b 0)]), .g 7 true (some 10) (.fad 10 (.t 2) 1), .g 7 true (some 11) (.ck (.np (.t 10)) (.ld 11 (.t 10) 1 false)), .g 7 true (some 12) (.bin 12 .leq (.t 9) (.t 11)), .pick 13 (.t 7) (.t 12) (.c (.b false)), .mv 4 (.t 13)])
 (.ret)))

def f_impl_splitPath : Fd := .ir 1 28 [.t 2, .t 3]
 (.seq (.r [.mv 2 (.c (.nil)), .mv 3 (.c (.b false))])
 (.seq (.seq (.r [.mv 7 (.t 0), .bin 8 .eql (.t 7) (.c (.s [47]))])
 (.cond (.t 8) (.seq (.r [.mv 2 (.c (.nil)), .mv 3 (.c (.b true))])
 (.ret))
 (.skip)))
 (.seq (.r [.mv 10 (.t 0), .call (some 11) 84 [((.t 10), .b 0), ((.c (.s [47])), .b 0)], .mv 9 (.t 11), .ext 12 (.t 9) 0, .ext 13 (.t 9) 1, .mv 4 (.t 12), .mv 5 (.t 13)])
 (.seq (.r [.mv 14 (.t 4), .call (some 15) 85 [((.t 14), .b 0), ((.c (.s [47])), .b 0)], .mv 6 (.t 15)])
 (.seq (.seq (.r [.mv 16 (.t 5), .un 17 .not (.t 16), .mv 18 (.t 17), .g 18 false (some 19) (.mv 19 (.t 6)), .g 18 false (some 20) (.len 20 false (.t 19)), .g 18 false (some 21) (.bin 21 .gtr (.t 20) (.c (.i .i64 6))), .pick 22 (.t 18) (.c (.b true)) (.t 21), .mv 23 (.t 22), .g 23 false (some 24) (.mv 24 (.t 6)), .g 23 false (some 25) (.call (some 25) 86 [((.t 24), .b 1), ((.c (.fn 87 [])), .b 0)]), .pick 26 (.t 23) (.c (.b true)) (.t 25)])
 (.cond (.t 26) (.seq (.r [.mv 2 (.c (.nil)), .mv 3 (.c (.b false))])
 (.ret))
 (.skip)))
 (.seq (.r [.mv 27 (.t 6), .mv 2 (.t 27), .mv 3 (.c (.b true))])
 (.ret)))))))

def f_p_impl_Pager_find : Fd := .ir 2 76 [.t 4, .t 5]
 (.seq (.r [.mv 4 (.c (.i .i64 0)), .mv 5 (.c (.i .i64 0))])
 (.seq (.r [.mv 14 (.t 0), .call (some 15) 60 [((.t 14), .b 12)], .mv 6 (.t 15)])
 (.seq (.seq (.r [.mv 16 (.t 6), .bin 17 .eql (.t 16) (.c (.i .i64 0))])
 (.cond (.t 17) (.seq (.r [.mv 4 (.c (.i .i64 0)), .mv 5 (.c (.i .i64 6))])
 (.ret))
 (.skip)))
 (.seq (.r [.mv 18 (.t 6), .mv 7 (.t 18)])
 (.seq (.seq (.r [.mv 8 (.c (.i .i64 0))])
 (.blk 0 (.loop [0, 1, 6, 7, 8] [(1, 1)] [] (.seq (.seq (.r [.mv 19 (.t 1), .len 20 false (.t 19), .bin 21 .gtr (.t 20) (.c (.i .i64 0))])
 (.cond (.t 21) (.skip)
 (.ex 0)))
 (.blk 1 (.seq (.r [.mv 23 (.t 0), .mv 24 (.t 7), .call (some 25) 88 [((.t 23), .b 12), ((.t 24), .b 0)], .mv 22 (.t 25), .ext 26 (.t 22) 0, .ext 27 (.t 22) 1, .alc 9 [.i .i64 0, .i .i64 0, .i .i64 0, .nil, .nil, .nil], .st (.t 9) (.t 26) 6, .mv 10 (.t 27)])
 (.seq (.seq (.r [.mv 28 (.t 10), .bin 29 .neq (.t 28) (.c (.i .i64 0))])
 (.cond (.t 29) (.seq (.r [.mv 30 (.t 10), .mv 4 (.c (.i .i64 0)), .mv 5 (.t 30)])
 (.ret))
 (.skip)))
 (.seq (.r [.ld 31 (.t 9) 6 true, .mv 32 (.t 1), .ixa 33 (.t 32) (.c (.i .i64 0)) 1, .ld 34 (.t 33) 1 false, .call (some 35) 89 [((.t 31), .b 0), ((.t 34), .b 0)], .mv 11 (.t 35)])
 (.seq (.r [.mv 36 (.t 1), .slc 37 (.t 36) (some (.c (.i .i64 1))) none 1, .mv 1 (.t 37)])
 (.blk 2 (.seq (.r [.mv 56 (.t 11), .bin 57 .lss (.t 56) (.c (.i .i64 0)), .mv 55 (.t 57)])
 (.cond (.t 55) (.seq (.r [.mv 4 (.c (.i .i64 0)), .mv 5 (.c (.i .i64 3))])
 (.ret))
 (.seq (.r [.fad 59 (.t 9) 5, .ld 60 (.t 59) 1 false, .mv 61 (.t 11), .ixa 62 (.t 60) (.t 61) 3, .fad 63 (.t 62) 2, .ld 64 (.t 63) 1 false, .bin 65 .eql (.t 64) (.c (.s [])), .mv 58 (.t 65)])
 (.cond (.t 58) (.r [.fad 66 (.t 9) 5, .ld 67 (.t 66) 1 false, .mv 68 (.t 11), .ixa 69 (.t 67) (.t 68) 3, .fad 70 (.t 69) 1, .ld 71 (.t 70) 1 false, .mv 7 (.t 71)])
 (.seq (.r [.mv 73 (.t 8), .bin 74 .eql (.t 73) (.c (.i .i64 8)), .mv 72 (.t 74)])
 (.cond (.t 72) (.seq (.r [.mv 4 (.c (.i .i64 0)), .mv 5 (.c (.i .i64 11))])
 (.ret))
 (.seq (.r [.mv 38 (.t 8), .bin 39 .add (.t 38) (.c (.i .i64 1)), .mv 8 (.t 39)])
 (.seq (.r [.fad 41 (.t 9) 5, .ld 42 (.t 41) 1 false, .mv 43 (.t 11), .ixa 44 (.t 42) (.t 43) 3, .fad 45 (.t 44) 2, .ld 46 (.t 45) 1 false, .call (some 47) 54 [((.t 46), .b 0)], .mv 40 (.t 47), .ext 48 (.t 40) 0, .ext 49 (.t 40) 1, .mv 12 (.t 48), .mv 13 (.t 49)])
 (.seq (.r [.mv 50 (.t 12), .mv 51 (.t 1), .bsl 52 1 [(.t 50), (.t 51)], .call (some 53) 90 [((.t 52), .b 1)], .mv 1 (.t 53)])
 (.r [.mv 54 (.t 6), .mv 7 (.t 54)]))))))))))))))))))))
 (.seq (.r [.mv 75 (.t 7), .mv 4 (.t 75), .mv 5 (.c (.i .i64 0))])
 (.ret)))))))

def f_laws_eqStringS : Fd := .ir 2 26 [.t 4]
 (.seq (.r [.mv 4 (.c (.b false))])
 (.seq (.seq (.r [.mv 6 (.t 0), .len 7 false (.t 6), .mv 8 (.t 1), .len 9 false (.t 8), .bin 10 .neq (.t 7) (.t 9)])
 (.cond (.t 10) (.seq (.r [.mv 4 (.c (.b false))])
 (.ret))
 (.skip)))
 (.seq (.seq (.r [.mv 5 (.c (.i .i64 0))])
 (.blk 0 (.loop [0, 1, 5] [] [] (.seq (.seq (.r [.mv 11 (.t 5), .mv 12 (.t 0), .len 13 false (.t 12), .bin 14 .lss (.t 11) (.t 13)])
 (.cond (.t 14) (.skip)
 (.ex 0)))
 (.seq (.blk 1 (.seq (.r [.mv 17 (.t 0), .mv 18 (.t 5), .ixa 19 (.t 17) (.t 18) 1, .ld 20 (.t 19) 1 false, .mv 21 (.t 1), .mv 22 (.t 5), .ixa 23 (.t 21) (.t 22) 1, .ld 24 (.t 23) 1 false, .bin 25 .neq (.t 20) (.t 24)])
 (.cond (.t 25) (.seq (.r [.mv 4 (.c (.b false))])
 (.ret))
 (.skip))))
 (.r [.mv 15 (.t 5), .bin 16 .add (.t 15) (.c (.i .i64 1)), .mv 5 (.t 16)]))))))
 (.seq (.r [.mv 4 (.c (.b true))])
 (.ret)))))

def f_laws_eqPutS : Fd := .ir 2 27 [.t 4]
 (.seq (.r [.mv 4 (.c (.b false))])
 (.seq (.seq (.r [.mv 6 (.t 0), .len 7 false (.t 6), .mv 8 (.t 1), .len 9 false (.t 8), .bin 10 .neq (.t 7) (.t 9)])
 (.cond (.t 10) (.seq (.r [.mv 4 (.c (.b false))])
 (.ret))
 (.skip)))
 (.seq (.seq (.r [.mv 5 (.c (.i .i64 0))])
 (.blk 0 (.loop [0, 1, 5] [] [] (.seq (.seq (.r [.mv 11 (.t 5), .mv 12 (.t 0), .len 13 false (.t 12), .bin 14 .lss (.t 11) (.t 13)])
 (.cond (.t 14) (.skip)
 (.ex 0)))
 (.seq (.blk 1 (.seq (.r [.mv 17 (.t 0), .mv 18 (.t 5), .ixa 19 (.t 17) (.t 18) 2, .ld 20 (.t 19) 2 true, .mv 21 (.t 1), .mv 22 (.t 5), .ixa 23 (.t 21) (.t 22) 2, .ld 24 (.t 23) 2 true, .call (some 25) 91 [((.t 20), .b 0), ((.t 24), .b 0)], .un 26 .not (.t 25)])
 (.cond (.t 26) (.seq (.r [.mv 4 (.c (.b false))])
 (.ret))
 (.skip))))
 (.r [.mv 15 (.t 5), .bin 16 .add (.t 15) (.c (.i .i64 1)), .mv 5 (.t 16)]))))))
 (.seq (.r [.mv 4 (.c (.b true))])
 (.ret)))))

def f_laws_eqPage : Fd := .ir 2 15 [.t 4]
 (.seq (.r [.box 2 (.t 0), .box 3 (.t 1), .mv 4 (.c (.b false))])
 (.seq (.seq (.r [.fad 5 (.t 2) 0, .ld 6 (.t 5) 1 false, .fad 7 (.t 3) 0, .ld 8 (.t 7) 1 false, .bin 9 .neq (.t 6) (.t 8)])
 (.cond (.t 9) (.seq (.r [.mv 4 (.c (.b false))])
 (.ret))
 (.skip)))
 (.seq (.seq (.r [.fad 10 (.t 2) 1, .ld 11 (.t 10) 1 false, .fad 12 (.t 3) 1, .ld 13 (.t 12) 1 false, .bin 14 .neq (.t 11) (.t 13)])
 (.cond (.t 14) (.seq (.r [.mv 4 (.c (.b false))])
 (.ret))
 (.skip)))
 (.seq (.r [.mv 4 (.c (.b true))])
 (.ret)))))

def f_spec_l28Walk : Fd := .ir 3 51 [.t 6]
 (.seq (.r [.mv 6 (.c (.nil))])
 (.seq (.seq (.r [.mv 10 (.t 1), .mv 11 (.t 2), .call (some 12) 92 [((.t 10), .b 1), ((.t 11), .b 0)]])
 (.cond (.t 12) (.seq (.r [.mv 13 (.t 1), .mv 6 (.t 13)])
 (.ret))
 (.skip)))
 (.seq (.r [.mv 14 (.t 1), .mv 15 (.t 2), .bsl 16 1 [(.t 15)], .app 17 (.t 14) (.t 16) 1, .mv 1 (.t 17)])
 (.seq (.r [.mv 19 (.t 0), .mv 20 (.t 2), .call (some 21) 44 [((.t 19), .b 12), ((.t 20), .b 0)], .mv 18 (.t 21), .ext 22 (.t 18) 0, .ext 23 (.t 18) 1, .alc 7 [.i .i64 0, .i .i64 0, .nil, .nil, .nil], .st (.t 7) (.t 22) 5, .mv 8 (.t 23)])
 (.seq (.seq (.r [.mv 24 (.t 8), .bin 25 .neq (.t 24) (.c (.i .i64 0))])
 (.cond (.t 25) (.seq (.r [.mv 26 (.t 1), .mv 6 (.t 26)])
 (.ret))
 (.skip)))
 (.seq (.seq (.r [.mv 9 (.c (.i .i64 0))])
 (.blk 0 (.loop [0, 1, 7, 9] [] [] (.seq (.seq (.r [.mv 27 (.t 9), .fad 28 (.t 7) 4, .ld 29 (.t 28) 1 false, .len 30 false (.t 29), .bin 31 .lss (.t 27) (.t 30)])
 (.cond (.t 31) (.skip)
 (.ex 0)))
 (.seq (.blk 1 (.seq (.r [.fad 34 (.t 7) 4, .ld 35 (.t 34) 1 false, .mv 36 (.t 9), .ixa 37 (.t 35) (.t 36) 3, .fad 38 (.t 37) 2, .ld 39 (.t 38) 1 false, .bin 40 .eql (.t 39) (.c (.s []))])
 (.cond (.t 40) (.r [.mv 41 (.t 0), .mv 42 (.t 1), .fad 43 (.t 7) 4, .ld 44 (.t 43) 1 false, .mv 45 (.t 9), .ixa 46 (.t 44) (.t 45) 3, .fad 47 (.t 46) 1, .ld 48 (.t 47) 1 false, .call (some 49) 59 [((.t 41), .b 12), ((.t 42), .m 0), ((.t 48), .b 0)], .mv 1 (.t 49)])
 (.skip))))
 (.r [.mv 32 (.t 9), .bin 33 .add (.t 32) (.c (.i .i64 1)), .mv 9 (.t 33)]))))))
 (.seq (.r [.mv 50 (.t 1), .mv 6 (.t 50)])
 (.ret))))))))

def f_p_impl_Pager_root : Fd := .ir 1 10 [.t 2]
 (.seq (.r [.mv 2 (.c (.i .i64 0))])
 (.seq (.r [.mv 3 (.t 0), .mv 4 (.t 0), .call (some 5) 93 [((.t 4), .b 12)], .call (some 6) 94 [((.t 3), .b 12), ((.t 5), .b 0)], .slc 7 (.t 6) none (some (.c (.i .i64 2))) 0, .call (some 8) 95 [((.t 7), .b 0)], .cvi 9 .i64 (.t 8), .mv 2 (.t 9)])
 (.ret)))

def f_p_impl_Pager_visit : Fd := .ir 3 31 [.t 6]
 (.seq (.r [.mv 6 (.c (.nil))])
 (.seq (.seq (.r [.mv 9 (.t 1), .mv 10 (.t 2), .call (some 11) 96 [((.t 9), .b 1), ((.t 10), .b 0)]])
 (.cond (.t 11) (.seq (.r [.mv 12 (.t 1), .mv 6 (.t 12)])
 (.ret))
 (.skip)))
 (.seq (.r [.mv 13 (.t 1), .mv 14 (.t 2), .bsl 15 1 [(.t 14)], .app 16 (.t 13) (.t 15) 1, .mv 1 (.t 16)])
 (.seq (.seq (.r [.mv 17 (.t 0), .mv 18 (.t 2), .call (some 19) 97 [((.t 17), .b 12), ((.t 18), .b 0)], .len 20 false (.t 19), .mv 21 (.c (.i .i64 0))])
 (.blk 0 (.loop [0, 1, 19, 20, 21] [] [] (.seq (.r [.bin 22 .lss (.t 21) (.t 20)])
 (.seq (.cond (.t 22) (.skip)
 (.ex 0))
 (.seq (.blk 1 (.seq (.r [.ixa 23 (.t 19) (.t 21) 1, .ld 24 (.t 23) 1 false, .mv 8 (.t 24)])
 (.r [.mv 25 (.t 0), .mv 26 (.t 1), .mv 27 (.t 8), .call (some 28) 61 [((.t 25), .b 12), ((.t 26), .m 0), ((.t 27), .b 0)], .mv 1 (.t 28)])))
 (.r [.bin 29 .add (.t 21) (.c (.i .i64 1)), .mv 21 (.t 29)])))))))
 (.seq (.r [.mv 30 (.t 1), .mv 6 (.t 30)])
 (.ret))))))

def f_laws_markStringS : Fd := .ir 2 20 [.t 4]
 (.seq (.r [.mv 4 (.c (.i .i64 0))])
 (.seq (.seq (.r [.mv 5 (.c (.i .i64 0))])
 (.blk 0 (.loop [0, 1, 5] [] [] (.seq (.seq (.r [.mv 6 (.t 5), .mv 7 (.t 0), .len 8 false (.t 7), .bin 9 .lss (.t 6) (.t 8)])
 (.cond (.t 9) (.skip)
 (.ex 0)))
 (.seq (.blk 1 (.seq (.r [.mv 12 (.t 0), .mv 13 (.t 5), .mv 14 (.t 1), .call (some 15) 64 [((.t 14), .b 0)], .ixa 16 (.t 12) (.t 13) 1, .st (.t 16) (.t 15) 1])
 (.r [.mv 17 (.t 1), .bin 18 .add (.t 17) (.c (.i .i64 1)), .mv 1 (.t 18)])))
 (.r [.mv 10 (.t 5), .bin 11 .add (.t 10) (.c (.i .i64 1)), .mv 5 (.t 11)]))))))
 (.seq (.r [.mv 19 (.t 1), .mv 4 (.t 19)])
 (.ret))))

def f_laws_markPutS : Fd := .ir 2 28 [.t 4]
 (.seq (.r [.mv 4 (.c (.i .i64 0))])
 (.seq (.seq (.r [.mv 5 (.c (.i .i64 0))])
 (.blk 0 (.loop [0, 1, 5] [] [] (.seq (.seq (.r [.mv 6 (.t 5), .mv 7 (.t 0), .len 8 false (.t 7), .bin 9 .lss (.t 6) (.t 8)])
 (.cond (.t 9) (.skip)
 (.ex 0)))
 (.seq (.blk 1 (.seq (.r [.mv 12 (.t 0), .mv 13 (.t 5), .mv 14 (.t 1), .ixa 15 (.t 12) (.t 13) 2, .fad 16 (.t 15) 0, .st (.t 16) (.t 14) 1])
 (.seq (.r [.mv 17 (.t 1), .bin 18 .add (.t 17) (.c (.i .i64 1)), .mv 1 (.t 18)])
 (.seq (.r [.mv 19 (.t 0), .mv 20 (.t 5), .mv 21 (.t 1), .call (some 22) 64 [((.t 21), .b 0)], .ixa 23 (.t 19) (.t 20) 2, .fad 24 (.t 23) 1, .st (.t 24) (.t 22) 1])
 (.r [.mv 25 (.t 1), .bin 26 .add (.t 25) (.c (.i .i64 1)), .mv 1 (.t 26)])))))
 (.r [.mv 10 (.t 5), .bin 11 .add (.t 10) (.c (.i .i64 1)), .mv 5 (.t 11)]))))))
 (.seq (.r [.mv 27 (.t 1), .mv 4 (.t 27)])
 (.ret))))

def f_laws_markText : Fd := .ir 1 20 [.t 2]
 (.seq (.r [.mv 2 (.c (.s []))])
 (.seq (.seq (.r [.mv 4 (.t 0), .bin 5 .leq (.t 4) (.c (.i .i64 0))])
 (.cond (.t 5) (.seq (.r [.mv 2 (.c (.s [109, 48]))])
 (.ret))
 (.skip)))
 (.seq (.r [.mv 3 (.c (.s []))])
 (.seq (.blk 0 (.loop [0, 3] [] [] (.seq (.seq (.r [.mv 6 (.t 0), .bin 7 .gtr (.t 6) (.c (.i .i64 0))])
 (.cond (.t 7) (.skip)
 (.ex 0)))
 (.blk 1 (.seq (.r [.mv 8 (.t 0), .bin 9 .rem (.t 8) (.c (.i .i64 10)), .bin 10 .add (.c (.i .i64 48)) (.t 9), .cvi 11 .u8 (.t 10), .bsl 12 1 [(.t 11)], .cvs 13 (.t 12), .mv 14 (.t 3), .bin 15 .add (.t 13) (.t 14), .mv 3 (.t 15)])
 (.r [.mv 16 (.t 0), .bin 17 .quo (.t 16) (.c (.i .i64 10)), .mv 0 (.t 17)]))))))
 (.seq (.r [.mv 18 (.t 3), .bin 19 .add (.c (.s [109])) (.t 18), .mv 2 (.t 19)])
 (.ret))))))

def f_spec_l17Walk : Fd := .ir 3 75 [.t 6, .t 7]
 (.seq (.r [.mv 6 (.c (.nil)), .mv 7 (.c (.i .i64 0))])
 (.seq (.r [.mv 16 (.t 0), .mv 17 (.t 2), .call (some 18) 73 [((.t 16), .b 12), ((.t 17), .b 0)], .mv 15 (.t 18), .ext 19 (.t 15) 0, .ext 20 (.t 15) 1, .alc 8 [.i .i64 0, .i .i64 0, .nil], .st (.t 8) (.t 19) 3, .mv 9 (.t 20)])
 (.seq (.seq (.r [.mv 21 (.t 9), .bin 22 .neq (.t 21) (.c (.i .i64 0))])
 (.cond (.t 22) (.seq (.r [.mv 23 (.t 9), .mv 6 (.c (.nil)), .mv 7 (.t 23)])
 (.ret))
 (.skip)))
 (.seq (.r [.mv 24 (.t 1), .mv 25 (.t 2), .bsl 26 1 [(.t 25)], .app 27 (.t 24) (.t 26) 1, .mv 1 (.t 27)])
 (.seq (.seq (.r [.fad 28 (.t 8) 0, .ld 29 (.t 28) 1 false, .bin 30 .neq (.t 29) (.c (.i .i64 1))])
 (.cond (.t 30) (.seq (.r [.mv 31 (.t 1), .mv 6 (.t 31), .mv 7 (.c (.i .i64 0))])
 (.ret))
 (.skip)))
 (.seq (.r [.mv 33 (.t 0), .mv 34 (.t 2), .call (some 35) 44 [((.t 33), .b 12), ((.t 34), .b 0)], .mv 32 (.t 35), .ext 36 (.t 32) 0, .ext 37 (.t 32) 1, .alc 10 [.i .i64 0, .i .i64 0, .nil, .nil, .nil], .st (.t 10) (.t 36) 5, .mv 9 (.t 37)])
 (.seq (.seq (.r [.mv 38 (.t 9), .bin 39 .neq (.t 38) (.c (.i .i64 0))])
 (.cond (.t 39) (.seq (.r [.mv 40 (.t 9), .mv 6 (.c (.nil)), .mv 7 (.t 40)])
 (.ret))
 (.skip)))
 (.seq (.seq (.r [.mv 11 (.c (.i .i64 0))])
 (.blk 0 (.loop [0, 1, 10, 11] [] [] (.seq (.seq (.r [.mv 41 (.t 11), .fad 42 (.t 10) 4, .ld 43 (.t 42) 1 false, .len 44 false (.t 43), .bin 45 .lss (.t 41) (.t 44)])
 (.cond (.t 45) (.skip)
 (.ex 0)))
 (.seq (.blk 1 (.seq (.r [.fad 48 (.t 10) 4, .ld 49 (.t 48) 1 false, .mv 50 (.t 11), .ixa 51 (.t 49) (.t 50) 3, .ld 52 (.t 51) 3 true, .alc 12 [.s [], .i .i64 0, .s []], .st (.t 12) (.t 52) 3])
 (.seq (.seq (.r [.fad 53 (.t 12) 2, .ld 54 (.t 53) 1 false, .bin 55 .neq (.t 54) (.c (.s [])), .mv 56 (.t 55), .g 56 false (some 57) (.mv 57 (.t 1)), .g 56 false (some 58) (.fad 58 (.t 12) 1), .g 56 false (some 59) (.ld 59 (.t 58) 1 false), .g 56 false (some 60) (.call (some 60) 92 [((.t 57), .b 1), ((.t 59), .b 0)]), .pick 61 (.t 56) (.c (.b true)) (.t 60)])
 (.cond (.t 61) (.ex 1)
 (.skip)))
 (.seq (.r [.mv 63 (.t 0), .mv 64 (.t 1), .fad 65 (.t 12) 1, .ld 66 (.t 65) 1 false, .call (some 67) 65 [((.t 63), .b 12), ((.t 64), .m 0), ((.t 66), .b 0)], .mv 62 (.t 67), .ext 68 (.t 62) 0, .ext 69 (.t 62) 1, .mv 13 (.t 68), .mv 14 (.t 69)])
 (.seq (.seq (.r [.mv 70 (.t 14), .bin 71 .neq (.t 70) (.c (.i .i64 0))])
 (.cond (.t 71) (.seq (.r [.mv 72 (.t 14), .mv 6 (.c (.nil)), .mv 7 (.t 72)])
 (.ret))
 (.skip)))
 (.r [.mv 73 (.t 13), .mv 1 (.t 73)]))))))
 (.r [.mv 46 (.t 11), .bin 47 .add (.t 46) (.c (.i .i64 1)), .mv 11 (.t 47)]))))))
 (.seq (.r [.mv 74 (.t 1), .mv 6 (.t 74), .mv 7 (.c (.i .i64 0))])
 (.ret))))))))))

def f_p_impl_Pager_gather : Fd := .ir 3 66 [.t 6, .t 7]
 (.seq (.r [.mv 6 (.c (.nil)), .mv 7 (.c (.i .i64 0))])
 (.seq (.seq (.r [.mv 13 (.t 1), .mv 14 (.t 2), .call (some 15) 96 [((.t 13), .b 1), ((.t 14), .b 0)]])
 (.cond (.t 15) (.seq (.r [.mv 16 (.t 1), .mv 6 (.t 16), .mv 7 (.c (.i .i64 0))])
 (.ret))
 (.skip)))
 (.seq (.r [.mv 18 (.t 0), .mv 19 (.t 2), .call (some 20) 98 [((.t 18), .b 12), ((.t 19), .b 0)], .mv 17 (.t 20), .ext 21 (.t 17) 0, .ext 22 (.t 17) 1, .alc 8 [.i .i64 0, .i .i64 0, .nil], .st (.t 8) (.t 21) 3, .mv 9 (.t 22)])
 (.seq (.seq (.r [.mv 23 (.t 9), .bin 24 .neq (.t 23) (.c (.i .i64 0))])
 (.cond (.t 24) (.seq (.r [.mv 25 (.t 9), .mv 6 (.c (.nil)), .mv 7 (.t 25)])
 (.ret))
 (.skip)))
 (.seq (.r [.mv 26 (.t 1), .mv 27 (.t 2), .bsl 28 1 [(.t 27)], .app 29 (.t 26) (.t 28) 1, .mv 1 (.t 29)])
 (.seq (.seq (.r [.fad 30 (.t 8) 0, .ld 31 (.t 30) 1 false, .bin 32 .neq (.t 31) (.c (.i .i64 1))])
 (.cond (.t 32) (.seq (.r [.mv 33 (.t 1), .mv 6 (.t 33), .mv 7 (.c (.i .i64 0))])
 (.ret))
 (.skip)))
 (.seq (.r [.mv 35 (.t 0), .mv 36 (.t 2), .call (some 37) 88 [((.t 35), .b 12), ((.t 36), .b 0)], .mv 34 (.t 37), .ext 38 (.t 34) 0, .ext 39 (.t 34) 1, .alc 10 [.i .i64 0, .i .i64 0, .i .i64 0, .nil, .nil, .nil], .st (.t 10) (.t 38) 6, .mv 9 (.t 39)])
 (.seq (.seq (.r [.mv 40 (.t 9), .bin 41 .neq (.t 40) (.c (.i .i64 0))])
 (.cond (.t 41) (.seq (.r [.mv 42 (.t 9), .mv 6 (.c (.nil)), .mv 7 (.t 42)])
 (.ret))
 (.skip)))
 (.seq (.seq (.r [.fad 43 (.t 10) 5, .ld 44 (.t 43) 1 false, .len 45 false (.t 44), .mv 46 (.c (.i .i64 0))])
 (.blk 0 (.loop [0, 1, 44, 45, 46] [] [] (.seq (.r [.bin 47 .lss (.t 46) (.t 45)])
 (.seq (.cond (.t 47) (.skip)
 (.ex 0))
 (.seq (.blk 1 (.seq (.r [.ixa 48 (.t 44) (.t 46) 3, .ld 49 (.t 48) 3 true, .alc 12 [.s [], .i .i64 0, .s []], .st (.t 12) (.t 49) 3])
 (.seq (.seq (.r [.fad 50 (.t 12) 2, .ld 51 (.t 50) 1 false, .bin 52 .neq (.t 51) (.c (.s []))])
 (.cond (.t 52) (.ex 1)
 (.skip)))
 (.seq (.r [.mv 54 (.t 0), .mv 55 (.t 1), .fad 56 (.t 12) 1, .ld 57 (.t 56) 1 false, .call (some 58) 66 [((.t 54), .b 12), ((.t 55), .m 0), ((.t 57), .b 0)], .mv 53 (.t 58), .ext 59 (.t 53) 0, .ext 60 (.t 53) 1, .mv 1 (.t 59), .mv 9 (.t 60)])
 (.seq (.r [.mv 61 (.t 9), .bin 62 .neq (.t 61) (.c (.i .i64 0))])
 (.cond (.t 62) (.seq (.r [.mv 63 (.t 9), .mv 6 (.c (.nil)), .mv 7 (.t 63)])
 (.ret))
 (.skip)))))))
 (.r [.bin 64 .add (.t 46) (.c (.i .i64 1)), .mv 46 (.t 64)])))))))
 (.seq (.r [.mv 65 (.t 1), .mv 6 (.t 65), .mv 7 (.c (.i .i64 0))])
 (.ret)))))))))))

def f_laws_szPut : Fd := .ir 2 13 [.t 4]
 (.seq (.r [.box 2 (.t 0), .mv 4 (.c (.i .i64 0))])
 (.seq (.r [.mv 5 (.t 1), .fad 6 (.t 2) 1, .ld 7 (.t 6) 1 false, .len 8 true (.t 7), .bin 9 .sub (.t 5) (.t 8), .mv 1 (.t 9)])
 (.seq (.seq (.r [.mv 10 (.t 1), .bin 11 .lss (.t 10) (.c (.i .i64 0))])
 (.cond (.t 11) (.seq (.r [.mv 4 (.c (.i .i64 (-1)))])
 (.ret))
 (.skip)))
 (.seq (.r [.mv 12 (.t 1), .mv 4 (.t 12)])
 (.ret)))))

def f_spec_l01Letter : Fd := .ir 1 17 [.t 2]
 (.seq (.r [.mv 2 (.c (.b false))])
 (.seq (.r [.mv 3 (.t 0), .bin 4 .geq (.t 3) (.c (.i .u8 65)), .mv 5 (.t 4), .g 5 true (some 6) (.mv 6 (.t 0)), .g 5 true (some 7) (.bin 7 .leq (.t 6) (.c (.i .u8 90))), .pick 8 (.t 5) (.t 7) (.c (.b false)), .mv 9 (.t 8), .g 9 false (some 10) (.mv 10 (.t 0)), .g 9 false (some 11) (.bin 11 .geq (.t 10) (.c (.i .u8 97))), .g 9 false (some 12) (.mv 12 (.t 11)), .g 12 true (some 13) (.mv 13 (.t 0)), .g 12 true (some 14) (.bin 14 .leq (.t 13) (.c (.i .u8 122))), .g 9 false (some 15) (.pick 15 (.t 12) (.t 14) (.c (.b false))), .pick 16 (.t 9) (.c (.b true)) (.t 15), .mv 2 (.t 16)])
 (.ret)))

def f_spec_l10Area : Fd := .ir 1 6 [.t 2]
 (.seq (.r [.box 1 (.t 0), .mv 2 (.c (.i .i64 0))])
 (.seq (.r [.fad 3 (.t 1) 1, .ld 4 (.t 3) 1 false, .bin 5 .add (.c (.i .i64 2)) (.t 4), .mv 2 (.t 5)])
 (.ret)))

def f_spec_l11Blocks : Fd := .ir 1 8 [.t 2]
 (.seq (.r [.mv 2 (.c (.i .i64 0))])
 (.seq (.r [.mv 3 (.t 0), .call (some 4) 99 [((.t 3), .b 0)], .bin 5 .add (.c (.i .i64 1)) (.t 4), .mv 6 (.t 0), .bin 7 .add (.t 5) (.t 6), .mv 2 (.t 7)])
 (.ret)))

def f_spec_l01GetUint : Fd := .ir 3 42 [.t 6, .t 7]
 (.seq (.r [.mv 6 (.c (.i .i64 0)), .mv 7 (.c (.b false))])
 (.seq (.seq (.r [.mv 10 (.t 0), .mv 11 (.t 1), .mv 12 (.t 2), .call (some 13) 100 [((.t 10), .b 0), ((.t 11), .b 0), ((.t 12), .b 0)], .un 14 .not (.t 13), .mv 15 (.t 14), .g 15 false (some 16) (.mv 16 (.t 2)), .g 15 false (some 17) (.bin 17 .eql (.t 16) (.c (.i .i64 8))), .g 15 false (some 18) (.mv 18 (.t 17)), .g 18 true (some 19) (.mv 19 (.t 0)), .g 18 true (some 20) (.mv 20 (.t 1)), .g 18 true (some 21) (.bin 21 .add (.t 20) (.c (.i .i64 7))), .g 18 true (some 22) (.ixs 22 (.t 19) (.t 21)), .g 18 true (some 23) (.bin 23 .gtr (.t 22) (.c (.i .u8 127))), .g 15 false (some 24) (.pick 24 (.t 18) (.t 23) (.c (.b false))), .pick 25 (.t 15) (.c (.b true)) (.t 24)])
 (.cond (.t 25) (.seq (.r [.mv 6 (.c (.i .i64 0)), .mv 7 (.c (.b false))])
 (.ret))
 (.skip)))
 (.seq (.r [.mv 8 (.c (.i .i64 0))])
 (.seq (.seq (.r [.mv 26 (.t 2), .bin 27 .sub (.t 26) (.c (.i .i64 1)), .mv 9 (.t 27)])
 (.blk 0 (.loop [0, 1, 8, 9] [] [] (.seq (.seq (.r [.mv 28 (.t 9), .bin 29 .geq (.t 28) (.c (.i .i64 0))])
 (.cond (.t 29) (.skip)
 (.ex 0)))
 (.seq (.blk 1 (.r [.mv 32 (.t 8), .bin 33 .mul (.t 32) (.c (.i .i64 256)), .mv 34 (.t 0), .mv 35 (.t 1), .mv 36 (.t 9), .bin 37 .add (.t 35) (.t 36), .ixs 38 (.t 34) (.t 37), .cvi 39 .i64 (.t 38), .bin 40 .add (.t 33) (.t 39), .mv 8 (.t 40)]))
 (.r [.mv 30 (.t 9), .bin 31 .sub (.t 30) (.c (.i .i64 1)), .mv 9 (.t 31)]))))))
 (.seq (.r [.mv 41 (.t 8), .mv 6 (.t 41), .mv 7 (.c (.b true))])
 (.ret))))))

def f_spec_l13Area : Fd := .ir 1 10 [.t 2]
 (.seq (.r [.mv 2 (.c (.s []))])
 (.seq (.r [.mv 3 (.t 0), .mv 4 (.t 0), .nck 5 (.t 4), .fad 6 (.t 5) 4, .ld 7 (.t 6) 4 true, .call (some 8) 69 [((.t 7), .b 0)], .call (some 9) 101 [((.t 3), .b 12), ((.t 8), .b 0)], .mv 2 (.t 9)])
 (.ret)))

def f_spec_l14Read : Fd := .ir 2 20 [.c 4 3 true, .t 5]
 (.seq (.r [.alc 4 [.i .i64 0, .i .i64 0, .nil], .mv 5 (.c (.i .i64 0))])
 (.seq (.r [.mv 10 (.t 0), .mv 11 (.t 1), .call (some 12) 102 [((.t 10), .b 12), ((.t 11), .b 0)], .mv 9 (.t 12), .ext 13 (.t 9) 0, .ext 14 (.t 9) 1, .ext 15 (.t 9) 2, .alc 7 [.i .i64 0, .i .i64 0, .nil], .mv 6 (.t 13), .st (.t 7) (.t 14) 3, .mv 8 (.t 15)])
 (.seq (.seq (.r [.mv 16 (.t 8), .un 17 .not (.t 16)])
 (.cond (.t 17) (.seq (.r [.bld 18 [.i .i64 0, .i .i64 0, .nil] [], .st (.t 4) (.t 18) 3, .mv 5 (.c (.i .i64 10))])
 (.ret))
 (.skip)))
 (.seq (.r [.ld 19 (.t 7) 3 true, .st (.t 4) (.t 19) 3, .mv 5 (.c (.i .i64 0))])
 (.ret)))))

def f_spec_l17Only : Fd := .ir 2 35 [.t 4]
 (.seq (.r [.box 2 (.t 0), .mv 4 (.c (.i .i64 0))])
 (.seq (.r [.mv 5 (.c (.i .i64 (-1)))])
 (.seq (.seq (.r [.mv 6 (.c (.i .i64 0))])
 (.blk 0 (.loop [1, 2, 5, 6] [] [] (.seq (.seq (.r [.mv 7 (.t 6), .fad 8 (.t 2) 2, .ld 9 (.t 8) 1 false, .len 10 false (.t 9), .bin 11 .lss (.t 7) (.t 10)])
 (.cond (.t 11) (.skip)
 (.ex 0)))
 (.seq (.blk 1 (.seq (.seq (.r [.fad 14 (.t 2) 2, .ld 15 (.t 14) 1 false, .mv 16 (.t 6), .ixa 17 (.t 15) (.t 16) 3, .fad 18 (.t 17) 0, .ld 19 (.t 18) 1 false, .mv 20 (.t 1), .bin 21 .neq (.t 19) (.t 20)])
 (.cond (.t 21) (.ex 1)
 (.skip)))
 (.seq (.seq (.r [.mv 22 (.t 5), .bin 23 .geq (.t 22) (.c (.i .i64 0)), .mv 24 (.t 23), .g 24 false (some 25) (.fad 25 (.t 2) 2), .g 24 false (some 26) (.ld 26 (.t 25) 1 false), .g 24 false (some 27) (.mv 27 (.t 6)), .g 24 false (some 28) (.ixa 28 (.t 26) (.t 27) 3), .g 24 false (some 29) (.fad 29 (.t 28) 1), .g 24 false (some 30) (.ld 30 (.t 29) 1 false), .g 24 false (some 31) (.bin 31 .neq (.t 30) (.c (.i .i64 0))), .pick 32 (.t 24) (.c (.b true)) (.t 31)])
 (.cond (.t 32) (.seq (.r [.mv 4 (.c (.i .i64 (-1)))])
 (.ret))
 (.skip)))
 (.r [.mv 33 (.t 6), .mv 5 (.t 33)]))))
 (.r [.mv 12 (.t 6), .bin 13 .add (.t 12) (.c (.i .i64 1)), .mv 6 (.t 13)]))))))
 (.seq (.r [.mv 34 (.t 5), .mv 4 (.t 34)])
 (.ret)))))

def f_spec_DecodeHeap : Fd := .ir 1 53 [.c 2 1 true, .t 3]
 (.seq (.r [.alc 2 [.nil], .mv 3 (.c (.b false))])
 (.seq (.r [.mv 7 (.t 0), .bld 8 [.s [], .i .i64 0, .b false] [(0, 1, (.t 7))], .box 9 (.t 8), .mv 4 (.t 9)])
 (.seq (.r [.bld 10 [.nil] [], .alc 5 [.nil], .st (.t 5) (.t 10) 1])
 (.seq (.seq (.r [.mv 11 (.t 4), .call (some 12) 103 [((.t 11), .m 3)], .mv 6 (.t 12)])
 (.blk 0 (.loop [0, 2, 4, 5, 6] [] [(2, 0, 1)] (.seq (.seq (.r [.mv 13 (.t 6), .bin 14 .gtr (.t 13) (.c (.i .i64 0)), .mv 15 (.t 14), .g 15 true (some 16) (.mv 16 (.t 4)), .g 15 true (some 17) (.nck 17 (.t 16)), .g 15 true (some 18) (.fad 18 (.t 17) 2), .g 15 true (some 19) (.ld 19 (.t 18) 1 false), .g 15 true (some 20) (.un 20 .not (.t 19)), .pick 21 (.t 15) (.t 20) (.c (.b false))])
 (.cond (.t 21) (.skip)
 (.ex 0)))
 (.seq (.blk 1 (.r [.fad 24 (.t 5) 0, .ck (.sb (.t 24) (.t 5)) (.ld 25 (.t 24) 1 false), .mv 26 (.t 4), .mv 27 (.t 4), .ck (.dj [.t 5]) (.call (some 28) 103 [((.t 27), .m 3)]), .ck (.dj [.t 5]) (.call (some 29) 104 [((.t 26), .m 3), ((.t 28), .b 0)]), .bsl 30 1 [(.t 29)], .app 31 (.t 25) (.t 30) 1, .fad 32 (.t 5) 0, .st (.t 32) (.t 31) 1]))
 (.r [.mv 22 (.t 6), .bin 23 .sub (.t 22) (.c (.i .i64 1)), .mv 6 (.t 23)]))))))
 (.seq (.seq (.r [.mv 33 (.t 4), .nck 34 (.t 33), .fad 35 (.t 34) 2, .ld 36 (.t 35) 1 false, .mv 37 (.t 36), .g 37 false (some 38) (.mv 38 (.t 4)), .g 37 false (some 39) (.nck 39 (.t 38)), .g 37 false (some 40) (.fad 40 (.t 39) 1), .g 37 false (some 41) (.ld 41 (.t 40) 1 false), .g 37 false (some 42) (.mv 42 (.t 0)), .g 37 false (some 43) (.len 43 true (.t 42)), .g 37 false (some 44) (.bin 44 .neq (.t 41) (.t 43)), .pick 45 (.t 37) (.c (.b true)) (.t 44), .mv 46 (.t 45), .g 46 false (some 47) (.ld 47 (.t 5) 1 true), .g 46 false (some 48) (.call (some 48) 105 [((.t 47), .b 0)]), .g 46 false (some 49) (.un 49 .not (.t 48)), .pick 50 (.t 46) (.c (.b true)) (.t 49)])
 (.cond (.t 50) (.seq (.r [.bld 51 [.nil] [], .st (.t 2) (.t 51) 1, .mv 3 (.c (.b false))])
 (.ret))
 (.skip)))
 (.seq (.r [.ld 52 (.t 5) 1 true, .st (.t 2) (.t 52) 1, .mv 3 (.c (.b true))])
 (.ret)))))))

def f_spec_DecodeLinks : Fd := .ir 2 83 [.t 4, .t 5]
 (.seq (.r [.box 3 (.t 1), .mv 4 (.c (.nil)), .mv 5 (.c (.b false))])
 (.seq (.seq (.r [.ld 12 (.t 3) 1 true, .call (some 13) 105 [((.t 12), .b 0)], .un 14 .not (.t 13)])
 (.cond (.t 14) (.seq (.r [.mv 4 (.c (.nil)), .mv 5 (.c (.b false))])
 (.ret))
 (.skip)))
 (.seq (.r [.mv 15 (.t 0), .bld 16 [.s [], .i .i64 0, .b false] [(0, 1, (.t 15))], .box 17 (.t 16), .mv 6 (.t 17)])
 (.seq (.r [.bsl 18 3 [], .mv 7 (.t 18)])
 (.seq (.blk 0 (.loop [0, 3, 6, 7] [] [] (.seq (.seq (.r [.mv 19 (.t 6), .nck 20 (.t 19), .fad 21 (.t 20) 1, .ld 22 (.t 21) 1 false, .mv 23 (.t 0), .len 24 true (.t 23), .bin 25 .lss (.t 22) (.t 24), .mv 26 (.t 25), .g 26 true (some 27) (.mv 27 (.t 6)), .g 26 true (some 28) (.nck 28 (.t 27)), .g 26 true (some 29) (.fad 29 (.t 28) 2), .g 26 true (some 30) (.ld 30 (.t 29) 1 false), .g 26 true (some 31) (.un 31 .not (.t 30)), .pick 32 (.t 26) (.t 31) (.c (.b false))])
 (.cond (.t 32) (.skip)
 (.ex 0)))
 (.blk 1 (.seq (.r [.ld 34 (.t 3) 1 true, .mv 35 (.t 6), .ck (.dj [.t 3]) (.call (some 36) 103 [((.t 35), .m 3)]), .call (some 37) 106 [((.t 34), .b 0), ((.t 36), .b 0)], .mv 33 (.t 37), .ext 38 (.t 33) 0, .ext 39 (.t 33) 1, .mv 8 (.t 38), .mv 9 (.t 39)])
 (.seq (.seq (.r [.mv 40 (.t 9), .un 41 .not (.t 40)])
 (.cond (.t 41) (.seq (.r [.mv 4 (.c (.nil)), .mv 5 (.c (.b false))])
 (.ret))
 (.skip)))
 (.seq (.r [.mv 42 (.t 8), .bld 43 [.s [], .i .i64 0, .s []] [(0, 1, (.t 42))], .alc 10 [.s [], .i .i64 0, .s []], .st (.t 10) (.t 43) 3])
 (.seq (.r [.mv 44 (.t 6), .call (some 45) 103 [((.t 44), .m 3)], .mv 11 (.t 45)])
 (.seq (.seq (.r [.mv 46 (.t 11), .bin 47 .eql (.t 46) (.c (.i .i64 0))])
 (.cond (.t 47) (.seq (.r [.mv 48 (.t 6), .call (some 49) 103 [((.t 48), .m 3)], .fad 50 (.t 10) 1, .st (.t 50) (.t 49) 1])
 (.r [.fad 51 (.t 10) 1, .ck (.sb (.t 51) (.t 10)) (.ld 52 (.t 51) 1 false), .mv 53 (.t 6), .ck (.dj [.t 10]) (.call (some 54) 103 [((.t 53), .m 3)]), .bin 55 .mul (.c (.i .i64 256)) (.t 54), .bin 56 .add (.t 52) (.t 55), .fad 57 (.t 10) 1, .st (.t 57) (.t 56) 1]))
 (.skip)))
 (.seq (.r [.mv 58 (.t 6), .mv 59 (.t 11), .call (some 60) 104 [((.t 58), .m 3), ((.t 59), .b 0)], .fad 61 (.t 10) 2, .st (.t 61) (.t 60) 1])
 (.r [.mv 62 (.t 7), .ld 63 (.t 10) 3 true, .bsl 64 3 [(.t 63)], .app 65 (.t 62) (.t 64) 3, .mv 7 (.t 65)])))))))))))
 (.seq (.seq (.r [.mv 66 (.t 6), .nck 67 (.t 66), .fad 68 (.t 67) 2, .ld 69 (.t 68) 1 false, .mv 70 (.t 69), .g 70 false (some 71) (.mv 71 (.t 7)), .g 70 false (some 72) (.call (some 72) 107 [((.t 71), .b 3)]), .g 70 false (some 73) (.un 73 .not (.t 72)), .pick 74 (.t 70) (.c (.b true)) (.t 73), .mv 75 (.t 74), .g 75 false (some 76) (.ld 76 (.t 3) 1 true), .g 75 false (some 77) (.call (some 77) 108 [((.t 76), .b 0)]), .g 75 false (some 78) (.mv 78 (.t 7)), .g 75 false (some 79) (.len 79 false (.t 78)), .g 75 false (some 80) (.bin 80 .neq (.t 77) (.t 79)), .pick 81 (.t 75) (.c (.b true)) (.t 80)])
 (.cond (.t 81) (.seq (.r [.mv 4 (.c (.nil)), .mv 5 (.c (.b false))])
 (.ret))
 (.skip)))
 (.seq (.r [.mv 82 (.t 7), .mv 4 (.t 82), .mv 5 (.c (.b true))])
 (.ret))))))))

def f_laws_toPut : Fd := .ir 1 11 [.c 2 2 true]
 (.seq (.r [.box 1 (.t 0), .alc 2 [.i .i64 0, .s []]])
 (.seq (.r [.alc 3 [.i .i64 0, .s []]])
 (.seq (.r [.fad 4 (.t 1) 0, .ld 5 (.t 4) 1 false, .fad 6 (.t 3) 0, .st (.t 6) (.t 5) 1])
 (.seq (.r [.fad 7 (.t 1) 1, .ld 8 (.t 7) 1 false, .fad 9 (.t 3) 1, .st (.t 9) (.t 8) 1])
 (.seq (.r [.ld 10 (.t 3) 2 true, .st (.t 2) (.t 10) 2])
 (.ret))))))

def f_impl_ValidDisk : Fd := .ir 1 28 [.t 2]
 (.seq (.r [.box 1 (.t 0), .mv 2 (.c (.b false))])
 (.seq (.seq (.r [.fad 3 (.t 1) 0, .ld 4 (.t 3) 1 false, .len 5 false (.t 4), .call (some 6) 50 [((.t 5), .b 0), ((.c (.i .i64 16)), .b 0), ((.c (.i .i64 256)), .b 0)], .un 7 .not (.t 6), .mv 8 (.t 7), .g 8 false (some 9) (.fad 9 (.t 1) 1), .g 8 false (some 10) (.ld 10 (.t 9) 1 false), .g 8 false (some 11) (.len 11 false (.t 10)), .g 8 false (some 12) (.bin 12 .gtr (.t 11) (.c (.i .i64 600))), .pick 13 (.t 8) (.c (.b true)) (.t 12), .mv 14 (.t 13), .g 14 false (some 15) (.fad 15 (.t 1) 2), .g 14 false (some 16) (.ld 16 (.t 15) 1 false), .g 14 false (some 17) (.call (some 17) 50 [((.t 16), .b 0), ((.c (.i .i64 (-1))), .b 0), ((.c (.i .i64 100000)), .b 0)]), .g 14 false (some 18) (.un 18 .not (.t 17)), .pick 19 (.t 14) (.c (.b true)) (.t 18)])
 (.cond (.t 19) (.seq (.r [.mv 2 (.c (.b false))])
 (.ret))
 (.skip)))
 (.seq (.seq (.r [.fad 20 (.t 1) 0, .ld 21 (.t 20) 1 false, .call (some 22) 86 [((.t 21), .b 1), ((.c (.fn 109 [])), .b 0)]])
 (.cond (.t 22) (.seq (.r [.mv 2 (.c (.b false))])
 (.ret))
 (.skip)))
 (.seq (.r [.fad 23 (.t 1) 1, .ld 24 (.t 23) 1 false, .mkf 25 110 [(.t 1)], .call (some 26) 111 [((.t 24), .b 2), ((.t 25), .b 0)], .un 27 .not (.t 26), .mv 2 (.t 27)])
 (.ret)))))

def f_impl_ValidSuper : Fd := .ir 1 25 [.t 2]
 (.seq (.r [.box 1 (.t 0), .mv 2 (.c (.b false))])
 (.seq (.r [.fad 3 (.t 1) 0, .ld 4 (.t 3) 1 false, .call (some 5) 50 [((.t 4), .b 0), ((.c (.i .i64 16)), .b 0), ((.c (.i .i64 256)), .b 0)], .mv 6 (.t 5), .g 6 true (some 7) (.fad 7 (.t 1) 1), .g 6 true (some 8) (.ld 8 (.t 7) 1 false), .g 6 true (some 9) (.fad 9 (.t 1) 0), .g 6 true (some 10) (.ld 10 (.t 9) 1 false), .g 6 true (some 11) (.bin 11 .sub (.t 10) (.c (.i .i64 4))), .g 6 true (some 12) (.mm 12 false (.c (.i .i64 64)) (.t 11)), .g 6 true (some 13) (.call (some 13) 50 [((.t 8), .b 0), ((.c (.i .i64 8)), .b 0), ((.t 12), .b 0)]), .pick 14 (.t 6) (.t 13) (.c (.b false)), .mv 15 (.t 14), .g 15 true (some 16) (.fad 16 (.t 1) 2), .g 15 true (some 17) (.ld 17 (.t 16) 1 false), .g 15 true (some 18) (.call (some 18) 50 [((.t 17), .b 0), ((.c (.i .i64 0)), .b 0), ((.c (.i .i64 1000000000000)), .b 0)]), .pick 19 (.t 15) (.t 18) (.c (.b false)), .mv 20 (.t 19), .g 20 true (some 21) (.fad 21 (.t 1) 3), .g 20 true (some 22) (.ld 22 (.t 21) 1 false), .g 20 true (some 23) (.call (some 23) 50 [((.t 22), .b 0), ((.c (.i .i64 0)), .b 0), ((.c (.i .i64 1000000000000)), .b 0)]), .pick 24 (.t 20) (.t 23) (.c (.b false)), .mv 2 (.t 24)])
 (.ret)))

def f_impl_isBlock : Fd := .ir 1 6 [.t 2]
 (.seq (.r [.mv 2 (.c (.b false))])
 (.seq (.r [.mv 3 (.t 0), .len 4 true (.t 3), .bin 5 .eql (.t 4) (.c (.i .i64 64)), .mv 2 (.t 5)])
 (.ret)))

def f_slices_ContainsFunc_impl_Page_impl_Page : Fd := .ir 2 9 [.t 4]
 (.seq (.r [.mv 4 (.c (.b false))])
 (.seq (.r [.mv 5 (.t 0), .mv 6 (.t 1), .call (some 7) 112 [((.t 5), .b 2), ((.t 6), .b 0)], .bin 8 .geq (.t 7) (.c (.i .i64 0)), .mv 4 (.t 8)])
 (.ret)))

def f_impl_Super_inArea_s1 : Fd := .ir 2 13 [.t 3]
 (.seq (.r [.box 2 (.t 0), .mv 3 (.c (.b false))])
 (.seq (.r [.fad 4 (.t 2) 0, .ld 5 (.t 4) 1 false, .ld 6 (.t 1) 4 true, .call (some 7) 113 [((.t 6), .b 0)], .fad 8 (.t 1) 0, .ck (.np (.t 8)) (.ld 9 (.t 8) 1 false), .bin 10 .sub (.t 9) (.c (.i .i64 1)), .call (some 11) 50 [((.t 5), .b 0), ((.t 7), .b 0), ((.t 10), .b 0)], .un 12 .not (.t 11), .mv 3 (.t 12)])
 (.ret)))

def f_impl_AreaBlock : Fd := .ir 1 9 [.t 2]
 (.seq (.r [.box 1 (.t 0), .mv 2 (.c (.i .i64 0))])
 (.seq (.seq (.r [.ld 3 (.t 1) 4 true, .call (some 4) 79 [((.t 3), .b 0)], .un 5 .not (.t 4)])
 (.cond (.t 5) (.seq (.r [.mv 2 (.c (.i .i64 0))])
 (.ret))
 (.skip)))
 (.seq (.r [.fad 6 (.t 1) 1, .ld 7 (.t 6) 1 false, .bin 8 .add (.c (.i .i64 2)) (.t 7), .mv 2 (.t 8)])
 (.ret))))

def f_impl_RecordBlocks : Fd := .ir 1 11 [.t 2]
 (.seq (.r [.mv 2 (.c (.i .i64 0))])
 (.seq (.seq (.r [.mv 3 (.t 0), .call (some 4) 50 [((.t 3), .b 0), ((.c (.i .i64 1)), .b 0), ((.c (.i .i64 60)), .b 0)], .un 5 .not (.t 4)])
 (.cond (.t 5) (.seq (.r [.mv 2 (.c (.i .i64 0))])
 (.ret))
 (.skip)))
 (.seq (.r [.mv 6 (.t 0), .call (some 7) 114 [((.t 6), .b 0)], .bin 8 .add (.c (.i .i64 1)) (.t 7), .mv 9 (.t 0), .bin 10 .add (.t 8) (.t 9), .mv 2 (.t 10)])
 (.ret))))

def f_strings_CutPrefix : Fd := .ir 2 11 [.t 4, .t 5]
 (.seq (.r [.mv 4 (.c (.s [])), .mv 5 (.c (.b false))])
 (.seq (.r [.mv 6 (.t 0), .mv 7 (.t 1), .call (some 8) 115 [((.t 6), .b 0), ((.t 7), .b 0)], .ext 9 (.t 8) 0, .ext 10 (.t 8) 1, .mv 4 (.t 9), .mv 5 (.t 10)])
 (.ret)))

def f_slices_ContainsFunc_string_string : Fd := .ir 2 9 [.t 4]
 (.seq (.r [.mv 4 (.c (.b false))])
 (.seq (.r [.mv 5 (.t 0), .mv 6 (.t 1), .call (some 7) 116 [((.t 5), .b 1), ((.t 6), .b 0)], .bin 8 .geq (.t 7) (.c (.i .i64 0)), .mv 4 (.t 8)])
 (.ret)))

def f_impl_splitPath_s1 : Fd := .ir 1 6 [.t 2]
 (.seq (.r [.mv 2 (.c (.b false))])
 (.seq (.r [.mv 3 (.t 0), .call (some 4) 117 [((.t 3), .b 0)], .un 5 .not (.t 4), .mv 2 (.t 5)])
 (.ret)))

def f_impl_IsName : Fd := .ir 1 55 [.t 2]
 (.seq (.r [.mv 2 (.c (.b false))])
 (.seq (.seq (.r [.mv 6 (.t 0), .len 7 true (.t 6), .mv 8 (.c (.i .i64 0))])
 (.blk 0 (.loop [0, 7, 8] [] [] (.seq (.r [.bin 9 .lss (.t 8) (.t 7)])
 (.seq (.cond (.t 9) (.skip)
 (.ex 0))
 (.seq (.blk 1 (.seq (.r [.mv 10 (.t 8), .mv 3 (.t 10)])
 (.seq (.r [.mv 11 (.t 0), .mv 12 (.t 3), .ixs 13 (.t 11) (.t 12), .mv 4 (.t 13)])
 (.seq (.r [.mv 14 (.t 4), .bin 15 .geq (.t 14) (.c (.i .u8 65)), .mv 16 (.t 15), .g 16 true (some 17) (.mv 17 (.t 4)), .g 16 true (some 18) (.bin 18 .leq (.t 17) (.c (.i .u8 90))), .pick 19 (.t 16) (.t 18) (.c (.b false)), .mv 20 (.t 19), .g 20 false (some 21) (.mv 21 (.t 4)), .g 20 false (some 22) (.bin 22 .geq (.t 21) (.c (.i .u8 97))), .g 20 false (some 23) (.mv 23 (.t 22)), .g 23 true (some 24) (.mv 24 (.t 4)), .g 23 true (some 25) (.bin 25 .leq (.t 24) (.c (.i .u8 122))), .g 20 false (some 26) (.pick 26 (.t 23) (.t 25) (.c (.b false))), .pick 27 (.t 20) (.c (.b true)) (.t 26), .mv 5 (.t 27)])
 (.seq (.r [.mv 28 (.t 5), .un 29 .not (.t 28), .mv 30 (.t 29), .g 30 true (some 31) (.mv 31 (.t 3)), .g 30 true (some 32) (.bin 32 .eql (.t 31) (.c (.i .i64 0))), .g 30 true (some 33) (.mv 33 (.t 32)), .g 33 false (some 34) (.mv 34 (.t 4)), .g 33 false (some 35) (.bin 35 .lss (.t 34) (.c (.i .u8 48))), .g 33 false (some 36) (.mv 36 (.t 35)), .g 36 false (some 37) (.mv 37 (.t 4)), .g 36 false (some 38) (.bin 38 .gtr (.t 37) (.c (.i .u8 57))), .g 33 false (some 39) (.pick 39 (.t 36) (.c (.b true)) (.t 38)), .g 33 false (some 40) (.mv 40 (.t 39)), .g 40 true (some 41) (.mv 41 (.t 4)), .g 40 true (some 42) (.bin 42 .neq (.t 41) (.c (.i .u8 95))), .g 33 false (some 43) (.pick 43 (.t 40) (.t 42) (.c (.b false))), .g 30 true (some 44) (.pick 44 (.t 33) (.c (.b true)) (.t 43)), .pick 45 (.t 30) (.t 44) (.c (.b false))])
 (.cond (.t 45) (.seq (.r [.mv 2 (.c (.b false))])
 (.ret))
 (.skip)))))))
 (.r [.bin 46 .add (.t 8) (.c (.i .i64 1)), .mv 8 (.t 46)])))))))
 (.seq (.r [.mv 47 (.t 0), .len 48 true (.t 47), .bin 49 .geq (.t 48) (.c (.i .i64 1)), .mv 50 (.t 49), .g 50 true (some 51) (.mv 51 (.t 0)), .g 50 true (some 52) (.len 52 true (.t 51)), .g 50 true (some 53) (.bin 53 .leq (.t 52) (.c (.i .i64 12))), .pick 54 (.t 50) (.t 53) (.c (.b false)), .mv 2 (.t 54)])
 (.ret))))

def f_p_impl_Pager_group : Fd := .ir 2 80 [.c 4 6 true, .t 5]
 (.seq (.r [.alc 4 [.i .i64 0, .i .i64 0, .i .i64 0, .nil, .nil, .nil], .mv 5 (.c (.i .i64 0))])
 (.seq (.r [.mv 15 (.t 0), .mv 16 (.t 1), .call (some 17) 98 [((.t 15), .b 12), ((.t 16), .b 0)], .mv 14 (.t 17), .ext 18 (.t 14) 0, .ext 19 (.t 14) 1, .alc 6 [.i .i64 0, .i .i64 0, .nil], .st (.t 6) (.t 18) 3, .mv 7 (.t 19)])
 (.seq (.blk 0 (.seq (.r [.mv 21 (.t 7), .bin 22 .neq (.t 21) (.c (.i .i64 0)), .mv 20 (.t 22)])
 (.cond (.t 20) (.seq (.r [.bld 23 [.i .i64 0, .i .i64 0, .i .i64 0, .nil, .nil, .nil] [], .mv 24 (.t 7), .st (.t 4) (.t 23) 6, .mv 5 (.t 24)])
 (.ret))
 (.seq (.r [.fad 26 (.t 6) 0, .ld 27 (.t 26) 1 false, .bin 28 .neq (.t 27) (.c (.i .i64 1)), .mv 25 (.t 28)])
 (.cond (.t 25) (.seq (.r [.bld 29 [.i .i64 0, .i .i64 0, .i .i64 0, .nil, .nil, .nil] [], .st (.t 4) (.t 29) 6, .mv 5 (.c (.i .i64 7))])
 (.ret))
 (.skip))))))
 (.seq (.r [.ld 31 (.t 6) 3 true, .call (some 32) 118 [((.t 31), .b 0), ((.c (.i .i64 9)), .b 0)], .mv 30 (.t 32), .ext 33 (.t 30) 0, .ext 34 (.t 30) 1, .mv 8 (.t 33), .mv 9 (.t 34)])
 (.seq (.r [.ld 36 (.t 6) 3 true, .call (some 37) 118 [((.t 36), .b 0), ((.c (.i .i64 7)), .b 0)], .mv 35 (.t 37), .ext 38 (.t 35) 0, .ext 39 (.t 35) 1, .mv 10 (.t 38), .mv 11 (.t 39)])
 (.seq (.seq (.r [.mv 40 (.t 9), .un 41 .not (.t 40), .mv 42 (.t 41), .g 42 false (some 43) (.mv 43 (.t 11)), .g 42 false (some 44) (.un 44 .not (.t 43)), .pick 45 (.t 42) (.c (.b true)) (.t 44)])
 (.cond (.t 45) (.seq (.r [.bld 46 [.i .i64 0, .i .i64 0, .i .i64 0, .nil, .nil, .nil] [], .st (.t 4) (.t 46) 6, .mv 5 (.c (.i .i64 10))])
 (.ret))
 (.skip)))
 (.seq (.r [.fad 48 (.t 6) 2, .ld 49 (.t 48) 1 false, .mv 50 (.t 8), .ixa 51 (.t 49) (.t 50) 3, .fad 52 (.t 51) 2, .ld 53 (.t 52) 1 false, .call (some 54) 119 [((.t 53), .b 0)], .mv 47 (.t 54), .ext 55 (.t 47) 0, .ext 56 (.t 47) 1, .alc 12 [.nil], .st (.t 12) (.t 55) 1, .mv 9 (.t 56)])
 (.seq (.r [.fad 58 (.t 6) 2, .ld 59 (.t 58) 1 false, .mv 60 (.t 10), .ixa 61 (.t 59) (.t 60) 3, .fad 62 (.t 61) 2, .ld 63 (.t 62) 1 false, .ld 64 (.t 12) 1 true, .call (some 65) 120 [((.t 63), .b 0), ((.t 64), .b 0)], .mv 57 (.t 65), .ext 66 (.t 57) 0, .ext 67 (.t 57) 1, .mv 13 (.t 66), .mv 11 (.t 67)])
 (.seq (.seq (.r [.mv 68 (.t 9), .un 69 .not (.t 68), .mv 70 (.t 69), .g 70 false (some 71) (.mv 71 (.t 11)), .g 70 false (some 72) (.un 72 .not (.t 71)), .pick 73 (.t 70) (.c (.b true)) (.t 72)])
 (.cond (.t 73) (.seq (.r [.bld 74 [.i .i64 0, .i .i64 0, .i .i64 0, .nil, .nil, .nil] [], .st (.t 4) (.t 74) 6, .mv 5 (.c (.i .i64 10))])
 (.ret))
 (.skip)))
 (.seq (.r [.mv 75 (.t 1), .ld 76 (.t 6) 3 true, .ld 77 (.t 12) 1 true, .mv 78 (.t 13), .bld 79 [.i .i64 0, .i .i64 0, .i .i64 0, .nil, .nil, .nil] [(0, 1, (.t 75)), (1, 3, (.t 76)), (4, 1, (.t 77)), (5, 1, (.t 78))], .st (.t 4) (.t 79) 6, .mv 5 (.c (.i .i64 0))])
 (.ret)))))))))))

def f_impl_group_link : Fd := .ir 2 9 [.t 4]
 (.seq (.r [.box 2 (.t 0), .box 3 (.t 1), .mv 4 (.c (.i .i64 0))])
 (.seq (.r [.fad 5 (.t 2) 5, .ld 6 (.t 5) 1 false, .mkf 7 121 [(.t 3)], .call (some 8) 122 [((.t 6), .b 3), ((.t 7), .b 0)], .mv 4 (.t 8)])
 (.ret)))

def f_slices_Concat_string_string : Fd := .ir 1 36 [.t 2]
 (.seq (.r [.mv 2 (.c (.nil))])
 (.seq (.r [.mv 3 (.c (.i .i64 0))])
 (.seq (.seq (.r [.mv 9 (.t 0), .len 10 false (.t 9), .mv 11 (.c (.i .i64 0))])
 (.blk 0 (.loop [0, 3, 9, 10, 11] [] [] (.seq (.r [.bin 12 .lss (.t 11) (.t 10)])
 (.seq (.cond (.t 12) (.skip)
 (.ex 0))
 (.seq (.blk 1 (.seq (.r [.ixa 13 (.t 9) (.t 11) 1, .ld 14 (.t 13) 1 false, .mv 5 (.t 14)])
 (.seq (.r [.mv 15 (.t 3), .mv 16 (.t 5), .len 17 false (.t 16), .bin 18 .add (.t 15) (.t 17), .mv 3 (.t 18)])
 (.seq (.r [.mv 19 (.t 3), .bin 20 .lss (.t 19) (.c (.i .i64 0))])
 (.cond (.t 20) (.any)
 (.skip))))))
 (.r [.bin 22 .add (.t 11) (.c (.i .i64 1)), .mv 11 (.t 22)])))))))
 (.seq (.r [.mv 23 (.t 3), .call (some 24) 182 [((.c (.nil)), .m 0), ((.t 23), .b 0)], .mv 6 (.t 24)])
 (.seq (.seq (.r [.mv 25 (.t 0), .len 26 false (.t 25), .mv 27 (.c (.i .i64 0))])
 (.blk 2 (.loop [6, 25, 26, 27] [(6, 1)] [] (.seq (.r [.bin 28 .lss (.t 27) (.t 26)])
 (.seq (.cond (.t 28) (.skip)
 (.ex 2))
 (.seq (.blk 3 (.seq (.r [.ixa 29 (.t 25) (.t 27) 1, .ld 30 (.t 29) 1 false, .mv 8 (.t 30)])
 (.r [.mv 31 (.t 6), .mv 32 (.t 8), .app 33 (.t 31) (.t 32) 1, .mv 6 (.t 33)])))
 (.r [.bin 34 .add (.t 27) (.c (.i .i64 1)), .mv 27 (.t 34)])))))))
 (.seq (.r [.mv 35 (.t 6), .mv 2 (.t 35)])
 (.ret)))))))

def f_laws_eqPut : Fd := .ir 2 15 [.t 4]
 (.seq (.r [.box 2 (.t 0), .box 3 (.t 1), .mv 4 (.c (.b false))])
 (.seq (.seq (.r [.fad 5 (.t 2) 0, .ld 6 (.t 5) 1 false, .fad 7 (.t 3) 0, .ld 8 (.t 7) 1 false, .bin 9 .neq (.t 6) (.t 8)])
 (.cond (.t 9) (.seq (.r [.mv 4 (.c (.b false))])
 (.ret))
 (.skip)))
 (.seq (.seq (.r [.fad 10 (.t 2) 1, .ld 11 (.t 10) 1 false, .fad 12 (.t 3) 1, .ld 13 (.t 12) 1 false, .bin 14 .neq (.t 11) (.t 13)])
 (.cond (.t 14) (.seq (.r [.mv 4 (.c (.b false))])
 (.ret))
 (.skip)))
 (.seq (.r [.mv 4 (.c (.b true))])
 (.ret)))))

def f_spec_l00Has : Fd := .ir 2 18 [.t 4]
 (.seq (.r [.mv 4 (.c (.b false))])
 (.seq (.seq (.r [.mv 5 (.c (.i .i64 0))])
 (.blk 0 (.loop [0, 1, 5] [] [] (.seq (.seq (.r [.mv 6 (.t 5), .mv 7 (.t 0), .len 8 false (.t 7), .bin 9 .lss (.t 6) (.t 8)])
 (.cond (.t 9) (.skip)
 (.ex 0)))
 (.seq (.blk 1 (.seq (.r [.mv 12 (.t 0), .mv 13 (.t 5), .ixa 14 (.t 12) (.t 13) 1, .ld 15 (.t 14) 1 false, .mv 16 (.t 1), .bin 17 .eql (.t 15) (.t 16)])
 (.cond (.t 17) (.seq (.r [.mv 4 (.c (.b true))])
 (.ret))
 (.skip))))
 (.r [.mv 10 (.t 5), .bin 11 .add (.t 10) (.c (.i .i64 1)), .mv 5 (.t 11)]))))))
 (.seq (.r [.mv 4 (.c (.b false))])
 (.ret))))

def f_impl_getBits : Fd := .ir 1 21 [.t 2]
 (.seq (.r [.mv 2 (.c (.i .u64 0))])
 (.seq (.r [.mv 3 (.c (.i .u64 0))])
 (.seq (.seq (.r [.mv 5 (.t 0), .len 6 true (.t 5), .mv 7 (.c (.i .i64 0))])
 (.blk 0 (.loop [0, 3, 6, 7] [] [] (.seq (.r [.bin 8 .lss (.t 7) (.t 6)])
 (.seq (.cond (.t 8) (.skip)
 (.ex 0))
 (.seq (.blk 1 (.seq (.r [.mv 9 (.t 7), .mv 4 (.t 9)])
 (.r [.mv 10 (.t 3), .mv 11 (.t 0), .mv 12 (.t 4), .ixs 13 (.t 11) (.t 12), .cvi 14 .u64 (.t 13), .mv 15 (.t 4), .bin 16 .mul (.c (.i .i64 8)) (.t 15), .bin 17 .shl (.t 14) (.t 16), .bin 18 .or (.t 10) (.t 17), .mv 3 (.t 18)])))
 (.r [.bin 19 .add (.t 7) (.c (.i .i64 1)), .mv 7 (.t 19)])))))))
 (.seq (.r [.mv 20 (.t 3), .mv 2 (.t 20)])
 (.ret)))))

def f_p_impl_Pager_get : Fd := .ir 2 28 [.t 4]
 (.seq (.r [.mv 4 (.c (.s []))])
 (.seq (.seq (.r [.mv 8 (.t 0), .nck 9 (.t 8), .fad 10 (.t 9) 11, .ld 11 (.t 10) 1 false, .mv 12 (.t 1), .call (some 13) 123 [((.t 11), .b 2), ((.t 12), .b 0)], .mv 7 (.t 13), .ext 14 (.t 7) 0, .ext 15 (.t 7) 1, .mv 5 (.t 14), .mv 6 (.t 15)])
 (.seq (.r [.mv 16 (.t 6)])
 (.cond (.t 16) (.seq (.r [.mv 17 (.t 0), .nck 18 (.t 17), .fad 19 (.t 18) 11, .ld 20 (.t 19) 1 false, .mv 21 (.t 5), .ixa 22 (.t 20) (.t 21) 2, .fad 23 (.t 22) 1, .ld 24 (.t 23) 1 false, .mv 4 (.t 24)])
 (.ret))
 (.skip))))
 (.seq (.r [.mv 25 (.t 0), .mv 26 (.t 1), .call (some 27) 124 [((.t 25), .b 12), ((.t 26), .b 0)], .mv 4 (.t 27)])
 (.ret))))

def f_p_impl_Pager_area : Fd := .ir 1 9 [.t 2]
 (.seq (.r [.mv 2 (.c (.i .i64 0))])
 (.seq (.r [.mv 3 (.t 0), .nck 4 (.t 3), .fad 5 (.t 4) 4, .fad 6 (.t 5) 1, .ld 7 (.t 6) 1 false, .bin 8 .add (.c (.i .i64 2)) (.t 7), .mv 2 (.t 8)])
 (.ret)))

def f_slices_Contains_int64_int64 : Fd := .ir 2 9 [.t 4]
 (.seq (.r [.mv 4 (.c (.b false))])
 (.seq (.r [.mv 5 (.t 0), .mv 6 (.t 1), .call (some 7) 125 [((.t 5), .b 1), ((.t 6), .b 0)], .bin 8 .geq (.t 7) (.c (.i .i64 0)), .mv 4 (.t 8)])
 (.ret)))

def f_p_impl_Pager_targets : Fd := .ir 2 35 [.t 4]
 (.seq (.r [.mv 4 (.c (.nil))])
 (.seq (.r [.mv 11 (.t 0), .mv 12 (.t 1), .call (some 13) 88 [((.t 11), .b 12), ((.t 12), .b 0)], .mv 10 (.t 13), .ext 14 (.t 10) 0, .ext 15 (.t 10) 1, .alc 5 [.i .i64 0, .i .i64 0, .i .i64 0, .nil, .nil, .nil], .st (.t 5) (.t 14) 6, .mv 6 (.t 15)])
 (.seq (.seq (.r [.mv 16 (.t 6), .bin 17 .neq (.t 16) (.c (.i .i64 0))])
 (.cond (.t 17) (.seq (.r [.mv 4 (.c (.nil))])
 (.ret))
 (.skip)))
 (.seq (.r [.mv 7 (.c (.nil))])
 (.seq (.seq (.r [.fad 18 (.t 5) 5, .ld 19 (.t 18) 1 false, .len 20 false (.t 19), .mv 21 (.c (.i .i64 0))])
 (.blk 0 (.loop [7, 19, 20, 21] [(7, 1)] [] (.seq (.r [.bin 22 .lss (.t 21) (.t 20)])
 (.seq (.cond (.t 22) (.skip)
 (.ex 0))
 (.seq (.blk 1 (.seq (.r [.ixa 23 (.t 19) (.t 21) 3, .ld 24 (.t 23) 3 true, .alc 9 [.s [], .i .i64 0, .s []], .st (.t 9) (.t 24) 3])
 (.seq (.r [.fad 25 (.t 9) 2, .ld 26 (.t 25) 1 false, .bin 27 .eql (.t 26) (.c (.s []))])
 (.cond (.t 27) (.r [.mv 28 (.t 7), .fad 29 (.t 9) 1, .ld 30 (.t 29) 1 false, .bsl 31 1 [(.t 30)], .app 32 (.t 28) (.t 31) 1, .mv 7 (.t 32)])
 (.skip)))))
 (.r [.bin 33 .add (.t 21) (.c (.i .i64 1)), .mv 21 (.t 33)])))))))
 (.seq (.r [.mv 34 (.t 7), .mv 4 (.t 34)])
 (.ret)))))))

def f_p_impl_Pager_header : Fd := .ir 2 20 [.c 4 3 true, .t 5]
 (.seq (.r [.alc 4 [.i .i64 0, .i .i64 0, .nil], .mv 5 (.c (.i .i64 0))])
 (.seq (.r [.mv 10 (.t 0), .mv 11 (.t 1), .call (some 12) 126 [((.t 10), .b 12), ((.t 11), .b 0)], .mv 9 (.t 12), .ext 13 (.t 9) 0, .ext 14 (.t 9) 1, .ext 15 (.t 9) 2, .alc 7 [.i .i64 0, .i .i64 0, .nil], .mv 6 (.t 13), .st (.t 7) (.t 14) 3, .mv 8 (.t 15)])
 (.seq (.seq (.r [.mv 16 (.t 8), .un 17 .not (.t 16)])
 (.cond (.t 17) (.seq (.r [.bld 18 [.i .i64 0, .i .i64 0, .nil] [], .st (.t 4) (.t 18) 3, .mv 5 (.c (.i .i64 10))])
 (.ret))
 (.skip)))
 (.seq (.r [.ld 19 (.t 7) 3 true, .st (.t 4) (.t 19) 3, .mv 5 (.c (.i .i64 0))])
 (.ret)))))

def f_spec_l11Table : Fd := .ir 1 8 [.t 2]
 (.seq (.r [.mv 2 (.c (.i .i64 0))])
 (.seq (.r [.mv 3 (.t 0), .bin 4 .mul (.c (.i .i64 2)) (.t 3), .bin 5 .add (.t 4) (.c (.i .i64 64)), .bin 6 .sub (.t 5) (.c (.i .i64 1)), .bin 7 .quo (.t 6) (.c (.i .i64 64)), .mv 2 (.t 7)])
 (.ret)))

def f_spec_l01Within : Fd := .ir 3 23 [.t 6]
 (.seq (.r [.mv 6 (.c (.b false))])
 (.seq (.r [.mv 7 (.t 2), .call (some 8) 39 [((.t 7), .b 0), ((.c (.i .i64 1)), .b 0), ((.c (.i .i64 8)), .b 0)], .mv 9 (.t 8), .g 9 true (some 10) (.mv 10 (.t 1)), .g 9 true (some 11) (.mv 11 (.t 0)), .g 9 true (some 12) (.len 12 true (.t 11)), .g 9 true (some 13) (.call (some 13) 39 [((.t 10), .b 0), ((.c (.i .i64 0)), .b 0), ((.t 12), .b 0)]), .pick 14 (.t 9) (.t 13) (.c (.b false)), .mv 15 (.t 14), .g 15 true (some 16) (.mv 16 (.t 2)), .g 15 true (some 17) (.mv 17 (.t 0)), .g 15 true (some 18) (.len 18 true (.t 17)), .g 15 true (some 19) (.mv 19 (.t 1)), .g 15 true (some 20) (.bin 20 .sub (.t 18) (.t 19)), .g 15 true (some 21) (.bin 21 .leq (.t 16) (.t 20)), .pick 22 (.t 15) (.t 21) (.c (.b false)), .mv 6 (.t 22)])
 (.ret)))

def f_spec_l12Get : Fd := .ir 2 44 [.t 4]
 (.seq (.r [.mv 4 (.c (.s []))])
 (.seq (.seq (.r [.mv 7 (.t 0), .nck 8 (.t 7), .fad 9 (.t 8) 11, .ld 10 (.t 9) 1 false, .mv 11 (.t 1), .call (some 12) 127 [((.t 10), .b 2), ((.t 11), .b 0)], .mv 5 (.t 12)])
 (.seq (.r [.mv 13 (.t 5), .bin 14 .geq (.t 13) (.c (.i .i64 0))])
 (.cond (.t 14) (.seq (.r [.mv 15 (.t 0), .nck 16 (.t 15), .fad 17 (.t 16) 11, .ld 18 (.t 17) 1 false, .mv 19 (.t 5), .ixa 20 (.t 18) (.t 19) 2, .fad 21 (.t 20) 1, .ld 22 (.t 21) 1 false, .mv 4 (.t 22)])
 (.ret))
 (.skip))))
 (.seq (.seq (.r [.mv 23 (.t 0), .nck 24 (.t 23), .fad 25 (.t 24) 10, .ld 26 (.t 25) 1 false, .mv 27 (.t 1), .call (some 28) 127 [((.t 26), .b 2), ((.t 27), .b 0)], .mv 6 (.t 28)])
 (.seq (.r [.mv 29 (.t 6), .bin 30 .geq (.t 29) (.c (.i .i64 0))])
 (.cond (.t 30) (.seq (.r [.mv 31 (.t 0), .nck 32 (.t 31), .fad 33 (.t 32) 10, .ld 34 (.t 33) 1 false, .mv 35 (.t 6), .ixa 36 (.t 34) (.t 35) 2, .fad 37 (.t 36) 1, .ld 38 (.t 37) 1 false, .mv 4 (.t 38)])
 (.ret))
 (.skip))))
 (.seq (.r [.mv 39 (.t 0), .nck 40 (.t 39), .fad 41 (.t 40) 0, .mv 42 (.t 1), .call (some 43) 128 [((.t 41), .b 4), ((.t 42), .b 0)], .mv 4 (.t 43)])
 (.ret)))))

def f_spec_l14Chain : Fd := .ir 2 88 [.t 4, .c 5 3 true, .t 6]
 (.seq (.r [.mv 4 (.c (.nil)), .alc 5 [.i .i64 0, .i .i64 0, .nil], .mv 6 (.c (.b false))])
 (.seq (.r [.bsl 17 1 [], .mv 7 (.t 17)])
 (.seq (.r [.mv 8 (.c (.s []))])
 (.seq (.seq (.r [.mv 18 (.t 1), .mv 9 (.t 18)])
 (.blk 0 (.loop [0, 5, 7, 8, 9] [] [] (.blk 1 (.seq (.seq (.r [.mv 19 (.t 0), .mv 20 (.t 9), .call (some 21) 129 [((.t 19), .b 12), ((.t 20), .b 0)], .un 22 .not (.t 21), .mv 23 (.t 22), .g 23 false (some 24) (.mv 24 (.t 7)), .g 23 false (some 25) (.mv 25 (.t 9)), .g 23 false (some 26) (.call (some 26) 92 [((.t 24), .b 1), ((.t 25), .b 0)]), .pick 27 (.t 23) (.c (.b true)) (.t 26)])
 (.cond (.t 27) (.seq (.r [.bld 28 [.i .i64 0, .i .i64 0, .nil] [], .mv 4 (.c (.nil)), .st (.t 5) (.t 28) 3, .mv 6 (.c (.b false))])
 (.ret))
 (.skip)))
 (.seq (.r [.mv 29 (.t 7), .mv 30 (.t 9), .bsl 31 1 [(.t 30)], .app 32 (.t 29) (.t 31) 1, .mv 7 (.t 32)])
 (.seq (.r [.mv 33 (.t 0), .mv 34 (.t 9), .call (some 35) 101 [((.t 33), .b 12), ((.t 34), .b 0)], .mv 10 (.t 35)])
 (.seq (.r [.mv 37 (.t 10), .call (some 38) 72 [((.t 37), .b 0), ((.c (.i .i64 0)), .b 0), ((.c (.i .i64 2)), .b 0)], .mv 36 (.t 38), .ext 39 (.t 36) 0, .ext 40 (.t 36) 1, .mv 11 (.t 39), .mv 12 (.t 40)])
 (.seq (.r [.mv 42 (.t 10), .call (some 43) 72 [((.t 42), .b 0), ((.c (.i .i64 2)), .b 0), ((.c (.i .i64 2)), .b 0)], .mv 41 (.t 43), .ext 44 (.t 41) 0, .ext 45 (.t 41) 1, .mv 13 (.t 44), .mv 14 (.t 45)])
 (.seq (.seq (.r [.mv 46 (.t 13), .bin 47 .lss (.t 46) (.c (.i .i64 1)), .mv 48 (.t 47), .g 48 false (some 49) (.mv 49 (.t 13)), .g 48 false (some 50) (.bin 50 .gtr (.t 49) (.c (.i .i64 60))), .pick 51 (.t 48) (.c (.b true)) (.t 50), .mv 52 (.t 51), .g 52 false (some 53) (.mv 53 (.t 11)), .g 52 false (some 54) (.bin 54 .neq (.t 53) (.c (.i .i64 0))), .g 52 false (some 55) (.mv 55 (.t 54)), .g 55 true (some 56) (.mv 56 (.t 13)), .g 55 true (some 57) (.bin 57 .neq (.t 56) (.c (.i .i64 60))), .g 52 false (some 58) (.pick 58 (.t 55) (.t 57) (.c (.b false))), .pick 59 (.t 52) (.c (.b true)) (.t 58), .mv 60 (.t 59), .g 60 false (some 61) (.mv 61 (.t 10)), .g 60 false (some 62) (.mv 62 (.t 13)), .g 60 false (some 63) (.bin 63 .add (.c (.i .i64 4)) (.t 62)), .g 60 false (some 64) (.slc 64 (.t 61) (some (.t 63)) none 0), .g 60 false (some 65) (.mv 65 (.t 13)), .g 60 false (some 66) (.bin 66 .sub (.c (.i .i64 60)) (.t 65)), .g 60 false (some 67) (.call (some 67) 130 [((.t 66), .b 0)]), .g 60 false (some 68) (.bin 68 .neq (.t 64) (.t 67)), .pick 69 (.t 60) (.c (.b true)) (.t 68)])
 (.cond (.t 69) (.seq (.r [.bld 70 [.i .i64 0, .i .i64 0, .nil] [], .mv 4 (.c (.nil)), .st (.t 5) (.t 70) 3, .mv 6 (.c (.b false))])
 (.ret))
 (.skip)))
 (.seq (.r [.mv 71 (.t 8), .mv 72 (.t 10), .mv 73 (.t 13), .bin 74 .add (.c (.i .i64 4)) (.t 73), .slc 75 (.t 72) (some (.c (.i .i64 4))) (some (.t 74)) 0, .bin 76 .add (.t 71) (.t 75), .mv 8 (.t 76)])
 (.seq (.seq (.r [.mv 77 (.t 11), .bin 78 .eql (.t 77) (.c (.i .i64 0))])
 (.cond (.t 78) (.ex 0)
 (.skip)))
 (.r [.mv 79 (.t 11), .mv 9 (.t 79)])))))))))))))
 (.seq (.r [.mv 81 (.t 8), .call (some 82) 131 [((.t 81), .b 0)], .mv 80 (.t 82), .ext 83 (.t 80) 0, .ext 84 (.t 80) 1, .alc 15 [.i .i64 0, .i .i64 0, .nil], .st (.t 15) (.t 83) 3, .mv 16 (.t 84)])
 (.seq (.r [.mv 85 (.t 7), .ld 86 (.t 15) 3 true, .mv 87 (.t 16), .mv 4 (.t 85), .st (.t 5) (.t 86) 3, .mv 6 (.t 87)])
 (.ret)))))))

def f_p_spec_l02Reader_byte : Fd := .ir 1 34 [.t 2]
 (.seq (.r [.mv 2 (.c (.i .i64 0))])
 (.seq (.seq (.r [.mv 3 (.t 0), .nck 4 (.t 3), .fad 5 (.t 4) 1, .ld 6 (.t 5) 1 false, .mv 7 (.t 0), .nck 8 (.t 7), .fad 9 (.t 8) 0, .ld 10 (.t 9) 1 false, .len 11 true (.t 10), .bin 12 .geq (.t 6) (.t 11)])
 (.cond (.t 12) (.seq (.r [.mv 13 (.t 0), .nck 14 (.t 13), .fad 15 (.t 14) 2, .st (.t 15) (.c (.b true)) 1])
 (.seq (.r [.mv 2 (.c (.i .i64 0))])
 (.ret)))
 (.skip)))
 (.seq (.r [.mv 16 (.t 0), .nck 17 (.t 16), .fad 18 (.t 17) 1, .ld 19 (.t 18) 1 false, .bin 20 .add (.t 19) (.c (.i .i64 1)), .nck 21 (.t 16), .fad 22 (.t 21) 1, .st (.t 22) (.t 20) 1])
 (.seq (.r [.mv 23 (.t 0), .nck 24 (.t 23), .fad 25 (.t 24) 0, .ld 26 (.t 25) 1 false, .mv 27 (.t 0), .nck 28 (.t 27), .fad 29 (.t 28) 1, .ld 30 (.t 29) 1 false, .bin 31 .sub (.t 30) (.c (.i .i64 1)), .ixs 32 (.t 26) (.t 31), .cvi 33 .i64 (.t 32), .mv 2 (.t 33)])
 (.ret)))))

def f_p_spec_l02Reader_take : Fd := .ir 2 47 [.t 4]
 (.seq (.r [.mv 4 (.c (.s []))])
 (.seq (.seq (.r [.mv 5 (.t 1), .bin 6 .lss (.t 5) (.c (.i .i64 0)), .mv 7 (.t 6), .g 7 false (some 8) (.mv 8 (.t 1)), .g 7 false (some 9) (.mv 9 (.t 0)), .g 7 false (some 10) (.nck 10 (.t 9)), .g 7 false (some 11) (.fad 11 (.t 10) 0), .g 7 false (some 12) (.ld 12 (.t 11) 1 false), .g 7 false (some 13) (.len 13 true (.t 12)), .g 7 false (some 14) (.mv 14 (.t 0)), .g 7 false (some 15) (.nck 15 (.t 14)), .g 7 false (some 16) (.fad 16 (.t 15) 1), .g 7 false (some 17) (.ld 17 (.t 16) 1 false), .g 7 false (some 18) (.bin 18 .sub (.t 13) (.t 17)), .g 7 false (some 19) (.bin 19 .gtr (.t 8) (.t 18)), .pick 20 (.t 7) (.c (.b true)) (.t 19)])
 (.cond (.t 20) (.seq (.r [.mv 21 (.t 0), .nck 22 (.t 21), .fad 23 (.t 22) 2, .st (.t 23) (.c (.b true)) 1])
 (.seq (.r [.mv 4 (.c (.s []))])
 (.ret)))
 (.skip)))
 (.seq (.r [.mv 24 (.t 0), .nck 25 (.t 24), .fad 26 (.t 25) 1, .ld 27 (.t 26) 1 false, .mv 28 (.t 1), .bin 29 .add (.t 27) (.t 28), .nck 30 (.t 24), .fad 31 (.t 30) 1, .st (.t 31) (.t 29) 1])
 (.seq (.r [.mv 32 (.t 0), .nck 33 (.t 32), .fad 34 (.t 33) 0, .ld 35 (.t 34) 1 false, .mv 36 (.t 0), .nck 37 (.t 36), .fad 38 (.t 37) 1, .ld 39 (.t 38) 1 false, .mv 40 (.t 1), .bin 41 .sub (.t 39) (.t 40), .mv 42 (.t 0), .nck 43 (.t 42), .fad 44 (.t 43) 1, .ld 45 (.t 44) 1 false, .slc 46 (.t 35) (some (.t 41)) (some (.t 45)) 0, .mv 4 (.t 46)])
 (.ret)))))

def f_spec_l16Ok : Fd := .ir 1 43 [.t 2]
 (.seq (.r [.box 1 (.t 0), .mv 2 (.c (.b false))])
 (.seq (.r [.fad 5 (.t 1) 0, .ld 6 (.t 5) 1 false, .len 7 false (.t 6), .mv 3 (.t 7)])
 (.seq (.seq (.r [.mv 8 (.t 3), .bin 9 .gtr (.t 8) (.c (.i .i64 30)), .mv 10 (.t 9), .g 10 false (some 11) (.mv 11 (.t 3)), .g 10 false (some 12) (.bin 12 .gtr (.t 11) (.c (.i .i64 0))), .g 10 false (some 13) (.mv 13 (.t 12)), .g 13 true (some 14) (.fad 14 (.t 1) 0), .g 13 true (some 15) (.ld 15 (.t 14) 1 false), .g 13 true (some 16) (.mv 16 (.t 3)), .g 13 true (some 17) (.bin 17 .sub (.t 16) (.c (.i .i64 1))), .g 13 true (some 18) (.ixa 18 (.t 15) (.t 17) 1), .g 13 true (some 19) (.ld 19 (.t 18) 1 false), .g 13 true (some 20) (.bin 20 .eql (.t 19) (.c (.s []))), .g 10 false (some 21) (.pick 21 (.t 13) (.t 20) (.c (.b false))), .pick 22 (.t 10) (.c (.b true)) (.t 21)])
 (.cond (.t 22) (.seq (.r [.mv 2 (.c (.b false))])
 (.ret))
 (.skip)))
 (.seq (.seq (.r [.mv 4 (.c (.i .i64 0))])
 (.blk 0 (.loop [1, 3, 4] [] [] (.seq (.seq (.r [.mv 23 (.t 4), .mv 24 (.t 3), .bin 25 .lss (.t 23) (.t 24)])
 (.cond (.t 25) (.skip)
 (.ex 0)))
 (.seq (.blk 1 (.seq (.r [.fad 28 (.t 1) 0, .ld 29 (.t 28) 1 false, .mv 30 (.t 4), .ixa 31 (.t 29) (.t 30) 1, .ld 32 (.t 31) 1 false, .bin 33 .neq (.t 32) (.c (.s [])), .mv 34 (.t 33), .g 34 true (some 35) (.fad 35 (.t 1) 0), .g 34 true (some 36) (.ld 36 (.t 35) 1 false), .g 34 true (some 37) (.mv 37 (.t 4)), .g 34 true (some 38) (.ixa 38 (.t 36) (.t 37) 1), .g 34 true (some 39) (.ld 39 (.t 38) 1 false), .g 34 true (some 40) (.call (some 40) 36 [((.t 39), .b 0)]), .g 34 true (some 41) (.un 41 .not (.t 40)), .pick 42 (.t 34) (.t 41) (.c (.b false))])
 (.cond (.t 42) (.seq (.r [.mv 2 (.c (.b false))])
 (.ret))
 (.skip))))
 (.r [.mv 26 (.t 4), .bin 27 .add (.t 26) (.c (.i .i64 1)), .mv 4 (.t 27)]))))))
 (.seq (.r [.mv 2 (.c (.b true))])
 (.ret))))))

def f_spec_NameAt : Fd := .ir 2 31 [.t 4, .t 5]
 (.seq (.r [.box 2 (.t 0), .mv 4 (.c (.s [])), .mv 5 (.c (.b false))])
 (.seq (.seq (.r [.ld 6 (.t 2) 1 true, .call (some 7) 105 [((.t 6), .b 0)], .un 8 .not (.t 7), .mv 9 (.t 8), .g 9 false (some 10) (.mv 10 (.t 1)), .g 9 false (some 11) (.fad 11 (.t 2) 0), .g 9 false (some 12) (.ld 12 (.t 11) 1 false), .g 9 false (some 13) (.len 13 false (.t 12)), .g 9 false (some 14) (.bin 14 .sub (.t 13) (.c (.i .i64 1))), .g 9 false (some 15) (.call (some 15) 39 [((.t 10), .b 0), ((.c (.i .i64 0)), .b 0), ((.t 14), .b 0)]), .g 9 false (some 16) (.un 16 .not (.t 15)), .pick 17 (.t 9) (.c (.b true)) (.t 16), .mv 18 (.t 17), .g 18 false (some 19) (.fad 19 (.t 2) 0), .g 18 false (some 20) (.ld 20 (.t 19) 1 false), .g 18 false (some 21) (.mv 21 (.t 1)), .g 18 false (some 22) (.ixa 22 (.t 20) (.t 21) 1), .g 18 false (some 23) (.ld 23 (.t 22) 1 false), .g 18 false (some 24) (.bin 24 .eql (.t 23) (.c (.s []))), .pick 25 (.t 18) (.c (.b true)) (.t 24)])
 (.cond (.t 25) (.seq (.r [.mv 4 (.c (.s [])), .mv 5 (.c (.b false))])
 (.ret))
 (.skip)))
 (.seq (.r [.fad 26 (.t 2) 0, .ld 27 (.t 26) 1 false, .mv 28 (.t 1), .ixa 29 (.t 27) (.t 28) 1, .ld 30 (.t 29) 1 false, .mv 4 (.t 30), .mv 5 (.c (.b true))])
 (.ret))))

def f_spec_l17Ok : Fd := .ir 1 62 [.t 2]
 (.seq (.r [.mv 2 (.c (.b false))])
 (.seq (.seq (.r [.mv 3 (.c (.i .i64 0))])
 (.blk 0 (.loop [0, 3] [] [] (.seq (.seq (.r [.mv 5 (.t 3), .mv 6 (.t 0), .len 7 false (.t 6), .bin 8 .lss (.t 5) (.t 7)])
 (.cond (.t 8) (.skip)
 (.ex 0)))
 (.seq (.blk 1 (.seq (.r [.mv 11 (.t 0), .mv 12 (.t 3), .ixa 13 (.t 11) (.t 12) 3, .ld 14 (.t 13) 3 true, .alc 4 [.s [], .i .i64 0, .s []], .st (.t 4) (.t 14) 3])
 (.seq (.seq (.r [.fad 15 (.t 4) 0, .ld 16 (.t 15) 1 false, .call (some 17) 36 [((.t 16), .b 0)], .un 18 .not (.t 17), .mv 19 (.t 18), .g 19 false (some 20) (.mv 20 (.t 3)), .g 19 false (some 21) (.bin 21 .gtr (.t 20) (.c (.i .i64 0))), .g 19 false (some 22) (.mv 22 (.t 21)), .g 22 true (some 23) (.mv 23 (.t 0)), .g 22 true (some 24) (.mv 24 (.t 3)), .g 22 true (some 25) (.bin 25 .sub (.t 24) (.c (.i .i64 1))), .g 22 true (some 26) (.ixa 26 (.t 23) (.t 25) 3), .g 22 true (some 27) (.fad 27 (.t 26) 0), .g 22 true (some 28) (.ld 28 (.t 27) 1 false), .g 22 true (some 29) (.fad 29 (.t 4) 0), .g 22 true (some 30) (.ld 30 (.t 29) 1 false), .g 22 true (some 31) (.bin 31 .geq (.t 28) (.t 30)), .g 19 false (some 32) (.pick 32 (.t 22) (.t 31) (.c (.b false))), .pick 33 (.t 19) (.c (.b true)) (.t 32)])
 (.cond (.t 33) (.seq (.r [.mv 2 (.c (.b false))])
 (.ret))
 (.skip)))
 (.seq (.r [.fad 34 (.t 4) 2, .ld 35 (.t 34) 1 false, .bin 36 .eql (.t 35) (.c (.s [])), .mv 37 (.t 36), .g 37 true (some 38) (.fad 38 (.t 4) 1), .g 37 true (some 39) (.ld 39 (.t 38) 1 false), .g 37 true (some 40) (.call (some 40) 39 [((.t 39), .b 0), ((.c (.i .i64 1)), .b 0), ((.c (.i .i64 255)), .b 0)]), .g 37 true (some 41) (.un 41 .not (.t 40)), .pick 42 (.t 37) (.t 41) (.c (.b false)), .mv 43 (.t 42), .g 43 false (some 44) (.fad 44 (.t 4) 2), .g 43 false (some 45) (.ld 45 (.t 44) 1 false), .g 43 false (some 46) (.bin 46 .neq (.t 45) (.c (.s []))), .g 43 false (some 47) (.mv 47 (.t 46)), .g 47 true (some 48) (.fad 48 (.t 4) 1), .g 47 true (some 49) (.ld 49 (.t 48) 1 false), .g 47 true (some 50) (.bin 50 .neq (.t 49) (.c (.i .i64 0))), .g 47 true (some 51) (.mv 51 (.t 50)), .g 51 false (some 52) (.fad 52 (.t 4) 2), .g 51 false (some 53) (.ld 53 (.t 52) 1 false), .g 51 false (some 54) (.call (some 54) 132 [((.t 53), .b 0)]), .g 51 false (some 55) (.un 55 .not (.t 54)), .g 47 true (some 56) (.pick 56 (.t 51) (.c (.b true)) (.t 55)), .g 43 false (some 57) (.pick 57 (.t 47) (.t 56) (.c (.b false))), .pick 58 (.t 43) (.c (.b true)) (.t 57)])
 (.cond (.t 58) (.seq (.r [.mv 2 (.c (.b false))])
 (.ret))
 (.skip))))))
 (.r [.mv 9 (.t 3), .bin 10 .add (.t 9) (.c (.i .i64 1)), .mv 3 (.t 10)]))))))
 (.seq (.r [.mv 59 (.t 0), .len 60 false (.t 59), .bin 61 .leq (.t 60) (.c (.i .i64 12)), .mv 2 (.t 61)])
 (.ret))))

def f_spec_l17Count : Fd := .ir 1 21 [.t 2]
 (.seq (.r [.box 1 (.t 0), .mv 2 (.c (.i .i64 0))])
 (.seq (.r [.mv 3 (.c (.i .i64 0))])
 (.seq (.seq (.r [.mv 4 (.c (.i .i64 0))])
 (.blk 0 (.loop [1, 3, 4] [] [] (.seq (.seq (.r [.mv 5 (.t 4), .fad 6 (.t 1) 0, .ld 7 (.t 6) 1 false, .len 8 false (.t 7), .bin 9 .lss (.t 5) (.t 8)])
 (.cond (.t 9) (.skip)
 (.ex 0)))
 (.seq (.blk 1 (.seq (.r [.fad 12 (.t 1) 0, .ld 13 (.t 12) 1 false, .mv 14 (.t 4), .ixa 15 (.t 13) (.t 14) 1, .ld 16 (.t 15) 1 false, .bin 17 .neq (.t 16) (.c (.s []))])
 (.cond (.t 17) (.r [.mv 18 (.t 3), .bin 19 .add (.t 18) (.c (.i .i64 1)), .mv 3 (.t 19)])
 (.skip))))
 (.r [.mv 10 (.t 4), .bin 11 .add (.t 10) (.c (.i .i64 1)), .mv 4 (.t 11)]))))))
 (.seq (.r [.mv 20 (.t 3), .mv 2 (.t 20)])
 (.ret)))))

def f_impl_ValidDisk_s1 : Fd := .ir 1 6 [.t 2]
 (.seq (.r [.mv 2 (.c (.b false))])
 (.seq (.r [.mv 3 (.t 0), .call (some 4) 80 [((.t 3), .b 0)], .un 5 .not (.t 4), .mv 2 (.t 5)])
 (.ret)))

def f_slices_ContainsFunc_impl_Put_impl_Put : Fd := .ir 2 9 [.t 4]
 (.seq (.r [.mv 4 (.c (.b false))])
 (.seq (.r [.mv 5 (.t 0), .mv 6 (.t 1), .call (some 7) 133 [((.t 5), .b 2), ((.t 6), .b 0)], .bin 8 .geq (.t 7) (.c (.i .i64 0)), .mv 4 (.t 8)])
 (.ret)))

def f_impl_ValidDisk_s2 : Fd := .ir 2 17 [.t 3]
 (.seq (.r [.box 2 (.t 0), .mv 3 (.c (.b false))])
 (.seq (.r [.fad 4 (.t 2) 0, .ld 5 (.t 4) 1 false, .fad 6 (.t 1) 0, .ld 7 (.t 6) 1 false, .len 8 false (.t 7), .call (some 9) 134 [((.t 5), .b 0), ((.t 8), .b 0)], .un 10 .not (.t 9), .mv 11 (.t 10), .g 11 false (some 12) (.fad 12 (.t 2) 1), .g 11 false (some 13) (.ld 13 (.t 12) 1 false), .g 11 false (some 14) (.call (some 14) 80 [((.t 13), .b 0)]), .g 11 false (some 15) (.un 15 .not (.t 14)), .pick 16 (.t 11) (.c (.b true)) (.t 15), .mv 3 (.t 16)])
 (.ret)))

def f_impl_isIndex : Fd := .ir 2 9 [.t 4]
 (.seq (.r [.mv 4 (.c (.b false))])
 (.seq (.r [.mv 5 (.t 0), .mv 6 (.t 1), .bin 7 .sub (.t 6) (.c (.i .i64 1)), .call (some 8) 50 [((.t 5), .b 0), ((.c (.i .i64 0)), .b 0), ((.t 7), .b 0)], .mv 4 (.t 8)])
 (.ret)))

def f_slices_IndexFunc_impl_Page_impl_Page : Fd := .ir 2 19 [.t 4]
 (.seq (.r [.mv 4 (.c (.i .i64 0))])
 (.seq (.seq (.r [.mv 6 (.t 0), .len 7 false (.t 6), .mv 8 (.c (.i .i64 0))])
 (.blk 0 (.loop [0, 1, 7, 8] [] [] (.seq (.r [.bin 9 .lss (.t 8) (.t 7)])
 (.seq (.cond (.t 9) (.skip)
 (.ex 0))
 (.seq (.blk 1 (.seq (.r [.mv 10 (.t 8), .mv 5 (.t 10)])
 (.seq (.r [.mv 11 (.t 1), .mv 12 (.t 0), .mv 13 (.t 5), .ixa 14 (.t 12) (.t 13) 2, .ld 15 (.t 14) 2 true, .callv (some 16) (.t 11) [((.t 15), .b 0)]])
 (.cond (.t 16) (.seq (.r [.mv 17 (.t 5), .mv 4 (.t 17)])
 (.ret))
 (.skip)))))
 (.r [.bin 18 .add (.t 8) (.c (.i .i64 1)), .mv 8 (.t 18)])))))))
 (.seq (.r [.mv 4 (.c (.i .i64 (-1)))])
 (.ret))))

def f_impl_tableBlocks : Fd := .ir 1 8 [.t 2]
 (.seq (.r [.mv 2 (.c (.i .i64 0))])
 (.seq (.r [.mv 3 (.t 0), .bin 4 .mul (.c (.i .i64 2)) (.t 3), .bin 5 .add (.t 4) (.c (.i .i64 64)), .bin 6 .sub (.t 5) (.c (.i .i64 1)), .bin 7 .quo (.t 6) (.c (.i .i64 64)), .mv 2 (.t 7)])
 (.ret)))

def f_internal_stringslite_CutPrefix : Fd := .ir 2 15 [.t 4, .t 5]
 (.seq (.r [.mv 4 (.c (.s [])), .mv 5 (.c (.b false))])
 (.seq (.seq (.r [.mv 6 (.t 0), .mv 7 (.t 1), .call (some 8) 135 [((.t 6), .b 0), ((.t 7), .b 0)], .un 9 .not (.t 8)])
 (.cond (.t 9) (.seq (.r [.mv 10 (.t 0), .mv 4 (.t 10), .mv 5 (.c (.b false))])
 (.ret))
 (.skip)))
 (.seq (.r [.mv 11 (.t 0), .mv 12 (.t 1), .len 13 true (.t 12), .slc 14 (.t 11) (some (.t 13)) none 0, .mv 4 (.t 14), .mv 5 (.c (.b true))])
 (.ret))))

def f_slices_IndexFunc_string_string : Fd := .ir 2 19 [.t 4]
 (.seq (.r [.mv 4 (.c (.i .i64 0))])
 (.seq (.seq (.r [.mv 6 (.t 0), .len 7 false (.t 6), .mv 8 (.c (.i .i64 0))])
 (.blk 0 (.loop [0, 1, 7, 8] [] [] (.seq (.r [.bin 9 .lss (.t 8) (.t 7)])
 (.seq (.cond (.t 9) (.skip)
 (.ex 0))
 (.seq (.blk 1 (.seq (.r [.mv 10 (.t 8), .mv 5 (.t 10)])
 (.seq (.r [.mv 11 (.t 1), .mv 12 (.t 0), .mv 13 (.t 5), .ixa 14 (.t 12) (.t 13) 1, .ld 15 (.t 14) 1 false, .callv (some 16) (.t 11) [((.t 15), .b 0)]])
 (.cond (.t 16) (.seq (.r [.mv 17 (.t 5), .mv 4 (.t 17)])
 (.ret))
 (.skip)))))
 (.r [.bin 18 .add (.t 8) (.c (.i .i64 1)), .mv 8 (.t 18)])))))))
 (.seq (.r [.mv 4 (.c (.i .i64 (-1)))])
 (.ret))))

def f_impl_Header_only : Fd := .ir 2 30 [.t 4, .t 5]
 (.seq (.r [.box 2 (.t 0), .box 3 (.t 1), .mv 4 (.c (.i .i64 0)), .mv 5 (.c (.b false))])
 (.seq (.r [.ld 7 (.t 2) 3 true, .ld 8 (.t 3) 1 false, .call (some 9) 136 [((.t 7), .b 0), ((.t 8), .b 0)], .mv 6 (.t 9)])
 (.seq (.seq (.r [.mv 10 (.t 6), .bin 11 .lss (.t 10) (.c (.i .i64 0)), .mv 12 (.t 11), .g 12 false (some 13) (.fad 13 (.t 2) 2), .g 12 false (some 14) (.ld 14 (.t 13) 1 false), .g 12 false (some 15) (.mv 15 (.t 6)), .g 12 false (some 16) (.ixa 16 (.t 14) (.t 15) 3), .g 12 false (some 17) (.fad 17 (.t 16) 1), .g 12 false (some 18) (.ld 18 (.t 17) 1 false), .g 12 false (some 19) (.bin 19 .neq (.t 18) (.c (.i .i64 0))), .pick 20 (.t 12) (.c (.b true)) (.t 19)])
 (.cond (.t 20) (.seq (.r [.mv 4 (.c (.i .i64 0)), .mv 5 (.c (.b false))])
 (.ret))
 (.skip)))
 (.seq (.r [.mv 21 (.t 6), .fad 22 (.t 2) 2, .ld 23 (.t 22) 1 false, .mv 24 (.t 6), .bin 25 .add (.t 24) (.c (.i .i64 1)), .slc 26 (.t 23) (some (.t 25)) none 3, .mkf 27 137 [(.t 3)], .call (some 28) 138 [((.t 26), .b 3), ((.t 27), .b 0)], .un 29 .not (.t 28), .mv 4 (.t 21), .mv 5 (.t 29)])
 (.ret)))))

def f_impl_DecodeHeap : Fd := .ir 1 48 [.c 2 1 true, .t 3]
 (.seq (.r [.alc 2 [.nil], .mv 3 (.c (.b false))])
 (.seq (.r [.mv 7 (.t 0), .bld 8 [.s [], .b false] [(0, 1, (.t 7))], .box 9 (.t 8), .mv 4 (.t 9)])
 (.seq (.r [.alc 5 [.nil]])
 (.seq (.seq (.r [.mv 10 (.t 4), .call (some 11) 139 [((.t 10), .m 2)], .mv 6 (.t 11)])
 (.blk 0 (.loop [2, 4, 5, 6] [] [(2, 0, 1)] (.seq (.seq (.r [.mv 12 (.t 6), .bin 13 .gtr (.t 12) (.c (.i .i64 0)), .mv 14 (.t 13), .g 14 true (some 15) (.mv 15 (.t 4)), .g 14 true (some 16) (.nck 16 (.t 15)), .g 14 true (some 17) (.fad 17 (.t 16) 1), .g 14 true (some 18) (.ld 18 (.t 17) 1 false), .g 14 true (some 19) (.un 19 .not (.t 18)), .pick 20 (.t 14) (.t 19) (.c (.b false))])
 (.cond (.t 20) (.skip)
 (.ex 0)))
 (.seq (.blk 1 (.r [.fad 23 (.t 5) 0, .ck (.sb (.t 23) (.t 5)) (.ld 24 (.t 23) 1 false), .mv 25 (.t 4), .ck (.dj [.t 5]) (.call (some 26) 140 [((.t 25), .m 2)]), .bsl 27 1 [(.t 26)], .app 28 (.t 24) (.t 27) 1, .fad 29 (.t 5) 0, .st (.t 29) (.t 28) 1]))
 (.r [.mv 21 (.t 6), .bin 22 .sub (.t 21) (.c (.i .i64 1)), .mv 6 (.t 22)]))))))
 (.seq (.seq (.r [.mv 30 (.t 4), .nck 31 (.t 30), .fad 32 (.t 31) 1, .ld 33 (.t 32) 1 false, .mv 34 (.t 33), .g 34 false (some 35) (.mv 35 (.t 4)), .g 34 false (some 36) (.nck 36 (.t 35)), .g 34 false (some 37) (.fad 37 (.t 36) 0), .g 34 false (some 38) (.ld 38 (.t 37) 1 false), .g 34 false (some 39) (.bin 39 .neq (.t 38) (.c (.s []))), .pick 40 (.t 34) (.c (.b true)) (.t 39), .mv 41 (.t 40), .g 41 false (some 42) (.ld 42 (.t 5) 1 true), .g 41 false (some 43) (.call (some 43) 141 [((.t 42), .b 0)]), .g 41 false (some 44) (.un 44 .not (.t 43)), .pick 45 (.t 41) (.c (.b true)) (.t 44)])
 (.cond (.t 45) (.seq (.r [.bld 46 [.nil] [], .st (.t 2) (.t 46) 1, .mv 3 (.c (.b false))])
 (.ret))
 (.skip)))
 (.seq (.r [.ld 47 (.t 5) 1 true, .st (.t 2) (.t 47) 1, .mv 3 (.c (.b true))])
 (.ret)))))))

def f_impl_DecodeLinks : Fd := .ir 2 49 [.t 4, .t 5]
 (.seq (.r [.box 3 (.t 1), .mv 4 (.c (.nil)), .mv 5 (.c (.b false))])
 (.seq (.seq (.r [.ld 8 (.t 3) 1 true, .call (some 9) 141 [((.t 8), .b 0)], .un 10 .not (.t 9)])
 (.cond (.t 10) (.seq (.r [.mv 4 (.c (.nil)), .mv 5 (.c (.b false))])
 (.ret))
 (.skip)))
 (.seq (.r [.mv 11 (.t 0), .bld 12 [.s [], .b false] [(0, 1, (.t 11))], .box 13 (.t 12), .mv 6 (.t 13)])
 (.seq (.r [.mv 7 (.c (.nil))])
 (.seq (.blk 0 (.loop [3, 6, 7] [(7, 3)] [] (.seq (.seq (.r [.mv 14 (.t 6), .nck 15 (.t 14), .fad 16 (.t 15) 0, .ld 17 (.t 16) 1 false, .bin 18 .neq (.t 17) (.c (.s [])), .mv 19 (.t 18), .g 19 true (some 20) (.mv 20 (.t 6)), .g 19 true (some 21) (.nck 21 (.t 20)), .g 19 true (some 22) (.fad 22 (.t 21) 1), .g 19 true (some 23) (.ld 23 (.t 22) 1 false), .g 19 true (some 24) (.un 24 .not (.t 23)), .pick 25 (.t 19) (.t 24) (.c (.b false))])
 (.cond (.t 25) (.skip)
 (.ex 0)))
 (.blk 1 (.r [.mv 26 (.t 7), .mv 27 (.t 6), .ld 28 (.t 3) 1 true, .call (some 29) 142 [((.t 27), .m 2), ((.t 28), .b 0)], .bsl 30 3 [(.t 29)], .app 31 (.t 26) (.t 30) 3, .mv 7 (.t 31)])))))
 (.seq (.seq (.r [.mv 32 (.t 6), .nck 33 (.t 32), .fad 34 (.t 33) 1, .ld 35 (.t 34) 1 false, .mv 36 (.t 35), .g 36 false (some 37) (.mv 37 (.t 7)), .g 36 false (some 38) (.call (some 38) 143 [((.t 37), .b 3)]), .g 36 false (some 39) (.un 39 .not (.t 38)), .pick 40 (.t 36) (.c (.b true)) (.t 39), .mv 41 (.t 40), .g 41 false (some 42) (.ld 42 (.t 3) 1 true), .g 41 false (some 43) (.call (some 43) 144 [((.t 42), .b 0)]), .g 41 false (some 44) (.mv 44 (.t 7)), .g 41 false (some 45) (.len 45 false (.t 44)), .g 41 false (some 46) (.bin 46 .neq (.t 43) (.t 45)), .pick 47 (.t 41) (.c (.b true)) (.t 46)])
 (.cond (.t 47) (.seq (.r [.mv 4 (.c (.nil)), .mv 5 (.c (.b false))])
 (.ret))
 (.skip)))
 (.seq (.r [.mv 48 (.t 7), .mv 4 (.t 48), .mv 5 (.c (.b true))])
 (.ret))))))))

def f_slices_IndexFunc_impl_Link_impl_Link : Fd := .ir 2 19 [.t 4]
 (.seq (.r [.mv 4 (.c (.i .i64 0))])
 (.seq (.seq (.r [.mv 6 (.t 0), .len 7 false (.t 6), .mv 8 (.c (.i .i64 0))])
 (.blk 0 (.loop [0, 1, 7, 8] [] [] (.seq (.r [.bin 9 .lss (.t 8) (.t 7)])
 (.seq (.cond (.t 9) (.skip)
 (.ex 0))
 (.seq (.blk 1 (.seq (.r [.mv 10 (.t 8), .mv 5 (.t 10)])
 (.seq (.r [.mv 11 (.t 1), .mv 12 (.t 0), .mv 13 (.t 5), .ixa 14 (.t 12) (.t 13) 3, .ld 15 (.t 14) 3 true, .callv (some 16) (.t 11) [((.t 15), .b 0)]])
 (.cond (.t 16) (.seq (.r [.mv 17 (.t 5), .mv 4 (.t 17)])
 (.ret))
 (.skip)))))
 (.r [.bin 18 .add (.t 8) (.c (.i .i64 1)), .mv 8 (.t 18)])))))))
 (.seq (.r [.mv 4 (.c (.i .i64 (-1)))])
 (.ret))))

def f_impl_group_link_s1 : Fd := .ir 2 8 [.t 3]
 (.seq (.r [.box 2 (.t 0), .mv 3 (.c (.b false))])
 (.seq (.r [.fad 4 (.t 2) 0, .ld 5 (.t 4) 1 false, .ld 6 (.t 1) 1 false, .bin 7 .eql (.t 5) (.t 6), .mv 3 (.t 7)])
 (.ret)))

def f_impl_pageAt : Fd := .ir 2 11 [.t 4, .t 5]
 (.seq (.r [.mv 4 (.c (.i .i64 0)), .mv 5 (.c (.b false))])
 (.seq (.r [.mv 6 (.t 0), .mv 7 (.t 1), .call (some 8) 145 [((.t 6), .b 2), ((.t 7), .b 0), ((.c (.fn 146 [])), .b 0)], .ext 9 (.t 8) 0, .ext 10 (.t 8) 1, .mv 4 (.t 9), .mv 5 (.t 10)])
 (.ret)))

def f_p_impl_Pager_committed : Fd := .ir 2 31 [.t 4]
 (.seq (.r [.mv 4 (.c (.s []))])
 (.seq (.seq (.r [.mv 8 (.t 0), .nck 9 (.t 8), .fad 10 (.t 9) 10, .ld 11 (.t 10) 1 false, .mv 12 (.t 1), .call (some 13) 123 [((.t 11), .b 2), ((.t 12), .b 0)], .mv 7 (.t 13), .ext 14 (.t 7) 0, .ext 15 (.t 7) 1, .mv 5 (.t 14), .mv 6 (.t 15)])
 (.seq (.r [.mv 16 (.t 6)])
 (.cond (.t 16) (.seq (.r [.mv 17 (.t 0), .nck 18 (.t 17), .fad 19 (.t 18) 10, .ld 20 (.t 19) 1 false, .mv 21 (.t 5), .ixa 22 (.t 20) (.t 21) 2, .fad 23 (.t 22) 1, .ld 24 (.t 23) 1 false, .mv 4 (.t 24)])
 (.ret))
 (.skip))))
 (.seq (.r [.mv 25 (.t 0), .nck 26 (.t 25), .fad 27 (.t 26) 0, .ld 28 (.t 27) 4 true, .mv 29 (.t 1), .call (some 30) 147 [((.t 28), .b 0), ((.t 29), .b 0)], .mv 4 (.t 30)])
 (.ret))))

def f_slices_Index_int64_int64 : Fd := .ir 2 19 [.t 4]
 (.seq (.r [.mv 4 (.c (.i .i64 0))])
 (.seq (.seq (.r [.mv 6 (.t 0), .len 7 false (.t 6), .mv 8 (.c (.i .i64 0))])
 (.blk 0 (.loop [0, 1, 7, 8] [] [] (.seq (.r [.bin 9 .lss (.t 8) (.t 7)])
 (.seq (.cond (.t 9) (.skip)
 (.ex 0))
 (.seq (.blk 1 (.seq (.r [.mv 10 (.t 8), .mv 5 (.t 10)])
 (.seq (.r [.mv 11 (.t 1), .mv 12 (.t 0), .mv 13 (.t 5), .ixa 14 (.t 12) (.t 13) 1, .ld 15 (.t 14) 1 false, .bin 16 .eql (.t 11) (.t 15)])
 (.cond (.t 16) (.seq (.r [.mv 17 (.t 5), .mv 4 (.t 17)])
 (.ret))
 (.skip)))))
 (.r [.bin 18 .add (.t 8) (.c (.i .i64 1)), .mv 8 (.t 18)])))))))
 (.seq (.r [.mv 4 (.c (.i .i64 (-1)))])
 (.ret))))

def f_p_impl_Pager_chain : Fd := .ir 2 55 [.t 4, .c 5 3 true, .t 6]
 (.seq (.r [.mv 4 (.c (.nil)), .alc 5 [.i .i64 0, .i .i64 0, .nil], .mv 6 (.c (.b false))])
 (.seq (.r [.mv 7 (.c (.nil))])
 (.seq (.r [.alc 8 [.bz, .nil]])
 (.seq (.seq (.r [.mv 9 (.c (.b true))])
 (.blk 0 (.loop [0, 1, 5, 7, 8] [(7, 1)] [(1, 1, 5001)] (.seq (.seq (.r [.mv 13 (.t 1), .bin 14 .neq (.t 13) (.c (.i .i64 0)), .mv 15 (.t 14), .g 15 false (some 16) (.mv 16 (.t 7)), .g 15 false (some 17) (.len 17 false (.t 16)), .g 15 false (some 18) (.bin 18 .eql (.t 17) (.c (.i .i64 0))), .pick 19 (.t 15) (.c (.b true)) (.t 18)])
 (.cond (.t 19) (.skip)
 (.ex 0)))
 (.blk 1 (.seq (.seq (.r [.mv 20 (.t 0), .mv 21 (.t 1), .call (some 22) 148 [((.t 20), .b 12), ((.t 21), .b 0)], .un 23 .not (.t 22), .mv 24 (.t 23), .g 24 false (some 25) (.mv 25 (.t 7)), .g 24 false (some 26) (.mv 26 (.t 1)), .g 24 false (some 27) (.call (some 27) 96 [((.t 25), .b 1), ((.t 26), .b 0)]), .pick 28 (.t 24) (.c (.b true)) (.t 27)])
 (.cond (.t 28) (.seq (.r [.bld 29 [.i .i64 0, .i .i64 0, .nil] [], .mv 4 (.c (.nil)), .st (.t 5) (.t 29) 3, .mv 6 (.c (.b false))])
 (.ret))
 (.skip)))
 (.seq (.r [.mv 30 (.t 7), .mv 31 (.t 1), .bsl 32 1 [(.t 31)], .app 33 (.t 30) (.t 32) 1, .mv 7 (.t 33)])
 (.seq (.r [.mv 10 (.c (.s []))])
 (.seq (.seq (.r [.mv 35 (.t 0), .mv 36 (.t 1), .call (some 37) 94 [((.t 35), .b 12), ((.t 36), .b 0)], .call (some 38) 149 [((.t 37), .b 0)], .mv 34 (.t 38), .ext 39 (.t 34) 0, .ext 40 (.t 34) 1, .ext 41 (.t 34) 2, .mv 1 (.t 39), .mv 10 (.t 40), .mv 9 (.t 41)])
 (.seq (.r [.mv 42 (.t 9), .un 43 .not (.t 42)])
 (.cond (.t 43) (.seq (.r [.bld 44 [.i .i64 0, .i .i64 0, .nil] [], .mv 4 (.c (.nil)), .st (.t 5) (.t 44) 3, .mv 6 (.c (.b false))])
 (.ret))
 (.skip))))
 (.r [.mv 45 (.t 10), .call (some 46) 150 [((.t 8), .m 0), ((.t 45), .b 0)]]))))))))))
 (.seq (.r [.call (some 48) 151 [((.t 8), .m 0)], .call (some 49) 152 [((.t 48), .b 0)], .mv 47 (.t 49), .ext 50 (.t 47) 0, .ext 51 (.t 47) 1, .alc 11 [.i .i64 0, .i .i64 0, .nil], .st (.t 11) (.t 50) 3, .mv 12 (.t 51)])
 (.seq (.r [.mv 52 (.t 7), .ld 53 (.t 11) 3 true, .mv 54 (.t 12), .mv 4 (.t 52), .st (.t 5) (.t 53) 3, .mv 6 (.t 54)])
 (.ret)))))))

def f_spec_l11Find : Fd := .ir 2 20 [.t 4]
 (.seq (.r [.mv 4 (.c (.i .i64 0))])
 (.seq (.seq (.r [.mv 5 (.c (.i .i64 0))])
 (.blk 0 (.loop [0, 1, 5] [] [] (.seq (.seq (.r [.mv 6 (.t 5), .mv 7 (.t 0), .len 8 false (.t 7), .bin 9 .lss (.t 6) (.t 8)])
 (.cond (.t 9) (.skip)
 (.ex 0)))
 (.seq (.blk 1 (.seq (.r [.mv 12 (.t 0), .mv 13 (.t 5), .ixa 14 (.t 12) (.t 13) 2, .fad 15 (.t 14) 0, .ld 16 (.t 15) 1 false, .mv 17 (.t 1), .bin 18 .eql (.t 16) (.t 17)])
 (.cond (.t 18) (.seq (.r [.mv 19 (.t 5), .mv 4 (.t 19)])
 (.ret))
 (.skip))))
 (.r [.mv 10 (.t 5), .bin 11 .add (.t 10) (.c (.i .i64 1)), .mv 5 (.t 11)]))))))
 (.seq (.r [.mv 4 (.c (.i .i64 (-1)))])
 (.ret))))

def f_spec_l09Read : Fd := .ir 2 41 [.t 4]
 (.seq (.r [.mv 4 (.c (.s []))])
 (.seq (.seq (.r [.mv 6 (.t 0), .nck 7 (.t 6), .fad 8 (.t 7) 1, .ld 9 (.t 8) 1 false, .len 10 false (.t 9), .bin 11 .sub (.t 10) (.c (.i .i64 1)), .mv 5 (.t 11)])
 (.blk 0 (.loop [0, 1, 5] [] [] (.seq (.seq (.r [.mv 12 (.t 5), .bin 13 .geq (.t 12) (.c (.i .i64 0))])
 (.cond (.t 13) (.skip)
 (.ex 0)))
 (.seq (.blk 1 (.seq (.r [.mv 16 (.t 0), .nck 17 (.t 16), .fad 18 (.t 17) 1, .ld 19 (.t 18) 1 false, .mv 20 (.t 5), .ixa 21 (.t 19) (.t 20) 2, .fad 22 (.t 21) 0, .ld 23 (.t 22) 1 false, .mv 24 (.t 1), .bin 25 .eql (.t 23) (.t 24)])
 (.cond (.t 25) (.seq (.r [.mv 26 (.t 0), .nck 27 (.t 26), .fad 28 (.t 27) 1, .ld 29 (.t 28) 1 false, .mv 30 (.t 5), .ixa 31 (.t 29) (.t 30) 2, .fad 32 (.t 31) 1, .ld 33 (.t 32) 1 false, .mv 4 (.t 33)])
 (.ret))
 (.skip))))
 (.r [.mv 14 (.t 5), .bin 15 .sub (.t 14) (.c (.i .i64 1)), .mv 5 (.t 15)]))))))
 (.seq (.r [.mv 34 (.t 0), .nck 35 (.t 34), .fad 36 (.t 35) 0, .ld 37 (.t 36) 1 false, .mv 38 (.t 1), .ixa 39 (.t 37) (.t 38) 1, .ld 40 (.t 39) 1 false, .mv 4 (.t 40)])
 (.ret))))

def f_spec_l14Used : Fd := .ir 2 14 [.t 4]
 (.seq (.r [.mv 4 (.c (.b false))])
 (.seq (.r [.mv 5 (.t 0), .mv 6 (.t 1), .call (some 7) 153 [((.t 5), .b 12), ((.t 6), .b 0), ((.c (.i .i64 1)), .b 0)], .mv 8 (.t 7), .g 8 true (some 9) (.mv 9 (.t 0)), .g 8 true (some 10) (.call (some 10) 71 [((.t 9), .b 12)]), .g 8 true (some 11) (.mv 11 (.t 1)), .g 8 true (some 12) (.call (some 12) 154 [((.t 10), .b 0), ((.t 11), .b 0)]), .pick 13 (.t 8) (.t 12) (.c (.b false)), .mv 4 (.t 13)])
 (.ret)))

def f_spec_l03Zeros : Fd := .ir 1 7 [.t 2]
 (.seq (.r [.mv 2 (.c (.s []))])
 (.seq (.r [.mv 3 (.t 0), .call (some 4) 155 [((.t 3), .b 0), ((.c (.i .i64 0)), .b 0)], .mks 5 1 (.i .u8 0) (.t 4) (.t 4), .cvs 6 (.t 5), .mv 2 (.t 6)])
 (.ret)))

def f_spec_DecodeHeader : Fd := .ir 1 74 [.c 2 3 true, .t 3]
 (.seq (.r [.alc 2 [.i .i64 0, .i .i64 0, .nil], .mv 3 (.c (.b false))])
 (.seq (.r [.mv 8 (.t 0), .bld 9 [.s [], .i .i64 0, .b false] [(0, 1, (.t 8))], .box 10 (.t 9), .mv 4 (.t 10)])
 (.seq (.r [.mv 11 (.t 4), .call (some 12) 103 [((.t 11), .m 3)], .bld 13 [.i .i64 0, .i .i64 0, .nil] [(0, 1, (.t 12))], .alc 5 [.i .i64 0, .i .i64 0, .nil], .st (.t 5) (.t 13) 3])
 (.seq (.r [.mv 14 (.t 4), .call (some 15) 103 [((.t 14), .m 3)], .fad 16 (.t 5) 1, .st (.t 16) (.t 15) 1])
 (.seq (.r [.fad 17 (.t 5) 1, .ck (.sb (.t 17) (.t 5)) (.ld 18 (.t 17) 1 false), .mv 19 (.t 4), .ck (.dj [.t 5]) (.call (some 20) 103 [((.t 19), .m 3)]), .bin 21 .mul (.c (.i .i64 256)) (.t 20), .bin 22 .add (.t 18) (.t 21), .fad 23 (.t 5) 1, .st (.t 23) (.t 22) 1])
 (.seq (.seq (.r [.mv 24 (.t 4), .call (some 25) 103 [((.t 24), .m 3)], .mv 6 (.t 25)])
 (.blk 0 (.loop [0, 2, 4, 5, 6] [] [(2, 2, 3)] (.seq (.seq (.r [.mv 26 (.t 6), .bin 27 .gtr (.t 26) (.c (.i .i64 0)), .mv 28 (.t 27), .g 28 true (some 29) (.mv 29 (.t 4)), .g 28 true (some 30) (.nck 30 (.t 29)), .g 28 true (some 31) (.fad 31 (.t 30) 2), .g 28 true (some 32) (.ld 32 (.t 31) 1 false), .g 28 true (some 33) (.un 33 .not (.t 32)), .pick 34 (.t 28) (.t 33) (.c (.b false))])
 (.cond (.t 34) (.skip)
 (.ex 0)))
 (.seq (.blk 1 (.seq (.r [.mv 37 (.t 4), .call (some 38) 103 [((.t 37), .m 3)], .bld 39 [.i .i64 0, .i .i64 0, .s []] [(0, 1, (.t 38))], .alc 7 [.i .i64 0, .i .i64 0, .s []], .st (.t 7) (.t 39) 3])
 (.seq (.r [.mv 40 (.t 4), .call (some 41) 103 [((.t 40), .m 3)], .fad 42 (.t 7) 1, .st (.t 42) (.t 41) 1])
 (.seq (.r [.mv 43 (.t 4), .mv 44 (.t 4), .call (some 45) 103 [((.t 44), .m 3)], .call (some 46) 104 [((.t 43), .m 3), ((.t 45), .b 0)], .fad 47 (.t 7) 2, .st (.t 47) (.t 46) 1])
 (.r [.fad 48 (.t 5) 2, .ld 49 (.t 48) 1 false, .ld 50 (.t 7) 3 true, .bsl 51 3 [(.t 50)], .app 52 (.t 49) (.t 51) 3, .fad 53 (.t 5) 2, .st (.t 53) (.t 52) 1])))))
 (.r [.mv 35 (.t 6), .bin 36 .sub (.t 35) (.c (.i .i64 1)), .mv 6 (.t 36)]))))))
 (.seq (.seq (.r [.mv 54 (.t 4), .nck 55 (.t 54), .fad 56 (.t 55) 2, .ld 57 (.t 56) 1 false, .mv 58 (.t 57), .g 58 false (some 59) (.mv 59 (.t 4)), .g 58 false (some 60) (.nck 60 (.t 59)), .g 58 false (some 61) (.fad 61 (.t 60) 1), .g 58 false (some 62) (.ld 62 (.t 61) 1 false), .g 58 false (some 63) (.mv 63 (.t 0)), .g 58 false (some 64) (.len 64 true (.t 63)), .g 58 false (some 65) (.bin 65 .neq (.t 62) (.t 64)), .pick 66 (.t 58) (.c (.b true)) (.t 65), .mv 67 (.t 66), .g 67 false (some 68) (.ld 68 (.t 5) 3 true), .g 67 false (some 69) (.call (some 69) 156 [((.t 68), .b 0)]), .g 67 false (some 70) (.un 70 .not (.t 69)), .pick 71 (.t 67) (.c (.b true)) (.t 70)])
 (.cond (.t 71) (.seq (.r [.bld 72 [.i .i64 0, .i .i64 0, .nil] [], .st (.t 2) (.t 72) 3, .mv 3 (.c (.b false))])
 (.ret))
 (.skip)))
 (.seq (.r [.ld 73 (.t 5) 3 true, .st (.t 2) (.t 73) 3, .mv 3 (.c (.b true))])
 (.ret)))))))))

def f_spec_ValidPath : Fd := .ir 1 11 [.t 2]
 (.seq (.r [.mv 2 (.c (.b false))])
 (.seq (.r [.mv 6 (.t 0), .call (some 7) 15 [((.t 6), .b 0)], .mv 5 (.t 7), .ext 8 (.t 5) 0, .ext 9 (.t 5) 1, .mv 3 (.t 8), .mv 4 (.t 9)])
 (.seq (.r [.mv 10 (.t 4), .mv 2 (.t 10)])
 (.ret))))

def f_slices_IndexFunc_impl_Put_impl_Put : Fd := .ir 2 19 [.t 4]
 (.seq (.r [.mv 4 (.c (.i .i64 0))])
 (.seq (.seq (.r [.mv 6 (.t 0), .len 7 false (.t 6), .mv 8 (.c (.i .i64 0))])
 (.blk 0 (.loop [0, 1, 7, 8] [] [] (.seq (.r [.bin 9 .lss (.t 8) (.t 7)])
 (.seq (.cond (.t 9) (.skip)
 (.ex 0))
 (.seq (.blk 1 (.seq (.r [.mv 10 (.t 8), .mv 5 (.t 10)])
 (.seq (.r [.mv 11 (.t 1), .mv 12 (.t 0), .mv 13 (.t 5), .ixa 14 (.t 12) (.t 13) 2, .ld 15 (.t 14) 2 true, .callv (some 16) (.t 11) [((.t 15), .b 0)]])
 (.cond (.t 16) (.seq (.r [.mv 17 (.t 5), .mv 4 (.t 17)])
 (.ret))
 (.skip)))))
 (.r [.bin 18 .add (.t 8) (.c (.i .i64 1)), .mv 8 (.t 18)])))))))
 (.seq (.r [.mv 4 (.c (.i .i64 (-1)))])
 (.ret))))

def f_internal_stringslite_HasPrefix : Fd := .ir 2 18 [.t 4]
 (.seq (.r [.mv 4 (.c (.b false))])
 (.seq (.r [.mv 5 (.t 0), .len 6 true (.t 5), .mv 7 (.t 1), .len 8 true (.t 7), .bin 9 .geq (.t 6) (.t 8), .mv 10 (.t 9), .g 10 true (some 11) (.mv 11 (.t 0)), .g 10 true (some 12) (.mv 12 (.t 1)), .g 10 true (some 13) (.len 13 true (.t 12)), .g 10 true (some 14) (.slc 14 (.t 11) none (some (.t 13)) 0), .g 10 true (some 15) (.mv 15 (.t 1)), .g 10 true (some 16) (.bin 16 .eql (.t 14) (.t 15)), .pick 17 (.t 10) (.t 16) (.c (.b false)), .mv 4 (.t 17)])
 (.ret)))

def f_impl_Header_messageAt : Fd := .ir 2 9 [.t 4]
 (.seq (.r [.box 2 (.t 0), .box 3 (.t 1), .mv 4 (.c (.i .i64 0))])
 (.seq (.r [.fad 5 (.t 2) 2, .ld 6 (.t 5) 1 false, .mkf 7 157 [(.t 3)], .call (some 8) 158 [((.t 6), .b 3), ((.t 7), .b 0)], .mv 4 (.t 8)])
 (.ret)))

def f_slices_ContainsFunc_impl_Message_impl_Message : Fd := .ir 2 9 [.t 4]
 (.seq (.r [.mv 4 (.c (.b false))])
 (.seq (.r [.mv 5 (.t 0), .mv 6 (.t 1), .call (some 7) 158 [((.t 5), .b 3), ((.t 6), .b 0)], .bin 8 .geq (.t 7) (.c (.i .i64 0)), .mv 4 (.t 8)])
 (.ret)))

def f_impl_Header_only_s1 : Fd := .ir 2 8 [.t 3]
 (.seq (.r [.box 2 (.t 0), .mv 3 (.c (.b false))])
 (.seq (.r [.fad 4 (.t 2) 0, .ld 5 (.t 4) 1 false, .ld 6 (.t 1) 1 false, .bin 7 .eql (.t 5) (.t 6), .mv 3 (.t 7)])
 (.ret)))

def f_p_impl_decoder_byte : Fd := .ir 1 5 [.t 2]
 (.seq (.r [.mv 2 (.c (.i .i64 0))])
 (.seq (.r [.mv 3 (.t 0), .call (some 4) 159 [((.t 3), .m 2), ((.c (.i .i64 1)), .b 0)], .mv 2 (.t 4)])
 (.ret)))

def f_p_impl_decoder_name : Fd := .ir 1 7 [.t 2]
 (.seq (.r [.mv 2 (.c (.s []))])
 (.seq (.r [.mv 3 (.t 0), .mv 4 (.t 0), .call (some 5) 139 [((.t 4), .m 2)], .call (some 6) 160 [((.t 3), .m 2), ((.t 5), .b 0)], .mv 2 (.t 6)])
 (.ret)))

def f_impl_ValidHeap : Fd := .ir 1 28 [.t 2]
 (.seq (.r [.box 1 (.t 0), .mv 2 (.c (.b false))])
 (.seq (.r [.fad 4 (.t 1) 0, .ld 5 (.t 4) 1 false, .len 6 false (.t 5), .mv 3 (.t 6)])
 (.seq (.r [.mv 7 (.t 3), .bin 8 .leq (.t 7) (.c (.i .i64 30)), .mv 9 (.t 8), .g 9 true (some 10) (.mv 10 (.t 3)), .g 9 true (some 11) (.bin 11 .eql (.t 10) (.c (.i .i64 0))), .g 9 true (some 12) (.mv 12 (.t 11)), .g 12 false (some 13) (.fad 13 (.t 1) 0), .g 12 false (some 14) (.ld 14 (.t 13) 1 false), .g 12 false (some 15) (.mv 15 (.t 3)), .g 12 false (some 16) (.bin 16 .sub (.t 15) (.c (.i .i64 1))), .g 12 false (some 17) (.ixa 17 (.t 14) (.t 16) 1), .g 12 false (some 18) (.ld 18 (.t 17) 1 false), .g 12 false (some 19) (.bin 19 .neq (.t 18) (.c (.s []))), .g 9 true (some 20) (.pick 20 (.t 12) (.c (.b true)) (.t 19)), .pick 21 (.t 9) (.t 20) (.c (.b false)), .mv 22 (.t 21), .g 22 true (some 23) (.fad 23 (.t 1) 0), .g 22 true (some 24) (.ld 24 (.t 23) 1 false), .g 22 true (some 25) (.call (some 25) 86 [((.t 24), .b 1), ((.c (.fn 161 [])), .b 0)]), .g 22 true (some 26) (.un 26 .not (.t 25)), .pick 27 (.t 22) (.t 26) (.c (.b false)), .mv 2 (.t 27)])
 (.ret))))

def f_p_impl_decoder_link : Fd := .ir 2 42 [.c 4 3 true]
 (.seq (.r [.box 3 (.t 1), .alc 4 [.s [], .i .i64 0, .s []]])
 (.seq (.r [.mv 8 (.t 0), .call (some 9) 139 [((.t 8), .m 2)], .mv 10 (.t 0), .call (some 11) 139 [((.t 10), .m 2)], .mv 5 (.t 9), .mv 6 (.t 11)])
 (.seq (.seq (.r [.mv 12 (.t 0), .nck 13 (.t 12), .fad 14 (.t 13) 1, .ld 15 (.t 14) 1 false, .mv 16 (.t 15), .g 16 false (some 17) (.ld 17 (.t 3) 1 true), .g 16 false (some 18) (.mv 18 (.t 5)), .g 16 false (some 19) (.call (some 19) 162 [((.t 17), .b 0), ((.t 18), .b 0)]), .g 16 false (some 20) (.un 20 .not (.t 19)), .pick 21 (.t 16) (.c (.b true)) (.t 20)])
 (.cond (.t 21) (.seq (.r [.mv 22 (.t 0), .nck 23 (.t 22), .fad 24 (.t 23) 1, .st (.t 24) (.c (.b true)) 1])
 (.seq (.r [.bld 25 [.s [], .i .i64 0, .s []] [], .st (.t 4) (.t 25) 3])
 (.ret)))
 (.skip)))
 (.seq (.r [.fad 26 (.t 3) 0, .ld 27 (.t 26) 1 false, .mv 28 (.t 5), .ixa 29 (.t 27) (.t 28) 1, .ld 30 (.t 29) 1 false, .bld 31 [.s [], .i .i64 0, .s []] [(0, 1, (.t 30))], .alc 7 [.s [], .i .i64 0, .s []], .st (.t 7) (.t 31) 3])
 (.seq (.seq (.r [.mv 32 (.t 6), .bin 33 .eql (.t 32) (.c (.i .i64 0))])
 (.cond (.t 33) (.r [.mv 34 (.t 0), .call (some 35) 159 [((.t 34), .m 2), ((.c (.i .i64 2)), .b 0)], .fad 36 (.t 7) 1, .st (.t 36) (.t 35) 1])
 (.r [.mv 37 (.t 0), .mv 38 (.t 6), .call (some 39) 160 [((.t 37), .m 2), ((.t 38), .b 0)], .fad 40 (.t 7) 2, .st (.t 40) (.t 39) 1])))
 (.seq (.r [.ld 41 (.t 7) 3 true, .st (.t 4) (.t 41) 3])
 (.ret)))))))

def f_impl_ValidLinks : Fd := .ir 1 34 [.t 2]
 (.seq (.r [.mv 2 (.c (.b false))])
 (.seq (.seq (.r [.mv 5 (.t 0), .len 6 false (.t 5), .mv 7 (.c (.i .i64 0))])
 (.blk 0 (.loop [0, 5, 6, 7] [] [] (.seq (.r [.bin 8 .lss (.t 7) (.t 6)])
 (.seq (.cond (.t 8) (.skip)
 (.ex 0))
 (.seq (.blk 1 (.seq (.r [.mv 9 (.t 7), .ixa 10 (.t 5) (.t 7) 3, .ld 11 (.t 10) 3 true, .alc 4 [.s [], .i .i64 0, .s []], .mv 3 (.t 9), .st (.t 4) (.t 11) 3])
 (.seq (.r [.ld 12 (.t 4) 3 true, .call (some 13) 163 [((.t 12), .b 0)], .un 14 .not (.t 13), .mv 15 (.t 14), .g 15 false (some 16) (.mv 16 (.t 3)), .g 15 false (some 17) (.bin 17 .gtr (.t 16) (.c (.i .i64 0))), .g 15 false (some 18) (.mv 18 (.t 17)), .g 18 true (some 19) (.fad 19 (.t 4) 0), .g 18 true (some 20) (.ld 20 (.t 19) 1 false), .g 18 true (some 21) (.mv 21 (.t 0)), .g 18 true (some 22) (.mv 22 (.t 3)), .g 18 true (some 23) (.bin 23 .sub (.t 22) (.c (.i .i64 1))), .g 18 true (some 24) (.ixa 24 (.t 21) (.t 23) 3), .g 18 true (some 25) (.fad 25 (.t 24) 0), .g 18 true (some 26) (.ld 26 (.t 25) 1 false), .g 18 true (some 27) (.bin 27 .leq (.t 20) (.t 26)), .g 15 false (some 28) (.pick 28 (.t 18) (.t 27) (.c (.b false))), .pick 29 (.t 15) (.c (.b true)) (.t 28)])
 (.cond (.t 29) (.seq (.r [.mv 2 (.c (.b false))])
 (.ret))
 (.skip)))))
 (.r [.bin 30 .add (.t 7) (.c (.i .i64 1)), .mv 7 (.t 30)])))))))
 (.seq (.r [.mv 31 (.t 0), .len 32 false (.t 31), .bin 33 .leq (.t 32) (.c (.i .i64 12)), .mv 2 (.t 33)])
 (.ret))))

def f_slices_BinarySearchFunc_impl_Page_impl_Page_int64 : Fd := .ir 3 49 [.t 6, .t 7]
 (.seq (.r [.mv 6 (.c (.i .i64 0)), .mv 7 (.c (.b false))])
 (.seq (.r [.mv 12 (.t 0), .len 13 false (.t 12), .mv 8 (.t 13)])
 (.seq (.r [.mv 14 (.t 8), .mv 9 (.c (.i .i64 0)), .mv 10 (.t 14)])
 (.seq (.blk 0 (.loop [0, 1, 2, 8, 9, 10] [] [] (.seq (.seq (.r [.mv 15 (.t 9), .mv 16 (.t 10), .bin 17 .lss (.t 15) (.t 16)])
 (.cond (.t 17) (.skip)
 (.ex 0)))
 (.blk 1 (.seq (.r [.mv 18 (.t 9), .mv 19 (.t 10), .bin 20 .add (.t 18) (.t 19), .cvi 21 .u64 (.t 20), .bin 22 .shr (.t 21) (.c (.i .u64 1)), .cvi 23 .i64 (.t 22), .mv 11 (.t 23)])
 (.seq (.r [.mv 24 (.t 2), .mv 25 (.t 0), .mv 26 (.t 11), .ixa 27 (.t 25) (.t 26) 2, .ld 28 (.t 27) 2 true, .mv 29 (.t 1), .callv (some 30) (.t 24) [((.t 28), .b 0), ((.t 29), .b 0)], .bin 31 .lss (.t 30) (.c (.i .i64 0))])
 (.cond (.t 31) (.r [.mv 32 (.t 11), .bin 33 .add (.t 32) (.c (.i .i64 1)), .mv 9 (.t 33)])
 (.r [.mv 34 (.t 11), .mv 10 (.t 34)]))))))))
 (.seq (.r [.mv 35 (.t 9), .mv 36 (.t 9), .mv 37 (.t 8), .bin 38 .lss (.t 36) (.t 37), .mv 39 (.t 38), .g 39 true (some 40) (.mv 40 (.t 2)), .g 39 true (some 41) (.mv 41 (.t 0)), .g 39 true (some 42) (.mv 42 (.t 9)), .g 39 true (some 43) (.ixa 43 (.t 41) (.t 42) 2), .g 39 true (some 44) (.ld 44 (.t 43) 2 true), .g 39 true (some 45) (.mv 45 (.t 1)), .g 39 true (some 46) (.callv (some 46) (.t 40) [((.t 44), .b 0), ((.t 45), .b 0)]), .g 39 true (some 47) (.bin 47 .eql (.t 46) (.c (.i .i64 0))), .pick 48 (.t 39) (.t 47) (.c (.b false)), .mv 6 (.t 35), .mv 7 (.t 48)])
 (.ret))))))

def f_impl_pageAt_s1 : Fd := .ir 2 9 [.t 4]
 (.seq (.r [.box 2 (.t 0), .mv 4 (.c (.i .i64 0))])
 (.seq (.r [.fad 5 (.t 2) 0, .ld 6 (.t 5) 1 false, .mv 7 (.t 1), .call (some 8) 164 [((.t 6), .b 0), ((.t 7), .b 0)], .mv 4 (.t 8)])
 (.ret)))

def f_cmp_Compare_int64 : Fd := .ir 2 20 [.t 4]
 (.seq (.r [.mv 4 (.c (.i .i64 0))])
 (.seq (.r [.mv 7 (.t 0), .call (some 8) 165 [((.t 7), .b 0)], .mv 5 (.t 8)])
 (.seq (.r [.mv 9 (.t 1), .call (some 10) 165 [((.t 9), .b 0)], .mv 6 (.t 10)])
 (.seq (.seq (.r [.mv 11 (.t 5)])
 (.cond (.t 11) (.seq (.seq (.r [.mv 12 (.t 6)])
 (.cond (.t 12) (.seq (.r [.mv 4 (.c (.i .i64 0))])
 (.ret))
 (.skip)))
 (.seq (.r [.mv 4 (.c (.i .i64 (-1)))])
 (.ret)))
 (.skip)))
 (.seq (.seq (.r [.mv 13 (.t 6)])
 (.cond (.t 13) (.seq (.r [.mv 4 (.c (.i .i64 1))])
 (.ret))
 (.skip)))
 (.seq (.seq (.r [.mv 14 (.t 0), .mv 15 (.t 1), .bin 16 .lss (.t 14) (.t 15)])
 (.cond (.t 16) (.seq (.r [.mv 4 (.c (.i .i64 (-1)))])
 (.ret))
 (.skip)))
 (.seq (.seq (.r [.mv 17 (.t 0), .mv 18 (.t 1), .bin 19 .gtr (.t 17) (.t 18)])
 (.cond (.t 19) (.seq (.r [.mv 4 (.c (.i .i64 1))])
 (.ret))
 (.skip)))
 (.seq (.r [.mv 4 (.c (.i .i64 0))])
 (.ret)))))))))

def f_p_impl_Pager_allocated : Fd := .ir 2 23 [.t 4]
 (.seq (.r [.mv 4 (.c (.b false))])
 (.seq (.r [.mv 5 (.t 0), .mv 6 (.t 1), .call (some 7) 166 [((.t 5), .b 12), ((.t 6), .b 0), ((.c (.i .i64 1)), .b 0)], .mv 8 (.t 7), .g 8 true (some 9) (.mv 9 (.t 0)), .g 8 true (some 10) (.mv 10 (.t 0)), .g 8 true (some 11) (.call (some 11) 93 [((.t 10), .b 12)]), .g 8 true (some 12) (.call (some 12) 94 [((.t 9), .b 12), ((.t 11), .b 0)]), .g 8 true (some 13) (.mv 13 (.t 1)), .g 8 true (some 14) (.bin 14 .quo (.t 13) (.c (.i .i64 8))), .g 8 true (some 15) (.bin 15 .add (.c (.i .i64 4)) (.t 14)), .g 8 true (some 16) (.ixs 16 (.t 12) (.t 15)), .g 8 true (some 17) (.mv 17 (.t 1)), .g 8 true (some 18) (.bin 18 .rem (.t 17) (.c (.i .i64 8))), .g 8 true (some 19) (.bin 19 .shr (.t 16) (.t 18)), .g 8 true (some 20) (.bin 20 .and (.t 19) (.c (.i .u8 1))), .g 8 true (some 21) (.bin 21 .eql (.t 20) (.c (.i .u8 1))), .pick 22 (.t 8) (.t 21) (.c (.b false)), .mv 4 (.t 22)])
 (.ret)))

def f_impl_chainBytes : Fd := .ir 1 38 [.t 2, .t 3, .t 4]
 (.seq (.r [.mv 2 (.c (.i .i64 0)), .mv 3 (.c (.s [])), .mv 4 (.c (.b false))])
 (.seq (.r [.mv 9 (.t 0), .bld 10 [.s [], .b false] [(0, 1, (.t 9))], .box 11 (.t 10), .mv 5 (.t 11)])
 (.seq (.r [.mv 12 (.t 5), .call (some 13) 159 [((.t 12), .m 2), ((.c (.i .i64 2)), .b 0)], .mv 14 (.t 5), .call (some 15) 159 [((.t 14), .m 2), ((.c (.i .i64 2)), .b 0)], .mv 6 (.t 13), .mv 7 (.t 15)])
 (.seq (.seq (.r [.mv 16 (.t 7), .call (some 17) 50 [((.t 16), .b 0), ((.c (.i .i64 1)), .b 0), ((.c (.i .i64 60)), .b 0)], .un 18 .not (.t 17)])
 (.cond (.t 18) (.seq (.r [.mv 2 (.c (.i .i64 0)), .mv 3 (.c (.s [])), .mv 4 (.c (.b false))])
 (.ret))
 (.skip)))
 (.seq (.r [.mv 19 (.t 5), .mv 20 (.t 7), .call (some 21) 160 [((.t 19), .m 2), ((.t 20), .b 0)], .mv 8 (.t 21)])
 (.seq (.r [.mv 22 (.t 6), .mv 23 (.t 8), .mv 24 (.t 5), .nck 25 (.t 24), .fad 26 (.t 25) 0, .ld 27 (.t 26) 1 false, .call (some 28) 167 [((.t 27), .b 0)], .bin 29 .eql (.t 28) (.c (.s [])), .mv 30 (.t 29), .g 30 true (some 31) (.mv 31 (.t 7)), .g 30 true (some 32) (.bin 32 .eql (.t 31) (.c (.i .i64 60))), .g 30 true (some 33) (.mv 33 (.t 32)), .g 33 false (some 34) (.mv 34 (.t 6)), .g 33 false (some 35) (.bin 35 .eql (.t 34) (.c (.i .i64 0))), .g 30 true (some 36) (.pick 36 (.t 33) (.c (.b true)) (.t 35)), .pick 37 (.t 30) (.t 36) (.c (.b false)), .mv 2 (.t 22), .mv 3 (.t 23), .mv 4 (.t 37)])
 (.ret)))))))

def f_p_strings_Builder_WriteString : Fd := .ir 2 19 [.t 4, .t 5]
 (.seq (.r [.mv 4 (.c (.i .i64 0)), .mv 5 (.c (.no))])
 (.seq (.r [.mv 6 (.t 0), .call (some 7) 178 [((.t 6), .m 2)]])
 (.seq (.r [.mv 8 (.t 0), .mv 9 (.t 0), .nck 10 (.t 9), .fad 11 (.t 10) 1, .ld 12 (.t 11) 1 false, .mv 13 (.t 1), .apb 14 (.t 12) (.t 13), .nck 15 (.t 8), .fad 16 (.t 15) 1, .st (.t 16) (.t 14) 1])
 (.seq (.r [.mv 17 (.t 1), .len 18 true (.t 17), .mv 4 (.t 18), .mv 5 (.c (.no))])
 (.ret)))))

def f_impl_DecodeHeader : Fd := .ir 1 60 [.c 2 3 true, .t 3]
 (.seq (.r [.alc 2 [.i .i64 0, .i .i64 0, .nil], .mv 3 (.c (.b false))])
 (.seq (.r [.mv 7 (.t 0), .bld 8 [.s [], .b false] [(0, 1, (.t 7))], .box 9 (.t 8), .mv 4 (.t 9)])
 (.seq (.r [.mv 10 (.t 4), .call (some 11) 139 [((.t 10), .m 2)], .mv 12 (.t 4), .call (some 13) 159 [((.t 12), .m 2), ((.c (.i .i64 2)), .b 0)], .bld 14 [.i .i64 0, .i .i64 0, .nil] [(0, 1, (.t 11)), (1, 1, (.t 13))], .alc 5 [.i .i64 0, .i .i64 0, .nil], .st (.t 5) (.t 14) 3])
 (.seq (.seq (.r [.mv 15 (.t 4), .call (some 16) 139 [((.t 15), .m 2)], .mv 6 (.t 16)])
 (.blk 0 (.loop [2, 4, 5, 6] [] [(2, 2, 3)] (.seq (.seq (.r [.mv 17 (.t 6), .bin 18 .gtr (.t 17) (.c (.i .i64 0)), .mv 19 (.t 18), .g 19 true (some 20) (.mv 20 (.t 4)), .g 19 true (some 21) (.nck 21 (.t 20)), .g 19 true (some 22) (.fad 22 (.t 21) 1), .g 19 true (some 23) (.ld 23 (.t 22) 1 false), .g 19 true (some 24) (.un 24 .not (.t 23)), .pick 25 (.t 19) (.t 24) (.c (.b false))])
 (.cond (.t 25) (.skip)
 (.ex 0)))
 (.seq (.blk 1 (.r [.fad 28 (.t 5) 2, .ck (.sb (.t 28) (.t 5)) (.ld 29 (.t 28) 1 false), .mv 30 (.t 4), .ck (.dj [.t 5]) (.call (some 31) 139 [((.t 30), .m 2)]), .mv 32 (.t 4), .ck (.dj [.t 5]) (.call (some 33) 139 [((.t 32), .m 2)]), .mv 34 (.t 4), .mv 35 (.t 4), .ck (.dj [.t 5]) (.call (some 36) 139 [((.t 35), .m 2)]), .ck (.dj [.t 5]) (.call (some 37) 160 [((.t 34), .m 2), ((.t 36), .b 0)]), .bld 38 [.i .i64 0, .i .i64 0, .s []] [(0, 1, (.t 31)), (1, 1, (.t 33)), (2, 1, (.t 37))], .bsl 39 3 [(.t 38)], .app 40 (.t 29) (.t 39) 3, .fad 41 (.t 5) 2, .st (.t 41) (.t 40) 1]))
 (.r [.mv 26 (.t 6), .bin 27 .sub (.t 26) (.c (.i .i64 1)), .mv 6 (.t 27)]))))))
 (.seq (.seq (.r [.mv 42 (.t 4), .nck 43 (.t 42), .fad 44 (.t 43) 1, .ld 45 (.t 44) 1 false, .mv 46 (.t 45), .g 46 false (some 47) (.mv 47 (.t 4)), .g 46 false (some 48) (.nck 48 (.t 47)), .g 46 false (some 49) (.fad 49 (.t 48) 0), .g 46 false (some 50) (.ld 50 (.t 49) 1 false), .g 46 false (some 51) (.bin 51 .neq (.t 50) (.c (.s []))), .pick 52 (.t 46) (.c (.b true)) (.t 51), .mv 53 (.t 52), .g 53 false (some 54) (.ld 54 (.t 5) 3 true), .g 53 false (some 55) (.call (some 55) 168 [((.t 54), .b 0)]), .g 53 false (some 56) (.un 56 .not (.t 55)), .pick 57 (.t 53) (.c (.b true)) (.t 56)])
 (.cond (.t 57) (.seq (.r [.bld 58 [.i .i64 0, .i .i64 0, .nil] [], .st (.t 2) (.t 58) 3, .mv 3 (.c (.b false))])
 (.ret))
 (.skip)))
 (.seq (.r [.ld 59 (.t 5) 3 true, .st (.t 2) (.t 59) 3, .mv 3 (.c (.b true))])
 (.ret)))))))

def f_spec_l13Data : Fd := .ir 3 32 [.t 6]
 (.seq (.r [.mv 6 (.c (.b false))])
 (.seq (.r [.mv 7 (.t 2), .call (some 8) 39 [((.t 7), .b 0), ((.c (.i .i64 1)), .b 0), ((.c (.i .i64 256)), .b 0)], .mv 9 (.t 8), .g 9 true (some 10) (.mv 10 (.t 1)), .g 9 true (some 11) (.mv 11 (.t 0)), .g 9 true (some 12) (.call (some 12) 169 [((.t 11), .b 12)]), .g 9 true (some 13) (.mv 13 (.t 0)), .g 9 true (some 14) (.nck 14 (.t 13)), .g 9 true (some 15) (.fad 15 (.t 14) 4), .g 9 true (some 16) (.fad 16 (.t 15) 0), .g 9 true (some 17) (.ck (.np (.t 16)) (.ld 17 (.t 16) 1 false)), .g 9 true (some 18) (.bin 18 .sub (.t 17) (.c (.i .i64 1))), .g 9 true (some 19) (.call (some 19) 39 [((.t 10), .b 0), ((.t 12), .b 0), ((.t 18), .b 0)]), .pick 20 (.t 9) (.t 19) (.c (.b false)), .mv 21 (.t 20), .g 21 true (some 22) (.mv 22 (.t 1)), .g 21 true (some 23) (.mv 23 (.t 2)), .g 21 true (some 24) (.bin 24 .add (.t 22) (.t 23)), .g 21 true (some 25) (.mv 25 (.t 0)), .g 21 true (some 26) (.nck 26 (.t 25)), .g 21 true (some 27) (.fad 27 (.t 26) 4), .g 21 true (some 28) (.fad 28 (.t 27) 0), .g 21 true (some 29) (.ld 29 (.t 28) 1 false), .g 21 true (some 30) (.bin 30 .leq (.t 24) (.t 29)), .pick 31 (.t 21) (.t 30) (.c (.b false)), .mv 6 (.t 31)])
 (.ret)))

def f_spec_l13Bit : Fd := .ir 2 16 [.t 4]
 (.seq (.r [.mv 4 (.c (.b false))])
 (.seq (.r [.mv 5 (.t 0), .mv 6 (.t 1), .bin 7 .quo (.t 6) (.c (.i .i64 8)), .bin 8 .add (.c (.i .i64 4)) (.t 7), .ixs 9 (.t 5) (.t 8), .mv 10 (.t 1), .bin 11 .rem (.t 10) (.c (.i .i64 8)), .cvi 12 .u64 (.t 11), .bin 13 .shr (.t 9) (.t 12), .bin 14 .and (.t 13) (.c (.i .u8 1)), .bin 15 .eql (.t 14) (.c (.i .u8 1)), .mv 4 (.t 15)])
 (.ret)))

def f_spec_l00Max : Fd := .ir 2 10 [.t 4]
 (.seq (.r [.mv 4 (.c (.i .i64 0))])
 (.seq (.seq (.r [.mv 5 (.t 0), .mv 6 (.t 1), .bin 7 .gtr (.t 5) (.t 6)])
 (.cond (.t 7) (.seq (.r [.mv 8 (.t 0), .mv 4 (.t 8)])
 (.ret))
 (.skip)))
 (.seq (.r [.mv 9 (.t 1), .mv 4 (.t 9)])
 (.ret))))

def f_spec_l14Ok : Fd := .ir 1 49 [.t 2]
 (.seq (.r [.box 1 (.t 0), .mv 2 (.c (.b false))])
 (.seq (.seq (.r [.fad 5 (.t 1) 0, .ld 6 (.t 5) 1 false, .call (some 7) 39 [((.t 6), .b 0), ((.c (.i .i64 1)), .b 0), ((.c (.i .i64 3)), .b 0)], .un 8 .not (.t 7), .mv 9 (.t 8), .g 9 false (some 10) (.fad 10 (.t 1) 1), .g 9 false (some 11) (.ld 11 (.t 10) 1 false), .g 9 false (some 12) (.call (some 12) 39 [((.t 11), .b 0), ((.c (.i .i64 0)), .b 0), ((.c (.i .i64 1000)), .b 0)]), .g 9 false (some 13) (.un 13 .not (.t 12)), .pick 14 (.t 9) (.c (.b true)) (.t 13), .mv 15 (.t 14), .g 15 false (some 16) (.fad 16 (.t 1) 2), .g 15 false (some 17) (.ld 17 (.t 16) 1 false), .g 15 false (some 18) (.len 18 false (.t 17)), .g 15 false (some 19) (.bin 19 .gtr (.t 18) (.c (.i .i64 24))), .pick 20 (.t 15) (.c (.b true)) (.t 19)])
 (.cond (.t 20) (.seq (.r [.mv 2 (.c (.b false))])
 (.ret))
 (.skip)))
 (.seq (.seq (.r [.mv 3 (.c (.i .i64 0))])
 (.blk 0 (.loop [1, 3] [] [] (.seq (.seq (.r [.mv 21 (.t 3), .fad 22 (.t 1) 2, .ld 23 (.t 22) 1 false, .len 24 false (.t 23), .bin 25 .lss (.t 21) (.t 24)])
 (.cond (.t 25) (.skip)
 (.ex 0)))
 (.seq (.blk 1 (.seq (.r [.fad 28 (.t 1) 2, .ld 29 (.t 28) 1 false, .mv 30 (.t 3), .ixa 31 (.t 29) (.t 30) 3, .ld 32 (.t 31) 3 true, .alc 4 [.i .i64 0, .i .i64 0, .s []], .st (.t 4) (.t 32) 3])
 (.seq (.r [.fad 33 (.t 4) 0, .ld 34 (.t 33) 1 false, .call (some 35) 39 [((.t 34), .b 0), ((.c (.i .i64 1)), .b 0), ((.c (.i .i64 9)), .b 0)], .un 36 .not (.t 35), .mv 37 (.t 36), .g 37 false (some 38) (.fad 38 (.t 4) 1), .g 37 false (some 39) (.ld 39 (.t 38) 1 false), .g 37 false (some 40) (.call (some 40) 39 [((.t 39), .b 0), ((.c (.i .i64 0)), .b 0), ((.c (.i .i64 255)), .b 0)]), .g 37 false (some 41) (.un 41 .not (.t 40)), .pick 42 (.t 37) (.c (.b true)) (.t 41), .mv 43 (.t 42), .g 43 false (some 44) (.fad 44 (.t 4) 2), .g 43 false (some 45) (.ld 45 (.t 44) 1 false), .g 43 false (some 46) (.len 46 true (.t 45)), .g 43 false (some 47) (.bin 47 .gtr (.t 46) (.c (.i .i64 200))), .pick 48 (.t 43) (.c (.b true)) (.t 47)])
 (.cond (.t 48) (.seq (.r [.mv 2 (.c (.b false))])
 (.ret))
 (.skip)))))
 (.r [.mv 26 (.t 3), .bin 27 .add (.t 26) (.c (.i .i64 1)), .mv 3 (.t 27)]))))))
 (.seq (.r [.mv 2 (.c (.b true))])
 (.ret)))))

def f_slices_IndexFunc_impl_Message_impl_Message : Fd := .ir 2 19 [.t 4]
 (.seq (.r [.mv 4 (.c (.i .i64 0))])
 (.seq (.seq (.r [.mv 6 (.t 0), .len 7 false (.t 6), .mv 8 (.c (.i .i64 0))])
 (.blk 0 (.loop [0, 1, 7, 8] [] [] (.seq (.r [.bin 9 .lss (.t 8) (.t 7)])
 (.seq (.cond (.t 9) (.skip)
 (.ex 0))
 (.seq (.blk 1 (.seq (.r [.mv 10 (.t 8), .mv 5 (.t 10)])
 (.seq (.r [.mv 11 (.t 1), .mv 12 (.t 0), .mv 13 (.t 5), .ixa 14 (.t 12) (.t 13) 3, .ld 15 (.t 14) 3 true, .callv (some 16) (.t 11) [((.t 15), .b 0)]])
 (.cond (.t 16) (.seq (.r [.mv 17 (.t 5), .mv 4 (.t 17)])
 (.ret))
 (.skip)))))
 (.r [.bin 18 .add (.t 8) (.c (.i .i64 1)), .mv 8 (.t 18)])))))))
 (.seq (.r [.mv 4 (.c (.i .i64 (-1)))])
 (.ret))))

def f_impl_Header_messageAt_s1 : Fd := .ir 2 8 [.t 3]
 (.seq (.r [.box 2 (.t 0), .mv 3 (.c (.b false))])
 (.seq (.r [.fad 4 (.t 2) 0, .ld 5 (.t 4) 1 false, .ld 6 (.t 1) 1 false, .bin 7 .eql (.t 5) (.t 6), .mv 3 (.t 7)])
 (.ret)))

def f_p_impl_decoder_number : Fd := .ir 2 10 [.t 4]
 (.seq (.r [.mv 4 (.c (.i .i64 0))])
 (.seq (.r [.mv 5 (.t 0), .mv 6 (.t 1), .call (some 7) 160 [((.t 5), .m 2), ((.t 6), .b 0)], .call (some 8) 95 [((.t 7), .b 0)], .cvi 9 .i64 (.t 8), .mv 4 (.t 9)])
 (.ret)))

def f_p_impl_decoder_take : Fd := .ir 2 31 [.t 4]
 (.seq (.r [.mv 4 (.c (.s []))])
 (.seq (.r [.mv 8 (.t 0), .nck 9 (.t 8), .fad 10 (.t 9) 0, .ld 11 (.t 10) 1 false, .mv 12 (.t 1), .call (some 13) 170 [((.t 11), .b 0), ((.c (.i .i64 0)), .b 0), ((.t 12), .b 0)], .mv 7 (.t 13), .ext 14 (.t 7) 0, .ext 15 (.t 7) 1, .mv 5 (.t 14), .mv 6 (.t 15)])
 (.seq (.seq (.r [.mv 16 (.t 6), .un 17 .not (.t 16)])
 (.cond (.t 17) (.seq (.r [.mv 18 (.t 0), .nck 19 (.t 18), .fad 20 (.t 19) 1, .st (.t 20) (.c (.b true)) 1])
 (.seq (.r [.mv 4 (.c (.s []))])
 (.ret)))
 (.skip)))
 (.seq (.r [.mv 21 (.t 0), .mv 22 (.t 0), .nck 23 (.t 22), .fad 24 (.t 23) 0, .ld 25 (.t 24) 1 false, .mv 26 (.t 1), .slc 27 (.t 25) (some (.t 26)) none 0, .nck 28 (.t 21), .fad 29 (.t 28) 0, .st (.t 29) (.t 27) 1])
 (.seq (.r [.mv 30 (.t 5), .mv 4 (.t 30)])
 (.ret))))))

def f_impl_ValidHeap_s1 : Fd := .ir 1 10 [.t 2]
 (.seq (.r [.mv 2 (.c (.b false))])
 (.seq (.r [.mv 3 (.t 0), .bin 4 .neq (.t 3) (.c (.s [])), .mv 5 (.t 4), .g 5 true (some 6) (.mv 6 (.t 0)), .g 5 true (some 7) (.call (some 7) 117 [((.t 6), .b 0)]), .g 5 true (some 8) (.un 8 .not (.t 7)), .pick 9 (.t 5) (.t 8) (.c (.b false)), .mv 2 (.t 9)])
 (.ret)))

def f_impl_NameHeap_used : Fd := .ir 2 18 [.t 4]
 (.seq (.r [.box 2 (.t 0), .mv 4 (.c (.b false))])
 (.seq (.r [.mv 5 (.t 1), .fad 6 (.t 2) 0, .ld 7 (.t 6) 1 false, .len 8 false (.t 7), .call (some 9) 134 [((.t 5), .b 0), ((.t 8), .b 0)], .mv 10 (.t 9), .g 10 true (some 11) (.fad 11 (.t 2) 0), .g 10 true (some 12) (.ld 12 (.t 11) 1 false), .g 10 true (some 13) (.mv 13 (.t 1)), .g 10 true (some 14) (.ixa 14 (.t 12) (.t 13) 1), .g 10 true (some 15) (.ld 15 (.t 14) 1 false), .g 10 true (some 16) (.bin 16 .neq (.t 15) (.c (.s []))), .pick 17 (.t 10) (.t 16) (.c (.b false)), .mv 4 (.t 17)])
 (.ret)))

def f_impl_linkOk : Fd := .ir 1 21 [.t 2]
 (.seq (.r [.box 1 (.t 0), .mv 2 (.c (.b false))])
 (.seq (.seq (.r [.fad 3 (.t 1) 0, .ld 4 (.t 3) 1 false, .call (some 5) 117 [((.t 4), .b 0)], .un 6 .not (.t 5)])
 (.cond (.t 6) (.seq (.r [.mv 2 (.c (.b false))])
 (.ret))
 (.skip)))
 (.seq (.seq (.r [.fad 7 (.t 1) 2, .ld 8 (.t 7) 1 false, .bin 9 .eql (.t 8) (.c (.s []))])
 (.cond (.t 9) (.seq (.r [.fad 10 (.t 1) 1, .ld 11 (.t 10) 1 false, .call (some 12) 50 [((.t 11), .b 0), ((.c (.i .i64 1)), .b 0), ((.c (.i .i64 255)), .b 0)], .mv 2 (.t 12)])
 (.ret))
 (.skip)))
 (.seq (.r [.fad 13 (.t 1) 1, .ld 14 (.t 13) 1 false, .bin 15 .eql (.t 14) (.c (.i .i64 0)), .mv 16 (.t 15), .g 16 true (some 17) (.fad 17 (.t 1) 2), .g 16 true (some 18) (.ld 18 (.t 17) 1 false), .g 16 true (some 19) (.call (some 19) 22 [((.t 18), .b 0)]), .pick 20 (.t 16) (.t 19) (.c (.b false)), .mv 2 (.t 20)])
 (.ret)))))

def f_cmp_isNaN_int64 : Fd := .ir 1 6 [.t 2]
 (.seq (.r [.mv 2 (.c (.b false))])
 (.seq (.r [.mv 3 (.t 0), .mv 4 (.t 0), .bin 5 .neq (.t 3) (.t 4), .mv 2 (.t 5)])
 (.ret)))

def f_p_impl_Pager_isData : Fd := .ir 3 31 [.t 6]
 (.seq (.r [.mv 6 (.c (.b false))])
 (.seq (.r [.mv 7 (.t 1), .mv 8 (.t 0), .call (some 9) 93 [((.t 8), .b 12)], .bin 10 .gtr (.t 7) (.t 9), .mv 11 (.t 10), .g 11 true (some 12) (.mv 12 (.t 2)), .g 11 true (some 13) (.mv 13 (.t 0)), .g 11 true (some 14) (.nck 14 (.t 13)), .g 11 true (some 15) (.fad 15 (.t 14) 4), .g 11 true (some 16) (.fad 16 (.t 15) 0), .g 11 true (some 17) (.ld 17 (.t 16) 1 false), .g 11 true (some 18) (.bin 18 .leq (.t 12) (.t 17)), .pick 19 (.t 11) (.t 18) (.c (.b false)), .mv 20 (.t 19), .g 20 true (some 21) (.mv 21 (.t 1)), .g 20 true (some 22) (.mv 22 (.t 0)), .g 20 true (some 23) (.nck 23 (.t 22)), .g 20 true (some 24) (.fad 24 (.t 23) 4), .g 20 true (some 25) (.fad 25 (.t 24) 0), .g 20 true (some 26) (.ld 26 (.t 25) 1 false), .g 20 true (some 27) (.mv 27 (.t 2)), .g 20 true (some 28) (.bin 28 .sub (.t 26) (.t 27)), .g 20 true (some 29) (.bin 29 .leq (.t 21) (.t 28)), .pick 30 (.t 20) (.t 29) (.c (.b false)), .mv 6 (.t 30)])
 (.ret)))

def f_impl_trimmed : Fd := .ir 1 5 [.t 2]
 (.seq (.r [.mv 2 (.c (.s []))])
 (.seq (.r [.mv 3 (.t 0), .call (some 4) 171 [((.t 3), .b 0), ((.c (.s [0])), .b 0)], .mv 2 (.t 4)])
 (.ret)))

def f_impl_ValidHeader : Fd := .ir 1 23 [.t 2]
 (.seq (.r [.box 1 (.t 0), .mv 2 (.c (.b false))])
 (.seq (.r [.fad 3 (.t 1) 0, .ld 4 (.t 3) 1 false, .call (some 5) 50 [((.t 4), .b 0), ((.c (.i .i64 1)), .b 0), ((.c (.i .i64 3)), .b 0)], .mv 6 (.t 5), .g 6 true (some 7) (.fad 7 (.t 1) 1), .g 6 true (some 8) (.ld 8 (.t 7) 1 false), .g 6 true (some 9) (.call (some 9) 50 [((.t 8), .b 0), ((.c (.i .i64 0)), .b 0), ((.c (.i .i64 1000)), .b 0)]), .pick 10 (.t 6) (.t 9) (.c (.b false)), .mv 11 (.t 10), .g 11 true (some 12) (.fad 12 (.t 1) 2), .g 11 true (some 13) (.ld 13 (.t 12) 1 false), .g 11 true (some 14) (.len 14 false (.t 13)), .g 11 true (some 15) (.bin 15 .leq (.t 14) (.c (.i .i64 24))), .pick 16 (.t 11) (.t 15) (.c (.b false)), .mv 17 (.t 16), .g 17 true (some 18) (.fad 18 (.t 1) 2), .g 17 true (some 19) (.ld 19 (.t 18) 1 false), .g 17 true (some 20) (.call (some 20) 138 [((.t 19), .b 3), ((.c (.fn 172 [])), .b 0)]), .g 17 true (some 21) (.un 21 .not (.t 20)), .pick 22 (.t 17) (.t 21) (.c (.b false)), .mv 2 (.t 22)])
 (.ret)))

def f_spec_l13First : Fd := .ir 1 9 [.t 2]
 (.seq (.r [.mv 2 (.c (.i .i64 0))])
 (.seq (.r [.mv 3 (.t 0), .nck 4 (.t 3), .fad 5 (.t 4) 4, .ld 6 (.t 5) 4 true, .call (some 7) 69 [((.t 6), .b 0)], .bin 8 .add (.t 7) (.c (.i .i64 1)), .mv 2 (.t 8)])
 (.ret)))

def f_impl_cut : Fd := .ir 3 25 [.t 6, .t 7]
 (.seq (.r [.mv 6 (.c (.s [])), .mv 7 (.c (.b false))])
 (.seq (.seq (.r [.mv 8 (.t 2), .bin 9 .lss (.t 8) (.c (.i .i64 0)), .mv 10 (.t 9), .g 10 false (some 11) (.mv 11 (.t 1)), .g 10 false (some 12) (.mv 12 (.t 0)), .g 10 false (some 13) (.len 13 true (.t 12)), .g 10 false (some 14) (.mv 14 (.t 2)), .g 10 false (some 15) (.bin 15 .sub (.t 13) (.t 14)), .g 10 false (some 16) (.call (some 16) 50 [((.t 11), .b 0), ((.c (.i .i64 0)), .b 0), ((.t 15), .b 0)]), .g 10 false (some 17) (.un 17 .not (.t 16)), .pick 18 (.t 10) (.c (.b true)) (.t 17)])
 (.cond (.t 18) (.seq (.r [.mv 6 (.c (.s [])), .mv 7 (.c (.b false))])
 (.ret))
 (.skip)))
 (.seq (.r [.mv 19 (.t 0), .mv 20 (.t 1), .mv 21 (.t 1), .mv 22 (.t 2), .bin 23 .add (.t 21) (.t 22), .slc 24 (.t 19) (some (.t 20)) (some (.t 23)) 0, .mv 6 (.t 24), .mv 7 (.c (.b true))])
 (.ret))))

def f_strings_TrimRight : Fd := .ir 2 37 [.t 4]
 (.seq (.r [.mv 4 (.c (.s []))])
 (.seq (.seq (.r [.mv 7 (.t 0), .bin 8 .eql (.t 7) (.c (.s [])), .mv 9 (.t 8), .g 9 false (some 10) (.mv 10 (.t 1)), .g 9 false (some 11) (.bin 11 .eql (.t 10) (.c (.s []))), .pick 12 (.t 9) (.c (.b true)) (.t 11)])
 (.cond (.t 12) (.seq (.r [.mv 13 (.t 0), .mv 4 (.t 13)])
 (.ret))
 (.skip)))
 (.seq (.seq (.r [.mv 14 (.t 1), .len 15 true (.t 14), .bin 16 .eql (.t 15) (.c (.i .i64 1)), .mv 17 (.t 16), .g 17 true (some 18) (.mv 18 (.t 1)), .g 17 true (some 19) (.ixs 19 (.t 18) (.c (.i .i64 0))), .g 17 true (some 20) (.bin 20 .lss (.t 19) (.c (.i .u8 128))), .pick 21 (.t 17) (.t 20) (.c (.b false))])
 (.cond (.t 21) (.seq (.r [.mv 22 (.t 0), .mv 23 (.t 1), .ixs 24 (.t 23) (.c (.i .i64 0)), .call (some 25) 173 [((.t 22), .b 0), ((.t 24), .b 0)], .mv 4 (.t 25)])
 (.ret))
 (.skip)))
 (.seq (.seq (.r [.mv 27 (.t 1), .call (some 28) 174 [((.t 27), .b 0)], .mv 26 (.t 28), .ext 29 (.t 26) 0, .ext 30 (.t 26) 1, .alc 5 [.b false, .b false, .b false, .b false, .b false, .b false, .b false, .b false, .b false, .b false, .b false, .b false, .b false, .b false, .b false, .b false, .b false, .b false, .b false, .b false, .b false, .b false, .b false, .b false, .b false, .b false, .b false, .b false, .b false, .b false, .b false, .b false, .b false, .b false, .b false, .b false, .b false, .b false, .b false, .b false, .b false, .b false, .b false, .b false, .b false, .b false, .b false, .b false, .b false, .b false, .b false, .b false, .b false, .b false, .b false, .b false, .b false, .b false, .b false, .b false, .b false, .b false, .b false, .b false, .b false, .b false, .b false, .b false, .b false, .b false, .b false, .b false, .b false, .b false, .b false, .b false, .b false, .b false, .b false, .b false, .b false, .b false, .b false, .b false, .b false, .b false, .b false, .b false, .b false, .b false, .b false, .b false, .b false, .b false, .b false, .b false, .b false, .b false, .b false, .b false, .b false, .b false, .b false, .b false, .b false, .b false, .b false, .b false, .b false, .b false, .b false, .b false, .b false, .b false, .b false, .b false, .b false, .b false, .b false, .b false, .b false, .b false, .b false, .b false, .b false, .b false, .b false, .b false, .b false, .b false, .b false, .b false, .b false, .b false, .b false, .b false, .b false, .b false, .b false, .b false, .b false, .b false, .b false, .b false, .b false, .b false, .b false, .b false, .b false, .b false, .b false, .b false, .b false, .b false, .b false, .b false, .b false, .b false, .b false, .b false, .b false, .b false, .b false, .b false, .b false, .b false, .b false, .b false, .b false, .b false, .b false, .b false, .b false, .b false, .b false, .b false, .b false, .b false, .b false, .b false, .b false, .b false, .b false, .b false, .b false, .b false, .b false, .b false, .b false, .b false, .b false, .b false, .b false, .b false, .b false, .b false, .b false, .b false, .b false, .b false, .b false, .b false, .b false, .b false, .b false, .b false, .b false, .b false, .b false, .b false, .b false, .b false, .b false, .b false, .b false, .b false, .b false, .b false, .b false, .b false, .b false, .b false, .b false, .b false, .b false, .b false, .b false, .b false, .b false, .b false, .b false, .b false, .b false, .b false, .b false, .b false, .b false, .b false, .b false, .b false, .b false, .b false, .b false, .b false, .b false, .b false, .b false, .b false, .b false, .b false, .b false, .b false, .b false, .b false, .b false, .b false], .st (.t 5) (.t 29) 256, .mv 6 (.t 30)])
 (.seq (.r [.mv 31 (.t 6)])
 (.cond (.t 31) (.seq (.r [.mv 32 (.t 0), .call (some 33) 175 [((.t 32), .b 0), ((.t 5), .b 256)], .mv 4 (.t 33)])
 (.ret))
 (.skip))))
 (.seq (.r [.mv 34 (.t 0), .mv 35 (.t 1), .call (some 36) 176 [((.t 34), .b 0), ((.t 35), .b 0)], .mv 4 (.t 36)])
 (.ret))))))

def f_impl_ValidHeader_s1 : Fd := .ir 1 6 [.t 2]
 (.seq (.r [.box 1 (.t 0), .mv 2 (.c (.b false))])
 (.seq (.r [.ld 3 (.t 1) 3 true, .call (some 4) 177 [((.t 3), .b 0)], .un 5 .not (.t 4), .mv 2 (.t 5)])
 (.ret)))

def f_impl_messageOk : Fd := .ir 1 17 [.t 2]
 (.seq (.r [.box 1 (.t 0), .mv 2 (.c (.b false))])
 (.seq (.r [.fad 3 (.t 1) 0, .ld 4 (.t 3) 1 false, .call (some 5) 50 [((.t 4), .b 0), ((.c (.i .i64 1)), .b 0), ((.c (.i .i64 9)), .b 0)], .mv 6 (.t 5), .g 6 true (some 7) (.fad 7 (.t 1) 1), .g 6 true (some 8) (.ld 8 (.t 7) 1 false), .g 6 true (some 9) (.call (some 9) 50 [((.t 8), .b 0), ((.c (.i .i64 0)), .b 0), ((.c (.i .i64 255)), .b 0)]), .pick 10 (.t 6) (.t 9) (.c (.b false)), .mv 11 (.t 10), .g 11 true (some 12) (.fad 12 (.t 1) 2), .g 11 true (some 13) (.ld 13 (.t 12) 1 false), .g 11 true (some 14) (.len 14 true (.t 13)), .g 11 true (some 15) (.bin 15 .leq (.t 14) (.c (.i .i64 200))), .pick 16 (.t 11) (.t 15) (.c (.b false)), .mv 2 (.t 16)])
 (.ret)))

def f_strings_trimRightByte : Fd := .ir 2 23 [.t 4]
 (.seq (.r [.mv 4 (.c (.s []))])
 (.seq (.blk 0 (.loop [0, 1] [] [] (.seq (.seq (.r [.mv 5 (.t 0), .len 6 true (.t 5), .bin 7 .gtr (.t 6) (.c (.i .i64 0)), .mv 8 (.t 7), .g 8 true (some 9) (.mv 9 (.t 0)), .g 8 true (some 10) (.mv 10 (.t 0)), .g 8 true (some 11) (.len 11 true (.t 10)), .g 8 true (some 12) (.bin 12 .sub (.t 11) (.c (.i .i64 1))), .g 8 true (some 13) (.ixs 13 (.t 9) (.t 12)), .g 8 true (some 14) (.mv 14 (.t 1)), .g 8 true (some 15) (.bin 15 .eql (.t 13) (.t 14)), .pick 16 (.t 8) (.t 15) (.c (.b false))])
 (.cond (.t 16) (.skip)
 (.ex 0)))
 (.blk 1 (.r [.mv 17 (.t 0), .mv 18 (.t 0), .len 19 true (.t 18), .bin 20 .sub (.t 19) (.c (.i .i64 1)), .slc 21 (.t 17) none (some (.t 20)) 0, .mv 0 (.t 21)])))))
 (.seq (.r [.mv 22 (.t 0), .mv 4 (.t 22)])
 (.ret))))

def prog : Prog := fun n => match n with
  | 0 => some f_laws_szPager
  | 1 => some f_laws_toPager
  | 2 => some f_spec_FindPath
  | 3 => some f_impl_FindPath
  | 4 => some f_laws_eqPager
  | 5 => some f_spec_WalkStore
  | 6 => some f_impl_WalkStore
  | 7 => some f_laws_eqInt64S
  | 8 => some f_laws_markPager
  | 10 => some f_laws_heldInt64S
  | 11 => some f_spec_ObjectsOf
  | 12 => some f_impl_ObjectsOf
  | 13 => some f_laws_szDisk
  | 14 => some f_laws_szPageS
  | 15 => some f_spec_l17Split
  | 16 => some f_spec_l12Ok
  | 17 => some f_spec_l17Find
  | 18 => some f_laws_toDisk
  | 19 => some f_laws_toSuper
  | 20 => some f_laws_toPageS
  | 21 => some f_impl_ValidPager
  | 22 => some f_impl_ValidPath
  | 23 => some f_p_impl_Pager_findPath
  | 24 => some f_laws_eqDisk
  | 25 => some f_laws_eqSuper
  | 26 => some f_laws_eqPageS
  | 27 => some f_spec_l28All
  | 28 => some f_p_impl_Pager_walk
  | 29 => some f_laws_markDisk
  | 30 => some f_laws_markPageS
  | 31 => some f_spec_l17Objects
  | 32 => some f_p_impl_Pager_objects
  | 33 => some f_laws_szStringS
  | 34 => some f_laws_szPutS
  | 35 => some f_laws_szPage
  | 36 => some f_spec_IsName
  | 37 => some f_spec_l09Ok
  | 38 => some f_spec_ValidSuper
  | 39 => some f_spec_l00In
  | 40 => some f_spec_l11Pages
  | 41 => some f_spec_l11Within
  | 42 => some f_spec_l12Fits
  | 43 => some f_spec_l13Root
  | 44 => some f_spec_l17Read
  | 45 => some f_spec_l17Link
  | 46 => some f_laws_toStringS
  | 47 => some f_laws_toPutS
  | 48 => some f_laws_toPage
  | 49 => some f_impl_superFits
  | 50 => some f_impl_within
  | 51 => some f_impl_ValidPages
  | 52 => some f_impl_Super_inArea
  | 53 => some f_impl_Super_fits
  | 54 => some f_impl_splitPath
  | 55 => some f_p_impl_Pager_find
  | 56 => some f_laws_eqStringS
  | 57 => some f_laws_eqPutS
  | 58 => some f_laws_eqPage
  | 59 => some f_spec_l28Walk
  | 60 => some f_p_impl_Pager_root
  | 61 => some f_p_impl_Pager_visit
  | 62 => some f_laws_markStringS
  | 63 => some f_laws_markPutS
  | 64 => some f_laws_markText
  | 65 => some f_spec_l17Walk
  | 66 => some f_p_impl_Pager_gather
  | 67 => some f_laws_szPut
  | 68 => some f_spec_l01Letter
  | 69 => some f_spec_l10Area
  | 70 => some f_spec_l11Blocks
  | 71 => some f_spec_l13Area
  | 72 => some f_spec_l01GetUint
  | 73 => some f_spec_l14Read
  | 74 => some f_spec_l17Only
  | 75 => some f_spec_DecodeHeap
  | 76 => some f_spec_DecodeLinks
  | 77 => some f_laws_toPut
  | 78 => some f_impl_ValidDisk
  | 79 => some f_impl_ValidSuper
  | 80 => some f_impl_isBlock
  | 81 => some f_impl_Super_inArea_s1
  | 82 => some f_slices_ContainsFunc_impl_Page_impl_Page
  | 83 => some f_impl_RecordBlocks
  | 84 => some f_strings_CutPrefix
  | 85 => some (.intr nSplit)
  | 86 => some f_slices_ContainsFunc_string_string
  | 87 => some f_impl_splitPath_s1
  | 88 => some f_p_impl_Pager_group
  | 89 => some f_impl_group_link
  | 90 => some f_slices_Concat_string_string
  | 91 => some f_laws_eqPut
  | 92 => some f_spec_l00Has
  | 93 => some f_p_impl_Pager_area
  | 94 => some f_p_impl_Pager_get
  | 95 => some f_impl_getBits
  | 96 => some f_slices_Contains_int64_int64
  | 97 => some f_p_impl_Pager_targets
  | 98 => some f_p_impl_Pager_header
  | 99 => some f_spec_l11Table
  | 100 => some f_spec_l01Within
  | 101 => some f_spec_l12Get
  | 102 => some f_spec_l14Chain
  | 103 => some f_p_spec_l02Reader_byte
  | 104 => some f_p_spec_l02Reader_take
  | 105 => some f_spec_l16Ok
  | 106 => some f_spec_NameAt
  | 107 => some f_spec_l17Ok
  | 108 => some f_spec_l17Count
  | 109 => some f_impl_ValidDisk_s1
  | 110 => some f_impl_ValidDisk_s2
  | 111 => some f_slices_ContainsFunc_impl_Put_impl_Put
  | 112 => some f_slices_IndexFunc_impl_Page_impl_Page
  | 113 => some f_impl_AreaBlock
  | 114 => some f_impl_tableBlocks
  | 115 => some f_internal_stringslite_CutPrefix
  | 116 => some f_slices_IndexFunc_string_string
  | 117 => some f_impl_IsName
  | 118 => some f_impl_Header_only
  | 119 => some f_impl_DecodeHeap
  | 120 => some f_impl_DecodeLinks
  | 121 => some f_impl_group_link_s1
  | 122 => some f_slices_IndexFunc_impl_Link_impl_Link
  | 123 => some f_impl_pageAt
  | 124 => some f_p_impl_Pager_committed
  | 125 => some f_slices_Index_int64_int64
  | 126 => some f_p_impl_Pager_chain
  | 127 => some f_spec_l11Find
  | 128 => some f_spec_l09Read
  | 129 => some f_spec_l14Used
  | 130 => some f_spec_l03Zeros
  | 131 => some f_spec_DecodeHeader
  | 132 => some f_spec_ValidPath
  | 133 => some f_slices_IndexFunc_impl_Put_impl_Put
  | 134 => some f_impl_isIndex
  | 135 => some f_internal_stringslite_HasPrefix
  | 136 => some f_impl_Header_messageAt
  | 137 => some f_impl_Header_only_s1
  | 138 => some f_slices_ContainsFunc_impl_Message_impl_Message
  | 139 => some f_p_impl_decoder_byte
  | 140 => some f_p_impl_decoder_name
  | 141 => some f_impl_ValidHeap
  | 142 => some f_p_impl_decoder_link
  | 143 => some f_impl_ValidLinks
  | 144 => some (.intr nUsedSlots)
  | 145 => some f_slices_BinarySearchFunc_impl_Page_impl_Page_int64
  | 146 => some f_impl_pageAt_s1
  | 147 => some (.intr nDiskRead)
  | 148 => some f_p_impl_Pager_allocated
  | 149 => some f_impl_chainBytes
  | 150 => some f_p_strings_Builder_WriteString
  | 151 => some (.intr nBuilderString)
  | 152 => some f_impl_DecodeHeader
  | 153 => some f_spec_l13Data
  | 154 => some f_spec_l13Bit
  | 155 => some f_spec_l00Max
  | 156 => some f_spec_l14Ok
  | 157 => some f_impl_Header_messageAt_s1
  | 158 => some f_slices_IndexFunc_impl_Message_impl_Message
  | 159 => some f_p_impl_decoder_number
  | 160 => some f_p_impl_decoder_take
  | 161 => some f_impl_ValidHeap_s1
  | 162 => some f_impl_NameHeap_used
  | 163 => some f_impl_linkOk
  | 164 => some f_cmp_Compare_int64
  | 165 => some f_cmp_isNaN_int64
  | 166 => some f_p_impl_Pager_isData
  | 167 => some f_impl_trimmed
  | 168 => some f_impl_ValidHeader
  | 169 => some f_spec_l13First
  | 170 => some f_impl_cut
  | 171 => some f_strings_TrimRight
  | 172 => some f_impl_ValidHeader_s1
  | 173 => some f_strings_trimRightByte
  | 177 => some f_impl_messageOk
  | 178 => some (.intr nCopyCheck)
  | 179 => some f_laws_FnExactWalkStore
  | 180 => some f_laws_FnExactObjectsOf
  | 181 => some f_laws_FnExactFindPath
  | 182 => some (.intr nGrow)
  | 1009 => some f_laws_markInt64S
  | _ => none

abbrev n_laws_szPager : Nat := 0
abbrev n_laws_toPager : Nat := 1
abbrev n_spec_FindPath : Nat := 2
abbrev n_impl_FindPath : Nat := 3
abbrev n_laws_eqPager : Nat := 4
abbrev n_spec_WalkStore : Nat := 5
abbrev n_impl_WalkStore : Nat := 6
abbrev n_laws_eqInt64S : Nat := 7
abbrev n_laws_markPager : Nat := 8
abbrev n_laws_heldInt64S : Nat := 10
abbrev n_spec_ObjectsOf : Nat := 11
abbrev n_impl_ObjectsOf : Nat := 12
abbrev n_laws_szDisk : Nat := 13
abbrev n_laws_szPageS : Nat := 14
abbrev n_spec_l17Split : Nat := 15
abbrev n_spec_l12Ok : Nat := 16
abbrev n_spec_l17Find : Nat := 17
abbrev n_laws_toDisk : Nat := 18
abbrev n_laws_toSuper : Nat := 19
abbrev n_laws_toPageS : Nat := 20
abbrev n_impl_ValidPager : Nat := 21
abbrev n_impl_ValidPath : Nat := 22
abbrev n_p_impl_Pager_findPath : Nat := 23
abbrev n_laws_eqDisk : Nat := 24
abbrev n_laws_eqSuper : Nat := 25
abbrev n_laws_eqPageS : Nat := 26
abbrev n_spec_l28All : Nat := 27
abbrev n_p_impl_Pager_walk : Nat := 28
abbrev n_laws_markDisk : Nat := 29
abbrev n_laws_markPageS : Nat := 30
abbrev n_spec_l17Objects : Nat := 31
abbrev n_p_impl_Pager_objects : Nat := 32
abbrev n_laws_szStringS : Nat := 33
abbrev n_laws_szPutS : Nat := 34
abbrev n_laws_szPage : Nat := 35
abbrev n_spec_IsName : Nat := 36
abbrev n_spec_l09Ok : Nat := 37
abbrev n_spec_ValidSuper : Nat := 38
abbrev n_spec_l00In : Nat := 39
abbrev n_spec_l11Pages : Nat := 40
abbrev n_spec_l11Within : Nat := 41
abbrev n_spec_l12Fits : Nat := 42
abbrev n_spec_l13Root : Nat := 43
abbrev n_spec_l17Read : Nat := 44
abbrev n_spec_l17Link : Nat := 45
abbrev n_laws_toStringS : Nat := 46
abbrev n_laws_toPutS : Nat := 47
abbrev n_laws_toPage : Nat := 48
abbrev n_impl_superFits : Nat := 49
abbrev n_impl_within : Nat := 50
abbrev n_impl_ValidPages : Nat := 51
abbrev n_impl_Super_inArea : Nat := 52
abbrev n_impl_Super_fits : Nat := 53
abbrev n_impl_splitPath : Nat := 54
abbrev n_p_impl_Pager_find : Nat := 55
abbrev n_laws_eqStringS : Nat := 56
abbrev n_laws_eqPutS : Nat := 57
abbrev n_laws_eqPage : Nat := 58
abbrev n_spec_l28Walk : Nat := 59
abbrev n_p_impl_Pager_root : Nat := 60
abbrev n_p_impl_Pager_visit : Nat := 61
abbrev n_laws_markStringS : Nat := 62
abbrev n_laws_markPutS : Nat := 63
abbrev n_laws_markText : Nat := 64
abbrev n_spec_l17Walk : Nat := 65
abbrev n_p_impl_Pager_gather : Nat := 66
abbrev n_laws_szPut : Nat := 67
abbrev n_spec_l01Letter : Nat := 68
abbrev n_spec_l10Area : Nat := 69
abbrev n_spec_l11Blocks : Nat := 70
abbrev n_spec_l13Area : Nat := 71
abbrev n_spec_l01GetUint : Nat := 72
abbrev n_spec_l14Read : Nat := 73
abbrev n_spec_l17Only : Nat := 74
abbrev n_spec_DecodeHeap : Nat := 75
abbrev n_spec_DecodeLinks : Nat := 76
abbrev n_laws_toPut : Nat := 77
abbrev n_impl_ValidDisk : Nat := 78
abbrev n_impl_ValidSuper : Nat := 79
abbrev n_impl_isBlock : Nat := 80
abbrev n_impl_Super_inArea_s1 : Nat := 81
abbrev n_slices_ContainsFunc_impl_Page_impl_Page : Nat := 82
abbrev n_impl_RecordBlocks : Nat := 83
abbrev n_strings_CutPrefix : Nat := 84
abbrev n_strings_Split : Nat := 85
abbrev n_slices_ContainsFunc_string_string : Nat := 86
abbrev n_impl_splitPath_s1 : Nat := 87
abbrev n_p_impl_Pager_group : Nat := 88
abbrev n_impl_group_link : Nat := 89
abbrev n_slices_Concat_string_string : Nat := 90
abbrev n_laws_eqPut : Nat := 91
abbrev n_spec_l00Has : Nat := 92
abbrev n_p_impl_Pager_area : Nat := 93
abbrev n_p_impl_Pager_get : Nat := 94
abbrev n_impl_getBits : Nat := 95
abbrev n_slices_Contains_int64_int64 : Nat := 96
abbrev n_p_impl_Pager_targets : Nat := 97
abbrev n_p_impl_Pager_header : Nat := 98
abbrev n_spec_l11Table : Nat := 99
abbrev n_spec_l01Within : Nat := 100
abbrev n_spec_l12Get : Nat := 101
abbrev n_spec_l14Chain : Nat := 102
abbrev n_p_spec_l02Reader_byte : Nat := 103
abbrev n_p_spec_l02Reader_take : Nat := 104
abbrev n_spec_l16Ok : Nat := 105
abbrev n_spec_NameAt : Nat := 106
abbrev n_spec_l17Ok : Nat := 107
abbrev n_spec_l17Count : Nat := 108
abbrev n_impl_ValidDisk_s1 : Nat := 109
abbrev n_impl_ValidDisk_s2 : Nat := 110
abbrev n_slices_ContainsFunc_impl_Put_impl_Put : Nat := 111
abbrev n_slices_IndexFunc_impl_Page_impl_Page : Nat := 112
abbrev n_impl_AreaBlock : Nat := 113
abbrev n_impl_tableBlocks : Nat := 114
abbrev n_internal_stringslite_CutPrefix : Nat := 115
abbrev n_slices_IndexFunc_string_string : Nat := 116
abbrev n_impl_IsName : Nat := 117
abbrev n_impl_Header_only : Nat := 118
abbrev n_impl_DecodeHeap : Nat := 119
abbrev n_impl_DecodeLinks : Nat := 120
abbrev n_impl_group_link_s1 : Nat := 121
abbrev n_slices_IndexFunc_impl_Link_impl_Link : Nat := 122
abbrev n_impl_pageAt : Nat := 123
abbrev n_p_impl_Pager_committed : Nat := 124
abbrev n_slices_Index_int64_int64 : Nat := 125
abbrev n_p_impl_Pager_chain : Nat := 126
abbrev n_spec_l11Find : Nat := 127
abbrev n_spec_l09Read : Nat := 128
abbrev n_spec_l14Used : Nat := 129
abbrev n_spec_l03Zeros : Nat := 130
abbrev n_spec_DecodeHeader : Nat := 131
abbrev n_spec_ValidPath : Nat := 132
abbrev n_slices_IndexFunc_impl_Put_impl_Put : Nat := 133
abbrev n_impl_isIndex : Nat := 134
abbrev n_internal_stringslite_HasPrefix : Nat := 135
abbrev n_impl_Header_messageAt : Nat := 136
abbrev n_impl_Header_only_s1 : Nat := 137
abbrev n_slices_ContainsFunc_impl_Message_impl_Message : Nat := 138
abbrev n_p_impl_decoder_byte : Nat := 139
abbrev n_p_impl_decoder_name : Nat := 140
abbrev n_impl_ValidHeap : Nat := 141
abbrev n_p_impl_decoder_link : Nat := 142
abbrev n_impl_ValidLinks : Nat := 143
abbrev n_impl_NameHeap_usedSlots : Nat := 144
abbrev n_slices_BinarySearchFunc_impl_Page_impl_Page_int64 : Nat := 145
abbrev n_impl_pageAt_s1 : Nat := 146
abbrev n_impl_Disk_read : Nat := 147
abbrev n_p_impl_Pager_allocated : Nat := 148
abbrev n_impl_chainBytes : Nat := 149
abbrev n_p_strings_Builder_WriteString : Nat := 150
abbrev n_p_strings_Builder_String : Nat := 151
abbrev n_impl_DecodeHeader : Nat := 152
abbrev n_spec_l13Data : Nat := 153
abbrev n_spec_l13Bit : Nat := 154
abbrev n_spec_l00Max : Nat := 155
abbrev n_spec_l14Ok : Nat := 156
abbrev n_impl_Header_messageAt_s1 : Nat := 157
abbrev n_slices_IndexFunc_impl_Message_impl_Message : Nat := 158
abbrev n_p_impl_decoder_number : Nat := 159
abbrev n_p_impl_decoder_take : Nat := 160
abbrev n_impl_ValidHeap_s1 : Nat := 161
abbrev n_impl_NameHeap_used : Nat := 162
abbrev n_impl_linkOk : Nat := 163
abbrev n_cmp_Compare_int64 : Nat := 164
abbrev n_cmp_isNaN_int64 : Nat := 165
abbrev n_p_impl_Pager_isData : Nat := 166
abbrev n_impl_trimmed : Nat := 167
abbrev n_impl_ValidHeader : Nat := 168
abbrev n_spec_l13First : Nat := 169
abbrev n_impl_cut : Nat := 170
abbrev n_strings_TrimRight : Nat := 171
abbrev n_impl_ValidHeader_s1 : Nat := 172
abbrev n_strings_trimRightByte : Nat := 173
abbrev n_impl_messageOk : Nat := 177
abbrev n_p_strings_Builder_copyCheck : Nat := 178
abbrev n_laws_FnExactWalkStore : Nat := 179
abbrev n_laws_FnExactObjectsOf : Nat := 180
abbrev n_laws_FnExactFindPath : Nat := 181
abbrev n_slices_Grow_string_string : Nat := 182
abbrev n_laws_markInt64S : Nat := 1009

end Go.VS
