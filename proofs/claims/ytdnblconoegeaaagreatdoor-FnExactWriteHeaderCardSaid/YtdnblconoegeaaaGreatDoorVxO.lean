/-
  spec's own copy of a disk: its rows may come to lie in three ways.
-/
import Derived.Test.YtdnblconoegeaaaGreatDoorB1
import Derived.Test.YtdnblconoegeaaaGreatDoorA3
import Derived.Test.YtdnblconoegeaaaGreatDoorB3
set_option linter.all false
namespace Go.VS
set_option linter.unusedSimpArgs false
set_option maxRecDepth 8000

def own0 : List I := [.alc 2 [.nil, .nil, .i .i64 0, .b false]]
def own1 : List I := [.bsl 3 1 [], .mv 4 (.t 0), .nck 5 (.t 4), .fad 6 (.t 5) 0, .ck (.np (.t 6)) (.ld 7 (.t 6) 1 false), .ck (.dj [.t 0]) (.app 8 (.t 3) (.t 7) 1), .bsl 9 2 [], .mv 10 (.t 0), .nck 11 (.t 10), .fad 12 (.t 11) 1, .ck (.np (.t 12)) (.ld 13 (.t 12) 1 false), .ck (.dj [.t 0]) (.app 14 (.t 9) (.t 13) 2), .mv 15 (.t 0), .nck 16 (.t 15), .fad 17 (.t 16) 2, .ck (.np (.t 17)) (.ld 18 (.t 17) 1 false), .mv 19 (.t 0), .nck 20 (.t 19), .fad 21 (.t 20) 3, .ck (.np (.t 21)) (.ld 22 (.t 21) 1 false), .bld 23 [.nil, .nil, .i .i64 0, .b false] [(0, 1, (.t 8)), (1, 1, (.t 14)), (2, 1, (.t 18)), (3, 1, (.t 22))], .st (.t 2) (.t 23) 4]
def ownA : List Nat := [0, 1, 2, 3, 4, 5, 6, 7, 8, 9, 10, 11, 12, 13, 14, 15, 16, 17, 18, 19, 20, 21]
def ownB : List Nat := [0, 6, 1, 2, 3, 4, 5, 7, 8, 9, 10, 11, 12, 13, 14, 15, 16, 17, 18, 19, 20, 21]
def ownC : List Nat := [6, 0, 1, 2, 3, 4, 5, 7, 8, 9, 10, 11, 12, 13, 14, 15, 16, 17, 18, 19, 20, 21]
def ownAlts : List (List Nat) := [ownA, ownB, ownC]
def ownP (p : List Nat) : Prog := soloP 214 (.ir 1 24 [.c 2 4 true] (altC own0 own1 p))
section
variable (q1 q2 : Bool) (bs ps : List V) (n : Int) (b : Bool) (h1 : bs.length ≤ lim) (h2 : ps.length ≤ lim) (hb : noBt bs = true)
include h1 h2 hb
theorem ownA_call : Call (ownP ownA) 214 ⟨[.vp [.view q1 1 bs, .view q2 2 ps, .i .i64 n, .b b]], [], []⟩ (fun o => o = (.agg [.sl 0 0 bs.length false, .sl 1 0 ps.length false, .i .i64 n, .b b], [], [.row 1 false bs, .row 2 false ps])) := by
  have e : ownP ownA 214 = some (.ir 1 24 [.c 2 4 true] (.seq (.r [.alc 2 [.nil, .nil, .i .i64 0, .b false]]) (.seq (.r [.bsl 3 1 [], .mv 4 (.t 0), .nck 5 (.t 4), .fad 6 (.t 5) 0, .ck (.np (.t 6)) (.ld 7 (.t 6) 1 false), .ck (.dj [.t 0]) (.app 8 (.t 3) (.t 7) 1), .bsl 9 2 [], .mv 10 (.t 0), .nck 11 (.t 10), .fad 12 (.t 11) 1, .ck (.np (.t 12)) (.ld 13 (.t 12) 1 false), .ck (.dj [.t 0]) (.app 14 (.t 9) (.t 13) 2), .mv 15 (.t 0), .nck 16 (.t 15), .fad 17 (.t 16) 2, .ck (.np (.t 17)) (.ld 18 (.t 17) 1 false), .mv 19 (.t 0), .nck 20 (.t 19), .fad 21 (.t 20) 3, .ck (.np (.t 21)) (.ld 22 (.t 21) 1 false), .bld 23 [.nil, .nil, .i .i64 0, .b false] [(0, 1, (.t 8)), (1, 1, (.t 14)), (2, 1, (.t 18)), (3, 1, (.t 22))], .st (.t 2) (.t 23) 4]) .ret))) := rfl
  rw [Call_sp e _ _ _ rfl (by decide)]
  simp -implicitDefEqProofs [h1, h2, hb]
theorem ownB_call : Call (ownP ownB) 214 ⟨[.vp [.view q1 1 bs, .view q2 2 ps, .i .i64 n, .b b]], [], []⟩ (fun o => o = (.agg [.sl 0 0 bs.length false, .sl 1 0 ps.length false, .i .i64 n, .b b], [], [.row 1 false bs, .row 2 false ps])) := by
  have e : ownP ownB 214 = some (.ir 1 24 [.c 2 4 true] (.seq (.r [.alc 2 [.nil, .nil, .i .i64 0, .b false]]) (.seq (.r [.bsl 3 1 [], .bsl 9 2 [], .mv 4 (.t 0), .nck 5 (.t 4), .fad 6 (.t 5) 0, .ck (.np (.t 6)) (.ld 7 (.t 6) 1 false), .ck (.dj [.t 0]) (.app 8 (.t 3) (.t 7) 1), .mv 10 (.t 0), .nck 11 (.t 10), .fad 12 (.t 11) 1, .ck (.np (.t 12)) (.ld 13 (.t 12) 1 false), .ck (.dj [.t 0]) (.app 14 (.t 9) (.t 13) 2), .mv 15 (.t 0), .nck 16 (.t 15), .fad 17 (.t 16) 2, .ck (.np (.t 17)) (.ld 18 (.t 17) 1 false), .mv 19 (.t 0), .nck 20 (.t 19), .fad 21 (.t 20) 3, .ck (.np (.t 21)) (.ld 22 (.t 21) 1 false), .bld 23 [.nil, .nil, .i .i64 0, .b false] [(0, 1, (.t 8)), (1, 1, (.t 14)), (2, 1, (.t 18)), (3, 1, (.t 22))], .st (.t 2) (.t 23) 4]) .ret))) := rfl
  rw [Call_sp e _ _ _ rfl (by decide)]
  simp -implicitDefEqProofs [h1, h2, hb]
theorem ownC_call : Call (ownP ownC) 214 ⟨[.vp [.view q1 1 bs, .view q2 2 ps, .i .i64 n, .b b]], [], []⟩ (fun o => o = (.agg [.sl 0 0 bs.length false, .sl 1 0 ps.length false, .i .i64 n, .b b], [], [.row 1 false bs, .row 2 false ps])) := by
  have e : ownP ownC 214 = some (.ir 1 24 [.c 2 4 true] (.seq (.r [.alc 2 [.nil, .nil, .i .i64 0, .b false]]) (.seq (.r [.bsl 9 2 [], .bsl 3 1 [], .mv 4 (.t 0), .nck 5 (.t 4), .fad 6 (.t 5) 0, .ck (.np (.t 6)) (.ld 7 (.t 6) 1 false), .ck (.dj [.t 0]) (.app 8 (.t 3) (.t 7) 1), .mv 10 (.t 0), .nck 11 (.t 10), .fad 12 (.t 11) 1, .ck (.np (.t 12)) (.ld 13 (.t 12) 1 false), .ck (.dj [.t 0]) (.app 14 (.t 9) (.t 13) 2), .mv 15 (.t 0), .nck 16 (.t 15), .fad 17 (.t 16) 2, .ck (.np (.t 17)) (.ld 18 (.t 17) 1 false), .mv 19 (.t 0), .nck 20 (.t 19), .fad 21 (.t 20) 3, .ck (.np (.t 21)) (.ld 22 (.t 21) 1 false), .bld 23 [.nil, .nil, .i .i64 0, .b false] [(0, 1, (.t 8)), (1, 1, (.t 14)), (2, 1, (.t 18)), (3, 1, (.t 22))], .st (.t 2) (.t 23) 4]) .ret))) := rfl
  rw [Call_sp e _ _ _ rfl (by decide)]
  simp -implicitDefEqProofs [h1, h2, hb]
end
end Go.VS
