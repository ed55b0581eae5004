/-
  Our program is the seat's. Printed by mtall.py.
-/
import Derived.Test.YtdnblconoegeaaaGreatDoorVxK6
set_option linter.all false
namespace Go.VS
open Go Go.Proofs

/-- What is asked of one of our functions. -/
def MtAt (W : World) (n : Nat) : Option Fd → Prop
  | none => True
  | some (.ir _ nt rs k) => n < 1000 ∧ (∀ args w, (callFunc (phi n) args).run Tryz.prog w = .ok (.enter (phi n) args) w) ∧ ∃ fn, Tryz.prog.funcs[phi n]? = some fn ∧ mF tbS phi fn nt rs k = true
  | some (.pin _ nt rs k) => (∀ args w, (callFunc (phi n) args).run Tryz.prog w = .ok (.enter (phi n) args) w) ∧ ∃ fn, Tryz.prog.funcs[phi n]? = some fn ∧ mF tbS phi fn nt rs k = true
  | some (.intr sem) => ∀ s o, sem s = some o → Good Tryz.prog phi ⟨W.heap.size, Tryz.prog⟩ (oldJ W) (decide (1000 ≤ n)) (phi n) s o
def Fd.plain : Fd → Bool
  | .intr _ => false
  | _ => true
theorem MtAt.mk {W : World} {n m : Nat} {fd : Fd} {F : Func} (hp : phi n = m) (hc : ∀ args w, (callFunc m args).run Tryz.prog w = .ok (.enter m args) w) (hf : Tryz.prog.funcs[m]? = some F) (h : mFd F fd = true) (hi : fd.plain = true) (hn : n < 1000 ∨ ∃ a b c d, fd = .pin a b c d) : MtAt W n (some fd) := by
  subst hp
  cases fd with
  | ir np nt rs k => rcases hn with hn | ⟨_, _, _, _, e⟩; exact ⟨hn, hc, F, hf, h⟩; cases e
  | pin np nt rs k => exact ⟨hc, F, hf, h⟩
  | intr => cases hi
theorem MtAt.intr {W : World} {n m : Nat} {sem : St → Option Out} (hp : phi n = m) (hn : n < 1000) (h : ∀ s o, sem s = some o → Good Tryz.prog phi ⟨W.heap.size, Tryz.prog⟩ (oldJ W) false m s o) : MtAt W n (some (.intr sem)) := by
  subst hp
  show ∀ s o, sem s = some o → Good Tryz.prog phi ⟨W.heap.size, Tryz.prog⟩ (oldJ W) (decide (1000 ≤ n)) (phi n) s o
  rw [decide_eq_false (by omega)]
  exact h
section
variable {W : World} {mm : Int} (hm : W.cell? ⟨0, 0, none⟩ = some (.int .i64 mm))
include hm
set_option maxRecDepth 100000
theorem mt_c0 : ∀ n, MtAt W n (prog_0 n) := by
  intro n
  unfold prog_0
  split
  · exact .mk (m := 10) rfl Tryz.call10 Tryz.func10 mt_0 rfl (.inl (by decide))
  · exact .mk (m := 13) rfl Tryz.call13 Tryz.func13 mt_1 rfl (.inl (by decide))
  · exact .mk (m := 16) rfl Tryz.call16 Tryz.func16 mt_4 rfl (.inl (by decide))
  · exact .mk (m := 308) rfl Tryz.call308 Tryz.func308 mt_7 rfl (.inl (by decide))
  · exact .mk (m := 36) rfl Tryz.call36 Tryz.func36 mt_13 rfl (.inl (by decide))
  · exact .mk (m := 37) rfl Tryz.call37 Tryz.func37 mt_14 rfl (.inl (by decide))
  · exact .mk (m := 39) rfl Tryz.call39 Tryz.func39 mt_16 rfl (.inl (by decide))
  · exact .mk (m := 43) rfl Tryz.call43 Tryz.func43 mt_18 rfl (.inl (by decide))
  · exact .mk (m := 44) rfl Tryz.call44 Tryz.func44 mt_19 rfl (.inl (by decide))
  · exact .mk (m := 45) rfl Tryz.call45 Tryz.func45 mt_20 rfl (.inl (by decide))
  · exact .mk (m := 47) rfl Tryz.call47 Tryz.func47 mt_21 rfl (.inl (by decide))
  · exact .mk (m := 52) rfl Tryz.call52 Tryz.func52 mt_24 rfl (.inl (by decide))
  · exact .mk (m := 53) rfl Tryz.call53 Tryz.func53 mt_25 rfl (.inl (by decide))
  · exact .mk (m := 54) rfl Tryz.call54 Tryz.func54 mt_26 rfl (.inl (by decide))
  · exact .mk (m := 92) rfl Tryz.call92 Tryz.func92 mt_33 rfl (.inl (by decide))
  · exact .mk (m := 93) rfl Tryz.call93 Tryz.func93 mt_34 rfl (.inl (by decide))
  · exact .mk (m := 94) rfl Tryz.call94 Tryz.func94 mt_35 rfl (.inl (by decide))
  · exact .mk (m := 96) rfl Tryz.call96 Tryz.func96 mt_37 rfl (.inl (by decide))
  · exact .mk (m := 97) rfl Tryz.call97 Tryz.func97 mt_38 rfl (.inl (by decide))
  · exact .mk (m := 98) rfl Tryz.call98 Tryz.func98 mt_39 rfl (.inl (by decide))
  · exact .mk (m := 99) rfl Tryz.call99 Tryz.func99 mt_40 rfl (.inl (by decide))
  · exact .mk (m := 100) rfl Tryz.call100 Tryz.func100 mt_41 rfl (.inl (by decide))
  · exact .mk (m := 101) rfl Tryz.call101 Tryz.func101 mt_42 rfl (.inl (by decide))
  · exact .mk (m := 153) rfl Tryz.call153 Tryz.func153 mt_43 rfl (.inl (by decide))
  · exact .mk (m := 109) rfl Tryz.call109 Tryz.func109 mt_46 rfl (.inl (by decide))
  · exact .mk (m := 110) rfl Tryz.call110 Tryz.func110 mt_47 rfl (.inl (by decide))
  · exact .mk (m := 111) rfl Tryz.call111 Tryz.func111 mt_48 rfl (.inl (by decide))
  · exact .mk (m := 113) rfl Tryz.call113 Tryz.func113 mt_49 rfl (.inl (by decide))
  · exact .mk (m := 114) rfl Tryz.call114 Tryz.func114 mt_50 rfl (.inl (by decide))
  · exact .mk (m := 115) rfl Tryz.call115 Tryz.func115 mt_51 rfl (.inl (by decide))
  · exact .mk (m := 116) rfl Tryz.call116 Tryz.func116 mt_52 rfl (.inl (by decide))
  · exact .mk (m := 117) rfl Tryz.call117 Tryz.func117 mt_53 rfl (.inl (by decide))
  · exact .mk (m := 128) rfl Tryz.call128 Tryz.func128 mt_56 rfl (.inl (by decide))
  · exact .mk (m := 129) rfl Tryz.call129 Tryz.func129 mt_57 rfl (.inl (by decide))
  · exact .mk (m := 130) rfl Tryz.call130 Tryz.func130 mt_58 rfl (.inl (by decide))
  · exact .mk (m := 230) rfl Tryz.call230 Tryz.func230 mt_60 rfl (.inl (by decide))
  · exact .mk (m := 134) rfl Tryz.call134 Tryz.func134 mt_64 rfl (.inl (by decide))
  · exact .mk (m := 172) rfl Tryz.call172 Tryz.func172 mt_67 rfl (.inl (by decide))
  · exact .mk (m := 173) rfl Tryz.call173 Tryz.func173 mt_69 rfl (.inl (by decide))
  · exact .mk (m := 174) rfl Tryz.call174 Tryz.func174 mt_70 rfl (.inl (by decide))
  · trivial
theorem mt_c1 : ∀ n, MtAt W n (prog_1 n) := by
  intro n
  unfold prog_1
  split
  · exact .mk (m := 182) rfl Tryz.call182 Tryz.func182 mt_71 rfl (.inl (by decide))
  · exact .mk (m := 177) rfl Tryz.call177 Tryz.func177 mt_72 rfl (.inl (by decide))
  · exact .mk (m := 190) rfl Tryz.call190 Tryz.func190 mt_77 rfl (.inl (by decide))
  · exact .mk (m := 191) rfl Tryz.call191 Tryz.func191 mt_78 rfl (.inl (by decide))
  · exact .mk (m := 192) rfl Tryz.call192 Tryz.func192 mt_79 rfl (.inl (by decide))
  · exact .mk (m := 193) rfl Tryz.call193 Tryz.func193 mt_80 rfl (.inl (by decide))
  · exact .mk (m := 195) rfl Tryz.call195 Tryz.func195 mt_81 rfl (.inl (by decide))
  · exact .mk (m := 194) rfl Tryz.call194 Tryz.func194 mt_82 rfl (.inl (by decide))
  · exact .mk (m := 197) rfl Tryz.call197 Tryz.func197 mt_83 rfl (.inl (by decide))
  · exact .mk (m := 219) rfl Tryz.call219 Tryz.func219 mt_86 rfl (.inl (by decide))
  · exact .mk (m := 212) rfl Tryz.call212 Tryz.func212 mt_91 rfl (.inl (by decide))
  · exact .mk (m := 76) rfl Tryz.call76 Tryz.func76 mt_92 rfl (.inl (by decide))
  · exact .mk (m := 265) rfl Tryz.call265 Tryz.func265 mt_93 rfl (.inl (by decide))
  · exact .mk (m := 203) rfl Tryz.call203 Tryz.func203 mt_94 rfl (.inl (by decide))
  · exact .mk (m := 300) rfl Tryz.call300 Tryz.func300 mt_95 rfl (.inl (by decide))
  · exact .mk (m := 79) rfl Tryz.call79 Tryz.func79 mt_96 rfl (.inl (by decide))
  · exact .mk (m := 244) rfl Tryz.call244 Tryz.func244 mt_99 rfl (.inl (by decide))
  · exact .mk (m := 247) rfl Tryz.call247 Tryz.func247 mt_100 rfl (.inl (by decide))
  · exact .mk (m := 176) rfl Tryz.call176 Tryz.func176 mt_101 rfl (.inl (by decide))
  · exact .mk (m := 104) rfl Tryz.call104 Tryz.func104 mt_102 rfl (.inl (by decide))
  · exact .mk (m := 249) rfl Tryz.call249 Tryz.func249 mt_103 rfl (.inl (by decide))
  · exact .mk (m := 250) rfl Tryz.call250 Tryz.func250 mt_104 rfl (.inl (by decide))
  · exact .mk (m := 256) rfl Tryz.call256 Tryz.func256 mt_109 rfl (.inl (by decide))
  · exact .mk (m := 258) rfl Tryz.call258 Tryz.func258 mt_110 rfl (.inl (by decide))
  · exact .mk (m := 257) rfl Tryz.call257 Tryz.func257 mt_111 rfl (.inl (by decide))
  · exact .mk (m := 260) rfl Tryz.call260 Tryz.func260 mt_112 rfl (.inl (by decide))
  · exact .mk (m := 196) rfl Tryz.call196 Tryz.func196 mt_113 rfl (.inl (by decide))
  · exact .mk (m := 261) rfl Tryz.call261 Tryz.func261 mt_114 rfl (.inl (by decide))
  · exact .mk (m := 288) rfl Tryz.call288 Tryz.func288 mt_116 rfl (.inl (by decide))
  · exact .mk (m := 269) rfl Tryz.call269 Tryz.func269 mt_123 rfl (.inl (by decide))
  · exact .mk (m := 270) rfl Tryz.call270 Tryz.func270 mt_124 rfl (.inl (by decide))
  · exact .mk (m := 157) rfl Tryz.call157 Tryz.func157 mt_125 rfl (.inl (by decide))
  · exact .mk (m := 122) rfl Tryz.call122 Tryz.func122 mt_126 rfl (.inl (by decide))
  · exact .mk (m := 245) rfl Tryz.call245 Tryz.func245 mt_127 rfl (.inl (by decide))
  · exact .mk (m := 246) rfl Tryz.call246 Tryz.func246 mt_128 rfl (.inl (by decide))
  · exact .mk (m := 175) rfl Tryz.call175 Tryz.func175 mt_129 rfl (.inl (by decide))
  · exact .mk (m := 178) rfl Tryz.call178 Tryz.func178 mt_130 rfl (.inl (by decide))
  · exact .mk (m := 179) rfl Tryz.call179 Tryz.func179 mt_131 rfl (.inl (by decide))
  · exact .mk (m := 309) rfl Tryz.call309 Tryz.func309 mt_133 rfl (.inl (by decide))
  · exact .mk (m := 259) rfl Tryz.call259 Tryz.func259 mt_134 rfl (.inl (by decide))
  · trivial
theorem mt_c2 : ∀ n, MtAt W n (prog_2 n) := by
  intro n
  unfold prog_2
  split
  · exact .mk (m := 118) rfl Tryz.call118 Tryz.func118 mt_138 rfl (.inl (by decide))
  · exact .mk (m := 272) rfl Tryz.call272 Tryz.func272 mt_139 rfl (.inl (by decide))
  · exact .mk (m := 312) rfl Tryz.call312 Tryz.func312 mt_145 rfl (.inl (by decide))
  · exact .mk (m := 313) rfl Tryz.call313 Tryz.func313 mt_146 rfl (.inl (by decide))
  · exact .intr (m := 315) rfl (by decide) good_Read
  · exact .mk (m := 201) rfl Tryz.call201 Tryz.func201 mt_148 rfl (.inl (by decide))
  · exact .mk (m := 202) rfl Tryz.call202 Tryz.func202 mt_149 rfl (.inl (by decide))
  · exact .mk (m := 204) rfl Tryz.call204 Tryz.func204 mt_150 rfl (.inl (by decide))
  · exact .intr (m := 206) rfl (by decide) good_String
  · exact .mk (m := 205) rfl Tryz.call205 Tryz.func205 mt_152 rfl (.inl (by decide))
  · exact .mk (m := 181) rfl Tryz.call181 Tryz.func181 mt_153 rfl (.inl (by decide))
  · exact .mk (m := 183) rfl Tryz.call183 Tryz.func183 mt_154 rfl (.inl (by decide))
  · exact .mk (m := 248) rfl Tryz.call248 Tryz.func248 mt_155 rfl (.inl (by decide))
  · exact .mk (m := 40) rfl Tryz.call40 Tryz.func40 mt_156 rfl (.inl (by decide))
  · exact .mk (m := 198) rfl Tryz.call198 Tryz.func198 mt_158 rfl (.inl (by decide))
  · exact .mk (m := 266) rfl Tryz.call266 Tryz.func266 mt_159 rfl (.inl (by decide))
  · exact .mk (m := 267) rfl Tryz.call267 Tryz.func267 mt_160 rfl (.inl (by decide))
  · exact .mk (m := 314) rfl Tryz.call314 Tryz.func314 mt_164 rfl (.inl (by decide))
  · exact .mk (m := 340) rfl Tryz.call340 Tryz.func340 mt_165 rfl (.inl (by decide))
  · exact .mk (m := 264) rfl Tryz.call264 Tryz.func264 mt_166 rfl (.inl (by decide))
  · exact .mk (m := 268) rfl Tryz.call268 Tryz.func268 mt_167 rfl (.inl (by decide))
  · exact .mk (m := 48) rfl Tryz.call48 Tryz.func48 mt_168 rfl (.inl (by decide))
  · exact .mk (m := 252) rfl Tryz.call252 Tryz.func252 mt_169 rfl (.inl (by decide))
  · exact .mk (m := 310) rfl Tryz.call310 Tryz.func310 mt_170 rfl (.inl (by decide))
  · exact .mk (m := 311) rfl Tryz.call311 Tryz.func311 mt_171 rfl (.inl (by decide))
  · exact .mk (m := 119) rfl Tryz.call119 Tryz.func119 mt_172 rfl (.inl (by decide))
  · exact .mk (m := 336) rfl Tryz.call336 Tryz.func336 mt_173 rfl (.inl (by decide))
  · exact .mk (m := 120) rfl Tryz.call120 Tryz.func120 mt_177 rfl (.inl (by decide))
  · exact .intr (m := 271) rfl (by decide) good_copyCheck
  · exact .mk (m := 11) rfl Tryz.call11 Tryz.func11 mt_183 rfl (.inl (by decide))
  · exact .mk (m := 14) rfl Tryz.call14 Tryz.func14 mt_184 rfl (.inl (by decide))
  · exact .mk (m := 12) rfl Tryz.call12 Tryz.func12 mt_185 rfl (.inl (by decide))
  · exact .mk (m := 15) rfl Tryz.call15 Tryz.func15 mt_186 rfl (.inl (by decide))
  · exact .mk (m := 17) rfl Tryz.call17 Tryz.func17 mt_187 rfl (.inl (by decide))
  · exact .mk (m := 20) rfl Tryz.call20 Tryz.func20 mt_189 rfl (.inl (by decide))
  · exact .mk (m := 38) rfl Tryz.call38 Tryz.func38 mt_196 rfl (.inl (by decide))
  · exact .mk (m := 41) rfl Tryz.call41 Tryz.func41 mt_197 rfl (.inl (by decide))
  · exact .mk (m := 42) rfl Tryz.call42 Tryz.func42 mt_198 rfl (.inl (by decide))
  · exact .mk (m := 46) rfl Tryz.call46 Tryz.func46 mt_199 rfl (.inl (by decide))
  · exact .mk (m := 50) rfl Tryz.call50 Tryz.func50 mt_200 rfl (.inl (by decide))
  · trivial
theorem mt_c3 : ∀ n, MtAt W n (prog_3 n) := by
  intro n
  unfold prog_3
  split
  · exact .mk (m := 49) rfl Tryz.call49 Tryz.func49 mt_201 rfl (.inl (by decide))
  · exact .mk (m := 55) rfl Tryz.call55 Tryz.func55 mt_202 rfl (.inl (by decide))
  · exact .mk (m := 59) rfl Tryz.call59 Tryz.func59 mt_204 rfl (.inl (by decide))
  · exact .mk (m := 60) rfl Tryz.call60 Tryz.func60 mt_205 rfl (.inl (by decide))
  · exact .mk (m := 95) rfl Tryz.call95 Tryz.func95 mt_213 rfl (.inl (by decide))
  · exact .intr (m := 102) rfl (by decide) good_Own
  · exact .mk (m := 103) rfl Tryz.call103 Tryz.func103 mt_215 rfl (.inl (by decide))
  · exact .mk (m := 105) rfl Tryz.call105 Tryz.func105 mt_216 rfl (.inl (by decide))
  · exact .mk (m := 106) rfl Tryz.call106 Tryz.func106 mt_217 rfl (.inl (by decide))
  · exact .mk (m := 107) rfl Tryz.call107 Tryz.func107 mt_218 rfl (.inl (by decide))
  · exact .mk (m := 108) rfl Tryz.call108 Tryz.func108 mt_219 rfl (.inl (by decide))
  · exact .mk (m := 112) rfl Tryz.call112 Tryz.func112 mt_220 rfl (.inl (by decide))
  · exact .mk (m := 121) rfl Tryz.call121 Tryz.func121 mt_221 rfl (.inl (by decide))
  · exact .mk (m := 51) rfl Tryz.call51 Tryz.func51 mt_222 rfl (.inl (by decide))
  · exact .mk (m := 123) rfl Tryz.call123 Tryz.func123 mt_223 rfl (.inl (by decide))
  · exact .mk (m := 124) rfl Tryz.call124 Tryz.func124 mt_224 rfl (.inl (by decide))
  · exact .mk (m := 125) rfl Tryz.call125 Tryz.func125 mt_225 rfl (.inl (by decide))
  · exact .mk (m := 126) rfl Tryz.call126 Tryz.func126 mt_226 rfl (.inl (by decide))
  · exact .mk (m := 127) rfl Tryz.call127 Tryz.func127 mt_227 rfl (.inl (by decide))
  · exact .mk (m := 131) rfl Tryz.call131 Tryz.func131 mt_228 rfl (.inl (by decide))
  · exact .mk (m := 135) rfl Tryz.call135 Tryz.func135 mt_229 rfl (.inl (by decide))
  · exact .mk (m := 136) rfl Tryz.call136 Tryz.func136 mt_230 rfl (.inl (by decide))
  · exact .mk (m := 180) rfl Tryz.call180 Tryz.func180 mt_245 rfl (.inl (by decide))
  · exact .mk (m := 185) rfl Tryz.call185 Tryz.func185 mt_246 rfl (.inl (by decide))
  · exact .mk (m := 184) rfl Tryz.call184 Tryz.func184 mt_247 rfl (.inl (by decide))
  · exact .mk (m := 186) rfl Tryz.call186 Tryz.func186 mt_248 rfl (.inl (by decide))
  · exact .mk (m := 161) rfl Tryz.call161 Tryz.func161 mt_249 rfl (.inl (by decide))
  · exact .mk (m := 187) rfl Tryz.call187 Tryz.func187 mt_250 rfl (.inl (by decide))
  · exact .mk (m := 189) rfl Tryz.call189 Tryz.func189 mt_251 rfl (.inl (by decide))
  · exact .mk (m := 188) rfl Tryz.call188 Tryz.func188 mt_252 rfl (.inl (by decide))
  · exact .mk (m := 199) rfl Tryz.call199 Tryz.func199 mt_253 rfl (.inl (by decide))
  · exact .intr (m := 200) rfl (by decide) good_ClonePage
  · exact .mk (m := 207) rfl Tryz.call207 Tryz.func207 mt_255 rfl (.inl (by decide))
  · exact .mk (m := 208) rfl Tryz.call208 Tryz.func208 mt_256 rfl (.inl (by decide))
  · exact .mk (m := 209) rfl Tryz.call209 Tryz.func209 mt_257 rfl (.inl (by decide))
  · exact .mk (m := 211) rfl Tryz.call211 Tryz.func211 mt_258 rfl (.inl (by decide))
  · exact .mk (m := 210) rfl Tryz.call210 Tryz.func210 mt_259 rfl (.inl (by decide))
  · exact .mk (m := 251) rfl Tryz.call251 Tryz.func251 mt_268 rfl (.inl (by decide))
  · exact .mk (m := 254) rfl Tryz.call254 Tryz.func254 mt_269 rfl (.inl (by decide))
  · exact .mk (m := 253) rfl Tryz.call253 Tryz.func253 mt_270 rfl (.inl (by decide))
  · trivial
theorem mt_c4 : ∀ n, MtAt W n (prog_4 n) := by
  intro n
  unfold prog_4
  split
  · exact .mk (m := 255) rfl Tryz.call255 Tryz.func255 mt_271 rfl (.inl (by decide))
  · exact .intr (m := 262) rfl (by decide) good_CloneStr
  · exact .intr (m := 263) rfl (by decide) good_ClonePut
  · exact .mk (m := 273) rfl Tryz.call273 Tryz.func273 mt_274 rfl (.inl (by decide))
  · exact .mk (m := 274) rfl Tryz.call274 Tryz.func274 mt_275 rfl (.inl (by decide))
  · exact .intr (m := 275) rfl (by decide) good_InsertPage
  · exact .mk (m := 276) rfl Tryz.call276 Tryz.func276 mt_277 rfl (.inl (by decide))
  · exact .intr (m := 319) rfl (by decide) good_Repeat
  · exact .mk (m := 3) rfl Tryz.call3 Tryz.func3 mt_400 rfl (.inl (by decide))
  · exact .mk (m := 18) rfl Tryz.call18 Tryz.func18 mt_1008 rfl (.inr ⟨_, _, _, _, rfl⟩)
  · exact .mk (m := 56) rfl Tryz.call56 Tryz.func56 mt_1029 rfl (.inr ⟨_, _, _, _, rfl⟩)
  · exact .mk (m := 57) rfl Tryz.call57 Tryz.func57 mt_1030 rfl (.inr ⟨_, _, _, _, rfl⟩)
  · exact .mk (m := 132) rfl Tryz.call132 Tryz.func132 mt_1062 rfl (.inr ⟨_, _, _, _, rfl⟩)
  · exact .mk (m := 133) rfl Tryz.call133 Tryz.func133 mt_1063 rfl (.inr ⟨_, _, _, _, rfl⟩)
  · exact .mk (m := 19) rfl Tryz.call19 Tryz.func19 mt_1188 rfl (.inr ⟨_, _, _, _, rfl⟩)
  · exact .mk (m := 58) rfl Tryz.call58 Tryz.func58 mt_1203 rfl (.inr ⟨_, _, _, _, rfl⟩)
  · trivial
theorem mt_all : ∀ n, MtAt W n (prog n) := by
  intro n
  unfold prog
  split
  · exact mt_c0 hm n
  split
  · exact mt_c1 hm n
  split
  · exact mt_c2 hm n
  split
  · exact mt_c3 hm n
  exact mt_c4 hm n
theorem matched : Matched Tryz.prog phi tbS ⟨W.heap.size, Tryz.prog⟩ (oldJ W) prog where
  ir f np nt rs k e := by have := mt_all hm f; rw [e] at this; exact this
  pin f np nt rs k e := by have := mt_all hm f; rw [e] at this; exact this
  intr f sem e := by have := mt_all hm f; rw [e] at this; exact this
end
end Go.VS
