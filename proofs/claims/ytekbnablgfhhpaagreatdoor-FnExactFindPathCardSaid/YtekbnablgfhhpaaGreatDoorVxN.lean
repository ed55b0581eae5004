/-
  Our program is the seat's. Printed by mtall.py.
-/
import Derived.Test.YtekbnablgfhhpaaGreatDoorVxJ3
import Derived.Test.YtekbnablgfhhpaaGreatDoorVxU2
import Derived.Test.YtekbnablgfhhpaaGreatDoorVxG
set_option linter.all false
namespace Go.VS
open Go Go.Proofs

/-- What is asked of one of our functions. -/
def MtAt (W : World) (n : Nat) : Option Fd → Prop
  | none => True
  | some (.ir _ nt rs k) => n < 1000 ∧ (∀ args w, (callFunc (phi n) args).run Tryz.prog w = .ok (.enter (phi n) args) w) ∧ ∃ fn, Tryz.prog.funcs[phi n]? = some fn ∧ mF tbS phi fn nt rs k = true
  | some (.pin _ nt rs k) => (∀ args w, (callFunc (phi n) args).run Tryz.prog w = .ok (.enter (phi n) args) w) ∧ ∃ fn, Tryz.prog.funcs[phi n]? = some fn ∧ mF tbS phi fn nt rs k = true
  | some (.intr sem) => ∀ s o, sem s = some o → Good Tryz.prog phi ⟨W.heap.size, Tryz.prog⟩ (oldJ W) (decide (1000 ≤ n)) (phi n) s o
def Fd.plain : Fd → Bool
  | .intr _ => false
  | _ => true
theorem MtAt.mk {W : World} {n m : Nat} {fd : Fd} {F : Func} (hp : phi n = m) (hc : ∀ args w, (callFunc m args).run Tryz.prog w = .ok (.enter m args) w) (hf : Tryz.prog.funcs[m]? = some F) (h : mFd F fd = true) (hi : fd.plain = true) (hn : n < 1000 ∨ ∃ a b c d, fd = .pin a b c d) : MtAt W n (some fd) := by
  subst hp
  cases fd with
  | ir np nt rs k => rcases hn with hn | ⟨_, _, _, _, e⟩; exact ⟨hn, hc, F, hf, h⟩; cases e
  | pin np nt rs k => exact ⟨hc, F, hf, h⟩
  | intr => cases hi
theorem MtAt.intr {W : World} {n m : Nat} {sem : St → Option Out} (hp : phi n = m) (hn : n < 1000) (h : ∀ s o, sem s = some o → Good Tryz.prog phi ⟨W.heap.size, Tryz.prog⟩ (oldJ W) false m s o) : MtAt W n (some (.intr sem)) := by
  subst hp
  show ∀ s o, sem s = some o → Good Tryz.prog phi ⟨W.heap.size, Tryz.prog⟩ (oldJ W) (decide (1000 ≤ n)) (phi n) s o
  rw [decide_eq_false (by omega)]
  exact h
section
variable {W : World} {mm : Int} (hm : W.cell? ⟨0, 0, none⟩ = some (.int .i64 mm))
include hm
set_option maxRecDepth 100000
theorem mt_all : ∀ n, MtAt W n (prog n) := by
  intro n
  unfold prog
  split
  · exact .mk (m := 6) rfl Tryz.call6 Tryz.func6 mt_0 rfl (.inl (by decide))
  · exact .mk (m := 8) rfl Tryz.call8 Tryz.func8 mt_1 rfl (.inl (by decide))
  · exact .mk (m := 7) rfl Tryz.call7 Tryz.func7 mt_2 rfl (.inl (by decide))
  · exact .mk (m := 9) rfl Tryz.call9 Tryz.func9 mt_3 rfl (.inl (by decide))
  · exact .mk (m := 10) rfl Tryz.call10 Tryz.func10 mt_4 rfl (.inl (by decide))
  · exact .mk (m := 11) rfl Tryz.call11 Tryz.func11 mt_5 rfl (.inl (by decide))
  · exact .mk (m := 12) rfl Tryz.call12 Tryz.func12 mt_6 rfl (.inl (by decide))
  · exact .mk (m := 13) rfl Tryz.call13 Tryz.func13 mt_7 rfl (.inl (by decide))
  · exact .mk (m := 14) rfl Tryz.call14 Tryz.func14 mt_8 rfl (.inl (by decide))
  · exact .mk (m := 16) rfl Tryz.call16 Tryz.func16 mt_10 rfl (.inl (by decide))
  · exact .mk (m := 17) rfl Tryz.call17 Tryz.func17 mt_11 rfl (.inl (by decide))
  · exact .mk (m := 18) rfl Tryz.call18 Tryz.func18 mt_12 rfl (.inl (by decide))
  · exact .mk (m := 19) rfl Tryz.call19 Tryz.func19 mt_13 rfl (.inl (by decide))
  · exact .mk (m := 20) rfl Tryz.call20 Tryz.func20 mt_14 rfl (.inl (by decide))
  · exact .mk (m := 21) rfl Tryz.call21 Tryz.func21 mt_15 rfl (.inl (by decide))
  · exact .mk (m := 22) rfl Tryz.call22 Tryz.func22 mt_16 rfl (.inl (by decide))
  · exact .mk (m := 23) rfl Tryz.call23 Tryz.func23 mt_17 rfl (.inl (by decide))
  · exact .mk (m := 24) rfl Tryz.call24 Tryz.func24 mt_18 rfl (.inl (by decide))
  · exact .mk (m := 25) rfl Tryz.call25 Tryz.func25 mt_19 rfl (.inl (by decide))
  · exact .mk (m := 26) rfl Tryz.call26 Tryz.func26 mt_20 rfl (.inl (by decide))
  · exact .mk (m := 27) rfl Tryz.call27 Tryz.func27 mt_21 rfl (.inl (by decide))
  · exact .mk (m := 28) rfl Tryz.call28 Tryz.func28 mt_22 rfl (.inl (by decide))
  · exact .mk (m := 29) rfl Tryz.call29 Tryz.func29 mt_23 rfl (.inl (by decide))
  · exact .mk (m := 30) rfl Tryz.call30 Tryz.func30 mt_24 rfl (.inl (by decide))
  · exact .mk (m := 31) rfl Tryz.call31 Tryz.func31 mt_25 rfl (.inl (by decide))
  · exact .mk (m := 32) rfl Tryz.call32 Tryz.func32 mt_26 rfl (.inl (by decide))
  · exact .mk (m := 33) rfl Tryz.call33 Tryz.func33 mt_27 rfl (.inl (by decide))
  · exact .mk (m := 34) rfl Tryz.call34 Tryz.func34 mt_28 rfl (.inl (by decide))
  · exact .mk (m := 35) rfl Tryz.call35 Tryz.func35 mt_29 rfl (.inl (by decide))
  · exact .mk (m := 36) rfl Tryz.call36 Tryz.func36 mt_30 rfl (.inl (by decide))
  · exact .mk (m := 37) rfl Tryz.call37 Tryz.func37 mt_31 rfl (.inl (by decide))
  · exact .mk (m := 38) rfl Tryz.call38 Tryz.func38 mt_32 rfl (.inl (by decide))
  · exact .mk (m := 39) rfl Tryz.call39 Tryz.func39 mt_33 rfl (.inl (by decide))
  · exact .mk (m := 40) rfl Tryz.call40 Tryz.func40 mt_34 rfl (.inl (by decide))
  · exact .mk (m := 41) rfl Tryz.call41 Tryz.func41 mt_35 rfl (.inl (by decide))
  · exact .mk (m := 42) rfl Tryz.call42 Tryz.func42 mt_36 rfl (.inl (by decide))
  · exact .mk (m := 43) rfl Tryz.call43 Tryz.func43 mt_37 rfl (.inl (by decide))
  · exact .mk (m := 44) rfl Tryz.call44 Tryz.func44 mt_38 rfl (.inl (by decide))
  · exact .mk (m := 45) rfl Tryz.call45 Tryz.func45 mt_39 rfl (.inl (by decide))
  · exact .mk (m := 46) rfl Tryz.call46 Tryz.func46 mt_40 rfl (.inl (by decide))
  · exact .mk (m := 47) rfl Tryz.call47 Tryz.func47 mt_41 rfl (.inl (by decide))
  · exact .mk (m := 48) rfl Tryz.call48 Tryz.func48 mt_42 rfl (.inl (by decide))
  · exact .mk (m := 49) rfl Tryz.call49 Tryz.func49 mt_43 rfl (.inl (by decide))
  · exact .mk (m := 50) rfl Tryz.call50 Tryz.func50 mt_44 rfl (.inl (by decide))
  · exact .mk (m := 51) rfl Tryz.call51 Tryz.func51 mt_45 rfl (.inl (by decide))
  · exact .mk (m := 52) rfl Tryz.call52 Tryz.func52 mt_46 rfl (.inl (by decide))
  · exact .mk (m := 53) rfl Tryz.call53 Tryz.func53 mt_47 rfl (.inl (by decide))
  · exact .mk (m := 54) rfl Tryz.call54 Tryz.func54 mt_48 rfl (.inl (by decide))
  · exact .mk (m := 55) rfl Tryz.call55 Tryz.func55 mt_49 rfl (.inl (by decide))
  · exact .mk (m := 56) rfl Tryz.call56 Tryz.func56 mt_50 rfl (.inl (by decide))
  · exact .mk (m := 57) rfl Tryz.call57 Tryz.func57 mt_51 rfl (.inl (by decide))
  · exact .mk (m := 58) rfl Tryz.call58 Tryz.func58 mt_52 rfl (.inl (by decide))
  · exact .mk (m := 59) rfl Tryz.call59 Tryz.func59 mt_53 rfl (.inl (by decide))
  · exact .mk (m := 60) rfl Tryz.call60 Tryz.func60 mt_54 rfl (.inl (by decide))
  · exact .mk (m := 61) rfl Tryz.call61 Tryz.func61 mt_55 rfl (.inl (by decide))
  · exact .mk (m := 62) rfl Tryz.call62 Tryz.func62 mt_56 rfl (.inl (by decide))
  · exact .mk (m := 63) rfl Tryz.call63 Tryz.func63 mt_57 rfl (.inl (by decide))
  · exact .mk (m := 64) rfl Tryz.call64 Tryz.func64 mt_58 rfl (.inl (by decide))
  · exact .mk (m := 65) rfl Tryz.call65 Tryz.func65 mt_59 rfl (.inl (by decide))
  · exact .mk (m := 66) rfl Tryz.call66 Tryz.func66 mt_60 rfl (.inl (by decide))
  · exact .mk (m := 67) rfl Tryz.call67 Tryz.func67 mt_61 rfl (.inl (by decide))
  · exact .mk (m := 68) rfl Tryz.call68 Tryz.func68 mt_62 rfl (.inl (by decide))
  · exact .mk (m := 69) rfl Tryz.call69 Tryz.func69 mt_63 rfl (.inl (by decide))
  · exact .mk (m := 70) rfl Tryz.call70 Tryz.func70 mt_64 rfl (.inl (by decide))
  · exact .mk (m := 71) rfl Tryz.call71 Tryz.func71 mt_65 rfl (.inl (by decide))
  · exact .mk (m := 72) rfl Tryz.call72 Tryz.func72 mt_66 rfl (.inl (by decide))
  · exact .mk (m := 73) rfl Tryz.call73 Tryz.func73 mt_67 rfl (.inl (by decide))
  · exact .mk (m := 74) rfl Tryz.call74 Tryz.func74 mt_68 rfl (.inl (by decide))
  · exact .mk (m := 75) rfl Tryz.call75 Tryz.func75 mt_69 rfl (.inl (by decide))
  · exact .mk (m := 76) rfl Tryz.call76 Tryz.func76 mt_70 rfl (.inl (by decide))
  · exact .mk (m := 78) rfl Tryz.call78 Tryz.func78 mt_71 rfl (.inl (by decide))
  · exact .mk (m := 77) rfl Tryz.call77 Tryz.func77 mt_72 rfl (.inl (by decide))
  · exact .mk (m := 79) rfl Tryz.call79 Tryz.func79 mt_73 rfl (.inl (by decide))
  · exact .mk (m := 80) rfl Tryz.call80 Tryz.func80 mt_74 rfl (.inl (by decide))
  · exact .mk (m := 81) rfl Tryz.call81 Tryz.func81 mt_75 rfl (.inl (by decide))
  · exact .mk (m := 82) rfl Tryz.call82 Tryz.func82 mt_76 rfl (.inl (by decide))
  · exact .mk (m := 83) rfl Tryz.call83 Tryz.func83 mt_77 rfl (.inl (by decide))
  · exact .mk (m := 84) rfl Tryz.call84 Tryz.func84 mt_78 rfl (.inl (by decide))
  · exact .mk (m := 85) rfl Tryz.call85 Tryz.func85 mt_79 rfl (.inl (by decide))
  · exact .mk (m := 86) rfl Tryz.call86 Tryz.func86 mt_80 rfl (.inl (by decide))
  · exact .mk (m := 88) rfl Tryz.call88 Tryz.func88 mt_81 rfl (.inl (by decide))
  · exact .mk (m := 87) rfl Tryz.call87 Tryz.func87 mt_82 rfl (.inl (by decide))
  · exact .mk (m := 90) rfl Tryz.call90 Tryz.func90 mt_83 rfl (.inl (by decide))
  · exact .mk (m := 91) rfl Tryz.call91 Tryz.func91 mt_84 rfl (.inl (by decide))
  · exact .intr (m := 92) rfl (by decide) (good_Split hm)
  · exact .mk (m := 93) rfl Tryz.call93 Tryz.func93 mt_86 rfl (.inl (by decide))
  · exact .mk (m := 94) rfl Tryz.call94 Tryz.func94 mt_87 rfl (.inl (by decide))
  · exact .mk (m := 96) rfl Tryz.call96 Tryz.func96 mt_88 rfl (.inl (by decide))
  · exact .mk (m := 97) rfl Tryz.call97 Tryz.func97 mt_89 rfl (.inl (by decide))
  · exact .mk (m := 98) rfl Tryz.call98 Tryz.func98 mt_90 rfl (.inl (by decide))
  · exact .mk (m := 99) rfl Tryz.call99 Tryz.func99 mt_91 rfl (.inl (by decide))
  · exact .mk (m := 100) rfl Tryz.call100 Tryz.func100 mt_92 rfl (.inl (by decide))
  · exact .mk (m := 103) rfl Tryz.call103 Tryz.func103 mt_93 rfl (.inl (by decide))
  · exact .mk (m := 102) rfl Tryz.call102 Tryz.func102 mt_94 rfl (.inl (by decide))
  · exact .mk (m := 101) rfl Tryz.call101 Tryz.func101 mt_95 rfl (.inl (by decide))
  · exact .mk (m := 104) rfl Tryz.call104 Tryz.func104 mt_96 rfl (.inl (by decide))
  · exact .mk (m := 105) rfl Tryz.call105 Tryz.func105 mt_97 rfl (.inl (by decide))
  · exact .mk (m := 106) rfl Tryz.call106 Tryz.func106 mt_98 rfl (.inl (by decide))
  · exact .mk (m := 107) rfl Tryz.call107 Tryz.func107 mt_99 rfl (.inl (by decide))
  · exact .mk (m := 108) rfl Tryz.call108 Tryz.func108 mt_100 rfl (.inl (by decide))
  · exact .mk (m := 109) rfl Tryz.call109 Tryz.func109 mt_101 rfl (.inl (by decide))
  · exact .mk (m := 110) rfl Tryz.call110 Tryz.func110 mt_102 rfl (.inl (by decide))
  · exact .mk (m := 111) rfl Tryz.call111 Tryz.func111 mt_103 rfl (.inl (by decide))
  · exact .mk (m := 112) rfl Tryz.call112 Tryz.func112 mt_104 rfl (.inl (by decide))
  · exact .mk (m := 113) rfl Tryz.call113 Tryz.func113 mt_105 rfl (.inl (by decide))
  · exact .mk (m := 114) rfl Tryz.call114 Tryz.func114 mt_106 rfl (.inl (by decide))
  · exact .mk (m := 115) rfl Tryz.call115 Tryz.func115 mt_107 rfl (.inl (by decide))
  · exact .mk (m := 116) rfl Tryz.call116 Tryz.func116 mt_108 rfl (.inl (by decide))
  · exact .mk (m := 117) rfl Tryz.call117 Tryz.func117 mt_109 rfl (.inl (by decide))
  · exact .mk (m := 119) rfl Tryz.call119 Tryz.func119 mt_110 rfl (.inl (by decide))
  · exact .mk (m := 118) rfl Tryz.call118 Tryz.func118 mt_111 rfl (.inl (by decide))
  · exact .mk (m := 121) rfl Tryz.call121 Tryz.func121 mt_112 rfl (.inl (by decide))
  · exact .mk (m := 89) rfl Tryz.call89 Tryz.func89 mt_113 rfl (.inl (by decide))
  · exact .mk (m := 122) rfl Tryz.call122 Tryz.func122 mt_114 rfl (.inl (by decide))
  · exact .mk (m := 123) rfl Tryz.call123 Tryz.func123 mt_115 rfl (.inl (by decide))
  · exact .mk (m := 125) rfl Tryz.call125 Tryz.func125 mt_116 rfl (.inl (by decide))
  · exact .mk (m := 95) rfl Tryz.call95 Tryz.func95 mt_117 rfl (.inl (by decide))
  · exact .mk (m := 126) rfl Tryz.call126 Tryz.func126 mt_118 rfl (.inl (by decide))
  · exact .mk (m := 127) rfl Tryz.call127 Tryz.func127 mt_119 rfl (.inl (by decide))
  · exact .mk (m := 128) rfl Tryz.call128 Tryz.func128 mt_120 rfl (.inl (by decide))
  · exact .mk (m := 130) rfl Tryz.call130 Tryz.func130 mt_121 rfl (.inl (by decide))
  · exact .mk (m := 129) rfl Tryz.call129 Tryz.func129 mt_122 rfl (.inl (by decide))
  · exact .mk (m := 132) rfl Tryz.call132 Tryz.func132 mt_123 rfl (.inl (by decide))
  · exact .mk (m := 133) rfl Tryz.call133 Tryz.func133 mt_124 rfl (.inl (by decide))
  · exact .mk (m := 134) rfl Tryz.call134 Tryz.func134 mt_125 rfl (.inl (by decide))
  · exact .mk (m := 135) rfl Tryz.call135 Tryz.func135 mt_126 rfl (.inl (by decide))
  · exact .mk (m := 136) rfl Tryz.call136 Tryz.func136 mt_127 rfl (.inl (by decide))
  · exact .mk (m := 137) rfl Tryz.call137 Tryz.func137 mt_128 rfl (.inl (by decide))
  · exact .mk (m := 138) rfl Tryz.call138 Tryz.func138 mt_129 rfl (.inl (by decide))
  · exact .mk (m := 139) rfl Tryz.call139 Tryz.func139 mt_130 rfl (.inl (by decide))
  · exact .mk (m := 140) rfl Tryz.call140 Tryz.func140 mt_131 rfl (.inl (by decide))
  · exact .mk (m := 141) rfl Tryz.call141 Tryz.func141 mt_132 rfl (.inl (by decide))
  · exact .mk (m := 142) rfl Tryz.call142 Tryz.func142 mt_133 rfl (.inl (by decide))
  · exact .mk (m := 120) rfl Tryz.call120 Tryz.func120 mt_134 rfl (.inl (by decide))
  · exact .mk (m := 143) rfl Tryz.call143 Tryz.func143 mt_135 rfl (.inl (by decide))
  · exact .mk (m := 147) rfl Tryz.call147 Tryz.func147 mt_136 rfl (.inl (by decide))
  · exact .mk (m := 149) rfl Tryz.call149 Tryz.func149 mt_137 rfl (.inl (by decide))
  · exact .mk (m := 148) rfl Tryz.call148 Tryz.func148 mt_138 rfl (.inl (by decide))
  · exact .mk (m := 150) rfl Tryz.call150 Tryz.func150 mt_139 rfl (.inl (by decide))
  · exact .mk (m := 151) rfl Tryz.call151 Tryz.func151 mt_140 rfl (.inl (by decide))
  · exact .mk (m := 152) rfl Tryz.call152 Tryz.func152 mt_141 rfl (.inl (by decide))
  · exact .mk (m := 153) rfl Tryz.call153 Tryz.func153 mt_142 rfl (.inl (by decide))
  · exact .mk (m := 154) rfl Tryz.call154 Tryz.func154 mt_143 rfl (.inl (by decide))
  · exact .intr (m := 155) rfl (by decide) good_UsedSlots
  · exact .mk (m := 156) rfl Tryz.call156 Tryz.func156 mt_145 rfl (.inl (by decide))
  · exact .mk (m := 157) rfl Tryz.call157 Tryz.func157 mt_146 rfl (.inl (by decide))
  · exact .intr (m := 159) rfl (by decide) good_Read
  · exact .mk (m := 160) rfl Tryz.call160 Tryz.func160 mt_148 rfl (.inl (by decide))
  · exact .mk (m := 161) rfl Tryz.call161 Tryz.func161 mt_149 rfl (.inl (by decide))
  · exact .mk (m := 162) rfl Tryz.call162 Tryz.func162 mt_150 rfl (.inl (by decide))
  · exact .intr (m := 164) rfl (by decide) good_String
  · exact .mk (m := 163) rfl Tryz.call163 Tryz.func163 mt_152 rfl (.inl (by decide))
  · exact .mk (m := 165) rfl Tryz.call165 Tryz.func165 mt_153 rfl (.inl (by decide))
  · exact .mk (m := 166) rfl Tryz.call166 Tryz.func166 mt_154 rfl (.inl (by decide))
  · exact .mk (m := 167) rfl Tryz.call167 Tryz.func167 mt_155 rfl (.inl (by decide))
  · exact .mk (m := 168) rfl Tryz.call168 Tryz.func168 mt_156 rfl (.inl (by decide))
  · exact .mk (m := 174) rfl Tryz.call174 Tryz.func174 mt_157 rfl (.inl (by decide))
  · exact .mk (m := 173) rfl Tryz.call173 Tryz.func173 mt_158 rfl (.inl (by decide))
  · exact .mk (m := 175) rfl Tryz.call175 Tryz.func175 mt_159 rfl (.inl (by decide))
  · exact .mk (m := 176) rfl Tryz.call176 Tryz.func176 mt_160 rfl (.inl (by decide))
  · exact .mk (m := 177) rfl Tryz.call177 Tryz.func177 mt_161 rfl (.inl (by decide))
  · exact .mk (m := 178) rfl Tryz.call178 Tryz.func178 mt_162 rfl (.inl (by decide))
  · exact .mk (m := 179) rfl Tryz.call179 Tryz.func179 mt_163 rfl (.inl (by decide))
  · exact .mk (m := 158) rfl Tryz.call158 Tryz.func158 mt_164 rfl (.inl (by decide))
  · exact .mk (m := 183) rfl Tryz.call183 Tryz.func183 mt_165 rfl (.inl (by decide))
  · exact .mk (m := 185) rfl Tryz.call185 Tryz.func185 mt_166 rfl (.inl (by decide))
  · exact .mk (m := 186) rfl Tryz.call186 Tryz.func186 mt_167 rfl (.inl (by decide))
  · exact .mk (m := 188) rfl Tryz.call188 Tryz.func188 mt_168 rfl (.inl (by decide))
  · exact .mk (m := 189) rfl Tryz.call189 Tryz.func189 mt_169 rfl (.inl (by decide))
  · exact .mk (m := 195) rfl Tryz.call195 Tryz.func195 mt_170 rfl (.inl (by decide))
  · exact .mk (m := 197) rfl Tryz.call197 Tryz.func197 mt_171 rfl (.inl (by decide))
  · exact .mk (m := 199) rfl Tryz.call199 Tryz.func199 mt_172 rfl (.inl (by decide))
  · exact .mk (m := 203) rfl Tryz.call203 Tryz.func203 mt_173 rfl (.inl (by decide))
  · exact .mk (m := 200) rfl Tryz.call200 Tryz.func200 mt_177 rfl (.inl (by decide))
  · exact .intr (m := 187) rfl (by decide) good_copyCheck
  · exact .mk (m := 4) rfl Tryz.call4 Tryz.func4 mt_179 rfl (.inl (by decide))
  · exact .mk (m := 5) rfl Tryz.call5 Tryz.func5 mt_180 rfl (.inl (by decide))
  · exact .mk (m := 3) rfl Tryz.call3 Tryz.func3 mt_181 rfl (.inl (by decide))
  · exact .intr (m := 131) rfl (by decide) good_Grow
  · exact .mk (m := 15) rfl Tryz.call15 Tryz.func15 mt_1009 rfl (.inr ⟨_, _, _, _, rfl⟩)
  · trivial
theorem matched : Matched Tryz.prog phi tbS ⟨W.heap.size, Tryz.prog⟩ (oldJ W) prog where
  ir f np nt rs k e := by have := mt_all hm f; rw [e] at this; exact this
  pin f np nt rs k e := by have := mt_all hm f; rw [e] at this; exact this
  intr f sem e := by have := mt_all hm f; rw [e] at this; exact this
end
end Go.VS
