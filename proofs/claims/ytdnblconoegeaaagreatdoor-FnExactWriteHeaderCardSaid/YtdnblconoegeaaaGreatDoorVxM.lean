/-
  Our functions and the seat's. Printed by matchgen.py.
-/
import Derived.Test.YtdnblconoegeaaaGreatDoorB2
import Derived.Test.YtdnblconoegeaaaGreatDoorA3
import Derived.Test.YtdnblconoegeaaaGreatDoorProg
set_option linter.all false
namespace Go.VS
open Go
noncomputable section

def phi : Nat → FuncId := fun n => match n with
  | 0 => 10
  | 1 => 13
  | 4 => 16
  | 7 => 308
  | 13 => 36
  | 14 => 37
  | 16 => 39
  | 18 => 43
  | 19 => 44
  | 20 => 45
  | 21 => 47
  | 24 => 52
  | 25 => 53
  | 26 => 54
  | 33 => 92
  | 34 => 93
  | 35 => 94
  | 37 => 96
  | 38 => 97
  | 39 => 98
  | 40 => 99
  | 41 => 100
  | 42 => 101
  | 43 => 153
  | 46 => 109
  | 47 => 110
  | 48 => 111
  | 49 => 113
  | 50 => 114
  | 51 => 115
  | 52 => 116
  | 53 => 117
  | 56 => 128
  | 57 => 129
  | 58 => 130
  | 60 => 230
  | 64 => 134
  | 67 => 172
  | 69 => 173
  | 70 => 174
  | 71 => 182
  | 72 => 177
  | 77 => 190
  | 78 => 191
  | 79 => 192
  | 80 => 193
  | 81 => 195
  | 82 => 194
  | 83 => 197
  | 86 => 219
  | 91 => 212
  | 92 => 76
  | 93 => 265
  | 94 => 203
  | 95 => 300
  | 96 => 79
  | 99 => 244
  | 100 => 247
  | 101 => 176
  | 102 => 104
  | 103 => 249
  | 104 => 250
  | 109 => 256
  | 110 => 258
  | 111 => 257
  | 112 => 260
  | 113 => 196
  | 114 => 261
  | 116 => 288
  | 123 => 269
  | 124 => 270
  | 125 => 157
  | 126 => 122
  | 127 => 245
  | 128 => 246
  | 129 => 175
  | 130 => 178
  | 131 => 179
  | 133 => 309
  | 134 => 259
  | 138 => 118
  | 139 => 272
  | 145 => 312
  | 146 => 313
  | 147 => 315
  | 148 => 201
  | 149 => 202
  | 150 => 204
  | 151 => 206
  | 152 => 205
  | 153 => 181
  | 154 => 183
  | 155 => 248
  | 156 => 40
  | 158 => 198
  | 159 => 266
  | 160 => 267
  | 164 => 314
  | 165 => 340
  | 166 => 264
  | 167 => 268
  | 168 => 48
  | 169 => 252
  | 170 => 310
  | 171 => 311
  | 172 => 119
  | 173 => 336
  | 174 => 337
  | 175 => 338
  | 176 => 339
  | 177 => 120
  | 178 => 271
  | 183 => 11
  | 184 => 14
  | 185 => 12
  | 186 => 15
  | 187 => 17
  | 189 => 20
  | 196 => 38
  | 197 => 41
  | 198 => 42
  | 199 => 46
  | 200 => 50
  | 201 => 49
  | 202 => 55
  | 204 => 59
  | 205 => 60
  | 213 => 95
  | 214 => 102
  | 215 => 103
  | 216 => 105
  | 217 => 106
  | 218 => 107
  | 219 => 108
  | 220 => 112
  | 221 => 121
  | 222 => 51
  | 223 => 123
  | 224 => 124
  | 225 => 125
  | 226 => 126
  | 227 => 127
  | 228 => 131
  | 229 => 135
  | 230 => 136
  | 245 => 180
  | 246 => 185
  | 247 => 184
  | 248 => 186
  | 249 => 161
  | 250 => 187
  | 251 => 189
  | 252 => 188
  | 253 => 199
  | 254 => 200
  | 255 => 207
  | 256 => 208
  | 257 => 209
  | 258 => 211
  | 259 => 210
  | 268 => 251
  | 269 => 254
  | 270 => 253
  | 271 => 255
  | 272 => 262
  | 273 => 263
  | 274 => 273
  | 275 => 274
  | 276 => 275
  | 277 => 276
  | 286 => 319
  | 400 => 3
  | 1008 => 18
  | 1029 => 56
  | 1030 => 57
  | 1062 => 132
  | 1063 => 133
  | 1188 => 19
  | 1203 => 58
  | _ => 0

def tbS : TI := fun t => (Go.Proofs.Tryz.types)[t]?

def mFd (fn : Func) : Fd → Bool
  | .ir _ nt rs k => mF tbS phi fn nt rs k
  | .pin _ nt rs k => mF tbS phi fn nt rs k
  | .intr _ => true

theorem mt_0 : mFd Go.Proofs.Tryz.f10 f_laws_szPager = true := by decide +kernel
theorem mt_1 : mFd Go.Proofs.Tryz.f13 f_laws_toPager = true := by decide +kernel
theorem mt_4 : mFd Go.Proofs.Tryz.f16 f_laws_eqPager = true := by decide +kernel
theorem mt_7 : mFd Go.Proofs.Tryz.f308 f_laws_eqInt64S = true := by decide +kernel
theorem mt_13 : mFd Go.Proofs.Tryz.f36 f_laws_szDisk = true := by decide +kernel
theorem mt_14 : mFd Go.Proofs.Tryz.f37 f_laws_szPageS = true := by decide +kernel
theorem mt_16 : mFd Go.Proofs.Tryz.f39 f_spec_l12Ok = true := by decide +kernel
theorem mt_18 : mFd Go.Proofs.Tryz.f43 f_laws_toDisk = true := by decide +kernel
theorem mt_19 : mFd Go.Proofs.Tryz.f44 f_laws_toSuper = true := by decide +kernel
theorem mt_20 : mFd Go.Proofs.Tryz.f45 f_laws_toPageS = true := by decide +kernel
theorem mt_21 : mFd Go.Proofs.Tryz.f47 f_impl_ValidPager = true := by decide +kernel
theorem mt_24 : mFd Go.Proofs.Tryz.f52 f_laws_eqDisk = true := by decide +kernel
theorem mt_25 : mFd Go.Proofs.Tryz.f53 f_laws_eqSuper = true := by decide +kernel
theorem mt_26 : mFd Go.Proofs.Tryz.f54 f_laws_eqPageS = true := by decide +kernel
theorem mt_33 : mFd Go.Proofs.Tryz.f92 f_laws_szStringS = true := by decide +kernel
theorem mt_34 : mFd Go.Proofs.Tryz.f93 f_laws_szPutS = true := by decide +kernel
theorem mt_35 : mFd Go.Proofs.Tryz.f94 f_laws_szPage = true := by decide +kernel
theorem mt_37 : mFd Go.Proofs.Tryz.f96 f_spec_l09Ok = true := by decide +kernel
theorem mt_38 : mFd Go.Proofs.Tryz.f97 f_spec_ValidSuper = true := by decide +kernel
theorem mt_39 : mFd Go.Proofs.Tryz.f98 f_spec_l00In = true := by decide +kernel
theorem mt_40 : mFd Go.Proofs.Tryz.f99 f_spec_l11Pages = true := by decide +kernel
theorem mt_41 : mFd Go.Proofs.Tryz.f100 f_spec_l11Within = true := by decide +kernel
theorem mt_42 : mFd Go.Proofs.Tryz.f101 f_spec_l12Fits = true := by decide +kernel
theorem mt_43 : mFd Go.Proofs.Tryz.f153 f_spec_l13Root = true := by decide +kernel
theorem mt_46 : mFd Go.Proofs.Tryz.f109 f_laws_toStringS = true := by decide +kernel
theorem mt_47 : mFd Go.Proofs.Tryz.f110 f_laws_toPutS = true := by decide +kernel
theorem mt_48 : mFd Go.Proofs.Tryz.f111 f_laws_toPage = true := by decide +kernel
theorem mt_49 : mFd Go.Proofs.Tryz.f113 f_impl_superFits = true := by decide +kernel
theorem mt_50 : mFd Go.Proofs.Tryz.f114 f_impl_within = true := by decide +kernel
theorem mt_51 : mFd Go.Proofs.Tryz.f115 f_impl_ValidPages = true := by decide +kernel
theorem mt_52 : mFd Go.Proofs.Tryz.f116 f_impl_Super_inArea = true := by decide +kernel
theorem mt_53 : mFd Go.Proofs.Tryz.f117 f_impl_Super_fits = true := by decide +kernel
theorem mt_56 : mFd Go.Proofs.Tryz.f128 f_laws_eqStringS = true := by decide +kernel
theorem mt_57 : mFd Go.Proofs.Tryz.f129 f_laws_eqPutS = true := by decide +kernel
theorem mt_58 : mFd Go.Proofs.Tryz.f130 f_laws_eqPage = true := by decide +kernel
theorem mt_60 : mFd Go.Proofs.Tryz.f230 f_p_impl_Pager_root = true := by decide +kernel
theorem mt_64 : mFd Go.Proofs.Tryz.f134 f_laws_markText = true := by decide +kernel
theorem mt_67 : mFd Go.Proofs.Tryz.f172 f_laws_szPut = true := by decide +kernel
theorem mt_69 : mFd Go.Proofs.Tryz.f173 f_spec_l10Area = true := by decide +kernel
theorem mt_70 : mFd Go.Proofs.Tryz.f174 f_spec_l11Blocks = true := by decide +kernel
theorem mt_71 : mFd Go.Proofs.Tryz.f182 f_spec_l13Area = true := by decide +kernel
theorem mt_72 : mFd Go.Proofs.Tryz.f177 f_spec_l01GetUint = true := by decide +kernel
theorem mt_77 : mFd Go.Proofs.Tryz.f190 f_laws_toPut = true := by decide +kernel
theorem mt_78 : mFd Go.Proofs.Tryz.f191 f_impl_ValidDisk = true := by decide +kernel
theorem mt_79 : mFd Go.Proofs.Tryz.f192 f_impl_ValidSuper = true := by decide +kernel
theorem mt_80 : mFd Go.Proofs.Tryz.f193 f_impl_isBlock = true := by decide +kernel
theorem mt_81 : mFd Go.Proofs.Tryz.f195 f_impl_Super_inArea_s1 = true := by decide +kernel
theorem mt_82 : mFd Go.Proofs.Tryz.f194 f_slices_ContainsFunc_impl_Page_impl_Page = true := by decide +kernel
theorem mt_83 : mFd Go.Proofs.Tryz.f197 f_impl_RecordBlocks = true := by decide +kernel
theorem mt_86 : mFd Go.Proofs.Tryz.f219 f_slices_ContainsFunc_string_string = true := by decide +kernel
theorem mt_91 : mFd Go.Proofs.Tryz.f212 f_laws_eqPut = true := by decide +kernel
theorem mt_92 : mFd Go.Proofs.Tryz.f76 f_spec_l00Has = true := by decide +kernel
theorem mt_93 : mFd Go.Proofs.Tryz.f265 f_p_impl_Pager_area = true := by decide +kernel
theorem mt_94 : mFd Go.Proofs.Tryz.f203 f_p_impl_Pager_get = true := by decide +kernel
theorem mt_95 : mFd Go.Proofs.Tryz.f300 f_impl_getBits = true := by decide +kernel
theorem mt_96 : mFd Go.Proofs.Tryz.f79 f_slices_Contains_int64_int64 = true := by decide +kernel
theorem mt_99 : mFd Go.Proofs.Tryz.f244 f_spec_l11Table = true := by decide +kernel
theorem mt_100 : mFd Go.Proofs.Tryz.f247 f_spec_l01Within = true := by decide +kernel
theorem mt_101 : mFd Go.Proofs.Tryz.f176 f_spec_l12Get = true := by decide +kernel
theorem mt_102 : mFd Go.Proofs.Tryz.f104 f_spec_l14Chain = true := by decide +kernel
theorem mt_103 : mFd Go.Proofs.Tryz.f249 f_p_spec_l02Reader_byte = true := by decide +kernel
theorem mt_104 : mFd Go.Proofs.Tryz.f250 f_p_spec_l02Reader_take = true := by decide +kernel
theorem mt_109 : mFd Go.Proofs.Tryz.f256 f_impl_ValidDisk_s1 = true := by decide +kernel
theorem mt_110 : mFd Go.Proofs.Tryz.f258 f_impl_ValidDisk_s2 = true := by decide +kernel
theorem mt_111 : mFd Go.Proofs.Tryz.f257 f_slices_ContainsFunc_impl_Put_impl_Put = true := by decide +kernel
theorem mt_112 : mFd Go.Proofs.Tryz.f260 f_slices_IndexFunc_impl_Page_impl_Page = true := by decide +kernel
theorem mt_113 : mFd Go.Proofs.Tryz.f196 f_impl_AreaBlock = true := by decide +kernel
theorem mt_114 : mFd Go.Proofs.Tryz.f261 f_impl_tableBlocks = true := by decide +kernel
theorem mt_116 : mFd Go.Proofs.Tryz.f288 f_slices_IndexFunc_string_string = true := by decide +kernel
theorem mt_123 : mFd Go.Proofs.Tryz.f269 f_impl_pageAt = true := by decide +kernel
theorem mt_124 : mFd Go.Proofs.Tryz.f270 f_p_impl_Pager_committed = true := by decide +kernel
theorem mt_125 : mFd Go.Proofs.Tryz.f157 f_slices_Index_int64_int64 = true := by decide +kernel
theorem mt_126 : mFd Go.Proofs.Tryz.f122 f_p_impl_Pager_chain = true := by decide +kernel
theorem mt_127 : mFd Go.Proofs.Tryz.f245 f_spec_l11Find = true := by decide +kernel
theorem mt_128 : mFd Go.Proofs.Tryz.f246 f_spec_l09Read = true := by decide +kernel
theorem mt_129 : mFd Go.Proofs.Tryz.f175 f_spec_l14Used = true := by decide +kernel
theorem mt_130 : mFd Go.Proofs.Tryz.f178 f_spec_l03Zeros = true := by decide +kernel
theorem mt_131 : mFd Go.Proofs.Tryz.f179 f_spec_DecodeHeader = true := by decide +kernel
theorem mt_133 : mFd Go.Proofs.Tryz.f309 f_slices_IndexFunc_impl_Put_impl_Put = true := by decide +kernel
theorem mt_134 : mFd Go.Proofs.Tryz.f259 f_impl_isIndex = true := by decide +kernel
theorem mt_138 : mFd Go.Proofs.Tryz.f118 f_slices_ContainsFunc_impl_Message_impl_Message = true := by decide +kernel
theorem mt_139 : mFd Go.Proofs.Tryz.f272 f_p_impl_decoder_byte = true := by decide +kernel
theorem mt_145 : mFd Go.Proofs.Tryz.f312 f_slices_BinarySearchFunc_impl_Page_impl_Page_int64 = true := by decide +kernel
theorem mt_146 : mFd Go.Proofs.Tryz.f313 f_impl_pageAt_s1 = true := by decide +kernel
theorem mt_148 : mFd Go.Proofs.Tryz.f201 f_p_impl_Pager_allocated = true := by decide +kernel
theorem mt_149 : mFd Go.Proofs.Tryz.f202 f_impl_chainBytes = true := by decide +kernel
theorem mt_150 : mFd Go.Proofs.Tryz.f204 f_p_strings_Builder_WriteString = true := by decide +kernel
theorem mt_152 : mFd Go.Proofs.Tryz.f205 f_impl_DecodeHeader = true := by decide +kernel
theorem mt_153 : mFd Go.Proofs.Tryz.f181 f_spec_l13Data = true := by decide +kernel
theorem mt_154 : mFd Go.Proofs.Tryz.f183 f_spec_l13Bit = true := by decide +kernel
theorem mt_155 : mFd Go.Proofs.Tryz.f248 f_spec_l00Max = true := by decide +kernel
theorem mt_156 : mFd Go.Proofs.Tryz.f40 f_spec_l14Ok = true := by decide +kernel
theorem mt_158 : mFd Go.Proofs.Tryz.f198 f_slices_IndexFunc_impl_Message_impl_Message = true := by decide +kernel
theorem mt_159 : mFd Go.Proofs.Tryz.f266 f_p_impl_decoder_number = true := by decide +kernel
theorem mt_160 : mFd Go.Proofs.Tryz.f267 f_p_impl_decoder_take = true := by decide +kernel
theorem mt_164 : mFd Go.Proofs.Tryz.f314 f_cmp_Compare_int64 = true := by decide +kernel
theorem mt_165 : mFd Go.Proofs.Tryz.f340 f_cmp_isNaN_int64 = true := by decide +kernel
theorem mt_166 : mFd Go.Proofs.Tryz.f264 f_p_impl_Pager_isData = true := by decide +kernel
theorem mt_167 : mFd Go.Proofs.Tryz.f268 f_impl_trimmed = true := by decide +kernel
theorem mt_168 : mFd Go.Proofs.Tryz.f48 f_impl_ValidHeader = true := by decide +kernel
theorem mt_169 : mFd Go.Proofs.Tryz.f252 f_spec_l13First = true := by decide +kernel
theorem mt_170 : mFd Go.Proofs.Tryz.f310 f_impl_cut = true := by decide +kernel
theorem mt_171 : mFd Go.Proofs.Tryz.f311 f_strings_TrimRight = true := by decide +kernel
theorem mt_172 : mFd Go.Proofs.Tryz.f119 f_impl_ValidHeader_s1 = true := by decide +kernel
theorem mt_173 : mFd Go.Proofs.Tryz.f336 f_strings_trimRightByte = true := by decide +kernel
theorem mt_177 : mFd Go.Proofs.Tryz.f120 f_impl_messageOk = true := by decide +kernel
theorem mt_183 : mFd Go.Proofs.Tryz.f11 f_laws_szHeader = true := by decide +kernel
theorem mt_184 : mFd Go.Proofs.Tryz.f14 f_laws_toHeader = true := by decide +kernel
theorem mt_185 : mFd Go.Proofs.Tryz.f12 f_spec_WriteHeader = true := by decide +kernel
theorem mt_186 : mFd Go.Proofs.Tryz.f15 f_impl_WriteHeader = true := by decide +kernel
theorem mt_187 : mFd Go.Proofs.Tryz.f17 f_laws_eqHeader = true := by decide +kernel
theorem mt_189 : mFd Go.Proofs.Tryz.f20 f_laws_heldPager = true := by decide +kernel
theorem mt_196 : mFd Go.Proofs.Tryz.f38 f_laws_szMessageS = true := by decide +kernel
theorem mt_197 : mFd Go.Proofs.Tryz.f41 f_spec_l12Own = true := by decide +kernel
theorem mt_198 : mFd Go.Proofs.Tryz.f42 f_spec_l14Write = true := by decide +kernel
theorem mt_199 : mFd Go.Proofs.Tryz.f46 f_laws_toMessageS = true := by decide +kernel
theorem mt_200 : mFd Go.Proofs.Tryz.f50 f_impl_WriteHeader_s1 = true := by decide +kernel
theorem mt_201 : mFd Go.Proofs.Tryz.f49 f_impl_Pager_changed = true := by decide +kernel
theorem mt_202 : mFd Go.Proofs.Tryz.f55 f_laws_eqMessageS = true := by decide +kernel
theorem mt_204 : mFd Go.Proofs.Tryz.f59 f_laws_heldDisk = true := by decide +kernel
theorem mt_205 : mFd Go.Proofs.Tryz.f60 f_laws_heldPageS = true := by decide +kernel
theorem mt_213 : mFd Go.Proofs.Tryz.f95 f_laws_szMessage = true := by decide +kernel
theorem mt_215 : mFd Go.Proofs.Tryz.f103 f_spec_l12Pages = true := by decide +kernel
theorem mt_216 : mFd Go.Proofs.Tryz.f105 f_spec_l14Need = true := by decide +kernel
theorem mt_217 : mFd Go.Proofs.Tryz.f106 f_spec_l13Release = true := by decide +kernel
theorem mt_218 : mFd Go.Proofs.Tryz.f107 f_spec_l14Grow = true := by decide +kernel
theorem mt_219 : mFd Go.Proofs.Tryz.f108 f_spec_l14Store = true := by decide +kernel
theorem mt_220 : mFd Go.Proofs.Tryz.f112 f_laws_toMessage = true := by decide +kernel
theorem mt_221 : mFd Go.Proofs.Tryz.f121 f_impl_Pager_clone = true := by decide +kernel
theorem mt_222 : mFd Go.Proofs.Tryz.f51 f_p_impl_Pager_writeHeader = true := by decide +kernel
theorem mt_223 : mFd Go.Proofs.Tryz.f123 f_impl_Header_encode = true := by decide +kernel
theorem mt_224 : mFd Go.Proofs.Tryz.f124 f_impl_chainLen = true := by decide +kernel
theorem mt_225 : mFd Go.Proofs.Tryz.f125 f_p_impl_Pager_releaseAll = true := by decide +kernel
theorem mt_226 : mFd Go.Proofs.Tryz.f126 f_p_impl_Pager_grow = true := by decide +kernel
theorem mt_227 : mFd Go.Proofs.Tryz.f127 f_p_impl_Pager_writeChain = true := by decide +kernel
theorem mt_228 : mFd Go.Proofs.Tryz.f131 f_laws_eqMessage = true := by decide +kernel
theorem mt_229 : mFd Go.Proofs.Tryz.f135 f_laws_heldStringS = true := by decide +kernel
theorem mt_230 : mFd Go.Proofs.Tryz.f136 f_laws_heldPutS = true := by decide +kernel
theorem mt_245 : mFd Go.Proofs.Tryz.f180 f_spec_l14Encode = true := by decide +kernel
theorem mt_246 : mFd Go.Proofs.Tryz.f185 f_spec_l13Mark = true := by decide +kernel
theorem mt_247 : mFd Go.Proofs.Tryz.f184 f_spec_l13Put = true := by decide +kernel
theorem mt_248 : mFd Go.Proofs.Tryz.f186 f_spec_l13Allocate = true := by decide +kernel
theorem mt_249 : mFd Go.Proofs.Tryz.f161 f_spec_l00Min = true := by decide +kernel
theorem mt_250 : mFd Go.Proofs.Tryz.f187 f_spec_l02Put = true := by decide +kernel
theorem mt_251 : mFd Go.Proofs.Tryz.f189 f_spec_l01Pad = true := by decide +kernel
theorem mt_252 : mFd Go.Proofs.Tryz.f188 f_spec_l12Set = true := by decide +kernel
theorem mt_253 : mFd Go.Proofs.Tryz.f199 f_impl_Disk_clone = true := by decide +kernel
theorem mt_255 : mFd Go.Proofs.Tryz.f207 f_impl_putBytes = true := by decide +kernel
theorem mt_256 : mFd Go.Proofs.Tryz.f208 f_p_impl_Pager_release = true := by decide +kernel
theorem mt_257 : mFd Go.Proofs.Tryz.f209 f_p_impl_Pager_allocate = true := by decide +kernel
theorem mt_258 : mFd Go.Proofs.Tryz.f211 f_impl_padded = true := by decide +kernel
theorem mt_259 : mFd Go.Proofs.Tryz.f210 f_p_impl_Pager_set = true := by decide +kernel
theorem mt_268 : mFd Go.Proofs.Tryz.f251 f_spec_l02Byte = true := by decide +kernel
theorem mt_269 : mFd Go.Proofs.Tryz.f254 f_spec_l13Runs = true := by decide +kernel
theorem mt_270 : mFd Go.Proofs.Tryz.f253 f_spec_l13Best = true := by decide +kernel
theorem mt_271 : mFd Go.Proofs.Tryz.f255 f_spec_l11Merge = true := by decide +kernel
theorem mt_274 : mFd Go.Proofs.Tryz.f273 f_p_impl_Pager_mark = true := by decide +kernel
theorem mt_275 : mFd Go.Proofs.Tryz.f274 f_p_impl_Pager_freeRuns = true := by decide +kernel
theorem mt_277 : mFd Go.Proofs.Tryz.f276 f_impl_zeros = true := by decide +kernel
theorem mt_400 : mFd Go.Proofs.Tryz.f3 f_laws_FnExactWriteHeader = true := by decide +kernel
theorem mt_1008 : mFd Go.Proofs.Tryz.f18 f_laws_markPager = true := by decide +kernel
theorem mt_1029 : mFd Go.Proofs.Tryz.f56 f_laws_markDisk = true := by decide +kernel
theorem mt_1030 : mFd Go.Proofs.Tryz.f57 f_laws_markPageS = true := by decide +kernel
theorem mt_1062 : mFd Go.Proofs.Tryz.f132 f_laws_markStringS = true := by decide +kernel
theorem mt_1063 : mFd Go.Proofs.Tryz.f133 f_laws_markPutS = true := by decide +kernel
theorem mt_1188 : mFd Go.Proofs.Tryz.f19 f_laws_markHeader = true := by decide +kernel
theorem mt_1203 : mFd Go.Proofs.Tryz.f58 f_laws_markMessageS = true := by decide +kernel

end
end Go.VS
