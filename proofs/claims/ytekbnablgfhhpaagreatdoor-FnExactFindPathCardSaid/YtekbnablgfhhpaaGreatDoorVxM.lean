/-
  Our functions and the seat's. Printed by matchgen.py.
-/
import Derived.Test.YtekbnablgfhhpaaGreatDoorB2
import Derived.Test.YtekbnablgfhhpaaGreatDoorA3
import Derived.Test.YtekbnablgfhhpaaGreatDoorProg
set_option linter.all false
namespace Go.VS
open Go
noncomputable section

def phi : Nat → FuncId := fun n => match n with
  | 0 => 6
  | 1 => 8
  | 2 => 7
  | 3 => 9
  | 4 => 10
  | 5 => 11
  | 6 => 12
  | 7 => 13
  | 8 => 14
  | 10 => 16
  | 11 => 17
  | 12 => 18
  | 13 => 19
  | 14 => 20
  | 15 => 21
  | 16 => 22
  | 17 => 23
  | 18 => 24
  | 19 => 25
  | 20 => 26
  | 21 => 27
  | 22 => 28
  | 23 => 29
  | 24 => 30
  | 25 => 31
  | 26 => 32
  | 27 => 33
  | 28 => 34
  | 29 => 35
  | 30 => 36
  | 31 => 37
  | 32 => 38
  | 33 => 39
  | 34 => 40
  | 35 => 41
  | 36 => 42
  | 37 => 43
  | 38 => 44
  | 39 => 45
  | 40 => 46
  | 41 => 47
  | 42 => 48
  | 43 => 49
  | 44 => 50
  | 45 => 51
  | 46 => 52
  | 47 => 53
  | 48 => 54
  | 49 => 55
  | 50 => 56
  | 51 => 57
  | 52 => 58
  | 53 => 59
  | 54 => 60
  | 55 => 61
  | 56 => 62
  | 57 => 63
  | 58 => 64
  | 59 => 65
  | 60 => 66
  | 61 => 67
  | 62 => 68
  | 63 => 69
  | 64 => 70
  | 65 => 71
  | 66 => 72
  | 67 => 73
  | 68 => 74
  | 69 => 75
  | 70 => 76
  | 71 => 78
  | 72 => 77
  | 73 => 79
  | 74 => 80
  | 75 => 81
  | 76 => 82
  | 77 => 83
  | 78 => 84
  | 79 => 85
  | 80 => 86
  | 81 => 88
  | 82 => 87
  | 83 => 90
  | 84 => 91
  | 85 => 92
  | 86 => 93
  | 87 => 94
  | 88 => 96
  | 89 => 97
  | 90 => 98
  | 91 => 99
  | 92 => 100
  | 93 => 103
  | 94 => 102
  | 95 => 101
  | 96 => 104
  | 97 => 105
  | 98 => 106
  | 99 => 107
  | 100 => 108
  | 101 => 109
  | 102 => 110
  | 103 => 111
  | 104 => 112
  | 105 => 113
  | 106 => 114
  | 107 => 115
  | 108 => 116
  | 109 => 117
  | 110 => 119
  | 111 => 118
  | 112 => 121
  | 113 => 89
  | 114 => 122
  | 115 => 123
  | 116 => 125
  | 117 => 95
  | 118 => 126
  | 119 => 127
  | 120 => 128
  | 121 => 130
  | 122 => 129
  | 123 => 132
  | 124 => 133
  | 125 => 134
  | 126 => 135
  | 127 => 136
  | 128 => 137
  | 129 => 138
  | 130 => 139
  | 131 => 140
  | 132 => 141
  | 133 => 142
  | 134 => 120
  | 135 => 143
  | 136 => 147
  | 137 => 149
  | 138 => 148
  | 139 => 150
  | 140 => 151
  | 141 => 152
  | 142 => 153
  | 143 => 154
  | 144 => 155
  | 145 => 156
  | 146 => 157
  | 147 => 159
  | 148 => 160
  | 149 => 161
  | 150 => 162
  | 151 => 164
  | 152 => 163
  | 153 => 165
  | 154 => 166
  | 155 => 167
  | 156 => 168
  | 157 => 174
  | 158 => 173
  | 159 => 175
  | 160 => 176
  | 161 => 177
  | 162 => 178
  | 163 => 179
  | 164 => 158
  | 165 => 183
  | 166 => 185
  | 167 => 186
  | 168 => 188
  | 169 => 189
  | 170 => 195
  | 171 => 197
  | 172 => 199
  | 173 => 203
  | 174 => 204
  | 175 => 205
  | 176 => 206
  | 177 => 200
  | 178 => 187
  | 179 => 4
  | 180 => 5
  | 181 => 3
  | 182 => 131
  | 1009 => 15
  | _ => 0

def tbS : TI := fun t => (Go.Proofs.Tryz.types)[t]?

def mFd (fn : Func) : Fd → Bool
  | .ir _ nt rs k => mF tbS phi fn nt rs k
  | .pin _ nt rs k => mF tbS phi fn nt rs k
  | .intr _ => true

theorem mt_0 : mFd Go.Proofs.Tryz.f6 f_laws_szPager = true := by decide +kernel
theorem mt_1 : mFd Go.Proofs.Tryz.f8 f_laws_toPager = true := by decide +kernel
theorem mt_2 : mFd Go.Proofs.Tryz.f7 f_spec_FindPath = true := by decide +kernel
theorem mt_3 : mFd Go.Proofs.Tryz.f9 f_impl_FindPath = true := by decide +kernel
theorem mt_4 : mFd Go.Proofs.Tryz.f10 f_laws_eqPager = true := by decide +kernel
theorem mt_5 : mFd Go.Proofs.Tryz.f11 f_spec_WalkStore = true := by decide +kernel
theorem mt_6 : mFd Go.Proofs.Tryz.f12 f_impl_WalkStore = true := by decide +kernel
theorem mt_7 : mFd Go.Proofs.Tryz.f13 f_laws_eqInt64S = true := by decide +kernel
theorem mt_8 : mFd Go.Proofs.Tryz.f14 f_laws_markPager = true := by decide +kernel
theorem mt_10 : mFd Go.Proofs.Tryz.f16 f_laws_heldInt64S = true := by decide +kernel
theorem mt_11 : mFd Go.Proofs.Tryz.f17 f_spec_ObjectsOf = true := by decide +kernel
theorem mt_12 : mFd Go.Proofs.Tryz.f18 f_impl_ObjectsOf = true := by decide +kernel
theorem mt_13 : mFd Go.Proofs.Tryz.f19 f_laws_szDisk = true := by decide +kernel
theorem mt_14 : mFd Go.Proofs.Tryz.f20 f_laws_szPageS = true := by decide +kernel
theorem mt_15 : mFd Go.Proofs.Tryz.f21 f_spec_l17Split = true := by decide +kernel
theorem mt_16 : mFd Go.Proofs.Tryz.f22 f_spec_l12Ok = true := by decide +kernel
theorem mt_17 : mFd Go.Proofs.Tryz.f23 f_spec_l17Find = true := by decide +kernel
theorem mt_18 : mFd Go.Proofs.Tryz.f24 f_laws_toDisk = true := by decide +kernel
theorem mt_19 : mFd Go.Proofs.Tryz.f25 f_laws_toSuper = true := by decide +kernel
theorem mt_20 : mFd Go.Proofs.Tryz.f26 f_laws_toPageS = true := by decide +kernel
theorem mt_21 : mFd Go.Proofs.Tryz.f27 f_impl_ValidPager = true := by decide +kernel
theorem mt_22 : mFd Go.Proofs.Tryz.f28 f_impl_ValidPath = true := by decide +kernel
theorem mt_23 : mFd Go.Proofs.Tryz.f29 f_p_impl_Pager_findPath = true := by decide +kernel
theorem mt_24 : mFd Go.Proofs.Tryz.f30 f_laws_eqDisk = true := by decide +kernel
theorem mt_25 : mFd Go.Proofs.Tryz.f31 f_laws_eqSuper = true := by decide +kernel
theorem mt_26 : mFd Go.Proofs.Tryz.f32 f_laws_eqPageS = true := by decide +kernel
theorem mt_27 : mFd Go.Proofs.Tryz.f33 f_spec_l28All = true := by decide +kernel
theorem mt_28 : mFd Go.Proofs.Tryz.f34 f_p_impl_Pager_walk = true := by decide +kernel
theorem mt_29 : mFd Go.Proofs.Tryz.f35 f_laws_markDisk = true := by decide +kernel
theorem mt_30 : mFd Go.Proofs.Tryz.f36 f_laws_markPageS = true := by decide +kernel
theorem mt_31 : mFd Go.Proofs.Tryz.f37 f_spec_l17Objects = true := by decide +kernel
theorem mt_32 : mFd Go.Proofs.Tryz.f38 f_p_impl_Pager_objects = true := by decide +kernel
theorem mt_33 : mFd Go.Proofs.Tryz.f39 f_laws_szStringS = true := by decide +kernel
theorem mt_34 : mFd Go.Proofs.Tryz.f40 f_laws_szPutS = true := by decide +kernel
theorem mt_35 : mFd Go.Proofs.Tryz.f41 f_laws_szPage = true := by decide +kernel
theorem mt_36 : mFd Go.Proofs.Tryz.f42 f_spec_IsName = true := by decide +kernel
theorem mt_37 : mFd Go.Proofs.Tryz.f43 f_spec_l09Ok = true := by decide +kernel
theorem mt_38 : mFd Go.Proofs.Tryz.f44 f_spec_ValidSuper = true := by decide +kernel
theorem mt_39 : mFd Go.Proofs.Tryz.f45 f_spec_l00In = true := by decide +kernel
theorem mt_40 : mFd Go.Proofs.Tryz.f46 f_spec_l11Pages = true := by decide +kernel
theorem mt_41 : mFd Go.Proofs.Tryz.f47 f_spec_l11Within = true := by decide +kernel
theorem mt_42 : mFd Go.Proofs.Tryz.f48 f_spec_l12Fits = true := by decide +kernel
theorem mt_43 : mFd Go.Proofs.Tryz.f49 f_spec_l13Root = true := by decide +kernel
theorem mt_44 : mFd Go.Proofs.Tryz.f50 f_spec_l17Read = true := by decide +kernel
theorem mt_45 : mFd Go.Proofs.Tryz.f51 f_spec_l17Link = true := by decide +kernel
theorem mt_46 : mFd Go.Proofs.Tryz.f52 f_laws_toStringS = true := by decide +kernel
theorem mt_47 : mFd Go.Proofs.Tryz.f53 f_laws_toPutS = true := by decide +kernel
theorem mt_48 : mFd Go.Proofs.Tryz.f54 f_laws_toPage = true := by decide +kernel
theorem mt_49 : mFd Go.Proofs.Tryz.f55 f_impl_superFits = true := by decide +kernel
theorem mt_50 : mFd Go.Proofs.Tryz.f56 f_impl_within = true := by decide +kernel
theorem mt_51 : mFd Go.Proofs.Tryz.f57 f_impl_ValidPages = true := by decide +kernel
theorem mt_52 : mFd Go.Proofs.Tryz.f58 f_impl_Super_inArea = true := by decide +kernel
theorem mt_53 : mFd Go.Proofs.Tryz.f59 f_impl_Super_fits = true := by decide +kernel
theorem mt_54 : mFd Go.Proofs.Tryz.f60 f_impl_splitPath = true := by decide +kernel
theorem mt_55 : mFd Go.Proofs.Tryz.f61 f_p_impl_Pager_find = true := by decide +kernel
theorem mt_56 : mFd Go.Proofs.Tryz.f62 f_laws_eqStringS = true := by decide +kernel
theorem mt_57 : mFd Go.Proofs.Tryz.f63 f_laws_eqPutS = true := by decide +kernel
theorem mt_58 : mFd Go.Proofs.Tryz.f64 f_laws_eqPage = true := by decide +kernel
theorem mt_59 : mFd Go.Proofs.Tryz.f65 f_spec_l28Walk = true := by decide +kernel
theorem mt_60 : mFd Go.Proofs.Tryz.f66 f_p_impl_Pager_root = true := by decide +kernel
theorem mt_61 : mFd Go.Proofs.Tryz.f67 f_p_impl_Pager_visit = true := by decide +kernel
theorem mt_62 : mFd Go.Proofs.Tryz.f68 f_laws_markStringS = true := by decide +kernel
theorem mt_63 : mFd Go.Proofs.Tryz.f69 f_laws_markPutS = true := by decide +kernel
theorem mt_64 : mFd Go.Proofs.Tryz.f70 f_laws_markText = true := by decide +kernel
theorem mt_65 : mFd Go.Proofs.Tryz.f71 f_spec_l17Walk = true := by decide +kernel
theorem mt_66 : mFd Go.Proofs.Tryz.f72 f_p_impl_Pager_gather = true := by decide +kernel
theorem mt_67 : mFd Go.Proofs.Tryz.f73 f_laws_szPut = true := by decide +kernel
theorem mt_68 : mFd Go.Proofs.Tryz.f74 f_spec_l01Letter = true := by decide +kernel
theorem mt_69 : mFd Go.Proofs.Tryz.f75 f_spec_l10Area = true := by decide +kernel
theorem mt_70 : mFd Go.Proofs.Tryz.f76 f_spec_l11Blocks = true := by decide +kernel
theorem mt_71 : mFd Go.Proofs.Tryz.f78 f_spec_l13Area = true := by decide +kernel
theorem mt_72 : mFd Go.Proofs.Tryz.f77 f_spec_l01GetUint = true := by decide +kernel
theorem mt_73 : mFd Go.Proofs.Tryz.f79 f_spec_l14Read = true := by decide +kernel
theorem mt_74 : mFd Go.Proofs.Tryz.f80 f_spec_l17Only = true := by decide +kernel
theorem mt_75 : mFd Go.Proofs.Tryz.f81 f_spec_DecodeHeap = true := by decide +kernel
theorem mt_76 : mFd Go.Proofs.Tryz.f82 f_spec_DecodeLinks = true := by decide +kernel
theorem mt_77 : mFd Go.Proofs.Tryz.f83 f_laws_toPut = true := by decide +kernel
theorem mt_78 : mFd Go.Proofs.Tryz.f84 f_impl_ValidDisk = true := by decide +kernel
theorem mt_79 : mFd Go.Proofs.Tryz.f85 f_impl_ValidSuper = true := by decide +kernel
theorem mt_80 : mFd Go.Proofs.Tryz.f86 f_impl_isBlock = true := by decide +kernel
theorem mt_81 : mFd Go.Proofs.Tryz.f88 f_impl_Super_inArea_s1 = true := by decide +kernel
theorem mt_82 : mFd Go.Proofs.Tryz.f87 f_slices_ContainsFunc_impl_Page_impl_Page = true := by decide +kernel
theorem mt_83 : mFd Go.Proofs.Tryz.f90 f_impl_RecordBlocks = true := by decide +kernel
theorem mt_84 : mFd Go.Proofs.Tryz.f91 f_strings_CutPrefix = true := by decide +kernel
theorem mt_86 : mFd Go.Proofs.Tryz.f93 f_slices_ContainsFunc_string_string = true := by decide +kernel
theorem mt_87 : mFd Go.Proofs.Tryz.f94 f_impl_splitPath_s1 = true := by decide +kernel
theorem mt_88 : mFd Go.Proofs.Tryz.f96 f_p_impl_Pager_group = true := by decide +kernel
theorem mt_89 : mFd Go.Proofs.Tryz.f97 f_impl_group_link = true := by decide +kernel
theorem mt_90 : mFd Go.Proofs.Tryz.f98 f_slices_Concat_string_string = true := by decide +kernel
theorem mt_91 : mFd Go.Proofs.Tryz.f99 f_laws_eqPut = true := by decide +kernel
theorem mt_92 : mFd Go.Proofs.Tryz.f100 f_spec_l00Has = true := by decide +kernel
theorem mt_93 : mFd Go.Proofs.Tryz.f103 f_p_impl_Pager_area = true := by decide +kernel
theorem mt_94 : mFd Go.Proofs.Tryz.f102 f_p_impl_Pager_get = true := by decide +kernel
theorem mt_95 : mFd Go.Proofs.Tryz.f101 f_impl_getBits = true := by decide +kernel
theorem mt_96 : mFd Go.Proofs.Tryz.f104 f_slices_Contains_int64_int64 = true := by decide +kernel
theorem mt_97 : mFd Go.Proofs.Tryz.f105 f_p_impl_Pager_targets = true := by decide +kernel
theorem mt_98 : mFd Go.Proofs.Tryz.f106 f_p_impl_Pager_header = true := by decide +kernel
theorem mt_99 : mFd Go.Proofs.Tryz.f107 f_spec_l11Table = true := by decide +kernel
theorem mt_100 : mFd Go.Proofs.Tryz.f108 f_spec_l01Within = true := by decide +kernel
theorem mt_101 : mFd Go.Proofs.Tryz.f109 f_spec_l12Get = true := by decide +kernel
theorem mt_102 : mFd Go.Proofs.Tryz.f110 f_spec_l14Chain = true := by decide +kernel
theorem mt_103 : mFd Go.Proofs.Tryz.f111 f_p_spec_l02Reader_byte = true := by decide +kernel
theorem mt_104 : mFd Go.Proofs.Tryz.f112 f_p_spec_l02Reader_take = true := by decide +kernel
theorem mt_105 : mFd Go.Proofs.Tryz.f113 f_spec_l16Ok = true := by decide +kernel
theorem mt_106 : mFd Go.Proofs.Tryz.f114 f_spec_NameAt = true := by decide +kernel
theorem mt_107 : mFd Go.Proofs.Tryz.f115 f_spec_l17Ok = true := by decide +kernel
theorem mt_108 : mFd Go.Proofs.Tryz.f116 f_spec_l17Count = true := by decide +kernel
theorem mt_109 : mFd Go.Proofs.Tryz.f117 f_impl_ValidDisk_s1 = true := by decide +kernel
theorem mt_110 : mFd Go.Proofs.Tryz.f119 f_impl_ValidDisk_s2 = true := by decide +kernel
theorem mt_111 : mFd Go.Proofs.Tryz.f118 f_slices_ContainsFunc_impl_Put_impl_Put = true := by decide +kernel
theorem mt_112 : mFd Go.Proofs.Tryz.f121 f_slices_IndexFunc_impl_Page_impl_Page = true := by decide +kernel
theorem mt_113 : mFd Go.Proofs.Tryz.f89 f_impl_AreaBlock = true := by decide +kernel
theorem mt_114 : mFd Go.Proofs.Tryz.f122 f_impl_tableBlocks = true := by decide +kernel
theorem mt_115 : mFd Go.Proofs.Tryz.f123 f_internal_stringslite_CutPrefix = true := by decide +kernel
theorem mt_116 : mFd Go.Proofs.Tryz.f125 f_slices_IndexFunc_string_string = true := by decide +kernel
theorem mt_117 : mFd Go.Proofs.Tryz.f95 f_impl_IsName = true := by decide +kernel
theorem mt_118 : mFd Go.Proofs.Tryz.f126 f_impl_Header_only = true := by decide +kernel
theorem mt_119 : mFd Go.Proofs.Tryz.f127 f_impl_DecodeHeap = true := by decide +kernel
theorem mt_120 : mFd Go.Proofs.Tryz.f128 f_impl_DecodeLinks = true := by decide +kernel
theorem mt_121 : mFd Go.Proofs.Tryz.f130 f_impl_group_link_s1 = true := by decide +kernel
theorem mt_122 : mFd Go.Proofs.Tryz.f129 f_slices_IndexFunc_impl_Link_impl_Link = true := by decide +kernel
theorem mt_123 : mFd Go.Proofs.Tryz.f132 f_impl_pageAt = true := by decide +kernel
theorem mt_124 : mFd Go.Proofs.Tryz.f133 f_p_impl_Pager_committed = true := by decide +kernel
theorem mt_125 : mFd Go.Proofs.Tryz.f134 f_slices_Index_int64_int64 = true := by decide +kernel
theorem mt_126 : mFd Go.Proofs.Tryz.f135 f_p_impl_Pager_chain = true := by decide +kernel
theorem mt_127 : mFd Go.Proofs.Tryz.f136 f_spec_l11Find = true := by decide +kernel
theorem mt_128 : mFd Go.Proofs.Tryz.f137 f_spec_l09Read = true := by decide +kernel
theorem mt_129 : mFd Go.Proofs.Tryz.f138 f_spec_l14Used = true := by decide +kernel
theorem mt_130 : mFd Go.Proofs.Tryz.f139 f_spec_l03Zeros = true := by decide +kernel
theorem mt_131 : mFd Go.Proofs.Tryz.f140 f_spec_DecodeHeader = true := by decide +kernel
theorem mt_132 : mFd Go.Proofs.Tryz.f141 f_spec_ValidPath = true := by decide +kernel
theorem mt_133 : mFd Go.Proofs.Tryz.f142 f_slices_IndexFunc_impl_Put_impl_Put = true := by decide +kernel
theorem mt_134 : mFd Go.Proofs.Tryz.f120 f_impl_isIndex = true := by decide +kernel
theorem mt_135 : mFd Go.Proofs.Tryz.f143 f_internal_stringslite_HasPrefix = true := by decide +kernel
theorem mt_136 : mFd Go.Proofs.Tryz.f147 f_impl_Header_messageAt = true := by decide +kernel
theorem mt_137 : mFd Go.Proofs.Tryz.f149 f_impl_Header_only_s1 = true := by decide +kernel
theorem mt_138 : mFd Go.Proofs.Tryz.f148 f_slices_ContainsFunc_impl_Message_impl_Message = true := by decide +kernel
theorem mt_139 : mFd Go.Proofs.Tryz.f150 f_p_impl_decoder_byte = true := by decide +kernel
theorem mt_140 : mFd Go.Proofs.Tryz.f151 f_p_impl_decoder_name = true := by decide +kernel
theorem mt_141 : mFd Go.Proofs.Tryz.f152 f_impl_ValidHeap = true := by decide +kernel
theorem mt_142 : mFd Go.Proofs.Tryz.f153 f_p_impl_decoder_link = true := by decide +kernel
theorem mt_143 : mFd Go.Proofs.Tryz.f154 f_impl_ValidLinks = true := by decide +kernel
theorem mt_145 : mFd Go.Proofs.Tryz.f156 f_slices_BinarySearchFunc_impl_Page_impl_Page_int64 = true := by decide +kernel
theorem mt_146 : mFd Go.Proofs.Tryz.f157 f_impl_pageAt_s1 = true := by decide +kernel
theorem mt_148 : mFd Go.Proofs.Tryz.f160 f_p_impl_Pager_allocated = true := by decide +kernel
theorem mt_149 : mFd Go.Proofs.Tryz.f161 f_impl_chainBytes = true := by decide +kernel
theorem mt_150 : mFd Go.Proofs.Tryz.f162 f_p_strings_Builder_WriteString = true := by decide +kernel
theorem mt_152 : mFd Go.Proofs.Tryz.f163 f_impl_DecodeHeader = true := by decide +kernel
theorem mt_153 : mFd Go.Proofs.Tryz.f165 f_spec_l13Data = true := by decide +kernel
theorem mt_154 : mFd Go.Proofs.Tryz.f166 f_spec_l13Bit = true := by decide +kernel
theorem mt_155 : mFd Go.Proofs.Tryz.f167 f_spec_l00Max = true := by decide +kernel
theorem mt_156 : mFd Go.Proofs.Tryz.f168 f_spec_l14Ok = true := by decide +kernel
theorem mt_157 : mFd Go.Proofs.Tryz.f174 f_impl_Header_messageAt_s1 = true := by decide +kernel
theorem mt_158 : mFd Go.Proofs.Tryz.f173 f_slices_IndexFunc_impl_Message_impl_Message = true := by decide +kernel
theorem mt_159 : mFd Go.Proofs.Tryz.f175 f_p_impl_decoder_number = true := by decide +kernel
theorem mt_160 : mFd Go.Proofs.Tryz.f176 f_p_impl_decoder_take = true := by decide +kernel
theorem mt_161 : mFd Go.Proofs.Tryz.f177 f_impl_ValidHeap_s1 = true := by decide +kernel
theorem mt_162 : mFd Go.Proofs.Tryz.f178 f_impl_NameHeap_used = true := by decide +kernel
theorem mt_163 : mFd Go.Proofs.Tryz.f179 f_impl_linkOk = true := by decide +kernel
theorem mt_164 : mFd Go.Proofs.Tryz.f158 f_cmp_Compare_int64 = true := by decide +kernel
theorem mt_165 : mFd Go.Proofs.Tryz.f183 f_cmp_isNaN_int64 = true := by decide +kernel
theorem mt_166 : mFd Go.Proofs.Tryz.f185 f_p_impl_Pager_isData = true := by decide +kernel
theorem mt_167 : mFd Go.Proofs.Tryz.f186 f_impl_trimmed = true := by decide +kernel
theorem mt_168 : mFd Go.Proofs.Tryz.f188 f_impl_ValidHeader = true := by decide +kernel
theorem mt_169 : mFd Go.Proofs.Tryz.f189 f_spec_l13First = true := by decide +kernel
theorem mt_170 : mFd Go.Proofs.Tryz.f195 f_impl_cut = true := by decide +kernel
theorem mt_171 : mFd Go.Proofs.Tryz.f197 f_strings_TrimRight = true := by decide +kernel
theorem mt_172 : mFd Go.Proofs.Tryz.f199 f_impl_ValidHeader_s1 = true := by decide +kernel
theorem mt_173 : mFd Go.Proofs.Tryz.f203 f_strings_trimRightByte = true := by decide +kernel
theorem mt_177 : mFd Go.Proofs.Tryz.f200 f_impl_messageOk = true := by decide +kernel
theorem mt_179 : mFd Go.Proofs.Tryz.f4 f_laws_FnExactWalkStore = true := by decide +kernel
theorem mt_180 : mFd Go.Proofs.Tryz.f5 f_laws_FnExactObjectsOf = true := by decide +kernel
theorem mt_181 : mFd Go.Proofs.Tryz.f3 f_laws_FnExactFindPath = true := by decide +kernel
theorem mt_1009 : mFd Go.Proofs.Tryz.f15 f_laws_markInt64S = true := by decide +kernel

end
end Go.VS
