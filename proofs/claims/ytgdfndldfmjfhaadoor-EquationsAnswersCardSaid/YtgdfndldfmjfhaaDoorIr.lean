import Derived.Test.YtgdfndldfmjfhaaDoorChecked
import Derived.Test.YtgdfndldfmjfhaaDoorZzS
namespace Go.Proofs
open Go.TL
abbrev F_law29_EquationsAnswers:FuncId:=3
abbrev F_law29_EquationsLess:FuncId:=4
abbrev F_law29_awake:FuncId:=5
abbrev F_draw_New:FuncId:=6
abbrev F_made_Told:FuncId:=7
abbrev F_draw_Mod:FuncId:=8
abbrev F_equations_All:FuncId:=9
abbrev F_ref29_All:FuncId:=10
abbrev F_equations_Check:FuncId:=11
abbrev F_ref29_Check:FuncId:=12
abbrev F_ref29_Same:FuncId:=13
abbrev F_equations_Of:FuncId:=14
abbrev F_ref29_Of:FuncId:=15
abbrev F_ref28_Count:FuncId:=16
abbrev F_equations_Reduce:FuncId:=17
abbrev F_ref29_Reduce:FuncId:=18
abbrev F_equations_Valid:FuncId:=19
abbrev F_ref29_Valid:FuncId:=20
abbrev F_ref28_Ints:FuncId:=21
abbrev F_equations_Touched:FuncId:=22
abbrev F_ref29_Touched:FuncId:=23
abbrev F_equations_Agrees:FuncId:=24
abbrev F_ref29_Agrees:FuncId:=25
abbrev F_made_Equations:FuncId:=26
abbrev F_made_Cells:FuncId:=27
abbrev F_made_Space:FuncId:=28
abbrev F_made_Releases:FuncId:=29
abbrev F_equations_told:FuncId:=30
abbrev F_ref28_Members:FuncId:=31
abbrev F_cells_Check:FuncId:=32
abbrev F_equations_check:FuncId:=33
abbrev F_ref28_Check:FuncId:=34
abbrev F_ref29_release:FuncId:=35
abbrev F_equations_text:FuncId:=36
abbrev F_slices_Clone_int:FuncId:=37
abbrev F_slices_ContainsFunc_Equation:FuncId:=38
abbrev F_equations_Valid_1:FuncId:=39
abbrev F_equations_right:FuncId:=40
abbrev F_slices_Sort_int:FuncId:=41
abbrev F_slices_Compact_int:FuncId:=42
abbrev F_slices_ContainsFunc_int:FuncId:=43
abbrev F_equations_Agrees_1:FuncId:=44
abbrev F_equations_value:FuncId:=45
abbrev F_draw_Codes_Next:FuncId:=46
abbrev F_made_View:FuncId:=47
abbrev F_ref28_Publish:FuncId:=48
abbrev F_cells_Members:FuncId:=49
abbrev F_ref28_View:FuncId:=50
abbrev F_ref28_Published:FuncId:=51
abbrev F_ref28_Of:FuncId:=52
abbrev F_cells_View:FuncId:=53
abbrev F_cells_Published:FuncId:=54
abbrev F_equations_check_1:FuncId:=55
abbrev F_strconv_AppendInt:FuncId:=56
abbrev F_slices_IndexFunc_Equation:FuncId:=57
abbrev F_slices_pdqsortOrdered_int:FuncId:=58
abbrev F_math_bits_Len:FuncId:=59
abbrev F_slices_IndexFunc_int:FuncId:=60
abbrev F_cells_product:FuncId:=61
abbrev F_cells_sizes:FuncId:=62
abbrev F_cells_published:FuncId:=63
abbrev F_ref28_Groups:FuncId:=64
abbrev F_ref28_At:FuncId:=65
abbrev F_cells_numbered:FuncId:=66
abbrev F_internal_strconv_AppendInt:FuncId:=67
abbrev F_slices_insertionSortOrdered_int:FuncId:=68
abbrev F_slices_heapSortOrdered_int:FuncId:=69
abbrev F_slices_breakPatternsOrdered_int:FuncId:=70
abbrev F_slices_choosePivotOrdered_int:FuncId:=71
abbrev F_slices_reverseRangeOrdered_int:FuncId:=72
abbrev F_slices_partialInsertionSortOrdered_int:FuncId:=73
abbrev F_cmp_Less_int:FuncId:=74
abbrev F_slices_partitionEqualOrdered_int:FuncId:=75
abbrev F_slices_partitionOrdered_int:FuncId:=76
abbrev F_math_bits_Len32:FuncId:=77
abbrev F_math_bits_Len64:FuncId:=78
abbrev F_slices_Max_int:FuncId:=79
abbrev F_cells_places:FuncId:=80
abbrev F_slices_Contains_int:FuncId:=81
abbrev F_cells_number:FuncId:=82
abbrev F_internal_strconv_AppendUint:FuncId:=83
abbrev F_slices_siftDownOrdered_int:FuncId:=84
abbrev F_slices_nextPowerOfTwo:FuncId:=85
abbrev F_slices_xorshift_Next:FuncId:=86
abbrev F_slices_medianAdjacentOrdered_int:FuncId:=87
abbrev F_slices_medianOrdered_int:FuncId:=88
abbrev F_cmp_isNaN_int:FuncId:=89
abbrev F_slices_Index_int:FuncId:=90
abbrev F_internal_strconv_small:FuncId:=91
abbrev F_internal_strconv_numDigits:FuncId:=92
abbrev F_internal_strconv_formatBase10:FuncId:=93
abbrev F_internal_strconv_formatBits:FuncId:=94
abbrev F_slices_order2Ordered_int:FuncId:=95
abbrev F_internal_strconv_log10Pow2:FuncId:=96
abbrev F_internal_strconv_bool2_int:FuncId:=97
abbrev F_internal_strconv_isPowerOfTwo:FuncId:=98
abbrev F_math_bits_TrailingZeros:FuncId:=99
abbrev F_math_bits_TrailingZeros32:FuncId:=100
abbrev F_math_bits_TrailingZeros64:FuncId:=101
abbrev F_draw_Codes_Secret:FuncId:=117
abbrev F_var_s_door_gosem_cut_vars_holds_initialisers_alone_see_the_manifest_s_row_cutvarsword_look_11_test_files_too:FuncId:=119
abbrev F_var_s_door_internal_strconv_uint64pow10_is_laid_by_its_own_initialiser_plain_data_look_11:FuncId:=120
abbrev F_var_s_door_math_bits_deBruijn32tab_is_laid_by_its_own_initialiser_plain_data_look_11:FuncId:=121
abbrev F_var_s_door_math_bits_deBruijn64tab_is_laid_by_its_own_initialiser_plain_data_look_11:FuncId:=122
abbrev F_var_s_door_the_look_of_gosem_cut_vars_went_over_the_folder_that_the_caller_named_as_the_repository_s_root_look_11:FuncId:=123
abbrev F_gosem_cut_vars:FuncId:=124
def ir_law29_EquationsAnswers:RC:=
 (.seq
 (.reg 0 none [1,2,3,4,5,6] [
 .r 6 (.box (.t 0)),
 .r 12 (.mv (.k (.v (.bool false))))])
 (.seq
 (.seq
 (.reg 1 none [1,2,3,4,5,6,63] [
 .r 45 (.fa 0 (.t 6)),
 .r 46 (.ld none (.t 45)),
 .r 47 (.lenL (.t 46)),
 .r 48 (.bin .gtr false (.t 47) (.k (.v (.int .i64 10)))),
 .r 49 (.mv (.t 48)),
 .rf 50 49 (.mv (.t 1)),
 .rf 51 49 (.lenL (.t 50)),
 .rf 52 49 (.bin .gtr false (.t 51) (.k (.v (.int .i64 30)))),
 .r 53 (.pick (.t 49) (.k (.v (.bool true))) (.t 52)),
 .r 54 (.mv (.t 53)),
 .rf 55 54 (.mv (.t 2)),
 .rf 56 54 (.lenL (.t 55)),
 .rf 57 54 (.bin .gtr false (.t 56) (.k (.v (.int .i64 40)))),
 .r 58 (.pick (.t 54) (.k (.v (.bool true))) (.t 57)),
 .r 59 (.mv (.t 58)),
 .rf 60 59 (.mv (.t 3)),
 .rf 61 59 (.lenL (.t 60)),
 .rf 62 59 (.bin .gtr false (.t 61) (.k (.v (.int .i64 100)))),
 .r 63 (.pick (.t 59) (.k (.v (.bool true))) (.t 62))])
 (.cond (.t 63)
 (.seq
 (.reg 2 none [12] [
 .r 64 (.call (.k (.clo F_law29_awake [])) []),
 .r 12 (.mv (.t 64))])
 .ret)
 .skip))
 (.seq
 (.seq
 (.reg 3 none [1,2,3,4,5,6,66,67] [
 .r 65 (.mv (.t 1)),
 .r 66 (.lenL (.t 65)),
 .r 67 (.mv (.k (.v (.int .i64 0))))])
 (.block 0
 (.loop
 (.seq
 (.reg 4 none [1,2,3,4,5,6,66,67,68] [
 .r 68 (.bin .lss false (.t 67) (.t 66))])
 (.seq
 (.cond (.t 68)
 .skip
 (.exit 0))
 (.seq
 (.block 1
 (.seq
 (.reg 5 none [1,2,3,4,5,6,13,66,67] [
 .r 69 (.mv (.t 67)),
 .r 13 (.mv (.t 69))])
 (.seq
 (.seq
 (.reg 6 none [1,2,3,4,5,6,13,66,67,86] [
 .r 70 (.mv (.t 1)),
 .r 71 (.mv (.t 13)),
 .r 72 (.ixL 3 (.t 70) (.t 71)),
 .r 73 (.fa 2 (.t 72)),
 .r 74 (.ld none (.t 73)),
 .r 75 (.lenL (.t 74)),
 .r 76 (.bin .gtr false (.t 75) (.k (.v (.int .i64 100)))),
 .r 77 (.mv (.t 76)),
 .rf 78 77 (.mv (.t 1)),
 .rf 79 77 (.mv (.t 13)),
 .rf 80 77 (.ixL 3 (.t 78) (.t 79)),
 .rf 81 77 (.fa 1 (.t 80)),
 .rf 82 77 (.fa 0 (.t 81)),
 .rf 83 77 (.ld none (.t 82)),
 .rf 84 77 (.lenL (.t 83)),
 .rf 85 77 (.bin .gtr false (.t 84) (.k (.v (.int .i64 10)))),
 .r 86 (.pick (.t 77) (.k (.v (.bool true))) (.t 85))])
 (.cond (.t 86)
 (.seq
 (.reg 7 none [12] [
 .r 87 (.call (.k (.clo F_law29_awake [])) []),
 .r 12 (.mv (.t 87))])
 .ret)
 .skip))
 (.seq
 (.reg 8 none [1,2,3,4,5,6,13,66,67,94,95] [
 .r 88 (.mv (.t 1)),
 .r 89 (.mv (.t 13)),
 .r 90 (.ixL 3 (.t 88) (.t 89)),
 .r 91 (.fa 1 (.t 90)),
 .r 92 (.fa 0 (.t 91)),
 .r 93 (.ld none (.t 92)),
 .r 94 (.lenL (.t 93)),
 .r 95 (.mv (.k (.v (.int .i64 0))))])
 (.block 2
 (.loop
 (.seq
 (.reg 9 none [1,2,3,4,5,6,13,66,67,94,95,96] [
 .r 96 (.bin .lss false (.t 95) (.t 94))])
 (.seq
 (.cond (.t 96)
 .skip
 (.exit 2))
 (.seq
 (.block 3
 (.seq
 (.reg 10 none [1,2,3,4,5,6,13,14,66,67,94,95] [
 .r 97 (.mv (.t 95)),
 .r 14 (.mv (.t 97))])
 (.seq
 (.reg 11 none [1,2,3,4,5,6,13,66,67,94,95,108] [
 .r 98 (.mv (.t 1)),
 .r 99 (.mv (.t 13)),
 .r 100 (.ixL 3 (.t 98) (.t 99)),
 .r 101 (.fa 1 (.t 100)),
 .r 102 (.fa 0 (.t 101)),
 .r 103 (.ld none (.t 102)),
 .r 104 (.mv (.t 14)),
 .r 105 (.ixL 1 (.t 103) (.t 104)),
 .r 106 (.ld none (.t 105)),
 .r 107 (.lenL (.t 106)),
 .r 108 (.bin .gtr false (.t 107) (.k (.v (.int .i64 20))))])
 (.cond (.t 108)
 (.seq
 (.reg 12 none [12] [
 .r 109 (.call (.k (.clo F_law29_awake [])) []),
 .r 12 (.mv (.t 109))])
 .ret)
 .skip))))
 (.reg 13 none [1,2,3,4,5,6,13,66,67,94,95] [
 .r 110 (.bin .add false (.t 95) (.k (.v (.int .i64 1)))),
 .r 95 (.mv (.t 110))]))))))))))
 (.reg 14 none [1,2,3,4,5,6,66,67] [
 .r 111 (.bin .add false (.t 67) (.k (.v (.int .i64 1)))),
 .r 67 (.mv (.t 111))])))))))
 (.seq
 (.seq
 (.reg 15 none [1,2,3,4,5,6,113,114] [
 .r 112 (.mv (.t 2)),
 .r 113 (.lenL (.t 112)),
 .r 114 (.mv (.k (.v (.int .i64 0))))])
 (.block 4
 (.loop
 (.seq
 (.reg 16 none [1,2,3,4,5,6,113,114,115] [
 .r 115 (.bin .lss false (.t 114) (.t 113))])
 (.seq
 (.cond (.t 115)
 .skip
 (.exit 4))
 (.seq
 (.block 5
 (.seq
 (.reg 17 none [1,2,3,4,5,6,15,113,114] [
 .r 116 (.mv (.t 114)),
 .r 15 (.mv (.t 116))])
 (.seq
 (.reg 18 none [1,2,3,4,5,6,113,114,123] [
 .r 117 (.mv (.t 2)),
 .r 118 (.mv (.t 15)),
 .r 119 (.ixL 2 (.t 117) (.t 118)),
 .r 120 (.fa 0 (.t 119)),
 .r 121 (.ld none (.t 120)),
 .r 122 (.lenL (.t 121)),
 .r 123 (.bin .gtr false (.t 122) (.k (.v (.int .i64 60))))])
 (.cond (.t 123)
 (.seq
 (.reg 19 none [12] [
 .r 124 (.call (.k (.clo F_law29_awake [])) []),
 .r 12 (.mv (.t 124))])
 .ret)
 .skip))))
 (.reg 20 none [1,2,3,4,5,6,113,114] [
 .r 125 (.bin .add false (.t 114) (.k (.v (.int .i64 1)))),
 .r 114 (.mv (.t 125))])))))))
 (.seq
 (.reg 21 none [1,2,3,4,6,16] [
 .r 126 (.mv (.t 5)),
 .r 127 (.call (.k (.clo F_draw_New [])) [.t 126]),
 .r 16 (.mv (.t 127))])
 (.seq
 (.reg 22 none [1,2,3,4,6,17,18,19] [
 .r 129 (.mv (.t 16)),
 .r 130 (.call (.k (.clo F_made_Told [])) [.t 129,.k (.v (.int .i64 5)),.k (.v (.int .i64 4))]),
 .r 128 (.mv (.t 130)),
 .r 131 (.ex (.t 128) 0),
 .r 132 (.ex (.t 128) 1),
 .r 133 (.ex (.t 128) 2),
 .r 17 (.new (.agg [.v (.slice none 0 0)])),
 .rn (.st 1 (.t 17) (.t 131)),
 .r 18 (.mv (.t 132)),
 .r 19 (.mv (.t 133))])
 (.seq
 (.reg 23 none [1,2,3,4,6,17,18,19,20] [
 .r 134 (.bsl 3 0 []),
 .r 135 (.mv (.t 19)),
 .r 136 (.app 3 56 false (.t 134) (.t 135)),
 .r 20 (.mv (.t 136))])
 (.seq
 (.seq
 (.reg 24 none [1,2,3,4,6,17,18,19,20,139] [
 .r 137 (.mv (.t 20)),
 .r 138 (.lenL (.t 137)),
 .r 139 (.bin .gtr false (.t 138) (.k (.v (.int .i64 0))))])
 (.cond (.t 139)
 (.seq
 (.reg 25 none [1,2,3,4,6,17,18,19,20,21] [
 .r 140 (.mv (.t 4)),
 .r 141 (.mv (.t 20)),
 .r 142 (.lenL (.t 141)),
 .r 143 (.call (.k (.clo F_draw_Mod [])) [.t 140,.t 142]),
 .r 21 (.mv (.t 143))])
 (.seq
 (.reg 26 none [1,2,3,4,6,17,18,19,20,21] [
 .r 144 (.mv (.t 20)),
 .r 145 (.mv (.t 21)),
 .r 146 (.mv (.t 4)),
 .r 147 (.call (.k (.clo F_draw_Mod [])) [.t 146,.k (.v (.int .i64 30))]),
 .r 148 (.bin .sub false (.t 147) (.k (.v (.int .i64 2)))),
 .r 149 (.ixL 3 (.t 144) (.t 145)),
 .r 150 (.fa 0 (.t 149)),
 .rn (.st 1 (.t 150) (.t 148))])
 (.seq
 (.reg 27 none [1,2,3,4,6,17,18,19,20,21] [
 .r 151 (.mv (.t 20)),
 .r 152 (.mv (.t 21)),
 .r 153 (.bsl 1 0 []),
 .r 154 (.mv (.t 20)),
 .r 155 (.mv (.t 21)),
 .r 156 (.ixL 3 (.t 154) (.t 155)),
 .r 157 (.fa 2 (.t 156)),
 .r 158 (.ld none (.t 157)),
 .r 159 (.app 1 8 false (.t 153) (.t 158)),
 .r 160 (.ixL 3 (.t 151) (.t 152)),
 .r 161 (.fa 2 (.t 160)),
 .rn (.st 1 (.t 161) (.t 159))])
 (.reg 28 none [1,2,3,4,6,17,18,19,20] [
 .r 162 (.mv (.t 20)),
 .r 163 (.mv (.t 21)),
 .r 164 (.ixL 3 (.t 162) (.t 163)),
 .r 165 (.fa 2 (.t 164)),
 .r 166 (.ld none (.t 165)),
 .r 167 (.mv (.t 4)),
 .r 168 (.ixL 1 (.t 166) (.k (.v (.int .i64 0)))),
 .rn (.st 1 (.t 168) (.t 167))]))))
 .skip))
 (.seq
 (.seq
 (.reg 29 none [1,2,3,4,17,18,19,20,171,172,173] [
 .r 169 (.ld (some 1) (.t 6)),
 .r 170 (.ld (some 1) (.t 17)),
 .r 171 (.bsl 1 2 [.t 169,.t 170]),
 .r 172 (.lenL (.t 171)),
 .r 173 (.mv (.k (.v (.int .i64 0))))])
 (.block 6
 (.loop
 (.seq
 (.reg 30 none [1,2,3,4,17,18,19,20,171,172,173,174] [
 .r 174 (.bin .lss false (.t 173) (.t 172))])
 (.seq
 (.cond (.t 174)
 .skip
 (.exit 6))
 (.seq
 (.block 7
 (.seq
 (.reg 31 none [1,2,3,4,17,18,19,20,23,171,172,173] [
 .r 175 (.ixL 1 (.t 171) (.t 173)),
 .r 176 (.ld (some 1) (.t 175)),
 .r 23 (.new (.agg [.v (.slice none 0 0)])),
 .rn (.st 1 (.t 23) (.t 176))])
 (.seq
 (.reg 32 none [1,2,3,4,17,18,19,20,23,171,172,173,180,181,182] [
 .r 177 (.mv (.t 1)),
 .r 178 (.mv (.t 19)),
 .r 179 (.mv (.t 20)),
 .r 180 (.bsl 1 3 [.t 177,.t 178,.t 179]),
 .r 181 (.lenL (.t 180)),
 .r 182 (.mv (.k (.v (.int .i64 0))))])
 (.block 8
 (.loop
 (.seq
 (.reg 33 none [1,2,3,4,17,18,19,20,23,171,172,173,180,181,182,183] [
 .r 183 (.bin .lss false (.t 182) (.t 181))])
 (.seq
 (.cond (.t 183)
 .skip
 (.exit 8))
 (.seq
 (.block 9
 (.seq
 (.reg 34 none [1,2,3,4,17,18,19,20,23,25,171,172,173,180,181,182] [
 .r 184 (.ixL 1 (.t 180) (.t 182)),
 .r 185 (.ld none (.t 184)),
 .r 25 (.mv (.t 185))])
 (.seq
 (.reg 35 none [1,2,3,4,17,18,19,20,23,25,26,27,171,172,173,180,181,182] [
 .r 187 (.ld (some 1) (.t 23)),
 .r 188 (.mv (.t 25)),
 .r 189 (.call (.k (.clo F_equations_All [])) [.t 187,.t 188]),
 .r 186 (.mv (.t 189)),
 .r 190 (.ex (.t 186) 0),
 .r 191 (.ex (.t 186) 1),
 .r 26 (.mv (.t 190)),
 .r 27 (.mv (.t 191))])
 (.seq
 (.reg 36 none [1,2,3,4,17,18,19,20,23,25,26,27,28,29,171,172,173,180,181,182] [
 .r 193 (.ld (some 1) (.t 23)),
 .r 194 (.mv (.t 25)),
 .r 195 (.call (.k (.clo F_ref29_All [])) [.t 193,.t 194]),
 .r 192 (.mv (.t 195)),
 .r 196 (.ex (.t 192) 0),
 .r 197 (.ex (.t 192) 1),
 .r 28 (.mv (.t 196)),
 .r 29 (.mv (.t 197))])
 (.seq
 (.seq
 (.reg 37 (some [0,0,3,0,0,31,63,127,255,255,1023,2047,4095,8191,16383,16383,65535,131071]) [1,2,3,4,17,18,19,20,23,25,171,172,173,180,181,182,215] [
 .r 198 (.ld (some 1) (.t 23)),
 .r 199 (.mv (.t 25)),
 .r 200 (.call (.k (.clo F_equations_Check [])) [.t 198,.t 199]),
 .r 201 (.ld (some 1) (.t 23)),
 .r 202 (.mv (.t 25)),
 .r 203 (.call (.k (.clo F_ref29_Check [])) [.t 201,.t 202]),
 .r 204 (.bin .neq false (.t 200) (.t 203)),
 .r 205 (.mv (.t 204)),
 .rf 206 205 (.mv (.t 26)),
 .rf 207 205 (.mv (.t 28)),
 .rf 208 205 (.call (.k (.clo F_ref29_Same [])) [.t 206,.t 207]),
 .rf 209 205 (.un .not (.t 208)),
 .r 210 (.pick (.t 205) (.k (.v (.bool true))) (.t 209)),
 .r 211 (.mv (.t 210)),
 .rf 212 211 (.mv (.t 27)),
 .rf 213 211 (.mv (.t 29)),
 .rf 214 211 (.bin .neq false (.t 212) (.t 213)),
 .r 215 (.pick (.t 211) (.k (.v (.bool true))) (.t 214))])
 (.cond (.t 215)
 (.seq
 (.reg 38 none [12] [
 .r 12 (.mv (.k (.v (.bool false))))])
 .ret)
 .skip))
 (.seq
 (.reg 39 none [1,2,3,4,17,18,19,20,23,25,171,172,173,180,181,182,217,218] [
 .r 216 (.mv (.t 25)),
 .r 217 (.lenL (.t 216)),
 .r 218 (.mv (.k (.v (.int .i64 0))))])
 (.block 10
 (.loop
 (.seq
 (.reg 40 none [1,2,3,4,17,18,19,20,23,25,171,172,173,180,181,182,217,218,219] [
 .r 219 (.bin .lss false (.t 218) (.t 217))])
 (.seq
 (.cond (.t 219)
 .skip
 (.exit 10))
 (.seq
 (.block 11
 (.seq
 (.reg 41 none [1,2,3,4,17,18,19,20,23,25,30,171,172,173,180,181,182,217,218] [
 .r 220 (.mv (.t 218)),
 .r 30 (.mv (.t 220))])
 (.seq
 (.reg 42 (some [0,0,0,6,14,31,63,127,127,255,1023]) [1,2,3,4,17,18,19,20,23,25,30,31,32,171,172,173,180,181,182,217,218] [
 .r 222 (.ld (some 1) (.t 23)),
 .r 223 (.mv (.t 25)),
 .r 224 (.mv (.t 30)),
 .r 225 (.ixL 3 (.t 223) (.t 224)),
 .r 226 (.ld (some 3) (.t 225)),
 .r 227 (.call (.k (.clo F_equations_Of [])) [.t 222,.t 226]),
 .r 221 (.mv (.t 227)),
 .r 228 (.ex (.t 221) 0),
 .r 229 (.ex (.t 221) 1),
 .r 31 (.mv (.t 228)),
 .r 32 (.mv (.t 229))])
 (.seq
 (.reg 43 (some [0,0,0,6,14,31,63,127,127,255,1023]) [1,2,3,4,17,18,19,20,23,25,31,32,33,34,171,172,173,180,181,182,217,218] [
 .r 231 (.ld (some 1) (.t 23)),
 .r 232 (.mv (.t 25)),
 .r 233 (.mv (.t 30)),
 .r 234 (.ixL 3 (.t 232) (.t 233)),
 .r 235 (.ld (some 3) (.t 234)),
 .r 236 (.call (.k (.clo F_ref29_Of [])) [.t 231,.t 235]),
 .r 230 (.mv (.t 236)),
 .r 237 (.ex (.t 230) 0),
 .r 238 (.ex (.t 230) 1),
 .r 33 (.mv (.t 237)),
 .r 34 (.mv (.t 238))])
 (.seq
 (.reg 44 none [1,2,3,4,17,18,19,20,23,25,171,172,173,180,181,182,217,218,247] [
 .r 239 (.mv (.t 31)),
 .r 240 (.mv (.t 33)),
 .r 241 (.call (.k (.clo F_ref29_Same [])) [.t 239,.t 240]),
 .r 242 (.un .not (.t 241)),
 .r 243 (.mv (.t 242)),
 .rf 244 243 (.mv (.t 32)),
 .rf 245 243 (.mv (.t 34)),
 .rf 246 243 (.bin .neq false (.t 244) (.t 245)),
 .r 247 (.pick (.t 243) (.k (.v (.bool true))) (.t 246))])
 (.cond (.t 247)
 (.seq
 (.reg 45 none [12] [
 .r 12 (.mv (.k (.v (.bool false))))])
 .ret)
 .skip))))))
 (.reg 46 none [1,2,3,4,17,18,19,20,23,25,171,172,173,180,181,182,217,218] [
 .r 248 (.bin .add false (.t 218) (.k (.v (.int .i64 1)))),
 .r 218 (.mv (.t 248))]))))))))))))
 (.reg 47 none [1,2,3,4,17,18,19,20,23,171,172,173,180,181,182] [
 .r 249 (.bin .add false (.t 182) (.k (.v (.int .i64 1)))),
 .r 182 (.mv (.t 249))])))))))))
 (.reg 48 none [1,2,3,4,17,18,19,20,171,172,173] [
 .r 250 (.bin .add false (.t 173) (.k (.v (.int .i64 1)))),
 .r 173 (.mv (.t 250))])))))))
 (.seq
 (.reg 49 none [2,3,4,17,18,35] [
 .r 252 (.ld (some 1) (.t 17)),
 .r 253 (.mv (.t 19)),
 .r 254 (.call (.k (.clo F_ref29_All [])) [.t 252,.t 253]),
 .r 251 (.mv (.t 254)),
 .r 255 (.ex (.t 251) 0),
 .r 256 (.ex (.t 251) 1),
 .r 35 (.mv (.t 255)),
 .r 36 (.mv (.t 256))])
 (.seq
 (.seq
 (.reg 50 none [3,4,17,18,264,265,266] [
 .r 257 (.mv (.t 2)),
 .r 258 (.mv (.t 35)),
 .r 259 (.bsl 2 0 []),
 .r 260 (.mv (.t 35)),
 .r 261 (.app 2 32 false (.t 259) (.t 260)),
 .r 262 (.mv (.t 2)),
 .r 263 (.app 2 32 false (.t 261) (.t 262)),
 .r 264 (.bsl 1 3 [.t 257,.t 258,.t 263]),
 .r 265 (.lenL (.t 264)),
 .r 266 (.mv (.k (.v (.int .i64 0))))])
 (.block 12
 (.loop
 (.seq
 (.reg 51 none [3,4,17,18,264,265,266,267] [
 .r 267 (.bin .lss false (.t 266) (.t 265))])
 (.seq
 (.cond (.t 267)
 .skip
 (.exit 12))
 (.seq
 (.block 13
 (.seq
 (.reg 52 none [3,4,17,18,38,264,265,266] [
 .r 268 (.ixL 1 (.t 264) (.t 266)),
 .r 269 (.ld none (.t 268)),
 .r 38 (.mv (.t 269))])
 (.seq
 (.seq
 (.reg 53 (some [0,0,2,0,14,31,63,0]) [3,4,17,18,38,264,265,266,275,276,277] [
 .r 270 (.mv (.t 4)),
 .r 271 (.mv (.t 4)),
 .r 272 (.call (.k (.clo F_draw_Mod [])) [.t 271,.k (.v (.int .i64 60))]),
 .r 273 (.ld (some 1) (.t 17)),
 .r 274 (.call (.k (.clo F_ref28_Count [])) [.t 273]),
 .r 275 (.bsl 1 3 [.t 270,.t 272,.t 274]),
 .r 276 (.lenL (.t 275)),
 .r 277 (.mv (.k (.v (.int .i64 0))))])
 (.block 14
 (.loop
 (.seq
 (.reg 54 none [3,4,17,18,38,264,265,266,275,276,277,278] [
 .r 278 (.bin .lss false (.t 277) (.t 276))])
 (.seq
 (.cond (.t 278)
 .skip
 (.exit 14))
 (.seq
 (.block 15
 (.seq
 (.reg 55 none [3,4,17,18,38,40,264,265,266,275,276,277] [
 .r 279 (.ixL 1 (.t 275) (.t 277)),
 .r 280 (.ld none (.t 279)),
 .r 40 (.mv (.t 280))])
 (.seq
 (.reg 56 none [3,4,17,18,38,40,41,42,264,265,266,275,276,277] [
 .r 282 (.mv (.t 40)),
 .r 283 (.mv (.t 38)),
 .r 284 (.call (.k (.clo F_equations_Reduce [])) [.t 282,.t 283]),
 .r 281 (.mv (.t 284)),
 .r 285 (.ex (.t 281) 0),
 .r 286 (.ex (.t 281) 1),
 .r 41 (.mv (.t 285)),
 .r 42 (.mv (.t 286))])
 (.seq
 (.reg 57 none [3,4,17,18,38,40,41,42,43,44,264,265,266,275,276,277] [
 .r 288 (.mv (.t 40)),
 .r 289 (.mv (.t 38)),
 .r 290 (.call (.k (.clo F_ref29_Reduce [])) [.t 288,.t 289]),
 .r 287 (.mv (.t 290)),
 .r 291 (.ex (.t 287) 0),
 .r 292 (.ex (.t 287) 1),
 .r 43 (.mv (.t 291)),
 .r 44 (.mv (.t 292))])
 (.seq
 (.reg 58 none [3,4,17,18,38,264,265,266,275,276,277,320] [
 .r 293 (.mv (.t 40)),
 .r 294 (.mv (.t 38)),
 .r 295 (.call (.k (.clo F_equations_Valid [])) [.t 293,.t 294]),
 .r 296 (.mv (.t 40)),
 .r 297 (.mv (.t 38)),
 .r 298 (.call (.k (.clo F_ref29_Valid [])) [.t 296,.t 297]),
 .r 299 (.bin .neq true (.t 295) (.t 298)),
 .r 300 (.mv (.t 299)),
 .rf 301 300 (.mv (.t 40)),
 .rf 302 300 (.mv (.t 38)),
 .rf 303 300 (.call (.k (.clo F_equations_Touched [])) [.t 301,.t 302]),
 .rf 304 300 (.mv (.t 40)),
 .rf 305 300 (.mv (.t 38)),
 .rf 306 300 (.call (.k (.clo F_ref29_Touched [])) [.t 304,.t 305]),
 .rf 307 300 (.call (.k (.clo F_ref28_Ints [])) [.t 303,.t 306]),
 .rf 308 300 (.un .not (.t 307)),
 .r 309 (.pick (.t 300) (.k (.v (.bool true))) (.t 308)),
 .r 310 (.mv (.t 309)),
 .rf 311 310 (.mv (.t 41)),
 .rf 312 310 (.mv (.t 43)),
 .rf 313 310 (.call (.k (.clo F_ref29_Same [])) [.t 311,.t 312]),
 .rf 314 310 (.un .not (.t 313)),
 .r 315 (.pick (.t 310) (.k (.v (.bool true))) (.t 314)),
 .r 316 (.mv (.t 315)),
 .rf 317 316 (.mv (.t 42)),
 .rf 318 316 (.mv (.t 44)),
 .rf 319 316 (.bin .neq false (.t 317) (.t 318)),
 .r 320 (.pick (.t 316) (.k (.v (.bool true))) (.t 319))])
 (.cond (.t 320)
 (.seq
 (.reg 59 none [12] [
 .r 12 (.mv (.k (.v (.bool false))))])
 .ret)
 .skip))))))
 (.reg 60 none [3,4,17,18,38,264,265,266,275,276,277] [
 .r 321 (.bin .add false (.t 277) (.k (.v (.int .i64 1)))),
 .r 277 (.mv (.t 321))])))))))
 (.seq
 (.reg 61 none [3,4,17,18,264,265,266,337] [
 .r 322 (.mv (.t 38)),
 .r 323 (.mv (.t 3)),
 .r 324 (.call (.k (.clo F_equations_Agrees [])) [.t 322,.t 323]),
 .r 325 (.mv (.t 38)),
 .r 326 (.mv (.t 3)),
 .r 327 (.call (.k (.clo F_ref29_Agrees [])) [.t 325,.t 326]),
 .r 328 (.bin .neq true (.t 324) (.t 327)),
 .r 329 (.mv (.t 328)),
 .rf 330 329 (.mv (.t 38)),
 .rf 331 329 (.mv (.t 18)),
 .rf 332 329 (.call (.k (.clo F_equations_Agrees [])) [.t 330,.t 331]),
 .rf 333 329 (.mv (.t 38)),
 .rf 334 329 (.mv (.t 18)),
 .rf 335 329 (.call (.k (.clo F_ref29_Agrees [])) [.t 333,.t 334]),
 .rf 336 329 (.bin .neq true (.t 332) (.t 335)),
 .r 337 (.pick (.t 329) (.k (.v (.bool true))) (.t 336))])
 (.cond (.t 337)
 (.seq
 (.reg 62 none [12] [
 .r 12 (.mv (.k (.v (.bool false))))])
 .ret)
 .skip)))))
 (.reg 63 none [3,4,17,18,264,265,266] [
 .r 338 (.bin .add false (.t 266) (.k (.v (.int .i64 1)))),
 .r 266 (.mv (.t 338))])))))))
 (.seq
 (.reg 64 none [12] [
 .r 339 (.call (.k (.clo F_law29_awake [])) []),
 .r 12 (.mv (.t 339))])
 .ret))))))))))))
def ks_law29_EquationsAnswers:List (Nat×List Nat):=kssOf ir_law29_EquationsAnswers
theorem fn_law29_EquationsAnswers:FnIR Tryd.prog F_law29_EquationsAnswers 340 ks_law29_EquationsAnswers ir_law29_EquationsAnswers [(.tmp 12)]:=
 ⟨Tryd.f3,_,Tryd.func3,rfl,by kernel_rfl,rfl,by kernel_rfl,by kernel_rfl⟩
def ir_law29_awake:RC:=
 (.seq
 (.reg 0 none [] [
 .r 0 (.mv (.k (.v (.bool false))))])
 (.seq
 (.reg 1 none [1] [
 .r 5 (.bsl 1 2 [.k (.v (.int .i64 2)),.k (.v (.int .i64 2))]),
 .r 6 (.build [.v (.slice none 0 0)] [((0,1),.t 5)]),
 .r 1 (.new (.agg [.v (.slice none 0 0)])),
 .rn (.st 1 (.t 1) (.t 6))])
 (.seq
 (.reg 2 none [1,2] [
 .r 7 (.bsl 1 2 [.k (.v (.int .i64 0)),.k (.v (.int .i64 1))]),
 .r 8 (.bsl 1 2 [.k (.v (.int .i64 0)),.k (.v (.int .i64 0))]),
 .r 9 (.bsl 1 2 [.t 7,.t 8]),
 .r 10 (.build [.v (.slice none 0 0)] [((0,1),.t 9)]),
 .r 11 (.bsl 1 2 [.k (.v (.int .i64 3)),.k (.v (.int .i64 (-1)))]),
 .r 12 (.build [.v (.int .i64 0),.v (.slice none 0 0),.v (.slice none 0 0)] [((1,1),.t 10),((2,1),.t 11)]),
 .r 2 (.new (.agg [.v (.int .i64 0),.v (.slice none 0 0),.v (.slice none 0 0)])),
 .rn (.st 3 (.t 2) (.t 12))])
 (.seq
 (.reg 3 none [3,4] [
 .r 14 (.ld (some 1) (.t 1)),
 .r 15 (.ld (some 3) (.t 2)),
 .r 16 (.call (.k (.clo F_equations_Of [])) [.t 14,.t 15]),
 .r 13 (.mv (.t 16)),
 .r 17 (.ex (.t 13) 0),
 .r 18 (.ex (.t 13) 1),
 .r 3 (.mv (.t 17)),
 .r 4 (.mv (.t 18))])
 (.seq
 (.reg 4 none [0] [
 .r 19 (.mv (.t 4)),
 .r 20 (.bin .eql false (.t 19) (.k (.v (.int .i64 0)))),
 .r 21 (.mv (.t 20)),
 .rt 22 21 (.mv (.t 3)),
 .rt 23 21 (.bsl 1 2 [.k (.v (.int .i64 0)),.k (.v (.int .i64 1))]),
 .rt 24 21 (.build [.v (.slice none 0 0),.v (.int .i64 0)] [((0,1),.t 23),((1,1),.k (.v (.int .i64 3)))]),
 .rt 25 21 (.bsl 2 1 [.t 24]),
 .rt 26 21 (.call (.k (.clo F_ref29_Same [])) [.t 22,.t 25]),
 .r 27 (.pick (.t 21) (.t 26) (.k (.v (.bool false)))),
 .r 28 (.mv (.t 27)),
 .rt 29 28 (.mv (.t 3)),
 .rt 30 28 (.bsl 1 4 [.k (.v (.int .i64 1)),.k (.v (.int .i64 2)),.k (.v (.int .i64 0)),.k (.v (.int .i64 0))]),
 .rt 31 28 (.call (.k (.clo F_equations_Agrees [])) [.t 29,.t 30]),
 .r 32 (.pick (.t 28) (.t 31) (.k (.v (.bool false)))),
 .r 33 (.mv (.t 32)),
 .rt 34 33 (.mv (.t 3)),
 .rt 35 33 (.bsl 1 4 [.k (.v (.int .i64 1)),.k (.v (.int .i64 1)),.k (.v (.int .i64 0)),.k (.v (.int .i64 0))]),
 .rt 36 33 (.call (.k (.clo F_equations_Agrees [])) [.t 34,.t 35]),
 .rt 37 33 (.un .not (.t 36)),
 .r 38 (.pick (.t 33) (.t 37) (.k (.v (.bool false)))),
 .r 0 (.mv (.t 38))])
 .ret)))))
def ks_law29_awake:List (Nat×List Nat):=kssOf ir_law29_awake
theorem fn_law29_awake:FnIR Tryd.prog F_law29_awake 39 ks_law29_awake ir_law29_awake [(.tmp 0)]:=
 ⟨Tryd.f5,_,Tryd.func5,rfl,by kernel_rfl,rfl,by kernel_rfl,by kernel_rfl⟩
def ir_draw_New:RC:=
 (.seq
 (.reg 0 none [0] [
 .r 2 (.mv (.k (.v (.pointer none))))])
 (.seq
 (.reg 1 none [2] [
 .r 3 (.mv (.t 0)),
 .r 4 (.mv (.t 0)),
 .r 5 (.lenL (.t 4)),
 .r 6 (.mn [.t 5,.k (.v (.int .i64 400))]),
 .r 7 (.slL 1 (.t 3) none (some (.t 6))),
 .r 8 (.build [.v (.slice none 0 0),.v (.int .i64 0)] [((0,1),.t 7)]),
 .r 9 (.box (.t 8)),
 .r 2 (.mv (.t 9))])
 .ret))
def ks_draw_New:List (Nat×List Nat):=kssOf ir_draw_New
theorem fn_draw_New:FnIR Tryd.prog F_draw_New 10 ks_draw_New ir_draw_New [(.tmp 2)]:=
 ⟨Tryd.f6,_,Tryd.func6,rfl,by kernel_rfl,rfl,by kernel_rfl,by kernel_rfl⟩
def ir_made_Told:RC:=
 (.seq
 (.reg 0 none [0,1,2,6] [
 .r 6 (.new (.agg [.v (.slice none 0 0)])),
 .r 7 (.mv (.k (.v (.slice none 0 0)))),
 .r 8 (.mv (.k (.v (.slice none 0 0))))])
 (.seq
 (.reg 1 none [0,1,2,6,9] [
 .r 11 (.mv (.t 0)),
 .r 12 (.call (.k (.clo F_made_Space [])) [.t 11]),
 .r 9 (.new (.agg [.v (.slice none 0 0)])),
 .rn (.st 1 (.t 9) (.t 12))])
 (.seq
 (.reg 2 none [0,2,6,9,10] [
 .r 13 (.mv (.t 0)),
 .r 14 (.ld (some 1) (.t 9)),
 .r 15 (.mv (.t 1)),
 .r 16 (.call (.k (.clo F_made_Cells [])) [.t 13,.t 14,.t 15]),
 .r 10 (.mv (.t 16))])
 (.seq
 (.reg 3 (some [0,0,0,0,0,0,60,125,255,511]) [6,7,8] [
 .r 17 (.ld (some 1) (.t 9)),
 .r 18 (.mv (.t 10)),
 .r 19 (.mv (.t 0)),
 .r 20 (.ld (some 1) (.t 9)),
 .r 21 (.mv (.t 10)),
 .r 22 (.mv (.t 2)),
 .r 23 (.call (.k (.clo F_made_Releases [])) [.t 19,.t 20,.t 21,.t 22]),
 .rn (.st 1 (.t 6) (.t 17)),
 .r 7 (.mv (.t 18)),
 .r 8 (.mv (.t 23))])
 .ret))))
def ks_made_Told:List (Nat×List Nat):=kssOf ir_made_Told
theorem fn_made_Told:FnIR Tryd.prog F_made_Told 24 ks_made_Told ir_made_Told [(.cell 6 (some 1)),(.tmp 7),(.tmp 8)]:=
 ⟨Tryd.f7,_,Tryd.func7,rfl,by kernel_rfl,rfl,by kernel_rfl,by kernel_rfl⟩
def ir_draw_Mod:RC:=
 (.seq
 (.reg 0 none [0,1] [
 .r 4 (.mv (.k (.v (.int .i64 0))))])
 (.seq
 (.seq
 (.reg 1 none [0,1,6] [
 .r 5 (.mv (.t 1)),
 .r 6 (.bin .lss false (.t 5) (.k (.v (.int .i64 1))))])
 (.cond (.t 6)
 (.seq
 (.reg 2 none [4] [
 .r 4 (.mv (.k (.v (.int .i64 0))))])
 .ret)
 .skip))
 (.seq
 (.reg 3 none [0,1] [
 .r 7 (.mv (.t 0)),
 .r 8 (.mv (.t 1)),
 .r 9 (.bin .rem false (.t 7) (.t 8)),
 .r 0 (.mv (.t 9))])
 (.seq
 (.seq
 (.reg 4 none [0,1,11] [
 .r 10 (.mv (.t 0)),
 .r 11 (.bin .lss false (.t 10) (.k (.v (.int .i64 0))))])
 (.cond (.t 11)
 (.reg 5 none [0] [
 .r 12 (.mv (.t 0)),
 .r 13 (.mv (.t 1)),
 .r 14 (.bin .add false (.t 12) (.t 13)),
 .r 0 (.mv (.t 14))])
 .skip))
 (.seq
 (.reg 6 none [4] [
 .r 15 (.mv (.t 0)),
 .r 4 (.mv (.t 15))])
 .ret)))))
def ks_draw_Mod:List (Nat×List Nat):=kssOf ir_draw_Mod
theorem fn_draw_Mod:FnIR Tryd.prog F_draw_Mod 16 ks_draw_Mod ir_draw_Mod [(.tmp 4)]:=
 ⟨Tryd.f8,_,Tryd.func8,rfl,by kernel_rfl,rfl,by kernel_rfl,by kernel_rfl⟩
def ir_equations_All:RC:=
 (.seq
 (.reg 0 none [1,2] [
 .r 2 (.box (.t 0)),
 .r 4 (.mv (.k (.v (.slice none 0 0)))),
 .r 5 (.mv (.k (.v (.int .i64 0))))])
 (.seq
 (.seq
 (.reg 1 none [1,2,6] [
 .r 10 (.ld (some 1) (.t 2)),
 .r 11 (.mv (.t 1)),
 .r 12 (.call (.k (.clo F_equations_Check [])) [.t 10,.t 11]),
 .r 6 (.mv (.t 12))])
 (.seq
 (.reg 2 none [1,2,6,14] [
 .r 13 (.mv (.t 6)),
 .r 14 (.bin .neq false (.t 13) (.k (.v (.int .i64 0))))])
 (.cond (.t 14)
 (.seq
 (.reg 3 none [4,5] [
 .r 15 (.mv (.t 6)),
 .r 4 (.mv (.k (.v (.slice none 0 0)))),
 .r 5 (.mv (.t 15))])
 .ret)
 .skip)))
 (.seq
 (.reg 4 none [1,2,7] [
 .r 7 (.mv (.k (.v (.slice none 0 0))))])
 (.seq
 (.seq
 (.reg 5 none [2,7,16,17,18] [
 .r 16 (.mv (.t 1)),
 .r 17 (.lenL (.t 16)),
 .r 18 (.mv (.k (.v (.int .i64 0))))])
 (.block 0
 (.loop
 (.seq
 (.reg 6 none [2,7,16,17,18,19] [
 .r 19 (.bin .lss false (.t 18) (.t 17))])
 (.seq
 (.cond (.t 19)
 .skip
 (.exit 0))
 (.seq
 (.block 1
 (.seq
 (.reg 7 none [2,7,9,16,17,18] [
 .r 20 (.ixL 3 (.t 16) (.t 18)),
 .r 21 (.ld (some 3) (.t 20)),
 .r 9 (.new (.agg [.v (.int .i64 0),.v (.slice none 0 0),.v (.slice none 0 0)])),
 .rn (.st 3 (.t 9) (.t 21))])
 (.reg 8 none [2,7,16,17,18] [
 .r 22 (.mv (.t 7)),
 .r 23 (.ld (some 1) (.t 2)),
 .r 24 (.ld (some 3) (.t 9)),
 .r 25 (.call (.k (.clo F_equations_told [])) [.t 23,.t 24]),
 .r 26 (.app 2 32 false (.t 22) (.t 25)),
 .r 7 (.mv (.t 26))])))
 (.reg 9 none [2,7,16,17,18] [
 .r 27 (.bin .add false (.t 18) (.k (.v (.int .i64 1)))),
 .r 18 (.mv (.t 27))])))))))
 (.seq
 (.reg 10 none [4,5] [
 .r 28 (.mv (.t 7)),
 .r 4 (.mv (.t 28)),
 .r 5 (.mv (.k (.v (.int .i64 0))))])
 .ret)))))
def ks_equations_All:List (Nat×List Nat):=kssOf ir_equations_All
theorem fn_equations_All:FnIR Tryd.prog F_equations_All 29 ks_equations_All ir_equations_All [(.tmp 4),(.tmp 5)]:=
 ⟨Tryd.f9,_,Tryd.func9,rfl,by kernel_rfl,rfl,by kernel_rfl,by kernel_rfl⟩
def ir_ref29_All:RC:=
 (.seq
 (.reg 0 none [1,2] [
 .r 2 (.box (.t 0)),
 .r 4 (.mv (.k (.v (.slice none 0 0)))),
 .r 5 (.mv (.k (.v (.int .i64 0))))])
 (.seq
 (.seq
 (.reg 1 none [1,2,6] [
 .r 14 (.ld (some 1) (.t 2)),
 .r 15 (.mv (.t 1)),
 .r 16 (.call (.k (.clo F_ref29_Check [])) [.t 14,.t 15]),
 .r 6 (.mv (.t 16))])
 (.seq
 (.reg 2 none [1,2,6,18] [
 .r 17 (.mv (.t 6)),
 .r 18 (.bin .neq false (.t 17) (.k (.v (.int .i64 0))))])
 (.cond (.t 18)
 (.seq
 (.reg 3 none [4,5] [
 .r 19 (.mv (.t 6)),
 .r 4 (.mv (.k (.v (.slice none 0 0)))),
 .r 5 (.mv (.t 19))])
 .ret)
 .skip)))
 (.seq
 (.reg 4 none [1,2,7] [
 .r 7 (.mv (.k (.v (.slice none 0 0))))])
 (.seq
 (.seq
 (.reg 5 none [2,7,20,21,22] [
 .r 20 (.mv (.t 1)),
 .r 21 (.lenL (.t 20)),
 .r 22 (.mv (.k (.v (.int .i64 0))))])
 (.block 0
 (.loop
 (.seq
 (.reg 6 none [2,7,20,21,22,23] [
 .r 23 (.bin .lss false (.t 22) (.t 21))])
 (.seq
 (.cond (.t 23)
 .skip
 (.exit 0))
 (.seq
 (.block 1
 (.seq
 (.reg 7 none [2,7,9,20,21,22] [
 .r 24 (.ixL 3 (.t 20) (.t 22)),
 .r 25 (.ld (some 3) (.t 24)),
 .r 9 (.new (.agg [.v (.int .i64 0),.v (.slice none 0 0),.v (.slice none 0 0)])),
 .rn (.st 3 (.t 9) (.t 25))])
 (.seq
 (.reg 8 none [2,7,9,20,21,22,27,28,29] [
 .r 26 (.fa 2 (.t 9)),
 .r 27 (.ld none (.t 26)),
 .r 28 (.lenL (.t 27)),
 .r 29 (.mv (.k (.v (.int .i64 0))))])
 (.block 2
 (.loop
 (.seq
 (.reg 9 none [2,7,9,20,21,22,27,28,29,30] [
 .r 30 (.bin .lss false (.t 29) (.t 28))])
 (.seq
 (.cond (.t 30)
 .skip
 (.exit 2))
 (.seq
 (.block 3
 (.seq
 (.reg 10 none [2,7,9,10,11,20,21,22,27,28,29] [
 .r 31 (.mv (.t 29)),
 .r 32 (.ixL 1 (.t 27) (.t 29)),
 .r 33 (.ld none (.t 32)),
 .r 10 (.mv (.t 31)),
 .r 11 (.mv (.t 33))])
 (.seq
 (.reg 11 none [2,7,9,10,11,20,21,22,27,28,29,35] [
 .r 34 (.mv (.t 11)),
 .r 35 (.bin .neq false (.t 34) (.k (.v (.int .i64 (-1)))))])
 (.cond (.t 35)
 (.seq
 (.reg 12 none [2,7,9,11,12,20,21,22,27,28,29] [
 .r 37 (.ld (some 1) (.t 2)),
 .r 38 (.fa 1 (.t 9)),
 .r 39 (.ld (some 1) (.t 38)),
 .r 40 (.mv (.t 10)),
 .r 41 (.call (.k (.clo F_ref28_Members [])) [.t 37,.t 39,.t 40]),
 .r 36 (.mv (.t 41)),
 .r 42 (.ex (.t 36) 0),
 .r 43 (.ex (.t 36) 1),
 .r 12 (.mv (.t 42)),
 .r 13 (.mv (.t 43))])
 (.reg 13 none [2,7,9,20,21,22,27,28,29] [
 .r 44 (.mv (.t 7)),
 .r 45 (.mv (.t 12)),
 .r 46 (.mv (.t 11)),
 .r 47 (.build [.v (.slice none 0 0),.v (.int .i64 0)] [((0,1),.t 45),((1,1),.t 46)]),
 .r 48 (.bsl 2 1 [.t 47]),
 .r 49 (.app 2 32 false (.t 44) (.t 48)),
 .r 7 (.mv (.t 49))]))
 .skip))))
 (.reg 14 none [2,7,9,20,21,22,27,28,29] [
 .r 50 (.bin .add false (.t 29) (.k (.v (.int .i64 1)))),
 .r 29 (.mv (.t 50))])))))))))
 (.reg 15 none [2,7,20,21,22] [
 .r 51 (.bin .add false (.t 22) (.k (.v (.int .i64 1)))),
 .r 22 (.mv (.t 51))])))))))
 (.seq
 (.reg 16 none [4,5] [
 .r 52 (.mv (.t 7)),
 .r 4 (.mv (.t 52)),
 .r 5 (.mv (.k (.v (.int .i64 0))))])
 .ret)))))
def ks_ref29_All:List (Nat×List Nat):=kssOf ir_ref29_All
theorem fn_ref29_All:FnIR Tryd.prog F_ref29_All 53 ks_ref29_All ir_ref29_All [(.tmp 4),(.tmp 5)]:=
 ⟨Tryd.f10,_,Tryd.func10,rfl,by kernel_rfl,rfl,by kernel_rfl,by kernel_rfl⟩
def ir_equations_Check:RC:=
 (.seq
 (.reg 0 none [1,2] [
 .r 2 (.box (.t 0)),
 .r 4 (.mv (.k (.v (.int .i64 0))))])
 (.seq
 (.seq
 (.reg 1 none [1,2,5] [
 .r 10 (.ld (some 1) (.t 2)),
 .r 11 (.call (.k (.clo F_cells_Check [])) [.t 10]),
 .r 5 (.mv (.t 11))])
 (.seq
 (.reg 2 none [1,2,5,13] [
 .r 12 (.mv (.t 5)),
 .r 13 (.bin .neq false (.t 12) (.k (.v (.int .i64 0))))])
 (.cond (.t 13)
 (.seq
 (.reg 3 none [4] [
 .r 14 (.mv (.t 5)),
 .r 4 (.mv (.t 14))])
 .ret)
 .skip)))
 (.seq
 (.seq
 (.reg 4 none [1,2,17] [
 .r 15 (.mv (.t 1)),
 .r 16 (.lenL (.t 15)),
 .r 17 (.bin .gtr false (.t 16) (.k (.v (.int .i64 24))))])
 (.cond (.t 17)
 (.seq
 (.reg 5 none [4] [
 .r 4 (.mv (.k (.v (.int .i64 1))))])
 .ret)
 .skip))
 (.seq
 (.reg 6 none [1,2,6] [
 .r 6 (.mv (.k (.v (.int .i64 (-1)))))])
 (.seq
 (.seq
 (.reg 7 none [2,6,18,19,20] [
 .r 18 (.mv (.t 1)),
 .r 19 (.lenL (.t 18)),
 .r 20 (.mv (.k (.v (.int .i64 0))))])
 (.block 0
 (.loop
 (.seq
 (.reg 8 none [2,6,18,19,20,21] [
 .r 21 (.bin .lss false (.t 20) (.t 19))])
 (.seq
 (.cond (.t 21)
 .skip
 (.exit 0))
 (.seq
 (.block 1
 (.seq
 (.reg 9 none [2,6,8,18,19,20] [
 .r 22 (.ixL 3 (.t 18) (.t 20)),
 .r 23 (.ld (some 3) (.t 22)),
 .r 8 (.new (.agg [.v (.int .i64 0),.v (.slice none 0 0),.v (.slice none 0 0)])),
 .rn (.st 3 (.t 8) (.t 23))])
 (.seq
 (.seq
 (.reg 10 none [2,8,9,18,19,20] [
 .r 24 (.ld (some 1) (.t 2)),
 .r 25 (.ld (some 3) (.t 8)),
 .r 26 (.mv (.t 6)),
 .r 27 (.call (.k (.clo F_equations_check [])) [.t 24,.t 25,.t 26]),
 .r 9 (.mv (.t 27))])
 (.seq
 (.reg 11 none [2,8,9,18,19,20,29] [
 .r 28 (.mv (.t 9)),
 .r 29 (.bin .neq false (.t 28) (.k (.v (.int .i64 0))))])
 (.cond (.t 29)
 (.seq
 (.reg 12 none [4] [
 .r 30 (.mv (.t 9)),
 .r 4 (.mv (.t 30))])
 .ret)
 .skip)))
 (.reg 13 none [2,6,18,19,20] [
 .r 31 (.fa 0 (.t 8)),
 .r 32 (.ld none (.t 31)),
 .r 6 (.mv (.t 32))]))))
 (.reg 14 none [2,6,18,19,20] [
 .r 33 (.bin .add false (.t 20) (.k (.v (.int .i64 1)))),
 .r 20 (.mv (.t 33))])))))))
 (.seq
 (.reg 15 none [4] [
 .r 4 (.mv (.k (.v (.int .i64 0))))])
 .ret))))))
def ks_equations_Check:List (Nat×List Nat):=kssOf ir_equations_Check
theorem fn_equations_Check:FnIR Tryd.prog F_equations_Check 34 ks_equations_Check ir_equations_Check [(.tmp 4)]:=
 ⟨Tryd.f11,_,Tryd.func11,rfl,by kernel_rfl,rfl,by kernel_rfl,by kernel_rfl⟩
def ir_ref29_Check:RC:=
 (.seq
 (.reg 0 none [1,2] [
 .r 2 (.box (.t 0)),
 .r 4 (.mv (.k (.v (.int .i64 0))))])
 (.seq
 (.seq
 (.reg 1 none [1,2,5] [
 .r 10 (.ld (some 1) (.t 2)),
 .r 11 (.call (.k (.clo F_ref28_Check [])) [.t 10]),
 .r 5 (.mv (.t 11))])
 (.seq
 (.reg 2 none [1,2,5,13] [
 .r 12 (.mv (.t 5)),
 .r 13 (.bin .neq false (.t 12) (.k (.v (.int .i64 0))))])
 (.cond (.t 13)
 (.seq
 (.reg 3 none [4] [
 .r 14 (.mv (.t 5)),
 .r 4 (.mv (.t 14))])
 .ret)
 .skip)))
 (.seq
 (.seq
 (.reg 4 none [1,2,17] [
 .r 15 (.mv (.t 1)),
 .r 16 (.lenL (.t 15)),
 .r 17 (.bin .gtr false (.t 16) (.k (.v (.int .i64 24))))])
 (.cond (.t 17)
 (.seq
 (.reg 5 none [4] [
 .r 4 (.mv (.k (.v (.int .i64 1))))])
 .ret)
 .skip))
 (.seq
 (.reg 6 none [1,2,6] [
 .r 6 (.mv (.k (.v (.int .i64 (-1)))))])
 (.seq
 (.seq
 (.reg 7 none [2,6,18,19,20] [
 .r 18 (.mv (.t 1)),
 .r 19 (.lenL (.t 18)),
 .r 20 (.mv (.k (.v (.int .i64 0))))])
 (.block 0
 (.loop
 (.seq
 (.reg 8 none [2,6,18,19,20,21] [
 .r 21 (.bin .lss false (.t 20) (.t 19))])
 (.seq
 (.cond (.t 21)
 .skip
 (.exit 0))
 (.seq
 (.block 1
 (.seq
 (.reg 9 none [2,6,8,18,19,20] [
 .r 22 (.ixL 3 (.t 18) (.t 20)),
 .r 23 (.ld (some 3) (.t 22)),
 .r 8 (.new (.agg [.v (.int .i64 0),.v (.slice none 0 0),.v (.slice none 0 0)])),
 .rn (.st 3 (.t 8) (.t 23))])
 (.seq
 (.seq
 (.reg 10 none [2,8,9,18,19,20] [
 .r 24 (.ld (some 1) (.t 2)),
 .r 25 (.ld (some 3) (.t 8)),
 .r 26 (.mv (.t 6)),
 .r 27 (.call (.k (.clo F_ref29_release [])) [.t 24,.t 25,.t 26]),
 .r 9 (.mv (.t 27))])
 (.seq
 (.reg 11 none [2,8,9,18,19,20,29] [
 .r 28 (.mv (.t 9)),
 .r 29 (.bin .neq false (.t 28) (.k (.v (.int .i64 0))))])
 (.cond (.t 29)
 (.seq
 (.reg 12 none [4] [
 .r 30 (.mv (.t 9)),
 .r 4 (.mv (.t 30))])
 .ret)
 .skip)))
 (.reg 13 none [2,6,18,19,20] [
 .r 31 (.fa 0 (.t 8)),
 .r 32 (.ld none (.t 31)),
 .r 6 (.mv (.t 32))]))))
 (.reg 14 none [2,6,18,19,20] [
 .r 33 (.bin .add false (.t 20) (.k (.v (.int .i64 1)))),
 .r 20 (.mv (.t 33))])))))))
 (.seq
 (.reg 15 none [4] [
 .r 4 (.mv (.k (.v (.int .i64 0))))])
 .ret))))))
def ks_ref29_Check:List (Nat×List Nat):=kssOf ir_ref29_Check
theorem fn_ref29_Check:FnIR Tryd.prog F_ref29_Check 34 ks_ref29_Check ir_ref29_Check [(.tmp 4)]:=
 ⟨Tryd.f12,_,Tryd.func12,rfl,by kernel_rfl,rfl,by kernel_rfl,by kernel_rfl⟩
def ir_ref29_Same:RC:=
 (.seq
 (.reg 0 none [0,1] [
 .r 4 (.mv (.k (.v (.bool false))))])
 (.seq
 (.seq
 (.reg 1 none [0,1,10] [
 .r 6 (.mv (.t 0)),
 .r 7 (.lenL (.t 6)),
 .r 8 (.mv (.t 1)),
 .r 9 (.lenL (.t 8)),
 .r 10 (.bin .neq false (.t 7) (.t 9))])
 (.cond (.t 10)
 (.seq
 (.reg 2 none [4] [
 .r 4 (.mv (.k (.v (.bool false))))])
 .ret)
 .skip))
 (.seq
 (.seq
 (.reg 3 none [0,1,12,13] [
 .r 11 (.mv (.t 0)),
 .r 12 (.lenL (.t 11)),
 .r 13 (.mv (.k (.v (.int .i64 0))))])
 (.block 0
 (.loop
 (.seq
 (.reg 4 none [0,1,12,13,14] [
 .r 14 (.bin .lss false (.t 13) (.t 12))])
 (.seq
 (.cond (.t 14)
 .skip
 (.exit 0))
 (.seq
 (.block 1
 (.seq
 (.reg 5 none [0,1,5,12,13] [
 .r 15 (.mv (.t 13)),
 .r 5 (.mv (.t 15))])
 (.seq
 (.reg 6 (some [0,0,3,7,15,0,0,96,224,480,1023,2047,4095,4095,16383,32767,65535,4095,4095,397311,921599,1970175,4194303,8388607,16777215]) [0,1,12,13,40] [
 .r 16 (.mv (.t 0)),
 .r 17 (.mv (.t 5)),
 .r 18 (.ixL 2 (.t 16) (.t 17)),
 .r 19 (.fa 1 (.t 18)),
 .r 20 (.ld none (.t 19)),
 .r 21 (.mv (.t 1)),
 .r 22 (.mv (.t 5)),
 .r 23 (.ixL 2 (.t 21) (.t 22)),
 .r 24 (.fa 1 (.t 23)),
 .r 25 (.ld none (.t 24)),
 .r 26 (.bin .neq false (.t 20) (.t 25)),
 .r 27 (.mv (.t 26)),
 .rf 28 27 (.mv (.t 0)),
 .rf 29 27 (.mv (.t 5)),
 .rf 30 27 (.ixL 2 (.t 28) (.t 29)),
 .rf 31 27 (.fa 0 (.t 30)),
 .rf 32 27 (.ld none (.t 31)),
 .rf 33 27 (.mv (.t 1)),
 .rf 34 27 (.mv (.t 5)),
 .rf 35 27 (.ixL 2 (.t 33) (.t 34)),
 .rf 36 27 (.fa 0 (.t 35)),
 .rf 37 27 (.ld none (.t 36)),
 .rf 38 27 (.call (.k (.clo F_ref28_Ints [])) [.t 32,.t 37]),
 .rf 39 27 (.un .not (.t 38)),
 .r 40 (.pick (.t 27) (.k (.v (.bool true))) (.t 39))])
 (.cond (.t 40)
 (.seq
 (.reg 7 none [4] [
 .r 4 (.mv (.k (.v (.bool false))))])
 .ret)
 .skip))))
 (.reg 8 none [0,1,12,13] [
 .r 41 (.bin .add false (.t 13) (.k (.v (.int .i64 1)))),
 .r 13 (.mv (.t 41))])))))))
 (.seq
 (.reg 9 none [4] [
 .r 4 (.mv (.k (.v (.bool true))))])
 .ret))))
def ks_ref29_Same:List (Nat×List Nat):=kssOf ir_ref29_Same
theorem fn_ref29_Same:FnIR Tryd.prog F_ref29_Same 42 ks_ref29_Same ir_ref29_Same [(.tmp 4)]:=
 ⟨Tryd.f13,_,Tryd.func13,rfl,by kernel_rfl,rfl,by kernel_rfl,by kernel_rfl⟩
def ir_equations_Of:RC:=
 (.seq
 (.reg 0 none [2,3] [
 .r 2 (.box (.t 0)),
 .r 3 (.box (.t 1)),
 .r 4 (.mv (.k (.v (.slice none 0 0)))),
 .r 5 (.mv (.k (.v (.int .i64 0))))])
 (.seq
 (.reg 1 none [4,5] [
 .r 6 (.ld (some 1) (.t 2)),
 .r 7 (.ld (some 3) (.t 3)),
 .r 8 (.bsl 3 1 [.t 7]),
 .r 9 (.call (.k (.clo F_equations_All [])) [.t 6,.t 8]),
 .r 10 (.ex (.t 9) 0),
 .r 11 (.ex (.t 9) 1),
 .r 4 (.mv (.t 10)),
 .r 5 (.mv (.t 11))])
 .ret))
def ks_equations_Of:List (Nat×List Nat):=kssOf ir_equations_Of
theorem fn_equations_Of:FnIR Tryd.prog F_equations_Of 12 ks_equations_Of ir_equations_Of [(.tmp 4),(.tmp 5)]:=
 ⟨Tryd.f14,_,Tryd.func14,rfl,by kernel_rfl,rfl,by kernel_rfl,by kernel_rfl⟩
def ir_ref29_Of:RC:=
 (.seq
 (.reg 0 none [2,3] [
 .r 2 (.box (.t 0)),
 .r 3 (.box (.t 1)),
 .r 4 (.mv (.k (.v (.slice none 0 0)))),
 .r 5 (.mv (.k (.v (.int .i64 0))))])
 (.seq
 (.reg 1 none [4,5] [
 .r 6 (.ld (some 1) (.t 2)),
 .r 7 (.ld (some 3) (.t 3)),
 .r 8 (.bsl 3 1 [.t 7]),
 .r 9 (.call (.k (.clo F_ref29_All [])) [.t 6,.t 8]),
 .r 10 (.ex (.t 9) 0),
 .r 11 (.ex (.t 9) 1),
 .r 4 (.mv (.t 10)),
 .r 5 (.mv (.t 11))])
 .ret))
def ks_ref29_Of:List (Nat×List Nat):=kssOf ir_ref29_Of
theorem fn_ref29_Of:FnIR Tryd.prog F_ref29_Of 12 ks_ref29_Of ir_ref29_Of [(.tmp 4),(.tmp 5)]:=
 ⟨Tryd.f15,_,Tryd.func15,rfl,by kernel_rfl,rfl,by kernel_rfl,by kernel_rfl⟩
def ir_ref28_Count:RC:=
 (.seq
 (.reg 0 none [1] [
 .r 1 (.box (.t 0)),
 .r 2 (.mv (.k (.v (.int .i64 0))))])
 (.seq
 (.seq
 (.reg 1 none [1,8] [
 .r 6 (.ld (some 1) (.t 1)),
 .r 7 (.call (.k (.clo F_ref28_Check [])) [.t 6]),
 .r 8 (.bin .neq false (.t 7) (.k (.v (.int .i64 0))))])
 (.cond (.t 8)
 (.seq
 (.reg 2 none [2] [
 .r 2 (.mv (.k (.v (.int .i64 0))))])
 .ret)
 .skip))
 (.seq
 (.reg 3 none [1,3] [
 .r 3 (.mv (.k (.v (.int .i64 1))))])
 (.seq
 (.seq
 (.reg 4 none [3,10,11,12] [
 .r 9 (.fa 0 (.t 1)),
 .r 10 (.ld none (.t 9)),
 .r 11 (.lenL (.t 10)),
 .r 12 (.mv (.k (.v (.int .i64 0))))])
 (.block 0
 (.loop
 (.seq
 (.reg 5 none [3,10,11,12,13] [
 .r 13 (.bin .lss false (.t 12) (.t 11))])
 (.seq
 (.cond (.t 13)
 .skip
 (.exit 0))
 (.seq
 (.block 1
 (.seq
 (.reg 6 none [3,5,10,11,12] [
 .r 14 (.ixL 1 (.t 10) (.t 12)),
 .r 15 (.ld none (.t 14)),
 .r 5 (.mv (.t 15))])
 (.reg 7 none [3,10,11,12] [
 .r 16 (.mv (.t 3)),
 .r 17 (.mv (.t 5)),
 .r 18 (.bin .mul false (.t 16) (.t 17)),
 .r 3 (.mv (.t 18))])))
 (.reg 8 none [3,10,11,12] [
 .r 19 (.bin .add false (.t 12) (.k (.v (.int .i64 1)))),
 .r 12 (.mv (.t 19))])))))))
 (.seq
 (.reg 9 none [2] [
 .r 20 (.mv (.t 3)),
 .r 2 (.mv (.t 20))])
 .ret)))))
def ks_ref28_Count:List (Nat×List Nat):=kssOf ir_ref28_Count
theorem fn_ref28_Count:FnIR Tryd.prog F_ref28_Count 21 ks_ref28_Count ir_ref28_Count [(.tmp 2)]:=
 ⟨Tryd.f16,_,Tryd.func16,rfl,by kernel_rfl,rfl,by kernel_rfl,by kernel_rfl⟩
def ir_equations_Reduce:RC:=
 (.seq
 (.reg 0 none [0,1] [
 .r 4 (.mv (.k (.v (.slice none 0 0)))),
 .r 5 (.mv (.k (.v (.int .i64 0))))])
 (.seq
 (.seq
 (.reg 1 none [1,16] [
 .r 13 (.mv (.t 0)),
 .r 14 (.mv (.t 1)),
 .r 15 (.call (.k (.clo F_equations_Valid [])) [.t 13,.t 14]),
 .r 16 (.un .not (.t 15))])
 (.cond (.t 16)
 (.seq
 (.reg 2 none [4,5] [
 .r 4 (.mv (.k (.v (.slice none 0 0)))),
 .r 5 (.mv (.k (.v (.int .i64 55))))])
 .ret)
 .skip))
 (.seq
 (.reg 3 none [1,6] [
 .r 17 (.ext (.mkm .si) []),
 .r 6 (.mv (.t 17))])
 (.seq
 (.reg 4 none [1,6,7] [
 .r 7 (.mv (.k (.v (.slice none 0 0))))])
 (.seq
 (.seq
 (.reg 5 none [6,7,18,19,20] [
 .r 18 (.mv (.t 1)),
 .r 19 (.lenL (.t 18)),
 .r 20 (.mv (.k (.v (.int .i64 0))))])
 (.block 0
 (.loop
 (.seq
 (.reg 6 none [6,7,18,19,20,21] [
 .r 21 (.bin .lss false (.t 20) (.t 19))])
 (.seq
 (.cond (.t 21)
 .skip
 (.exit 0))
 (.seq
 (.block 1
 (.seq
 (.reg 7 none [6,7,9,18,19,20] [
 .r 22 (.ixL 2 (.t 18) (.t 20)),
 .r 23 (.ld (some 2) (.t 22)),
 .r 9 (.new (.agg [.v (.slice none 0 0),.v (.int .i64 0)])),
 .rn (.st 2 (.t 9) (.t 23))])
 (.seq
 (.reg 8 none [6,7,9,10,18,19,20] [
 .r 24 (.fa 0 (.t 9)),
 .r 25 (.ld none (.t 24)),
 .r 26 (.call (.k (.clo F_equations_text [])) [.t 25]),
 .r 10 (.mv (.t 26))])
 (.seq
 (.reg 9 none [6,7,9,10,11,12,18,19,20] [
 .r 28 (.mv (.t 6)),
 .r 29 (.mv (.t 10)),
 .r 30 (.ext (.mget .si true) [.t 28,.t 29]),
 .r 27 (.mv (.t 30)),
 .r 31 (.ex (.t 27) 0),
 .r 32 (.ex (.t 27) 1),
 .r 11 (.mv (.t 31)),
 .r 12 (.mv (.t 32))])
 (.block 2
 (.seq
 (.reg 10 none [6,7,9,10,11,18,19,20,33] [
 .r 34 (.mv (.t 12)),
 .r 35 (.un .not (.t 34)),
 .r 33 (.mv (.t 35))])
 (.cond (.t 33)
 (.seq
 (.reg 11 none [6,7,9,18,19,20] [
 .r 36 (.mv (.t 6)),
 .r 37 (.mv (.t 10)),
 .r 38 (.fa 1 (.t 9)),
 .r 39 (.ld none (.t 38)),
 .rn (.ext (.mput .si) [.t 36,.t 37,.t 39])])
 (.reg 12 (some [0,0,2,6,0,16,62,126,255,511]) [6,7,18,19,20] [
 .r 40 (.mv (.t 7)),
 .r 41 (.fa 0 (.t 9)),
 .r 42 (.ld none (.t 41)),
 .r 43 (.call (.k (.clo F_slices_Clone_int [])) [.t 42]),
 .r 44 (.fa 1 (.t 9)),
 .r 45 (.ld none (.t 44)),
 .r 46 (.build [.v (.slice none 0 0),.v (.int .i64 0)] [((0,1),.t 43),((1,1),.t 45)]),
 .r 47 (.bsl 2 1 [.t 46]),
 .r 48 (.app 2 32 false (.t 40) (.t 47)),
 .r 7 (.mv (.t 48))]))
 (.seq
 (.reg 13 none [6,7,18,19,20,49] [
 .r 50 (.mv (.t 11)),
 .r 51 (.fa 1 (.t 9)),
 .r 52 (.ld none (.t 51)),
 .r 53 (.bin .neq false (.t 50) (.t 52)),
 .r 49 (.mv (.t 53))])
 (.cond (.t 49)
 (.seq
 (.reg 14 none [4,5] [
 .r 4 (.mv (.k (.v (.slice none 0 0)))),
 .r 5 (.mv (.k (.v (.int .i64 52))))])
 .ret)
 .skip)))))))))
 (.reg 15 none [6,7,18,19,20] [
 .r 54 (.bin .add false (.t 20) (.k (.v (.int .i64 1)))),
 .r 20 (.mv (.t 54))])))))))
 (.seq
 (.reg 16 none [4,5] [
 .r 55 (.mv (.t 7)),
 .r 4 (.mv (.t 55)),
 .r 5 (.mv (.k (.v (.int .i64 0))))])
 .ret))))))
def ks_equations_Reduce:List (Nat×List Nat):=kssOf ir_equations_Reduce
theorem fn_equations_Reduce:FnIR Tryd.prog F_equations_Reduce 56 ks_equations_Reduce ir_equations_Reduce [(.tmp 4),(.tmp 5)]:=
 ⟨Tryd.f17,_,Tryd.func17,rfl,by kernel_rfl,rfl,by kernel_rfl,by kernel_rfl⟩
def ir_ref29_Reduce:RC:=
 (.seq
 (.reg 0 none [0,1] [
 .r 4 (.mv (.k (.v (.slice none 0 0)))),
 .r 5 (.mv (.k (.v (.int .i64 0))))])
 (.seq
 (.seq
 (.reg 1 none [1,15] [
 .r 12 (.mv (.t 0)),
 .r 13 (.mv (.t 1)),
 .r 14 (.call (.k (.clo F_ref29_Valid [])) [.t 12,.t 13]),
 .r 15 (.un .not (.t 14))])
 (.cond (.t 15)
 (.seq
 (.reg 2 none [4,5] [
 .r 4 (.mv (.k (.v (.slice none 0 0)))),
 .r 5 (.mv (.k (.v (.int .i64 55))))])
 .ret)
 .skip))
 (.seq
 (.reg 3 none [1,6] [
 .r 6 (.mv (.k (.v (.slice none 0 0))))])
 (.seq
 (.seq
 (.reg 4 none [6,16,17,18] [
 .r 16 (.mv (.t 1)),
 .r 17 (.lenL (.t 16)),
 .r 18 (.mv (.k (.v (.int .i64 0))))])
 (.block 0
 (.loop
 (.seq
 (.reg 5 none [6,16,17,18,19] [
 .r 19 (.bin .lss false (.t 18) (.t 17))])
 (.seq
 (.cond (.t 19)
 .skip
 (.exit 0))
 (.seq
 (.block 1
 (.seq
 (.reg 6 none [6,8,16,17,18] [
 .r 20 (.ixL 2 (.t 16) (.t 18)),
 .r 21 (.ld (some 2) (.t 20)),
 .r 8 (.new (.agg [.v (.slice none 0 0),.v (.int .i64 0)])),
 .rn (.st 2 (.t 8) (.t 21))])
 (.seq
 (.reg 7 none [6,8,9,16,17,18] [
 .r 9 (.mv (.k (.v (.bool false))))])
 (.seq
 (.seq
 (.reg 8 none [6,8,9,16,17,18,22,23,24] [
 .r 22 (.mv (.t 6)),
 .r 23 (.lenL (.t 22)),
 .r 24 (.mv (.k (.v (.int .i64 0))))])
 (.block 2
 (.loop
 (.seq
 (.reg 9 none [6,8,9,16,17,18,22,23,24,25] [
 .r 25 (.bin .lss false (.t 24) (.t 23))])
 (.seq
 (.cond (.t 25)
 .skip
 (.exit 2))
 (.seq
 (.block 3
 (.seq
 (.reg 10 none [6,8,9,11,16,17,18,22,23,24] [
 .r 26 (.ixL 2 (.t 22) (.t 24)),
 .r 27 (.ld (some 2) (.t 26)),
 .r 11 (.new (.agg [.v (.slice none 0 0),.v (.int .i64 0)])),
 .rn (.st 2 (.t 11) (.t 27))])
 (.seq
 (.reg 11 none [6,8,9,11,16,17,18,22,23,24,32] [
 .r 28 (.fa 0 (.t 11)),
 .r 29 (.ld none (.t 28)),
 .r 30 (.fa 0 (.t 8)),
 .r 31 (.ld none (.t 30)),
 .r 32 (.call (.k (.clo F_ref28_Ints [])) [.t 29,.t 31])])
 (.cond (.t 32)
 (.seq
 (.seq
 (.reg 12 none [6,8,16,17,18,22,23,24,37] [
 .r 33 (.fa 1 (.t 11)),
 .r 34 (.ld none (.t 33)),
 .r 35 (.fa 1 (.t 8)),
 .r 36 (.ld none (.t 35)),
 .r 37 (.bin .neq false (.t 34) (.t 36))])
 (.cond (.t 37)
 (.seq
 (.reg 13 none [4,5] [
 .r 4 (.mv (.k (.v (.slice none 0 0)))),
 .r 5 (.mv (.k (.v (.int .i64 52))))])
 .ret)
 .skip))
 (.reg 14 none [6,8,9,16,17,18,22,23,24] [
 .r 9 (.mv (.k (.v (.bool true))))]))
 .skip))))
 (.reg 15 none [6,8,9,16,17,18,22,23,24] [
 .r 38 (.bin .add false (.t 24) (.k (.v (.int .i64 1)))),
 .r 24 (.mv (.t 38))])))))))
 (.seq
 (.reg 16 none [6,8,16,17,18,40] [
 .r 39 (.mv (.t 9)),
 .r 40 (.un .not (.t 39))])
 (.cond (.t 40)
 (.reg 17 none [6,16,17,18] [
 .r 41 (.mv (.t 6)),
 .r 42 (.ld (some 2) (.t 8)),
 .r 43 (.bsl 2 1 [.t 42]),
 .r 44 (.app 2 32 false (.t 41) (.t 43)),
 .r 6 (.mv (.t 44))])
 .skip))))))
 (.reg 18 none [6,16,17,18] [
 .r 45 (.bin .add false (.t 18) (.k (.v (.int .i64 1)))),
 .r 18 (.mv (.t 45))])))))))
 (.seq
 (.reg 19 none [4,5] [
 .r 46 (.mv (.t 6)),
 .r 4 (.mv (.t 46)),
 .r 5 (.mv (.k (.v (.int .i64 0))))])
 .ret)))))
def ks_ref29_Reduce:List (Nat×List Nat):=kssOf ir_ref29_Reduce
theorem fn_ref29_Reduce:FnIR Tryd.prog F_ref29_Reduce 47 ks_ref29_Reduce ir_ref29_Reduce [(.tmp 4),(.tmp 5)]:=
 ⟨Tryd.f18,_,Tryd.func18,rfl,by kernel_rfl,rfl,by kernel_rfl,by kernel_rfl⟩
def ir_equations_Valid:RC:=
 (.seq
 (.reg 0 none [1,2] [
 .r 2 (.box (.t 0)),
 .r 4 (.mv (.k (.v (.bool false))))])
 (.seq
 (.reg 1 none [4] [
 .r 5 (.ld none (.t 2)),
 .r 6 (.bin .geq false (.t 5) (.k (.v (.int .i64 1)))),
 .r 7 (.mv (.t 6)),
 .rt 8 7 (.ld none (.t 2)),
 .rt 9 7 (.bin .leq false (.t 8) (.k (.v (.int .i64 48)))),
 .r 10 (.pick (.t 7) (.t 9) (.k (.v (.bool false)))),
 .r 11 (.mv (.t 10)),
 .rt 12 11 (.mv (.t 1)),
 .rt 13 11 (.lenL (.t 12)),
 .rt 14 11 (.bin .leq false (.t 13) (.k (.v (.int .i64 1152)))),
 .r 15 (.pick (.t 11) (.t 14) (.k (.v (.bool false)))),
 .r 16 (.mv (.t 15)),
 .rt 17 16 (.mv (.t 1)),
 .rt 18 16 (.mf F_equations_Valid_1 [.t 2]),
 .rt 19 16 (.call (.k (.clo F_slices_ContainsFunc_Equation [])) [.t 17,.t 18]),
 .rt 20 16 (.un .not (.t 19)),
 .r 21 (.pick (.t 16) (.t 20) (.k (.v (.bool false)))),
 .r 4 (.mv (.t 21))])
 .ret))
def ks_equations_Valid:List (Nat×List Nat):=kssOf ir_equations_Valid
theorem fn_equations_Valid:FnIR Tryd.prog F_equations_Valid 22 ks_equations_Valid ir_equations_Valid [(.tmp 4)]:=
 ⟨Tryd.f19,_,Tryd.func19,rfl,by kernel_rfl,rfl,by kernel_rfl,by kernel_rfl⟩
def ir_ref29_Valid:RC:=
 (.seq
 (.reg 0 none [0,1] [
 .r 4 (.mv (.k (.v (.bool false))))])
 (.seq
 (.seq
 (.reg 1 none [0,1,20] [
 .r 10 (.mv (.t 0)),
 .r 11 (.bin .lss false (.t 10) (.k (.v (.int .i64 1)))),
 .r 12 (.mv (.t 11)),
 .rf 13 12 (.mv (.t 0)),
 .rf 14 12 (.bin .gtr false (.t 13) (.k (.v (.int .i64 48)))),
 .r 15 (.pick (.t 12) (.k (.v (.bool true))) (.t 14)),
 .r 16 (.mv (.t 15)),
 .rf 17 16 (.mv (.t 1)),
 .rf 18 16 (.lenL (.t 17)),
 .rf 19 16 (.bin .gtr false (.t 18) (.k (.v (.int .i64 1152)))),
 .r 20 (.pick (.t 16) (.k (.v (.bool true))) (.t 19))])
 (.cond (.t 20)
 (.seq
 (.reg 2 none [4] [
 .r 4 (.mv (.k (.v (.bool false))))])
 .ret)
 .skip))
 (.seq
 (.seq
 (.reg 3 none [0,21,22,23] [
 .r 21 (.mv (.t 1)),
 .r 22 (.lenL (.t 21)),
 .r 23 (.mv (.k (.v (.int .i64 0))))])
 (.block 0
 (.loop
 (.seq
 (.reg 4 none [0,21,22,23,24] [
 .r 24 (.bin .lss false (.t 23) (.t 22))])
 (.seq
 (.cond (.t 24)
 .skip
 (.exit 0))
 (.seq
 (.block 1
 (.seq
 (.reg 5 none [0,6,21,22,23] [
 .r 25 (.ixL 2 (.t 21) (.t 23)),
 .r 26 (.ld (some 2) (.t 25)),
 .r 6 (.new (.agg [.v (.slice none 0 0),.v (.int .i64 0)])),
 .rn (.st 2 (.t 6) (.t 26))])
 (.seq
 (.seq
 (.reg 6 none [0,6,21,22,23,40] [
 .r 27 (.fa 0 (.t 6)),
 .r 28 (.ld none (.t 27)),
 .r 29 (.lenL (.t 28)),
 .r 30 (.bin .eql false (.t 29) (.k (.v (.int .i64 0)))),
 .r 31 (.mv (.t 30)),
 .rf 32 31 (.fa 1 (.t 6)),
 .rf 33 31 (.ld none (.t 32)),
 .rf 34 31 (.bin .lss false (.t 33) (.k (.v (.int .i64 0)))),
 .r 35 (.pick (.t 31) (.k (.v (.bool true))) (.t 34)),
 .r 36 (.mv (.t 35)),
 .rf 37 36 (.fa 1 (.t 6)),
 .rf 38 36 (.ld none (.t 37)),
 .rf 39 36 (.bin .gtr false (.t 38) (.k (.v (.int .i64 1000000)))),
 .r 40 (.pick (.t 36) (.k (.v (.bool true))) (.t 39))])
 (.cond (.t 40)
 (.seq
 (.reg 7 none [4] [
 .r 4 (.mv (.k (.v (.bool false))))])
 .ret)
 .skip))
 (.seq
 (.reg 8 none [0,6,7,21,22,23] [
 .r 7 (.mv (.k (.v (.int .i64 (-1)))))])
 (.seq
 (.reg 9 none [0,7,21,22,23,42,43,44] [
 .r 41 (.fa 0 (.t 6)),
 .r 42 (.ld none (.t 41)),
 .r 43 (.lenL (.t 42)),
 .r 44 (.mv (.k (.v (.int .i64 0))))])
 (.block 2
 (.loop
 (.seq
 (.reg 10 none [0,7,21,22,23,42,43,44,45] [
 .r 45 (.bin .lss false (.t 44) (.t 43))])
 (.seq
 (.cond (.t 45)
 .skip
 (.exit 2))
 (.seq
 (.block 3
 (.seq
 (.reg 11 none [0,7,9,21,22,23,42,43,44] [
 .r 46 (.ixL 1 (.t 42) (.t 44)),
 .r 47 (.ld none (.t 46)),
 .r 9 (.mv (.t 47))])
 (.seq
 (.seq
 (.reg 12 none [0,9,21,22,23,42,43,44,55] [
 .r 48 (.mv (.t 9)),
 .r 49 (.mv (.t 7)),
 .r 50 (.bin .leq false (.t 48) (.t 49)),
 .r 51 (.mv (.t 50)),
 .rf 52 51 (.mv (.t 9)),
 .rf 53 51 (.mv (.t 0)),
 .rf 54 51 (.bin .geq false (.t 52) (.t 53)),
 .r 55 (.pick (.t 51) (.k (.v (.bool true))) (.t 54))])
 (.cond (.t 55)
 (.seq
 (.reg 13 none [4] [
 .r 4 (.mv (.k (.v (.bool false))))])
 .ret)
 .skip))
 (.reg 14 none [0,7,21,22,23,42,43,44] [
 .r 56 (.mv (.t 9)),
 .r 7 (.mv (.t 56))]))))
 (.reg 15 none [0,7,21,22,23,42,43,44] [
 .r 57 (.bin .add false (.t 44) (.k (.v (.int .i64 1)))),
 .r 44 (.mv (.t 57))])))))))))))
 (.reg 16 none [0,21,22,23] [
 .r 58 (.bin .add false (.t 23) (.k (.v (.int .i64 1)))),
 .r 23 (.mv (.t 58))])))))))
 (.seq
 (.reg 17 none [4] [
 .r 4 (.mv (.k (.v (.bool true))))])
 .ret))))
def ks_ref29_Valid:List (Nat×List Nat):=kssOf ir_ref29_Valid
theorem fn_ref29_Valid:FnIR Tryd.prog F_ref29_Valid 59 ks_ref29_Valid ir_ref29_Valid [(.tmp 4)]:=
 ⟨Tryd.f20,_,Tryd.func20,rfl,by kernel_rfl,rfl,by kernel_rfl,by kernel_rfl⟩
def ir_ref28_Ints:RC:=
 (.seq
 (.reg 0 none [0,1] [
 .r 4 (.mv (.k (.v (.bool false))))])
 (.seq
 (.seq
 (.reg 1 none [0,1,10] [
 .r 6 (.mv (.t 0)),
 .r 7 (.lenL (.t 6)),
 .r 8 (.mv (.t 1)),
 .r 9 (.lenL (.t 8)),
 .r 10 (.bin .neq false (.t 7) (.t 9))])
 (.cond (.t 10)
 (.seq
 (.reg 2 none [4] [
 .r 4 (.mv (.k (.v (.bool false))))])
 .ret)
 .skip))
 (.seq
 (.seq
 (.reg 3 none [0,1,12,13] [
 .r 11 (.mv (.t 0)),
 .r 12 (.lenL (.t 11)),
 .r 13 (.mv (.k (.v (.int .i64 0))))])
 (.block 0
 (.loop
 (.seq
 (.reg 4 none [0,1,12,13,14] [
 .r 14 (.bin .lss false (.t 13) (.t 12))])
 (.seq
 (.cond (.t 14)
 .skip
 (.exit 0))
 (.seq
 (.block 1
 (.seq
 (.reg 5 none [0,1,5,12,13] [
 .r 15 (.mv (.t 13)),
 .r 5 (.mv (.t 15))])
 (.seq
 (.reg 6 (some [0,0,3,7,0,0,48,112,255]) [0,1,12,13,24] [
 .r 16 (.mv (.t 0)),
 .r 17 (.mv (.t 5)),
 .r 18 (.ixL 1 (.t 16) (.t 17)),
 .r 19 (.ld none (.t 18)),
 .r 20 (.mv (.t 1)),
 .r 21 (.mv (.t 5)),
 .r 22 (.ixL 1 (.t 20) (.t 21)),
 .r 23 (.ld none (.t 22)),
 .r 24 (.bin .neq false (.t 19) (.t 23))])
 (.cond (.t 24)
 (.seq
 (.reg 7 none [4] [
 .r 4 (.mv (.k (.v (.bool false))))])
 .ret)
 .skip))))
 (.reg 8 none [0,1,12,13] [
 .r 25 (.bin .add false (.t 13) (.k (.v (.int .i64 1)))),
 .r 13 (.mv (.t 25))])))))))
 (.seq
 (.reg 9 none [4] [
 .r 4 (.mv (.k (.v (.bool true))))])
 .ret))))
def ks_ref28_Ints:List (Nat×List Nat):=kssOf ir_ref28_Ints
theorem fn_ref28_Ints:FnIR Tryd.prog F_ref28_Ints 26 ks_ref28_Ints ir_ref28_Ints [(.tmp 4)]:=
 ⟨Tryd.f21,_,Tryd.func21,rfl,by kernel_rfl,rfl,by kernel_rfl,by kernel_rfl⟩
def ir_equations_Touched:RC:=
 (.seq
 (.reg 0 none [0,1] [
 .r 4 (.mv (.k (.v (.slice none 0 0))))])
 (.seq
 (.reg 1 none [0,1,5] [
 .r 5 (.mv (.k (.v (.slice none 0 0))))])
 (.seq
 (.seq
 (.reg 2 none [0,5,10,11,12] [
 .r 10 (.mv (.t 1)),
 .r 11 (.lenL (.t 10)),
 .r 12 (.mv (.k (.v (.int .i64 0))))])
 (.block 0
 (.loop
 (.seq
 (.reg 3 none [0,5,10,11,12,13] [
 .r 13 (.bin .lss false (.t 12) (.t 11))])
 (.seq
 (.cond (.t 13)
 .skip
 (.exit 0))
 (.seq
 (.block 1
 (.seq
 (.reg 4 none [0,5,7,10,11,12] [
 .r 14 (.ixL 2 (.t 10) (.t 12)),
 .r 15 (.ld (some 2) (.t 14)),
 .r 7 (.new (.agg [.v (.slice none 0 0),.v (.int .i64 0)])),
 .rn (.st 2 (.t 7) (.t 15))])
 (.seq
 (.reg 5 none [0,5,10,11,12,17,18,19] [
 .r 16 (.fa 0 (.t 7)),
 .r 17 (.ld none (.t 16)),
 .r 18 (.lenL (.t 17)),
 .r 19 (.mv (.k (.v (.int .i64 0))))])
 (.block 2
 (.loop
 (.seq
 (.reg 6 none [0,5,10,11,12,17,18,19,20] [
 .r 20 (.bin .lss false (.t 19) (.t 18))])
 (.seq
 (.cond (.t 20)
 .skip
 (.exit 2))
 (.seq
 (.block 3
 (.seq
 (.reg 7 none [0,5,9,10,11,12,17,18,19] [
 .r 21 (.ixL 1 (.t 17) (.t 19)),
 .r 22 (.ld none (.t 21)),
 .r 9 (.mv (.t 22))])
 (.seq
 (.reg 8 none [0,5,9,10,11,12,17,18,19,29] [
 .r 23 (.mv (.t 9)),
 .r 24 (.bin .geq false (.t 23) (.k (.v (.int .i64 0)))),
 .r 25 (.mv (.t 24)),
 .rt 26 25 (.mv (.t 9)),
 .rt 27 25 (.mv (.t 0)),
 .rt 28 25 (.bin .lss false (.t 26) (.t 27)),
 .r 29 (.pick (.t 25) (.t 28) (.k (.v (.bool false))))])
 (.cond (.t 29)
 (.reg 9 none [0,5,10,11,12,17,18,19] [
 .r 30 (.mv (.t 5)),
 .r 31 (.mv (.t 9)),
 .r 32 (.bsl 1 1 [.t 31]),
 .r 33 (.app 1 8 false (.t 30) (.t 32)),
 .r 5 (.mv (.t 33))])
 .skip))))
 (.reg 10 none [0,5,10,11,12,17,18,19] [
 .r 34 (.bin .add false (.t 19) (.k (.v (.int .i64 1)))),
 .r 19 (.mv (.t 34))])))))))))
 (.reg 11 none [0,5,10,11,12] [
 .r 35 (.bin .add false (.t 12) (.k (.v (.int .i64 1)))),
 .r 12 (.mv (.t 35))])))))))
 (.seq
 (.reg 12 none [5] [
 .r 36 (.mv (.t 5)),
 .r 37 (.call (.k (.clo F_slices_Sort_int [])) [.t 36])])
 (.seq
 (.reg 13 none [4] [
 .r 38 (.mv (.t 5)),
 .r 39 (.call (.k (.clo F_slices_Compact_int [])) [.t 38]),
 .r 4 (.mv (.t 39))])
 .ret)))))
def ks_equations_Touched:List (Nat×List Nat):=kssOf ir_equations_Touched
theorem fn_equations_Touched:FnIR Tryd.prog F_equations_Touched 40 ks_equations_Touched ir_equations_Touched [(.tmp 4)]:=
 ⟨Tryd.f22,_,Tryd.func22,rfl,by kernel_rfl,rfl,by kernel_rfl,by kernel_rfl⟩
def ir_ref29_Touched:RC:=
 (.seq
 (.reg 0 none [0,1] [
 .r 4 (.mv (.k (.v (.slice none 0 0))))])
 (.seq
 (.reg 1 none [0,1,5] [
 .r 5 (.mv (.k (.v (.slice none 0 0))))])
 (.seq
 (.seq
 (.reg 2 none [0,5,11,12,13] [
 .r 11 (.mv (.t 1)),
 .r 12 (.lenL (.t 11)),
 .r 13 (.mv (.k (.v (.int .i64 0))))])
 (.block 0
 (.loop
 (.seq
 (.reg 3 none [0,5,11,12,13,14] [
 .r 14 (.bin .lss false (.t 13) (.t 12))])
 (.seq
 (.cond (.t 14)
 .skip
 (.exit 0))
 (.seq
 (.block 1
 (.seq
 (.reg 4 none [0,5,7,11,12,13] [
 .r 15 (.ixL 2 (.t 11) (.t 13)),
 .r 16 (.ld (some 2) (.t 15)),
 .r 7 (.new (.agg [.v (.slice none 0 0),.v (.int .i64 0)])),
 .rn (.st 2 (.t 7) (.t 16))])
 (.seq
 (.reg 5 none [0,5,11,12,13,18,19,20] [
 .r 17 (.fa 0 (.t 7)),
 .r 18 (.ld none (.t 17)),
 .r 19 (.lenL (.t 18)),
 .r 20 (.mv (.k (.v (.int .i64 0))))])
 (.block 2
 (.loop
 (.seq
 (.reg 6 none [0,5,11,12,13,18,19,20,21] [
 .r 21 (.bin .lss false (.t 20) (.t 19))])
 (.seq
 (.cond (.t 21)
 .skip
 (.exit 2))
 (.seq
 (.block 3
 (.seq
 (.reg 7 none [0,5,9,11,12,13,18,19,20] [
 .r 22 (.ixL 1 (.t 18) (.t 20)),
 .r 23 (.ld none (.t 22)),
 .r 9 (.mv (.t 23))])
 (.seq
 (.reg 8 none [0,5,9,10,11,12,13,18,19,20] [
 .r 10 (.mv (.k (.v (.int .i64 0))))])
 (.seq
 (.block 4
 (.loop
 (.seq
 (.seq
 (.reg 9 none [0,5,9,10,11,12,13,18,19,20,35] [
 .r 24 (.mv (.t 10)),
 .r 25 (.mv (.t 5)),
 .r 26 (.lenL (.t 25)),
 .r 27 (.bin .lss false (.t 24) (.t 26)),
 .r 28 (.mv (.t 27)),
 .rt 29 28 (.mv (.t 5)),
 .rt 30 28 (.mv (.t 10)),
 .rt 31 28 (.ixL 1 (.t 29) (.t 30)),
 .rt 32 28 (.ld none (.t 31)),
 .rt 33 28 (.mv (.t 9)),
 .rt 34 28 (.bin .lss false (.t 32) (.t 33)),
 .r 35 (.pick (.t 28) (.t 34) (.k (.v (.bool false))))])
 (.cond (.t 35)
 .skip
 (.exit 4)))
 (.block 5
 (.reg 10 none [0,5,9,10,11,12,13,18,19,20] [
 .r 36 (.mv (.t 10)),
 .r 37 (.bin .add false (.t 36) (.k (.v (.int .i64 1)))),
 .r 10 (.mv (.t 37))])))))
 (.seq
 (.reg 11 none [0,5,9,10,11,12,13,18,19,20,58] [
 .r 38 (.mv (.t 9)),
 .r 39 (.bin .geq false (.t 38) (.k (.v (.int .i64 0)))),
 .r 40 (.mv (.t 39)),
 .rt 41 40 (.mv (.t 9)),
 .rt 42 40 (.mv (.t 0)),
 .rt 43 40 (.bin .lss false (.t 41) (.t 42)),
 .r 44 (.pick (.t 40) (.t 43) (.k (.v (.bool false)))),
 .r 45 (.mv (.t 44)),
 .rt 46 45 (.mv (.t 10)),
 .rt 47 45 (.mv (.t 5)),
 .rt 48 45 (.lenL (.t 47)),
 .rt 49 45 (.bin .eql false (.t 46) (.t 48)),
 .rt 50 45 (.mv (.t 49)),
 .rf 51 50 (.mv (.t 5)),
 .rf 52 50 (.mv (.t 10)),
 .rf 53 50 (.ixL 1 (.t 51) (.t 52)),
 .rf 54 50 (.ld none (.t 53)),
 .rf 55 50 (.mv (.t 9)),
 .rf 56 50 (.bin .neq false (.t 54) (.t 55)),
 .rt 57 45 (.pick (.t 50) (.k (.v (.bool true))) (.t 56)),
 .r 58 (.pick (.t 45) (.t 57) (.k (.v (.bool false))))])
 (.cond (.t 58)
 (.reg 12 (some [0,0,0,6,15,0,32,127,0,0,768,2047,4095]) [0,5,11,12,13,18,19,20] [
 .r 59 (.bsl 1 0 []),
 .r 60 (.mv (.t 5)),
 .r 61 (.mv (.t 10)),
 .r 62 (.slL 1 (.t 60) none (some (.t 61))),
 .r 63 (.app 1 8 false (.t 59) (.t 62)),
 .r 64 (.mv (.t 9)),
 .r 65 (.bsl 1 1 [.t 64]),
 .r 66 (.app 1 8 false (.t 63) (.t 65)),
 .r 67 (.mv (.t 5)),
 .r 68 (.mv (.t 10)),
 .r 69 (.slL 1 (.t 67) (some (.t 68)) none),
 .r 70 (.app 1 8 false (.t 66) (.t 69)),
 .r 5 (.mv (.t 70))])
 .skip))))))
 (.reg 13 none [0,5,11,12,13,18,19,20] [
 .r 71 (.bin .add false (.t 20) (.k (.v (.int .i64 1)))),
 .r 20 (.mv (.t 71))])))))))))
 (.reg 14 none [0,5,11,12,13] [
 .r 72 (.bin .add false (.t 13) (.k (.v (.int .i64 1)))),
 .r 13 (.mv (.t 72))])))))))
 (.seq
 (.reg 15 none [4] [
 .r 73 (.mv (.t 5)),
 .r 4 (.mv (.t 73))])
 .ret))))
def ks_ref29_Touched:List (Nat×List Nat):=kssOf ir_ref29_Touched
theorem fn_ref29_Touched:FnIR Tryd.prog F_ref29_Touched 74 ks_ref29_Touched ir_ref29_Touched [(.tmp 4)]:=
 ⟨Tryd.f23,_,Tryd.func23,rfl,by kernel_rfl,rfl,by kernel_rfl,by kernel_rfl⟩
def ir_equations_Agrees:RC:=
 (.seq
 (.reg 0 none [0,1] [
 .r 4 (.mv (.k (.v (.bool false))))])
 (.seq
 (.seq
 (.reg 1 none [0,1,11] [
 .r 10 (.mv (.t 1)),
 .r 11 (.call (.k (.clo F_slices_ContainsFunc_int [])) [.t 10,.k (.clo F_equations_Agrees_1 [])])])
 (.cond (.t 11)
 (.seq
 (.reg 2 none [4] [
 .r 4 (.mv (.k (.v (.bool false))))])
 .ret)
 .skip))
 (.seq
 (.seq
 (.reg 3 none [1,12,13,14] [
 .r 12 (.mv (.t 0)),
 .r 13 (.lenL (.t 12)),
 .r 14 (.mv (.k (.v (.int .i64 0))))])
 (.block 0
 (.loop
 (.seq
 (.reg 4 none [1,12,13,14,15] [
 .r 15 (.bin .lss false (.t 14) (.t 13))])
 (.seq
 (.cond (.t 15)
 .skip
 (.exit 0))
 (.seq
 (.block 1
 (.seq
 (.reg 5 none [1,6,12,13,14] [
 .r 16 (.ixL 2 (.t 12) (.t 14)),
 .r 17 (.ld (some 2) (.t 16)),
 .r 6 (.new (.agg [.v (.slice none 0 0),.v (.int .i64 0)])),
 .rn (.st 2 (.t 6) (.t 17))])
 (.seq
 (.reg 6 none [1,6,7,12,13,14] [
 .r 7 (.mv (.k (.v (.int .i64 0))))])
 (.seq
 (.seq
 (.reg 7 none [1,6,7,12,13,14,19,20,21] [
 .r 18 (.fa 0 (.t 6)),
 .r 19 (.ld none (.t 18)),
 .r 20 (.lenL (.t 19)),
 .r 21 (.mv (.k (.v (.int .i64 0))))])
 (.block 2
 (.loop
 (.seq
 (.reg 8 none [1,6,7,12,13,14,19,20,21,22] [
 .r 22 (.bin .lss false (.t 21) (.t 20))])
 (.seq
 (.cond (.t 22)
 .skip
 (.exit 2))
 (.seq
 (.block 3
 (.seq
 (.reg 9 none [1,6,7,9,12,13,14,19,20,21] [
 .r 23 (.ixL 1 (.t 19) (.t 21)),
 .r 24 (.ld none (.t 23)),
 .r 9 (.mv (.t 24))])
 (.seq
 (.seq
 (.reg 10 none [1,6,7,9,12,13,14,19,20,21,32] [
 .r 25 (.mv (.t 9)),
 .r 26 (.bin .lss false (.t 25) (.k (.v (.int .i64 0)))),
 .r 27 (.mv (.t 26)),
 .rf 28 27 (.mv (.t 9)),
 .rf 29 27 (.mv (.t 1)),
 .rf 30 27 (.lenL (.t 29)),
 .rf 31 27 (.bin .geq false (.t 28) (.t 30)),
 .r 32 (.pick (.t 27) (.k (.v (.bool true))) (.t 31))])
 (.cond (.t 32)
 (.seq
 (.reg 11 none [4] [
 .r 4 (.mv (.k (.v (.bool false))))])
 .ret)
 .skip))
 (.reg 12 none [1,6,7,12,13,14,19,20,21] [
 .r 33 (.mv (.t 7)),
 .r 34 (.mv (.t 1)),
 .r 35 (.mv (.t 9)),
 .r 36 (.ixL 1 (.t 34) (.t 35)),
 .r 37 (.ld none (.t 36)),
 .r 38 (.bin .add false (.t 33) (.t 37)),
 .r 7 (.mv (.t 38))]))))
 (.reg 13 none [1,6,7,12,13,14,19,20,21] [
 .r 39 (.bin .add false (.t 21) (.k (.v (.int .i64 1)))),
 .r 21 (.mv (.t 39))])))))))
 (.seq
 (.reg 14 none [1,12,13,14,43] [
 .r 40 (.mv (.t 7)),
 .r 41 (.fa 1 (.t 6)),
 .r 42 (.ld none (.t 41)),
 .r 43 (.bin .neq false (.t 40) (.t 42))])
 (.cond (.t 43)
 (.seq
 (.reg 15 none [4] [
 .r 4 (.mv (.k (.v (.bool false))))])
 .ret)
 .skip))))))
 (.reg 16 none [1,12,13,14] [
 .r 44 (.bin .add false (.t 14) (.k (.v (.int .i64 1)))),
 .r 14 (.mv (.t 44))])))))))
 (.seq
 (.reg 17 none [4] [
 .r 4 (.mv (.k (.v (.bool true))))])
 .ret))))
def ks_equations_Agrees:List (Nat×List Nat):=kssOf ir_equations_Agrees
theorem fn_equations_Agrees:FnIR Tryd.prog F_equations_Agrees 45 ks_equations_Agrees ir_equations_Agrees [(.tmp 4)]:=
 ⟨Tryd.f24,_,Tryd.func24,rfl,by kernel_rfl,rfl,by kernel_rfl,by kernel_rfl⟩
def ir_ref29_Agrees:RC:=
 (.seq
 (.reg 0 none [0,1] [
 .r 4 (.mv (.k (.v (.bool false))))])
 (.seq
 (.seq
 (.reg 1 none [0,1,12,13,14] [
 .r 12 (.mv (.t 1)),
 .r 13 (.lenL (.t 12)),
 .r 14 (.mv (.k (.v (.int .i64 0))))])
 (.block 0
 (.loop
 (.seq
 (.reg 2 none [0,1,12,13,14,15] [
 .r 15 (.bin .lss false (.t 14) (.t 13))])
 (.seq
 (.cond (.t 15)
 .skip
 (.exit 0))
 (.seq
 (.block 1
 (.seq
 (.reg 3 none [0,1,6,12,13,14] [
 .r 16 (.ixL 1 (.t 12) (.t 14)),
 .r 17 (.ld none (.t 16)),
 .r 6 (.mv (.t 17))])
 (.seq
 (.reg 4 none [0,1,12,13,14,23] [
 .r 18 (.mv (.t 6)),
 .r 19 (.bin .lss false (.t 18) (.k (.v (.int .i64 0)))),
 .r 20 (.mv (.t 19)),
 .rf 21 20 (.mv (.t 6)),
 .rf 22 20 (.bin .gtr false (.t 21) (.k (.v (.int .i64 1000000)))),
 .r 23 (.pick (.t 20) (.k (.v (.bool true))) (.t 22))])
 (.cond (.t 23)
 (.seq
 (.reg 5 none [4] [
 .r 4 (.mv (.k (.v (.bool false))))])
 .ret)
 .skip))))
 (.reg 6 none [0,1,12,13,14] [
 .r 24 (.bin .add false (.t 14) (.k (.v (.int .i64 1)))),
 .r 14 (.mv (.t 24))])))))))
 (.seq
 (.seq
 (.reg 7 none [1,25,26,27] [
 .r 25 (.mv (.t 0)),
 .r 26 (.lenL (.t 25)),
 .r 27 (.mv (.k (.v (.int .i64 0))))])
 (.block 2
 (.loop
 (.seq
 (.reg 8 none [1,25,26,27,28] [
 .r 28 (.bin .lss false (.t 27) (.t 26))])
 (.seq
 (.cond (.t 28)
 .skip
 (.exit 2))
 (.seq
 (.block 3
 (.seq
 (.reg 9 none [1,8,25,26,27] [
 .r 29 (.ixL 2 (.t 25) (.t 27)),
 .r 30 (.ld (some 2) (.t 29)),
 .r 8 (.new (.agg [.v (.slice none 0 0),.v (.int .i64 0)])),
 .rn (.st 2 (.t 8) (.t 30))])
 (.seq
 (.reg 10 none [1,8,9,25,26,27] [
 .r 9 (.mv (.k (.v (.int .i64 0))))])
 (.seq
 (.seq
 (.reg 11 none [1,8,9,25,26,27,32,33,34] [
 .r 31 (.fa 0 (.t 8)),
 .r 32 (.ld none (.t 31)),
 .r 33 (.lenL (.t 32)),
 .r 34 (.mv (.k (.v (.int .i64 0))))])
 (.block 4
 (.loop
 (.seq
 (.reg 12 none [1,8,9,25,26,27,32,33,34,35] [
 .r 35 (.bin .lss false (.t 34) (.t 33))])
 (.seq
 (.cond (.t 35)
 .skip
 (.exit 4))
 (.seq
 (.block 5
 (.seq
 (.reg 13 none [1,8,9,11,25,26,27,32,33,34] [
 .r 36 (.ixL 1 (.t 32) (.t 34)),
 .r 37 (.ld none (.t 36)),
 .r 11 (.mv (.t 37))])
 (.seq
 (.seq
 (.reg 14 none [1,8,9,11,25,26,27,32,33,34,45] [
 .r 38 (.mv (.t 11)),
 .r 39 (.bin .lss false (.t 38) (.k (.v (.int .i64 0)))),
 .r 40 (.mv (.t 39)),
 .rf 41 40 (.mv (.t 11)),
 .rf 42 40 (.mv (.t 1)),
 .rf 43 40 (.lenL (.t 42)),
 .rf 44 40 (.bin .geq false (.t 41) (.t 43)),
 .r 45 (.pick (.t 40) (.k (.v (.bool true))) (.t 44))])
 (.cond (.t 45)
 (.seq
 (.reg 15 none [4] [
 .r 4 (.mv (.k (.v (.bool false))))])
 .ret)
 .skip))
 (.reg 16 none [1,8,9,25,26,27,32,33,34] [
 .r 46 (.mv (.t 9)),
 .r 47 (.mv (.t 1)),
 .r 48 (.mv (.t 11)),
 .r 49 (.ixL 1 (.t 47) (.t 48)),
 .r 50 (.ld none (.t 49)),
 .r 51 (.bin .add false (.t 46) (.t 50)),
 .r 9 (.mv (.t 51))]))))
 (.reg 17 none [1,8,9,25,26,27,32,33,34] [
 .r 52 (.bin .add false (.t 34) (.k (.v (.int .i64 1)))),
 .r 34 (.mv (.t 52))])))))))
 (.seq
 (.reg 18 none [1,25,26,27,56] [
 .r 53 (.mv (.t 9)),
 .r 54 (.fa 1 (.t 8)),
 .r 55 (.ld none (.t 54)),
 .r 56 (.bin .neq false (.t 53) (.t 55))])
 (.cond (.t 56)
 (.seq
 (.reg 19 none [4] [
 .r 4 (.mv (.k (.v (.bool false))))])
 .ret)
 .skip))))))
 (.reg 20 none [1,25,26,27] [
 .r 57 (.bin .add false (.t 27) (.k (.v (.int .i64 1)))),
 .r 27 (.mv (.t 57))])))))))
 (.seq
 (.reg 21 none [4] [
 .r 4 (.mv (.k (.v (.bool true))))])
 .ret))))
def ks_ref29_Agrees:List (Nat×List Nat):=kssOf ir_ref29_Agrees
theorem fn_ref29_Agrees:FnIR Tryd.prog F_ref29_Agrees 58 ks_ref29_Agrees ir_ref29_Agrees [(.tmp 4)]:=
 ⟨Tryd.f25,_,Tryd.func25,rfl,by kernel_rfl,rfl,by kernel_rfl,by kernel_rfl⟩
def ir_made_Cells:RC:=
 (.seq
 (.reg 0 none [0,2,4] [
 .r 4 (.box (.t 1)),
 .r 6 (.mv (.k (.v (.slice none 0 0))))])
 (.seq
 (.reg 1 none [0,2,7] [
 .r 9 (.ld (some 1) (.t 4)),
 .r 10 (.call (.k (.clo F_ref28_Count [])) [.t 9]),
 .r 11 (.mk 1 8 (.v (.int .i64 0)) (.t 10) (.t 10)),
 .r 7 (.mv (.t 11))])
 (.seq
 (.seq
 (.reg 2 none [0,2,7,13,14] [
 .r 12 (.mv (.t 7)),
 .r 13 (.lenL (.t 12)),
 .r 14 (.mv (.k (.v (.int .i64 0))))])
 (.block 0
 (.loop
 (.seq
 (.reg 3 none [0,2,7,13,14,15] [
 .r 15 (.bin .lss false (.t 14) (.t 13))])
 (.seq
 (.cond (.t 15)
 .skip
 (.exit 0))
 (.seq
 (.block 1
 (.seq
 (.reg 4 none [0,2,7,8,13,14] [
 .r 16 (.mv (.t 14)),
 .r 8 (.mv (.t 16))])
 (.reg 5 none [0,2,7,13,14] [
 .r 17 (.mv (.t 7)),
 .r 18 (.mv (.t 8)),
 .r 19 (.mv (.t 0)),
 .r 20 (.mv (.t 2)),
 .r 21 (.bin .add false (.t 20) (.k (.v (.int .i64 1)))),
 .r 22 (.call (.k (.clo F_draw_Codes_Next [])) [.t 19,.t 21]),
 .r 23 (.ixL 1 (.t 17) (.t 18)),
 .rn (.st 1 (.t 23) (.t 22))])))
 (.reg 6 none [0,2,7,13,14] [
 .r 24 (.bin .add false (.t 14) (.k (.v (.int .i64 1)))),
 .r 14 (.mv (.t 24))])))))))
 (.seq
 (.reg 7 none [6] [
 .r 25 (.mv (.t 7)),
 .r 6 (.mv (.t 25))])
 .ret))))
def ks_made_Cells:List (Nat×List Nat):=kssOf ir_made_Cells
theorem fn_made_Cells:FnIR Tryd.prog F_made_Cells 26 ks_made_Cells ir_made_Cells [(.tmp 6)]:=
 ⟨Tryd.f27,_,Tryd.func27,rfl,by kernel_rfl,rfl,by kernel_rfl,by kernel_rfl⟩
def ir_made_Space:RC:=
 (.seq
 (.reg 0 none [0,2] [
 .r 2 (.new (.agg [.v (.slice none 0 0)]))])
 (.seq
 (.reg 1 none [2,3] [
 .r 4 (.bsl 1 1 [.k (.v (.int .i64 2))]),
 .r 5 (.bsl 1 1 [.k (.v (.int .i64 3))]),
 .r 6 (.bsl 1 2 [.k (.v (.int .i64 2)),.k (.v (.int .i64 2))]),
 .r 7 (.bsl 1 2 [.k (.v (.int .i64 2)),.k (.v (.int .i64 3))]),
 .r 8 (.bsl 1 1 [.k (.v (.int .i64 4))]),
 .r 9 (.bsl 1 3 [.k (.v (.int .i64 2)),.k (.v (.int .i64 2)),.k (.v (.int .i64 2))]),
 .r 10 (.bsl 1 2 [.k (.v (.int .i64 3)),.k (.v (.int .i64 2))]),
 .r 11 (.bsl 1 1 [.k (.v (.int .i64 6))]),
 .r 12 (.bsl 1 2 [.k (.v (.int .i64 1)),.k (.v (.int .i64 3))]),
 .r 13 (.bsl 1 9 [.t 4,.t 5,.t 6,.t 7,.t 8,.t 9,.t 10,.t 11,.t 12]),
 .r 14 (.mv (.t 0)),
 .r 15 (.call (.k (.clo F_draw_Codes_Next [])) [.t 14,.k (.v (.int .i64 9))]),
 .r 16 (.ixL 1 (.t 13) (.t 15)),
 .r 17 (.ld none (.t 16)),
 .r 3 (.mv (.t 17))])
 (.seq
 (.reg 2 none [2] [
 .r 18 (.bsl 1 0 []),
 .r 19 (.mv (.t 3)),
 .r 20 (.app 1 8 false (.t 18) (.t 19)),
 .r 21 (.build [.v (.slice none 0 0)] [((0,1),.t 20)]),
 .rn (.st 1 (.t 2) (.t 21))])
 .ret)))
def ks_made_Space:List (Nat×List Nat):=kssOf ir_made_Space
theorem fn_made_Space:FnIR Tryd.prog F_made_Space 22 ks_made_Space ir_made_Space [(.cell 2 (some 1))]:=
 ⟨Tryd.f28,_,Tryd.func28,rfl,by kernel_rfl,rfl,by kernel_rfl,by kernel_rfl⟩
def ir_made_Releases:RC:=
 (.seq
 (.reg 0 none [0,2,3,5] [
 .r 5 (.box (.t 1)),
 .r 8 (.mv (.k (.v (.slice none 0 0))))])
 (.seq
 (.reg 1 none [0,2,3,5,9] [
 .r 9 (.mv (.k (.v (.slice none 0 0))))])
 (.seq
 (.seq
 (.reg 2 none [0,2,5,9,10] [
 .r 15 (.mv (.t 0)),
 .r 16 (.mv (.t 3)),
 .r 17 (.bin .add false (.t 16) (.k (.v (.int .i64 1)))),
 .r 18 (.call (.k (.clo F_draw_Codes_Next [])) [.t 15,.t 17]),
 .r 10 (.mv (.t 18))])
 (.block 0
 (.loop
 (.seq
 (.seq
 (.reg 3 none [0,2,5,9,10,20] [
 .r 19 (.mv (.t 10)),
 .r 20 (.bin .gtr false (.t 19) (.k (.v (.int .i64 0))))])
 (.cond (.t 20)
 .skip
 (.exit 0)))
 (.seq
 (.block 1
 (.seq
 (.reg 5 none [0,2,5,9,10,11] [
 .r 23 (.mv (.t 0)),
 .r 24 (.ld (some 1) (.t 5)),
 .r 25 (.call (.k (.clo F_made_View [])) [.t 23,.t 24]),
 .r 11 (.new (.agg [.v (.slice none 0 0)])),
 .rn (.st 1 (.t 11) (.t 25))])
 (.seq
 (.reg 6 none [0,2,5,9,10,11,12] [
 .r 27 (.ld (some 1) (.t 5)),
 .r 28 (.ld (some 1) (.t 11)),
 .r 29 (.mv (.t 2)),
 .r 30 (.call (.k (.clo F_ref28_Publish [])) [.t 27,.t 28,.t 29]),
 .r 26 (.mv (.t 30)),
 .r 31 (.ex (.t 26) 0),
 .r 32 (.ex (.t 26) 1),
 .r 12 (.mv (.t 31)),
 .r 13 (.mv (.t 32))])
 (.seq
 (.seq
 (.reg 7 none [0,2,5,9,10,11,12,34,35] [
 .r 33 (.mv (.t 12)),
 .r 34 (.lenL (.t 33)),
 .r 35 (.mv (.k (.v (.int .i64 0))))])
 (.block 2
 (.loop
 (.seq
 (.reg 8 none [0,2,5,9,10,11,12,34,35,36] [
 .r 36 (.bin .lss false (.t 35) (.t 34))])
 (.seq
 (.cond (.t 36)
 .skip
 (.exit 2))
 (.seq
 (.block 3
 (.seq
 (.reg 9 none [0,2,5,9,10,11,12,14,34,35] [
 .r 37 (.mv (.t 35)),
 .r 14 (.mv (.t 37))])
 (.seq
 (.reg 10 none [0,2,5,9,10,11,12,14,34,35,40] [
 .r 38 (.mv (.t 0)),
 .r 39 (.call (.k (.clo F_draw_Codes_Next [])) [.t 38,.k (.v (.int .i64 5))]),
 .r 40 (.bin .eql false (.t 39) (.k (.v (.int .i64 4))))])
 (.cond (.t 40)
 (.reg 11 none [0,2,5,9,10,11,12,34,35] [
 .r 41 (.mv (.t 12)),
 .r 42 (.mv (.t 14)),
 .r 43 (.ixL 1 (.t 41) (.t 42)),
 .rn (.st 1 (.t 43) (.k (.v (.int .i64 (-1)))))])
 .skip))))
 (.reg 12 none [0,2,5,9,10,11,12,34,35] [
 .r 44 (.bin .add false (.t 35) (.k (.v (.int .i64 1)))),
 .r 35 (.mv (.t 44))])))))))
 (.reg 13 none [0,2,5,9,10] [
 .r 45 (.mv (.t 9)),
 .r 46 (.mv (.t 9)),
 .r 47 (.lenL (.t 46)),
 .r 48 (.ld (some 1) (.t 11)),
 .r 49 (.mv (.t 12)),
 .r 50 (.build [.v (.int .i64 0),.v (.slice none 0 0),.v (.slice none 0 0)] [((0,1),.t 47),((1,1),.t 48),((2,1),.t 49)]),
 .r 51 (.bsl 3 1 [.t 50]),
 .r 52 (.app 3 56 false (.t 45) (.t 51)),
 .r 9 (.mv (.t 52))])))))
 (.reg 4 none [0,2,5,9,10] [
 .r 21 (.mv (.t 10)),
 .r 22 (.bin .sub false (.t 21) (.k (.v (.int .i64 1)))),
 .r 10 (.mv (.t 22))]))))))
 (.seq
 (.reg 14 none [8] [
 .r 53 (.mv (.t 9)),
 .r 8 (.mv (.t 53))])
 .ret))))
def ks_made_Releases:List (Nat×List Nat):=kssOf ir_made_Releases
theorem fn_made_Releases:FnIR Tryd.prog F_made_Releases 54 ks_made_Releases ir_made_Releases [(.tmp 8)]:=
 ⟨Tryd.f29,_,Tryd.func29,rfl,by kernel_rfl,rfl,by kernel_rfl,by kernel_rfl⟩
def ir_equations_told:RC:=
 (.seq
 (.reg 0 none [2,3] [
 .r 2 (.box (.t 0)),
 .r 3 (.box (.t 1)),
 .r 4 (.mv (.k (.v (.slice none 0 0))))])
 (.seq
 (.reg 1 none [2,3,5] [
 .r 5 (.mv (.k (.v (.slice none 0 0))))])
 (.seq
 (.seq
 (.reg 2 none [2,3,5,11,12,13] [
 .r 10 (.fa 2 (.t 3)),
 .r 11 (.ld none (.t 10)),
 .r 12 (.lenL (.t 11)),
 .r 13 (.mv (.k (.v (.int .i64 0))))])
 (.block 0
 (.loop
 (.seq
 (.reg 3 none [2,3,5,11,12,13,14] [
 .r 14 (.bin .lss false (.t 13) (.t 12))])
 (.seq
 (.cond (.t 14)
 .skip
 (.exit 0))
 (.seq
 (.block 1
 (.seq
 (.reg 4 none [2,3,5,6,7,11,12,13] [
 .r 15 (.mv (.t 13)),
 .r 16 (.ixL 1 (.t 11) (.t 13)),
 .r 17 (.ld none (.t 16)),
 .r 6 (.mv (.t 15)),
 .r 7 (.mv (.t 17))])
 (.seq
 (.seq
 (.reg 5 none [2,3,5,6,7,11,12,13,19] [
 .r 18 (.mv (.t 7)),
 .r 19 (.bin .eql false (.t 18) (.k (.v (.int .i64 (-1)))))])
 (.cond (.t 19)
 (.exit 1)
 .skip))
 (.seq
 (.reg 6 none [2,3,5,7,8,11,12,13] [
 .r 21 (.ld (some 1) (.t 2)),
 .r 22 (.fa 1 (.t 3)),
 .r 23 (.ld (some 1) (.t 22)),
 .r 24 (.mv (.t 6)),
 .r 25 (.call (.k (.clo F_cells_Members [])) [.t 21,.t 23,.t 24]),
 .r 20 (.mv (.t 25)),
 .r 26 (.ex (.t 20) 0),
 .r 27 (.ex (.t 20) 1),
 .r 8 (.mv (.t 26)),
 .r 9 (.mv (.t 27))])
 (.reg 7 none [2,3,5,11,12,13] [
 .r 28 (.mv (.t 5)),
 .r 29 (.mv (.t 8)),
 .r 30 (.mv (.t 7)),
 .r 31 (.build [.v (.slice none 0 0),.v (.int .i64 0)] [((0,1),.t 29),((1,1),.t 30)]),
 .r 32 (.bsl 2 1 [.t 31]),
 .r 33 (.app 2 32 false (.t 28) (.t 32)),
 .r 5 (.mv (.t 33))])))))
 (.reg 8 none [2,3,5,11,12,13] [
 .r 34 (.bin .add false (.t 13) (.k (.v (.int .i64 1)))),
 .r 13 (.mv (.t 34))])))))))
 (.seq
 (.reg 9 none [4] [
 .r 35 (.mv (.t 5)),
 .r 4 (.mv (.t 35))])
 .ret))))
def ks_equations_told:List (Nat×List Nat):=kssOf ir_equations_told
theorem fn_equations_told:FnIR Tryd.prog F_equations_told 36 ks_equations_told ir_equations_told [(.tmp 4)]:=
 ⟨Tryd.f30,_,Tryd.func30,rfl,by kernel_rfl,rfl,by kernel_rfl,by kernel_rfl⟩
def ir_ref28_Members:RC:=
 (.seq
 (.reg 0 none [2,3,4] [
 .r 3 (.box (.t 0)),
 .r 4 (.box (.t 1)),
 .r 6 (.mv (.k (.v (.slice none 0 0)))),
 .r 7 (.mv (.k (.v (.int .i64 0))))])
 (.seq
 (.seq
 (.reg 1 none [2,3,4,8] [
 .r 11 (.ld (some 1) (.t 3)),
 .r 12 (.ld (some 1) (.t 4)),
 .r 13 (.call (.k (.clo F_ref28_View [])) [.t 11,.t 12]),
 .r 8 (.mv (.t 13))])
 (.seq
 (.reg 2 none [2,3,4,8,15] [
 .r 14 (.mv (.t 8)),
 .r 15 (.bin .neq false (.t 14) (.k (.v (.int .i64 0))))])
 (.cond (.t 15)
 (.seq
 (.reg 3 none [6,7] [
 .r 16 (.mv (.t 8)),
 .r 6 (.mv (.k (.v (.slice none 0 0)))),
 .r 7 (.mv (.t 16))])
 .ret)
 .skip)))
 (.seq
 (.seq
 (.reg 4 none [2,3,4,25] [
 .r 17 (.mv (.t 2)),
 .r 18 (.bin .lss false (.t 17) (.k (.v (.int .i64 0)))),
 .r 19 (.mv (.t 18)),
 .rf 20 19 (.mv (.t 2)),
 .rf 21 19 (.ld (some 1) (.t 3)),
 .rf 22 19 (.ld (some 1) (.t 4)),
 .rf 23 19 (.call (.k (.clo F_ref28_Published [])) [.t 21,.t 22]),
 .rf 24 19 (.bin .geq false (.t 20) (.t 23)),
 .r 25 (.pick (.t 19) (.k (.v (.bool true))) (.t 24))])
 (.cond (.t 25)
 (.seq
 (.reg 5 none [6,7] [
 .r 6 (.mv (.k (.v (.slice none 0 0)))),
 .r 7 (.mv (.k (.v (.int .i64 2))))])
 .ret)
 .skip))
 (.seq
 (.reg 6 none [2,3,4,9] [
 .r 9 (.mv (.k (.v (.slice none 0 0))))])
 (.seq
 (.seq
 (.reg 7 none [2,3,4,9,10] [
 .r 10 (.mv (.k (.v (.int .i64 0))))])
 (.block 0
 (.loop
 (.seq
 (.seq
 (.reg 8 none [2,3,4,9,10,29] [
 .r 26 (.mv (.t 10)),
 .r 27 (.ld (some 1) (.t 3)),
 .r 28 (.call (.k (.clo F_ref28_Count [])) [.t 27]),
 .r 29 (.bin .lss false (.t 26) (.t 28))])
 (.cond (.t 29)
 .skip
 (.exit 0)))
 (.seq
 (.block 1
 (.seq
 (.reg 10 none [2,3,4,9,10,37] [
 .r 32 (.ld (some 1) (.t 3)),
 .r 33 (.ld (some 1) (.t 4)),
 .r 34 (.mv (.t 10)),
 .r 35 (.call (.k (.clo F_ref28_Of [])) [.t 32,.t 33,.t 34]),
 .r 36 (.mv (.t 2)),
 .r 37 (.bin .eql false (.t 35) (.t 36))])
 (.cond (.t 37)
 (.reg 11 none [2,3,4,9,10] [
 .r 38 (.mv (.t 9)),
 .r 39 (.mv (.t 10)),
 .r 40 (.bsl 1 1 [.t 39]),
 .r 41 (.app 1 8 false (.t 38) (.t 40)),
 .r 9 (.mv (.t 41))])
 .skip)))
 (.reg 9 none [2,3,4,9,10] [
 .r 30 (.mv (.t 10)),
 .r 31 (.bin .add false (.t 30) (.k (.v (.int .i64 1)))),
 .r 10 (.mv (.t 31))]))))))
 (.seq
 (.reg 12 none [6,7] [
 .r 42 (.mv (.t 9)),
 .r 6 (.mv (.t 42)),
 .r 7 (.mv (.k (.v (.int .i64 0))))])
 .ret))))))
def ks_ref28_Members:List (Nat×List Nat):=kssOf ir_ref28_Members
theorem fn_ref28_Members:FnIR Tryd.prog F_ref28_Members 43 ks_ref28_Members ir_ref28_Members [(.tmp 6),(.tmp 7)]:=
 ⟨Tryd.f31,_,Tryd.func31,rfl,by kernel_rfl,rfl,by kernel_rfl,by kernel_rfl⟩
def ir_cells_Check:RC:=
 (.seq
 (.reg 0 none [1] [
 .r 1 (.box (.t 0)),
 .r 2 (.mv (.k (.v (.int .i64 0))))])
 (.seq
 (.seq
 (.reg 1 none [1,15] [
 .r 6 (.fa 0 (.t 1)),
 .r 7 (.ld none (.t 6)),
 .r 8 (.lenL (.t 7)),
 .r 9 (.bin .lss false (.t 8) (.k (.v (.int .i64 1)))),
 .r 10 (.mv (.t 9)),
 .rf 11 10 (.fa 0 (.t 1)),
 .rf 12 10 (.ld none (.t 11)),
 .rf 13 10 (.lenL (.t 12)),
 .rf 14 10 (.bin .gtr false (.t 13) (.k (.v (.int .i64 4)))),
 .r 15 (.pick (.t 10) (.k (.v (.bool true))) (.t 14))])
 (.cond (.t 15)
 (.seq
 (.reg 2 none [2] [
 .r 2 (.mv (.k (.v (.int .i64 55))))])
 .ret)
 .skip))
 (.seq
 (.reg 3 none [1,3] [
 .r 3 (.mv (.k (.v (.int .i64 1))))])
 (.seq
 (.seq
 (.reg 4 none [3,17,18,19] [
 .r 16 (.fa 0 (.t 1)),
 .r 17 (.ld none (.t 16)),
 .r 18 (.lenL (.t 17)),
 .r 19 (.mv (.k (.v (.int .i64 0))))])
 (.block 0
 (.loop
 (.seq
 (.reg 5 none [3,17,18,19,20] [
 .r 20 (.bin .lss false (.t 19) (.t 18))])
 (.seq
 (.cond (.t 20)
 .skip
 (.exit 0))
 (.seq
 (.block 1
 (.seq
 (.reg 6 none [3,5,17,18,19] [
 .r 21 (.ixL 1 (.t 17) (.t 19)),
 .r 22 (.ld none (.t 21)),
 .r 5 (.mv (.t 22))])
 (.seq
 (.seq
 (.reg 7 none [3,5,17,18,19,28] [
 .r 23 (.mv (.t 5)),
 .r 24 (.bin .lss false (.t 23) (.k (.v (.int .i64 1)))),
 .r 25 (.mv (.t 24)),
 .rf 26 25 (.mv (.t 5)),
 .rf 27 25 (.bin .gtr false (.t 26) (.k (.v (.int .i64 8)))),
 .r 28 (.pick (.t 25) (.k (.v (.bool true))) (.t 27))])
 (.cond (.t 28)
 (.seq
 (.reg 8 none [2] [
 .r 2 (.mv (.k (.v (.int .i64 55))))])
 .ret)
 .skip))
 (.reg 9 none [3,17,18,19] [
 .r 29 (.mv (.t 3)),
 .r 30 (.mv (.t 5)),
 .r 31 (.bin .mul false (.t 29) (.t 30)),
 .r 3 (.mv (.t 31))]))))
 (.reg 10 none [3,17,18,19] [
 .r 32 (.bin .add false (.t 19) (.k (.v (.int .i64 1)))),
 .r 19 (.mv (.t 32))])))))))
 (.seq
 (.seq
 (.reg 11 none [34] [
 .r 33 (.mv (.t 3)),
 .r 34 (.bin .gtr false (.t 33) (.k (.v (.int .i64 48))))])
 (.cond (.t 34)
 (.seq
 (.reg 12 none [2] [
 .r 2 (.mv (.k (.v (.int .i64 55))))])
 .ret)
 .skip))
 (.seq
 (.reg 13 none [2] [
 .r 2 (.mv (.k (.v (.int .i64 0))))])
 .ret))))))
def ks_cells_Check:List (Nat×List Nat):=kssOf ir_cells_Check
theorem fn_cells_Check:FnIR Tryd.prog F_cells_Check 35 ks_cells_Check ir_cells_Check [(.tmp 2)]:=
 ⟨Tryd.f32,_,Tryd.func32,rfl,by kernel_rfl,rfl,by kernel_rfl,by kernel_rfl⟩
def ir_equations_check:RC:=
 (.seq
 (.reg 0 none [2,3,4] [
 .r 3 (.box (.t 0)),
 .r 4 (.box (.t 1)),
 .r 6 (.mv (.k (.v (.int .i64 0))))])
 (.seq
 (.seq
 (.reg 1 none [3,4,16] [
 .r 8 (.fa 0 (.t 4)),
 .r 9 (.ld none (.t 8)),
 .r 10 (.mv (.t 2)),
 .r 11 (.bin .leq false (.t 9) (.t 10)),
 .r 12 (.mv (.t 11)),
 .rf 13 12 (.fa 0 (.t 4)),
 .rf 14 12 (.ld none (.t 13)),
 .rf 15 12 (.bin .geq false (.t 14) (.k (.v (.int .i64 24)))),
 .r 16 (.pick (.t 12) (.k (.v (.bool true))) (.t 15))])
 (.cond (.t 16)
 (.seq
 (.reg 2 none [6] [
 .r 6 (.mv (.k (.v (.int .i64 48))))])
 .ret)
 .skip))
 (.seq
 (.seq
 (.reg 3 none [3,4,7] [
 .r 17 (.ld (some 1) (.t 3)),
 .r 18 (.fa 1 (.t 4)),
 .r 19 (.ld (some 1) (.t 18)),
 .r 20 (.call (.k (.clo F_cells_View [])) [.t 17,.t 19]),
 .r 7 (.mv (.t 20))])
 (.seq
 (.reg 4 none [3,4,7,22] [
 .r 21 (.mv (.t 7)),
 .r 22 (.bin .neq false (.t 21) (.k (.v (.int .i64 0))))])
 (.cond (.t 22)
 (.seq
 (.reg 5 none [6] [
 .r 23 (.mv (.t 7)),
 .r 6 (.mv (.t 23))])
 .ret)
 .skip)))
 (.seq
 (.seq
 (.reg 6 (some [0,1,3,0,0,16,56,127]) [4,31] [
 .r 24 (.fa 2 (.t 4)),
 .r 25 (.ld none (.t 24)),
 .r 26 (.lenL (.t 25)),
 .r 27 (.ld (some 1) (.t 3)),
 .r 28 (.fa 1 (.t 4)),
 .r 29 (.ld (some 1) (.t 28)),
 .r 30 (.call (.k (.clo F_cells_Published [])) [.t 27,.t 29]),
 .r 31 (.bin .neq false (.t 26) (.t 30))])
 (.cond (.t 31)
 (.seq
 (.reg 7 none [6] [
 .r 6 (.mv (.k (.v (.int .i64 17))))])
 .ret)
 .skip))
 (.seq
 (.seq
 (.reg 8 none [34] [
 .r 32 (.fa 2 (.t 4)),
 .r 33 (.ld none (.t 32)),
 .r 34 (.call (.k (.clo F_slices_ContainsFunc_int [])) [.t 33,.k (.clo F_equations_check_1 [])])])
 (.cond (.t 34)
 (.seq
 (.reg 9 none [6] [
 .r 6 (.mv (.k (.v (.int .i64 2))))])
 .ret)
 .skip))
 (.seq
 (.reg 10 none [6] [
 .r 6 (.mv (.k (.v (.int .i64 0))))])
 .ret))))))
def ks_equations_check:List (Nat×List Nat):=kssOf ir_equations_check
theorem fn_equations_check:FnIR Tryd.prog F_equations_check 35 ks_equations_check ir_equations_check [(.tmp 6)]:=
 ⟨Tryd.f33,_,Tryd.func33,rfl,by kernel_rfl,rfl,by kernel_rfl,by kernel_rfl⟩
def ir_ref28_Check:RC:=
 (.seq
 (.reg 0 none [1] [
 .r 1 (.box (.t 0)),
 .r 2 (.mv (.k (.v (.int .i64 0))))])
 (.seq
 (.seq
 (.reg 1 none [1,15] [
 .r 6 (.fa 0 (.t 1)),
 .r 7 (.ld none (.t 6)),
 .r 8 (.lenL (.t 7)),
 .r 9 (.bin .lss false (.t 8) (.k (.v (.int .i64 1)))),
 .r 10 (.mv (.t 9)),
 .rf 11 10 (.fa 0 (.t 1)),
 .rf 12 10 (.ld none (.t 11)),
 .rf 13 10 (.lenL (.t 12)),
 .rf 14 10 (.bin .gtr false (.t 13) (.k (.v (.int .i64 4)))),
 .r 15 (.pick (.t 10) (.k (.v (.bool true))) (.t 14))])
 (.cond (.t 15)
 (.seq
 (.reg 2 none [2] [
 .r 2 (.mv (.k (.v (.int .i64 55))))])
 .ret)
 .skip))
 (.seq
 (.reg 3 none [1,3] [
 .r 3 (.mv (.k (.v (.int .i64 1))))])
 (.seq
 (.seq
 (.reg 4 none [3,17,18,19] [
 .r 16 (.fa 0 (.t 1)),
 .r 17 (.ld none (.t 16)),
 .r 18 (.lenL (.t 17)),
 .r 19 (.mv (.k (.v (.int .i64 0))))])
 (.block 0
 (.loop
 (.seq
 (.reg 5 none [3,17,18,19,20] [
 .r 20 (.bin .lss false (.t 19) (.t 18))])
 (.seq
 (.cond (.t 20)
 .skip
 (.exit 0))
 (.seq
 (.block 1
 (.seq
 (.reg 6 none [3,5,17,18,19] [
 .r 21 (.ixL 1 (.t 17) (.t 19)),
 .r 22 (.ld none (.t 21)),
 .r 5 (.mv (.t 22))])
 (.seq
 (.seq
 (.reg 7 none [3,5,17,18,19,28] [
 .r 23 (.mv (.t 5)),
 .r 24 (.bin .lss false (.t 23) (.k (.v (.int .i64 1)))),
 .r 25 (.mv (.t 24)),
 .rf 26 25 (.mv (.t 5)),
 .rf 27 25 (.bin .gtr false (.t 26) (.k (.v (.int .i64 8)))),
 .r 28 (.pick (.t 25) (.k (.v (.bool true))) (.t 27))])
 (.cond (.t 28)
 (.seq
 (.reg 8 none [2] [
 .r 2 (.mv (.k (.v (.int .i64 55))))])
 .ret)
 .skip))
 (.reg 9 none [3,17,18,19] [
 .r 29 (.mv (.t 3)),
 .r 30 (.mv (.t 5)),
 .r 31 (.bin .mul false (.t 29) (.t 30)),
 .r 3 (.mv (.t 31))]))))
 (.reg 10 none [3,17,18,19] [
 .r 32 (.bin .add false (.t 19) (.k (.v (.int .i64 1)))),
 .r 19 (.mv (.t 32))])))))))
 (.seq
 (.seq
 (.reg 11 none [34] [
 .r 33 (.mv (.t 3)),
 .r 34 (.bin .gtr false (.t 33) (.k (.v (.int .i64 48))))])
 (.cond (.t 34)
 (.seq
 (.reg 12 none [2] [
 .r 2 (.mv (.k (.v (.int .i64 55))))])
 .ret)
 .skip))
 (.seq
 (.reg 13 none [2] [
 .r 2 (.mv (.k (.v (.int .i64 0))))])
 .ret))))))
def ks_ref28_Check:List (Nat×List Nat):=kssOf ir_ref28_Check
theorem fn_ref28_Check:FnIR Tryd.prog F_ref28_Check 35 ks_ref28_Check ir_ref28_Check [(.tmp 2)]:=
 ⟨Tryd.f34,_,Tryd.func34,rfl,by kernel_rfl,rfl,by kernel_rfl,by kernel_rfl⟩
def ir_ref29_release:RC:=
 (.seq
 (.reg 0 none [2,3,4] [
 .r 3 (.box (.t 0)),
 .r 4 (.box (.t 1)),
 .r 6 (.mv (.k (.v (.int .i64 0))))])
 (.seq
 (.seq
 (.reg 1 none [3,4,23] [
 .r 10 (.fa 0 (.t 4)),
 .r 11 (.ld none (.t 10)),
 .r 12 (.mv (.t 2)),
 .r 13 (.bin .leq false (.t 11) (.t 12)),
 .r 14 (.mv (.t 13)),
 .rf 15 14 (.fa 0 (.t 4)),
 .rf 16 14 (.ld none (.t 15)),
 .rf 17 14 (.bin .lss false (.t 16) (.k (.v (.int .i64 0)))),
 .r 18 (.pick (.t 14) (.k (.v (.bool true))) (.t 17)),
 .r 19 (.mv (.t 18)),
 .rf 20 19 (.fa 0 (.t 4)),
 .rf 21 19 (.ld none (.t 20)),
 .rf 22 19 (.bin .geq false (.t 21) (.k (.v (.int .i64 24)))),
 .r 23 (.pick (.t 19) (.k (.v (.bool true))) (.t 22))])
 (.cond (.t 23)
 (.seq
 (.reg 2 none [6] [
 .r 6 (.mv (.k (.v (.int .i64 48))))])
 .ret)
 .skip))
 (.seq
 (.seq
 (.reg 3 none [3,4,7] [
 .r 24 (.ld (some 1) (.t 3)),
 .r 25 (.fa 1 (.t 4)),
 .r 26 (.ld (some 1) (.t 25)),
 .r 27 (.call (.k (.clo F_ref28_View [])) [.t 24,.t 26]),
 .r 7 (.mv (.t 27))])
 (.seq
 (.reg 4 none [3,4,7,29] [
 .r 28 (.mv (.t 7)),
 .r 29 (.bin .neq false (.t 28) (.k (.v (.int .i64 0))))])
 (.cond (.t 29)
 (.seq
 (.reg 5 none [6] [
 .r 30 (.mv (.t 7)),
 .r 6 (.mv (.t 30))])
 .ret)
 .skip)))
 (.seq
 (.seq
 (.reg 6 (some [0,1,3,0,0,16,56,127]) [4,38] [
 .r 31 (.fa 2 (.t 4)),
 .r 32 (.ld none (.t 31)),
 .r 33 (.lenL (.t 32)),
 .r 34 (.ld (some 1) (.t 3)),
 .r 35 (.fa 1 (.t 4)),
 .r 36 (.ld (some 1) (.t 35)),
 .r 37 (.call (.k (.clo F_ref28_Published [])) [.t 34,.t 36]),
 .r 38 (.bin .neq false (.t 33) (.t 37))])
 (.cond (.t 38)
 (.seq
 (.reg 7 none [6] [
 .r 6 (.mv (.k (.v (.int .i64 17))))])
 .ret)
 .skip))
 (.seq
 (.seq
 (.reg 8 none [40,41,42] [
 .r 39 (.fa 2 (.t 4)),
 .r 40 (.ld none (.t 39)),
 .r 41 (.lenL (.t 40)),
 .r 42 (.mv (.k (.v (.int .i64 0))))])
 (.block 0
 (.loop
 (.seq
 (.reg 9 none [40,41,42,43] [
 .r 43 (.bin .lss false (.t 42) (.t 41))])
 (.seq
 (.cond (.t 43)
 .skip
 (.exit 0))
 (.seq
 (.block 1
 (.seq
 (.reg 10 none [9,40,41,42] [
 .r 44 (.ixL 1 (.t 40) (.t 42)),
 .r 45 (.ld none (.t 44)),
 .r 9 (.mv (.t 45))])
 (.seq
 (.reg 11 none [40,41,42,55] [
 .r 46 (.mv (.t 9)),
 .r 47 (.bin .neq false (.t 46) (.k (.v (.int .i64 (-1))))),
 .r 48 (.mv (.t 47)),
 .rt 49 48 (.mv (.t 9)),
 .rt 50 48 (.bin .lss false (.t 49) (.k (.v (.int .i64 0)))),
 .rt 51 48 (.mv (.t 50)),
 .rf 52 51 (.mv (.t 9)),
 .rf 53 51 (.bin .gtr false (.t 52) (.k (.v (.int .i64 1000000)))),
 .rt 54 48 (.pick (.t 51) (.k (.v (.bool true))) (.t 53)),
 .r 55 (.pick (.t 48) (.t 54) (.k (.v (.bool false))))])
 (.cond (.t 55)
 (.seq
 (.reg 12 none [6] [
 .r 6 (.mv (.k (.v (.int .i64 2))))])
 .ret)
 .skip))))
 (.reg 13 none [40,41,42] [
 .r 56 (.bin .add false (.t 42) (.k (.v (.int .i64 1)))),
 .r 42 (.mv (.t 56))])))))))
 (.seq
 (.reg 14 none [6] [
 .r 6 (.mv (.k (.v (.int .i64 0))))])
 .ret))))))
def ks_ref29_release:List (Nat×List Nat):=kssOf ir_ref29_release
theorem fn_ref29_release:FnIR Tryd.prog F_ref29_release 57 ks_ref29_release ir_ref29_release [(.tmp 6)]:=
 ⟨Tryd.f35,_,Tryd.func35,rfl,by kernel_rfl,rfl,by kernel_rfl,by kernel_rfl⟩
def ir_equations_text:RC:=
 (.seq
 (.reg 0 none [0] [
 .r 2 (.mv (.k (.v (.string ⟨#[]⟩))))])
 (.seq
 (.reg 1 none [0,3] [
 .r 3 (.mv (.k (.v (.slice none 0 0))))])
 (.seq
 (.seq
 (.reg 2 none [3,6,7,8] [
 .r 6 (.mv (.t 0)),
 .r 7 (.lenL (.t 6)),
 .r 8 (.mv (.k (.v (.int .i64 0))))])
 (.block 0
 (.loop
 (.seq
 (.reg 3 none [3,6,7,8,9] [
 .r 9 (.bin .lss false (.t 8) (.t 7))])
 (.seq
 (.cond (.t 9)
 .skip
 (.exit 0))
 (.seq
 (.block 1
 (.seq
 (.reg 4 none [3,5,6,7,8] [
 .r 10 (.ixL 1 (.t 6) (.t 8)),
 .r 11 (.ld none (.t 10)),
 .r 5 (.mv (.t 11))])
 (.reg 5 none [3,6,7,8] [
 .r 12 (.mv (.t 3)),
 .r 13 (.mv (.t 5)),
 .r 14 (.call (.k (.clo F_strconv_AppendInt [])) [.t 12,.t 13,.k (.v (.int .i64 10))]),
 .r 15 (.bsl 1 1 [.k (.v (.int .u8 32))]),
 .r 16 (.app 1 1 false (.t 14) (.t 15)),
 .r 3 (.mv (.t 16))])))
 (.reg 6 none [3,6,7,8] [
 .r 17 (.bin .add false (.t 8) (.k (.v (.int .i64 1)))),
 .r 8 (.mv (.t 17))])))))))
 (.seq
 (.reg 7 none [2] [
 .r 18 (.mv (.t 3)),
 .r 19 (.cvBS (.t 18)),
 .r 2 (.mv (.t 19))])
 .ret))))
def ks_equations_text:List (Nat×List Nat):=kssOf ir_equations_text
theorem fn_equations_text:FnIR Tryd.prog F_equations_text 20 ks_equations_text ir_equations_text [(.tmp 2)]:=
 ⟨Tryd.f36,_,Tryd.func36,rfl,by kernel_rfl,rfl,by kernel_rfl,by kernel_rfl⟩
def ir_slices_Clone_int:RC:=
 (.seq
 (.reg 0 none [0] [
 .r 2 (.mv (.k (.v (.slice none 0 0))))])
 (.seq
 (.seq
 (.reg 1 none [0,4] [
 .r 3 (.mv (.t 0)),
 .r 4 (.ext (.nilq false) [.t 3,.k (.v (.slice none 0 0))])])
 (.cond (.t 4)
 (.seq
 (.reg 2 none [2] [
 .r 2 (.mv (.k (.v (.slice none 0 0))))])
 .ret)
 .skip))
 (.seq
 (.reg 3 none [2] [
 .r 5 (.bsl 1 0 []),
 .r 6 (.mv (.t 0)),
 .r 7 (.app 1 8 false (.t 5) (.t 6)),
 .r 2 (.mv (.t 7))])
 .ret)))
def ks_slices_Clone_int:List (Nat×List Nat):=kssOf ir_slices_Clone_int
theorem fn_slices_Clone_int:FnIR Tryd.prog F_slices_Clone_int 8 ks_slices_Clone_int ir_slices_Clone_int [(.tmp 2)]:=
 ⟨Tryd.f37,_,Tryd.func37,rfl,by kernel_rfl,rfl,by kernel_rfl,by kernel_rfl⟩
def ir_slices_ContainsFunc_Equation:RC:=
 (.seq
 (.reg 0 none [0,1] [
 .r 4 (.mv (.k (.v (.bool false))))])
 (.seq
 (.reg 1 none [4] [
 .r 5 (.mv (.t 0)),
 .r 6 (.mv (.t 1)),
 .r 7 (.call (.k (.clo F_slices_IndexFunc_Equation [])) [.t 5,.t 6]),
 .r 8 (.bin .geq false (.t 7) (.k (.v (.int .i64 0)))),
 .r 4 (.mv (.t 8))])
 .ret))
def ks_slices_ContainsFunc_Equation:List (Nat×List Nat):=kssOf ir_slices_ContainsFunc_Equation
theorem fn_slices_ContainsFunc_Equation:FnIR Tryd.prog F_slices_ContainsFunc_Equation 9 ks_slices_ContainsFunc_Equation ir_slices_ContainsFunc_Equation [(.tmp 4)]:=
 ⟨Tryd.f38,_,Tryd.func38,rfl,by kernel_rfl,rfl,by kernel_rfl,by kernel_rfl⟩
def ir_equations_Valid_1:RC:=
 (.seq
 (.reg 0 none [1,2] [
 .r 2 (.box (.t 0)),
 .r 3 (.mv (.k (.v (.bool false))))])
 (.seq
 (.reg 1 none [3] [
 .r 4 (.ld none (.t 1)),
 .r 5 (.ld (some 2) (.t 2)),
 .r 6 (.call (.k (.clo F_equations_right [])) [.t 4,.t 5]),
 .r 7 (.un .not (.t 6)),
 .r 3 (.mv (.t 7))])
 .ret))
def ks_equations_Valid_1:List (Nat×List Nat):=kssOf ir_equations_Valid_1
theorem fn_equations_Valid_1:FnIR Tryd.prog F_equations_Valid_1 8 ks_equations_Valid_1 ir_equations_Valid_1 [(.tmp 3)]:=
 ⟨Tryd.f39,_,Tryd.func39,rfl,by kernel_rfl,rfl,by kernel_rfl,by kernel_rfl⟩
def ir_equations_right:RC:=
 (.seq
 (.reg 0 none [0,3] [
 .r 3 (.box (.t 1)),
 .r 4 (.mv (.k (.v (.bool false))))])
 (.seq
 (.seq
 (.reg 1 none [0,3,17] [
 .r 8 (.fa 0 (.t 3)),
 .r 9 (.ld none (.t 8)),
 .r 10 (.lenL (.t 9)),
 .r 11 (.bin .eql false (.t 10) (.k (.v (.int .i64 0)))),
 .r 12 (.mv (.t 11)),
 .rf 13 12 (.fa 1 (.t 3)),
 .rf 14 12 (.ld none (.t 13)),
 .rf 15 12 (.call (.k (.clo F_equations_value [])) [.t 14]),
 .rf 16 12 (.un .not (.t 15)),
 .r 17 (.pick (.t 12) (.k (.v (.bool true))) (.t 16))])
 (.cond (.t 17)
 (.seq
 (.reg 2 none [4] [
 .r 4 (.mv (.k (.v (.bool false))))])
 .ret)
 .skip))
 (.seq
 (.reg 3 none [0,3,5] [
 .r 5 (.mv (.k (.v (.int .i64 (-1)))))])
 (.seq
 (.seq
 (.reg 4 none [0,5,19,20,21] [
 .r 18 (.fa 0 (.t 3)),
 .r 19 (.ld none (.t 18)),
 .r 20 (.lenL (.t 19)),
 .r 21 (.mv (.k (.v (.int .i64 0))))])
 (.block 0
 (.loop
 (.seq
 (.reg 5 none [0,5,19,20,21,22] [
 .r 22 (.bin .lss false (.t 21) (.t 20))])
 (.seq
 (.cond (.t 22)
 .skip
 (.exit 0))
 (.seq
 (.block 1
 (.seq
 (.reg 6 none [0,5,7,19,20,21] [
 .r 23 (.ixL 1 (.t 19) (.t 21)),
 .r 24 (.ld none (.t 23)),
 .r 7 (.mv (.t 24))])
 (.seq
 (.seq
 (.reg 7 none [0,7,19,20,21,32] [
 .r 25 (.mv (.t 7)),
 .r 26 (.mv (.t 5)),
 .r 27 (.bin .leq false (.t 25) (.t 26)),
 .r 28 (.mv (.t 27)),
 .rf 29 28 (.mv (.t 7)),
 .rf 30 28 (.mv (.t 0)),
 .rf 31 28 (.bin .geq false (.t 29) (.t 30)),
 .r 32 (.pick (.t 28) (.k (.v (.bool true))) (.t 31))])
 (.cond (.t 32)
 (.seq
 (.reg 8 none [4] [
 .r 4 (.mv (.k (.v (.bool false))))])
 .ret)
 .skip))
 (.reg 9 none [0,5,19,20,21] [
 .r 33 (.mv (.t 7)),
 .r 5 (.mv (.t 33))]))))
 (.reg 10 none [0,5,19,20,21] [
 .r 34 (.bin .add false (.t 21) (.k (.v (.int .i64 1)))),
 .r 21 (.mv (.t 34))])))))))
 (.seq
 (.reg 11 none [4] [
 .r 4 (.mv (.k (.v (.bool true))))])
 .ret)))))
def ks_equations_right:List (Nat×List Nat):=kssOf ir_equations_right
theorem fn_equations_right:FnIR Tryd.prog F_equations_right 35 ks_equations_right ir_equations_right [(.tmp 4)]:=
 ⟨Tryd.f40,_,Tryd.func40,rfl,by kernel_rfl,rfl,by kernel_rfl,by kernel_rfl⟩
def ir_slices_Sort_int:RC:=
 (.seq
 (.reg 0 none [0,2] [
 .r 3 (.mv (.t 0)),
 .r 4 (.lenL (.t 3)),
 .r 2 (.mv (.t 4))])
 (.reg 1 none [] [
 .r 5 (.mv (.t 0)),
 .r 6 (.mv (.t 2)),
 .r 7 (.mv (.t 2)),
 .r 8 (.cvI .u64 (.t 7)),
 .r 9 (.call (.k (.clo F_math_bits_Len [])) [.t 8]),
 .r 10 (.call (.k (.clo F_slices_pdqsortOrdered_int [])) [.t 5,.k (.v (.int .i64 0)),.t 6,.t 9])]))
def ks_slices_Sort_int:List (Nat×List Nat):=kssOf ir_slices_Sort_int
theorem fn_slices_Sort_int:FnIR Tryd.prog F_slices_Sort_int 11 ks_slices_Sort_int ir_slices_Sort_int []:=
 ⟨Tryd.f41,_,Tryd.func41,rfl,by kernel_rfl,rfl,by kernel_rfl,by kernel_rfl⟩
def ir_slices_Compact_int:RC:=
 (.seq
 (.reg 0 none [0] [
 .r 2 (.mv (.k (.v (.slice none 0 0))))])
 (.seq
 (.seq
 (.reg 1 none [0,8] [
 .r 6 (.mv (.t 0)),
 .r 7 (.lenL (.t 6)),
 .r 8 (.bin .lss false (.t 7) (.k (.v (.int .i64 2))))])
 (.cond (.t 8)
 (.seq
 (.reg 2 none [2] [
 .r 9 (.mv (.t 0)),
 .r 2 (.mv (.t 9))])
 .ret)
 .skip))
 (.seq
 (.seq
 (.reg 3 none [0,3] [
 .r 3 (.mv (.k (.v (.int .i64 1))))])
 (.block 0
 (.loop
 (.seq
 (.seq
 (.reg 4 none [0,3,13] [
 .r 10 (.mv (.t 3)),
 .r 11 (.mv (.t 0)),
 .r 12 (.lenL (.t 11)),
 .r 13 (.bin .lss false (.t 10) (.t 12))])
 (.cond (.t 13)
 .skip
 (.exit 0)))
 (.seq
 (.block 1
 (.seq
 (.reg 6 (some [0,0,3,7,0,0,32,112,240,511]) [0,3,25] [
 .r 16 (.mv (.t 0)),
 .r 17 (.mv (.t 3)),
 .r 18 (.ixL 1 (.t 16) (.t 17)),
 .r 19 (.ld none (.t 18)),
 .r 20 (.mv (.t 0)),
 .r 21 (.mv (.t 3)),
 .r 22 (.bin .sub false (.t 21) (.k (.v (.int .i64 1)))),
 .r 23 (.ixL 1 (.t 20) (.t 22)),
 .r 24 (.ld none (.t 23)),
 .r 25 (.bin .eql false (.t 19) (.t 24))])
 (.cond (.t 25)
 (.seq
 (.reg 7 none [0,3,4] [
 .r 26 (.mv (.t 0)),
 .r 27 (.mv (.t 3)),
 .r 28 (.slL 1 (.t 26) (some (.t 27)) none),
 .r 4 (.mv (.t 28))])
 (.seq
 (.seq
 (.reg 8 none [0,3,4,5] [
 .r 5 (.mv (.k (.v (.int .i64 1))))])
 (.block 2
 (.loop
 (.seq
 (.seq
 (.reg 9 none [0,3,4,5,32] [
 .r 29 (.mv (.t 5)),
 .r 30 (.mv (.t 4)),
 .r 31 (.lenL (.t 30)),
 .r 32 (.bin .lss false (.t 29) (.t 31))])
 (.cond (.t 32)
 .skip
 (.exit 2)))
 (.seq
 (.block 3
 (.seq
 (.reg 11 (some [0,0,3,7,0,0,32,112,240,511]) [0,3,4,5,44] [
 .r 35 (.mv (.t 4)),
 .r 36 (.mv (.t 5)),
 .r 37 (.ixL 1 (.t 35) (.t 36)),
 .r 38 (.ld none (.t 37)),
 .r 39 (.mv (.t 4)),
 .r 40 (.mv (.t 5)),
 .r 41 (.bin .sub false (.t 40) (.k (.v (.int .i64 1)))),
 .r 42 (.ixL 1 (.t 39) (.t 41)),
 .r 43 (.ld none (.t 42)),
 .r 44 (.bin .neq false (.t 38) (.t 43))])
 (.cond (.t 44)
 (.seq
 (.reg 12 none [0,3,4,5] [
 .r 45 (.mv (.t 0)),
 .r 46 (.mv (.t 3)),
 .r 47 (.mv (.t 4)),
 .r 48 (.mv (.t 5)),
 .r 49 (.ixL 1 (.t 47) (.t 48)),
 .r 50 (.ld none (.t 49)),
 .r 51 (.ixL 1 (.t 45) (.t 46)),
 .rn (.st 1 (.t 51) (.t 50))])
 (.reg 13 none [0,3,4,5] [
 .r 52 (.mv (.t 3)),
 .r 53 (.bin .add false (.t 52) (.k (.v (.int .i64 1)))),
 .r 3 (.mv (.t 53))]))
 .skip)))
 (.reg 10 none [0,3,4,5] [
 .r 33 (.mv (.t 5)),
 .r 34 (.bin .add false (.t 33) (.k (.v (.int .i64 1)))),
 .r 5 (.mv (.t 34))]))))))
 (.seq
 (.reg 14 none [0,3] [
 .r 54 (.mv (.t 0)),
 .r 55 (.mv (.t 3)),
 .r 56 (.slL 1 (.t 54) (some (.t 55)) none),
 .rn (.ext (.clr 1 (.v (.int .i64 0))) [.t 56])])
 (.seq
 (.reg 15 none [2] [
 .r 57 (.mv (.t 0)),
 .r 58 (.mv (.t 3)),
 .r 59 (.slL 1 (.t 57) none (some (.t 58))),
 .r 2 (.mv (.t 59))])
 .ret))))
 .skip)))
 (.reg 5 none [0,3] [
 .r 14 (.mv (.t 3)),
 .r 15 (.bin .add false (.t 14) (.k (.v (.int .i64 1)))),
 .r 3 (.mv (.t 15))]))))))
 (.seq
 (.reg 16 none [2] [
 .r 60 (.mv (.t 0)),
 .r 2 (.mv (.t 60))])
 .ret))))
def ks_slices_Compact_int:List (Nat×List Nat):=kssOf ir_slices_Compact_int
theorem fn_slices_Compact_int:FnIR Tryd.prog F_slices_Compact_int 61 ks_slices_Compact_int ir_slices_Compact_int [(.tmp 2)]:=
 ⟨Tryd.f42,_,Tryd.func42,rfl,by kernel_rfl,rfl,by kernel_rfl,by kernel_rfl⟩
def ir_slices_ContainsFunc_int:RC:=
 (.seq
 (.reg 0 none [0,1] [
 .r 4 (.mv (.k (.v (.bool false))))])
 (.seq
 (.reg 1 none [4] [
 .r 5 (.mv (.t 0)),
 .r 6 (.mv (.t 1)),
 .r 7 (.call (.k (.clo F_slices_IndexFunc_int [])) [.t 5,.t 6]),
 .r 8 (.bin .geq false (.t 7) (.k (.v (.int .i64 0)))),
 .r 4 (.mv (.t 8))])
 .ret))
def ks_slices_ContainsFunc_int:List (Nat×List Nat):=kssOf ir_slices_ContainsFunc_int
theorem fn_slices_ContainsFunc_int:FnIR Tryd.prog F_slices_ContainsFunc_int 9 ks_slices_ContainsFunc_int ir_slices_ContainsFunc_int [(.tmp 4)]:=
 ⟨Tryd.f43,_,Tryd.func43,rfl,by kernel_rfl,rfl,by kernel_rfl,by kernel_rfl⟩
def ir_equations_Agrees_1:RC:=
 (.seq
 (.reg 0 none [0] [
 .r 2 (.mv (.k (.v (.bool false))))])
 (.seq
 (.reg 1 none [2] [
 .r 3 (.mv (.t 0)),
 .r 4 (.call (.k (.clo F_equations_value [])) [.t 3]),
 .r 5 (.un .not (.t 4)),
 .r 2 (.mv (.t 5))])
 .ret))
def ks_equations_Agrees_1:List (Nat×List Nat):=kssOf ir_equations_Agrees_1
theorem fn_equations_Agrees_1:FnIR Tryd.prog F_equations_Agrees_1 6 ks_equations_Agrees_1 ir_equations_Agrees_1 [(.tmp 2)]:=
 ⟨Tryd.f44,_,Tryd.func44,rfl,by kernel_rfl,rfl,by kernel_rfl,by kernel_rfl⟩
def ir_equations_value:RC:=
 (.seq
 (.reg 0 none [0] [
 .r 2 (.mv (.k (.v (.bool false))))])
 (.seq
 (.reg 1 none [2] [
 .r 3 (.mv (.t 0)),
 .r 4 (.bin .geq false (.t 3) (.k (.v (.int .i64 0)))),
 .r 5 (.mv (.t 4)),
 .rt 6 5 (.mv (.t 0)),
 .rt 7 5 (.bin .leq false (.t 6) (.k (.v (.int .i64 1000000)))),
 .r 8 (.pick (.t 5) (.t 7) (.k (.v (.bool false)))),
 .r 2 (.mv (.t 8))])
 .ret))
def ks_equations_value:List (Nat×List Nat):=kssOf ir_equations_value
theorem fn_equations_value:FnIR Tryd.prog F_equations_value 9 ks_equations_value ir_equations_value [(.tmp 2)]:=
 ⟨Tryd.f45,_,Tryd.func45,rfl,by kernel_rfl,rfl,by kernel_rfl,by kernel_rfl⟩
def ir_draw_Codes_Next:RC:=
 (.seq
 (.reg 0 none [0,1] [
 .r 4 (.mv (.k (.v (.int .i64 0))))])
 (.seq
 (.seq
 (.reg 1 (some [0,1,3,7,15,31,63,7,135,391,903,1927,4095,8191]) [0,1,19] [
 .r 6 (.mv (.t 1)),
 .r 7 (.bin .lss false (.t 6) (.k (.v (.int .i64 1)))),
 .r 8 (.mv (.t 7)),
 .rf 9 8 (.mv (.t 0)),
 .rf 10 8 (.nc (.t 9)),
 .rf 11 8 (.fa 1 (.t 10)),
 .rf 12 8 (.ld none (.t 11)),
 .rf 13 8 (.mv (.t 0)),
 .rf 14 8 (.nc (.t 13)),
 .rf 15 8 (.fa 0 (.t 14)),
 .rf 16 8 (.ld none (.t 15)),
 .rf 17 8 (.lenL (.t 16)),
 .rf 18 8 (.bin .geq false (.t 12) (.t 17)),
 .r 19 (.pick (.t 8) (.k (.v (.bool true))) (.t 18))])
 (.cond (.t 19)
 (.seq
 (.reg 2 none [4] [
 .r 4 (.mv (.k (.v (.int .i64 0))))])
 .ret)
 .skip))
 (.seq
 (.reg 3 none [0,1] [
 .r 20 (.mv (.t 0)),
 .r 21 (.nc (.t 20)),
 .r 22 (.fa 1 (.t 21)),
 .r 23 (.ld none (.t 22)),
 .r 24 (.bin .add false (.t 23) (.k (.v (.int .i64 1)))),
 .r 25 (.nc (.t 20)),
 .r 26 (.fa 1 (.t 25)),
 .rn (.st 1 (.t 26) (.t 24))])
 (.seq
 (.reg 4 (some [0,1,3,7,0,16,48,112,240,511,1023,2047,4095]) [0,1,5] [
 .r 27 (.mv (.t 0)),
 .r 28 (.nc (.t 27)),
 .r 29 (.fa 0 (.t 28)),
 .r 30 (.ld none (.t 29)),
 .r 31 (.mv (.t 0)),
 .r 32 (.nc (.t 31)),
 .r 33 (.fa 1 (.t 32)),
 .r 34 (.ld none (.t 33)),
 .r 35 (.bin .sub false (.t 34) (.k (.v (.int .i64 1)))),
 .r 36 (.ixL 1 (.t 30) (.t 35)),
 .r 37 (.ld none (.t 36)),
 .r 38 (.cvI .i64 (.t 37)),
 .r 5 (.mv (.t 38))])
 (.seq
 (.seq
 (.reg 5 (some [0,1,3,7,15,31,63,7,135,391,903,1927,4095,8191]) [0,1,5,52] [
 .r 39 (.mv (.t 1)),
 .r 40 (.bin .gtr false (.t 39) (.k (.v (.int .i64 256)))),
 .r 41 (.mv (.t 40)),
 .rt 42 41 (.mv (.t 0)),
 .rt 43 41 (.nc (.t 42)),
 .rt 44 41 (.fa 1 (.t 43)),
 .rt 45 41 (.ld none (.t 44)),
 .rt 46 41 (.mv (.t 0)),
 .rt 47 41 (.nc (.t 46)),
 .rt 48 41 (.fa 0 (.t 47)),
 .rt 49 41 (.ld none (.t 48)),
 .rt 50 41 (.lenL (.t 49)),
 .rt 51 41 (.bin .lss false (.t 45) (.t 50)),
 .r 52 (.pick (.t 41) (.t 51) (.k (.v (.bool false))))])
 (.cond (.t 52)
 (.seq
 (.reg 6 (some [0,1,0,4,12,28,0,64,192,448,1020,2044,4092,8191,16383]) [0,1,5] [
 .r 53 (.mv (.t 5)),
 .r 54 (.bin .mul false (.t 53) (.k (.v (.int .i64 256)))),
 .r 55 (.mv (.t 0)),
 .r 56 (.nc (.t 55)),
 .r 57 (.fa 0 (.t 56)),
 .r 58 (.ld none (.t 57)),
 .r 59 (.mv (.t 0)),
 .r 60 (.nc (.t 59)),
 .r 61 (.fa 1 (.t 60)),
 .r 62 (.ld none (.t 61)),
 .r 63 (.ixL 1 (.t 58) (.t 62)),
 .r 64 (.ld none (.t 63)),
 .r 65 (.cvI .i64 (.t 64)),
 .r 66 (.bin .add false (.t 54) (.t 65)),
 .r 5 (.mv (.t 66))])
 (.reg 7 none [1,5] [
 .r 67 (.mv (.t 0)),
 .r 68 (.nc (.t 67)),
 .r 69 (.fa 1 (.t 68)),
 .r 70 (.ld none (.t 69)),
 .r 71 (.bin .add false (.t 70) (.k (.v (.int .i64 1)))),
 .r 72 (.nc (.t 67)),
 .r 73 (.fa 1 (.t 72)),
 .rn (.st 1 (.t 73) (.t 71))]))
 .skip))
 (.seq
 (.reg 8 none [4] [
 .r 74 (.mv (.t 5)),
 .r 75 (.mv (.t 1)),
 .r 76 (.bin .rem false (.t 74) (.t 75)),
 .r 4 (.mv (.t 76))])
 .ret))))))
def ks_draw_Codes_Next:List (Nat×List Nat):=kssOf ir_draw_Codes_Next
theorem fn_draw_Codes_Next:FnIR Tryd.prog F_draw_Codes_Next 77 ks_draw_Codes_Next ir_draw_Codes_Next [(.tmp 4)]:=
 ⟨Tryd.f46,_,Tryd.func46,rfl,by kernel_rfl,rfl,by kernel_rfl,by kernel_rfl⟩
def ir_made_View:RC:=
 (.seq
 (.reg 0 none [0,3,4] [
 .r 3 (.box (.t 1)),
 .r 4 (.new (.agg [.v (.slice none 0 0)]))])
 (.seq
 (.reg 1 none [0,3,4,5] [
 .r 5 (.new (.agg [.v (.slice none 0 0)]))])
 (.seq
 (.seq
 (.reg 2 none [0,4,5,13,14,15] [
 .r 12 (.fa 0 (.t 3)),
 .r 13 (.ld none (.t 12)),
 .r 14 (.lenL (.t 13)),
 .r 15 (.mv (.k (.v (.int .i64 0))))])
 (.block 0
 (.loop
 (.seq
 (.reg 3 none [0,4,5,13,14,15,16] [
 .r 16 (.bin .lss false (.t 15) (.t 14))])
 (.seq
 (.cond (.t 16)
 .skip
 (.exit 0))
 (.seq
 (.block 1
 (.seq
 (.reg 4 none [0,4,5,7,13,14,15] [
 .r 17 (.ixL 1 (.t 13) (.t 15)),
 .r 18 (.ld none (.t 17)),
 .r 7 (.mv (.t 18))])
 (.seq
 (.reg 5 none [0,4,5,8,13,14,15] [
 .r 19 (.mv (.t 7)),
 .r 20 (.mk 1 8 (.v (.int .i64 0)) (.t 19) (.t 19)),
 .r 8 (.mv (.t 20))])
 (.seq
 (.reg 6 none [0,4,5,8,9,13,14,15] [
 .r 9 (.mv (.k (.v (.int .i64 0))))])
 (.seq
 (.seq
 (.reg 7 none [0,4,5,8,9,13,14,15,22,23] [
 .r 21 (.mv (.t 8)),
 .r 22 (.lenL (.t 21)),
 .r 23 (.mv (.k (.v (.int .i64 0))))])
 (.block 2
 (.loop
 (.seq
 (.reg 8 none [0,4,5,8,9,13,14,15,22,23,24] [
 .r 24 (.bin .lss false (.t 23) (.t 22))])
 (.seq
 (.cond (.t 24)
 .skip
 (.exit 2))
 (.seq
 (.block 3
 (.seq
 (.reg 9 none [0,4,5,8,9,10,13,14,15,22,23] [
 .r 25 (.mv (.t 23)),
 .r 10 (.mv (.t 25))])
 (.seq
 (.reg 10 none [0,4,5,8,9,10,11,13,14,15,22,23] [
 .r 26 (.mv (.t 0)),
 .r 27 (.mv (.t 9)),
 .r 28 (.bin .add false (.t 27) (.k (.v (.int .i64 2)))),
 .r 29 (.call (.k (.clo F_draw_Codes_Next [])) [.t 26,.t 28]),
 .r 11 (.mv (.t 29))])
 (.seq
 (.seq
 (.reg 11 none [0,4,5,8,9,10,11,13,14,15,22,23,32] [
 .r 30 (.mv (.t 11)),
 .r 31 (.mv (.t 9)),
 .r 32 (.bin .gtr false (.t 30) (.t 31))])
 (.cond (.t 32)
 (.reg 12 none [0,4,5,8,9,10,11,13,14,15,22,23] [
 .r 33 (.mv (.t 9)),
 .r 11 (.mv (.t 33))])
 .skip))
 (.seq
 (.seq
 (.reg 13 none [0,4,5,8,9,10,11,13,14,15,22,23,40] [
 .r 34 (.mv (.t 0)),
 .r 35 (.call (.k (.clo F_draw_Codes_Next [])) [.t 34,.k (.v (.int .i64 8))]),
 .r 36 (.bin .eql false (.t 35) (.k (.v (.int .i64 7)))),
 .r 37 (.mv (.t 36)),
 .rt 38 37 (.mv (.t 10)),
 .rt 39 37 (.bin .gtr false (.t 38) (.k (.v (.int .i64 0)))),
 .r 40 (.pick (.t 37) (.t 39) (.k (.v (.bool false))))])
 (.cond (.t 40)
 (.reg 14 none [0,4,5,8,9,10,11,13,14,15,22,23] [
 .r 11 (.mv (.k (.v (.int .i64 (-1)))))])
 .skip))
 (.seq
 (.reg 15 none [0,4,5,8,9,11,13,14,15,22,23] [
 .r 41 (.mv (.t 8)),
 .r 42 (.mv (.t 10)),
 .r 43 (.mv (.t 11)),
 .r 44 (.ixL 1 (.t 41) (.t 42)),
 .rn (.st 1 (.t 44) (.t 43))])
 (.seq
 (.reg 16 none [0,4,5,8,9,13,14,15,22,23,47] [
 .r 45 (.mv (.t 11)),
 .r 46 (.mv (.t 9)),
 .r 47 (.bin .eql false (.t 45) (.t 46))])
 (.cond (.t 47)
 (.reg 17 none [0,4,5,8,9,13,14,15,22,23] [
 .r 48 (.mv (.t 9)),
 .r 49 (.bin .add false (.t 48) (.k (.v (.int .i64 1)))),
 .r 9 (.mv (.t 49))])
 .skip))))))))
 (.reg 18 none [0,4,5,8,9,13,14,15,22,23] [
 .r 50 (.bin .add false (.t 23) (.k (.v (.int .i64 1)))),
 .r 23 (.mv (.t 50))])))))))
 (.reg 19 none [0,4,5,13,14,15] [
 .r 51 (.fa 0 (.t 5)),
 .r 52 (.ld none (.t 51)),
 .r 53 (.mv (.t 8)),
 .r 54 (.bsl 1 1 [.t 53]),
 .r 55 (.app 1 24 false (.t 52) (.t 54)),
 .r 56 (.fa 0 (.t 5)),
 .rn (.st 1 (.t 56) (.t 55))]))))))
 (.reg 20 none [0,4,5,13,14,15] [
 .r 57 (.bin .add false (.t 15) (.k (.v (.int .i64 1)))),
 .r 15 (.mv (.t 57))])))))))
 (.seq
 (.reg 21 none [4] [
 .r 58 (.ld (some 1) (.t 5)),
 .rn (.st 1 (.t 4) (.t 58))])
 .ret))))
def ks_made_View:List (Nat×List Nat):=kssOf ir_made_View
theorem fn_made_View:FnIR Tryd.prog F_made_View 59 ks_made_View ir_made_View [(.cell 4 (some 1))]:=
 ⟨Tryd.f47,_,Tryd.func47,rfl,by kernel_rfl,rfl,by kernel_rfl,by kernel_rfl⟩
def ir_ref28_Publish:RC:=
 (.seq
 (.reg 0 none [2,3,4] [
 .r 3 (.box (.t 0)),
 .r 4 (.box (.t 1)),
 .r 6 (.mv (.k (.v (.slice none 0 0)))),
 .r 7 (.mv (.k (.v (.int .i64 0))))])
 (.seq
 (.seq
 (.reg 1 none [2,3,4,8] [
 .r 14 (.ld (some 1) (.t 3)),
 .r 15 (.ld (some 1) (.t 4)),
 .r 16 (.call (.k (.clo F_ref28_View [])) [.t 14,.t 15]),
 .r 8 (.mv (.t 16))])
 (.seq
 (.reg 2 none [2,3,4,8,18] [
 .r 17 (.mv (.t 8)),
 .r 18 (.bin .neq false (.t 17) (.k (.v (.int .i64 0))))])
 (.cond (.t 18)
 (.seq
 (.reg 3 none [6,7] [
 .r 19 (.mv (.t 8)),
 .r 6 (.mv (.k (.v (.slice none 0 0)))),
 .r 7 (.mv (.t 19))])
 .ret)
 .skip)))
 (.seq
 (.seq
 (.reg 4 none [2,3,4,24] [
 .r 20 (.mv (.t 2)),
 .r 21 (.lenL (.t 20)),
 .r 22 (.ld (some 1) (.t 3)),
 .r 23 (.call (.k (.clo F_ref28_Count [])) [.t 22]),
 .r 24 (.bin .neq false (.t 21) (.t 23))])
 (.cond (.t 24)
 (.seq
 (.reg 5 none [6,7] [
 .r 6 (.mv (.k (.v (.slice none 0 0)))),
 .r 7 (.mv (.k (.v (.int .i64 17))))])
 .ret)
 .skip))
 (.seq
 (.seq
 (.reg 6 none [2,3,4,25,26,27] [
 .r 25 (.mv (.t 2)),
 .r 26 (.lenL (.t 25)),
 .r 27 (.mv (.k (.v (.int .i64 0))))])
 (.block 0
 (.loop
 (.seq
 (.reg 7 none [2,3,4,25,26,27,28] [
 .r 28 (.bin .lss false (.t 27) (.t 26))])
 (.seq
 (.cond (.t 28)
 .skip
 (.exit 0))
 (.seq
 (.block 1
 (.seq
 (.reg 8 none [2,3,4,10,25,26,27] [
 .r 29 (.ixL 1 (.t 25) (.t 27)),
 .r 30 (.ld none (.t 29)),
 .r 10 (.mv (.t 30))])
 (.seq
 (.reg 9 none [2,3,4,25,26,27,36] [
 .r 31 (.mv (.t 10)),
 .r 32 (.bin .lss false (.t 31) (.k (.v (.int .i64 0)))),
 .r 33 (.mv (.t 32)),
 .rf 34 33 (.mv (.t 10)),
 .rf 35 33 (.bin .gtr false (.t 34) (.k (.v (.int .i64 1000000)))),
 .r 36 (.pick (.t 33) (.k (.v (.bool true))) (.t 35))])
 (.cond (.t 36)
 (.seq
 (.reg 10 none [6,7] [
 .r 6 (.mv (.k (.v (.slice none 0 0)))),
 .r 7 (.mv (.k (.v (.int .i64 2))))])
 .ret)
 .skip))))
 (.reg 11 none [2,3,4,25,26,27] [
 .r 37 (.bin .add false (.t 27) (.k (.v (.int .i64 1)))),
 .r 27 (.mv (.t 37))])))))))
 (.seq
 (.reg 12 none [2,3,4,11] [
 .r 38 (.ld (some 1) (.t 3)),
 .r 39 (.ld (some 1) (.t 4)),
 .r 40 (.call (.k (.clo F_ref28_Published [])) [.t 38,.t 39]),
 .r 41 (.mk 1 8 (.v (.int .i64 0)) (.t 40) (.t 40)),
 .r 11 (.mv (.t 41))])
 (.seq
 (.seq
 (.reg 13 none [2,3,4,11,43,44] [
 .r 42 (.mv (.t 2)),
 .r 43 (.lenL (.t 42)),
 .r 44 (.mv (.k (.v (.int .i64 0))))])
 (.block 2
 (.loop
 (.seq
 (.reg 14 none [2,3,4,11,43,44,45] [
 .r 45 (.bin .lss false (.t 44) (.t 43))])
 (.seq
 (.cond (.t 45)
 .skip
 (.exit 2))
 (.seq
 (.block 3
 (.seq
 (.reg 15 none [2,3,4,11,12,43,44] [
 .r 46 (.mv (.t 44)),
 .r 12 (.mv (.t 46))])
 (.seq
 (.reg 16 none [2,3,4,11,12,13,43,44] [
 .r 47 (.ld (some 1) (.t 3)),
 .r 48 (.ld (some 1) (.t 4)),
 .r 49 (.mv (.t 12)),
 .r 50 (.call (.k (.clo F_ref28_Of [])) [.t 47,.t 48,.t 49]),
 .r 13 (.mv (.t 50))])
 (.seq
 (.reg 17 none [2,3,4,11,12,13,43,44,52] [
 .r 51 (.mv (.t 13)),
 .r 52 (.bin .geq false (.t 51) (.k (.v (.int .i64 0))))])
 (.cond (.t 52)
 (.reg 18 (some [0,0,3,7,0,0,48,112,255,511,1023]) [2,3,4,11,43,44] [
 .r 53 (.mv (.t 11)),
 .r 54 (.mv (.t 13)),
 .r 55 (.ixL 1 (.t 53) (.t 54)),
 .r 56 (.ld none (.t 55)),
 .r 57 (.mv (.t 2)),
 .r 58 (.mv (.t 12)),
 .r 59 (.ixL 1 (.t 57) (.t 58)),
 .r 60 (.ld none (.t 59)),
 .r 61 (.bin .add false (.t 56) (.t 60)),
 .r 62 (.ixL 1 (.t 53) (.t 54)),
 .rn (.st 1 (.t 62) (.t 61))])
 .skip)))))
 (.reg 19 none [2,3,4,11,43,44] [
 .r 63 (.bin .add false (.t 44) (.k (.v (.int .i64 1)))),
 .r 44 (.mv (.t 63))])))))))
 (.seq
 (.reg 20 none [6,7] [
 .r 64 (.mv (.t 11)),
 .r 6 (.mv (.t 64)),
 .r 7 (.mv (.k (.v (.int .i64 0))))])
 .ret)))))))
def ks_ref28_Publish:List (Nat×List Nat):=kssOf ir_ref28_Publish
theorem fn_ref28_Publish:FnIR Tryd.prog F_ref28_Publish 65 ks_ref28_Publish ir_ref28_Publish [(.tmp 6),(.tmp 7)]:=
 ⟨Tryd.f48,_,Tryd.func48,rfl,by kernel_rfl,rfl,by kernel_rfl,by kernel_rfl⟩
def ir_cells_Members:RC:=
 (.seq
 (.reg 0 none [2,3,4] [
 .r 3 (.box (.t 0)),
 .r 4 (.box (.t 1)),
 .r 6 (.mv (.k (.v (.slice none 0 0)))),
 .r 7 (.mv (.k (.v (.int .i64 0))))])
 (.seq
 (.seq
 (.reg 1 none [2,3,4,8] [
 .r 12 (.ld (some 1) (.t 3)),
 .r 13 (.ld (some 1) (.t 4)),
 .r 14 (.call (.k (.clo F_cells_View [])) [.t 12,.t 13]),
 .r 8 (.mv (.t 14))])
 (.seq
 (.reg 2 none [2,3,4,8,16] [
 .r 15 (.mv (.t 8)),
 .r 16 (.bin .neq false (.t 15) (.k (.v (.int .i64 0))))])
 (.cond (.t 16)
 (.seq
 (.reg 3 none [6,7] [
 .r 17 (.mv (.t 8)),
 .r 6 (.mv (.k (.v (.slice none 0 0)))),
 .r 7 (.mv (.t 17))])
 .ret)
 .skip)))
 (.seq
 (.seq
 (.reg 4 none [2,3,4,26] [
 .r 18 (.mv (.t 2)),
 .r 19 (.bin .lss false (.t 18) (.k (.v (.int .i64 0)))),
 .r 20 (.mv (.t 19)),
 .rf 21 20 (.mv (.t 2)),
 .rf 22 20 (.ld (some 1) (.t 4)),
 .rf 23 20 (.call (.k (.clo F_cells_sizes [])) [.t 22]),
 .rf 24 20 (.call (.k (.clo F_cells_product [])) [.t 23]),
 .rf 25 20 (.bin .geq false (.t 21) (.t 24)),
 .r 26 (.pick (.t 20) (.k (.v (.bool true))) (.t 25))])
 (.cond (.t 26)
 (.seq
 (.reg 5 none [6,7] [
 .r 6 (.mv (.k (.v (.slice none 0 0)))),
 .r 7 (.mv (.k (.v (.int .i64 2))))])
 .ret)
 .skip))
 (.seq
 (.reg 6 none [2,3,4,9] [
 .r 9 (.mv (.k (.v (.slice none 0 0))))])
 (.seq
 (.seq
 (.reg 7 none [2,9,29,30,31] [
 .r 27 (.ld (some 1) (.t 3)),
 .r 28 (.ld (some 1) (.t 4)),
 .r 29 (.call (.k (.clo F_cells_published [])) [.t 27,.t 28]),
 .r 30 (.lenL (.t 29)),
 .r 31 (.mv (.k (.v (.int .i64 0))))])
 (.block 0
 (.loop
 (.seq
 (.reg 8 none [2,9,29,30,31,32] [
 .r 32 (.bin .lss false (.t 31) (.t 30))])
 (.seq
 (.cond (.t 32)
 .skip
 (.exit 0))
 (.seq
 (.block 1
 (.seq
 (.reg 9 none [2,9,10,11,29,30,31] [
 .r 33 (.mv (.t 31)),
 .r 34 (.ixL 1 (.t 29) (.t 31)),
 .r 35 (.ld none (.t 34)),
 .r 10 (.mv (.t 33)),
 .r 11 (.mv (.t 35))])
 (.seq
 (.reg 10 none [2,9,10,29,30,31,38] [
 .r 36 (.mv (.t 11)),
 .r 37 (.mv (.t 2)),
 .r 38 (.bin .eql false (.t 36) (.t 37))])
 (.cond (.t 38)
 (.reg 11 none [2,9,29,30,31] [
 .r 39 (.mv (.t 9)),
 .r 40 (.mv (.t 10)),
 .r 41 (.bsl 1 1 [.t 40]),
 .r 42 (.app 1 8 false (.t 39) (.t 41)),
 .r 9 (.mv (.t 42))])
 .skip))))
 (.reg 12 none [2,9,29,30,31] [
 .r 43 (.bin .add false (.t 31) (.k (.v (.int .i64 1)))),
 .r 31 (.mv (.t 43))])))))))
 (.seq
 (.reg 13 none [6,7] [
 .r 44 (.mv (.t 9)),
 .r 6 (.mv (.t 44)),
 .r 7 (.mv (.k (.v (.int .i64 0))))])
 .ret))))))
def ks_cells_Members:List (Nat×List Nat):=kssOf ir_cells_Members
theorem fn_cells_Members:FnIR Tryd.prog F_cells_Members 45 ks_cells_Members ir_cells_Members [(.tmp 6),(.tmp 7)]:=
 ⟨Tryd.f49,_,Tryd.func49,rfl,by kernel_rfl,rfl,by kernel_rfl,by kernel_rfl⟩
def ir_ref28_View:RC:=
 (.seq
 (.reg 0 none [2,3] [
 .r 2 (.box (.t 0)),
 .r 3 (.box (.t 1)),
 .r 4 (.mv (.k (.v (.int .i64 0))))])
 (.seq
 (.seq
 (.reg 1 none [2,3,5] [
 .r 11 (.ld (some 1) (.t 2)),
 .r 12 (.call (.k (.clo F_ref28_Check [])) [.t 11]),
 .r 5 (.mv (.t 12))])
 (.seq
 (.reg 2 none [2,3,5,14] [
 .r 13 (.mv (.t 5)),
 .r 14 (.bin .neq false (.t 13) (.k (.v (.int .i64 0))))])
 (.cond (.t 14)
 (.seq
 (.reg 3 none [4] [
 .r 15 (.mv (.t 5)),
 .r 4 (.mv (.t 15))])
 .ret)
 .skip)))
 (.seq
 (.seq
 (.reg 4 none [2,3,22] [
 .r 16 (.fa 0 (.t 3)),
 .r 17 (.ld none (.t 16)),
 .r 18 (.lenL (.t 17)),
 .r 19 (.fa 0 (.t 2)),
 .r 20 (.ld none (.t 19)),
 .r 21 (.lenL (.t 20)),
 .r 22 (.bin .neq false (.t 18) (.t 21))])
 (.cond (.t 22)
 (.seq
 (.reg 5 none [4] [
 .r 4 (.mv (.k (.v (.int .i64 55))))])
 .ret)
 .skip))
 (.seq
 (.seq
 (.reg 6 none [2,24,25,26] [
 .r 23 (.fa 0 (.t 3)),
 .r 24 (.ld none (.t 23)),
 .r 25 (.lenL (.t 24)),
 .r 26 (.mv (.k (.v (.int .i64 0))))])
 (.block 0
 (.loop
 (.seq
 (.reg 7 none [2,24,25,26,27] [
 .r 27 (.bin .lss false (.t 26) (.t 25))])
 (.seq
 (.cond (.t 27)
 .skip
 (.exit 0))
 (.seq
 (.block 1
 (.seq
 (.reg 8 none [2,6,7,24,25,26] [
 .r 28 (.mv (.t 26)),
 .r 29 (.ixL 1 (.t 24) (.t 26)),
 .r 30 (.ld none (.t 29)),
 .r 6 (.mv (.t 28)),
 .r 7 (.mv (.t 30))])
 (.seq
 (.seq
 (.reg 9 none [2,7,24,25,26,38] [
 .r 31 (.mv (.t 7)),
 .r 32 (.lenL (.t 31)),
 .r 33 (.fa 0 (.t 2)),
 .r 34 (.ld none (.t 33)),
 .r 35 (.mv (.t 6)),
 .r 36 (.ixL 1 (.t 34) (.t 35)),
 .r 37 (.ld none (.t 36)),
 .r 38 (.bin .neq false (.t 32) (.t 37))])
 (.cond (.t 38)
 (.seq
 (.reg 10 none [4] [
 .r 4 (.mv (.k (.v (.int .i64 55))))])
 .ret)
 .skip))
 (.seq
 (.reg 11 none [2,7,8,24,25,26] [
 .r 8 (.mv (.k (.v (.int .i64 0))))])
 (.seq
 (.seq
 (.reg 12 none [2,8,24,25,26,39,40,41] [
 .r 39 (.mv (.t 7)),
 .r 40 (.lenL (.t 39)),
 .r 41 (.mv (.k (.v (.int .i64 0))))])
 (.block 2
 (.loop
 (.seq
 (.reg 13 none [2,8,24,25,26,39,40,41,42] [
 .r 42 (.bin .lss false (.t 41) (.t 40))])
 (.seq
 (.cond (.t 42)
 .skip
 (.exit 2))
 (.seq
 (.block 3
 (.seq
 (.reg 14 none [2,8,10,24,25,26,39,40,41] [
 .r 43 (.ixL 1 (.t 39) (.t 41)),
 .r 44 (.ld none (.t 43)),
 .r 10 (.mv (.t 44))])
 (.seq
 (.seq
 (.reg 15 none [2,8,10,24,25,26,39,40,41,51] [
 .r 45 (.mv (.t 10)),
 .r 46 (.bin .lss false (.t 45) (.k (.v (.int .i64 (-1))))),
 .r 47 (.mv (.t 46)),
 .rf 48 47 (.mv (.t 10)),
 .rf 49 47 (.mv (.t 8)),
 .rf 50 47 (.bin .gtr false (.t 48) (.t 49)),
 .r 51 (.pick (.t 47) (.k (.v (.bool true))) (.t 50))])
 (.cond (.t 51)
 (.seq
 (.reg 16 none [4] [
 .r 4 (.mv (.k (.v (.int .i64 55))))])
 .ret)
 .skip))
 (.seq
 (.reg 17 none [2,8,24,25,26,39,40,41,54] [
 .r 52 (.mv (.t 10)),
 .r 53 (.mv (.t 8)),
 .r 54 (.bin .eql false (.t 52) (.t 53))])
 (.cond (.t 54)
 (.reg 18 none [2,8,24,25,26,39,40,41] [
 .r 55 (.mv (.t 8)),
 .r 56 (.bin .add false (.t 55) (.k (.v (.int .i64 1)))),
 .r 8 (.mv (.t 56))])
 .skip)))))
 (.reg 19 none [2,8,24,25,26,39,40,41] [
 .r 57 (.bin .add false (.t 41) (.k (.v (.int .i64 1)))),
 .r 41 (.mv (.t 57))])))))))
 (.seq
 (.reg 20 none [2,24,25,26,59] [
 .r 58 (.mv (.t 8)),
 .r 59 (.bin .eql false (.t 58) (.k (.v (.int .i64 0))))])
 (.cond (.t 59)
 (.seq
 (.reg 21 none [4] [
 .r 4 (.mv (.k (.v (.int .i64 55))))])
 .ret)
 .skip)))))))
 (.reg 22 none [2,24,25,26] [
 .r 60 (.bin .add false (.t 26) (.k (.v (.int .i64 1)))),
 .r 26 (.mv (.t 60))])))))))
 (.seq
 (.reg 23 none [4] [
 .r 4 (.mv (.k (.v (.int .i64 0))))])
 .ret)))))
def ks_ref28_View:List (Nat×List Nat):=kssOf ir_ref28_View
theorem fn_ref28_View:FnIR Tryd.prog F_ref28_View 61 ks_ref28_View ir_ref28_View [(.tmp 4)]:=
 ⟨Tryd.f50,_,Tryd.func50,rfl,by kernel_rfl,rfl,by kernel_rfl,by kernel_rfl⟩
def ir_ref28_Published:RC:=
 (.seq
 (.reg 0 none [2,3] [
 .r 2 (.box (.t 0)),
 .r 3 (.box (.t 1)),
 .r 4 (.mv (.k (.v (.int .i64 0))))])
 (.seq
 (.seq
 (.reg 1 none [3,11] [
 .r 8 (.ld (some 1) (.t 2)),
 .r 9 (.ld (some 1) (.t 3)),
 .r 10 (.call (.k (.clo F_ref28_View [])) [.t 8,.t 9]),
 .r 11 (.bin .neq false (.t 10) (.k (.v (.int .i64 0))))])
 (.cond (.t 11)
 (.seq
 (.reg 2 none [4] [
 .r 4 (.mv (.k (.v (.int .i64 0))))])
 .ret)
 .skip))
 (.seq
 (.reg 3 none [3,5] [
 .r 5 (.mv (.k (.v (.int .i64 1))))])
 (.seq
 (.seq
 (.reg 4 none [5,13,14,15] [
 .r 12 (.fa 0 (.t 3)),
 .r 13 (.ld none (.t 12)),
 .r 14 (.lenL (.t 13)),
 .r 15 (.mv (.k (.v (.int .i64 0))))])
 (.block 0
 (.loop
 (.seq
 (.reg 5 none [5,13,14,15,16] [
 .r 16 (.bin .lss false (.t 15) (.t 14))])
 (.seq
 (.cond (.t 16)
 .skip
 (.exit 0))
 (.seq
 (.block 1
 (.seq
 (.reg 6 none [5,7,13,14,15] [
 .r 17 (.ixL 1 (.t 13) (.t 15)),
 .r 18 (.ld none (.t 17)),
 .r 7 (.mv (.t 18))])
 (.reg 7 none [5,13,14,15] [
 .r 19 (.mv (.t 5)),
 .r 20 (.mv (.t 7)),
 .r 21 (.call (.k (.clo F_ref28_Groups [])) [.t 20]),
 .r 22 (.bin .mul false (.t 19) (.t 21)),
 .r 5 (.mv (.t 22))])))
 (.reg 8 none [5,13,14,15] [
 .r 23 (.bin .add false (.t 15) (.k (.v (.int .i64 1)))),
 .r 15 (.mv (.t 23))])))))))
 (.seq
 (.reg 9 none [4] [
 .r 24 (.mv (.t 5)),
 .r 4 (.mv (.t 24))])
 .ret)))))
def ks_ref28_Published:List (Nat×List Nat):=kssOf ir_ref28_Published
theorem fn_ref28_Published:FnIR Tryd.prog F_ref28_Published 25 ks_ref28_Published ir_ref28_Published [(.tmp 4)]:=
 ⟨Tryd.f51,_,Tryd.func51,rfl,by kernel_rfl,rfl,by kernel_rfl,by kernel_rfl⟩
def ir_ref28_Of:RC:=
 (.seq
 (.reg 0 none [2,3,4] [
 .r 3 (.box (.t 0)),
 .r 4 (.box (.t 1)),
 .r 6 (.mv (.k (.v (.int .i64 0))))])
 (.seq
 (.reg 1 none [4,7] [
 .r 14 (.ld (some 1) (.t 3)),
 .r 15 (.mv (.t 2)),
 .r 16 (.call (.k (.clo F_ref28_At [])) [.t 14,.t 15]),
 .r 13 (.mv (.t 16)),
 .r 17 (.ex (.t 13) 0),
 .r 18 (.ex (.t 13) 1),
 .r 7 (.mv (.t 17)),
 .r 8 (.mv (.t 18))])
 (.seq
 (.reg 2 none [4,7,9] [
 .r 9 (.mv (.k (.v (.int .i64 0))))])
 (.seq
 (.seq
 (.reg 3 none [4,9,19,20,21] [
 .r 19 (.mv (.t 7)),
 .r 20 (.lenL (.t 19)),
 .r 21 (.mv (.k (.v (.int .i64 0))))])
 (.block 0
 (.loop
 (.seq
 (.reg 4 none [4,9,19,20,21,22] [
 .r 22 (.bin .lss false (.t 21) (.t 20))])
 (.seq
 (.cond (.t 22)
 .skip
 (.exit 0))
 (.seq
 (.block 1
 (.seq
 (.reg 5 none [4,9,10,11,19,20,21] [
 .r 23 (.mv (.t 21)),
 .r 24 (.ixL 1 (.t 19) (.t 21)),
 .r 25 (.ld none (.t 24)),
 .r 10 (.mv (.t 23)),
 .r 11 (.mv (.t 25))])
 (.seq
 (.reg 6 none [4,9,10,12,19,20,21] [
 .r 26 (.fa 0 (.t 4)),
 .r 27 (.ld none (.t 26)),
 .r 28 (.mv (.t 10)),
 .r 29 (.ixL 1 (.t 27) (.t 28)),
 .r 30 (.ld none (.t 29)),
 .r 31 (.mv (.t 11)),
 .r 32 (.ixL 1 (.t 30) (.t 31)),
 .r 33 (.ld none (.t 32)),
 .r 12 (.mv (.t 33))])
 (.seq
 (.seq
 (.reg 7 none [4,9,10,12,19,20,21,35] [
 .r 34 (.mv (.t 12)),
 .r 35 (.bin .lss false (.t 34) (.k (.v (.int .i64 0))))])
 (.cond (.t 35)
 (.seq
 (.reg 8 none [6] [
 .r 6 (.mv (.k (.v (.int .i64 (-1)))))])
 .ret)
 .skip))
 (.reg 9 none [4,9,19,20,21] [
 .r 36 (.mv (.t 9)),
 .r 37 (.fa 0 (.t 4)),
 .r 38 (.ld none (.t 37)),
 .r 39 (.mv (.t 10)),
 .r 40 (.ixL 1 (.t 38) (.t 39)),
 .r 41 (.ld none (.t 40)),
 .r 42 (.call (.k (.clo F_ref28_Groups [])) [.t 41]),
 .r 43 (.bin .mul false (.t 36) (.t 42)),
 .r 44 (.mv (.t 12)),
 .r 45 (.bin .add false (.t 43) (.t 44)),
 .r 9 (.mv (.t 45))])))))
 (.reg 10 none [4,9,19,20,21] [
 .r 46 (.bin .add false (.t 21) (.k (.v (.int .i64 1)))),
 .r 21 (.mv (.t 46))])))))))
 (.seq
 (.reg 11 none [6] [
 .r 47 (.mv (.t 9)),
 .r 6 (.mv (.t 47))])
 .ret)))))
def ks_ref28_Of:List (Nat×List Nat):=kssOf ir_ref28_Of
theorem fn_ref28_Of:FnIR Tryd.prog F_ref28_Of 48 ks_ref28_Of ir_ref28_Of [(.tmp 6)]:=
 ⟨Tryd.f52,_,Tryd.func52,rfl,by kernel_rfl,rfl,by kernel_rfl,by kernel_rfl⟩
def ir_cells_View:RC:=
 (.seq
 (.reg 0 none [2,3] [
 .r 2 (.box (.t 0)),
 .r 3 (.box (.t 1)),
 .r 4 (.mv (.k (.v (.int .i64 0))))])
 (.seq
 (.seq
 (.reg 1 none [2,3,5] [
 .r 8 (.ld (some 1) (.t 2)),
 .r 9 (.call (.k (.clo F_cells_Check [])) [.t 8]),
 .r 5 (.mv (.t 9))])
 (.seq
 (.reg 2 none [2,3,5,11] [
 .r 10 (.mv (.t 5)),
 .r 11 (.bin .neq false (.t 10) (.k (.v (.int .i64 0))))])
 (.cond (.t 11)
 (.seq
 (.reg 3 none [4] [
 .r 12 (.mv (.t 5)),
 .r 4 (.mv (.t 12))])
 .ret)
 .skip)))
 (.seq
 (.seq
 (.reg 4 none [2,3,19] [
 .r 13 (.fa 0 (.t 3)),
 .r 14 (.ld none (.t 13)),
 .r 15 (.lenL (.t 14)),
 .r 16 (.fa 0 (.t 2)),
 .r 17 (.ld none (.t 16)),
 .r 18 (.lenL (.t 17)),
 .r 19 (.bin .neq false (.t 15) (.t 18))])
 (.cond (.t 19)
 (.seq
 (.reg 5 none [4] [
 .r 4 (.mv (.k (.v (.int .i64 55))))])
 .ret)
 .skip))
 (.seq
 (.seq
 (.reg 6 none [2,21,22,23] [
 .r 20 (.fa 0 (.t 3)),
 .r 21 (.ld none (.t 20)),
 .r 22 (.lenL (.t 21)),
 .r 23 (.mv (.k (.v (.int .i64 0))))])
 (.block 0
 (.loop
 (.seq
 (.reg 7 none [2,21,22,23,24] [
 .r 24 (.bin .lss false (.t 23) (.t 22))])
 (.seq
 (.cond (.t 24)
 .skip
 (.exit 0))
 (.seq
 (.block 1
 (.seq
 (.reg 8 none [2,6,7,21,22,23] [
 .r 25 (.mv (.t 23)),
 .r 26 (.ixL 1 (.t 21) (.t 23)),
 .r 27 (.ld none (.t 26)),
 .r 6 (.mv (.t 25)),
 .r 7 (.mv (.t 27))])
 (.seq
 (.reg 9 none [2,21,22,23,40] [
 .r 28 (.mv (.t 7)),
 .r 29 (.lenL (.t 28)),
 .r 30 (.fa 0 (.t 2)),
 .r 31 (.ld none (.t 30)),
 .r 32 (.mv (.t 6)),
 .r 33 (.ixL 1 (.t 31) (.t 32)),
 .r 34 (.ld none (.t 33)),
 .r 35 (.bin .neq false (.t 29) (.t 34)),
 .r 36 (.mv (.t 35)),
 .rf 37 36 (.mv (.t 7)),
 .rf 38 36 (.call (.k (.clo F_cells_numbered [])) [.t 37]),
 .rf 39 36 (.un .not (.t 38)),
 .r 40 (.pick (.t 36) (.k (.v (.bool true))) (.t 39))])
 (.cond (.t 40)
 (.seq
 (.reg 10 none [4] [
 .r 4 (.mv (.k (.v (.int .i64 55))))])
 .ret)
 .skip))))
 (.reg 11 none [2,21,22,23] [
 .r 41 (.bin .add false (.t 23) (.k (.v (.int .i64 1)))),
 .r 23 (.mv (.t 41))])))))))
 (.seq
 (.reg 12 none [4] [
 .r 4 (.mv (.k (.v (.int .i64 0))))])
 .ret)))))
def ks_cells_View:List (Nat×List Nat):=kssOf ir_cells_View
theorem fn_cells_View:FnIR Tryd.prog F_cells_View 42 ks_cells_View ir_cells_View [(.tmp 4)]:=
 ⟨Tryd.f53,_,Tryd.func53,rfl,by kernel_rfl,rfl,by kernel_rfl,by kernel_rfl⟩
def ir_cells_Published:RC:=
 (.seq
 (.reg 0 none [2,3] [
 .r 2 (.box (.t 0)),
 .r 3 (.box (.t 1)),
 .r 4 (.mv (.k (.v (.int .i64 0))))])
 (.seq
 (.seq
 (.reg 1 none [3,8] [
 .r 5 (.ld (some 1) (.t 2)),
 .r 6 (.ld (some 1) (.t 3)),
 .r 7 (.call (.k (.clo F_cells_View [])) [.t 5,.t 6]),
 .r 8 (.bin .neq false (.t 7) (.k (.v (.int .i64 0))))])
 (.cond (.t 8)
 (.seq
 (.reg 2 none [4] [
 .r 4 (.mv (.k (.v (.int .i64 0))))])
 .ret)
 .skip))
 (.seq
 (.reg 3 none [4] [
 .r 9 (.ld (some 1) (.t 3)),
 .r 10 (.call (.k (.clo F_cells_sizes [])) [.t 9]),
 .r 11 (.call (.k (.clo F_cells_product [])) [.t 10]),
 .r 4 (.mv (.t 11))])
 .ret)))
def ks_cells_Published:List (Nat×List Nat):=kssOf ir_cells_Published
theorem fn_cells_Published:FnIR Tryd.prog F_cells_Published 12 ks_cells_Published ir_cells_Published [(.tmp 4)]:=
 ⟨Tryd.f54,_,Tryd.func54,rfl,by kernel_rfl,rfl,by kernel_rfl,by kernel_rfl⟩
def ir_equations_check_1:RC:=
 (.seq
 (.reg 0 none [0] [
 .r 2 (.mv (.k (.v (.bool false))))])
 (.seq
 (.reg 1 none [2] [
 .r 3 (.mv (.t 0)),
 .r 4 (.bin .neq false (.t 3) (.k (.v (.int .i64 (-1))))),
 .r 5 (.mv (.t 4)),
 .rt 6 5 (.mv (.t 0)),
 .rt 7 5 (.call (.k (.clo F_equations_value [])) [.t 6]),
 .rt 8 5 (.un .not (.t 7)),
 .r 9 (.pick (.t 5) (.t 8) (.k (.v (.bool false)))),
 .r 2 (.mv (.t 9))])
 .ret))
def ks_equations_check_1:List (Nat×List Nat):=kssOf ir_equations_check_1
theorem fn_equations_check_1:FnIR Tryd.prog F_equations_check_1 10 ks_equations_check_1 ir_equations_check_1 [(.tmp 2)]:=
 ⟨Tryd.f55,_,Tryd.func55,rfl,by kernel_rfl,rfl,by kernel_rfl,by kernel_rfl⟩
def ir_strconv_AppendInt:RC:=
 (.seq
 (.reg 0 none [0,1,2] [
 .r 6 (.mv (.k (.v (.slice none 0 0))))])
 (.seq
 (.reg 1 none [6] [
 .r 7 (.mv (.t 0)),
 .r 8 (.mv (.t 1)),
 .r 9 (.mv (.t 2)),
 .r 10 (.call (.k (.clo F_internal_strconv_AppendInt [])) [.t 7,.t 8,.t 9]),
 .r 6 (.mv (.t 10))])
 .ret))
def ks_strconv_AppendInt:List (Nat×List Nat):=kssOf ir_strconv_AppendInt
theorem fn_strconv_AppendInt:FnIR Tryd.prog F_strconv_AppendInt 11 ks_strconv_AppendInt ir_strconv_AppendInt [(.tmp 6)]:=
 ⟨Tryd.f56,_,Tryd.func56,rfl,by kernel_rfl,rfl,by kernel_rfl,by kernel_rfl⟩
def ir_slices_IndexFunc_Equation:RC:=
 (.seq
 (.reg 0 none [0,1] [
 .r 4 (.mv (.k (.v (.int .i64 0))))])
 (.seq
 (.seq
 (.reg 1 none [0,1,7,8] [
 .r 6 (.mv (.t 0)),
 .r 7 (.lenL (.t 6)),
 .r 8 (.mv (.k (.v (.int .i64 0))))])
 (.block 0
 (.loop
 (.seq
 (.reg 2 none [0,1,7,8,9] [
 .r 9 (.bin .lss false (.t 8) (.t 7))])
 (.seq
 (.cond (.t 9)
 .skip
 (.exit 0))
 (.seq
 (.block 1
 (.seq
 (.reg 3 none [0,1,5,7,8] [
 .r 10 (.mv (.t 8)),
 .r 5 (.mv (.t 10))])
 (.seq
 (.reg 4 none [0,1,5,7,8,16] [
 .r 11 (.mv (.t 1)),
 .r 12 (.mv (.t 0)),
 .r 13 (.mv (.t 5)),
 .r 14 (.ixL 2 (.t 12) (.t 13)),
 .r 15 (.ld (some 2) (.t 14)),
 .r 16 (.call (.t 11) [.t 15])])
 (.cond (.t 16)
 (.seq
 (.reg 5 none [4] [
 .r 17 (.mv (.t 5)),
 .r 4 (.mv (.t 17))])
 .ret)
 .skip))))
 (.reg 6 none [0,1,7,8] [
 .r 18 (.bin .add false (.t 8) (.k (.v (.int .i64 1)))),
 .r 8 (.mv (.t 18))])))))))
 (.seq
 (.reg 7 none [4] [
 .r 4 (.mv (.k (.v (.int .i64 (-1)))))])
 .ret)))
def ks_slices_IndexFunc_Equation:List (Nat×List Nat):=kssOf ir_slices_IndexFunc_Equation
theorem fn_slices_IndexFunc_Equation:FnIR Tryd.prog F_slices_IndexFunc_Equation 19 ks_slices_IndexFunc_Equation ir_slices_IndexFunc_Equation [(.tmp 4)]:=
 ⟨Tryd.f57,_,Tryd.func57,rfl,by kernel_rfl,rfl,by kernel_rfl,by kernel_rfl⟩
def ir_slices_pdqsortOrdered_int:RC:=
 (.seq
 (.reg 0 none [0,1,2,3,8] [
 .r 8 (.mv (.k (.v (.bool true))))])
 (.seq
 (.reg 1 none [0,1,2,3,8,9] [
 .r 9 (.mv (.k (.v (.bool true))))])
 (.block 0
 (.loop
 (.block 1
 (.seq
 (.reg 2 none [0,1,2,3,8,9,10] [
 .r 19 (.mv (.t 2)),
 .r 20 (.mv (.t 1)),
 .r 21 (.bin .sub false (.t 19) (.t 20)),
 .r 10 (.mv (.t 21))])
 (.seq
 (.seq
 (.reg 3 none [0,1,2,3,8,9,10,23] [
 .r 22 (.mv (.t 10)),
 .r 23 (.bin .leq false (.t 22) (.k (.v (.int .i64 12))))])
 (.cond (.t 23)
 (.seq
 (.reg 4 none [] [
 .r 24 (.mv (.t 0)),
 .r 25 (.mv (.t 1)),
 .r 26 (.mv (.t 2)),
 .r 27 (.call (.k (.clo F_slices_insertionSortOrdered_int [])) [.t 24,.t 25,.t 26])])
 .ret)
 .skip))
 (.seq
 (.seq
 (.reg 5 none [0,1,2,3,8,9,10,29] [
 .r 28 (.mv (.t 3)),
 .r 29 (.bin .eql false (.t 28) (.k (.v (.int .i64 0))))])
 (.cond (.t 29)
 (.seq
 (.reg 6 none [] [
 .r 30 (.mv (.t 0)),
 .r 31 (.mv (.t 1)),
 .r 32 (.mv (.t 2)),
 .r 33 (.call (.k (.clo F_slices_heapSortOrdered_int [])) [.t 30,.t 31,.t 32])])
 .ret)
 .skip))
 (.seq
 (.seq
 (.reg 7 none [0,1,2,3,8,9,10,35] [
 .r 34 (.mv (.t 8)),
 .r 35 (.un .not (.t 34))])
 (.cond (.t 35)
 (.seq
 (.reg 8 none [0,1,2,3,8,9,10] [
 .r 36 (.mv (.t 0)),
 .r 37 (.mv (.t 1)),
 .r 38 (.mv (.t 2)),
 .r 39 (.call (.k (.clo F_slices_breakPatternsOrdered_int [])) [.t 36,.t 37,.t 38])])
 (.reg 9 none [0,1,2,3,8,9,10] [
 .r 40 (.mv (.t 3)),
 .r 41 (.bin .sub false (.t 40) (.k (.v (.int .i64 1)))),
 .r 3 (.mv (.t 41))]))
 .skip))
 (.seq
 (.reg 10 none [0,1,2,3,8,9,10,11,12] [
 .r 43 (.mv (.t 0)),
 .r 44 (.mv (.t 1)),
 .r 45 (.mv (.t 2)),
 .r 46 (.call (.k (.clo F_slices_choosePivotOrdered_int [])) [.t 43,.t 44,.t 45]),
 .r 42 (.mv (.t 46)),
 .r 47 (.ex (.t 42) 0),
 .r 48 (.ex (.t 42) 1),
 .r 11 (.mv (.t 47)),
 .r 12 (.mv (.t 48))])
 (.seq
 (.seq
 (.reg 11 none [0,1,2,3,8,9,10,11,12,50] [
 .r 49 (.mv (.t 12)),
 .r 50 (.bin .eql false (.t 49) (.k (.v (.int .i64 2))))])
 (.cond (.t 50)
 (.seq
 (.reg 12 none [0,1,2,3,8,9,10,11] [
 .r 51 (.mv (.t 0)),
 .r 52 (.mv (.t 1)),
 .r 53 (.mv (.t 2)),
 .r 54 (.call (.k (.clo F_slices_reverseRangeOrdered_int [])) [.t 51,.t 52,.t 53])])
 (.seq
 (.reg 13 none [0,1,2,3,8,9,10,11] [
 .r 55 (.mv (.t 2)),
 .r 56 (.bin .sub false (.t 55) (.k (.v (.int .i64 1)))),
 .r 57 (.mv (.t 11)),
 .r 58 (.mv (.t 1)),
 .r 59 (.bin .sub false (.t 57) (.t 58)),
 .r 60 (.bin .sub false (.t 56) (.t 59)),
 .r 11 (.mv (.t 60))])
 (.reg 14 none [0,1,2,3,8,9,10,11,12] [
 .r 12 (.mv (.k (.v (.int .i64 1))))])))
 .skip))
 (.seq
 (.seq
 (.reg 15 none [0,1,2,3,8,9,10,11,68] [
 .r 61 (.mv (.t 8)),
 .r 62 (.mv (.t 61)),
 .rt 63 62 (.mv (.t 9)),
 .r 64 (.pick (.t 62) (.t 63) (.k (.v (.bool false)))),
 .r 65 (.mv (.t 64)),
 .rt 66 65 (.mv (.t 12)),
 .rt 67 65 (.bin .eql false (.t 66) (.k (.v (.int .i64 1)))),
 .r 68 (.pick (.t 65) (.t 67) (.k (.v (.bool false))))])
 (.cond (.t 68)
 (.seq
 (.reg 16 none [0,1,2,3,8,9,10,11,72] [
 .r 69 (.mv (.t 0)),
 .r 70 (.mv (.t 1)),
 .r 71 (.mv (.t 2)),
 .r 72 (.call (.k (.clo F_slices_partialInsertionSortOrdered_int [])) [.t 69,.t 70,.t 71])])
 (.cond (.t 72)
 .ret
 .skip))
 .skip))
 (.seq
 (.seq
 (.reg 17 (some [0,1,3,7,7,23,63,127,7,7,775,1799,4095,8191,16383]) [0,1,2,3,8,9,10,11,87] [
 .r 73 (.mv (.t 1)),
 .r 74 (.bin .gtr false (.t 73) (.k (.v (.int .i64 0)))),
 .r 75 (.mv (.t 74)),
 .rt 76 75 (.mv (.t 0)),
 .rt 77 75 (.mv (.t 1)),
 .rt 78 75 (.bin .sub false (.t 77) (.k (.v (.int .i64 1)))),
 .rt 79 75 (.ixL 1 (.t 76) (.t 78)),
 .rt 80 75 (.ld none (.t 79)),
 .rt 81 75 (.mv (.t 0)),
 .rt 82 75 (.mv (.t 11)),
 .rt 83 75 (.ixL 1 (.t 81) (.t 82)),
 .rt 84 75 (.ld none (.t 83)),
 .rt 85 75 (.call (.k (.clo F_cmp_Less_int [])) [.t 80,.t 84]),
 .rt 86 75 (.un .not (.t 85)),
 .r 87 (.pick (.t 75) (.t 86) (.k (.v (.bool false))))])
 (.cond (.t 87)
 (.seq
 (.reg 18 none [0,2,3,8,9,13] [
 .r 88 (.mv (.t 0)),
 .r 89 (.mv (.t 1)),
 .r 90 (.mv (.t 2)),
 .r 91 (.mv (.t 11)),
 .r 92 (.call (.k (.clo F_slices_partitionEqualOrdered_int [])) [.t 88,.t 89,.t 90,.t 91]),
 .r 13 (.mv (.t 92))])
 (.seq
 (.reg 19 none [0,1,2,3,8,9] [
 .r 93 (.mv (.t 13)),
 .r 1 (.mv (.t 93))])
 (.exit 1)))
 .skip))
 (.seq
 (.reg 20 none [0,1,2,3,10,14,15] [
 .r 95 (.mv (.t 0)),
 .r 96 (.mv (.t 1)),
 .r 97 (.mv (.t 2)),
 .r 98 (.mv (.t 11)),
 .r 99 (.call (.k (.clo F_slices_partitionOrdered_int [])) [.t 95,.t 96,.t 97,.t 98]),
 .r 94 (.mv (.t 99)),
 .r 100 (.ex (.t 94) 0),
 .r 101 (.ex (.t 94) 1),
 .r 14 (.mv (.t 100)),
 .r 15 (.mv (.t 101))])
 (.seq
 (.reg 21 none [0,1,2,3,9,10,14] [
 .r 102 (.mv (.t 15)),
 .r 9 (.mv (.t 102))])
 (.seq
 (.reg 22 none [0,1,2,3,9,10,14,16,17] [
 .r 103 (.mv (.t 14)),
 .r 104 (.mv (.t 1)),
 .r 105 (.bin .sub false (.t 103) (.t 104)),
 .r 106 (.mv (.t 2)),
 .r 107 (.mv (.t 14)),
 .r 108 (.bin .sub false (.t 106) (.t 107)),
 .r 16 (.mv (.t 105)),
 .r 17 (.mv (.t 108))])
 (.seq
 (.reg 23 none [0,1,2,3,9,14,16,17,18] [
 .r 109 (.mv (.t 10)),
 .r 110 (.bin .quo false (.t 109) (.k (.v (.int .i64 8)))),
 .r 18 (.mv (.t 110))])
 (.seq
 (.reg 24 none [0,1,2,3,9,14,16,17,18,113] [
 .r 111 (.mv (.t 16)),
 .r 112 (.mv (.t 17)),
 .r 113 (.bin .lss false (.t 111) (.t 112))])
 (.cond (.t 113)
 (.seq
 (.reg 25 none [0,1,2,3,8,9,14] [
 .r 114 (.mv (.t 16)),
 .r 115 (.mv (.t 18)),
 .r 116 (.bin .geq false (.t 114) (.t 115)),
 .r 8 (.mv (.t 116))])
 (.seq
 (.reg 26 none [0,2,3,8,9,14] [
 .r 117 (.mv (.t 0)),
 .r 118 (.mv (.t 1)),
 .r 119 (.mv (.t 14)),
 .r 120 (.mv (.t 3)),
 .r 121 (.call (.k (.clo F_slices_pdqsortOrdered_int [])) [.t 117,.t 118,.t 119,.t 120])])
 (.reg 27 none [0,1,2,3,8,9] [
 .r 122 (.mv (.t 14)),
 .r 123 (.bin .add false (.t 122) (.k (.v (.int .i64 1)))),
 .r 1 (.mv (.t 123))])))
 (.seq
 (.reg 28 none [0,1,2,3,8,9,14] [
 .r 124 (.mv (.t 17)),
 .r 125 (.mv (.t 18)),
 .r 126 (.bin .geq false (.t 124) (.t 125)),
 .r 8 (.mv (.t 126))])
 (.seq
 (.reg 29 none [0,1,3,8,9,14] [
 .r 127 (.mv (.t 0)),
 .r 128 (.mv (.t 14)),
 .r 129 (.bin .add false (.t 128) (.k (.v (.int .i64 1)))),
 .r 130 (.mv (.t 2)),
 .r 131 (.mv (.t 3)),
 .r 132 (.call (.k (.clo F_slices_pdqsortOrdered_int [])) [.t 127,.t 129,.t 130,.t 131])])
 (.reg 30 none [0,1,2,3,8,9] [
 .r 133 (.mv (.t 14)),
 .r 2 (.mv (.t 133))]))))))))))))))))))))))
def ks_slices_pdqsortOrdered_int:List (Nat×List Nat):=kssOf ir_slices_pdqsortOrdered_int
theorem fn_slices_pdqsortOrdered_int:FnIR Tryd.prog F_slices_pdqsortOrdered_int 134 ks_slices_pdqsortOrdered_int ir_slices_pdqsortOrdered_int []:=
 ⟨Tryd.f58,_,Tryd.func58,rfl,by kernel_rfl,rfl,by kernel_rfl,by kernel_rfl⟩
def ir_math_bits_Len:RC:=
 (.seq
 (.reg 0 none [0] [
 .r 2 (.mv (.k (.v (.int .i64 0))))])
 (.seq
 (.cond (.k (.v (.bool false)))
 (.seq
 (.reg 1 none [2] [
 .r 3 (.mv (.t 0)),
 .r 4 (.cvI .u32 (.t 3)),
 .r 5 (.call (.k (.clo F_math_bits_Len32 [])) [.t 4]),
 .r 2 (.mv (.t 5))])
 .ret)
 .skip)
 (.seq
 (.reg 2 none [2] [
 .r 6 (.mv (.t 0)),
 .r 7 (.call (.k (.clo F_math_bits_Len64 [])) [.t 6]),
 .r 2 (.mv (.t 7))])
 .ret)))
def ks_math_bits_Len:List (Nat×List Nat):=kssOf ir_math_bits_Len
theorem fn_math_bits_Len:FnIR Tryd.prog F_math_bits_Len 8 ks_math_bits_Len ir_math_bits_Len [(.tmp 2)]:=
 ⟨Tryd.f59,_,Tryd.func59,rfl,by kernel_rfl,rfl,by kernel_rfl,by kernel_rfl⟩
def ir_slices_IndexFunc_int:RC:=
 (.seq
 (.reg 0 none [0,1] [
 .r 4 (.mv (.k (.v (.int .i64 0))))])
 (.seq
 (.seq
 (.reg 1 none [0,1,7,8] [
 .r 6 (.mv (.t 0)),
 .r 7 (.lenL (.t 6)),
 .r 8 (.mv (.k (.v (.int .i64 0))))])
 (.block 0
 (.loop
 (.seq
 (.reg 2 none [0,1,7,8,9] [
 .r 9 (.bin .lss false (.t 8) (.t 7))])
 (.seq
 (.cond (.t 9)
 .skip
 (.exit 0))
 (.seq
 (.block 1
 (.seq
 (.reg 3 none [0,1,5,7,8] [
 .r 10 (.mv (.t 8)),
 .r 5 (.mv (.t 10))])
 (.seq
 (.reg 4 none [0,1,5,7,8,16] [
 .r 11 (.mv (.t 1)),
 .r 12 (.mv (.t 0)),
 .r 13 (.mv (.t 5)),
 .r 14 (.ixL 1 (.t 12) (.t 13)),
 .r 15 (.ld none (.t 14)),
 .r 16 (.call (.t 11) [.t 15])])
 (.cond (.t 16)
 (.seq
 (.reg 5 none [4] [
 .r 17 (.mv (.t 5)),
 .r 4 (.mv (.t 17))])
 .ret)
 .skip))))
 (.reg 6 none [0,1,7,8] [
 .r 18 (.bin .add false (.t 8) (.k (.v (.int .i64 1)))),
 .r 8 (.mv (.t 18))])))))))
 (.seq
 (.reg 7 none [4] [
 .r 4 (.mv (.k (.v (.int .i64 (-1)))))])
 .ret)))
def ks_slices_IndexFunc_int:List (Nat×List Nat):=kssOf ir_slices_IndexFunc_int
theorem fn_slices_IndexFunc_int:FnIR Tryd.prog F_slices_IndexFunc_int 19 ks_slices_IndexFunc_int ir_slices_IndexFunc_int [(.tmp 4)]:=
 ⟨Tryd.f60,_,Tryd.func60,rfl,by kernel_rfl,rfl,by kernel_rfl,by kernel_rfl⟩
def ir_cells_product:RC:=
 (.seq
 (.reg 0 none [0] [
 .r 2 (.mv (.k (.v (.int .i64 0))))])
 (.seq
 (.reg 1 none [0,3] [
 .r 3 (.mv (.k (.v (.int .i64 1))))])
 (.seq
 (.seq
 (.reg 2 none [3,6,7,8] [
 .r 6 (.mv (.t 0)),
 .r 7 (.lenL (.t 6)),
 .r 8 (.mv (.k (.v (.int .i64 0))))])
 (.block 0
 (.loop
 (.seq
 (.reg 3 none [3,6,7,8,9] [
 .r 9 (.bin .lss false (.t 8) (.t 7))])
 (.seq
 (.cond (.t 9)
 .skip
 (.exit 0))
 (.seq
 (.block 1
 (.seq
 (.reg 4 none [3,5,6,7,8] [
 .r 10 (.ixL 1 (.t 6) (.t 8)),
 .r 11 (.ld none (.t 10)),
 .r 5 (.mv (.t 11))])
 (.reg 5 none [3,6,7,8] [
 .r 12 (.mv (.t 3)),
 .r 13 (.mv (.t 5)),
 .r 14 (.bin .mul false (.t 12) (.t 13)),
 .r 3 (.mv (.t 14))])))
 (.reg 6 none [3,6,7,8] [
 .r 15 (.bin .add false (.t 8) (.k (.v (.int .i64 1)))),
 .r 8 (.mv (.t 15))])))))))
 (.seq
 (.reg 7 none [2] [
 .r 16 (.mv (.t 3)),
 .r 2 (.mv (.t 16))])
 .ret))))
def ks_cells_product:List (Nat×List Nat):=kssOf ir_cells_product
theorem fn_cells_product:FnIR Tryd.prog F_cells_product 17 ks_cells_product ir_cells_product [(.tmp 2)]:=
 ⟨Tryd.f61,_,Tryd.func61,rfl,by kernel_rfl,rfl,by kernel_rfl,by kernel_rfl⟩
def ir_cells_sizes:RC:=
 (.seq
 (.reg 0 none [1] [
 .r 1 (.box (.t 0)),
 .r 2 (.mv (.k (.v (.slice none 0 0))))])
 (.seq
 (.reg 1 none [1,3] [
 .r 3 (.mv (.k (.v (.slice none 0 0))))])
 (.seq
 (.seq
 (.reg 2 none [3,7,8,9] [
 .r 6 (.fa 0 (.t 1)),
 .r 7 (.ld none (.t 6)),
 .r 8 (.lenL (.t 7)),
 .r 9 (.mv (.k (.v (.int .i64 0))))])
 (.block 0
 (.loop
 (.seq
 (.reg 3 none [3,7,8,9,10] [
 .r 10 (.bin .lss false (.t 9) (.t 8))])
 (.seq
 (.cond (.t 10)
 .skip
 (.exit 0))
 (.seq
 (.block 1
 (.seq
 (.reg 4 none [3,5,7,8,9] [
 .r 11 (.ixL 1 (.t 7) (.t 9)),
 .r 12 (.ld none (.t 11)),
 .r 5 (.mv (.t 12))])
 (.reg 5 none [3,7,8,9] [
 .r 13 (.mv (.t 3)),
 .r 14 (.mv (.t 5)),
 .r 15 (.call (.k (.clo F_slices_Max_int [])) [.t 14]),
 .r 16 (.bin .add false (.k (.v (.int .i64 1))) (.t 15)),
 .r 17 (.bsl 1 1 [.t 16]),
 .r 18 (.app 1 8 false (.t 13) (.t 17)),
 .r 3 (.mv (.t 18))])))
 (.reg 6 none [3,7,8,9] [
 .r 19 (.bin .add false (.t 9) (.k (.v (.int .i64 1)))),
 .r 9 (.mv (.t 19))])))))))
 (.seq
 (.reg 7 none [2] [
 .r 20 (.mv (.t 3)),
 .r 2 (.mv (.t 20))])
 .ret))))
def ks_cells_sizes:List (Nat×List Nat):=kssOf ir_cells_sizes
theorem fn_cells_sizes:FnIR Tryd.prog F_cells_sizes 21 ks_cells_sizes ir_cells_sizes [(.tmp 2)]:=
 ⟨Tryd.f62,_,Tryd.func62,rfl,by kernel_rfl,rfl,by kernel_rfl,by kernel_rfl⟩
def ir_cells_published:RC:=
 (.seq
 (.reg 0 none [2,3] [
 .r 2 (.box (.t 0)),
 .r 3 (.box (.t 1)),
 .r 4 (.mv (.k (.v (.slice none 0 0))))])
 (.seq
 (.reg 1 none [2,3,5] [
 .r 11 (.ld (some 1) (.t 3)),
 .r 12 (.call (.k (.clo F_cells_sizes [])) [.t 11]),
 .r 5 (.mv (.t 12))])
 (.seq
 (.reg 2 none [2,3,5,6] [
 .r 6 (.mv (.k (.v (.slice none 0 0))))])
 (.seq
 (.seq
 (.reg 3 none [2,3,5,6,15,16] [
 .r 13 (.fa 0 (.t 2)),
 .r 14 (.ld none (.t 13)),
 .r 15 (.call (.k (.clo F_cells_product [])) [.t 14]),
 .r 16 (.mv (.k (.v (.int .i64 0))))])
 (.block 0
 (.loop
 (.seq
 (.reg 4 none [2,3,5,6,15,16,17] [
 .r 17 (.bin .lss false (.t 16) (.t 15))])
 (.seq
 (.cond (.t 17)
 .skip
 (.exit 0))
 (.seq
 (.block 1
 (.seq
 (.reg 5 none [2,3,5,6,7,15,16] [
 .r 18 (.mv (.t 16)),
 .r 7 (.mv (.t 18))])
 (.seq
 (.reg 6 none [2,3,5,6,8,15,16] [
 .r 19 (.fa 0 (.t 2)),
 .r 20 (.ld none (.t 19)),
 .r 21 (.mv (.t 7)),
 .r 22 (.call (.k (.clo F_cells_places [])) [.t 20,.t 21]),
 .r 8 (.mv (.t 22))])
 (.seq
 (.seq
 (.reg 7 none [2,3,5,6,8,15,16,23,24,25] [
 .r 23 (.mv (.t 8)),
 .r 24 (.lenL (.t 23)),
 .r 25 (.mv (.k (.v (.int .i64 0))))])
 (.block 2
 (.loop
 (.seq
 (.reg 8 none [2,3,5,6,8,15,16,23,24,25,26] [
 .r 26 (.bin .lss false (.t 25) (.t 24))])
 (.seq
 (.cond (.t 26)
 .skip
 (.exit 2))
 (.seq
 (.block 3
 (.seq
 (.reg 9 none [2,3,5,6,8,9,10,15,16,23,24,25] [
 .r 27 (.mv (.t 25)),
 .r 28 (.ixL 1 (.t 23) (.t 25)),
 .r 29 (.ld none (.t 28)),
 .r 9 (.mv (.t 27)),
 .r 10 (.mv (.t 29))])
 (.reg 10 none [2,3,5,6,8,15,16,23,24,25] [
 .r 30 (.mv (.t 8)),
 .r 31 (.mv (.t 9)),
 .r 32 (.fa 0 (.t 3)),
 .r 33 (.ld none (.t 32)),
 .r 34 (.mv (.t 9)),
 .r 35 (.ixL 1 (.t 33) (.t 34)),
 .r 36 (.ld none (.t 35)),
 .r 37 (.mv (.t 10)),
 .r 38 (.ixL 1 (.t 36) (.t 37)),
 .r 39 (.ld none (.t 38)),
 .r 40 (.ixL 1 (.t 30) (.t 31)),
 .rn (.st 1 (.t 40) (.t 39))])))
 (.reg 11 none [2,3,5,6,8,15,16,23,24,25] [
 .r 41 (.bin .add false (.t 25) (.k (.v (.int .i64 1)))),
 .r 25 (.mv (.t 41))])))))))
 (.seq
 (.reg 12 none [2,3,5,6,8,15,16,43] [
 .r 42 (.mv (.t 8)),
 .r 43 (.call (.k (.clo F_slices_Contains_int [])) [.t 42,.k (.v (.int .i64 (-1)))])])
 (.cond (.t 43)
 (.reg 13 none [2,3,5,6,15,16] [
 .r 44 (.mv (.t 6)),
 .r 45 (.bsl 1 1 [.k (.v (.int .i64 (-1)))]),
 .r 46 (.app 1 8 false (.t 44) (.t 45)),
 .r 6 (.mv (.t 46))])
 (.reg 14 none [2,3,5,6,15,16] [
 .r 47 (.mv (.t 6)),
 .r 48 (.mv (.t 5)),
 .r 49 (.mv (.t 8)),
 .r 50 (.call (.k (.clo F_cells_number [])) [.t 48,.t 49]),
 .r 51 (.bsl 1 1 [.t 50]),
 .r 52 (.app 1 8 false (.t 47) (.t 51)),
 .r 6 (.mv (.t 52))])))))))
 (.reg 15 none [2,3,5,6,15,16] [
 .r 53 (.bin .add false (.t 16) (.k (.v (.int .i64 1)))),
 .r 16 (.mv (.t 53))])))))))
 (.seq
 (.reg 16 none [4] [
 .r 54 (.mv (.t 6)),
 .r 4 (.mv (.t 54))])
 .ret)))))
def ks_cells_published:List (Nat×List Nat):=kssOf ir_cells_published
theorem fn_cells_published:FnIR Tryd.prog F_cells_published 55 ks_cells_published ir_cells_published [(.tmp 4)]:=
 ⟨Tryd.f63,_,Tryd.func63,rfl,by kernel_rfl,rfl,by kernel_rfl,by kernel_rfl⟩
def ir_ref28_Groups:RC:=
 (.seq
 (.reg 0 none [0] [
 .r 2 (.mv (.k (.v (.int .i64 0))))])
 (.seq
 (.reg 1 none [0,3] [
 .r 3 (.mv (.k (.v (.int .i64 0))))])
 (.seq
 (.seq
 (.reg 2 none [3,6,7,8] [
 .r 6 (.mv (.t 0)),
 .r 7 (.lenL (.t 6)),
 .r 8 (.mv (.k (.v (.int .i64 0))))])
 (.block 0
 (.loop
 (.seq
 (.reg 3 none [3,6,7,8,9] [
 .r 9 (.bin .lss false (.t 8) (.t 7))])
 (.seq
 (.cond (.t 9)
 .skip
 (.exit 0))
 (.seq
 (.block 1
 (.seq
 (.reg 4 none [3,5,6,7,8] [
 .r 10 (.ixL 1 (.t 6) (.t 8)),
 .r 11 (.ld none (.t 10)),
 .r 5 (.mv (.t 11))])
 (.reg 5 none [3,6,7,8] [
 .r 12 (.mv (.t 3)),
 .r 13 (.mv (.t 5)),
 .r 14 (.bin .add false (.t 13) (.k (.v (.int .i64 1)))),
 .r 15 (.mx [.t 12,.t 14]),
 .r 3 (.mv (.t 15))])))
 (.reg 6 none [3,6,7,8] [
 .r 16 (.bin .add false (.t 8) (.k (.v (.int .i64 1)))),
 .r 8 (.mv (.t 16))])))))))
 (.seq
 (.reg 7 none [2] [
 .r 17 (.mv (.t 3)),
 .r 2 (.mv (.t 17))])
 .ret))))
def ks_ref28_Groups:List (Nat×List Nat):=kssOf ir_ref28_Groups
theorem fn_ref28_Groups:FnIR Tryd.prog F_ref28_Groups 18 ks_ref28_Groups ir_ref28_Groups [(.tmp 2)]:=
 ⟨Tryd.f64,_,Tryd.func64,rfl,by kernel_rfl,rfl,by kernel_rfl,by kernel_rfl⟩
def ir_ref28_At:RC:=
 (.seq
 (.reg 0 none [1,2] [
 .r 2 (.box (.t 0)),
 .r 4 (.mv (.k (.v (.slice none 0 0)))),
 .r 5 (.mv (.k (.v (.int .i64 0))))])
 (.seq
 (.seq
 (.reg 1 none [1,2,6] [
 .r 9 (.ld (some 1) (.t 2)),
 .r 10 (.call (.k (.clo F_ref28_Check [])) [.t 9]),
 .r 6 (.mv (.t 10))])
 (.seq
 (.reg 2 none [1,2,6,12] [
 .r 11 (.mv (.t 6)),
 .r 12 (.bin .neq false (.t 11) (.k (.v (.int .i64 0))))])
 (.cond (.t 12)
 (.seq
 (.reg 3 none [4,5] [
 .r 13 (.mv (.t 6)),
 .r 4 (.mv (.k (.v (.slice none 0 0)))),
 .r 5 (.mv (.t 13))])
 .ret)
 .skip)))
 (.seq
 (.seq
 (.reg 4 none [1,2,21] [
 .r 14 (.mv (.t 1)),
 .r 15 (.bin .lss false (.t 14) (.k (.v (.int .i64 0)))),
 .r 16 (.mv (.t 15)),
 .rf 17 16 (.mv (.t 1)),
 .rf 18 16 (.ld (some 1) (.t 2)),
 .rf 19 16 (.call (.k (.clo F_ref28_Count [])) [.t 18]),
 .rf 20 16 (.bin .geq false (.t 17) (.t 19)),
 .r 21 (.pick (.t 16) (.k (.v (.bool true))) (.t 20))])
 (.cond (.t 21)
 (.seq
 (.reg 5 none [4,5] [
 .r 4 (.mv (.k (.v (.slice none 0 0)))),
 .r 5 (.mv (.k (.v (.int .i64 2))))])
 .ret)
 .skip))
 (.seq
 (.reg 6 none [1,2,7] [
 .r 22 (.fa 0 (.t 2)),
 .r 23 (.ld none (.t 22)),
 .r 24 (.lenL (.t 23)),
 .r 25 (.mk 1 8 (.v (.int .i64 0)) (.t 24) (.t 24)),
 .r 7 (.mv (.t 25))])
 (.seq
 (.seq
 (.reg 7 none [1,2,7,8] [
 .r 26 (.fa 0 (.t 2)),
 .r 27 (.ld none (.t 26)),
 .r 28 (.lenL (.t 27)),
 .r 29 (.bin .sub false (.t 28) (.k (.v (.int .i64 1)))),
 .r 8 (.mv (.t 29))])
 (.block 0
 (.loop
 (.seq
 (.seq
 (.reg 8 none [1,2,7,8,31] [
 .r 30 (.mv (.t 8)),
 .r 31 (.bin .geq false (.t 30) (.k (.v (.int .i64 0))))])
 (.cond (.t 31)
 .skip
 (.exit 0)))
 (.seq
 (.block 1
 (.seq
 (.reg 10 none [1,2,7,8] [
 .r 34 (.mv (.t 7)),
 .r 35 (.mv (.t 8)),
 .r 36 (.mv (.t 1)),
 .r 37 (.fa 0 (.t 2)),
 .r 38 (.ld none (.t 37)),
 .r 39 (.mv (.t 8)),
 .r 40 (.ixL 1 (.t 38) (.t 39)),
 .r 41 (.ld none (.t 40)),
 .r 42 (.bin .rem false (.t 36) (.t 41)),
 .r 43 (.ixL 1 (.t 34) (.t 35)),
 .rn (.st 1 (.t 43) (.t 42))])
 (.reg 11 none [1,2,7,8] [
 .r 44 (.mv (.t 1)),
 .r 45 (.fa 0 (.t 2)),
 .r 46 (.ld none (.t 45)),
 .r 47 (.mv (.t 8)),
 .r 48 (.ixL 1 (.t 46) (.t 47)),
 .r 49 (.ld none (.t 48)),
 .r 50 (.bin .quo false (.t 44) (.t 49)),
 .r 1 (.mv (.t 50))])))
 (.reg 9 none [1,2,7,8] [
 .r 32 (.mv (.t 8)),
 .r 33 (.bin .sub false (.t 32) (.k (.v (.int .i64 1)))),
 .r 8 (.mv (.t 33))]))))))
 (.seq
 (.reg 12 none [4,5] [
 .r 51 (.mv (.t 7)),
 .r 4 (.mv (.t 51)),
 .r 5 (.mv (.k (.v (.int .i64 0))))])
 .ret))))))
def ks_ref28_At:List (Nat×List Nat):=kssOf ir_ref28_At
theorem fn_ref28_At:FnIR Tryd.prog F_ref28_At 52 ks_ref28_At ir_ref28_At [(.tmp 4),(.tmp 5)]:=
 ⟨Tryd.f65,_,Tryd.func65,rfl,by kernel_rfl,rfl,by kernel_rfl,by kernel_rfl⟩
def ir_cells_numbered:RC:=
 (.seq
 (.reg 0 none [0] [
 .r 2 (.mv (.k (.v (.bool false))))])
 (.seq
 (.reg 1 none [0,3] [
 .r 3 (.mv (.k (.v (.int .i64 0))))])
 (.seq
 (.seq
 (.reg 2 none [3,6,7,8] [
 .r 6 (.mv (.t 0)),
 .r 7 (.lenL (.t 6)),
 .r 8 (.mv (.k (.v (.int .i64 0))))])
 (.block 0
 (.loop
 (.seq
 (.reg 3 none [3,6,7,8,9] [
 .r 9 (.bin .lss false (.t 8) (.t 7))])
 (.seq
 (.cond (.t 9)
 .skip
 (.exit 0))
 (.seq
 (.block 1
 (.seq
 (.reg 4 none [3,5,6,7,8] [
 .r 10 (.ixL 1 (.t 6) (.t 8)),
 .r 11 (.ld none (.t 10)),
 .r 5 (.mv (.t 11))])
 (.seq
 (.seq
 (.reg 5 none [3,5,6,7,8,18] [
 .r 12 (.mv (.t 5)),
 .r 13 (.bin .lss false (.t 12) (.k (.v (.int .i64 (-1))))),
 .r 14 (.mv (.t 13)),
 .rf 15 14 (.mv (.t 5)),
 .rf 16 14 (.mv (.t 3)),
 .rf 17 14 (.bin .gtr false (.t 15) (.t 16)),
 .r 18 (.pick (.t 14) (.k (.v (.bool true))) (.t 17))])
 (.cond (.t 18)
 (.seq
 (.reg 6 none [2] [
 .r 2 (.mv (.k (.v (.bool false))))])
 .ret)
 .skip))
 (.seq
 (.reg 7 none [3,6,7,8,21] [
 .r 19 (.mv (.t 5)),
 .r 20 (.mv (.t 3)),
 .r 21 (.bin .eql false (.t 19) (.t 20))])
 (.cond (.t 21)
 (.reg 8 none [3,6,7,8] [
 .r 22 (.mv (.t 3)),
 .r 23 (.bin .add false (.t 22) (.k (.v (.int .i64 1)))),
 .r 3 (.mv (.t 23))])
 .skip)))))
 (.reg 9 none [3,6,7,8] [
 .r 24 (.bin .add false (.t 8) (.k (.v (.int .i64 1)))),
 .r 8 (.mv (.t 24))])))))))
 (.seq
 (.reg 10 none [2] [
 .r 25 (.mv (.t 3)),
 .r 26 (.bin .gtr false (.t 25) (.k (.v (.int .i64 0)))),
 .r 2 (.mv (.t 26))])
 .ret))))
def ks_cells_numbered:List (Nat×List Nat):=kssOf ir_cells_numbered
theorem fn_cells_numbered:FnIR Tryd.prog F_cells_numbered 27 ks_cells_numbered ir_cells_numbered [(.tmp 2)]:=
 ⟨Tryd.f66,_,Tryd.func66,rfl,by kernel_rfl,rfl,by kernel_rfl,by kernel_rfl⟩
def ir_internal_strconv_AppendInt:RC:=
 (.seq
 (.reg 0 none [0,1,2] [
 .r 6 (.mv (.k (.v (.slice none 0 0))))])
 (.seq
 (.reg 1 none [0,1,2,7] [
 .r 8 (.mv (.t 1)),
 .r 9 (.cvI .u64 (.t 8)),
 .r 7 (.mv (.t 9))])
 (.seq
 (.seq
 (.reg 2 none [0,2,7,11] [
 .r 10 (.mv (.t 1)),
 .r 11 (.bin .lss false (.t 10) (.k (.v (.int .i64 0))))])
 (.cond (.t 11)
 (.seq
 (.reg 3 none [0,2,7] [
 .r 12 (.mv (.t 0)),
 .r 13 (.bsl 1 1 [.k (.v (.int .u8 45))]),
 .r 14 (.app 1 1 false (.t 12) (.t 13)),
 .r 0 (.mv (.t 14))])
 (.reg 4 none [0,2,7] [
 .r 15 (.mv (.t 7)),
 .r 16 (.un .neg (.t 15)),
 .r 7 (.mv (.t 16))]))
 .skip))
 (.seq
 (.reg 5 none [6] [
 .r 17 (.mv (.t 0)),
 .r 18 (.mv (.t 7)),
 .r 19 (.mv (.t 2)),
 .r 20 (.call (.k (.clo F_internal_strconv_AppendUint [])) [.t 17,.t 18,.t 19]),
 .r 6 (.mv (.t 20))])
 .ret))))
def ks_internal_strconv_AppendInt:List (Nat×List Nat):=kssOf ir_internal_strconv_AppendInt
theorem fn_internal_strconv_AppendInt:FnIR Tryd.prog F_internal_strconv_AppendInt 21 ks_internal_strconv_AppendInt ir_internal_strconv_AppendInt [(.tmp 6)]:=
 ⟨Tryd.f67,_,Tryd.func67,rfl,by kernel_rfl,rfl,by kernel_rfl,by kernel_rfl⟩
def ir_slices_insertionSortOrdered_int:RC:=
 (.seq
 (.reg 0 none [0,1,2,6] [
 .r 8 (.mv (.t 1)),
 .r 9 (.bin .add false (.t 8) (.k (.v (.int .i64 1)))),
 .r 6 (.mv (.t 9))])
 (.block 0
 (.loop
 (.seq
 (.seq
 (.reg 1 none [0,1,2,6,12] [
 .r 10 (.mv (.t 6)),
 .r 11 (.mv (.t 2)),
 .r 12 (.bin .lss false (.t 10) (.t 11))])
 (.cond (.t 12)
 .skip
 (.exit 0)))
 (.seq
 (.block 1
 (.seq
 (.reg 3 none [0,1,2,6,7] [
 .r 15 (.mv (.t 6)),
 .r 7 (.mv (.t 15))])
 (.block 2
 (.loop
 (.seq
 (.seq
 (.reg 4 (some [0,0,3,7,15,15,63,127,15,15,527,1807,3855,8191,16383]) [0,1,2,6,7,30] [
 .r 16 (.mv (.t 7)),
 .r 17 (.mv (.t 1)),
 .r 18 (.bin .gtr false (.t 16) (.t 17)),
 .r 19 (.mv (.t 18)),
 .rt 20 19 (.mv (.t 0)),
 .rt 21 19 (.mv (.t 7)),
 .rt 22 19 (.ixL 1 (.t 20) (.t 21)),
 .rt 23 19 (.ld none (.t 22)),
 .rt 24 19 (.mv (.t 0)),
 .rt 25 19 (.mv (.t 7)),
 .rt 26 19 (.bin .sub false (.t 25) (.k (.v (.int .i64 1)))),
 .rt 27 19 (.ixL 1 (.t 24) (.t 26)),
 .rt 28 19 (.ld none (.t 27)),
 .rt 29 19 (.call (.k (.clo F_cmp_Less_int [])) [.t 23,.t 28]),
 .r 30 (.pick (.t 19) (.t 29) (.k (.v (.bool false))))])
 (.cond (.t 30)
 .skip
 (.exit 2)))
 (.seq
 (.block 3
 (.reg 6 (some [0,0,0,0,8,0,0,64,224,480,0,0,3072,7168,16355,32739,65535,131071]) [0,1,2,6,7] [
 .r 33 (.mv (.t 0)),
 .r 34 (.mv (.t 7)),
 .r 35 (.mv (.t 0)),
 .r 36 (.mv (.t 7)),
 .r 37 (.bin .sub false (.t 36) (.k (.v (.int .i64 1)))),
 .r 38 (.mv (.t 0)),
 .r 39 (.mv (.t 7)),
 .r 40 (.bin .sub false (.t 39) (.k (.v (.int .i64 1)))),
 .r 41 (.ixL 1 (.t 38) (.t 40)),
 .r 42 (.ld none (.t 41)),
 .r 43 (.mv (.t 0)),
 .r 44 (.mv (.t 7)),
 .r 45 (.ixL 1 (.t 43) (.t 44)),
 .r 46 (.ld none (.t 45)),
 .r 47 (.ixL 1 (.t 33) (.t 34)),
 .rn (.st 1 (.t 47) (.t 42)),
 .r 48 (.ixL 1 (.t 35) (.t 37)),
 .rn (.st 1 (.t 48) (.t 46))]))
 (.reg 5 none [0,1,2,6,7] [
 .r 31 (.mv (.t 7)),
 .r 32 (.bin .sub false (.t 31) (.k (.v (.int .i64 1)))),
 .r 7 (.mv (.t 32))])))))))
 (.reg 2 none [0,1,2,6] [
 .r 13 (.mv (.t 6)),
 .r 14 (.bin .add false (.t 13) (.k (.v (.int .i64 1)))),
 .r 6 (.mv (.t 14))]))))))
def ks_slices_insertionSortOrdered_int:List (Nat×List Nat):=kssOf ir_slices_insertionSortOrdered_int
theorem fn_slices_insertionSortOrdered_int:FnIR Tryd.prog F_slices_insertionSortOrdered_int 49 ks_slices_insertionSortOrdered_int ir_slices_insertionSortOrdered_int []:=
 ⟨Tryd.f68,_,Tryd.func68,rfl,by kernel_rfl,rfl,by kernel_rfl,by kernel_rfl⟩
def ir_slices_heapSortOrdered_int:RC:=
 (.seq
 (.reg 0 none [0,1,2,6] [
 .r 11 (.mv (.t 1)),
 .r 6 (.mv (.t 11))])
 (.seq
 (.reg 1 none [0,1,2,6,7] [
 .r 7 (.mv (.k (.v (.int .i64 0))))])
 (.seq
 (.reg 2 none [0,6,7,8] [
 .r 12 (.mv (.t 2)),
 .r 13 (.mv (.t 1)),
 .r 14 (.bin .sub false (.t 12) (.t 13)),
 .r 8 (.mv (.t 14))])
 (.seq
 (.seq
 (.reg 3 none [0,6,7,8,9] [
 .r 15 (.mv (.t 8)),
 .r 16 (.bin .sub false (.t 15) (.k (.v (.int .i64 1)))),
 .r 17 (.bin .quo false (.t 16) (.k (.v (.int .i64 2)))),
 .r 9 (.mv (.t 17))])
 (.block 0
 (.loop
 (.seq
 (.seq
 (.reg 4 none [0,6,7,8,9,19] [
 .r 18 (.mv (.t 9)),
 .r 19 (.bin .geq false (.t 18) (.k (.v (.int .i64 0))))])
 (.cond (.t 19)
 .skip
 (.exit 0)))
 (.seq
 (.block 1
 (.reg 6 none [0,6,7,8,9] [
 .r 22 (.mv (.t 0)),
 .r 23 (.mv (.t 9)),
 .r 24 (.mv (.t 8)),
 .r 25 (.mv (.t 6)),
 .r 26 (.call (.k (.clo F_slices_siftDownOrdered_int [])) [.t 22,.t 23,.t 24,.t 25])]))
 (.reg 5 none [0,6,7,8,9] [
 .r 20 (.mv (.t 9)),
 .r 21 (.bin .sub false (.t 20) (.k (.v (.int .i64 1)))),
 .r 9 (.mv (.t 21))]))))))
 (.seq
 (.reg 7 none [0,6,7,10] [
 .r 27 (.mv (.t 8)),
 .r 28 (.bin .sub false (.t 27) (.k (.v (.int .i64 1)))),
 .r 10 (.mv (.t 28))])
 (.block 2
 (.loop
 (.seq
 (.seq
 (.reg 8 none [0,6,7,10,30] [
 .r 29 (.mv (.t 10)),
 .r 30 (.bin .geq false (.t 29) (.k (.v (.int .i64 0))))])
 (.cond (.t 30)
 .skip
 (.exit 2)))
 (.seq
 (.block 3
 (.seq
 (.reg 10 (some [0,0,0,0,0,24,0,0,0,384,960,1984,0,0,12288,28672,65475,131011,262143,524287]) [0,6,7,10] [
 .r 33 (.mv (.t 0)),
 .r 34 (.mv (.t 6)),
 .r 35 (.mv (.t 0)),
 .r 36 (.mv (.t 6)),
 .r 37 (.mv (.t 10)),
 .r 38 (.bin .add false (.t 36) (.t 37)),
 .r 39 (.mv (.t 0)),
 .r 40 (.mv (.t 6)),
 .r 41 (.mv (.t 10)),
 .r 42 (.bin .add false (.t 40) (.t 41)),
 .r 43 (.ixL 1 (.t 39) (.t 42)),
 .r 44 (.ld none (.t 43)),
 .r 45 (.mv (.t 0)),
 .r 46 (.mv (.t 6)),
 .r 47 (.ixL 1 (.t 45) (.t 46)),
 .r 48 (.ld none (.t 47)),
 .r 49 (.ixL 1 (.t 33) (.t 34)),
 .rn (.st 1 (.t 49) (.t 44)),
 .r 50 (.ixL 1 (.t 35) (.t 38)),
 .rn (.st 1 (.t 50) (.t 48))])
 (.reg 11 none [0,6,7,10] [
 .r 51 (.mv (.t 0)),
 .r 52 (.mv (.t 7)),
 .r 53 (.mv (.t 10)),
 .r 54 (.mv (.t 6)),
 .r 55 (.call (.k (.clo F_slices_siftDownOrdered_int [])) [.t 51,.t 52,.t 53,.t 54])])))
 (.reg 9 none [0,6,7,10] [
 .r 31 (.mv (.t 10)),
 .r 32 (.bin .sub false (.t 31) (.k (.v (.int .i64 1)))),
 .r 10 (.mv (.t 32))]))))))))))
def ks_slices_heapSortOrdered_int:List (Nat×List Nat):=kssOf ir_slices_heapSortOrdered_int
theorem fn_slices_heapSortOrdered_int:FnIR Tryd.prog F_slices_heapSortOrdered_int 56 ks_slices_heapSortOrdered_int ir_slices_heapSortOrdered_int []:=
 ⟨Tryd.f69,_,Tryd.func69,rfl,by kernel_rfl,rfl,by kernel_rfl,by kernel_rfl⟩
def ir_slices_breakPatternsOrdered_int:RC:=
 (.seq
 (.reg 0 none [0,1,6] [
 .r 11 (.mv (.t 2)),
 .r 12 (.mv (.t 1)),
 .r 13 (.bin .sub false (.t 11) (.t 12)),
 .r 6 (.mv (.t 13))])
 (.seq
 (.reg 1 none [0,1,6,15] [
 .r 14 (.mv (.t 6)),
 .r 15 (.bin .geq false (.t 14) (.k (.v (.int .i64 8))))])
 (.cond (.t 15)
 (.seq
 (.reg 2 none [0,1,6,7] [
 .r 16 (.mv (.t 6)),
 .r 17 (.cvI .u64 (.t 16)),
 .r 7 (.new (.v (.int .u64 0))),
 .rn (.st 1 (.t 7) (.t 17))])
 (.seq
 (.reg 3 none [0,1,6,7,8] [
 .r 18 (.mv (.t 6)),
 .r 19 (.call (.k (.clo F_slices_nextPowerOfTwo [])) [.t 18]),
 .r 8 (.mv (.t 19))])
 (.seq
 (.reg 4 none [0,1,6,7,8,9] [
 .r 20 (.mv (.t 1)),
 .r 21 (.mv (.t 6)),
 .r 22 (.bin .quo false (.t 21) (.k (.v (.int .i64 4)))),
 .r 23 (.bin .mul false (.t 22) (.k (.v (.int .i64 2)))),
 .r 24 (.bin .add false (.t 20) (.t 23)),
 .r 25 (.bin .sub false (.t 24) (.k (.v (.int .i64 1)))),
 .r 9 (.mv (.t 25))])
 (.block 0
 (.loop
 (.seq
 (.seq
 (.reg 5 none [0,1,6,7,8,9,33] [
 .r 26 (.mv (.t 9)),
 .r 27 (.mv (.t 1)),
 .r 28 (.mv (.t 6)),
 .r 29 (.bin .quo false (.t 28) (.k (.v (.int .i64 4)))),
 .r 30 (.bin .mul false (.t 29) (.k (.v (.int .i64 2)))),
 .r 31 (.bin .add false (.t 27) (.t 30)),
 .r 32 (.bin .add false (.t 31) (.k (.v (.int .i64 1)))),
 .r 33 (.bin .leq false (.t 26) (.t 32))])
 (.cond (.t 33)
 .skip
 (.exit 0)))
 (.seq
 (.block 1
 (.seq
 (.reg 7 none [0,1,6,7,8,9,10] [
 .r 36 (.call (.k (.clo F_slices_xorshift_Next [])) [.t 7]),
 .r 37 (.mv (.t 8)),
 .r 38 (.bin .sub false (.t 37) (.k (.v (.int .u64 1)))),
 .r 39 (.bin .and false (.t 36) (.t 38)),
 .r 40 (.cvI .i64 (.t 39)),
 .r 10 (.mv (.t 40))])
 (.seq
 (.seq
 (.reg 8 none [0,1,6,7,8,9,10,43] [
 .r 41 (.mv (.t 10)),
 .r 42 (.mv (.t 6)),
 .r 43 (.bin .geq false (.t 41) (.t 42))])
 (.cond (.t 43)
 (.reg 9 none [0,1,6,7,8,9,10] [
 .r 44 (.mv (.t 10)),
 .r 45 (.mv (.t 6)),
 .r 46 (.bin .sub false (.t 44) (.t 45)),
 .r 10 (.mv (.t 46))])
 .skip))
 (.reg 10 (some [0,0,0,0,0,24,0,0,0,384,960,1984,0,0,12288,28672,65475,131011,262143,524287]) [0,1,6,7,8,9] [
 .r 47 (.mv (.t 0)),
 .r 48 (.mv (.t 9)),
 .r 49 (.mv (.t 0)),
 .r 50 (.mv (.t 1)),
 .r 51 (.mv (.t 10)),
 .r 52 (.bin .add false (.t 50) (.t 51)),
 .r 53 (.mv (.t 0)),
 .r 54 (.mv (.t 1)),
 .r 55 (.mv (.t 10)),
 .r 56 (.bin .add false (.t 54) (.t 55)),
 .r 57 (.ixL 1 (.t 53) (.t 56)),
 .r 58 (.ld none (.t 57)),
 .r 59 (.mv (.t 0)),
 .r 60 (.mv (.t 9)),
 .r 61 (.ixL 1 (.t 59) (.t 60)),
 .r 62 (.ld none (.t 61)),
 .r 63 (.ixL 1 (.t 47) (.t 48)),
 .rn (.st 1 (.t 63) (.t 58)),
 .r 64 (.ixL 1 (.t 49) (.t 52)),
 .rn (.st 1 (.t 64) (.t 62))]))))
 (.reg 6 none [0,1,6,7,8,9] [
 .r 34 (.mv (.t 9)),
 .r 35 (.bin .add false (.t 34) (.k (.v (.int .i64 1)))),
 .r 9 (.mv (.t 35))]))))))))
 .skip)))
def ks_slices_breakPatternsOrdered_int:List (Nat×List Nat):=kssOf ir_slices_breakPatternsOrdered_int
theorem fn_slices_breakPatternsOrdered_int:FnIR Tryd.prog F_slices_breakPatternsOrdered_int 65 ks_slices_breakPatternsOrdered_int ir_slices_breakPatternsOrdered_int []:=
 ⟨Tryd.f70,_,Tryd.func70,rfl,by kernel_rfl,rfl,by kernel_rfl,by kernel_rfl⟩
def ir_slices_choosePivotOrdered_int:RC:=
 (.seq
 (.reg 0 none [0,1,2] [
 .r 6 (.mv (.k (.v (.int .i64 0)))),
 .r 7 (.mv (.k (.v (.int .i64 0))))])
 (.seq
 (.reg 1 none [0,1,8] [
 .r 13 (.mv (.t 2)),
 .r 14 (.mv (.t 1)),
 .r 15 (.bin .sub false (.t 13) (.t 14)),
 .r 8 (.mv (.t 15))])
 (.seq
 (.reg 2 none [0,1,8,9] [
 .r 9 (.new (.v (.int .i64 0)))])
 (.seq
 (.reg 3 none [0,1,8,9,10] [
 .r 16 (.mv (.t 1)),
 .r 17 (.mv (.t 8)),
 .r 18 (.bin .quo false (.t 17) (.k (.v (.int .i64 4)))),
 .r 19 (.bin .mul false (.t 18) (.k (.v (.int .i64 1)))),
 .r 20 (.bin .add false (.t 16) (.t 19)),
 .r 10 (.mv (.t 20))])
 (.seq
 (.reg 4 none [0,1,8,9,10,11] [
 .r 21 (.mv (.t 1)),
 .r 22 (.mv (.t 8)),
 .r 23 (.bin .quo false (.t 22) (.k (.v (.int .i64 4)))),
 .r 24 (.bin .mul false (.t 23) (.k (.v (.int .i64 2)))),
 .r 25 (.bin .add false (.t 21) (.t 24)),
 .r 11 (.mv (.t 25))])
 (.seq
 (.reg 5 none [0,8,9,10,11,12] [
 .r 26 (.mv (.t 1)),
 .r 27 (.mv (.t 8)),
 .r 28 (.bin .quo false (.t 27) (.k (.v (.int .i64 4)))),
 .r 29 (.bin .mul false (.t 28) (.k (.v (.int .i64 3)))),
 .r 30 (.bin .add false (.t 26) (.t 29)),
 .r 12 (.mv (.t 30))])
 (.seq
 (.seq
 (.reg 6 none [0,8,9,10,11,12,32] [
 .r 31 (.mv (.t 8)),
 .r 32 (.bin .geq false (.t 31) (.k (.v (.int .i64 8))))])
 (.cond (.t 32)
 (.seq
 (.seq
 (.reg 7 none [0,9,10,11,12,34] [
 .r 33 (.mv (.t 8)),
 .r 34 (.bin .geq false (.t 33) (.k (.v (.int .i64 50))))])
 (.cond (.t 34)
 (.seq
 (.reg 8 none [0,9,10,11,12] [
 .r 35 (.mv (.t 0)),
 .r 36 (.mv (.t 10)),
 .r 37 (.call (.k (.clo F_slices_medianAdjacentOrdered_int [])) [.t 35,.t 36,.t 9]),
 .r 10 (.mv (.t 37))])
 (.seq
 (.reg 9 none [0,9,10,11,12] [
 .r 38 (.mv (.t 0)),
 .r 39 (.mv (.t 11)),
 .r 40 (.call (.k (.clo F_slices_medianAdjacentOrdered_int [])) [.t 38,.t 39,.t 9]),
 .r 11 (.mv (.t 40))])
 (.reg 10 none [0,9,10,11,12] [
 .r 41 (.mv (.t 0)),
 .r 42 (.mv (.t 12)),
 .r 43 (.call (.k (.clo F_slices_medianAdjacentOrdered_int [])) [.t 41,.t 42,.t 9]),
 .r 12 (.mv (.t 43))])))
 .skip))
 (.reg 11 none [9,11] [
 .r 44 (.mv (.t 0)),
 .r 45 (.mv (.t 10)),
 .r 46 (.mv (.t 11)),
 .r 47 (.mv (.t 12)),
 .r 48 (.call (.k (.clo F_slices_medianOrdered_int [])) [.t 44,.t 45,.t 46,.t 47,.t 9]),
 .r 11 (.mv (.t 48))]))
 .skip))
 (.seq
 (.reg 12 none [11,49] [
 .r 49 (.ld none (.t 9))])
 (.block 0
 (.seq
 (.reg 14 none [11,49,51] [
 .r 52 (.bin .eql false (.t 49) (.k (.v (.int .i64 0)))),
 .r 51 (.mv (.t 52))])
 (.cond (.t 51)
 (.seq
 (.reg 15 none [6,7] [
 .r 53 (.mv (.t 11)),
 .r 6 (.mv (.t 53)),
 .r 7 (.mv (.k (.v (.int .i64 1))))])
 .ret)
 (.seq
 (.reg 16 none [11,54] [
 .r 55 (.bin .eql false (.t 49) (.k (.v (.int .i64 12)))),
 .r 54 (.mv (.t 55))])
 (.cond (.t 54)
 (.seq
 (.reg 17 none [6,7] [
 .r 56 (.mv (.t 11)),
 .r 6 (.mv (.t 56)),
 .r 7 (.mv (.k (.v (.int .i64 2))))])
 .ret)
 (.seq
 (.reg 13 none [6,7] [
 .r 50 (.mv (.t 11)),
 .r 6 (.mv (.t 50)),
 .r 7 (.mv (.k (.v (.int .i64 0))))])
 .ret))))))))))))))
def ks_slices_choosePivotOrdered_int:List (Nat×List Nat):=kssOf ir_slices_choosePivotOrdered_int
theorem fn_slices_choosePivotOrdered_int:FnIR Tryd.prog F_slices_choosePivotOrdered_int 57 ks_slices_choosePivotOrdered_int ir_slices_choosePivotOrdered_int [(.tmp 6),(.tmp 7)]:=
 ⟨Tryd.f71,_,Tryd.func71,rfl,by kernel_rfl,rfl,by kernel_rfl,by kernel_rfl⟩
def ir_slices_reverseRangeOrdered_int:RC:=
 (.seq
 (.reg 0 none [0,2,6] [
 .r 8 (.mv (.t 1)),
 .r 6 (.mv (.t 8))])
 (.seq
 (.reg 1 none [0,6,7] [
 .r 9 (.mv (.t 2)),
 .r 10 (.bin .sub false (.t 9) (.k (.v (.int .i64 1)))),
 .r 7 (.mv (.t 10))])
 (.block 0
 (.loop
 (.seq
 (.seq
 (.reg 2 none [0,6,7,13] [
 .r 11 (.mv (.t 6)),
 .r 12 (.mv (.t 7)),
 .r 13 (.bin .lss false (.t 11) (.t 12))])
 (.cond (.t 13)
 .skip
 (.exit 0)))
 (.block 1
 (.seq
 (.reg 3 (some [0,0,0,0,0,0,48,112,0,0,768,1792,4083,8179,16383,32767]) [0,6,7] [
 .r 14 (.mv (.t 0)),
 .r 15 (.mv (.t 6)),
 .r 16 (.mv (.t 0)),
 .r 17 (.mv (.t 7)),
 .r 18 (.mv (.t 0)),
 .r 19 (.mv (.t 7)),
 .r 20 (.ixL 1 (.t 18) (.t 19)),
 .r 21 (.ld none (.t 20)),
 .r 22 (.mv (.t 0)),
 .r 23 (.mv (.t 6)),
 .r 24 (.ixL 1 (.t 22) (.t 23)),
 .r 25 (.ld none (.t 24)),
 .r 26 (.ixL 1 (.t 14) (.t 15)),
 .rn (.st 1 (.t 26) (.t 21)),
 .r 27 (.ixL 1 (.t 16) (.t 17)),
 .rn (.st 1 (.t 27) (.t 25))])
 (.seq
 (.reg 4 none [0,6,7] [
 .r 28 (.mv (.t 6)),
 .r 29 (.bin .add false (.t 28) (.k (.v (.int .i64 1)))),
 .r 6 (.mv (.t 29))])
 (.reg 5 none [0,6,7] [
 .r 30 (.mv (.t 7)),
 .r 31 (.bin .sub false (.t 30) (.k (.v (.int .i64 1)))),
 .r 7 (.mv (.t 31))])))))))))
def ks_slices_reverseRangeOrdered_int:List (Nat×List Nat):=kssOf ir_slices_reverseRangeOrdered_int
theorem fn_slices_reverseRangeOrdered_int:FnIR Tryd.prog F_slices_reverseRangeOrdered_int 32 ks_slices_reverseRangeOrdered_int ir_slices_reverseRangeOrdered_int []:=
 ⟨Tryd.f72,_,Tryd.func72,rfl,by kernel_rfl,rfl,by kernel_rfl,by kernel_rfl⟩
def ir_slices_partialInsertionSortOrdered_int:RC:=
 (.seq
 (.reg 0 none [0,1,2] [
 .r 6 (.mv (.k (.v (.bool false))))])
 (.seq
 (.reg 1 none [0,1,2,7] [
 .r 11 (.mv (.t 1)),
 .r 12 (.bin .add false (.t 11) (.k (.v (.int .i64 1)))),
 .r 7 (.mv (.t 12))])
 (.seq
 (.seq
 (.reg 2 none [0,1,2,7,8] [
 .r 8 (.mv (.k (.v (.int .i64 0))))])
 (.block 0
 (.loop
 (.seq
 (.seq
 (.reg 3 none [0,1,2,7,8,14] [
 .r 13 (.mv (.t 8)),
 .r 14 (.bin .lss false (.t 13) (.k (.v (.int .i64 5))))])
 (.cond (.t 14)
 .skip
 (.exit 0)))
 (.seq
 (.block 1
 (.seq
 (.block 2
 (.loop
 (.seq
 (.seq
 (.reg 5 (some [0,0,3,7,15,15,63,127,15,15,527,1807,3855,8191,16383,32767]) [0,1,2,7,8,32] [
 .r 17 (.mv (.t 7)),
 .r 18 (.mv (.t 2)),
 .r 19 (.bin .lss false (.t 17) (.t 18)),
 .r 20 (.mv (.t 19)),
 .rt 21 20 (.mv (.t 0)),
 .rt 22 20 (.mv (.t 7)),
 .rt 23 20 (.ixL 1 (.t 21) (.t 22)),
 .rt 24 20 (.ld none (.t 23)),
 .rt 25 20 (.mv (.t 0)),
 .rt 26 20 (.mv (.t 7)),
 .rt 27 20 (.bin .sub false (.t 26) (.k (.v (.int .i64 1)))),
 .rt 28 20 (.ixL 1 (.t 25) (.t 27)),
 .rt 29 20 (.ld none (.t 28)),
 .rt 30 20 (.call (.k (.clo F_cmp_Less_int [])) [.t 24,.t 29]),
 .rt 31 20 (.un .not (.t 30)),
 .r 32 (.pick (.t 20) (.t 31) (.k (.v (.bool false))))])
 (.cond (.t 32)
 .skip
 (.exit 2)))
 (.block 3
 (.reg 6 none [0,1,2,7,8] [
 .r 33 (.mv (.t 7)),
 .r 34 (.bin .add false (.t 33) (.k (.v (.int .i64 1)))),
 .r 7 (.mv (.t 34))])))))
 (.seq
 (.seq
 (.reg 7 none [0,1,2,7,8,37] [
 .r 35 (.mv (.t 7)),
 .r 36 (.mv (.t 2)),
 .r 37 (.bin .eql false (.t 35) (.t 36))])
 (.cond (.t 37)
 (.seq
 (.reg 8 none [6] [
 .r 6 (.mv (.k (.v (.bool true))))])
 .ret)
 .skip))
 (.seq
 (.seq
 (.reg 9 none [0,1,2,7,8,41] [
 .r 38 (.mv (.t 2)),
 .r 39 (.mv (.t 1)),
 .r 40 (.bin .sub false (.t 38) (.t 39)),
 .r 41 (.bin .lss false (.t 40) (.k (.v (.int .i64 50))))])
 (.cond (.t 41)
 (.seq
 (.reg 10 none [6] [
 .r 6 (.mv (.k (.v (.bool false))))])
 .ret)
 .skip))
 (.seq
 (.reg 11 (some [0,0,0,0,8,0,0,64,224,480,0,0,3072,7168,16355,32739,65535,131071]) [0,1,2,7,8] [
 .r 42 (.mv (.t 0)),
 .r 43 (.mv (.t 7)),
 .r 44 (.mv (.t 0)),
 .r 45 (.mv (.t 7)),
 .r 46 (.bin .sub false (.t 45) (.k (.v (.int .i64 1)))),
 .r 47 (.mv (.t 0)),
 .r 48 (.mv (.t 7)),
 .r 49 (.bin .sub false (.t 48) (.k (.v (.int .i64 1)))),
 .r 50 (.ixL 1 (.t 47) (.t 49)),
 .r 51 (.ld none (.t 50)),
 .r 52 (.mv (.t 0)),
 .r 53 (.mv (.t 7)),
 .r 54 (.ixL 1 (.t 52) (.t 53)),
 .r 55 (.ld none (.t 54)),
 .r 56 (.ixL 1 (.t 42) (.t 43)),
 .rn (.st 1 (.t 56) (.t 51)),
 .r 57 (.ixL 1 (.t 44) (.t 46)),
 .rn (.st 1 (.t 57) (.t 55))])
 (.seq
 (.seq
 (.reg 12 none [0,1,2,7,8,61] [
 .r 58 (.mv (.t 7)),
 .r 59 (.mv (.t 1)),
 .r 60 (.bin .sub false (.t 58) (.t 59)),
 .r 61 (.bin .geq false (.t 60) (.k (.v (.int .i64 2))))])
 (.cond (.t 61)
 (.seq
 (.reg 13 none [0,1,2,7,8,9] [
 .r 62 (.mv (.t 7)),
 .r 63 (.bin .sub false (.t 62) (.k (.v (.int .i64 1)))),
 .r 9 (.mv (.t 63))])
 (.block 4
 (.loop
 (.seq
 (.seq
 (.reg 14 none [0,1,2,7,8,9,65] [
 .r 64 (.mv (.t 9)),
 .r 65 (.bin .geq false (.t 64) (.k (.v (.int .i64 1))))])
 (.cond (.t 65)
 .skip
 (.exit 4)))
 (.seq
 (.block 5
 (.seq
 (.seq
 (.reg 16 (some [0,0,3,7,0,0,32,112,240,511,1023]) [0,1,2,7,8,9,78] [
 .r 68 (.mv (.t 0)),
 .r 69 (.mv (.t 9)),
 .r 70 (.ixL 1 (.t 68) (.t 69)),
 .r 71 (.ld none (.t 70)),
 .r 72 (.mv (.t 0)),
 .r 73 (.mv (.t 9)),
 .r 74 (.bin .sub false (.t 73) (.k (.v (.int .i64 1)))),
 .r 75 (.ixL 1 (.t 72) (.t 74)),
 .r 76 (.ld none (.t 75)),
 .r 77 (.call (.k (.clo F_cmp_Less_int [])) [.t 71,.t 76]),
 .r 78 (.un .not (.t 77))])
 (.cond (.t 78)
 (.exit 4)
 .skip))
 (.reg 17 (some [0,0,0,0,8,0,0,64,224,480,0,0,3072,7168,16355,32739,65535,131071]) [0,1,2,7,8,9] [
 .r 79 (.mv (.t 0)),
 .r 80 (.mv (.t 9)),
 .r 81 (.mv (.t 0)),
 .r 82 (.mv (.t 9)),
 .r 83 (.bin .sub false (.t 82) (.k (.v (.int .i64 1)))),
 .r 84 (.mv (.t 0)),
 .r 85 (.mv (.t 9)),
 .r 86 (.bin .sub false (.t 85) (.k (.v (.int .i64 1)))),
 .r 87 (.ixL 1 (.t 84) (.t 86)),
 .r 88 (.ld none (.t 87)),
 .r 89 (.mv (.t 0)),
 .r 90 (.mv (.t 9)),
 .r 91 (.ixL 1 (.t 89) (.t 90)),
 .r 92 (.ld none (.t 91)),
 .r 93 (.ixL 1 (.t 79) (.t 80)),
 .rn (.st 1 (.t 93) (.t 88)),
 .r 94 (.ixL 1 (.t 81) (.t 83)),
 .rn (.st 1 (.t 94) (.t 92))])))
 (.reg 15 none [0,1,2,7,8,9] [
 .r 66 (.mv (.t 9)),
 .r 67 (.bin .sub false (.t 66) (.k (.v (.int .i64 1)))),
 .r 9 (.mv (.t 67))]))))))
 .skip))
 (.seq
 (.reg 18 none [0,1,2,7,8,98] [
 .r 95 (.mv (.t 2)),
 .r 96 (.mv (.t 7)),
 .r 97 (.bin .sub false (.t 95) (.t 96)),
 .r 98 (.bin .geq false (.t 97) (.k (.v (.int .i64 2))))])
 (.cond (.t 98)
 (.seq
 (.reg 19 none [0,1,2,7,8,10] [
 .r 99 (.mv (.t 7)),
 .r 100 (.bin .add false (.t 99) (.k (.v (.int .i64 1)))),
 .r 10 (.mv (.t 100))])
 (.block 6
 (.loop
 (.seq
 (.seq
 (.reg 20 none [0,1,2,7,8,10,103] [
 .r 101 (.mv (.t 10)),
 .r 102 (.mv (.t 2)),
 .r 103 (.bin .lss false (.t 101) (.t 102))])
 (.cond (.t 103)
 .skip
 (.exit 6)))
 (.seq
 (.block 7
 (.seq
 (.seq
 (.reg 22 (some [0,0,3,7,0,0,32,112,240,511,1023]) [0,1,2,7,8,10,116] [
 .r 106 (.mv (.t 0)),
 .r 107 (.mv (.t 10)),
 .r 108 (.ixL 1 (.t 106) (.t 107)),
 .r 109 (.ld none (.t 108)),
 .r 110 (.mv (.t 0)),
 .r 111 (.mv (.t 10)),
 .r 112 (.bin .sub false (.t 111) (.k (.v (.int .i64 1)))),
 .r 113 (.ixL 1 (.t 110) (.t 112)),
 .r 114 (.ld none (.t 113)),
 .r 115 (.call (.k (.clo F_cmp_Less_int [])) [.t 109,.t 114]),
 .r 116 (.un .not (.t 115))])
 (.cond (.t 116)
 (.exit 6)
 .skip))
 (.reg 23 (some [0,0,0,0,8,0,0,64,224,480,0,0,3072,7168,16355,32739,65535,131071]) [0,1,2,7,8,10] [
 .r 117 (.mv (.t 0)),
 .r 118 (.mv (.t 10)),
 .r 119 (.mv (.t 0)),
 .r 120 (.mv (.t 10)),
 .r 121 (.bin .sub false (.t 120) (.k (.v (.int .i64 1)))),
 .r 122 (.mv (.t 0)),
 .r 123 (.mv (.t 10)),
 .r 124 (.bin .sub false (.t 123) (.k (.v (.int .i64 1)))),
 .r 125 (.ixL 1 (.t 122) (.t 124)),
 .r 126 (.ld none (.t 125)),
 .r 127 (.mv (.t 0)),
 .r 128 (.mv (.t 10)),
 .r 129 (.ixL 1 (.t 127) (.t 128)),
 .r 130 (.ld none (.t 129)),
 .r 131 (.ixL 1 (.t 117) (.t 118)),
 .rn (.st 1 (.t 131) (.t 126)),
 .r 132 (.ixL 1 (.t 119) (.t 121)),
 .rn (.st 1 (.t 132) (.t 130))])))
 (.reg 21 none [0,1,2,7,8,10] [
 .r 104 (.mv (.t 10)),
 .r 105 (.bin .add false (.t 104) (.k (.v (.int .i64 1)))),
 .r 10 (.mv (.t 105))]))))))
 .skip))))))))
 (.reg 4 none [0,1,2,7,8] [
 .r 15 (.mv (.t 8)),
 .r 16 (.bin .add false (.t 15) (.k (.v (.int .i64 1)))),
 .r 8 (.mv (.t 16))]))))))
 (.seq
 (.reg 24 none [6] [
 .r 6 (.mv (.k (.v (.bool false))))])
 .ret))))
def ks_slices_partialInsertionSortOrdered_int:List (Nat×List Nat):=kssOf ir_slices_partialInsertionSortOrdered_int
theorem fn_slices_partialInsertionSortOrdered_int:FnIR Tryd.prog F_slices_partialInsertionSortOrdered_int 133 ks_slices_partialInsertionSortOrdered_int ir_slices_partialInsertionSortOrdered_int [(.tmp 6)]:=
 ⟨Tryd.f73,_,Tryd.func73,rfl,by kernel_rfl,rfl,by kernel_rfl,by kernel_rfl⟩
def ir_cmp_Less_int:RC:=
 (.seq
 (.reg 0 none [0,1] [
 .r 4 (.mv (.k (.v (.bool false))))])
 (.seq
 (.reg 1 none [4] [
 .r 5 (.mv (.t 0)),
 .r 6 (.call (.k (.clo F_cmp_isNaN_int [])) [.t 5]),
 .r 7 (.mv (.t 6)),
 .rt 8 7 (.mv (.t 1)),
 .rt 9 7 (.call (.k (.clo F_cmp_isNaN_int [])) [.t 8]),
 .rt 10 7 (.un .not (.t 9)),
 .r 11 (.pick (.t 7) (.t 10) (.k (.v (.bool false)))),
 .r 12 (.mv (.t 11)),
 .rf 13 12 (.mv (.t 0)),
 .rf 14 12 (.mv (.t 1)),
 .rf 15 12 (.bin .lss false (.t 13) (.t 14)),
 .r 16 (.pick (.t 12) (.k (.v (.bool true))) (.t 15)),
 .r 4 (.mv (.t 16))])
 .ret))
def ks_cmp_Less_int:List (Nat×List Nat):=kssOf ir_cmp_Less_int
theorem fn_cmp_Less_int:FnIR Tryd.prog F_cmp_Less_int 17 ks_cmp_Less_int ir_cmp_Less_int [(.tmp 4)]:=
 ⟨Tryd.f74,_,Tryd.func74,rfl,by kernel_rfl,rfl,by kernel_rfl,by kernel_rfl⟩
def ir_slices_partitionEqualOrdered_int:RC:=
 (.seq
 (.reg 0 none [0,1,2,3] [
 .r 8 (.mv (.k (.v (.int .i64 0))))])
 (.seq
 (.reg 1 (some [0,0,0,0,0,0,48,112,0,0,768,1792,4083,8179,16383,32767]) [0,1,2] [
 .r 11 (.mv (.t 0)),
 .r 12 (.mv (.t 1)),
 .r 13 (.mv (.t 0)),
 .r 14 (.mv (.t 3)),
 .r 15 (.mv (.t 0)),
 .r 16 (.mv (.t 3)),
 .r 17 (.ixL 1 (.t 15) (.t 16)),
 .r 18 (.ld none (.t 17)),
 .r 19 (.mv (.t 0)),
 .r 20 (.mv (.t 1)),
 .r 21 (.ixL 1 (.t 19) (.t 20)),
 .r 22 (.ld none (.t 21)),
 .r 23 (.ixL 1 (.t 11) (.t 12)),
 .rn (.st 1 (.t 23) (.t 18)),
 .r 24 (.ixL 1 (.t 13) (.t 14)),
 .rn (.st 1 (.t 24) (.t 22))])
 (.seq
 (.reg 2 none [0,1,9,10] [
 .r 25 (.mv (.t 1)),
 .r 26 (.bin .add false (.t 25) (.k (.v (.int .i64 1)))),
 .r 27 (.mv (.t 2)),
 .r 28 (.bin .sub false (.t 27) (.k (.v (.int .i64 1)))),
 .r 9 (.mv (.t 26)),
 .r 10 (.mv (.t 28))])
 (.seq
 (.block 0
 (.loop
 (.block 1
 (.seq
 (.block 2
 (.loop
 (.seq
 (.seq
 (.reg 3 (some [0,0,3,7,15,15,63,127,15,15,783,1807,4095,8191,16383]) [0,1,9,10,43] [
 .r 29 (.mv (.t 9)),
 .r 30 (.mv (.t 10)),
 .r 31 (.bin .leq false (.t 29) (.t 30)),
 .r 32 (.mv (.t 31)),
 .rt 33 32 (.mv (.t 0)),
 .rt 34 32 (.mv (.t 1)),
 .rt 35 32 (.ixL 1 (.t 33) (.t 34)),
 .rt 36 32 (.ld none (.t 35)),
 .rt 37 32 (.mv (.t 0)),
 .rt 38 32 (.mv (.t 9)),
 .rt 39 32 (.ixL 1 (.t 37) (.t 38)),
 .rt 40 32 (.ld none (.t 39)),
 .rt 41 32 (.call (.k (.clo F_cmp_Less_int [])) [.t 36,.t 40]),
 .rt 42 32 (.un .not (.t 41)),
 .r 43 (.pick (.t 32) (.t 42) (.k (.v (.bool false))))])
 (.cond (.t 43)
 .skip
 (.exit 2)))
 (.block 3
 (.reg 4 none [0,1,9,10] [
 .r 44 (.mv (.t 9)),
 .r 45 (.bin .add false (.t 44) (.k (.v (.int .i64 1)))),
 .r 9 (.mv (.t 45))])))))
 (.seq
 (.block 4
 (.loop
 (.seq
 (.seq
 (.reg 5 (some [0,0,3,7,15,15,63,127,15,15,783,1807,4095,8191]) [0,1,9,10,59] [
 .r 46 (.mv (.t 9)),
 .r 47 (.mv (.t 10)),
 .r 48 (.bin .leq false (.t 46) (.t 47)),
 .r 49 (.mv (.t 48)),
 .rt 50 49 (.mv (.t 0)),
 .rt 51 49 (.mv (.t 1)),
 .rt 52 49 (.ixL 1 (.t 50) (.t 51)),
 .rt 53 49 (.ld none (.t 52)),
 .rt 54 49 (.mv (.t 0)),
 .rt 55 49 (.mv (.t 10)),
 .rt 56 49 (.ixL 1 (.t 54) (.t 55)),
 .rt 57 49 (.ld none (.t 56)),
 .rt 58 49 (.call (.k (.clo F_cmp_Less_int [])) [.t 53,.t 57]),
 .r 59 (.pick (.t 49) (.t 58) (.k (.v (.bool false))))])
 (.cond (.t 59)
 .skip
 (.exit 4)))
 (.block 5
 (.reg 6 none [0,1,9,10] [
 .r 60 (.mv (.t 10)),
 .r 61 (.bin .sub false (.t 60) (.k (.v (.int .i64 1)))),
 .r 10 (.mv (.t 61))])))))
 (.seq
 (.seq
 (.reg 7 none [0,1,9,10,64] [
 .r 62 (.mv (.t 9)),
 .r 63 (.mv (.t 10)),
 .r 64 (.bin .gtr false (.t 62) (.t 63))])
 (.cond (.t 64)
 (.exit 0)
 .skip))
 (.seq
 (.reg 8 (some [0,0,0,0,0,0,48,112,0,0,768,1792,4083,8179,16383,32767]) [0,1,9,10] [
 .r 65 (.mv (.t 0)),
 .r 66 (.mv (.t 9)),
 .r 67 (.mv (.t 0)),
 .r 68 (.mv (.t 10)),
 .r 69 (.mv (.t 0)),
 .r 70 (.mv (.t 10)),
 .r 71 (.ixL 1 (.t 69) (.t 70)),
 .r 72 (.ld none (.t 71)),
 .r 73 (.mv (.t 0)),
 .r 74 (.mv (.t 9)),
 .r 75 (.ixL 1 (.t 73) (.t 74)),
 .r 76 (.ld none (.t 75)),
 .r 77 (.ixL 1 (.t 65) (.t 66)),
 .rn (.st 1 (.t 77) (.t 72)),
 .r 78 (.ixL 1 (.t 67) (.t 68)),
 .rn (.st 1 (.t 78) (.t 76))])
 (.seq
 (.reg 9 none [0,1,9,10] [
 .r 79 (.mv (.t 9)),
 .r 80 (.bin .add false (.t 79) (.k (.v (.int .i64 1)))),
 .r 9 (.mv (.t 80))])
 (.reg 10 none [0,1,9,10] [
 .r 81 (.mv (.t 10)),
 .r 82 (.bin .sub false (.t 81) (.k (.v (.int .i64 1)))),
 .r 10 (.mv (.t 82))])))))))))
 (.seq
 (.reg 11 none [8] [
 .r 83 (.mv (.t 9)),
 .r 8 (.mv (.t 83))])
 .ret)))))
def ks_slices_partitionEqualOrdered_int:List (Nat×List Nat):=kssOf ir_slices_partitionEqualOrdered_int
theorem fn_slices_partitionEqualOrdered_int:FnIR Tryd.prog F_slices_partitionEqualOrdered_int 84 ks_slices_partitionEqualOrdered_int ir_slices_partitionEqualOrdered_int [(.tmp 8)]:=
 ⟨Tryd.f75,_,Tryd.func75,rfl,by kernel_rfl,rfl,by kernel_rfl,by kernel_rfl⟩
def ir_slices_partitionOrdered_int:RC:=
 (.seq
 (.reg 0 none [0,1,2,3] [
 .r 8 (.mv (.k (.v (.int .i64 0)))),
 .r 9 (.mv (.k (.v (.bool false))))])
 (.seq
 (.reg 1 (some [0,0,0,0,0,0,48,112,0,0,768,1792,4083,8179,16383,32767]) [0,1,2] [
 .r 12 (.mv (.t 0)),
 .r 13 (.mv (.t 1)),
 .r 14 (.mv (.t 0)),
 .r 15 (.mv (.t 3)),
 .r 16 (.mv (.t 0)),
 .r 17 (.mv (.t 3)),
 .r 18 (.ixL 1 (.t 16) (.t 17)),
 .r 19 (.ld none (.t 18)),
 .r 20 (.mv (.t 0)),
 .r 21 (.mv (.t 1)),
 .r 22 (.ixL 1 (.t 20) (.t 21)),
 .r 23 (.ld none (.t 22)),
 .r 24 (.ixL 1 (.t 12) (.t 13)),
 .rn (.st 1 (.t 24) (.t 19)),
 .r 25 (.ixL 1 (.t 14) (.t 15)),
 .rn (.st 1 (.t 25) (.t 23))])
 (.seq
 (.reg 2 none [0,1,10,11] [
 .r 26 (.mv (.t 1)),
 .r 27 (.bin .add false (.t 26) (.k (.v (.int .i64 1)))),
 .r 28 (.mv (.t 2)),
 .r 29 (.bin .sub false (.t 28) (.k (.v (.int .i64 1)))),
 .r 10 (.mv (.t 27)),
 .r 11 (.mv (.t 29))])
 (.seq
 (.block 0
 (.loop
 (.seq
 (.seq
 (.reg 3 (some [0,0,3,7,15,15,63,127,15,15,783,1807,4095,8191]) [0,1,10,11,43] [
 .r 30 (.mv (.t 10)),
 .r 31 (.mv (.t 11)),
 .r 32 (.bin .leq false (.t 30) (.t 31)),
 .r 33 (.mv (.t 32)),
 .rt 34 33 (.mv (.t 0)),
 .rt 35 33 (.mv (.t 10)),
 .rt 36 33 (.ixL 1 (.t 34) (.t 35)),
 .rt 37 33 (.ld none (.t 36)),
 .rt 38 33 (.mv (.t 0)),
 .rt 39 33 (.mv (.t 1)),
 .rt 40 33 (.ixL 1 (.t 38) (.t 39)),
 .rt 41 33 (.ld none (.t 40)),
 .rt 42 33 (.call (.k (.clo F_cmp_Less_int [])) [.t 37,.t 41]),
 .r 43 (.pick (.t 33) (.t 42) (.k (.v (.bool false))))])
 (.cond (.t 43)
 .skip
 (.exit 0)))
 (.block 1
 (.reg 4 none [0,1,10,11] [
 .r 44 (.mv (.t 10)),
 .r 45 (.bin .add false (.t 44) (.k (.v (.int .i64 1)))),
 .r 10 (.mv (.t 45))])))))
 (.seq
 (.block 2
 (.loop
 (.seq
 (.seq
 (.reg 5 (some [0,0,3,7,15,15,63,127,15,15,783,1807,4095,8191,16383]) [0,1,10,11,60] [
 .r 46 (.mv (.t 10)),
 .r 47 (.mv (.t 11)),
 .r 48 (.bin .leq false (.t 46) (.t 47)),
 .r 49 (.mv (.t 48)),
 .rt 50 49 (.mv (.t 0)),
 .rt 51 49 (.mv (.t 11)),
 .rt 52 49 (.ixL 1 (.t 50) (.t 51)),
 .rt 53 49 (.ld none (.t 52)),
 .rt 54 49 (.mv (.t 0)),
 .rt 55 49 (.mv (.t 1)),
 .rt 56 49 (.ixL 1 (.t 54) (.t 55)),
 .rt 57 49 (.ld none (.t 56)),
 .rt 58 49 (.call (.k (.clo F_cmp_Less_int [])) [.t 53,.t 57]),
 .rt 59 49 (.un .not (.t 58)),
 .r 60 (.pick (.t 49) (.t 59) (.k (.v (.bool false))))])
 (.cond (.t 60)
 .skip
 (.exit 2)))
 (.block 3
 (.reg 6 none [0,1,10,11] [
 .r 61 (.mv (.t 11)),
 .r 62 (.bin .sub false (.t 61) (.k (.v (.int .i64 1)))),
 .r 11 (.mv (.t 62))])))))
 (.seq
 (.seq
 (.reg 7 none [0,1,10,11,65] [
 .r 63 (.mv (.t 10)),
 .r 64 (.mv (.t 11)),
 .r 65 (.bin .gtr false (.t 63) (.t 64))])
 (.cond (.t 65)
 (.seq
 (.reg 8 (some [0,0,0,0,0,0,48,112,0,0,768,1792,4083,8179,16383,32767]) [11] [
 .r 66 (.mv (.t 0)),
 .r 67 (.mv (.t 11)),
 .r 68 (.mv (.t 0)),
 .r 69 (.mv (.t 1)),
 .r 70 (.mv (.t 0)),
 .r 71 (.mv (.t 1)),
 .r 72 (.ixL 1 (.t 70) (.t 71)),
 .r 73 (.ld none (.t 72)),
 .r 74 (.mv (.t 0)),
 .r 75 (.mv (.t 11)),
 .r 76 (.ixL 1 (.t 74) (.t 75)),
 .r 77 (.ld none (.t 76)),
 .r 78 (.ixL 1 (.t 66) (.t 67)),
 .rn (.st 1 (.t 78) (.t 73)),
 .r 79 (.ixL 1 (.t 68) (.t 69)),
 .rn (.st 1 (.t 79) (.t 77))])
 (.seq
 (.reg 9 none [8,9] [
 .r 80 (.mv (.t 11)),
 .r 8 (.mv (.t 80)),
 .r 9 (.mv (.k (.v (.bool true))))])
 .ret))
 .skip))
 (.seq
 (.reg 10 (some [0,0,0,0,0,0,48,112,0,0,768,1792,4083,8179,16383,32767]) [0,1,10,11] [
 .r 81 (.mv (.t 0)),
 .r 82 (.mv (.t 10)),
 .r 83 (.mv (.t 0)),
 .r 84 (.mv (.t 11)),
 .r 85 (.mv (.t 0)),
 .r 86 (.mv (.t 11)),
 .r 87 (.ixL 1 (.t 85) (.t 86)),
 .r 88 (.ld none (.t 87)),
 .r 89 (.mv (.t 0)),
 .r 90 (.mv (.t 10)),
 .r 91 (.ixL 1 (.t 89) (.t 90)),
 .r 92 (.ld none (.t 91)),
 .r 93 (.ixL 1 (.t 81) (.t 82)),
 .rn (.st 1 (.t 93) (.t 88)),
 .r 94 (.ixL 1 (.t 83) (.t 84)),
 .rn (.st 1 (.t 94) (.t 92))])
 (.seq
 (.reg 11 none [0,1,10,11] [
 .r 95 (.mv (.t 10)),
 .r 96 (.bin .add false (.t 95) (.k (.v (.int .i64 1)))),
 .r 10 (.mv (.t 96))])
 (.seq
 (.reg 12 none [0,1,10,11] [
 .r 97 (.mv (.t 11)),
 .r 98 (.bin .sub false (.t 97) (.k (.v (.int .i64 1)))),
 .r 11 (.mv (.t 98))])
 (.seq
 (.block 4
 (.loop
 (.block 5
 (.seq
 (.block 6
 (.loop
 (.seq
 (.seq
 (.reg 13 (some [0,0,3,7,15,15,63,127,15,15,783,1807,4095,8191]) [0,1,10,11,112] [
 .r 99 (.mv (.t 10)),
 .r 100 (.mv (.t 11)),
 .r 101 (.bin .leq false (.t 99) (.t 100)),
 .r 102 (.mv (.t 101)),
 .rt 103 102 (.mv (.t 0)),
 .rt 104 102 (.mv (.t 10)),
 .rt 105 102 (.ixL 1 (.t 103) (.t 104)),
 .rt 106 102 (.ld none (.t 105)),
 .rt 107 102 (.mv (.t 0)),
 .rt 108 102 (.mv (.t 1)),
 .rt 109 102 (.ixL 1 (.t 107) (.t 108)),
 .rt 110 102 (.ld none (.t 109)),
 .rt 111 102 (.call (.k (.clo F_cmp_Less_int [])) [.t 106,.t 110]),
 .r 112 (.pick (.t 102) (.t 111) (.k (.v (.bool false))))])
 (.cond (.t 112)
 .skip
 (.exit 6)))
 (.block 7
 (.reg 14 none [0,1,10,11] [
 .r 113 (.mv (.t 10)),
 .r 114 (.bin .add false (.t 113) (.k (.v (.int .i64 1)))),
 .r 10 (.mv (.t 114))])))))
 (.seq
 (.block 8
 (.loop
 (.seq
 (.seq
 (.reg 15 (some [0,0,3,7,15,15,63,127,15,15,783,1807,4095,8191,16383]) [0,1,10,11,129] [
 .r 115 (.mv (.t 10)),
 .r 116 (.mv (.t 11)),
 .r 117 (.bin .leq false (.t 115) (.t 116)),
 .r 118 (.mv (.t 117)),
 .rt 119 118 (.mv (.t 0)),
 .rt 120 118 (.mv (.t 11)),
 .rt 121 118 (.ixL 1 (.t 119) (.t 120)),
 .rt 122 118 (.ld none (.t 121)),
 .rt 123 118 (.mv (.t 0)),
 .rt 124 118 (.mv (.t 1)),
 .rt 125 118 (.ixL 1 (.t 123) (.t 124)),
 .rt 126 118 (.ld none (.t 125)),
 .rt 127 118 (.call (.k (.clo F_cmp_Less_int [])) [.t 122,.t 126]),
 .rt 128 118 (.un .not (.t 127)),
 .r 129 (.pick (.t 118) (.t 128) (.k (.v (.bool false))))])
 (.cond (.t 129)
 .skip
 (.exit 8)))
 (.block 9
 (.reg 16 none [0,1,10,11] [
 .r 130 (.mv (.t 11)),
 .r 131 (.bin .sub false (.t 130) (.k (.v (.int .i64 1)))),
 .r 11 (.mv (.t 131))])))))
 (.seq
 (.seq
 (.reg 17 none [0,1,10,11,134] [
 .r 132 (.mv (.t 10)),
 .r 133 (.mv (.t 11)),
 .r 134 (.bin .gtr false (.t 132) (.t 133))])
 (.cond (.t 134)
 (.exit 4)
 .skip))
 (.seq
 (.reg 18 (some [0,0,0,0,0,0,48,112,0,0,768,1792,4083,8179,16383,32767]) [0,1,10,11] [
 .r 135 (.mv (.t 0)),
 .r 136 (.mv (.t 10)),
 .r 137 (.mv (.t 0)),
 .r 138 (.mv (.t 11)),
 .r 139 (.mv (.t 0)),
 .r 140 (.mv (.t 11)),
 .r 141 (.ixL 1 (.t 139) (.t 140)),
 .r 142 (.ld none (.t 141)),
 .r 143 (.mv (.t 0)),
 .r 144 (.mv (.t 10)),
 .r 145 (.ixL 1 (.t 143) (.t 144)),
 .r 146 (.ld none (.t 145)),
 .r 147 (.ixL 1 (.t 135) (.t 136)),
 .rn (.st 1 (.t 147) (.t 142)),
 .r 148 (.ixL 1 (.t 137) (.t 138)),
 .rn (.st 1 (.t 148) (.t 146))])
 (.seq
 (.reg 19 none [0,1,10,11] [
 .r 149 (.mv (.t 10)),
 .r 150 (.bin .add false (.t 149) (.k (.v (.int .i64 1)))),
 .r 10 (.mv (.t 150))])
 (.reg 20 none [0,1,10,11] [
 .r 151 (.mv (.t 11)),
 .r 152 (.bin .sub false (.t 151) (.k (.v (.int .i64 1)))),
 .r 11 (.mv (.t 152))])))))))))
 (.seq
 (.reg 21 (some [0,0,0,0,0,0,48,112,0,0,768,1792,4083,8179,16383,32767]) [11] [
 .r 153 (.mv (.t 0)),
 .r 154 (.mv (.t 11)),
 .r 155 (.mv (.t 0)),
 .r 156 (.mv (.t 1)),
 .r 157 (.mv (.t 0)),
 .r 158 (.mv (.t 1)),
 .r 159 (.ixL 1 (.t 157) (.t 158)),
 .r 160 (.ld none (.t 159)),
 .r 161 (.mv (.t 0)),
 .r 162 (.mv (.t 11)),
 .r 163 (.ixL 1 (.t 161) (.t 162)),
 .r 164 (.ld none (.t 163)),
 .r 165 (.ixL 1 (.t 153) (.t 154)),
 .rn (.st 1 (.t 165) (.t 160)),
 .r 166 (.ixL 1 (.t 155) (.t 156)),
 .rn (.st 1 (.t 166) (.t 164))])
 (.seq
 (.reg 22 none [8,9] [
 .r 167 (.mv (.t 11)),
 .r 8 (.mv (.t 167)),
 .r 9 (.mv (.k (.v (.bool false))))])
 .ret))))))))))))
def ks_slices_partitionOrdered_int:List (Nat×List Nat):=kssOf ir_slices_partitionOrdered_int
theorem fn_slices_partitionOrdered_int:FnIR Tryd.prog F_slices_partitionOrdered_int 168 ks_slices_partitionOrdered_int ir_slices_partitionOrdered_int [(.tmp 8),(.tmp 9)]:=
 ⟨Tryd.f76,_,Tryd.func76,rfl,by kernel_rfl,rfl,by kernel_rfl,by kernel_rfl⟩
def ir_math_bits_Len64:RC:=
 (.seq
 (.reg 0 none [0,2] [
 .r 2 (.mv (.k (.v (.int .i64 0))))])
 (.seq
 (.seq
 (.reg 1 none [0,2,4] [
 .r 3 (.mv (.t 0)),
 .r 4 (.bin .geq false (.t 3) (.k (.v (.int .u64 4294967296))))])
 (.cond (.t 4)
 (.seq
 (.reg 2 none [0] [
 .r 5 (.mv (.t 0)),
 .r 6 (.bin .shr false (.t 5) (.k (.v (.int .u64 32)))),
 .r 0 (.mv (.t 6))])
 (.reg 3 none [0,2] [
 .r 2 (.mv (.k (.v (.int .i64 32))))]))
 .skip))
 (.seq
 (.seq
 (.reg 4 none [0,2,8] [
 .r 7 (.mv (.t 0)),
 .r 8 (.bin .geq false (.t 7) (.k (.v (.int .u64 65536))))])
 (.cond (.t 8)
 (.seq
 (.reg 5 none [0,2] [
 .r 9 (.mv (.t 0)),
 .r 10 (.bin .shr false (.t 9) (.k (.v (.int .u64 16)))),
 .r 0 (.mv (.t 10))])
 (.reg 6 none [0,2] [
 .r 11 (.mv (.t 2)),
 .r 12 (.bin .add false (.t 11) (.k (.v (.int .i64 16)))),
 .r 2 (.mv (.t 12))]))
 .skip))
 (.seq
 (.seq
 (.reg 7 none [0,2,14] [
 .r 13 (.mv (.t 0)),
 .r 14 (.bin .geq false (.t 13) (.k (.v (.int .u64 256))))])
 (.cond (.t 14)
 (.seq
 (.reg 8 none [0,2] [
 .r 15 (.mv (.t 0)),
 .r 16 (.bin .shr false (.t 15) (.k (.v (.int .u64 8)))),
 .r 0 (.mv (.t 16))])
 (.reg 9 none [0,2] [
 .r 17 (.mv (.t 2)),
 .r 18 (.bin .add false (.t 17) (.k (.v (.int .i64 8)))),
 .r 2 (.mv (.t 18))]))
 .skip))
 (.seq
 (.reg 10 none [2] [
 .r 19 (.mv (.t 2)),
 .r 20 (.mv (.t 0)),
 .r 21 (.cvI .u8 (.t 20)),
 .r 22 (.sx (.k (.v (.string ⟨#[0,1,2,2,3,3,3,3,4,4,4,4,4,4,4,4,5,5,5,5,5,5,5,5,5,5,5,5,5,5,5,5,6,6,6,6,6,6,6,6,6,6,6,6,6,6,6,6,6,6,6,6,6,6,6,6,6,6,6,6,6,6,6,6,7,7,7,7,7,7,7,7,7,7,7,7,7,7,7,7,7,7,7,7,7,7,7,7,7,7,7,7,7,7,7,7,7,7,7,7,7,7,7,7,7,7,7,7,7,7,7,7,7,7,7,7,7,7,7,7,7,7,7,7,7,7,7,7,8,8,8,8,8,8,8,8,8,8,8,8,8,8,8,8,8,8,8,8,8,8,8,8,8,8,8,8,8,8,8,8,8,8,8,8,8,8,8,8,8,8,8,8,8,8,8,8,8,8,8,8,8,8,8,8,8,8,8,8,8,8,8,8,8,8,8,8,8,8,8,8,8,8,8,8,8,8,8,8,8,8,8,8,8,8,8,8,8,8,8,8,8,8,8,8,8,8,8,8,8,8,8,8,8,8,8,8,8,8,8,8,8,8,8,8,8,8,8,8,8,8,8,8,8,8,8,8]⟩))) (.t 21)),
 .r 23 (.cvI .i64 (.t 22)),
 .r 24 (.bin .add false (.t 19) (.t 23)),
 .r 2 (.mv (.t 24))])
 .ret)))))
def ks_math_bits_Len64:List (Nat×List Nat):=kssOf ir_math_bits_Len64
theorem fn_math_bits_Len64:FnIR Tryd.prog F_math_bits_Len64 25 ks_math_bits_Len64 ir_math_bits_Len64 [(.tmp 2)]:=
 ⟨Tryd.f78,_,Tryd.func78,rfl,by kernel_rfl,rfl,by kernel_rfl,by kernel_rfl⟩
def ir_slices_Max_int:RC:=
 (.seq
 (.reg 0 none [0] [
 .r 2 (.mv (.k (.v (.int .i64 0))))])
 (.seq
 (.seq
 (.reg 1 none [0,7] [
 .r 5 (.mv (.t 0)),
 .r 6 (.lenL (.t 5)),
 .r 7 (.bin .lss false (.t 6) (.k (.v (.int .i64 1))))])
 (.cond (.t 7)
 .stuck
 .skip))
 (.seq
 (.reg 3 none [0,3] [
 .r 9 (.mv (.t 0)),
 .r 10 (.ixL 1 (.t 9) (.k (.v (.int .i64 0)))),
 .r 11 (.ld none (.t 10)),
 .r 3 (.mv (.t 11))])
 (.seq
 (.seq
 (.reg 4 none [0,3,4] [
 .r 4 (.mv (.k (.v (.int .i64 1))))])
 (.block 0
 (.loop
 (.seq
 (.seq
 (.reg 5 none [0,3,4,15] [
 .r 12 (.mv (.t 4)),
 .r 13 (.mv (.t 0)),
 .r 14 (.lenL (.t 13)),
 .r 15 (.bin .lss false (.t 12) (.t 14))])
 (.cond (.t 15)
 .skip
 (.exit 0)))
 (.seq
 (.block 1
 (.reg 7 none [0,3,4] [
 .r 18 (.mv (.t 3)),
 .r 19 (.mv (.t 0)),
 .r 20 (.mv (.t 4)),
 .r 21 (.ixL 1 (.t 19) (.t 20)),
 .r 22 (.ld none (.t 21)),
 .r 23 (.mx [.t 18,.t 22]),
 .r 3 (.mv (.t 23))]))
 (.reg 6 none [0,3,4] [
 .r 16 (.mv (.t 4)),
 .r 17 (.bin .add false (.t 16) (.k (.v (.int .i64 1)))),
 .r 4 (.mv (.t 17))]))))))
 (.seq
 (.reg 8 none [2] [
 .r 24 (.mv (.t 3)),
 .r 2 (.mv (.t 24))])
 .ret)))))
def ks_slices_Max_int:List (Nat×List Nat):=kssOf ir_slices_Max_int
theorem fn_slices_Max_int:FnIR Tryd.prog F_slices_Max_int 25 ks_slices_Max_int ir_slices_Max_int [(.tmp 2)]:=
 ⟨Tryd.f79,_,Tryd.func79,rfl,by kernel_rfl,rfl,by kernel_rfl,by kernel_rfl⟩
def ir_cells_places:RC:=
 (.seq
 (.reg 0 none [0,1] [
 .r 4 (.mv (.k (.v (.slice none 0 0))))])
 (.seq
 (.reg 1 none [0,1,5] [
 .r 7 (.mv (.t 0)),
 .r 8 (.lenL (.t 7)),
 .r 9 (.mk 1 8 (.v (.int .i64 0)) (.t 8) (.t 8)),
 .r 5 (.mv (.t 9))])
 (.seq
 (.seq
 (.reg 2 none [0,1,5,6] [
 .r 10 (.mv (.t 0)),
 .r 11 (.lenL (.t 10)),
 .r 12 (.bin .sub false (.t 11) (.k (.v (.int .i64 1)))),
 .r 6 (.mv (.t 12))])
 (.block 0
 (.loop
 (.seq
 (.seq
 (.reg 3 none [0,1,5,6,14] [
 .r 13 (.mv (.t 6)),
 .r 14 (.bin .geq false (.t 13) (.k (.v (.int .i64 0))))])
 (.cond (.t 14)
 .skip
 (.exit 0)))
 (.seq
 (.block 1
 (.seq
 (.reg 5 none [0,1,5,6] [
 .r 17 (.mv (.t 5)),
 .r 18 (.mv (.t 6)),
 .r 19 (.mv (.t 1)),
 .r 20 (.mv (.t 0)),
 .r 21 (.mv (.t 6)),
 .r 22 (.ixL 1 (.t 20) (.t 21)),
 .r 23 (.ld none (.t 22)),
 .r 24 (.bin .rem false (.t 19) (.t 23)),
 .r 25 (.ixL 1 (.t 17) (.t 18)),
 .rn (.st 1 (.t 25) (.t 24))])
 (.reg 6 none [0,1,5,6] [
 .r 26 (.mv (.t 1)),
 .r 27 (.mv (.t 0)),
 .r 28 (.mv (.t 6)),
 .r 29 (.ixL 1 (.t 27) (.t 28)),
 .r 30 (.ld none (.t 29)),
 .r 31 (.bin .quo false (.t 26) (.t 30)),
 .r 1 (.mv (.t 31))])))
 (.reg 4 none [0,1,5,6] [
 .r 15 (.mv (.t 6)),
 .r 16 (.bin .sub false (.t 15) (.k (.v (.int .i64 1)))),
 .r 6 (.mv (.t 16))]))))))
 (.seq
 (.reg 7 none [4] [
 .r 32 (.mv (.t 5)),
 .r 4 (.mv (.t 32))])
 .ret))))
def ks_cells_places:List (Nat×List Nat):=kssOf ir_cells_places
theorem fn_cells_places:FnIR Tryd.prog F_cells_places 33 ks_cells_places ir_cells_places [(.tmp 4)]:=
 ⟨Tryd.f80,_,Tryd.func80,rfl,by kernel_rfl,rfl,by kernel_rfl,by kernel_rfl⟩
def ir_slices_Contains_int:RC:=
 (.seq
 (.reg 0 none [0,1] [
 .r 4 (.mv (.k (.v (.bool false))))])
 (.seq
 (.reg 1 none [4] [
 .r 5 (.mv (.t 0)),
 .r 6 (.mv (.t 1)),
 .r 7 (.call (.k (.clo F_slices_Index_int [])) [.t 5,.t 6]),
 .r 8 (.bin .geq false (.t 7) (.k (.v (.int .i64 0)))),
 .r 4 (.mv (.t 8))])
 .ret))
def ks_slices_Contains_int:List (Nat×List Nat):=kssOf ir_slices_Contains_int
theorem fn_slices_Contains_int:FnIR Tryd.prog F_slices_Contains_int 9 ks_slices_Contains_int ir_slices_Contains_int [(.tmp 4)]:=
 ⟨Tryd.f81,_,Tryd.func81,rfl,by kernel_rfl,rfl,by kernel_rfl,by kernel_rfl⟩
def ir_cells_number:RC:=
 (.seq
 (.reg 0 none [0,1] [
 .r 4 (.mv (.k (.v (.int .i64 0))))])
 (.seq
 (.reg 1 none [0,1,5] [
 .r 5 (.mv (.k (.v (.int .i64 0))))])
 (.seq
 (.seq
 (.reg 2 none [1,5,8,9,10] [
 .r 8 (.mv (.t 0)),
 .r 9 (.lenL (.t 8)),
 .r 10 (.mv (.k (.v (.int .i64 0))))])
 (.block 0
 (.loop
 (.seq
 (.reg 3 none [1,5,8,9,10,11] [
 .r 11 (.bin .lss false (.t 10) (.t 9))])
 (.seq
 (.cond (.t 11)
 .skip
 (.exit 0))
 (.seq
 (.block 1
 (.seq
 (.reg 4 none [1,5,6,7,8,9,10] [
 .r 12 (.mv (.t 10)),
 .r 13 (.ixL 1 (.t 8) (.t 10)),
 .r 14 (.ld none (.t 13)),
 .r 6 (.mv (.t 12)),
 .r 7 (.mv (.t 14))])
 (.reg 5 none [1,5,8,9,10] [
 .r 15 (.mv (.t 5)),
 .r 16 (.mv (.t 7)),
 .r 17 (.bin .mul false (.t 15) (.t 16)),
 .r 18 (.mv (.t 1)),
 .r 19 (.mv (.t 6)),
 .r 20 (.ixL 1 (.t 18) (.t 19)),
 .r 21 (.ld none (.t 20)),
 .r 22 (.bin .add false (.t 17) (.t 21)),
 .r 5 (.mv (.t 22))])))
 (.reg 6 none [1,5,8,9,10] [
 .r 23 (.bin .add false (.t 10) (.k (.v (.int .i64 1)))),
 .r 10 (.mv (.t 23))])))))))
 (.seq
 (.reg 7 none [4] [
 .r 24 (.mv (.t 5)),
 .r 4 (.mv (.t 24))])
 .ret))))
def ks_cells_number:List (Nat×List Nat):=kssOf ir_cells_number
theorem fn_cells_number:FnIR Tryd.prog F_cells_number 25 ks_cells_number ir_cells_number [(.tmp 4)]:=
 ⟨Tryd.f82,_,Tryd.func82,rfl,by kernel_rfl,rfl,by kernel_rfl,by kernel_rfl⟩
def ir_internal_strconv_AppendUint:RC:=
 (.seq
 (.reg 0 none [0,1,2] [
 .r 6 (.mv (.k (.v (.slice none 0 0))))])
 (.seq
 (.seq
 (.reg 1 none [0,1,2,10] [
 .r 9 (.mv (.t 2)),
 .r 10 (.bin .eql false (.t 9) (.k (.v (.int .i64 10))))])
 (.cond (.t 10)
 (.seq
 (.seq
 (.reg 2 none [0,1,12] [
 .r 11 (.mv (.t 1)),
 .r 12 (.bin .lss false (.t 11) (.k (.v (.int .u64 100))))])
 (.cond (.t 12)
 (.seq
 (.reg 3 none [6] [
 .r 13 (.mv (.t 0)),
 .r 14 (.mv (.t 1)),
 .r 15 (.cvI .i64 (.t 14)),
 .r 16 (.call (.k (.clo F_internal_strconv_small [])) [.t 15]),
 .r 17 (.app 1 1 true (.t 13) (.t 16)),
 .r 6 (.mv (.t 17))])
 .ret)
 .skip))
 (.seq
 (.reg 4 none [1] [
 .r 7 (.new (.agg [.v (.int .u8 0),.v (.int .u8 0),.v (.int .u8 0),.v (.int .u8 0),.v (.int .u8 0),.v (.int .u8 0),.v (.int .u8 0),.v (.int .u8 0),.v (.int .u8 0),.v (.int .u8 0),.v (.int .u8 0),.v (.int .u8 0),.v (.int .u8 0),.v (.int .u8 0),.v (.int .u8 0),.v (.int .u8 0),.v (.int .u8 0),.v (.int .u8 0),.v (.int .u8 0),.v (.int .u8 0),.v (.int .u8 0),.v (.int .u8 0),.v (.int .u8 0),.v (.int .u8 0)]))])
 (.seq
 (.reg 5 none [] [
 .r 18 (.mv (.t 1)),
 .r 19 (.call (.k (.clo F_internal_strconv_numDigits [])) [.t 18]),
 .r 8 (.mv (.t 19))])
 (.seq
 .stuck
 (.seq
 .stuck
 .ret)))))
 .skip))
 (.seq
 (.reg 8 none [0] [
 .r 29 (.mv (.t 0)),
 .r 30 (.mv (.t 1)),
 .r 31 (.mv (.t 2)),
 .r 32 (.call (.k (.clo F_internal_strconv_formatBits [])) [.t 29,.t 30,.t 31,.k (.v (.bool false)),.k (.v (.bool true))]),
 .r 28 (.mv (.t 32)),
 .r 33 (.ex (.t 28) 0),
 .r 34 (.ex (.t 28) 1),
 .r 0 (.mv (.t 33))])
 (.seq
 (.reg 9 none [6] [
 .r 35 (.mv (.t 0)),
 .r 6 (.mv (.t 35))])
 .ret))))
def ks_internal_strconv_AppendUint:List (Nat×List Nat):=kssOf ir_internal_strconv_AppendUint
theorem fn_internal_strconv_AppendUint:FnIR Tryd.prog F_internal_strconv_AppendUint 36 ks_internal_strconv_AppendUint ir_internal_strconv_AppendUint [(.tmp 6)]:=
 ⟨Tryd.f83,_,Tryd.func83,rfl,by kernel_rfl,rfl,by kernel_rfl,by kernel_rfl⟩
def ir_slices_siftDownOrdered_int:RC:=
 (.seq
 (.reg 0 none [0,2,3,8] [
 .r 10 (.mv (.t 1)),
 .r 8 (.mv (.t 10))])
 (.block 0
 (.loop
 (.block 1
 (.seq
 (.reg 1 none [0,2,3,8,9] [
 .r 11 (.mv (.t 8)),
 .r 12 (.bin .mul false (.k (.v (.int .i64 2))) (.t 11)),
 .r 13 (.bin .add false (.t 12) (.k (.v (.int .i64 1)))),
 .r 9 (.mv (.t 13))])
 (.seq
 (.seq
 (.reg 2 none [0,2,3,8,9,16] [
 .r 14 (.mv (.t 9)),
 .r 15 (.mv (.t 2)),
 .r 16 (.bin .geq false (.t 14) (.t 15))])
 (.cond (.t 16)
 (.exit 0)
 .skip))
 (.seq
 (.seq
 (.reg 3 (some [0,1,0,7,15,31,31,31,223,511,1023,31,31,31,12319,28703,63519,129055,262143,524287]) [0,2,3,8,9,36] [
 .r 17 (.mv (.t 9)),
 .r 18 (.bin .add false (.t 17) (.k (.v (.int .i64 1)))),
 .r 19 (.mv (.t 2)),
 .r 20 (.bin .lss false (.t 18) (.t 19)),
 .r 21 (.mv (.t 20)),
 .rt 22 21 (.mv (.t 0)),
 .rt 23 21 (.mv (.t 3)),
 .rt 24 21 (.mv (.t 9)),
 .rt 25 21 (.bin .add false (.t 23) (.t 24)),
 .rt 26 21 (.ixL 1 (.t 22) (.t 25)),
 .rt 27 21 (.ld none (.t 26)),
 .rt 28 21 (.mv (.t 0)),
 .rt 29 21 (.mv (.t 3)),
 .rt 30 21 (.mv (.t 9)),
 .rt 31 21 (.bin .add false (.t 29) (.t 30)),
 .rt 32 21 (.bin .add false (.t 31) (.k (.v (.int .i64 1)))),
 .rt 33 21 (.ixL 1 (.t 28) (.t 32)),
 .rt 34 21 (.ld none (.t 33)),
 .rt 35 21 (.call (.k (.clo F_cmp_Less_int [])) [.t 27,.t 34]),
 .r 36 (.pick (.t 21) (.t 35) (.k (.v (.bool false))))])
 (.cond (.t 36)
 (.reg 4 none [0,2,3,8,9] [
 .r 37 (.mv (.t 9)),
 .r 38 (.bin .add false (.t 37) (.k (.v (.int .i64 1)))),
 .r 9 (.mv (.t 38))])
 .skip))
 (.seq
 (.seq
 (.reg 5 (some [0,0,0,6,15,31,0,0,0,384,960,1984,4095,8191]) [0,2,3,8,9,52] [
 .r 39 (.mv (.t 0)),
 .r 40 (.mv (.t 3)),
 .r 41 (.mv (.t 8)),
 .r 42 (.bin .add false (.t 40) (.t 41)),
 .r 43 (.ixL 1 (.t 39) (.t 42)),
 .r 44 (.ld none (.t 43)),
 .r 45 (.mv (.t 0)),
 .r 46 (.mv (.t 3)),
 .r 47 (.mv (.t 9)),
 .r 48 (.bin .add false (.t 46) (.t 47)),
 .r 49 (.ixL 1 (.t 45) (.t 48)),
 .r 50 (.ld none (.t 49)),
 .r 51 (.call (.k (.clo F_cmp_Less_int [])) [.t 44,.t 50]),
 .r 52 (.un .not (.t 51))])
 (.cond (.t 52)
 .ret
 .skip))
 (.seq
 (.reg 6 (some [0,0,0,6,0,0,0,96,0,0,0,1536,3840,7936,0,0,0,98304,245760,507904,1048335,2096911,4194303,8388607]) [0,2,3,9] [
 .r 53 (.mv (.t 0)),
 .r 54 (.mv (.t 3)),
 .r 55 (.mv (.t 8)),
 .r 56 (.bin .add false (.t 54) (.t 55)),
 .r 57 (.mv (.t 0)),
 .r 58 (.mv (.t 3)),
 .r 59 (.mv (.t 9)),
 .r 60 (.bin .add false (.t 58) (.t 59)),
 .r 61 (.mv (.t 0)),
 .r 62 (.mv (.t 3)),
 .r 63 (.mv (.t 9)),
 .r 64 (.bin .add false (.t 62) (.t 63)),
 .r 65 (.ixL 1 (.t 61) (.t 64)),
 .r 66 (.ld none (.t 65)),
 .r 67 (.mv (.t 0)),
 .r 68 (.mv (.t 3)),
 .r 69 (.mv (.t 8)),
 .r 70 (.bin .add false (.t 68) (.t 69)),
 .r 71 (.ixL 1 (.t 67) (.t 70)),
 .r 72 (.ld none (.t 71)),
 .r 73 (.ixL 1 (.t 53) (.t 56)),
 .rn (.st 1 (.t 73) (.t 66)),
 .r 74 (.ixL 1 (.t 57) (.t 60)),
 .rn (.st 1 (.t 74) (.t 72))])
 (.reg 7 none [0,2,3,8] [
 .r 75 (.mv (.t 9)),
 .r 8 (.mv (.t 75))]))))))))))
def ks_slices_siftDownOrdered_int:List (Nat×List Nat):=kssOf ir_slices_siftDownOrdered_int
theorem fn_slices_siftDownOrdered_int:FnIR Tryd.prog F_slices_siftDownOrdered_int 76 ks_slices_siftDownOrdered_int ir_slices_siftDownOrdered_int []:=
 ⟨Tryd.f84,_,Tryd.func84,rfl,by kernel_rfl,rfl,by kernel_rfl,by kernel_rfl⟩
def ir_slices_nextPowerOfTwo:RC:=
 (.seq
 (.reg 0 none [0] [
 .r 2 (.mv (.k (.v (.int .u64 0))))])
 (.seq
 (.reg 1 none [2] [
 .r 3 (.mv (.t 0)),
 .r 4 (.cvI .u64 (.t 3)),
 .r 5 (.call (.k (.clo F_math_bits_Len [])) [.t 4]),
 .r 6 (.bin .shl false (.k (.v (.int .u64 1))) (.t 5)),
 .r 2 (.mv (.t 6))])
 .ret))
def ks_slices_nextPowerOfTwo:List (Nat×List Nat):=kssOf ir_slices_nextPowerOfTwo
theorem fn_slices_nextPowerOfTwo:FnIR Tryd.prog F_slices_nextPowerOfTwo 7 ks_slices_nextPowerOfTwo ir_slices_nextPowerOfTwo [(.tmp 2)]:=
 ⟨Tryd.f85,_,Tryd.func85,rfl,by kernel_rfl,rfl,by kernel_rfl,by kernel_rfl⟩
def ir_slices_xorshift_Next:RC:=
 (.seq
 (.reg 0 none [0] [
 .r 2 (.mv (.k (.v (.int .u64 0))))])
 (.seq
 (.reg 1 (some [0,1,3,0,8,24,56,127,255,511]) [0] [
 .r 3 (.mv (.t 0)),
 .r 4 (.nc (.t 3)),
 .r 5 (.ld none (.t 4)),
 .r 6 (.mv (.t 0)),
 .r 7 (.nc (.t 6)),
 .r 8 (.ld none (.t 7)),
 .r 9 (.bin .shl false (.t 8) (.k (.v (.int .u64 13)))),
 .r 10 (.bin .xor false (.t 5) (.t 9)),
 .r 11 (.nc (.t 3)),
 .rn (.st 1 (.t 11) (.t 10))])
 (.seq
 (.reg 2 (some [0,1,3,0,8,24,56,127,255,511]) [0] [
 .r 12 (.mv (.t 0)),
 .r 13 (.nc (.t 12)),
 .r 14 (.ld none (.t 13)),
 .r 15 (.mv (.t 0)),
 .r 16 (.nc (.t 15)),
 .r 17 (.ld none (.t 16)),
 .r 18 (.bin .shr false (.t 17) (.k (.v (.int .u64 7)))),
 .r 19 (.bin .xor false (.t 14) (.t 18)),
 .r 20 (.nc (.t 12)),
 .rn (.st 1 (.t 20) (.t 19))])
 (.seq
 (.reg 3 (some [0,1,3,0,8,24,56,127,255,511]) [0] [
 .r 21 (.mv (.t 0)),
 .r 22 (.nc (.t 21)),
 .r 23 (.ld none (.t 22)),
 .r 24 (.mv (.t 0)),
 .r 25 (.nc (.t 24)),
 .r 26 (.ld none (.t 25)),
 .r 27 (.bin .shl false (.t 26) (.k (.v (.int .u64 17)))),
 .r 28 (.bin .xor false (.t 23) (.t 27)),
 .r 29 (.nc (.t 21)),
 .rn (.st 1 (.t 29) (.t 28))])
 (.seq
 (.reg 4 none [2] [
 .r 30 (.mv (.t 0)),
 .r 31 (.nc (.t 30)),
 .r 32 (.ld none (.t 31)),
 .r 2 (.mv (.t 32))])
 .ret)))))
def ks_slices_xorshift_Next:List (Nat×List Nat):=kssOf ir_slices_xorshift_Next
theorem fn_slices_xorshift_Next:FnIR Tryd.prog F_slices_xorshift_Next 33 ks_slices_xorshift_Next ir_slices_xorshift_Next [(.tmp 2)]:=
 ⟨Tryd.f86,_,Tryd.func86,rfl,by kernel_rfl,rfl,by kernel_rfl,by kernel_rfl⟩
def ir_slices_medianAdjacentOrdered_int:RC:=
 (.seq
 (.reg 0 none [0,1,2] [
 .r 6 (.mv (.k (.v (.int .i64 0))))])
 (.seq
 (.reg 1 none [6] [
 .r 7 (.mv (.t 0)),
 .r 8 (.mv (.t 1)),
 .r 9 (.bin .sub false (.t 8) (.k (.v (.int .i64 1)))),
 .r 10 (.mv (.t 1)),
 .r 11 (.mv (.t 1)),
 .r 12 (.bin .add false (.t 11) (.k (.v (.int .i64 1)))),
 .r 13 (.mv (.t 2)),
 .r 14 (.call (.k (.clo F_slices_medianOrdered_int [])) [.t 7,.t 9,.t 10,.t 12,.t 13]),
 .r 6 (.mv (.t 14))])
 .ret))
def ks_slices_medianAdjacentOrdered_int:List (Nat×List Nat):=kssOf ir_slices_medianAdjacentOrdered_int
theorem fn_slices_medianAdjacentOrdered_int:FnIR Tryd.prog F_slices_medianAdjacentOrdered_int 15 ks_slices_medianAdjacentOrdered_int ir_slices_medianAdjacentOrdered_int [(.tmp 6)]:=
 ⟨Tryd.f87,_,Tryd.func87,rfl,by kernel_rfl,rfl,by kernel_rfl,by kernel_rfl⟩
def ir_slices_medianOrdered_int:RC:=
 (.seq
 (.reg 0 none [0,1,2,3,4] [
 .r 10 (.mv (.k (.v (.int .i64 0))))])
 (.seq
 (.reg 1 none [0,1,2,3,4] [
 .r 12 (.mv (.t 0)),
 .r 13 (.mv (.t 1)),
 .r 14 (.mv (.t 2)),
 .r 15 (.mv (.t 4)),
 .r 16 (.call (.k (.clo F_slices_order2Ordered_int [])) [.t 12,.t 13,.t 14,.t 15]),
 .r 11 (.mv (.t 16)),
 .r 17 (.ex (.t 11) 0),
 .r 18 (.ex (.t 11) 1),
 .r 1 (.mv (.t 17)),
 .r 2 (.mv (.t 18))])
 (.seq
 (.reg 2 none [0,1,2,4] [
 .r 20 (.mv (.t 0)),
 .r 21 (.mv (.t 2)),
 .r 22 (.mv (.t 3)),
 .r 23 (.mv (.t 4)),
 .r 24 (.call (.k (.clo F_slices_order2Ordered_int [])) [.t 20,.t 21,.t 22,.t 23]),
 .r 19 (.mv (.t 24)),
 .r 25 (.ex (.t 19) 0),
 .r 26 (.ex (.t 19) 1),
 .r 2 (.mv (.t 25)),
 .r 3 (.mv (.t 26))])
 (.seq
 (.reg 3 none [2] [
 .r 28 (.mv (.t 0)),
 .r 29 (.mv (.t 1)),
 .r 30 (.mv (.t 2)),
 .r 31 (.mv (.t 4)),
 .r 32 (.call (.k (.clo F_slices_order2Ordered_int [])) [.t 28,.t 29,.t 30,.t 31]),
 .r 27 (.mv (.t 32)),
 .r 33 (.ex (.t 27) 0),
 .r 34 (.ex (.t 27) 1),
 .r 1 (.mv (.t 33)),
 .r 2 (.mv (.t 34))])
 (.seq
 (.reg 4 none [10] [
 .r 35 (.mv (.t 2)),
 .r 10 (.mv (.t 35))])
 .ret)))))
def ks_slices_medianOrdered_int:List (Nat×List Nat):=kssOf ir_slices_medianOrdered_int
theorem fn_slices_medianOrdered_int:FnIR Tryd.prog F_slices_medianOrdered_int 36 ks_slices_medianOrdered_int ir_slices_medianOrdered_int [(.tmp 10)]:=
 ⟨Tryd.f88,_,Tryd.func88,rfl,by kernel_rfl,rfl,by kernel_rfl,by kernel_rfl⟩
def ir_cmp_isNaN_int:RC:=
 (.seq
 (.reg 0 none [0] [
 .r 2 (.mv (.k (.v (.bool false))))])
 (.seq
 (.reg 1 none [2] [
 .r 3 (.mv (.t 0)),
 .r 4 (.mv (.t 0)),
 .r 5 (.bin .neq false (.t 3) (.t 4)),
 .r 2 (.mv (.t 5))])
 .ret))
def ks_cmp_isNaN_int:List (Nat×List Nat):=kssOf ir_cmp_isNaN_int
theorem fn_cmp_isNaN_int:FnIR Tryd.prog F_cmp_isNaN_int 6 ks_cmp_isNaN_int ir_cmp_isNaN_int [(.tmp 2)]:=
 ⟨Tryd.f89,_,Tryd.func89,rfl,by kernel_rfl,rfl,by kernel_rfl,by kernel_rfl⟩
def ir_slices_Index_int:RC:=
 (.seq
 (.reg 0 none [0,1] [
 .r 4 (.mv (.k (.v (.int .i64 0))))])
 (.seq
 (.seq
 (.reg 1 none [0,1,7,8] [
 .r 6 (.mv (.t 0)),
 .r 7 (.lenL (.t 6)),
 .r 8 (.mv (.k (.v (.int .i64 0))))])
 (.block 0
 (.loop
 (.seq
 (.reg 2 none [0,1,7,8,9] [
 .r 9 (.bin .lss false (.t 8) (.t 7))])
 (.seq
 (.cond (.t 9)
 .skip
 (.exit 0))
 (.seq
 (.block 1
 (.seq
 (.reg 3 none [0,1,5,7,8] [
 .r 10 (.mv (.t 8)),
 .r 5 (.mv (.t 10))])
 (.seq
 (.reg 4 none [0,1,5,7,8,16] [
 .r 11 (.mv (.t 1)),
 .r 12 (.mv (.t 0)),
 .r 13 (.mv (.t 5)),
 .r 14 (.ixL 1 (.t 12) (.t 13)),
 .r 15 (.ld none (.t 14)),
 .r 16 (.bin .eql false (.t 11) (.t 15))])
 (.cond (.t 16)
 (.seq
 (.reg 5 none [4] [
 .r 17 (.mv (.t 5)),
 .r 4 (.mv (.t 17))])
 .ret)
 .skip))))
 (.reg 6 none [0,1,7,8] [
 .r 18 (.bin .add false (.t 8) (.k (.v (.int .i64 1)))),
 .r 8 (.mv (.t 18))])))))))
 (.seq
 (.reg 7 none [4] [
 .r 4 (.mv (.k (.v (.int .i64 (-1)))))])
 .ret)))
def ks_slices_Index_int:List (Nat×List Nat):=kssOf ir_slices_Index_int
theorem fn_slices_Index_int:FnIR Tryd.prog F_slices_Index_int 19 ks_slices_Index_int ir_slices_Index_int [(.tmp 4)]:=
 ⟨Tryd.f90,_,Tryd.func90,rfl,by kernel_rfl,rfl,by kernel_rfl,by kernel_rfl⟩
def ir_internal_strconv_small:RC:=
 (.seq
 (.reg 0 none [0] [
 .r 2 (.mv (.k (.v (.string ⟨#[]⟩))))])
 (.seq
 (.seq
 (.reg 1 none [0,4] [
 .r 3 (.mv (.t 0)),
 .r 4 (.bin .lss false (.t 3) (.k (.v (.int .i64 10))))])
 (.cond (.t 4)
 (.seq
 (.reg 2 none [2] [
 .r 5 (.mv (.t 0)),
 .r 6 (.mv (.t 0)),
 .r 7 (.bin .add false (.t 6) (.k (.v (.int .i64 1)))),
 .r 8 (.slS (.k (.v (.string ⟨#[48,49,50,51,52,53,54,55,56,57,97,98,99,100,101,102,103,104,105,106,107,108,109,110,111,112,113,114,115,116,117,118,119,120,121,122]⟩))) (some (.t 5)) (some (.t 7))),
 .r 2 (.mv (.t 8))])
 .ret)
 .skip))
 (.seq
 (.reg 3 none [2] [
 .r 9 (.mv (.t 0)),
 .r 10 (.bin .mul false (.t 9) (.k (.v (.int .i64 2)))),
 .r 11 (.mv (.t 0)),
 .r 12 (.bin .mul false (.t 11) (.k (.v (.int .i64 2)))),
 .r 13 (.bin .add false (.t 12) (.k (.v (.int .i64 2)))),
 .r 14 (.slS (.k (.v (.string ⟨#[48,48,48,49,48,50,48,51,48,52,48,53,48,54,48,55,48,56,48,57,49,48,49,49,49,50,49,51,49,52,49,53,49,54,49,55,49,56,49,57,50,48,50,49,50,50,50,51,50,52,50,53,50,54,50,55,50,56,50,57,51,48,51,49,51,50,51,51,51,52,51,53,51,54,51,55,51,56,51,57,52,48,52,49,52,50,52,51,52,52,52,53,52,54,52,55,52,56,52,57,53,48,53,49,53,50,53,51,53,52,53,53,53,54,53,55,53,56,53,57,54,48,54,49,54,50,54,51,54,52,54,53,54,54,54,55,54,56,54,57,55,48,55,49,55,50,55,51,55,52,55,53,55,54,55,55,55,56,55,57,56,48,56,49,56,50,56,51,56,52,56,53,56,54,56,55,56,56,56,57,57,48,57,49,57,50,57,51,57,52,57,53,57,54,57,55,57,56,57,57]⟩))) (some (.t 10)) (some (.t 13))),
 .r 2 (.mv (.t 14))])
 .ret)))
def ks_internal_strconv_small:List (Nat×List Nat):=kssOf ir_internal_strconv_small
theorem fn_internal_strconv_small:FnIR Tryd.prog F_internal_strconv_small 15 ks_internal_strconv_small ir_internal_strconv_small [(.tmp 2)]:=
 ⟨Tryd.f91,_,Tryd.func91,rfl,by kernel_rfl,rfl,by kernel_rfl,by kernel_rfl⟩
def ir_slices_order2Ordered_int:RC:=
 (.seq
 (.reg 0 none [0,1,2,3] [
 .r 8 (.mv (.k (.v (.int .i64 0)))),
 .r 9 (.mv (.k (.v (.int .i64 0))))])
 (.seq
 (.seq
 (.reg 1 (some [0,0,3,7,0,0,48,112,255]) [1,2,3,18] [
 .r 10 (.mv (.t 0)),
 .r 11 (.mv (.t 2)),
 .r 12 (.ixL 1 (.t 10) (.t 11)),
 .r 13 (.ld none (.t 12)),
 .r 14 (.mv (.t 0)),
 .r 15 (.mv (.t 1)),
 .r 16 (.ixL 1 (.t 14) (.t 15)),
 .r 17 (.ld none (.t 16)),
 .r 18 (.call (.k (.clo F_cmp_Less_int [])) [.t 13,.t 17])])
 (.cond (.t 18)
 (.seq
 (.reg 2 none [1,2] [
 .r 19 (.mv (.t 3)),
 .r 20 (.nc (.t 19)),
 .r 21 (.ld none (.t 20)),
 .r 22 (.bin .add false (.t 21) (.k (.v (.int .i64 1)))),
 .r 23 (.nc (.t 19)),
 .rn (.st 1 (.t 23) (.t 22))])
 (.seq
 (.reg 3 none [8,9] [
 .r 24 (.mv (.t 2)),
 .r 25 (.mv (.t 1)),
 .r 8 (.mv (.t 24)),
 .r 9 (.mv (.t 25))])
 .ret))
 .skip))
 (.seq
 (.reg 4 none [8,9] [
 .r 26 (.mv (.t 1)),
 .r 27 (.mv (.t 2)),
 .r 8 (.mv (.t 26)),
 .r 9 (.mv (.t 27))])
 .ret)))
def ks_slices_order2Ordered_int:List (Nat×List Nat):=kssOf ir_slices_order2Ordered_int
theorem fn_slices_order2Ordered_int:FnIR Tryd.prog F_slices_order2Ordered_int 28 ks_slices_order2Ordered_int ir_slices_order2Ordered_int [(.tmp 8),(.tmp 9)]:=
 ⟨Tryd.f95,_,Tryd.func95,rfl,by kernel_rfl,rfl,by kernel_rfl,by kernel_rfl⟩
end Go.Proofs
