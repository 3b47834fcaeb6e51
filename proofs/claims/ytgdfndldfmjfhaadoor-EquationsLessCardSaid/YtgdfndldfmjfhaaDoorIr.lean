import Derived.Test.YtgdfndldfmjfhaaDoorChecked
import Derived.Test.YtgdfndldfmjfhaaDoorZzS
namespace Go.Proofs
open Go.TL
abbrev F_law29_EquationsAnswers:FuncId:=3
abbrev F_law29_EquationsLess:FuncId:=4
abbrev F_law29_awake:FuncId:=5
abbrev F_draw_New:FuncId:=6
abbrev F_made_Told:FuncId:=7
abbrev F_draw_Mod:FuncId:=8
abbrev F_equations_All:FuncId:=9
abbrev F_ref29_All:FuncId:=10
abbrev F_equations_Check:FuncId:=11
abbrev F_ref29_Check:FuncId:=12
abbrev F_ref29_Same:FuncId:=13
abbrev F_equations_Of:FuncId:=14
abbrev F_ref29_Of:FuncId:=15
abbrev F_ref28_Count:FuncId:=16
abbrev F_equations_Reduce:FuncId:=17
abbrev F_ref29_Reduce:FuncId:=18
abbrev F_equations_Valid:FuncId:=19
abbrev F_ref29_Valid:FuncId:=20
abbrev F_ref28_Ints:FuncId:=21
abbrev F_equations_Touched:FuncId:=22
abbrev F_ref29_Touched:FuncId:=23
abbrev F_equations_Agrees:FuncId:=24
abbrev F_ref29_Agrees:FuncId:=25
abbrev F_made_Equations:FuncId:=26
abbrev F_made_Cells:FuncId:=27
abbrev F_made_Space:FuncId:=28
abbrev F_made_Releases:FuncId:=29
abbrev F_equations_told:FuncId:=30
abbrev F_ref28_Members:FuncId:=31
abbrev F_cells_Check:FuncId:=32
abbrev F_equations_check:FuncId:=33
abbrev F_ref28_Check:FuncId:=34
abbrev F_ref29_release:FuncId:=35
abbrev F_equations_text:FuncId:=36
abbrev F_slices_Clone_int:FuncId:=37
abbrev F_slices_ContainsFunc_Equation:FuncId:=38
abbrev F_equations_Valid_1:FuncId:=39
abbrev F_equations_right:FuncId:=40
abbrev F_slices_Sort_int:FuncId:=41
abbrev F_slices_Compact_int:FuncId:=42
abbrev F_slices_ContainsFunc_int:FuncId:=43
abbrev F_equations_Agrees_1:FuncId:=44
abbrev F_equations_value:FuncId:=45
abbrev F_draw_Codes_Next:FuncId:=46
abbrev F_made_View:FuncId:=47
abbrev F_ref28_Publish:FuncId:=48
abbrev F_cells_Members:FuncId:=49
abbrev F_ref28_View:FuncId:=50
abbrev F_ref28_Published:FuncId:=51
abbrev F_ref28_Of:FuncId:=52
abbrev F_cells_View:FuncId:=53
abbrev F_cells_Published:FuncId:=54
abbrev F_equations_check_1:FuncId:=55
abbrev F_strconv_AppendInt:FuncId:=56
abbrev F_slices_IndexFunc_Equation:FuncId:=57
abbrev F_slices_pdqsortOrdered_int:FuncId:=58
abbrev F_math_bits_Len:FuncId:=59
abbrev F_slices_IndexFunc_int:FuncId:=60
abbrev F_cells_product:FuncId:=61
abbrev F_cells_sizes:FuncId:=62
abbrev F_cells_published:FuncId:=63
abbrev F_ref28_Groups:FuncId:=64
abbrev F_ref28_At:FuncId:=65
abbrev F_cells_numbered:FuncId:=66
abbrev F_internal_strconv_AppendInt:FuncId:=67
abbrev F_slices_insertionSortOrdered_int:FuncId:=68
abbrev F_slices_heapSortOrdered_int:FuncId:=69
abbrev F_slices_breakPatternsOrdered_int:FuncId:=70
abbrev F_slices_choosePivotOrdered_int:FuncId:=71
abbrev F_slices_reverseRangeOrdered_int:FuncId:=72
abbrev F_slices_partialInsertionSortOrdered_int:FuncId:=73
abbrev F_cmp_Less_int:FuncId:=74
abbrev F_slices_partitionEqualOrdered_int:FuncId:=75
abbrev F_slices_partitionOrdered_int:FuncId:=76
abbrev F_math_bits_Len32:FuncId:=77
abbrev F_math_bits_Len64:FuncId:=78
abbrev F_slices_Max_int:FuncId:=79
abbrev F_cells_places:FuncId:=80
abbrev F_slices_Contains_int:FuncId:=81
abbrev F_cells_number:FuncId:=82
abbrev F_internal_strconv_AppendUint:FuncId:=83
abbrev F_slices_siftDownOrdered_int:FuncId:=84
abbrev F_slices_nextPowerOfTwo:FuncId:=85
abbrev F_slices_xorshift_Next:FuncId:=86
abbrev F_slices_medianAdjacentOrdered_int:FuncId:=87
abbrev F_slices_medianOrdered_int:FuncId:=88
abbrev F_cmp_isNaN_int:FuncId:=89
abbrev F_slices_Index_int:FuncId:=90
abbrev F_internal_strconv_small:FuncId:=91
abbrev F_internal_strconv_numDigits:FuncId:=92
abbrev F_internal_strconv_formatBase10:FuncId:=93
abbrev F_internal_strconv_formatBits:FuncId:=94
abbrev F_slices_order2Ordered_int:FuncId:=95
abbrev F_internal_strconv_log10Pow2:FuncId:=96
abbrev F_internal_strconv_bool2_int:FuncId:=97
abbrev F_internal_strconv_isPowerOfTwo:FuncId:=98
abbrev F_math_bits_TrailingZeros:FuncId:=99
abbrev F_math_bits_TrailingZeros32:FuncId:=100
abbrev F_math_bits_TrailingZeros64:FuncId:=101
abbrev F_draw_Codes_Secret:FuncId:=117
abbrev F_var_s_door_gosem_cut_vars_holds_initialisers_alone_see_the_manifest_s_row_cutvarsword_look_11_test_files_too:FuncId:=119
abbrev F_var_s_door_internal_strconv_uint64pow10_is_laid_by_its_own_initialiser_plain_data_look_11:FuncId:=120
abbrev F_var_s_door_math_bits_deBruijn32tab_is_laid_by_its_own_initialiser_plain_data_look_11:FuncId:=121
abbrev F_var_s_door_math_bits_deBruijn64tab_is_laid_by_its_own_initialiser_plain_data_look_11:FuncId:=122
abbrev F_var_s_door_the_look_of_gosem_cut_vars_went_over_the_folder_that_the_caller_named_as_the_repository_s_root_look_11:FuncId:=123
abbrev F_gosem_cut_vars:FuncId:=124
def ir_law29_EquationsLess:RC:=
 (.seq
 (.reg 0 none [0] [
 ⟨some 2,none,.mv (.k (.v (.bool false)))⟩])
 (.seq
 (.reg 1 none [3] [
 ⟨some 11,none,.mv (.t 0)⟩,
 ⟨some 12,none,.call (.k (.clo F_draw_New [])) [.t 11]⟩,
 ⟨some 3,none,.mv (.t 12)⟩])
 (.seq
 (.reg 2 none [3,4,5,6] [
 ⟨some 14,none,.mv (.t 3)⟩,
 ⟨some 15,none,.call (.k (.clo F_made_Equations [])) [.t 14,.k (.v (.int .i64 3))]⟩,
 ⟨some 13,none,.mv (.t 15)⟩,
 ⟨some 16,none,.ex (.t 13) 0⟩,
 ⟨some 17,none,.ex (.t 13) 1⟩,
 ⟨some 18,none,.ex (.t 13) 2⟩,
 ⟨some 4,none,.mv (.t 16)⟩,
 ⟨some 5,none,.mv (.t 17)⟩,
 ⟨some 6,none,.mv (.t 18)⟩])
 (.seq
 (.reg 3 none [4,5,6,7] [
 ⟨some 19,none,.mv (.t 3)⟩,
 ⟨some 20,none,.mv (.t 4)⟩,
 ⟨some 21,none,.bsl 1 1 [.t 20]⟩,
 ⟨some 22,none,.build [.v (.slice none 0 0)] [((0,1),.t 21)]⟩,
 ⟨some 23,none,.call (.k (.clo F_made_Cells [])) [.t 19,.t 22,.k (.v (.int .i64 3))]⟩,
 ⟨some 7,none,.mv (.t 23)⟩])
 (.seq
 (.reg 4 none [4,5,6,7,8] [
 ⟨some 24,none,.bsl 2 0 []⟩,
 ⟨some 25,none,.mv (.t 6)⟩,
 ⟨some 26,none,.app 2 32 false (.t 24) (.t 25)⟩,
 ⟨some 27,none,.mv (.t 6)⟩,
 ⟨some 28,none,.app 2 32 false (.t 26) (.t 27)⟩,
 ⟨some 8,none,.mv (.t 28)⟩])
 (.seq
 (.reg 5 none [4,5,6,7,9,10] [
 ⟨some 30,none,.mv (.t 4)⟩,
 ⟨some 31,none,.mv (.t 8)⟩,
 ⟨some 32,none,.call (.k (.clo F_equations_Reduce [])) [.t 30,.t 31]⟩,
 ⟨some 29,none,.mv (.t 32)⟩,
 ⟨some 33,none,.ex (.t 29) 0⟩,
 ⟨some 34,none,.ex (.t 29) 1⟩,
 ⟨some 9,none,.mv (.t 33)⟩,
 ⟨some 10,none,.mv (.t 34)⟩])
 (.seq
 (.reg 6 none [2] [
 ⟨some 35,none,.mv (.t 10)⟩,
 ⟨some 36,none,.bin .eql false (.t 35) (.k (.v (.int .i64 0)))⟩,
 ⟨some 37,none,.mv (.t 36)⟩,
 ⟨some 38,some (37,true),.mv (.t 9)⟩,
 ⟨some 39,some (37,true),.lenL (.t 38)⟩,
 ⟨some 40,some (37,true),.mv (.t 6)⟩,
 ⟨some 41,some (37,true),.lenL (.t 40)⟩,
 ⟨some 42,some (37,true),.bin .leq false (.t 39) (.t 41)⟩,
 ⟨some 43,none,.pick (.t 37) (.t 42) (.k (.v (.bool false)))⟩,
 ⟨some 44,none,.mv (.t 43)⟩,
 ⟨some 45,some (44,true),.mv (.t 9)⟩,
 ⟨some 46,some (44,true),.mv (.t 5)⟩,
 ⟨some 47,some (44,true),.call (.k (.clo F_equations_Agrees [])) [.t 45,.t 46]⟩,
 ⟨some 48,none,.pick (.t 44) (.t 47) (.k (.v (.bool false)))⟩,
 ⟨some 49,none,.mv (.t 48)⟩,
 ⟨some 50,some (49,true),.mv (.t 9)⟩,
 ⟨some 51,some (49,true),.mv (.t 7)⟩,
 ⟨some 52,some (49,true),.call (.k (.clo F_equations_Agrees [])) [.t 50,.t 51]⟩,
 ⟨some 53,some (49,true),.mv (.t 6)⟩,
 ⟨some 54,some (49,true),.mv (.t 7)⟩,
 ⟨some 55,some (49,true),.call (.k (.clo F_equations_Agrees [])) [.t 53,.t 54]⟩,
 ⟨some 56,some (49,true),.bin .eql true (.t 52) (.t 55)⟩,
 ⟨some 57,none,.pick (.t 49) (.t 56) (.k (.v (.bool false)))⟩,
 ⟨some 58,none,.mv (.t 57)⟩,
 ⟨some 59,some (58,true),.mv (.t 4)⟩,
 ⟨some 60,some (58,true),.mv (.t 9)⟩,
 ⟨some 61,some (58,true),.call (.k (.clo F_equations_Touched [])) [.t 59,.t 60]⟩,
 ⟨some 62,some (58,true),.mv (.t 4)⟩,
 ⟨some 63,some (58,true),.mv (.t 6)⟩,
 ⟨some 64,some (58,true),.call (.k (.clo F_equations_Touched [])) [.t 62,.t 63]⟩,
 ⟨some 65,some (58,true),.call (.k (.clo F_ref28_Ints [])) [.t 61,.t 64]⟩,
 ⟨some 66,none,.pick (.t 58) (.t 65) (.k (.v (.bool false)))⟩,
 ⟨some 67,none,.mv (.t 66)⟩,
 ⟨some 68,some (67,true),.call (.k (.clo F_law29_awake [])) []⟩,
 ⟨some 69,none,.pick (.t 67) (.t 68) (.k (.v (.bool false)))⟩,
 ⟨some 2,none,.mv (.t 69)⟩])
 .ret)))))))
theorem fn_law29_EquationsLess:FnIR Tryd.prog F_law29_EquationsLess 70 [(0,[0]),(1,[3]),(2,[3,4,5,6]),(3,[4,5,6,7]),(4,[4,5,6,7,8]),(5,[4,5,6,7,9,10]),(6,[2])] ir_law29_EquationsLess [(.tmp 2)]:=
 ⟨Tryd.f4,_,Tryd.func4,rfl,by kernel_rfl,rfl,by kernel_rfl,by kernel_rfl⟩
def ir_law29_awake:RC:=
 (.seq
 (.reg 0 none [] [
 ⟨some 0,none,.mv (.k (.v (.bool false)))⟩])
 (.seq
 (.reg 1 none [1] [
 ⟨some 5,none,.bsl 1 2 [.k (.v (.int .i64 2)),.k (.v (.int .i64 2))]⟩,
 ⟨some 6,none,.build [.v (.slice none 0 0)] [((0,1),.t 5)]⟩,
 ⟨some 1,none,.new (.agg [.v (.slice none 0 0)])⟩,
 ⟨none,none,.st 1 (.t 1) (.t 6)⟩])
 (.seq
 (.reg 2 none [1,2] [
 ⟨some 7,none,.bsl 1 2 [.k (.v (.int .i64 0)),.k (.v (.int .i64 1))]⟩,
 ⟨some 8,none,.bsl 1 2 [.k (.v (.int .i64 0)),.k (.v (.int .i64 0))]⟩,
 ⟨some 9,none,.bsl 1 2 [.t 7,.t 8]⟩,
 ⟨some 10,none,.build [.v (.slice none 0 0)] [((0,1),.t 9)]⟩,
 ⟨some 11,none,.bsl 1 2 [.k (.v (.int .i64 3)),.k (.v (.int .i64 (-1)))]⟩,
 ⟨some 12,none,.build [.v (.int .i64 0),.v (.slice none 0 0),.v (.slice none 0 0)] [((1,1),.t 10),((2,1),.t 11)]⟩,
 ⟨some 2,none,.new (.agg [.v (.int .i64 0),.v (.slice none 0 0),.v (.slice none 0 0)])⟩,
 ⟨none,none,.st 3 (.t 2) (.t 12)⟩])
 (.seq
 (.reg 3 none [3,4] [
 ⟨some 14,none,.ld (some 1) (.t 1)⟩,
 ⟨some 15,none,.ld (some 3) (.t 2)⟩,
 ⟨some 16,none,.call (.k (.clo F_equations_Of [])) [.t 14,.t 15]⟩,
 ⟨some 13,none,.mv (.t 16)⟩,
 ⟨some 17,none,.ex (.t 13) 0⟩,
 ⟨some 18,none,.ex (.t 13) 1⟩,
 ⟨some 3,none,.mv (.t 17)⟩,
 ⟨some 4,none,.mv (.t 18)⟩])
 (.seq
 (.reg 4 none [0] [
 ⟨some 19,none,.mv (.t 4)⟩,
 ⟨some 20,none,.bin .eql false (.t 19) (.k (.v (.int .i64 0)))⟩,
 ⟨some 21,none,.mv (.t 20)⟩,
 ⟨some 22,some (21,true),.mv (.t 3)⟩,
 ⟨some 23,some (21,true),.bsl 1 2 [.k (.v (.int .i64 0)),.k (.v (.int .i64 1))]⟩,
 ⟨some 24,some (21,true),.build [.v (.slice none 0 0),.v (.int .i64 0)] [((0,1),.t 23),((1,1),.k (.v (.int .i64 3)))]⟩,
 ⟨some 25,some (21,true),.bsl 2 1 [.t 24]⟩,
 ⟨some 26,some (21,true),.call (.k (.clo F_ref29_Same [])) [.t 22,.t 25]⟩,
 ⟨some 27,none,.pick (.t 21) (.t 26) (.k (.v (.bool false)))⟩,
 ⟨some 28,none,.mv (.t 27)⟩,
 ⟨some 29,some (28,true),.mv (.t 3)⟩,
 ⟨some 30,some (28,true),.bsl 1 4 [.k (.v (.int .i64 1)),.k (.v (.int .i64 2)),.k (.v (.int .i64 0)),.k (.v (.int .i64 0))]⟩,
 ⟨some 31,some (28,true),.call (.k (.clo F_equations_Agrees [])) [.t 29,.t 30]⟩,
 ⟨some 32,none,.pick (.t 28) (.t 31) (.k (.v (.bool false)))⟩,
 ⟨some 33,none,.mv (.t 32)⟩,
 ⟨some 34,some (33,true),.mv (.t 3)⟩,
 ⟨some 35,some (33,true),.bsl 1 4 [.k (.v (.int .i64 1)),.k (.v (.int .i64 1)),.k (.v (.int .i64 0)),.k (.v (.int .i64 0))]⟩,
 ⟨some 36,some (33,true),.call (.k (.clo F_equations_Agrees [])) [.t 34,.t 35]⟩,
 ⟨some 37,some (33,true),.un .not (.t 36)⟩,
 ⟨some 38,none,.pick (.t 33) (.t 37) (.k (.v (.bool false)))⟩,
 ⟨some 0,none,.mv (.t 38)⟩])
 .ret)))))
theorem fn_law29_awake:FnIR Tryd.prog F_law29_awake 39 [(1,[1]),(2,[1,2]),(3,[3,4]),(4,[0])] ir_law29_awake [(.tmp 0)]:=
 ⟨Tryd.f5,_,Tryd.func5,rfl,by kernel_rfl,rfl,by kernel_rfl,by kernel_rfl⟩
def ir_draw_New:RC:=
 (.seq
 (.reg 0 none [0] [
 ⟨some 2,none,.mv (.k (.v (.pointer none)))⟩])
 (.seq
 (.reg 1 none [2] [
 ⟨some 3,none,.mv (.t 0)⟩,
 ⟨some 4,none,.mv (.t 0)⟩,
 ⟨some 5,none,.lenL (.t 4)⟩,
 ⟨some 6,none,.mn [.t 5,.k (.v (.int .i64 400))]⟩,
 ⟨some 7,none,.slL 1 (.t 3) none (some (.t 6))⟩,
 ⟨some 8,none,.build [.v (.slice none 0 0),.v (.int .i64 0)] [((0,1),.t 7)]⟩,
 ⟨some 9,none,.box (.t 8)⟩,
 ⟨some 2,none,.mv (.t 9)⟩])
 .ret))
theorem fn_draw_New:FnIR Tryd.prog F_draw_New 10 [(0,[0]),(1,[2])] ir_draw_New [(.tmp 2)]:=
 ⟨Tryd.f6,_,Tryd.func6,rfl,by kernel_rfl,rfl,by kernel_rfl,by kernel_rfl⟩
def ir_made_Told:RC:=
 (.seq
 (.reg 0 none [0,1,2,6] [
 ⟨some 6,none,.new (.agg [.v (.slice none 0 0)])⟩,
 ⟨some 7,none,.mv (.k (.v (.slice none 0 0)))⟩,
 ⟨some 8,none,.mv (.k (.v (.slice none 0 0)))⟩])
 (.seq
 (.reg 1 none [0,1,2,6,9] [
 ⟨some 11,none,.mv (.t 0)⟩,
 ⟨some 12,none,.call (.k (.clo F_made_Space [])) [.t 11]⟩,
 ⟨some 9,none,.new (.agg [.v (.slice none 0 0)])⟩,
 ⟨none,none,.st 1 (.t 9) (.t 12)⟩])
 (.seq
 (.reg 2 none [0,2,6,9,10] [
 ⟨some 13,none,.mv (.t 0)⟩,
 ⟨some 14,none,.ld (some 1) (.t 9)⟩,
 ⟨some 15,none,.mv (.t 1)⟩,
 ⟨some 16,none,.call (.k (.clo F_made_Cells [])) [.t 13,.t 14,.t 15]⟩,
 ⟨some 10,none,.mv (.t 16)⟩])
 (.seq
 (.reg 3 (some [0,0,0,0,0,0,60,125,255,511]) [6,7,8] [
 ⟨some 17,none,.ld (some 1) (.t 9)⟩,
 ⟨some 18,none,.mv (.t 10)⟩,
 ⟨some 19,none,.mv (.t 0)⟩,
 ⟨some 20,none,.ld (some 1) (.t 9)⟩,
 ⟨some 21,none,.mv (.t 10)⟩,
 ⟨some 22,none,.mv (.t 2)⟩,
 ⟨some 23,none,.call (.k (.clo F_made_Releases [])) [.t 19,.t 20,.t 21,.t 22]⟩,
 ⟨none,none,.st 1 (.t 6) (.t 17)⟩,
 ⟨some 7,none,.mv (.t 18)⟩,
 ⟨some 8,none,.mv (.t 23)⟩])
 .ret))))
theorem fn_made_Told:FnIR Tryd.prog F_made_Told 24 [(0,[0,1,2,6]),(1,[0,1,2,6,9]),(2,[0,2,6,9,10]),(3,[6,7,8])] ir_made_Told [(.cell 6 (some 1)),(.tmp 7),(.tmp 8)]:=
 ⟨Tryd.f7,_,Tryd.func7,rfl,by kernel_rfl,rfl,by kernel_rfl,by kernel_rfl⟩
def ir_equations_All:RC:=
 (.seq
 (.reg 0 none [1,2] [
 ⟨some 2,none,.box (.t 0)⟩,
 ⟨some 4,none,.mv (.k (.v (.slice none 0 0)))⟩,
 ⟨some 5,none,.mv (.k (.v (.int .i64 0)))⟩])
 (.seq
 (.seq
 (.reg 1 none [1,2,6] [
 ⟨some 10,none,.ld (some 1) (.t 2)⟩,
 ⟨some 11,none,.mv (.t 1)⟩,
 ⟨some 12,none,.call (.k (.clo F_equations_Check [])) [.t 10,.t 11]⟩,
 ⟨some 6,none,.mv (.t 12)⟩])
 (.seq
 (.reg 2 none [1,2,6,14] [
 ⟨some 13,none,.mv (.t 6)⟩,
 ⟨some 14,none,.bin .neq false (.t 13) (.k (.v (.int .i64 0)))⟩])
 (.cond (.t 14)
 (.seq
 (.reg 3 none [4,5] [
 ⟨some 15,none,.mv (.t 6)⟩,
 ⟨some 4,none,.mv (.k (.v (.slice none 0 0)))⟩,
 ⟨some 5,none,.mv (.t 15)⟩])
 .ret)
 .skip)))
 (.seq
 (.reg 4 none [1,2,7] [
 ⟨some 7,none,.mv (.k (.v (.slice none 0 0)))⟩])
 (.seq
 (.seq
 (.reg 5 none [2,7,16,17,18] [
 ⟨some 16,none,.mv (.t 1)⟩,
 ⟨some 17,none,.lenL (.t 16)⟩,
 ⟨some 18,none,.mv (.k (.v (.int .i64 0)))⟩])
 (.block 0
 (.loop
 (.seq
 (.reg 6 none [2,7,16,17,18,19] [
 ⟨some 19,none,.bin .lss false (.t 18) (.t 17)⟩])
 (.seq
 (.cond (.t 19)
 .skip
 (.exit 0))
 (.seq
 (.block 1
 (.seq
 (.reg 7 none [2,7,9,16,17,18] [
 ⟨some 20,none,.ixL 3 (.t 16) (.t 18)⟩,
 ⟨some 21,none,.ld (some 3) (.t 20)⟩,
 ⟨some 9,none,.new (.agg [.v (.int .i64 0),.v (.slice none 0 0),.v (.slice none 0 0)])⟩,
 ⟨none,none,.st 3 (.t 9) (.t 21)⟩])
 (.reg 8 none [2,7,16,17,18] [
 ⟨some 22,none,.mv (.t 7)⟩,
 ⟨some 23,none,.ld (some 1) (.t 2)⟩,
 ⟨some 24,none,.ld (some 3) (.t 9)⟩,
 ⟨some 25,none,.call (.k (.clo F_equations_told [])) [.t 23,.t 24]⟩,
 ⟨some 26,none,.app 2 32 false (.t 22) (.t 25)⟩,
 ⟨some 7,none,.mv (.t 26)⟩])))
 (.reg 9 none [2,7,16,17,18] [
 ⟨some 27,none,.bin .add false (.t 18) (.k (.v (.int .i64 1)))⟩,
 ⟨some 18,none,.mv (.t 27)⟩])))))))
 (.seq
 (.reg 10 none [4,5] [
 ⟨some 28,none,.mv (.t 7)⟩,
 ⟨some 4,none,.mv (.t 28)⟩,
 ⟨some 5,none,.mv (.k (.v (.int .i64 0)))⟩])
 .ret)))))
theorem fn_equations_All:FnIR Tryd.prog F_equations_All 29 [(0,[1,2]),(1,[1,2,6]),(2,[1,2,6,14]),(3,[4,5]),(4,[1,2,7]),(5,[2,7,16,17,18]),(6,[2,7,16,17,18,19]),(7,[2,7,9,16,17,18]),(8,[2,7,16,17,18]),(9,[2,7,16,17,18]),(10,[4,5])] ir_equations_All [(.tmp 4),(.tmp 5)]:=
 ⟨Tryd.f9,_,Tryd.func9,rfl,by kernel_rfl,rfl,by kernel_rfl,by kernel_rfl⟩
def ir_ref29_All:RC:=
 (.seq
 (.reg 0 none [1,2] [
 ⟨some 2,none,.box (.t 0)⟩,
 ⟨some 4,none,.mv (.k (.v (.slice none 0 0)))⟩,
 ⟨some 5,none,.mv (.k (.v (.int .i64 0)))⟩])
 (.seq
 (.seq
 (.reg 1 none [1,2,6] [
 ⟨some 14,none,.ld (some 1) (.t 2)⟩,
 ⟨some 15,none,.mv (.t 1)⟩,
 ⟨some 16,none,.call (.k (.clo F_ref29_Check [])) [.t 14,.t 15]⟩,
 ⟨some 6,none,.mv (.t 16)⟩])
 (.seq
 (.reg 2 none [1,2,6,18] [
 ⟨some 17,none,.mv (.t 6)⟩,
 ⟨some 18,none,.bin .neq false (.t 17) (.k (.v (.int .i64 0)))⟩])
 (.cond (.t 18)
 (.seq
 (.reg 3 none [4,5] [
 ⟨some 19,none,.mv (.t 6)⟩,
 ⟨some 4,none,.mv (.k (.v (.slice none 0 0)))⟩,
 ⟨some 5,none,.mv (.t 19)⟩])
 .ret)
 .skip)))
 (.seq
 (.reg 4 none [1,2,7] [
 ⟨some 7,none,.mv (.k (.v (.slice none 0 0)))⟩])
 (.seq
 (.seq
 (.reg 5 none [2,7,20,21,22] [
 ⟨some 20,none,.mv (.t 1)⟩,
 ⟨some 21,none,.lenL (.t 20)⟩,
 ⟨some 22,none,.mv (.k (.v (.int .i64 0)))⟩])
 (.block 0
 (.loop
 (.seq
 (.reg 6 none [2,7,20,21,22,23] [
 ⟨some 23,none,.bin .lss false (.t 22) (.t 21)⟩])
 (.seq
 (.cond (.t 23)
 .skip
 (.exit 0))
 (.seq
 (.block 1
 (.seq
 (.reg 7 none [2,7,9,20,21,22] [
 ⟨some 24,none,.ixL 3 (.t 20) (.t 22)⟩,
 ⟨some 25,none,.ld (some 3) (.t 24)⟩,
 ⟨some 9,none,.new (.agg [.v (.int .i64 0),.v (.slice none 0 0),.v (.slice none 0 0)])⟩,
 ⟨none,none,.st 3 (.t 9) (.t 25)⟩])
 (.seq
 (.reg 8 none [2,7,9,20,21,22,27,28,29] [
 ⟨some 26,none,.fa 2 (.t 9)⟩,
 ⟨some 27,none,.ld none (.t 26)⟩,
 ⟨some 28,none,.lenL (.t 27)⟩,
 ⟨some 29,none,.mv (.k (.v (.int .i64 0)))⟩])
 (.block 2
 (.loop
 (.seq
 (.reg 9 none [2,7,9,20,21,22,27,28,29,30] [
 ⟨some 30,none,.bin .lss false (.t 29) (.t 28)⟩])
 (.seq
 (.cond (.t 30)
 .skip
 (.exit 2))
 (.seq
 (.block 3
 (.seq
 (.reg 10 none [2,7,9,10,11,20,21,22,27,28,29] [
 ⟨some 31,none,.mv (.t 29)⟩,
 ⟨some 32,none,.ixL 1 (.t 27) (.t 29)⟩,
 ⟨some 33,none,.ld none (.t 32)⟩,
 ⟨some 10,none,.mv (.t 31)⟩,
 ⟨some 11,none,.mv (.t 33)⟩])
 (.seq
 (.reg 11 none [2,7,9,10,11,20,21,22,27,28,29,35] [
 ⟨some 34,none,.mv (.t 11)⟩,
 ⟨some 35,none,.bin .neq false (.t 34) (.k (.v (.int .i64 (-1))))⟩])
 (.cond (.t 35)
 (.seq
 (.reg 12 none [2,7,9,11,12,20,21,22,27,28,29] [
 ⟨some 37,none,.ld (some 1) (.t 2)⟩,
 ⟨some 38,none,.fa 1 (.t 9)⟩,
 ⟨some 39,none,.ld (some 1) (.t 38)⟩,
 ⟨some 40,none,.mv (.t 10)⟩,
 ⟨some 41,none,.call (.k (.clo F_ref28_Members [])) [.t 37,.t 39,.t 40]⟩,
 ⟨some 36,none,.mv (.t 41)⟩,
 ⟨some 42,none,.ex (.t 36) 0⟩,
 ⟨some 43,none,.ex (.t 36) 1⟩,
 ⟨some 12,none,.mv (.t 42)⟩,
 ⟨some 13,none,.mv (.t 43)⟩])
 (.reg 13 none [2,7,9,20,21,22,27,28,29] [
 ⟨some 44,none,.mv (.t 7)⟩,
 ⟨some 45,none,.mv (.t 12)⟩,
 ⟨some 46,none,.mv (.t 11)⟩,
 ⟨some 47,none,.build [.v (.slice none 0 0),.v (.int .i64 0)] [((0,1),.t 45),((1,1),.t 46)]⟩,
 ⟨some 48,none,.bsl 2 1 [.t 47]⟩,
 ⟨some 49,none,.app 2 32 false (.t 44) (.t 48)⟩,
 ⟨some 7,none,.mv (.t 49)⟩]))
 .skip))))
 (.reg 14 none [2,7,9,20,21,22,27,28,29] [
 ⟨some 50,none,.bin .add false (.t 29) (.k (.v (.int .i64 1)))⟩,
 ⟨some 29,none,.mv (.t 50)⟩])))))))))
 (.reg 15 none [2,7,20,21,22] [
 ⟨some 51,none,.bin .add false (.t 22) (.k (.v (.int .i64 1)))⟩,
 ⟨some 22,none,.mv (.t 51)⟩])))))))
 (.seq
 (.reg 16 none [4,5] [
 ⟨some 52,none,.mv (.t 7)⟩,
 ⟨some 4,none,.mv (.t 52)⟩,
 ⟨some 5,none,.mv (.k (.v (.int .i64 0)))⟩])
 .ret)))))
theorem fn_ref29_All:FnIR Tryd.prog F_ref29_All 53 [(0,[1,2]),(1,[1,2,6]),(2,[1,2,6,18]),(3,[4,5]),(4,[1,2,7]),(5,[2,7,20,21,22]),(6,[2,7,20,21,22,23]),(7,[2,7,9,20,21,22]),(8,[2,7,9,20,21,22,27,28,29]),(9,[2,7,9,20,21,22,27,28,29,30]),(10,[2,7,9,10,11,20,21,22,27,28,29]),(11,[2,7,9,10,11,20,21,22,27,28,29,35]),(12,[2,7,9,11,12,20,21,22,27,28,29]),(13,[2,7,9,20,21,22,27,28,29]),(14,[2,7,9,20,21,22,27,28,29]),(15,[2,7,20,21,22]),(16,[4,5])] ir_ref29_All [(.tmp 4),(.tmp 5)]:=
 ⟨Tryd.f10,_,Tryd.func10,rfl,by kernel_rfl,rfl,by kernel_rfl,by kernel_rfl⟩
def ir_equations_Check:RC:=
 (.seq
 (.reg 0 none [1,2] [
 ⟨some 2,none,.box (.t 0)⟩,
 ⟨some 4,none,.mv (.k (.v (.int .i64 0)))⟩])
 (.seq
 (.seq
 (.reg 1 none [1,2,5] [
 ⟨some 10,none,.ld (some 1) (.t 2)⟩,
 ⟨some 11,none,.call (.k (.clo F_cells_Check [])) [.t 10]⟩,
 ⟨some 5,none,.mv (.t 11)⟩])
 (.seq
 (.reg 2 none [1,2,5,13] [
 ⟨some 12,none,.mv (.t 5)⟩,
 ⟨some 13,none,.bin .neq false (.t 12) (.k (.v (.int .i64 0)))⟩])
 (.cond (.t 13)
 (.seq
 (.reg 3 none [4] [
 ⟨some 14,none,.mv (.t 5)⟩,
 ⟨some 4,none,.mv (.t 14)⟩])
 .ret)
 .skip)))
 (.seq
 (.seq
 (.reg 4 none [1,2,17] [
 ⟨some 15,none,.mv (.t 1)⟩,
 ⟨some 16,none,.lenL (.t 15)⟩,
 ⟨some 17,none,.bin .gtr false (.t 16) (.k (.v (.int .i64 24)))⟩])
 (.cond (.t 17)
 (.seq
 (.reg 5 none [4] [
 ⟨some 4,none,.mv (.k (.v (.int .i64 1)))⟩])
 .ret)
 .skip))
 (.seq
 (.reg 6 none [1,2,6] [
 ⟨some 6,none,.mv (.k (.v (.int .i64 (-1))))⟩])
 (.seq
 (.seq
 (.reg 7 none [2,6,18,19,20] [
 ⟨some 18,none,.mv (.t 1)⟩,
 ⟨some 19,none,.lenL (.t 18)⟩,
 ⟨some 20,none,.mv (.k (.v (.int .i64 0)))⟩])
 (.block 0
 (.loop
 (.seq
 (.reg 8 none [2,6,18,19,20,21] [
 ⟨some 21,none,.bin .lss false (.t 20) (.t 19)⟩])
 (.seq
 (.cond (.t 21)
 .skip
 (.exit 0))
 (.seq
 (.block 1
 (.seq
 (.reg 9 none [2,6,8,18,19,20] [
 ⟨some 22,none,.ixL 3 (.t 18) (.t 20)⟩,
 ⟨some 23,none,.ld (some 3) (.t 22)⟩,
 ⟨some 8,none,.new (.agg [.v (.int .i64 0),.v (.slice none 0 0),.v (.slice none 0 0)])⟩,
 ⟨none,none,.st 3 (.t 8) (.t 23)⟩])
 (.seq
 (.seq
 (.reg 10 none [2,8,9,18,19,20] [
 ⟨some 24,none,.ld (some 1) (.t 2)⟩,
 ⟨some 25,none,.ld (some 3) (.t 8)⟩,
 ⟨some 26,none,.mv (.t 6)⟩,
 ⟨some 27,none,.call (.k (.clo F_equations_check [])) [.t 24,.t 25,.t 26]⟩,
 ⟨some 9,none,.mv (.t 27)⟩])
 (.seq
 (.reg 11 none [2,8,9,18,19,20,29] [
 ⟨some 28,none,.mv (.t 9)⟩,
 ⟨some 29,none,.bin .neq false (.t 28) (.k (.v (.int .i64 0)))⟩])
 (.cond (.t 29)
 (.seq
 (.reg 12 none [4] [
 ⟨some 30,none,.mv (.t 9)⟩,
 ⟨some 4,none,.mv (.t 30)⟩])
 .ret)
 .skip)))
 (.reg 13 none [2,6,18,19,20] [
 ⟨some 31,none,.fa 0 (.t 8)⟩,
 ⟨some 32,none,.ld none (.t 31)⟩,
 ⟨some 6,none,.mv (.t 32)⟩]))))
 (.reg 14 none [2,6,18,19,20] [
 ⟨some 33,none,.bin .add false (.t 20) (.k (.v (.int .i64 1)))⟩,
 ⟨some 20,none,.mv (.t 33)⟩])))))))
 (.seq
 (.reg 15 none [4] [
 ⟨some 4,none,.mv (.k (.v (.int .i64 0)))⟩])
 .ret))))))
theorem fn_equations_Check:FnIR Tryd.prog F_equations_Check 34 [(0,[1,2]),(1,[1,2,5]),(2,[1,2,5,13]),(3,[4]),(4,[1,2,17]),(5,[4]),(6,[1,2,6]),(7,[2,6,18,19,20]),(8,[2,6,18,19,20,21]),(9,[2,6,8,18,19,20]),(10,[2,8,9,18,19,20]),(11,[2,8,9,18,19,20,29]),(12,[4]),(13,[2,6,18,19,20]),(14,[2,6,18,19,20]),(15,[4])] ir_equations_Check [(.tmp 4)]:=
 ⟨Tryd.f11,_,Tryd.func11,rfl,by kernel_rfl,rfl,by kernel_rfl,by kernel_rfl⟩
def ir_ref29_Check:RC:=
 (.seq
 (.reg 0 none [1,2] [
 ⟨some 2,none,.box (.t 0)⟩,
 ⟨some 4,none,.mv (.k (.v (.int .i64 0)))⟩])
 (.seq
 (.seq
 (.reg 1 none [1,2,5] [
 ⟨some 10,none,.ld (some 1) (.t 2)⟩,
 ⟨some 11,none,.call (.k (.clo F_ref28_Check [])) [.t 10]⟩,
 ⟨some 5,none,.mv (.t 11)⟩])
 (.seq
 (.reg 2 none [1,2,5,13] [
 ⟨some 12,none,.mv (.t 5)⟩,
 ⟨some 13,none,.bin .neq false (.t 12) (.k (.v (.int .i64 0)))⟩])
 (.cond (.t 13)
 (.seq
 (.reg 3 none [4] [
 ⟨some 14,none,.mv (.t 5)⟩,
 ⟨some 4,none,.mv (.t 14)⟩])
 .ret)
 .skip)))
 (.seq
 (.seq
 (.reg 4 none [1,2,17] [
 ⟨some 15,none,.mv (.t 1)⟩,
 ⟨some 16,none,.lenL (.t 15)⟩,
 ⟨some 17,none,.bin .gtr false (.t 16) (.k (.v (.int .i64 24)))⟩])
 (.cond (.t 17)
 (.seq
 (.reg 5 none [4] [
 ⟨some 4,none,.mv (.k (.v (.int .i64 1)))⟩])
 .ret)
 .skip))
 (.seq
 (.reg 6 none [1,2,6] [
 ⟨some 6,none,.mv (.k (.v (.int .i64 (-1))))⟩])
 (.seq
 (.seq
 (.reg 7 none [2,6,18,19,20] [
 ⟨some 18,none,.mv (.t 1)⟩,
 ⟨some 19,none,.lenL (.t 18)⟩,
 ⟨some 20,none,.mv (.k (.v (.int .i64 0)))⟩])
 (.block 0
 (.loop
 (.seq
 (.reg 8 none [2,6,18,19,20,21] [
 ⟨some 21,none,.bin .lss false (.t 20) (.t 19)⟩])
 (.seq
 (.cond (.t 21)
 .skip
 (.exit 0))
 (.seq
 (.block 1
 (.seq
 (.reg 9 none [2,6,8,18,19,20] [
 ⟨some 22,none,.ixL 3 (.t 18) (.t 20)⟩,
 ⟨some 23,none,.ld (some 3) (.t 22)⟩,
 ⟨some 8,none,.new (.agg [.v (.int .i64 0),.v (.slice none 0 0),.v (.slice none 0 0)])⟩,
 ⟨none,none,.st 3 (.t 8) (.t 23)⟩])
 (.seq
 (.seq
 (.reg 10 none [2,8,9,18,19,20] [
 ⟨some 24,none,.ld (some 1) (.t 2)⟩,
 ⟨some 25,none,.ld (some 3) (.t 8)⟩,
 ⟨some 26,none,.mv (.t 6)⟩,
 ⟨some 27,none,.call (.k (.clo F_ref29_release [])) [.t 24,.t 25,.t 26]⟩,
 ⟨some 9,none,.mv (.t 27)⟩])
 (.seq
 (.reg 11 none [2,8,9,18,19,20,29] [
 ⟨some 28,none,.mv (.t 9)⟩,
 ⟨some 29,none,.bin .neq false (.t 28) (.k (.v (.int .i64 0)))⟩])
 (.cond (.t 29)
 (.seq
 (.reg 12 none [4] [
 ⟨some 30,none,.mv (.t 9)⟩,
 ⟨some 4,none,.mv (.t 30)⟩])
 .ret)
 .skip)))
 (.reg 13 none [2,6,18,19,20] [
 ⟨some 31,none,.fa 0 (.t 8)⟩,
 ⟨some 32,none,.ld none (.t 31)⟩,
 ⟨some 6,none,.mv (.t 32)⟩]))))
 (.reg 14 none [2,6,18,19,20] [
 ⟨some 33,none,.bin .add false (.t 20) (.k (.v (.int .i64 1)))⟩,
 ⟨some 20,none,.mv (.t 33)⟩])))))))
 (.seq
 (.reg 15 none [4] [
 ⟨some 4,none,.mv (.k (.v (.int .i64 0)))⟩])
 .ret))))))
theorem fn_ref29_Check:FnIR Tryd.prog F_ref29_Check 34 [(0,[1,2]),(1,[1,2,5]),(2,[1,2,5,13]),(3,[4]),(4,[1,2,17]),(5,[4]),(6,[1,2,6]),(7,[2,6,18,19,20]),(8,[2,6,18,19,20,21]),(9,[2,6,8,18,19,20]),(10,[2,8,9,18,19,20]),(11,[2,8,9,18,19,20,29]),(12,[4]),(13,[2,6,18,19,20]),(14,[2,6,18,19,20]),(15,[4])] ir_ref29_Check [(.tmp 4)]:=
 ⟨Tryd.f12,_,Tryd.func12,rfl,by kernel_rfl,rfl,by kernel_rfl,by kernel_rfl⟩
def ir_ref29_Same:RC:=
 (.seq
 (.reg 0 none [0,1] [
 ⟨some 4,none,.mv (.k (.v (.bool false)))⟩])
 (.seq
 (.seq
 (.reg 1 none [0,1,10] [
 ⟨some 6,none,.mv (.t 0)⟩,
 ⟨some 7,none,.lenL (.t 6)⟩,
 ⟨some 8,none,.mv (.t 1)⟩,
 ⟨some 9,none,.lenL (.t 8)⟩,
 ⟨some 10,none,.bin .neq false (.t 7) (.t 9)⟩])
 (.cond (.t 10)
 (.seq
 (.reg 2 none [4] [
 ⟨some 4,none,.mv (.k (.v (.bool false)))⟩])
 .ret)
 .skip))
 (.seq
 (.seq
 (.reg 3 none [0,1,12,13] [
 ⟨some 11,none,.mv (.t 0)⟩,
 ⟨some 12,none,.lenL (.t 11)⟩,
 ⟨some 13,none,.mv (.k (.v (.int .i64 0)))⟩])
 (.block 0
 (.loop
 (.seq
 (.reg 4 none [0,1,12,13,14] [
 ⟨some 14,none,.bin .lss false (.t 13) (.t 12)⟩])
 (.seq
 (.cond (.t 14)
 .skip
 (.exit 0))
 (.seq
 (.block 1
 (.seq
 (.reg 5 none [0,1,5,12,13] [
 ⟨some 15,none,.mv (.t 13)⟩,
 ⟨some 5,none,.mv (.t 15)⟩])
 (.seq
 (.reg 6 (some [0,0,3,7,15,0,0,96,224,480,1023,2047,4095,4095,16383,32767,65535,4095,4095,397311,921599,1970175,4194303,8388607,16777215]) [0,1,12,13,40] [
 ⟨some 16,none,.mv (.t 0)⟩,
 ⟨some 17,none,.mv (.t 5)⟩,
 ⟨some 18,none,.ixL 2 (.t 16) (.t 17)⟩,
 ⟨some 19,none,.fa 1 (.t 18)⟩,
 ⟨some 20,none,.ld none (.t 19)⟩,
 ⟨some 21,none,.mv (.t 1)⟩,
 ⟨some 22,none,.mv (.t 5)⟩,
 ⟨some 23,none,.ixL 2 (.t 21) (.t 22)⟩,
 ⟨some 24,none,.fa 1 (.t 23)⟩,
 ⟨some 25,none,.ld none (.t 24)⟩,
 ⟨some 26,none,.bin .neq false (.t 20) (.t 25)⟩,
 ⟨some 27,none,.mv (.t 26)⟩,
 ⟨some 28,some (27,false),.mv (.t 0)⟩,
 ⟨some 29,some (27,false),.mv (.t 5)⟩,
 ⟨some 30,some (27,false),.ixL 2 (.t 28) (.t 29)⟩,
 ⟨some 31,some (27,false),.fa 0 (.t 30)⟩,
 ⟨some 32,some (27,false),.ld none (.t 31)⟩,
 ⟨some 33,some (27,false),.mv (.t 1)⟩,
 ⟨some 34,some (27,false),.mv (.t 5)⟩,
 ⟨some 35,some (27,false),.ixL 2 (.t 33) (.t 34)⟩,
 ⟨some 36,some (27,false),.fa 0 (.t 35)⟩,
 ⟨some 37,some (27,false),.ld none (.t 36)⟩,
 ⟨some 38,some (27,false),.call (.k (.clo F_ref28_Ints [])) [.t 32,.t 37]⟩,
 ⟨some 39,some (27,false),.un .not (.t 38)⟩,
 ⟨some 40,none,.pick (.t 27) (.k (.v (.bool true))) (.t 39)⟩])
 (.cond (.t 40)
 (.seq
 (.reg 7 none [4] [
 ⟨some 4,none,.mv (.k (.v (.bool false)))⟩])
 .ret)
 .skip))))
 (.reg 8 none [0,1,12,13] [
 ⟨some 41,none,.bin .add false (.t 13) (.k (.v (.int .i64 1)))⟩,
 ⟨some 13,none,.mv (.t 41)⟩])))))))
 (.seq
 (.reg 9 none [4] [
 ⟨some 4,none,.mv (.k (.v (.bool true)))⟩])
 .ret))))
theorem fn_ref29_Same:FnIR Tryd.prog F_ref29_Same 42 [(0,[0,1]),(1,[0,1,10]),(2,[4]),(3,[0,1,12,13]),(4,[0,1,12,13,14]),(5,[0,1,5,12,13]),(6,[0,1,12,13,40]),(7,[4]),(8,[0,1,12,13]),(9,[4])] ir_ref29_Same [(.tmp 4)]:=
 ⟨Tryd.f13,_,Tryd.func13,rfl,by kernel_rfl,rfl,by kernel_rfl,by kernel_rfl⟩
def ir_equations_Of:RC:=
 (.seq
 (.reg 0 none [2,3] [
 ⟨some 2,none,.box (.t 0)⟩,
 ⟨some 3,none,.box (.t 1)⟩,
 ⟨some 4,none,.mv (.k (.v (.slice none 0 0)))⟩,
 ⟨some 5,none,.mv (.k (.v (.int .i64 0)))⟩])
 (.seq
 (.reg 1 none [4,5] [
 ⟨some 6,none,.ld (some 1) (.t 2)⟩,
 ⟨some 7,none,.ld (some 3) (.t 3)⟩,
 ⟨some 8,none,.bsl 3 1 [.t 7]⟩,
 ⟨some 9,none,.call (.k (.clo F_equations_All [])) [.t 6,.t 8]⟩,
 ⟨some 10,none,.ex (.t 9) 0⟩,
 ⟨some 11,none,.ex (.t 9) 1⟩,
 ⟨some 4,none,.mv (.t 10)⟩,
 ⟨some 5,none,.mv (.t 11)⟩])
 .ret))
theorem fn_equations_Of:FnIR Tryd.prog F_equations_Of 12 [(0,[2,3]),(1,[4,5])] ir_equations_Of [(.tmp 4),(.tmp 5)]:=
 ⟨Tryd.f14,_,Tryd.func14,rfl,by kernel_rfl,rfl,by kernel_rfl,by kernel_rfl⟩
def ir_ref29_Of:RC:=
 (.seq
 (.reg 0 none [2,3] [
 ⟨some 2,none,.box (.t 0)⟩,
 ⟨some 3,none,.box (.t 1)⟩,
 ⟨some 4,none,.mv (.k (.v (.slice none 0 0)))⟩,
 ⟨some 5,none,.mv (.k (.v (.int .i64 0)))⟩])
 (.seq
 (.reg 1 none [4,5] [
 ⟨some 6,none,.ld (some 1) (.t 2)⟩,
 ⟨some 7,none,.ld (some 3) (.t 3)⟩,
 ⟨some 8,none,.bsl 3 1 [.t 7]⟩,
 ⟨some 9,none,.call (.k (.clo F_ref29_All [])) [.t 6,.t 8]⟩,
 ⟨some 10,none,.ex (.t 9) 0⟩,
 ⟨some 11,none,.ex (.t 9) 1⟩,
 ⟨some 4,none,.mv (.t 10)⟩,
 ⟨some 5,none,.mv (.t 11)⟩])
 .ret))
theorem fn_ref29_Of:FnIR Tryd.prog F_ref29_Of 12 [(0,[2,3]),(1,[4,5])] ir_ref29_Of [(.tmp 4),(.tmp 5)]:=
 ⟨Tryd.f15,_,Tryd.func15,rfl,by kernel_rfl,rfl,by kernel_rfl,by kernel_rfl⟩
def ir_ref28_Count:RC:=
 (.seq
 (.reg 0 none [1] [
 ⟨some 1,none,.box (.t 0)⟩,
 ⟨some 2,none,.mv (.k (.v (.int .i64 0)))⟩])
 (.seq
 (.seq
 (.reg 1 none [1,8] [
 ⟨some 6,none,.ld (some 1) (.t 1)⟩,
 ⟨some 7,none,.call (.k (.clo F_ref28_Check [])) [.t 6]⟩,
 ⟨some 8,none,.bin .neq false (.t 7) (.k (.v (.int .i64 0)))⟩])
 (.cond (.t 8)
 (.seq
 (.reg 2 none [2] [
 ⟨some 2,none,.mv (.k (.v (.int .i64 0)))⟩])
 .ret)
 .skip))
 (.seq
 (.reg 3 none [1,3] [
 ⟨some 3,none,.mv (.k (.v (.int .i64 1)))⟩])
 (.seq
 (.seq
 (.reg 4 none [3,10,11,12] [
 ⟨some 9,none,.fa 0 (.t 1)⟩,
 ⟨some 10,none,.ld none (.t 9)⟩,
 ⟨some 11,none,.lenL (.t 10)⟩,
 ⟨some 12,none,.mv (.k (.v (.int .i64 0)))⟩])
 (.block 0
 (.loop
 (.seq
 (.reg 5 none [3,10,11,12,13] [
 ⟨some 13,none,.bin .lss false (.t 12) (.t 11)⟩])
 (.seq
 (.cond (.t 13)
 .skip
 (.exit 0))
 (.seq
 (.block 1
 (.seq
 (.reg 6 none [3,5,10,11,12] [
 ⟨some 14,none,.ixL 1 (.t 10) (.t 12)⟩,
 ⟨some 15,none,.ld none (.t 14)⟩,
 ⟨some 5,none,.mv (.t 15)⟩])
 (.reg 7 none [3,10,11,12] [
 ⟨some 16,none,.mv (.t 3)⟩,
 ⟨some 17,none,.mv (.t 5)⟩,
 ⟨some 18,none,.bin .mul false (.t 16) (.t 17)⟩,
 ⟨some 3,none,.mv (.t 18)⟩])))
 (.reg 8 none [3,10,11,12] [
 ⟨some 19,none,.bin .add false (.t 12) (.k (.v (.int .i64 1)))⟩,
 ⟨some 12,none,.mv (.t 19)⟩])))))))
 (.seq
 (.reg 9 none [2] [
 ⟨some 20,none,.mv (.t 3)⟩,
 ⟨some 2,none,.mv (.t 20)⟩])
 .ret)))))
theorem fn_ref28_Count:FnIR Tryd.prog F_ref28_Count 21 [(0,[1]),(1,[1,8]),(2,[2]),(3,[1,3]),(4,[3,10,11,12]),(5,[3,10,11,12,13]),(6,[3,5,10,11,12]),(7,[3,10,11,12]),(8,[3,10,11,12]),(9,[2])] ir_ref28_Count [(.tmp 2)]:=
 ⟨Tryd.f16,_,Tryd.func16,rfl,by kernel_rfl,rfl,by kernel_rfl,by kernel_rfl⟩
def ir_equations_Reduce:RC:=
 (.seq
 (.reg 0 none [0,1] [
 ⟨some 4,none,.mv (.k (.v (.slice none 0 0)))⟩,
 ⟨some 5,none,.mv (.k (.v (.int .i64 0)))⟩])
 (.seq
 (.seq
 (.reg 1 none [1,16] [
 ⟨some 13,none,.mv (.t 0)⟩,
 ⟨some 14,none,.mv (.t 1)⟩,
 ⟨some 15,none,.call (.k (.clo F_equations_Valid [])) [.t 13,.t 14]⟩,
 ⟨some 16,none,.un .not (.t 15)⟩])
 (.cond (.t 16)
 (.seq
 (.reg 2 none [4,5] [
 ⟨some 4,none,.mv (.k (.v (.slice none 0 0)))⟩,
 ⟨some 5,none,.mv (.k (.v (.int .i64 55)))⟩])
 .ret)
 .skip))
 (.seq
 (.reg 3 none [1,6] [
 ⟨some 17,none,.ext (.mkm .si) []⟩,
 ⟨some 6,none,.mv (.t 17)⟩])
 (.seq
 (.reg 4 none [1,6,7] [
 ⟨some 7,none,.mv (.k (.v (.slice none 0 0)))⟩])
 (.seq
 (.seq
 (.reg 5 none [6,7,18,19,20] [
 ⟨some 18,none,.mv (.t 1)⟩,
 ⟨some 19,none,.lenL (.t 18)⟩,
 ⟨some 20,none,.mv (.k (.v (.int .i64 0)))⟩])
 (.block 0
 (.loop
 (.seq
 (.reg 6 none [6,7,18,19,20,21] [
 ⟨some 21,none,.bin .lss false (.t 20) (.t 19)⟩])
 (.seq
 (.cond (.t 21)
 .skip
 (.exit 0))
 (.seq
 (.block 1
 (.seq
 (.reg 7 none [6,7,9,18,19,20] [
 ⟨some 22,none,.ixL 2 (.t 18) (.t 20)⟩,
 ⟨some 23,none,.ld (some 2) (.t 22)⟩,
 ⟨some 9,none,.new (.agg [.v (.slice none 0 0),.v (.int .i64 0)])⟩,
 ⟨none,none,.st 2 (.t 9) (.t 23)⟩])
 (.seq
 (.reg 8 none [6,7,9,10,18,19,20] [
 ⟨some 24,none,.fa 0 (.t 9)⟩,
 ⟨some 25,none,.ld none (.t 24)⟩,
 ⟨some 26,none,.call (.k (.clo F_equations_text [])) [.t 25]⟩,
 ⟨some 10,none,.mv (.t 26)⟩])
 (.seq
 (.reg 9 none [6,7,9,10,11,12,18,19,20] [
 ⟨some 28,none,.mv (.t 6)⟩,
 ⟨some 29,none,.mv (.t 10)⟩,
 ⟨some 30,none,.ext (.mget .si true) [.t 28,.t 29]⟩,
 ⟨some 27,none,.mv (.t 30)⟩,
 ⟨some 31,none,.ex (.t 27) 0⟩,
 ⟨some 32,none,.ex (.t 27) 1⟩,
 ⟨some 11,none,.mv (.t 31)⟩,
 ⟨some 12,none,.mv (.t 32)⟩])
 (.block 2
 (.seq
 (.reg 10 none [6,7,9,10,11,18,19,20,33] [
 ⟨some 34,none,.mv (.t 12)⟩,
 ⟨some 35,none,.un .not (.t 34)⟩,
 ⟨some 33,none,.mv (.t 35)⟩])
 (.cond (.t 33)
 (.seq
 (.reg 11 none [6,7,9,18,19,20] [
 ⟨some 36,none,.mv (.t 6)⟩,
 ⟨some 37,none,.mv (.t 10)⟩,
 ⟨some 38,none,.fa 1 (.t 9)⟩,
 ⟨some 39,none,.ld none (.t 38)⟩,
 ⟨none,none,.ext (.mput .si) [.t 36,.t 37,.t 39]⟩])
 (.reg 12 (some [0,0,2,6,0,16,62,126,255,511]) [6,7,18,19,20] [
 ⟨some 40,none,.mv (.t 7)⟩,
 ⟨some 41,none,.fa 0 (.t 9)⟩,
 ⟨some 42,none,.ld none (.t 41)⟩,
 ⟨some 43,none,.call (.k (.clo F_slices_Clone_int [])) [.t 42]⟩,
 ⟨some 44,none,.fa 1 (.t 9)⟩,
 ⟨some 45,none,.ld none (.t 44)⟩,
 ⟨some 46,none,.build [.v (.slice none 0 0),.v (.int .i64 0)] [((0,1),.t 43),((1,1),.t 45)]⟩,
 ⟨some 47,none,.bsl 2 1 [.t 46]⟩,
 ⟨some 48,none,.app 2 32 false (.t 40) (.t 47)⟩,
 ⟨some 7,none,.mv (.t 48)⟩]))
 (.seq
 (.reg 13 none [6,7,18,19,20,49] [
 ⟨some 50,none,.mv (.t 11)⟩,
 ⟨some 51,none,.fa 1 (.t 9)⟩,
 ⟨some 52,none,.ld none (.t 51)⟩,
 ⟨some 53,none,.bin .neq false (.t 50) (.t 52)⟩,
 ⟨some 49,none,.mv (.t 53)⟩])
 (.cond (.t 49)
 (.seq
 (.reg 14 none [4,5] [
 ⟨some 4,none,.mv (.k (.v (.slice none 0 0)))⟩,
 ⟨some 5,none,.mv (.k (.v (.int .i64 52)))⟩])
 .ret)
 .skip)))))))))
 (.reg 15 none [6,7,18,19,20] [
 ⟨some 54,none,.bin .add false (.t 20) (.k (.v (.int .i64 1)))⟩,
 ⟨some 20,none,.mv (.t 54)⟩])))))))
 (.seq
 (.reg 16 none [4,5] [
 ⟨some 55,none,.mv (.t 7)⟩,
 ⟨some 4,none,.mv (.t 55)⟩,
 ⟨some 5,none,.mv (.k (.v (.int .i64 0)))⟩])
 .ret))))))
theorem fn_equations_Reduce:FnIR Tryd.prog F_equations_Reduce 56 [(0,[0,1]),(1,[1,16]),(2,[4,5]),(3,[1,6]),(4,[1,6,7]),(5,[6,7,18,19,20]),(6,[6,7,18,19,20,21]),(7,[6,7,9,18,19,20]),(8,[6,7,9,10,18,19,20]),(9,[6,7,9,10,11,12,18,19,20]),(10,[6,7,9,10,11,18,19,20,33]),(11,[6,7,9,18,19,20]),(12,[6,7,18,19,20]),(13,[6,7,18,19,20,49]),(14,[4,5]),(15,[6,7,18,19,20]),(16,[4,5])] ir_equations_Reduce [(.tmp 4),(.tmp 5)]:=
 ⟨Tryd.f17,_,Tryd.func17,rfl,by kernel_rfl,rfl,by kernel_rfl,by kernel_rfl⟩
def ir_equations_Valid:RC:=
 (.seq
 (.reg 0 none [1,2] [
 ⟨some 2,none,.box (.t 0)⟩,
 ⟨some 4,none,.mv (.k (.v (.bool false)))⟩])
 (.seq
 (.reg 1 none [4] [
 ⟨some 5,none,.ld none (.t 2)⟩,
 ⟨some 6,none,.bin .geq false (.t 5) (.k (.v (.int .i64 1)))⟩,
 ⟨some 7,none,.mv (.t 6)⟩,
 ⟨some 8,some (7,true),.ld none (.t 2)⟩,
 ⟨some 9,some (7,true),.bin .leq false (.t 8) (.k (.v (.int .i64 48)))⟩,
 ⟨some 10,none,.pick (.t 7) (.t 9) (.k (.v (.bool false)))⟩,
 ⟨some 11,none,.mv (.t 10)⟩,
 ⟨some 12,some (11,true),.mv (.t 1)⟩,
 ⟨some 13,some (11,true),.lenL (.t 12)⟩,
 ⟨some 14,some (11,true),.bin .leq false (.t 13) (.k (.v (.int .i64 1152)))⟩,
 ⟨some 15,none,.pick (.t 11) (.t 14) (.k (.v (.bool false)))⟩,
 ⟨some 16,none,.mv (.t 15)⟩,
 ⟨some 17,some (16,true),.mv (.t 1)⟩,
 ⟨some 18,some (16,true),.mf F_equations_Valid_1 [.t 2]⟩,
 ⟨some 19,some (16,true),.call (.k (.clo F_slices_ContainsFunc_Equation [])) [.t 17,.t 18]⟩,
 ⟨some 20,some (16,true),.un .not (.t 19)⟩,
 ⟨some 21,none,.pick (.t 16) (.t 20) (.k (.v (.bool false)))⟩,
 ⟨some 4,none,.mv (.t 21)⟩])
 .ret))
theorem fn_equations_Valid:FnIR Tryd.prog F_equations_Valid 22 [(0,[1,2]),(1,[4])] ir_equations_Valid [(.tmp 4)]:=
 ⟨Tryd.f19,_,Tryd.func19,rfl,by kernel_rfl,rfl,by kernel_rfl,by kernel_rfl⟩
def ir_ref28_Ints:RC:=
 (.seq
 (.reg 0 none [0,1] [
 ⟨some 4,none,.mv (.k (.v (.bool false)))⟩])
 (.seq
 (.seq
 (.reg 1 none [0,1,10] [
 ⟨some 6,none,.mv (.t 0)⟩,
 ⟨some 7,none,.lenL (.t 6)⟩,
 ⟨some 8,none,.mv (.t 1)⟩,
 ⟨some 9,none,.lenL (.t 8)⟩,
 ⟨some 10,none,.bin .neq false (.t 7) (.t 9)⟩])
 (.cond (.t 10)
 (.seq
 (.reg 2 none [4] [
 ⟨some 4,none,.mv (.k (.v (.bool false)))⟩])
 .ret)
 .skip))
 (.seq
 (.seq
 (.reg 3 none [0,1,12,13] [
 ⟨some 11,none,.mv (.t 0)⟩,
 ⟨some 12,none,.lenL (.t 11)⟩,
 ⟨some 13,none,.mv (.k (.v (.int .i64 0)))⟩])
 (.block 0
 (.loop
 (.seq
 (.reg 4 none [0,1,12,13,14] [
 ⟨some 14,none,.bin .lss false (.t 13) (.t 12)⟩])
 (.seq
 (.cond (.t 14)
 .skip
 (.exit 0))
 (.seq
 (.block 1
 (.seq
 (.reg 5 none [0,1,5,12,13] [
 ⟨some 15,none,.mv (.t 13)⟩,
 ⟨some 5,none,.mv (.t 15)⟩])
 (.seq
 (.reg 6 (some [0,0,3,7,0,0,48,112,255]) [0,1,12,13,24] [
 ⟨some 16,none,.mv (.t 0)⟩,
 ⟨some 17,none,.mv (.t 5)⟩,
 ⟨some 18,none,.ixL 1 (.t 16) (.t 17)⟩,
 ⟨some 19,none,.ld none (.t 18)⟩,
 ⟨some 20,none,.mv (.t 1)⟩,
 ⟨some 21,none,.mv (.t 5)⟩,
 ⟨some 22,none,.ixL 1 (.t 20) (.t 21)⟩,
 ⟨some 23,none,.ld none (.t 22)⟩,
 ⟨some 24,none,.bin .neq false (.t 19) (.t 23)⟩])
 (.cond (.t 24)
 (.seq
 (.reg 7 none [4] [
 ⟨some 4,none,.mv (.k (.v (.bool false)))⟩])
 .ret)
 .skip))))
 (.reg 8 none [0,1,12,13] [
 ⟨some 25,none,.bin .add false (.t 13) (.k (.v (.int .i64 1)))⟩,
 ⟨some 13,none,.mv (.t 25)⟩])))))))
 (.seq
 (.reg 9 none [4] [
 ⟨some 4,none,.mv (.k (.v (.bool true)))⟩])
 .ret))))
theorem fn_ref28_Ints:FnIR Tryd.prog F_ref28_Ints 26 [(0,[0,1]),(1,[0,1,10]),(2,[4]),(3,[0,1,12,13]),(4,[0,1,12,13,14]),(5,[0,1,5,12,13]),(6,[0,1,12,13,24]),(7,[4]),(8,[0,1,12,13]),(9,[4])] ir_ref28_Ints [(.tmp 4)]:=
 ⟨Tryd.f21,_,Tryd.func21,rfl,by kernel_rfl,rfl,by kernel_rfl,by kernel_rfl⟩
def ir_equations_Touched:RC:=
 (.seq
 (.reg 0 none [0,1] [
 ⟨some 4,none,.mv (.k (.v (.slice none 0 0)))⟩])
 (.seq
 (.reg 1 none [0,1,5] [
 ⟨some 5,none,.mv (.k (.v (.slice none 0 0)))⟩])
 (.seq
 (.seq
 (.reg 2 none [0,5,10,11,12] [
 ⟨some 10,none,.mv (.t 1)⟩,
 ⟨some 11,none,.lenL (.t 10)⟩,
 ⟨some 12,none,.mv (.k (.v (.int .i64 0)))⟩])
 (.block 0
 (.loop
 (.seq
 (.reg 3 none [0,5,10,11,12,13] [
 ⟨some 13,none,.bin .lss false (.t 12) (.t 11)⟩])
 (.seq
 (.cond (.t 13)
 .skip
 (.exit 0))
 (.seq
 (.block 1
 (.seq
 (.reg 4 none [0,5,7,10,11,12] [
 ⟨some 14,none,.ixL 2 (.t 10) (.t 12)⟩,
 ⟨some 15,none,.ld (some 2) (.t 14)⟩,
 ⟨some 7,none,.new (.agg [.v (.slice none 0 0),.v (.int .i64 0)])⟩,
 ⟨none,none,.st 2 (.t 7) (.t 15)⟩])
 (.seq
 (.reg 5 none [0,5,10,11,12,17,18,19] [
 ⟨some 16,none,.fa 0 (.t 7)⟩,
 ⟨some 17,none,.ld none (.t 16)⟩,
 ⟨some 18,none,.lenL (.t 17)⟩,
 ⟨some 19,none,.mv (.k (.v (.int .i64 0)))⟩])
 (.block 2
 (.loop
 (.seq
 (.reg 6 none [0,5,10,11,12,17,18,19,20] [
 ⟨some 20,none,.bin .lss false (.t 19) (.t 18)⟩])
 (.seq
 (.cond (.t 20)
 .skip
 (.exit 2))
 (.seq
 (.block 3
 (.seq
 (.reg 7 none [0,5,9,10,11,12,17,18,19] [
 ⟨some 21,none,.ixL 1 (.t 17) (.t 19)⟩,
 ⟨some 22,none,.ld none (.t 21)⟩,
 ⟨some 9,none,.mv (.t 22)⟩])
 (.seq
 (.reg 8 none [0,5,9,10,11,12,17,18,19,29] [
 ⟨some 23,none,.mv (.t 9)⟩,
 ⟨some 24,none,.bin .geq false (.t 23) (.k (.v (.int .i64 0)))⟩,
 ⟨some 25,none,.mv (.t 24)⟩,
 ⟨some 26,some (25,true),.mv (.t 9)⟩,
 ⟨some 27,some (25,true),.mv (.t 0)⟩,
 ⟨some 28,some (25,true),.bin .lss false (.t 26) (.t 27)⟩,
 ⟨some 29,none,.pick (.t 25) (.t 28) (.k (.v (.bool false)))⟩])
 (.cond (.t 29)
 (.reg 9 none [0,5,10,11,12,17,18,19] [
 ⟨some 30,none,.mv (.t 5)⟩,
 ⟨some 31,none,.mv (.t 9)⟩,
 ⟨some 32,none,.bsl 1 1 [.t 31]⟩,
 ⟨some 33,none,.app 1 8 false (.t 30) (.t 32)⟩,
 ⟨some 5,none,.mv (.t 33)⟩])
 .skip))))
 (.reg 10 none [0,5,10,11,12,17,18,19] [
 ⟨some 34,none,.bin .add false (.t 19) (.k (.v (.int .i64 1)))⟩,
 ⟨some 19,none,.mv (.t 34)⟩])))))))))
 (.reg 11 none [0,5,10,11,12] [
 ⟨some 35,none,.bin .add false (.t 12) (.k (.v (.int .i64 1)))⟩,
 ⟨some 12,none,.mv (.t 35)⟩])))))))
 (.seq
 (.reg 12 none [5] [
 ⟨some 36,none,.mv (.t 5)⟩,
 ⟨some 37,none,.call (.k (.clo F_slices_Sort_int [])) [.t 36]⟩])
 (.seq
 (.reg 13 none [4] [
 ⟨some 38,none,.mv (.t 5)⟩,
 ⟨some 39,none,.call (.k (.clo F_slices_Compact_int [])) [.t 38]⟩,
 ⟨some 4,none,.mv (.t 39)⟩])
 .ret)))))
theorem fn_equations_Touched:FnIR Tryd.prog F_equations_Touched 40 [(0,[0,1]),(1,[0,1,5]),(2,[0,5,10,11,12]),(3,[0,5,10,11,12,13]),(4,[0,5,7,10,11,12]),(5,[0,5,10,11,12,17,18,19]),(6,[0,5,10,11,12,17,18,19,20]),(7,[0,5,9,10,11,12,17,18,19]),(8,[0,5,9,10,11,12,17,18,19,29]),(9,[0,5,10,11,12,17,18,19]),(10,[0,5,10,11,12,17,18,19]),(11,[0,5,10,11,12]),(12,[5]),(13,[4])] ir_equations_Touched [(.tmp 4)]:=
 ⟨Tryd.f22,_,Tryd.func22,rfl,by kernel_rfl,rfl,by kernel_rfl,by kernel_rfl⟩
def ir_equations_Agrees:RC:=
 (.seq
 (.reg 0 none [0,1] [
 ⟨some 4,none,.mv (.k (.v (.bool false)))⟩])
 (.seq
 (.seq
 (.reg 1 none [0,1,11] [
 ⟨some 10,none,.mv (.t 1)⟩,
 ⟨some 11,none,.call (.k (.clo F_slices_ContainsFunc_int [])) [.t 10,.k (.clo F_equations_Agrees_1 [])]⟩])
 (.cond (.t 11)
 (.seq
 (.reg 2 none [4] [
 ⟨some 4,none,.mv (.k (.v (.bool false)))⟩])
 .ret)
 .skip))
 (.seq
 (.seq
 (.reg 3 none [1,12,13,14] [
 ⟨some 12,none,.mv (.t 0)⟩,
 ⟨some 13,none,.lenL (.t 12)⟩,
 ⟨some 14,none,.mv (.k (.v (.int .i64 0)))⟩])
 (.block 0
 (.loop
 (.seq
 (.reg 4 none [1,12,13,14,15] [
 ⟨some 15,none,.bin .lss false (.t 14) (.t 13)⟩])
 (.seq
 (.cond (.t 15)
 .skip
 (.exit 0))
 (.seq
 (.block 1
 (.seq
 (.reg 5 none [1,6,12,13,14] [
 ⟨some 16,none,.ixL 2 (.t 12) (.t 14)⟩,
 ⟨some 17,none,.ld (some 2) (.t 16)⟩,
 ⟨some 6,none,.new (.agg [.v (.slice none 0 0),.v (.int .i64 0)])⟩,
 ⟨none,none,.st 2 (.t 6) (.t 17)⟩])
 (.seq
 (.reg 6 none [1,6,7,12,13,14] [
 ⟨some 7,none,.mv (.k (.v (.int .i64 0)))⟩])
 (.seq
 (.seq
 (.reg 7 none [1,6,7,12,13,14,19,20,21] [
 ⟨some 18,none,.fa 0 (.t 6)⟩,
 ⟨some 19,none,.ld none (.t 18)⟩,
 ⟨some 20,none,.lenL (.t 19)⟩,
 ⟨some 21,none,.mv (.k (.v (.int .i64 0)))⟩])
 (.block 2
 (.loop
 (.seq
 (.reg 8 none [1,6,7,12,13,14,19,20,21,22] [
 ⟨some 22,none,.bin .lss false (.t 21) (.t 20)⟩])
 (.seq
 (.cond (.t 22)
 .skip
 (.exit 2))
 (.seq
 (.block 3
 (.seq
 (.reg 9 none [1,6,7,9,12,13,14,19,20,21] [
 ⟨some 23,none,.ixL 1 (.t 19) (.t 21)⟩,
 ⟨some 24,none,.ld none (.t 23)⟩,
 ⟨some 9,none,.mv (.t 24)⟩])
 (.seq
 (.seq
 (.reg 10 none [1,6,7,9,12,13,14,19,20,21,32] [
 ⟨some 25,none,.mv (.t 9)⟩,
 ⟨some 26,none,.bin .lss false (.t 25) (.k (.v (.int .i64 0)))⟩,
 ⟨some 27,none,.mv (.t 26)⟩,
 ⟨some 28,some (27,false),.mv (.t 9)⟩,
 ⟨some 29,some (27,false),.mv (.t 1)⟩,
 ⟨some 30,some (27,false),.lenL (.t 29)⟩,
 ⟨some 31,some (27,false),.bin .geq false (.t 28) (.t 30)⟩,
 ⟨some 32,none,.pick (.t 27) (.k (.v (.bool true))) (.t 31)⟩])
 (.cond (.t 32)
 (.seq
 (.reg 11 none [4] [
 ⟨some 4,none,.mv (.k (.v (.bool false)))⟩])
 .ret)
 .skip))
 (.reg 12 none [1,6,7,12,13,14,19,20,21] [
 ⟨some 33,none,.mv (.t 7)⟩,
 ⟨some 34,none,.mv (.t 1)⟩,
 ⟨some 35,none,.mv (.t 9)⟩,
 ⟨some 36,none,.ixL 1 (.t 34) (.t 35)⟩,
 ⟨some 37,none,.ld none (.t 36)⟩,
 ⟨some 38,none,.bin .add false (.t 33) (.t 37)⟩,
 ⟨some 7,none,.mv (.t 38)⟩]))))
 (.reg 13 none [1,6,7,12,13,14,19,20,21] [
 ⟨some 39,none,.bin .add false (.t 21) (.k (.v (.int .i64 1)))⟩,
 ⟨some 21,none,.mv (.t 39)⟩])))))))
 (.seq
 (.reg 14 none [1,12,13,14,43] [
 ⟨some 40,none,.mv (.t 7)⟩,
 ⟨some 41,none,.fa 1 (.t 6)⟩,
 ⟨some 42,none,.ld none (.t 41)⟩,
 ⟨some 43,none,.bin .neq false (.t 40) (.t 42)⟩])
 (.cond (.t 43)
 (.seq
 (.reg 15 none [4] [
 ⟨some 4,none,.mv (.k (.v (.bool false)))⟩])
 .ret)
 .skip))))))
 (.reg 16 none [1,12,13,14] [
 ⟨some 44,none,.bin .add false (.t 14) (.k (.v (.int .i64 1)))⟩,
 ⟨some 14,none,.mv (.t 44)⟩])))))))
 (.seq
 (.reg 17 none [4] [
 ⟨some 4,none,.mv (.k (.v (.bool true)))⟩])
 .ret))))
theorem fn_equations_Agrees:FnIR Tryd.prog F_equations_Agrees 45 [(0,[0,1]),(1,[0,1,11]),(2,[4]),(3,[1,12,13,14]),(4,[1,12,13,14,15]),(5,[1,6,12,13,14]),(6,[1,6,7,12,13,14]),(7,[1,6,7,12,13,14,19,20,21]),(8,[1,6,7,12,13,14,19,20,21,22]),(9,[1,6,7,9,12,13,14,19,20,21]),(10,[1,6,7,9,12,13,14,19,20,21,32]),(11,[4]),(12,[1,6,7,12,13,14,19,20,21]),(13,[1,6,7,12,13,14,19,20,21]),(14,[1,12,13,14,43]),(15,[4]),(16,[1,12,13,14]),(17,[4])] ir_equations_Agrees [(.tmp 4)]:=
 ⟨Tryd.f24,_,Tryd.func24,rfl,by kernel_rfl,rfl,by kernel_rfl,by kernel_rfl⟩
def ir_made_Equations:RC:=
 (.seq
 (.reg 0 none [0,1] [
 ⟨some 4,none,.mv (.k (.v (.int .i64 0)))⟩,
 ⟨some 5,none,.mv (.k (.v (.slice none 0 0)))⟩,
 ⟨some 6,none,.mv (.k (.v (.slice none 0 0)))⟩])
 (.seq
 (.reg 1 none [7,8,9] [
 ⟨some 16,none,.mv (.t 0)⟩,
 ⟨some 17,none,.mv (.t 1)⟩,
 ⟨some 18,none,.call (.k (.clo F_made_Told [])) [.t 16,.t 17,.k (.v (.int .i64 3))]⟩,
 ⟨some 15,none,.mv (.t 18)⟩,
 ⟨some 19,none,.ex (.t 15) 0⟩,
 ⟨some 20,none,.ex (.t 15) 1⟩,
 ⟨some 21,none,.ex (.t 15) 2⟩,
 ⟨some 7,none,.new (.agg [.v (.slice none 0 0)])⟩,
 ⟨none,none,.st 1 (.t 7) (.t 19)⟩,
 ⟨some 8,none,.mv (.t 20)⟩,
 ⟨some 9,none,.mv (.t 21)⟩])
 (.seq
 (.reg 2 none [7,8,10] [
 ⟨some 23,none,.ld (some 1) (.t 7)⟩,
 ⟨some 24,none,.mv (.t 9)⟩,
 ⟨some 25,none,.call (.k (.clo F_ref29_All [])) [.t 23,.t 24]⟩,
 ⟨some 22,none,.mv (.t 25)⟩,
 ⟨some 26,none,.ex (.t 22) 0⟩,
 ⟨some 27,none,.ex (.t 22) 1⟩,
 ⟨some 10,none,.mv (.t 26)⟩,
 ⟨some 11,none,.mv (.t 27)⟩])
 (.seq
 (.reg 3 none [8,10,12] [
 ⟨some 28,none,.ld (some 1) (.t 7)⟩,
 ⟨some 29,none,.call (.k (.clo F_ref28_Count [])) [.t 28]⟩,
 ⟨some 12,none,.mv (.t 29)⟩])
 (.seq
 (.reg 4 none [8,10,12,13] [
 ⟨some 13,none,.mv (.k (.v (.slice none 0 0)))⟩])
 (.seq
 (.seq
 (.reg 5 none [8,10,12,13,31,32] [
 ⟨some 30,none,.mv (.t 10)⟩,
 ⟨some 31,none,.lenL (.t 30)⟩,
 ⟨some 32,none,.mv (.k (.v (.int .i64 0)))⟩])
 (.block 0
 (.loop
 (.seq
 (.reg 6 none [8,10,12,13,31,32,33] [
 ⟨some 33,none,.bin .lss false (.t 32) (.t 31)⟩])
 (.seq
 (.cond (.t 33)
 .skip
 (.exit 0))
 (.seq
 (.block 1
 (.seq
 (.reg 7 none [8,10,12,13,14,31,32] [
 ⟨some 34,none,.mv (.t 32)⟩,
 ⟨some 14,none,.mv (.t 34)⟩])
 (.seq
 (.reg 8 none [8,10,12,13,14,31,32,37] [
 ⟨some 35,none,.mv (.t 13)⟩,
 ⟨some 36,none,.lenL (.t 35)⟩,
 ⟨some 37,none,.bin .lss false (.t 36) (.k (.v (.int .i64 8)))⟩])
 (.cond (.t 37)
 (.reg 9 none [8,10,12,13,31,32] [
 ⟨some 38,none,.mv (.t 13)⟩,
 ⟨some 39,none,.mv (.t 10)⟩,
 ⟨some 40,none,.mv (.t 14)⟩,
 ⟨some 41,none,.ixL 2 (.t 39) (.t 40)⟩,
 ⟨some 42,none,.ld (some 2) (.t 41)⟩,
 ⟨some 43,none,.bsl 2 1 [.t 42]⟩,
 ⟨some 44,none,.app 2 32 false (.t 38) (.t 43)⟩,
 ⟨some 13,none,.mv (.t 44)⟩])
 .skip))))
 (.reg 10 none [8,10,12,13,31,32] [
 ⟨some 45,none,.bin .add false (.t 32) (.k (.v (.int .i64 1)))⟩,
 ⟨some 32,none,.mv (.t 45)⟩])))))))
 (.seq
 (.reg 11 none [4,5,6] [
 ⟨some 46,none,.mv (.t 12)⟩,
 ⟨some 47,none,.mv (.t 8)⟩,
 ⟨some 48,none,.mv (.t 13)⟩,
 ⟨some 4,none,.mv (.t 46)⟩,
 ⟨some 5,none,.mv (.t 47)⟩,
 ⟨some 6,none,.mv (.t 48)⟩])
 .ret)))))))
theorem fn_made_Equations:FnIR Tryd.prog F_made_Equations 49 [(0,[0,1]),(1,[7,8,9]),(2,[7,8,10]),(3,[8,10,12]),(4,[8,10,12,13]),(5,[8,10,12,13,31,32]),(6,[8,10,12,13,31,32,33]),(7,[8,10,12,13,14,31,32]),(8,[8,10,12,13,14,31,32,37]),(9,[8,10,12,13,31,32]),(10,[8,10,12,13,31,32]),(11,[4,5,6])] ir_made_Equations [(.tmp 4),(.tmp 5),(.tmp 6)]:=
 ⟨Tryd.f26,_,Tryd.func26,rfl,by kernel_rfl,rfl,by kernel_rfl,by kernel_rfl⟩
def ir_made_Cells:RC:=
 (.seq
 (.reg 0 none [0,2,4] [
 ⟨some 4,none,.box (.t 1)⟩,
 ⟨some 6,none,.mv (.k (.v (.slice none 0 0)))⟩])
 (.seq
 (.reg 1 none [0,2,7] [
 ⟨some 9,none,.ld (some 1) (.t 4)⟩,
 ⟨some 10,none,.call (.k (.clo F_ref28_Count [])) [.t 9]⟩,
 ⟨some 11,none,.mk 1 8 (.v (.int .i64 0)) (.t 10) (.t 10)⟩,
 ⟨some 7,none,.mv (.t 11)⟩])
 (.seq
 (.seq
 (.reg 2 none [0,2,7,13,14] [
 ⟨some 12,none,.mv (.t 7)⟩,
 ⟨some 13,none,.lenL (.t 12)⟩,
 ⟨some 14,none,.mv (.k (.v (.int .i64 0)))⟩])
 (.block 0
 (.loop
 (.seq
 (.reg 3 none [0,2,7,13,14,15] [
 ⟨some 15,none,.bin .lss false (.t 14) (.t 13)⟩])
 (.seq
 (.cond (.t 15)
 .skip
 (.exit 0))
 (.seq
 (.block 1
 (.seq
 (.reg 4 none [0,2,7,8,13,14] [
 ⟨some 16,none,.mv (.t 14)⟩,
 ⟨some 8,none,.mv (.t 16)⟩])
 (.reg 5 none [0,2,7,13,14] [
 ⟨some 17,none,.mv (.t 7)⟩,
 ⟨some 18,none,.mv (.t 8)⟩,
 ⟨some 19,none,.mv (.t 0)⟩,
 ⟨some 20,none,.mv (.t 2)⟩,
 ⟨some 21,none,.bin .add false (.t 20) (.k (.v (.int .i64 1)))⟩,
 ⟨some 22,none,.call (.k (.clo F_draw_Codes_Next [])) [.t 19,.t 21]⟩,
 ⟨some 23,none,.ixL 1 (.t 17) (.t 18)⟩,
 ⟨none,none,.st 1 (.t 23) (.t 22)⟩])))
 (.reg 6 none [0,2,7,13,14] [
 ⟨some 24,none,.bin .add false (.t 14) (.k (.v (.int .i64 1)))⟩,
 ⟨some 14,none,.mv (.t 24)⟩])))))))
 (.seq
 (.reg 7 none [6] [
 ⟨some 25,none,.mv (.t 7)⟩,
 ⟨some 6,none,.mv (.t 25)⟩])
 .ret))))
theorem fn_made_Cells:FnIR Tryd.prog F_made_Cells 26 [(0,[0,2,4]),(1,[0,2,7]),(2,[0,2,7,13,14]),(3,[0,2,7,13,14,15]),(4,[0,2,7,8,13,14]),(5,[0,2,7,13,14]),(6,[0,2,7,13,14]),(7,[6])] ir_made_Cells [(.tmp 6)]:=
 ⟨Tryd.f27,_,Tryd.func27,rfl,by kernel_rfl,rfl,by kernel_rfl,by kernel_rfl⟩
def ir_made_Space:RC:=
 (.seq
 (.reg 0 none [0,2] [
 ⟨some 2,none,.new (.agg [.v (.slice none 0 0)])⟩])
 (.seq
 (.reg 1 none [2,3] [
 ⟨some 4,none,.bsl 1 1 [.k (.v (.int .i64 2))]⟩,
 ⟨some 5,none,.bsl 1 1 [.k (.v (.int .i64 3))]⟩,
 ⟨some 6,none,.bsl 1 2 [.k (.v (.int .i64 2)),.k (.v (.int .i64 2))]⟩,
 ⟨some 7,none,.bsl 1 2 [.k (.v (.int .i64 2)),.k (.v (.int .i64 3))]⟩,
 ⟨some 8,none,.bsl 1 1 [.k (.v (.int .i64 4))]⟩,
 ⟨some 9,none,.bsl 1 3 [.k (.v (.int .i64 2)),.k (.v (.int .i64 2)),.k (.v (.int .i64 2))]⟩,
 ⟨some 10,none,.bsl 1 2 [.k (.v (.int .i64 3)),.k (.v (.int .i64 2))]⟩,
 ⟨some 11,none,.bsl 1 1 [.k (.v (.int .i64 6))]⟩,
 ⟨some 12,none,.bsl 1 2 [.k (.v (.int .i64 1)),.k (.v (.int .i64 3))]⟩,
 ⟨some 13,none,.bsl 1 9 [.t 4,.t 5,.t 6,.t 7,.t 8,.t 9,.t 10,.t 11,.t 12]⟩,
 ⟨some 14,none,.mv (.t 0)⟩,
 ⟨some 15,none,.call (.k (.clo F_draw_Codes_Next [])) [.t 14,.k (.v (.int .i64 9))]⟩,
 ⟨some 16,none,.ixL 1 (.t 13) (.t 15)⟩,
 ⟨some 17,none,.ld none (.t 16)⟩,
 ⟨some 3,none,.mv (.t 17)⟩])
 (.seq
 (.reg 2 none [2] [
 ⟨some 18,none,.bsl 1 0 []⟩,
 ⟨some 19,none,.mv (.t 3)⟩,
 ⟨some 20,none,.app 1 8 false (.t 18) (.t 19)⟩,
 ⟨some 21,none,.build [.v (.slice none 0 0)] [((0,1),.t 20)]⟩,
 ⟨none,none,.st 1 (.t 2) (.t 21)⟩])
 .ret)))
theorem fn_made_Space:FnIR Tryd.prog F_made_Space 22 [(0,[0,2]),(1,[2,3]),(2,[2])] ir_made_Space [(.cell 2 (some 1))]:=
 ⟨Tryd.f28,_,Tryd.func28,rfl,by kernel_rfl,rfl,by kernel_rfl,by kernel_rfl⟩
def ir_made_Releases:RC:=
 (.seq
 (.reg 0 none [0,2,3,5] [
 ⟨some 5,none,.box (.t 1)⟩,
 ⟨some 8,none,.mv (.k (.v (.slice none 0 0)))⟩])
 (.seq
 (.reg 1 none [0,2,3,5,9] [
 ⟨some 9,none,.mv (.k (.v (.slice none 0 0)))⟩])
 (.seq
 (.seq
 (.reg 2 none [0,2,5,9,10] [
 ⟨some 15,none,.mv (.t 0)⟩,
 ⟨some 16,none,.mv (.t 3)⟩,
 ⟨some 17,none,.bin .add false (.t 16) (.k (.v (.int .i64 1)))⟩,
 ⟨some 18,none,.call (.k (.clo F_draw_Codes_Next [])) [.t 15,.t 17]⟩,
 ⟨some 10,none,.mv (.t 18)⟩])
 (.block 0
 (.loop
 (.seq
 (.seq
 (.reg 3 none [0,2,5,9,10,20] [
 ⟨some 19,none,.mv (.t 10)⟩,
 ⟨some 20,none,.bin .gtr false (.t 19) (.k (.v (.int .i64 0)))⟩])
 (.cond (.t 20)
 .skip
 (.exit 0)))
 (.seq
 (.block 1
 (.seq
 (.reg 5 none [0,2,5,9,10,11] [
 ⟨some 23,none,.mv (.t 0)⟩,
 ⟨some 24,none,.ld (some 1) (.t 5)⟩,
 ⟨some 25,none,.call (.k (.clo F_made_View [])) [.t 23,.t 24]⟩,
 ⟨some 11,none,.new (.agg [.v (.slice none 0 0)])⟩,
 ⟨none,none,.st 1 (.t 11) (.t 25)⟩])
 (.seq
 (.reg 6 none [0,2,5,9,10,11,12] [
 ⟨some 27,none,.ld (some 1) (.t 5)⟩,
 ⟨some 28,none,.ld (some 1) (.t 11)⟩,
 ⟨some 29,none,.mv (.t 2)⟩,
 ⟨some 30,none,.call (.k (.clo F_ref28_Publish [])) [.t 27,.t 28,.t 29]⟩,
 ⟨some 26,none,.mv (.t 30)⟩,
 ⟨some 31,none,.ex (.t 26) 0⟩,
 ⟨some 32,none,.ex (.t 26) 1⟩,
 ⟨some 12,none,.mv (.t 31)⟩,
 ⟨some 13,none,.mv (.t 32)⟩])
 (.seq
 (.seq
 (.reg 7 none [0,2,5,9,10,11,12,34,35] [
 ⟨some 33,none,.mv (.t 12)⟩,
 ⟨some 34,none,.lenL (.t 33)⟩,
 ⟨some 35,none,.mv (.k (.v (.int .i64 0)))⟩])
 (.block 2
 (.loop
 (.seq
 (.reg 8 none [0,2,5,9,10,11,12,34,35,36] [
 ⟨some 36,none,.bin .lss false (.t 35) (.t 34)⟩])
 (.seq
 (.cond (.t 36)
 .skip
 (.exit 2))
 (.seq
 (.block 3
 (.seq
 (.reg 9 none [0,2,5,9,10,11,12,14,34,35] [
 ⟨some 37,none,.mv (.t 35)⟩,
 ⟨some 14,none,.mv (.t 37)⟩])
 (.seq
 (.reg 10 none [0,2,5,9,10,11,12,14,34,35,40] [
 ⟨some 38,none,.mv (.t 0)⟩,
 ⟨some 39,none,.call (.k (.clo F_draw_Codes_Next [])) [.t 38,.k (.v (.int .i64 5))]⟩,
 ⟨some 40,none,.bin .eql false (.t 39) (.k (.v (.int .i64 4)))⟩])
 (.cond (.t 40)
 (.reg 11 none [0,2,5,9,10,11,12,34,35] [
 ⟨some 41,none,.mv (.t 12)⟩,
 ⟨some 42,none,.mv (.t 14)⟩,
 ⟨some 43,none,.ixL 1 (.t 41) (.t 42)⟩,
 ⟨none,none,.st 1 (.t 43) (.k (.v (.int .i64 (-1))))⟩])
 .skip))))
 (.reg 12 none [0,2,5,9,10,11,12,34,35] [
 ⟨some 44,none,.bin .add false (.t 35) (.k (.v (.int .i64 1)))⟩,
 ⟨some 35,none,.mv (.t 44)⟩])))))))
 (.reg 13 none [0,2,5,9,10] [
 ⟨some 45,none,.mv (.t 9)⟩,
 ⟨some 46,none,.mv (.t 9)⟩,
 ⟨some 47,none,.lenL (.t 46)⟩,
 ⟨some 48,none,.ld (some 1) (.t 11)⟩,
 ⟨some 49,none,.mv (.t 12)⟩,
 ⟨some 50,none,.build [.v (.int .i64 0),.v (.slice none 0 0),.v (.slice none 0 0)] [((0,1),.t 47),((1,1),.t 48),((2,1),.t 49)]⟩,
 ⟨some 51,none,.bsl 3 1 [.t 50]⟩,
 ⟨some 52,none,.app 3 56 false (.t 45) (.t 51)⟩,
 ⟨some 9,none,.mv (.t 52)⟩])))))
 (.reg 4 none [0,2,5,9,10] [
 ⟨some 21,none,.mv (.t 10)⟩,
 ⟨some 22,none,.bin .sub false (.t 21) (.k (.v (.int .i64 1)))⟩,
 ⟨some 10,none,.mv (.t 22)⟩]))))))
 (.seq
 (.reg 14 none [8] [
 ⟨some 53,none,.mv (.t 9)⟩,
 ⟨some 8,none,.mv (.t 53)⟩])
 .ret))))
theorem fn_made_Releases:FnIR Tryd.prog F_made_Releases 54 [(0,[0,2,3,5]),(1,[0,2,3,5,9]),(2,[0,2,5,9,10]),(3,[0,2,5,9,10,20]),(4,[0,2,5,9,10]),(5,[0,2,5,9,10,11]),(6,[0,2,5,9,10,11,12]),(7,[0,2,5,9,10,11,12,34,35]),(8,[0,2,5,9,10,11,12,34,35,36]),(9,[0,2,5,9,10,11,12,14,34,35]),(10,[0,2,5,9,10,11,12,14,34,35,40]),(11,[0,2,5,9,10,11,12,34,35]),(12,[0,2,5,9,10,11,12,34,35]),(13,[0,2,5,9,10]),(14,[8])] ir_made_Releases [(.tmp 8)]:=
 ⟨Tryd.f29,_,Tryd.func29,rfl,by kernel_rfl,rfl,by kernel_rfl,by kernel_rfl⟩
def ir_equations_told:RC:=
 (.seq
 (.reg 0 none [2,3] [
 ⟨some 2,none,.box (.t 0)⟩,
 ⟨some 3,none,.box (.t 1)⟩,
 ⟨some 4,none,.mv (.k (.v (.slice none 0 0)))⟩])
 (.seq
 (.reg 1 none [2,3,5] [
 ⟨some 5,none,.mv (.k (.v (.slice none 0 0)))⟩])
 (.seq
 (.seq
 (.reg 2 none [2,3,5,11,12,13] [
 ⟨some 10,none,.fa 2 (.t 3)⟩,
 ⟨some 11,none,.ld none (.t 10)⟩,
 ⟨some 12,none,.lenL (.t 11)⟩,
 ⟨some 13,none,.mv (.k (.v (.int .i64 0)))⟩])
 (.block 0
 (.loop
 (.seq
 (.reg 3 none [2,3,5,11,12,13,14] [
 ⟨some 14,none,.bin .lss false (.t 13) (.t 12)⟩])
 (.seq
 (.cond (.t 14)
 .skip
 (.exit 0))
 (.seq
 (.block 1
 (.seq
 (.reg 4 none [2,3,5,6,7,11,12,13] [
 ⟨some 15,none,.mv (.t 13)⟩,
 ⟨some 16,none,.ixL 1 (.t 11) (.t 13)⟩,
 ⟨some 17,none,.ld none (.t 16)⟩,
 ⟨some 6,none,.mv (.t 15)⟩,
 ⟨some 7,none,.mv (.t 17)⟩])
 (.seq
 (.seq
 (.reg 5 none [2,3,5,6,7,11,12,13,19] [
 ⟨some 18,none,.mv (.t 7)⟩,
 ⟨some 19,none,.bin .eql false (.t 18) (.k (.v (.int .i64 (-1))))⟩])
 (.cond (.t 19)
 (.exit 1)
 .skip))
 (.seq
 (.reg 6 none [2,3,5,7,8,11,12,13] [
 ⟨some 21,none,.ld (some 1) (.t 2)⟩,
 ⟨some 22,none,.fa 1 (.t 3)⟩,
 ⟨some 23,none,.ld (some 1) (.t 22)⟩,
 ⟨some 24,none,.mv (.t 6)⟩,
 ⟨some 25,none,.call (.k (.clo F_cells_Members [])) [.t 21,.t 23,.t 24]⟩,
 ⟨some 20,none,.mv (.t 25)⟩,
 ⟨some 26,none,.ex (.t 20) 0⟩,
 ⟨some 27,none,.ex (.t 20) 1⟩,
 ⟨some 8,none,.mv (.t 26)⟩,
 ⟨some 9,none,.mv (.t 27)⟩])
 (.reg 7 none [2,3,5,11,12,13] [
 ⟨some 28,none,.mv (.t 5)⟩,
 ⟨some 29,none,.mv (.t 8)⟩,
 ⟨some 30,none,.mv (.t 7)⟩,
 ⟨some 31,none,.build [.v (.slice none 0 0),.v (.int .i64 0)] [((0,1),.t 29),((1,1),.t 30)]⟩,
 ⟨some 32,none,.bsl 2 1 [.t 31]⟩,
 ⟨some 33,none,.app 2 32 false (.t 28) (.t 32)⟩,
 ⟨some 5,none,.mv (.t 33)⟩])))))
 (.reg 8 none [2,3,5,11,12,13] [
 ⟨some 34,none,.bin .add false (.t 13) (.k (.v (.int .i64 1)))⟩,
 ⟨some 13,none,.mv (.t 34)⟩])))))))
 (.seq
 (.reg 9 none [4] [
 ⟨some 35,none,.mv (.t 5)⟩,
 ⟨some 4,none,.mv (.t 35)⟩])
 .ret))))
theorem fn_equations_told:FnIR Tryd.prog F_equations_told 36 [(0,[2,3]),(1,[2,3,5]),(2,[2,3,5,11,12,13]),(3,[2,3,5,11,12,13,14]),(4,[2,3,5,6,7,11,12,13]),(5,[2,3,5,6,7,11,12,13,19]),(6,[2,3,5,7,8,11,12,13]),(7,[2,3,5,11,12,13]),(8,[2,3,5,11,12,13]),(9,[4])] ir_equations_told [(.tmp 4)]:=
 ⟨Tryd.f30,_,Tryd.func30,rfl,by kernel_rfl,rfl,by kernel_rfl,by kernel_rfl⟩
def ir_ref28_Members:RC:=
 (.seq
 (.reg 0 none [2,3,4] [
 ⟨some 3,none,.box (.t 0)⟩,
 ⟨some 4,none,.box (.t 1)⟩,
 ⟨some 6,none,.mv (.k (.v (.slice none 0 0)))⟩,
 ⟨some 7,none,.mv (.k (.v (.int .i64 0)))⟩])
 (.seq
 (.seq
 (.reg 1 none [2,3,4,8] [
 ⟨some 11,none,.ld (some 1) (.t 3)⟩,
 ⟨some 12,none,.ld (some 1) (.t 4)⟩,
 ⟨some 13,none,.call (.k (.clo F_ref28_View [])) [.t 11,.t 12]⟩,
 ⟨some 8,none,.mv (.t 13)⟩])
 (.seq
 (.reg 2 none [2,3,4,8,15] [
 ⟨some 14,none,.mv (.t 8)⟩,
 ⟨some 15,none,.bin .neq false (.t 14) (.k (.v (.int .i64 0)))⟩])
 (.cond (.t 15)
 (.seq
 (.reg 3 none [6,7] [
 ⟨some 16,none,.mv (.t 8)⟩,
 ⟨some 6,none,.mv (.k (.v (.slice none 0 0)))⟩,
 ⟨some 7,none,.mv (.t 16)⟩])
 .ret)
 .skip)))
 (.seq
 (.seq
 (.reg 4 none [2,3,4,25] [
 ⟨some 17,none,.mv (.t 2)⟩,
 ⟨some 18,none,.bin .lss false (.t 17) (.k (.v (.int .i64 0)))⟩,
 ⟨some 19,none,.mv (.t 18)⟩,
 ⟨some 20,some (19,false),.mv (.t 2)⟩,
 ⟨some 21,some (19,false),.ld (some 1) (.t 3)⟩,
 ⟨some 22,some (19,false),.ld (some 1) (.t 4)⟩,
 ⟨some 23,some (19,false),.call (.k (.clo F_ref28_Published [])) [.t 21,.t 22]⟩,
 ⟨some 24,some (19,false),.bin .geq false (.t 20) (.t 23)⟩,
 ⟨some 25,none,.pick (.t 19) (.k (.v (.bool true))) (.t 24)⟩])
 (.cond (.t 25)
 (.seq
 (.reg 5 none [6,7] [
 ⟨some 6,none,.mv (.k (.v (.slice none 0 0)))⟩,
 ⟨some 7,none,.mv (.k (.v (.int .i64 2)))⟩])
 .ret)
 .skip))
 (.seq
 (.reg 6 none [2,3,4,9] [
 ⟨some 9,none,.mv (.k (.v (.slice none 0 0)))⟩])
 (.seq
 (.seq
 (.reg 7 none [2,3,4,9,10] [
 ⟨some 10,none,.mv (.k (.v (.int .i64 0)))⟩])
 (.block 0
 (.loop
 (.seq
 (.seq
 (.reg 8 none [2,3,4,9,10,29] [
 ⟨some 26,none,.mv (.t 10)⟩,
 ⟨some 27,none,.ld (some 1) (.t 3)⟩,
 ⟨some 28,none,.call (.k (.clo F_ref28_Count [])) [.t 27]⟩,
 ⟨some 29,none,.bin .lss false (.t 26) (.t 28)⟩])
 (.cond (.t 29)
 .skip
 (.exit 0)))
 (.seq
 (.block 1
 (.seq
 (.reg 10 none [2,3,4,9,10,37] [
 ⟨some 32,none,.ld (some 1) (.t 3)⟩,
 ⟨some 33,none,.ld (some 1) (.t 4)⟩,
 ⟨some 34,none,.mv (.t 10)⟩,
 ⟨some 35,none,.call (.k (.clo F_ref28_Of [])) [.t 32,.t 33,.t 34]⟩,
 ⟨some 36,none,.mv (.t 2)⟩,
 ⟨some 37,none,.bin .eql false (.t 35) (.t 36)⟩])
 (.cond (.t 37)
 (.reg 11 none [2,3,4,9,10] [
 ⟨some 38,none,.mv (.t 9)⟩,
 ⟨some 39,none,.mv (.t 10)⟩,
 ⟨some 40,none,.bsl 1 1 [.t 39]⟩,
 ⟨some 41,none,.app 1 8 false (.t 38) (.t 40)⟩,
 ⟨some 9,none,.mv (.t 41)⟩])
 .skip)))
 (.reg 9 none [2,3,4,9,10] [
 ⟨some 30,none,.mv (.t 10)⟩,
 ⟨some 31,none,.bin .add false (.t 30) (.k (.v (.int .i64 1)))⟩,
 ⟨some 10,none,.mv (.t 31)⟩]))))))
 (.seq
 (.reg 12 none [6,7] [
 ⟨some 42,none,.mv (.t 9)⟩,
 ⟨some 6,none,.mv (.t 42)⟩,
 ⟨some 7,none,.mv (.k (.v (.int .i64 0)))⟩])
 .ret))))))
theorem fn_ref28_Members:FnIR Tryd.prog F_ref28_Members 43 [(0,[2,3,4]),(1,[2,3,4,8]),(2,[2,3,4,8,15]),(3,[6,7]),(4,[2,3,4,25]),(5,[6,7]),(6,[2,3,4,9]),(7,[2,3,4,9,10]),(8,[2,3,4,9,10,29]),(9,[2,3,4,9,10]),(10,[2,3,4,9,10,37]),(11,[2,3,4,9,10]),(12,[6,7])] ir_ref28_Members [(.tmp 6),(.tmp 7)]:=
 ⟨Tryd.f31,_,Tryd.func31,rfl,by kernel_rfl,rfl,by kernel_rfl,by kernel_rfl⟩
def ir_cells_Check:RC:=
 (.seq
 (.reg 0 none [1] [
 ⟨some 1,none,.box (.t 0)⟩,
 ⟨some 2,none,.mv (.k (.v (.int .i64 0)))⟩])
 (.seq
 (.seq
 (.reg 1 none [1,15] [
 ⟨some 6,none,.fa 0 (.t 1)⟩,
 ⟨some 7,none,.ld none (.t 6)⟩,
 ⟨some 8,none,.lenL (.t 7)⟩,
 ⟨some 9,none,.bin .lss false (.t 8) (.k (.v (.int .i64 1)))⟩,
 ⟨some 10,none,.mv (.t 9)⟩,
 ⟨some 11,some (10,false),.fa 0 (.t 1)⟩,
 ⟨some 12,some (10,false),.ld none (.t 11)⟩,
 ⟨some 13,some (10,false),.lenL (.t 12)⟩,
 ⟨some 14,some (10,false),.bin .gtr false (.t 13) (.k (.v (.int .i64 4)))⟩,
 ⟨some 15,none,.pick (.t 10) (.k (.v (.bool true))) (.t 14)⟩])
 (.cond (.t 15)
 (.seq
 (.reg 2 none [2] [
 ⟨some 2,none,.mv (.k (.v (.int .i64 55)))⟩])
 .ret)
 .skip))
 (.seq
 (.reg 3 none [1,3] [
 ⟨some 3,none,.mv (.k (.v (.int .i64 1)))⟩])
 (.seq
 (.seq
 (.reg 4 none [3,17,18,19] [
 ⟨some 16,none,.fa 0 (.t 1)⟩,
 ⟨some 17,none,.ld none (.t 16)⟩,
 ⟨some 18,none,.lenL (.t 17)⟩,
 ⟨some 19,none,.mv (.k (.v (.int .i64 0)))⟩])
 (.block 0
 (.loop
 (.seq
 (.reg 5 none [3,17,18,19,20] [
 ⟨some 20,none,.bin .lss false (.t 19) (.t 18)⟩])
 (.seq
 (.cond (.t 20)
 .skip
 (.exit 0))
 (.seq
 (.block 1
 (.seq
 (.reg 6 none [3,5,17,18,19] [
 ⟨some 21,none,.ixL 1 (.t 17) (.t 19)⟩,
 ⟨some 22,none,.ld none (.t 21)⟩,
 ⟨some 5,none,.mv (.t 22)⟩])
 (.seq
 (.seq
 (.reg 7 none [3,5,17,18,19,28] [
 ⟨some 23,none,.mv (.t 5)⟩,
 ⟨some 24,none,.bin .lss false (.t 23) (.k (.v (.int .i64 1)))⟩,
 ⟨some 25,none,.mv (.t 24)⟩,
 ⟨some 26,some (25,false),.mv (.t 5)⟩,
 ⟨some 27,some (25,false),.bin .gtr false (.t 26) (.k (.v (.int .i64 8)))⟩,
 ⟨some 28,none,.pick (.t 25) (.k (.v (.bool true))) (.t 27)⟩])
 (.cond (.t 28)
 (.seq
 (.reg 8 none [2] [
 ⟨some 2,none,.mv (.k (.v (.int .i64 55)))⟩])
 .ret)
 .skip))
 (.reg 9 none [3,17,18,19] [
 ⟨some 29,none,.mv (.t 3)⟩,
 ⟨some 30,none,.mv (.t 5)⟩,
 ⟨some 31,none,.bin .mul false (.t 29) (.t 30)⟩,
 ⟨some 3,none,.mv (.t 31)⟩]))))
 (.reg 10 none [3,17,18,19] [
 ⟨some 32,none,.bin .add false (.t 19) (.k (.v (.int .i64 1)))⟩,
 ⟨some 19,none,.mv (.t 32)⟩])))))))
 (.seq
 (.seq
 (.reg 11 none [34] [
 ⟨some 33,none,.mv (.t 3)⟩,
 ⟨some 34,none,.bin .gtr false (.t 33) (.k (.v (.int .i64 48)))⟩])
 (.cond (.t 34)
 (.seq
 (.reg 12 none [2] [
 ⟨some 2,none,.mv (.k (.v (.int .i64 55)))⟩])
 .ret)
 .skip))
 (.seq
 (.reg 13 none [2] [
 ⟨some 2,none,.mv (.k (.v (.int .i64 0)))⟩])
 .ret))))))
theorem fn_cells_Check:FnIR Tryd.prog F_cells_Check 35 [(0,[1]),(1,[1,15]),(2,[2]),(3,[1,3]),(4,[3,17,18,19]),(5,[3,17,18,19,20]),(6,[3,5,17,18,19]),(7,[3,5,17,18,19,28]),(8,[2]),(9,[3,17,18,19]),(10,[3,17,18,19]),(11,[34]),(12,[2]),(13,[2])] ir_cells_Check [(.tmp 2)]:=
 ⟨Tryd.f32,_,Tryd.func32,rfl,by kernel_rfl,rfl,by kernel_rfl,by kernel_rfl⟩
def ir_equations_check:RC:=
 (.seq
 (.reg 0 none [2,3,4] [
 ⟨some 3,none,.box (.t 0)⟩,
 ⟨some 4,none,.box (.t 1)⟩,
 ⟨some 6,none,.mv (.k (.v (.int .i64 0)))⟩])
 (.seq
 (.seq
 (.reg 1 none [3,4,16] [
 ⟨some 8,none,.fa 0 (.t 4)⟩,
 ⟨some 9,none,.ld none (.t 8)⟩,
 ⟨some 10,none,.mv (.t 2)⟩,
 ⟨some 11,none,.bin .leq false (.t 9) (.t 10)⟩,
 ⟨some 12,none,.mv (.t 11)⟩,
 ⟨some 13,some (12,false),.fa 0 (.t 4)⟩,
 ⟨some 14,some (12,false),.ld none (.t 13)⟩,
 ⟨some 15,some (12,false),.bin .geq false (.t 14) (.k (.v (.int .i64 24)))⟩,
 ⟨some 16,none,.pick (.t 12) (.k (.v (.bool true))) (.t 15)⟩])
 (.cond (.t 16)
 (.seq
 (.reg 2 none [6] [
 ⟨some 6,none,.mv (.k (.v (.int .i64 48)))⟩])
 .ret)
 .skip))
 (.seq
 (.seq
 (.reg 3 none [3,4,7] [
 ⟨some 17,none,.ld (some 1) (.t 3)⟩,
 ⟨some 18,none,.fa 1 (.t 4)⟩,
 ⟨some 19,none,.ld (some 1) (.t 18)⟩,
 ⟨some 20,none,.call (.k (.clo F_cells_View [])) [.t 17,.t 19]⟩,
 ⟨some 7,none,.mv (.t 20)⟩])
 (.seq
 (.reg 4 none [3,4,7,22] [
 ⟨some 21,none,.mv (.t 7)⟩,
 ⟨some 22,none,.bin .neq false (.t 21) (.k (.v (.int .i64 0)))⟩])
 (.cond (.t 22)
 (.seq
 (.reg 5 none [6] [
 ⟨some 23,none,.mv (.t 7)⟩,
 ⟨some 6,none,.mv (.t 23)⟩])
 .ret)
 .skip)))
 (.seq
 (.seq
 (.reg 6 (some [0,1,3,0,0,16,56,127]) [4,31] [
 ⟨some 24,none,.fa 2 (.t 4)⟩,
 ⟨some 25,none,.ld none (.t 24)⟩,
 ⟨some 26,none,.lenL (.t 25)⟩,
 ⟨some 27,none,.ld (some 1) (.t 3)⟩,
 ⟨some 28,none,.fa 1 (.t 4)⟩,
 ⟨some 29,none,.ld (some 1) (.t 28)⟩,
 ⟨some 30,none,.call (.k (.clo F_cells_Published [])) [.t 27,.t 29]⟩,
 ⟨some 31,none,.bin .neq false (.t 26) (.t 30)⟩])
 (.cond (.t 31)
 (.seq
 (.reg 7 none [6] [
 ⟨some 6,none,.mv (.k (.v (.int .i64 17)))⟩])
 .ret)
 .skip))
 (.seq
 (.seq
 (.reg 8 none [34] [
 ⟨some 32,none,.fa 2 (.t 4)⟩,
 ⟨some 33,none,.ld none (.t 32)⟩,
 ⟨some 34,none,.call (.k (.clo F_slices_ContainsFunc_int [])) [.t 33,.k (.clo F_equations_check_1 [])]⟩])
 (.cond (.t 34)
 (.seq
 (.reg 9 none [6] [
 ⟨some 6,none,.mv (.k (.v (.int .i64 2)))⟩])
 .ret)
 .skip))
 (.seq
 (.reg 10 none [6] [
 ⟨some 6,none,.mv (.k (.v (.int .i64 0)))⟩])
 .ret))))))
theorem fn_equations_check:FnIR Tryd.prog F_equations_check 35 [(0,[2,3,4]),(1,[3,4,16]),(2,[6]),(3,[3,4,7]),(4,[3,4,7,22]),(5,[6]),(6,[4,31]),(7,[6]),(8,[34]),(9,[6]),(10,[6])] ir_equations_check [(.tmp 6)]:=
 ⟨Tryd.f33,_,Tryd.func33,rfl,by kernel_rfl,rfl,by kernel_rfl,by kernel_rfl⟩
def ir_ref28_Check:RC:=
 (.seq
 (.reg 0 none [1] [
 ⟨some 1,none,.box (.t 0)⟩,
 ⟨some 2,none,.mv (.k (.v (.int .i64 0)))⟩])
 (.seq
 (.seq
 (.reg 1 none [1,15] [
 ⟨some 6,none,.fa 0 (.t 1)⟩,
 ⟨some 7,none,.ld none (.t 6)⟩,
 ⟨some 8,none,.lenL (.t 7)⟩,
 ⟨some 9,none,.bin .lss false (.t 8) (.k (.v (.int .i64 1)))⟩,
 ⟨some 10,none,.mv (.t 9)⟩,
 ⟨some 11,some (10,false),.fa 0 (.t 1)⟩,
 ⟨some 12,some (10,false),.ld none (.t 11)⟩,
 ⟨some 13,some (10,false),.lenL (.t 12)⟩,
 ⟨some 14,some (10,false),.bin .gtr false (.t 13) (.k (.v (.int .i64 4)))⟩,
 ⟨some 15,none,.pick (.t 10) (.k (.v (.bool true))) (.t 14)⟩])
 (.cond (.t 15)
 (.seq
 (.reg 2 none [2] [
 ⟨some 2,none,.mv (.k (.v (.int .i64 55)))⟩])
 .ret)
 .skip))
 (.seq
 (.reg 3 none [1,3] [
 ⟨some 3,none,.mv (.k (.v (.int .i64 1)))⟩])
 (.seq
 (.seq
 (.reg 4 none [3,17,18,19] [
 ⟨some 16,none,.fa 0 (.t 1)⟩,
 ⟨some 17,none,.ld none (.t 16)⟩,
 ⟨some 18,none,.lenL (.t 17)⟩,
 ⟨some 19,none,.mv (.k (.v (.int .i64 0)))⟩])
 (.block 0
 (.loop
 (.seq
 (.reg 5 none [3,17,18,19,20] [
 ⟨some 20,none,.bin .lss false (.t 19) (.t 18)⟩])
 (.seq
 (.cond (.t 20)
 .skip
 (.exit 0))
 (.seq
 (.block 1
 (.seq
 (.reg 6 none [3,5,17,18,19] [
 ⟨some 21,none,.ixL 1 (.t 17) (.t 19)⟩,
 ⟨some 22,none,.ld none (.t 21)⟩,
 ⟨some 5,none,.mv (.t 22)⟩])
 (.seq
 (.seq
 (.reg 7 none [3,5,17,18,19,28] [
 ⟨some 23,none,.mv (.t 5)⟩,
 ⟨some 24,none,.bin .lss false (.t 23) (.k (.v (.int .i64 1)))⟩,
 ⟨some 25,none,.mv (.t 24)⟩,
 ⟨some 26,some (25,false),.mv (.t 5)⟩,
 ⟨some 27,some (25,false),.bin .gtr false (.t 26) (.k (.v (.int .i64 8)))⟩,
 ⟨some 28,none,.pick (.t 25) (.k (.v (.bool true))) (.t 27)⟩])
 (.cond (.t 28)
 (.seq
 (.reg 8 none [2] [
 ⟨some 2,none,.mv (.k (.v (.int .i64 55)))⟩])
 .ret)
 .skip))
 (.reg 9 none [3,17,18,19] [
 ⟨some 29,none,.mv (.t 3)⟩,
 ⟨some 30,none,.mv (.t 5)⟩,
 ⟨some 31,none,.bin .mul false (.t 29) (.t 30)⟩,
 ⟨some 3,none,.mv (.t 31)⟩]))))
 (.reg 10 none [3,17,18,19] [
 ⟨some 32,none,.bin .add false (.t 19) (.k (.v (.int .i64 1)))⟩,
 ⟨some 19,none,.mv (.t 32)⟩])))))))
 (.seq
 (.seq
 (.reg 11 none [34] [
 ⟨some 33,none,.mv (.t 3)⟩,
 ⟨some 34,none,.bin .gtr false (.t 33) (.k (.v (.int .i64 48)))⟩])
 (.cond (.t 34)
 (.seq
 (.reg 12 none [2] [
 ⟨some 2,none,.mv (.k (.v (.int .i64 55)))⟩])
 .ret)
 .skip))
 (.seq
 (.reg 13 none [2] [
 ⟨some 2,none,.mv (.k (.v (.int .i64 0)))⟩])
 .ret))))))
theorem fn_ref28_Check:FnIR Tryd.prog F_ref28_Check 35 [(0,[1]),(1,[1,15]),(2,[2]),(3,[1,3]),(4,[3,17,18,19]),(5,[3,17,18,19,20]),(6,[3,5,17,18,19]),(7,[3,5,17,18,19,28]),(8,[2]),(9,[3,17,18,19]),(10,[3,17,18,19]),(11,[34]),(12,[2]),(13,[2])] ir_ref28_Check [(.tmp 2)]:=
 ⟨Tryd.f34,_,Tryd.func34,rfl,by kernel_rfl,rfl,by kernel_rfl,by kernel_rfl⟩
def ir_ref29_release:RC:=
 (.seq
 (.reg 0 none [2,3,4] [
 ⟨some 3,none,.box (.t 0)⟩,
 ⟨some 4,none,.box (.t 1)⟩,
 ⟨some 6,none,.mv (.k (.v (.int .i64 0)))⟩])
 (.seq
 (.seq
 (.reg 1 none [3,4,23] [
 ⟨some 10,none,.fa 0 (.t 4)⟩,
 ⟨some 11,none,.ld none (.t 10)⟩,
 ⟨some 12,none,.mv (.t 2)⟩,
 ⟨some 13,none,.bin .leq false (.t 11) (.t 12)⟩,
 ⟨some 14,none,.mv (.t 13)⟩,
 ⟨some 15,some (14,false),.fa 0 (.t 4)⟩,
 ⟨some 16,some (14,false),.ld none (.t 15)⟩,
 ⟨some 17,some (14,false),.bin .lss false (.t 16) (.k (.v (.int .i64 0)))⟩,
 ⟨some 18,none,.pick (.t 14) (.k (.v (.bool true))) (.t 17)⟩,
 ⟨some 19,none,.mv (.t 18)⟩,
 ⟨some 20,some (19,false),.fa 0 (.t 4)⟩,
 ⟨some 21,some (19,false),.ld none (.t 20)⟩,
 ⟨some 22,some (19,false),.bin .geq false (.t 21) (.k (.v (.int .i64 24)))⟩,
 ⟨some 23,none,.pick (.t 19) (.k (.v (.bool true))) (.t 22)⟩])
 (.cond (.t 23)
 (.seq
 (.reg 2 none [6] [
 ⟨some 6,none,.mv (.k (.v (.int .i64 48)))⟩])
 .ret)
 .skip))
 (.seq
 (.seq
 (.reg 3 none [3,4,7] [
 ⟨some 24,none,.ld (some 1) (.t 3)⟩,
 ⟨some 25,none,.fa 1 (.t 4)⟩,
 ⟨some 26,none,.ld (some 1) (.t 25)⟩,
 ⟨some 27,none,.call (.k (.clo F_ref28_View [])) [.t 24,.t 26]⟩,
 ⟨some 7,none,.mv (.t 27)⟩])
 (.seq
 (.reg 4 none [3,4,7,29] [
 ⟨some 28,none,.mv (.t 7)⟩,
 ⟨some 29,none,.bin .neq false (.t 28) (.k (.v (.int .i64 0)))⟩])
 (.cond (.t 29)
 (.seq
 (.reg 5 none [6] [
 ⟨some 30,none,.mv (.t 7)⟩,
 ⟨some 6,none,.mv (.t 30)⟩])
 .ret)
 .skip)))
 (.seq
 (.seq
 (.reg 6 (some [0,1,3,0,0,16,56,127]) [4,38] [
 ⟨some 31,none,.fa 2 (.t 4)⟩,
 ⟨some 32,none,.ld none (.t 31)⟩,
 ⟨some 33,none,.lenL (.t 32)⟩,
 ⟨some 34,none,.ld (some 1) (.t 3)⟩,
 ⟨some 35,none,.fa 1 (.t 4)⟩,
 ⟨some 36,none,.ld (some 1) (.t 35)⟩,
 ⟨some 37,none,.call (.k (.clo F_ref28_Published [])) [.t 34,.t 36]⟩,
 ⟨some 38,none,.bin .neq false (.t 33) (.t 37)⟩])
 (.cond (.t 38)
 (.seq
 (.reg 7 none [6] [
 ⟨some 6,none,.mv (.k (.v (.int .i64 17)))⟩])
 .ret)
 .skip))
 (.seq
 (.seq
 (.reg 8 none [40,41,42] [
 ⟨some 39,none,.fa 2 (.t 4)⟩,
 ⟨some 40,none,.ld none (.t 39)⟩,
 ⟨some 41,none,.lenL (.t 40)⟩,
 ⟨some 42,none,.mv (.k (.v (.int .i64 0)))⟩])
 (.block 0
 (.loop
 (.seq
 (.reg 9 none [40,41,42,43] [
 ⟨some 43,none,.bin .lss false (.t 42) (.t 41)⟩])
 (.seq
 (.cond (.t 43)
 .skip
 (.exit 0))
 (.seq
 (.block 1
 (.seq
 (.reg 10 none [9,40,41,42] [
 ⟨some 44,none,.ixL 1 (.t 40) (.t 42)⟩,
 ⟨some 45,none,.ld none (.t 44)⟩,
 ⟨some 9,none,.mv (.t 45)⟩])
 (.seq
 (.reg 11 none [40,41,42,55] [
 ⟨some 46,none,.mv (.t 9)⟩,
 ⟨some 47,none,.bin .neq false (.t 46) (.k (.v (.int .i64 (-1))))⟩,
 ⟨some 48,none,.mv (.t 47)⟩,
 ⟨some 49,some (48,true),.mv (.t 9)⟩,
 ⟨some 50,some (48,true),.bin .lss false (.t 49) (.k (.v (.int .i64 0)))⟩,
 ⟨some 51,some (48,true),.mv (.t 50)⟩,
 ⟨some 52,some (51,false),.mv (.t 9)⟩,
 ⟨some 53,some (51,false),.bin .gtr false (.t 52) (.k (.v (.int .i64 1000000)))⟩,
 ⟨some 54,some (48,true),.pick (.t 51) (.k (.v (.bool true))) (.t 53)⟩,
 ⟨some 55,none,.pick (.t 48) (.t 54) (.k (.v (.bool false)))⟩])
 (.cond (.t 55)
 (.seq
 (.reg 12 none [6] [
 ⟨some 6,none,.mv (.k (.v (.int .i64 2)))⟩])
 .ret)
 .skip))))
 (.reg 13 none [40,41,42] [
 ⟨some 56,none,.bin .add false (.t 42) (.k (.v (.int .i64 1)))⟩,
 ⟨some 42,none,.mv (.t 56)⟩])))))))
 (.seq
 (.reg 14 none [6] [
 ⟨some 6,none,.mv (.k (.v (.int .i64 0)))⟩])
 .ret))))))
theorem fn_ref29_release:FnIR Tryd.prog F_ref29_release 57 [(0,[2,3,4]),(1,[3,4,23]),(2,[6]),(3,[3,4,7]),(4,[3,4,7,29]),(5,[6]),(6,[4,38]),(7,[6]),(8,[40,41,42]),(9,[40,41,42,43]),(10,[9,40,41,42]),(11,[40,41,42,55]),(12,[6]),(13,[40,41,42]),(14,[6])] ir_ref29_release [(.tmp 6)]:=
 ⟨Tryd.f35,_,Tryd.func35,rfl,by kernel_rfl,rfl,by kernel_rfl,by kernel_rfl⟩
def ir_equations_text:RC:=
 (.seq
 (.reg 0 none [0] [
 ⟨some 2,none,.mv (.k (.v (.string ⟨#[]⟩)))⟩])
 (.seq
 (.reg 1 none [0,3] [
 ⟨some 3,none,.mv (.k (.v (.slice none 0 0)))⟩])
 (.seq
 (.seq
 (.reg 2 none [3,6,7,8] [
 ⟨some 6,none,.mv (.t 0)⟩,
 ⟨some 7,none,.lenL (.t 6)⟩,
 ⟨some 8,none,.mv (.k (.v (.int .i64 0)))⟩])
 (.block 0
 (.loop
 (.seq
 (.reg 3 none [3,6,7,8,9] [
 ⟨some 9,none,.bin .lss false (.t 8) (.t 7)⟩])
 (.seq
 (.cond (.t 9)
 .skip
 (.exit 0))
 (.seq
 (.block 1
 (.seq
 (.reg 4 none [3,5,6,7,8] [
 ⟨some 10,none,.ixL 1 (.t 6) (.t 8)⟩,
 ⟨some 11,none,.ld none (.t 10)⟩,
 ⟨some 5,none,.mv (.t 11)⟩])
 (.reg 5 none [3,6,7,8] [
 ⟨some 12,none,.mv (.t 3)⟩,
 ⟨some 13,none,.mv (.t 5)⟩,
 ⟨some 14,none,.call (.k (.clo F_strconv_AppendInt [])) [.t 12,.t 13,.k (.v (.int .i64 10))]⟩,
 ⟨some 15,none,.bsl 1 1 [.k (.v (.int .u8 32))]⟩,
 ⟨some 16,none,.app 1 1 false (.t 14) (.t 15)⟩,
 ⟨some 3,none,.mv (.t 16)⟩])))
 (.reg 6 none [3,6,7,8] [
 ⟨some 17,none,.bin .add false (.t 8) (.k (.v (.int .i64 1)))⟩,
 ⟨some 8,none,.mv (.t 17)⟩])))))))
 (.seq
 (.reg 7 none [2] [
 ⟨some 18,none,.mv (.t 3)⟩,
 ⟨some 19,none,.cvBS (.t 18)⟩,
 ⟨some 2,none,.mv (.t 19)⟩])
 .ret))))
theorem fn_equations_text:FnIR Tryd.prog F_equations_text 20 [(0,[0]),(1,[0,3]),(2,[3,6,7,8]),(3,[3,6,7,8,9]),(4,[3,5,6,7,8]),(5,[3,6,7,8]),(6,[3,6,7,8]),(7,[2])] ir_equations_text [(.tmp 2)]:=
 ⟨Tryd.f36,_,Tryd.func36,rfl,by kernel_rfl,rfl,by kernel_rfl,by kernel_rfl⟩
def ir_slices_Clone_int:RC:=
 (.seq
 (.reg 0 none [0] [
 ⟨some 2,none,.mv (.k (.v (.slice none 0 0)))⟩])
 (.seq
 (.seq
 (.reg 1 none [0,4] [
 ⟨some 3,none,.mv (.t 0)⟩,
 ⟨some 4,none,.ext (.nilq false) [.t 3,.k (.v (.slice none 0 0))]⟩])
 (.cond (.t 4)
 (.seq
 (.reg 2 none [2] [
 ⟨some 2,none,.mv (.k (.v (.slice none 0 0)))⟩])
 .ret)
 .skip))
 (.seq
 (.reg 3 none [2] [
 ⟨some 5,none,.bsl 1 0 []⟩,
 ⟨some 6,none,.mv (.t 0)⟩,
 ⟨some 7,none,.app 1 8 false (.t 5) (.t 6)⟩,
 ⟨some 2,none,.mv (.t 7)⟩])
 .ret)))
theorem fn_slices_Clone_int:FnIR Tryd.prog F_slices_Clone_int 8 [(0,[0]),(1,[0,4]),(2,[2]),(3,[2])] ir_slices_Clone_int [(.tmp 2)]:=
 ⟨Tryd.f37,_,Tryd.func37,rfl,by kernel_rfl,rfl,by kernel_rfl,by kernel_rfl⟩
def ir_slices_ContainsFunc_Equation:RC:=
 (.seq
 (.reg 0 none [0,1] [
 ⟨some 4,none,.mv (.k (.v (.bool false)))⟩])
 (.seq
 (.reg 1 none [4] [
 ⟨some 5,none,.mv (.t 0)⟩,
 ⟨some 6,none,.mv (.t 1)⟩,
 ⟨some 7,none,.call (.k (.clo F_slices_IndexFunc_Equation [])) [.t 5,.t 6]⟩,
 ⟨some 8,none,.bin .geq false (.t 7) (.k (.v (.int .i64 0)))⟩,
 ⟨some 4,none,.mv (.t 8)⟩])
 .ret))
theorem fn_slices_ContainsFunc_Equation:FnIR Tryd.prog F_slices_ContainsFunc_Equation 9 [(0,[0,1]),(1,[4])] ir_slices_ContainsFunc_Equation [(.tmp 4)]:=
 ⟨Tryd.f38,_,Tryd.func38,rfl,by kernel_rfl,rfl,by kernel_rfl,by kernel_rfl⟩
def ir_equations_Valid_1:RC:=
 (.seq
 (.reg 0 none [1,2] [
 ⟨some 2,none,.box (.t 0)⟩,
 ⟨some 3,none,.mv (.k (.v (.bool false)))⟩])
 (.seq
 (.reg 1 none [3] [
 ⟨some 4,none,.ld none (.t 1)⟩,
 ⟨some 5,none,.ld (some 2) (.t 2)⟩,
 ⟨some 6,none,.call (.k (.clo F_equations_right [])) [.t 4,.t 5]⟩,
 ⟨some 7,none,.un .not (.t 6)⟩,
 ⟨some 3,none,.mv (.t 7)⟩])
 .ret))
theorem fn_equations_Valid_1:FnIR Tryd.prog F_equations_Valid_1 8 [(0,[1,2]),(1,[3])] ir_equations_Valid_1 [(.tmp 3)]:=
 ⟨Tryd.f39,_,Tryd.func39,rfl,by kernel_rfl,rfl,by kernel_rfl,by kernel_rfl⟩
def ir_equations_right:RC:=
 (.seq
 (.reg 0 none [0,3] [
 ⟨some 3,none,.box (.t 1)⟩,
 ⟨some 4,none,.mv (.k (.v (.bool false)))⟩])
 (.seq
 (.seq
 (.reg 1 none [0,3,17] [
 ⟨some 8,none,.fa 0 (.t 3)⟩,
 ⟨some 9,none,.ld none (.t 8)⟩,
 ⟨some 10,none,.lenL (.t 9)⟩,
 ⟨some 11,none,.bin .eql false (.t 10) (.k (.v (.int .i64 0)))⟩,
 ⟨some 12,none,.mv (.t 11)⟩,
 ⟨some 13,some (12,false),.fa 1 (.t 3)⟩,
 ⟨some 14,some (12,false),.ld none (.t 13)⟩,
 ⟨some 15,some (12,false),.call (.k (.clo F_equations_value [])) [.t 14]⟩,
 ⟨some 16,some (12,false),.un .not (.t 15)⟩,
 ⟨some 17,none,.pick (.t 12) (.k (.v (.bool true))) (.t 16)⟩])
 (.cond (.t 17)
 (.seq
 (.reg 2 none [4] [
 ⟨some 4,none,.mv (.k (.v (.bool false)))⟩])
 .ret)
 .skip))
 (.seq
 (.reg 3 none [0,3,5] [
 ⟨some 5,none,.mv (.k (.v (.int .i64 (-1))))⟩])
 (.seq
 (.seq
 (.reg 4 none [0,5,19,20,21] [
 ⟨some 18,none,.fa 0 (.t 3)⟩,
 ⟨some 19,none,.ld none (.t 18)⟩,
 ⟨some 20,none,.lenL (.t 19)⟩,
 ⟨some 21,none,.mv (.k (.v (.int .i64 0)))⟩])
 (.block 0
 (.loop
 (.seq
 (.reg 5 none [0,5,19,20,21,22] [
 ⟨some 22,none,.bin .lss false (.t 21) (.t 20)⟩])
 (.seq
 (.cond (.t 22)
 .skip
 (.exit 0))
 (.seq
 (.block 1
 (.seq
 (.reg 6 none [0,5,7,19,20,21] [
 ⟨some 23,none,.ixL 1 (.t 19) (.t 21)⟩,
 ⟨some 24,none,.ld none (.t 23)⟩,
 ⟨some 7,none,.mv (.t 24)⟩])
 (.seq
 (.seq
 (.reg 7 none [0,7,19,20,21,32] [
 ⟨some 25,none,.mv (.t 7)⟩,
 ⟨some 26,none,.mv (.t 5)⟩,
 ⟨some 27,none,.bin .leq false (.t 25) (.t 26)⟩,
 ⟨some 28,none,.mv (.t 27)⟩,
 ⟨some 29,some (28,false),.mv (.t 7)⟩,
 ⟨some 30,some (28,false),.mv (.t 0)⟩,
 ⟨some 31,some (28,false),.bin .geq false (.t 29) (.t 30)⟩,
 ⟨some 32,none,.pick (.t 28) (.k (.v (.bool true))) (.t 31)⟩])
 (.cond (.t 32)
 (.seq
 (.reg 8 none [4] [
 ⟨some 4,none,.mv (.k (.v (.bool false)))⟩])
 .ret)
 .skip))
 (.reg 9 none [0,5,19,20,21] [
 ⟨some 33,none,.mv (.t 7)⟩,
 ⟨some 5,none,.mv (.t 33)⟩]))))
 (.reg 10 none [0,5,19,20,21] [
 ⟨some 34,none,.bin .add false (.t 21) (.k (.v (.int .i64 1)))⟩,
 ⟨some 21,none,.mv (.t 34)⟩])))))))
 (.seq
 (.reg 11 none [4] [
 ⟨some 4,none,.mv (.k (.v (.bool true)))⟩])
 .ret)))))
theorem fn_equations_right:FnIR Tryd.prog F_equations_right 35 [(0,[0,3]),(1,[0,3,17]),(2,[4]),(3,[0,3,5]),(4,[0,5,19,20,21]),(5,[0,5,19,20,21,22]),(6,[0,5,7,19,20,21]),(7,[0,7,19,20,21,32]),(8,[4]),(9,[0,5,19,20,21]),(10,[0,5,19,20,21]),(11,[4])] ir_equations_right [(.tmp 4)]:=
 ⟨Tryd.f40,_,Tryd.func40,rfl,by kernel_rfl,rfl,by kernel_rfl,by kernel_rfl⟩
def ir_slices_Sort_int:RC:=
 (.seq
 (.reg 0 none [0,2] [
 ⟨some 3,none,.mv (.t 0)⟩,
 ⟨some 4,none,.lenL (.t 3)⟩,
 ⟨some 2,none,.mv (.t 4)⟩])
 (.reg 1 none [] [
 ⟨some 5,none,.mv (.t 0)⟩,
 ⟨some 6,none,.mv (.t 2)⟩,
 ⟨some 7,none,.mv (.t 2)⟩,
 ⟨some 8,none,.cvI .u64 (.t 7)⟩,
 ⟨some 9,none,.call (.k (.clo F_math_bits_Len [])) [.t 8]⟩,
 ⟨some 10,none,.call (.k (.clo F_slices_pdqsortOrdered_int [])) [.t 5,.k (.v (.int .i64 0)),.t 6,.t 9]⟩]))
theorem fn_slices_Sort_int:FnIR Tryd.prog F_slices_Sort_int 11 [(0,[0,2])] ir_slices_Sort_int []:=
 ⟨Tryd.f41,_,Tryd.func41,rfl,by kernel_rfl,rfl,by kernel_rfl,by kernel_rfl⟩
def ir_slices_Compact_int:RC:=
 (.seq
 (.reg 0 none [0] [
 ⟨some 2,none,.mv (.k (.v (.slice none 0 0)))⟩])
 (.seq
 (.seq
 (.reg 1 none [0,8] [
 ⟨some 6,none,.mv (.t 0)⟩,
 ⟨some 7,none,.lenL (.t 6)⟩,
 ⟨some 8,none,.bin .lss false (.t 7) (.k (.v (.int .i64 2)))⟩])
 (.cond (.t 8)
 (.seq
 (.reg 2 none [2] [
 ⟨some 9,none,.mv (.t 0)⟩,
 ⟨some 2,none,.mv (.t 9)⟩])
 .ret)
 .skip))
 (.seq
 (.seq
 (.reg 3 none [0,3] [
 ⟨some 3,none,.mv (.k (.v (.int .i64 1)))⟩])
 (.block 0
 (.loop
 (.seq
 (.seq
 (.reg 4 none [0,3,13] [
 ⟨some 10,none,.mv (.t 3)⟩,
 ⟨some 11,none,.mv (.t 0)⟩,
 ⟨some 12,none,.lenL (.t 11)⟩,
 ⟨some 13,none,.bin .lss false (.t 10) (.t 12)⟩])
 (.cond (.t 13)
 .skip
 (.exit 0)))
 (.seq
 (.block 1
 (.seq
 (.reg 6 (some [0,0,3,7,0,0,32,112,240,511]) [0,3,25] [
 ⟨some 16,none,.mv (.t 0)⟩,
 ⟨some 17,none,.mv (.t 3)⟩,
 ⟨some 18,none,.ixL 1 (.t 16) (.t 17)⟩,
 ⟨some 19,none,.ld none (.t 18)⟩,
 ⟨some 20,none,.mv (.t 0)⟩,
 ⟨some 21,none,.mv (.t 3)⟩,
 ⟨some 22,none,.bin .sub false (.t 21) (.k (.v (.int .i64 1)))⟩,
 ⟨some 23,none,.ixL 1 (.t 20) (.t 22)⟩,
 ⟨some 24,none,.ld none (.t 23)⟩,
 ⟨some 25,none,.bin .eql false (.t 19) (.t 24)⟩])
 (.cond (.t 25)
 (.seq
 (.reg 7 none [0,3,4] [
 ⟨some 26,none,.mv (.t 0)⟩,
 ⟨some 27,none,.mv (.t 3)⟩,
 ⟨some 28,none,.slL 1 (.t 26) (some (.t 27)) none⟩,
 ⟨some 4,none,.mv (.t 28)⟩])
 (.seq
 (.seq
 (.reg 8 none [0,3,4,5] [
 ⟨some 5,none,.mv (.k (.v (.int .i64 1)))⟩])
 (.block 2
 (.loop
 (.seq
 (.seq
 (.reg 9 none [0,3,4,5,32] [
 ⟨some 29,none,.mv (.t 5)⟩,
 ⟨some 30,none,.mv (.t 4)⟩,
 ⟨some 31,none,.lenL (.t 30)⟩,
 ⟨some 32,none,.bin .lss false (.t 29) (.t 31)⟩])
 (.cond (.t 32)
 .skip
 (.exit 2)))
 (.seq
 (.block 3
 (.seq
 (.reg 11 (some [0,0,3,7,0,0,32,112,240,511]) [0,3,4,5,44] [
 ⟨some 35,none,.mv (.t 4)⟩,
 ⟨some 36,none,.mv (.t 5)⟩,
 ⟨some 37,none,.ixL 1 (.t 35) (.t 36)⟩,
 ⟨some 38,none,.ld none (.t 37)⟩,
 ⟨some 39,none,.mv (.t 4)⟩,
 ⟨some 40,none,.mv (.t 5)⟩,
 ⟨some 41,none,.bin .sub false (.t 40) (.k (.v (.int .i64 1)))⟩,
 ⟨some 42,none,.ixL 1 (.t 39) (.t 41)⟩,
 ⟨some 43,none,.ld none (.t 42)⟩,
 ⟨some 44,none,.bin .neq false (.t 38) (.t 43)⟩])
 (.cond (.t 44)
 (.seq
 (.reg 12 none [0,3,4,5] [
 ⟨some 45,none,.mv (.t 0)⟩,
 ⟨some 46,none,.mv (.t 3)⟩,
 ⟨some 47,none,.mv (.t 4)⟩,
 ⟨some 48,none,.mv (.t 5)⟩,
 ⟨some 49,none,.ixL 1 (.t 47) (.t 48)⟩,
 ⟨some 50,none,.ld none (.t 49)⟩,
 ⟨some 51,none,.ixL 1 (.t 45) (.t 46)⟩,
 ⟨none,none,.st 1 (.t 51) (.t 50)⟩])
 (.reg 13 none [0,3,4,5] [
 ⟨some 52,none,.mv (.t 3)⟩,
 ⟨some 53,none,.bin .add false (.t 52) (.k (.v (.int .i64 1)))⟩,
 ⟨some 3,none,.mv (.t 53)⟩]))
 .skip)))
 (.reg 10 none [0,3,4,5] [
 ⟨some 33,none,.mv (.t 5)⟩,
 ⟨some 34,none,.bin .add false (.t 33) (.k (.v (.int .i64 1)))⟩,
 ⟨some 5,none,.mv (.t 34)⟩]))))))
 (.seq
 (.reg 14 none [0,3] [
 ⟨some 54,none,.mv (.t 0)⟩,
 ⟨some 55,none,.mv (.t 3)⟩,
 ⟨some 56,none,.slL 1 (.t 54) (some (.t 55)) none⟩,
 ⟨none,none,.ext (.clr 1 (.v (.int .i64 0))) [.t 56]⟩])
 (.seq
 (.reg 15 none [2] [
 ⟨some 57,none,.mv (.t 0)⟩,
 ⟨some 58,none,.mv (.t 3)⟩,
 ⟨some 59,none,.slL 1 (.t 57) none (some (.t 58))⟩,
 ⟨some 2,none,.mv (.t 59)⟩])
 .ret))))
 .skip)))
 (.reg 5 none [0,3] [
 ⟨some 14,none,.mv (.t 3)⟩,
 ⟨some 15,none,.bin .add false (.t 14) (.k (.v (.int .i64 1)))⟩,
 ⟨some 3,none,.mv (.t 15)⟩]))))))
 (.seq
 (.reg 16 none [2] [
 ⟨some 60,none,.mv (.t 0)⟩,
 ⟨some 2,none,.mv (.t 60)⟩])
 .ret))))
theorem fn_slices_Compact_int:FnIR Tryd.prog F_slices_Compact_int 61 [(0,[0]),(1,[0,8]),(2,[2]),(3,[0,3]),(4,[0,3,13]),(5,[0,3]),(6,[0,3,25]),(7,[0,3,4]),(8,[0,3,4,5]),(9,[0,3,4,5,32]),(10,[0,3,4,5]),(11,[0,3,4,5,44]),(12,[0,3,4,5]),(13,[0,3,4,5]),(14,[0,3]),(15,[2]),(16,[2])] ir_slices_Compact_int [(.tmp 2)]:=
 ⟨Tryd.f42,_,Tryd.func42,rfl,by kernel_rfl,rfl,by kernel_rfl,by kernel_rfl⟩
def ir_slices_ContainsFunc_int:RC:=
 (.seq
 (.reg 0 none [0,1] [
 ⟨some 4,none,.mv (.k (.v (.bool false)))⟩])
 (.seq
 (.reg 1 none [4] [
 ⟨some 5,none,.mv (.t 0)⟩,
 ⟨some 6,none,.mv (.t 1)⟩,
 ⟨some 7,none,.call (.k (.clo F_slices_IndexFunc_int [])) [.t 5,.t 6]⟩,
 ⟨some 8,none,.bin .geq false (.t 7) (.k (.v (.int .i64 0)))⟩,
 ⟨some 4,none,.mv (.t 8)⟩])
 .ret))
theorem fn_slices_ContainsFunc_int:FnIR Tryd.prog F_slices_ContainsFunc_int 9 [(0,[0,1]),(1,[4])] ir_slices_ContainsFunc_int [(.tmp 4)]:=
 ⟨Tryd.f43,_,Tryd.func43,rfl,by kernel_rfl,rfl,by kernel_rfl,by kernel_rfl⟩
def ir_equations_Agrees_1:RC:=
 (.seq
 (.reg 0 none [0] [
 ⟨some 2,none,.mv (.k (.v (.bool false)))⟩])
 (.seq
 (.reg 1 none [2] [
 ⟨some 3,none,.mv (.t 0)⟩,
 ⟨some 4,none,.call (.k (.clo F_equations_value [])) [.t 3]⟩,
 ⟨some 5,none,.un .not (.t 4)⟩,
 ⟨some 2,none,.mv (.t 5)⟩])
 .ret))
theorem fn_equations_Agrees_1:FnIR Tryd.prog F_equations_Agrees_1 6 [(0,[0]),(1,[2])] ir_equations_Agrees_1 [(.tmp 2)]:=
 ⟨Tryd.f44,_,Tryd.func44,rfl,by kernel_rfl,rfl,by kernel_rfl,by kernel_rfl⟩
def ir_equations_value:RC:=
 (.seq
 (.reg 0 none [0] [
 ⟨some 2,none,.mv (.k (.v (.bool false)))⟩])
 (.seq
 (.reg 1 none [2] [
 ⟨some 3,none,.mv (.t 0)⟩,
 ⟨some 4,none,.bin .geq false (.t 3) (.k (.v (.int .i64 0)))⟩,
 ⟨some 5,none,.mv (.t 4)⟩,
 ⟨some 6,some (5,true),.mv (.t 0)⟩,
 ⟨some 7,some (5,true),.bin .leq false (.t 6) (.k (.v (.int .i64 1000000)))⟩,
 ⟨some 8,none,.pick (.t 5) (.t 7) (.k (.v (.bool false)))⟩,
 ⟨some 2,none,.mv (.t 8)⟩])
 .ret))
theorem fn_equations_value:FnIR Tryd.prog F_equations_value 9 [(0,[0]),(1,[2])] ir_equations_value [(.tmp 2)]:=
 ⟨Tryd.f45,_,Tryd.func45,rfl,by kernel_rfl,rfl,by kernel_rfl,by kernel_rfl⟩
def ir_draw_Codes_Next:RC:=
 (.seq
 (.reg 0 none [0,1] [
 ⟨some 4,none,.mv (.k (.v (.int .i64 0)))⟩])
 (.seq
 (.seq
 (.reg 1 (some [0,1,3,7,15,31,63,7,135,391,903,1927,4095,8191]) [0,1,19] [
 ⟨some 6,none,.mv (.t 1)⟩,
 ⟨some 7,none,.bin .lss false (.t 6) (.k (.v (.int .i64 1)))⟩,
 ⟨some 8,none,.mv (.t 7)⟩,
 ⟨some 9,some (8,false),.mv (.t 0)⟩,
 ⟨some 10,some (8,false),.nc (.t 9)⟩,
 ⟨some 11,some (8,false),.fa 1 (.t 10)⟩,
 ⟨some 12,some (8,false),.ld none (.t 11)⟩,
 ⟨some 13,some (8,false),.mv (.t 0)⟩,
 ⟨some 14,some (8,false),.nc (.t 13)⟩,
 ⟨some 15,some (8,false),.fa 0 (.t 14)⟩,
 ⟨some 16,some (8,false),.ld none (.t 15)⟩,
 ⟨some 17,some (8,false),.lenL (.t 16)⟩,
 ⟨some 18,some (8,false),.bin .geq false (.t 12) (.t 17)⟩,
 ⟨some 19,none,.pick (.t 8) (.k (.v (.bool true))) (.t 18)⟩])
 (.cond (.t 19)
 (.seq
 (.reg 2 none [4] [
 ⟨some 4,none,.mv (.k (.v (.int .i64 0)))⟩])
 .ret)
 .skip))
 (.seq
 (.reg 3 none [0,1] [
 ⟨some 20,none,.mv (.t 0)⟩,
 ⟨some 21,none,.nc (.t 20)⟩,
 ⟨some 22,none,.fa 1 (.t 21)⟩,
 ⟨some 23,none,.ld none (.t 22)⟩,
 ⟨some 24,none,.bin .add false (.t 23) (.k (.v (.int .i64 1)))⟩,
 ⟨some 25,none,.nc (.t 20)⟩,
 ⟨some 26,none,.fa 1 (.t 25)⟩,
 ⟨none,none,.st 1 (.t 26) (.t 24)⟩])
 (.seq
 (.reg 4 (some [0,1,3,7,0,16,48,112,240,511,1023,2047,4095]) [0,1,5] [
 ⟨some 27,none,.mv (.t 0)⟩,
 ⟨some 28,none,.nc (.t 27)⟩,
 ⟨some 29,none,.fa 0 (.t 28)⟩,
 ⟨some 30,none,.ld none (.t 29)⟩,
 ⟨some 31,none,.mv (.t 0)⟩,
 ⟨some 32,none,.nc (.t 31)⟩,
 ⟨some 33,none,.fa 1 (.t 32)⟩,
 ⟨some 34,none,.ld none (.t 33)⟩,
 ⟨some 35,none,.bin .sub false (.t 34) (.k (.v (.int .i64 1)))⟩,
 ⟨some 36,none,.ixL 1 (.t 30) (.t 35)⟩,
 ⟨some 37,none,.ld none (.t 36)⟩,
 ⟨some 38,none,.cvI .i64 (.t 37)⟩,
 ⟨some 5,none,.mv (.t 38)⟩])
 (.seq
 (.seq
 (.reg 5 (some [0,1,3,7,15,31,63,7,135,391,903,1927,4095,8191]) [0,1,5,52] [
 ⟨some 39,none,.mv (.t 1)⟩,
 ⟨some 40,none,.bin .gtr false (.t 39) (.k (.v (.int .i64 256)))⟩,
 ⟨some 41,none,.mv (.t 40)⟩,
 ⟨some 42,some (41,true),.mv (.t 0)⟩,
 ⟨some 43,some (41,true),.nc (.t 42)⟩,
 ⟨some 44,some (41,true),.fa 1 (.t 43)⟩,
 ⟨some 45,some (41,true),.ld none (.t 44)⟩,
 ⟨some 46,some (41,true),.mv (.t 0)⟩,
 ⟨some 47,some (41,true),.nc (.t 46)⟩,
 ⟨some 48,some (41,true),.fa 0 (.t 47)⟩,
 ⟨some 49,some (41,true),.ld none (.t 48)⟩,
 ⟨some 50,some (41,true),.lenL (.t 49)⟩,
 ⟨some 51,some (41,true),.bin .lss false (.t 45) (.t 50)⟩,
 ⟨some 52,none,.pick (.t 41) (.t 51) (.k (.v (.bool false)))⟩])
 (.cond (.t 52)
 (.seq
 (.reg 6 (some [0,1,0,4,12,28,0,64,192,448,1020,2044,4092,8191,16383]) [0,1,5] [
 ⟨some 53,none,.mv (.t 5)⟩,
 ⟨some 54,none,.bin .mul false (.t 53) (.k (.v (.int .i64 256)))⟩,
 ⟨some 55,none,.mv (.t 0)⟩,
 ⟨some 56,none,.nc (.t 55)⟩,
 ⟨some 57,none,.fa 0 (.t 56)⟩,
 ⟨some 58,none,.ld none (.t 57)⟩,
 ⟨some 59,none,.mv (.t 0)⟩,
 ⟨some 60,none,.nc (.t 59)⟩,
 ⟨some 61,none,.fa 1 (.t 60)⟩,
 ⟨some 62,none,.ld none (.t 61)⟩,
 ⟨some 63,none,.ixL 1 (.t 58) (.t 62)⟩,
 ⟨some 64,none,.ld none (.t 63)⟩,
 ⟨some 65,none,.cvI .i64 (.t 64)⟩,
 ⟨some 66,none,.bin .add false (.t 54) (.t 65)⟩,
 ⟨some 5,none,.mv (.t 66)⟩])
 (.reg 7 none [1,5] [
 ⟨some 67,none,.mv (.t 0)⟩,
 ⟨some 68,none,.nc (.t 67)⟩,
 ⟨some 69,none,.fa 1 (.t 68)⟩,
 ⟨some 70,none,.ld none (.t 69)⟩,
 ⟨some 71,none,.bin .add false (.t 70) (.k (.v (.int .i64 1)))⟩,
 ⟨some 72,none,.nc (.t 67)⟩,
 ⟨some 73,none,.fa 1 (.t 72)⟩,
 ⟨none,none,.st 1 (.t 73) (.t 71)⟩]))
 .skip))
 (.seq
 (.reg 8 none [4] [
 ⟨some 74,none,.mv (.t 5)⟩,
 ⟨some 75,none,.mv (.t 1)⟩,
 ⟨some 76,none,.bin .rem false (.t 74) (.t 75)⟩,
 ⟨some 4,none,.mv (.t 76)⟩])
 .ret))))))
theorem fn_draw_Codes_Next:FnIR Tryd.prog F_draw_Codes_Next 77 [(0,[0,1]),(1,[0,1,19]),(2,[4]),(3,[0,1]),(4,[0,1,5]),(5,[0,1,5,52]),(6,[0,1,5]),(7,[1,5]),(8,[4])] ir_draw_Codes_Next [(.tmp 4)]:=
 ⟨Tryd.f46,_,Tryd.func46,rfl,by kernel_rfl,rfl,by kernel_rfl,by kernel_rfl⟩
def ir_made_View:RC:=
 (.seq
 (.reg 0 none [0,3,4] [
 ⟨some 3,none,.box (.t 1)⟩,
 ⟨some 4,none,.new (.agg [.v (.slice none 0 0)])⟩])
 (.seq
 (.reg 1 none [0,3,4,5] [
 ⟨some 5,none,.new (.agg [.v (.slice none 0 0)])⟩])
 (.seq
 (.seq
 (.reg 2 none [0,4,5,13,14,15] [
 ⟨some 12,none,.fa 0 (.t 3)⟩,
 ⟨some 13,none,.ld none (.t 12)⟩,
 ⟨some 14,none,.lenL (.t 13)⟩,
 ⟨some 15,none,.mv (.k (.v (.int .i64 0)))⟩])
 (.block 0
 (.loop
 (.seq
 (.reg 3 none [0,4,5,13,14,15,16] [
 ⟨some 16,none,.bin .lss false (.t 15) (.t 14)⟩])
 (.seq
 (.cond (.t 16)
 .skip
 (.exit 0))
 (.seq
 (.block 1
 (.seq
 (.reg 4 none [0,4,5,7,13,14,15] [
 ⟨some 17,none,.ixL 1 (.t 13) (.t 15)⟩,
 ⟨some 18,none,.ld none (.t 17)⟩,
 ⟨some 7,none,.mv (.t 18)⟩])
 (.seq
 (.reg 5 none [0,4,5,8,13,14,15] [
 ⟨some 19,none,.mv (.t 7)⟩,
 ⟨some 20,none,.mk 1 8 (.v (.int .i64 0)) (.t 19) (.t 19)⟩,
 ⟨some 8,none,.mv (.t 20)⟩])
 (.seq
 (.reg 6 none [0,4,5,8,9,13,14,15] [
 ⟨some 9,none,.mv (.k (.v (.int .i64 0)))⟩])
 (.seq
 (.seq
 (.reg 7 none [0,4,5,8,9,13,14,15,22,23] [
 ⟨some 21,none,.mv (.t 8)⟩,
 ⟨some 22,none,.lenL (.t 21)⟩,
 ⟨some 23,none,.mv (.k (.v (.int .i64 0)))⟩])
 (.block 2
 (.loop
 (.seq
 (.reg 8 none [0,4,5,8,9,13,14,15,22,23,24] [
 ⟨some 24,none,.bin .lss false (.t 23) (.t 22)⟩])
 (.seq
 (.cond (.t 24)
 .skip
 (.exit 2))
 (.seq
 (.block 3
 (.seq
 (.reg 9 none [0,4,5,8,9,10,13,14,15,22,23] [
 ⟨some 25,none,.mv (.t 23)⟩,
 ⟨some 10,none,.mv (.t 25)⟩])
 (.seq
 (.reg 10 none [0,4,5,8,9,10,11,13,14,15,22,23] [
 ⟨some 26,none,.mv (.t 0)⟩,
 ⟨some 27,none,.mv (.t 9)⟩,
 ⟨some 28,none,.bin .add false (.t 27) (.k (.v (.int .i64 2)))⟩,
 ⟨some 29,none,.call (.k (.clo F_draw_Codes_Next [])) [.t 26,.t 28]⟩,
 ⟨some 11,none,.mv (.t 29)⟩])
 (.seq
 (.seq
 (.reg 11 none [0,4,5,8,9,10,11,13,14,15,22,23,32] [
 ⟨some 30,none,.mv (.t 11)⟩,
 ⟨some 31,none,.mv (.t 9)⟩,
 ⟨some 32,none,.bin .gtr false (.t 30) (.t 31)⟩])
 (.cond (.t 32)
 (.reg 12 none [0,4,5,8,9,10,11,13,14,15,22,23] [
 ⟨some 33,none,.mv (.t 9)⟩,
 ⟨some 11,none,.mv (.t 33)⟩])
 .skip))
 (.seq
 (.seq
 (.reg 13 none [0,4,5,8,9,10,11,13,14,15,22,23,40] [
 ⟨some 34,none,.mv (.t 0)⟩,
 ⟨some 35,none,.call (.k (.clo F_draw_Codes_Next [])) [.t 34,.k (.v (.int .i64 8))]⟩,
 ⟨some 36,none,.bin .eql false (.t 35) (.k (.v (.int .i64 7)))⟩,
 ⟨some 37,none,.mv (.t 36)⟩,
 ⟨some 38,some (37,true),.mv (.t 10)⟩,
 ⟨some 39,some (37,true),.bin .gtr false (.t 38) (.k (.v (.int .i64 0)))⟩,
 ⟨some 40,none,.pick (.t 37) (.t 39) (.k (.v (.bool false)))⟩])
 (.cond (.t 40)
 (.reg 14 none [0,4,5,8,9,10,11,13,14,15,22,23] [
 ⟨some 11,none,.mv (.k (.v (.int .i64 (-1))))⟩])
 .skip))
 (.seq
 (.reg 15 none [0,4,5,8,9,11,13,14,15,22,23] [
 ⟨some 41,none,.mv (.t 8)⟩,
 ⟨some 42,none,.mv (.t 10)⟩,
 ⟨some 43,none,.mv (.t 11)⟩,
 ⟨some 44,none,.ixL 1 (.t 41) (.t 42)⟩,
 ⟨none,none,.st 1 (.t 44) (.t 43)⟩])
 (.seq
 (.reg 16 none [0,4,5,8,9,13,14,15,22,23,47] [
 ⟨some 45,none,.mv (.t 11)⟩,
 ⟨some 46,none,.mv (.t 9)⟩,
 ⟨some 47,none,.bin .eql false (.t 45) (.t 46)⟩])
 (.cond (.t 47)
 (.reg 17 none [0,4,5,8,9,13,14,15,22,23] [
 ⟨some 48,none,.mv (.t 9)⟩,
 ⟨some 49,none,.bin .add false (.t 48) (.k (.v (.int .i64 1)))⟩,
 ⟨some 9,none,.mv (.t 49)⟩])
 .skip))))))))
 (.reg 18 none [0,4,5,8,9,13,14,15,22,23] [
 ⟨some 50,none,.bin .add false (.t 23) (.k (.v (.int .i64 1)))⟩,
 ⟨some 23,none,.mv (.t 50)⟩])))))))
 (.reg 19 none [0,4,5,13,14,15] [
 ⟨some 51,none,.fa 0 (.t 5)⟩,
 ⟨some 52,none,.ld none (.t 51)⟩,
 ⟨some 53,none,.mv (.t 8)⟩,
 ⟨some 54,none,.bsl 1 1 [.t 53]⟩,
 ⟨some 55,none,.app 1 24 false (.t 52) (.t 54)⟩,
 ⟨some 56,none,.fa 0 (.t 5)⟩,
 ⟨none,none,.st 1 (.t 56) (.t 55)⟩]))))))
 (.reg 20 none [0,4,5,13,14,15] [
 ⟨some 57,none,.bin .add false (.t 15) (.k (.v (.int .i64 1)))⟩,
 ⟨some 15,none,.mv (.t 57)⟩])))))))
 (.seq
 (.reg 21 none [4] [
 ⟨some 58,none,.ld (some 1) (.t 5)⟩,
 ⟨none,none,.st 1 (.t 4) (.t 58)⟩])
 .ret))))
theorem fn_made_View:FnIR Tryd.prog F_made_View 59 [(0,[0,3,4]),(1,[0,3,4,5]),(2,[0,4,5,13,14,15]),(3,[0,4,5,13,14,15,16]),(4,[0,4,5,7,13,14,15]),(5,[0,4,5,8,13,14,15]),(6,[0,4,5,8,9,13,14,15]),(7,[0,4,5,8,9,13,14,15,22,23]),(8,[0,4,5,8,9,13,14,15,22,23,24]),(9,[0,4,5,8,9,10,13,14,15,22,23]),(10,[0,4,5,8,9,10,11,13,14,15,22,23]),(11,[0,4,5,8,9,10,11,13,14,15,22,23,32]),(12,[0,4,5,8,9,10,11,13,14,15,22,23]),(13,[0,4,5,8,9,10,11,13,14,15,22,23,40]),(14,[0,4,5,8,9,10,11,13,14,15,22,23]),(15,[0,4,5,8,9,11,13,14,15,22,23]),(16,[0,4,5,8,9,13,14,15,22,23,47]),(17,[0,4,5,8,9,13,14,15,22,23]),(18,[0,4,5,8,9,13,14,15,22,23]),(19,[0,4,5,13,14,15]),(20,[0,4,5,13,14,15]),(21,[4])] ir_made_View [(.cell 4 (some 1))]:=
 ⟨Tryd.f47,_,Tryd.func47,rfl,by kernel_rfl,rfl,by kernel_rfl,by kernel_rfl⟩
def ir_ref28_Publish:RC:=
 (.seq
 (.reg 0 none [2,3,4] [
 ⟨some 3,none,.box (.t 0)⟩,
 ⟨some 4,none,.box (.t 1)⟩,
 ⟨some 6,none,.mv (.k (.v (.slice none 0 0)))⟩,
 ⟨some 7,none,.mv (.k (.v (.int .i64 0)))⟩])
 (.seq
 (.seq
 (.reg 1 none [2,3,4,8] [
 ⟨some 14,none,.ld (some 1) (.t 3)⟩,
 ⟨some 15,none,.ld (some 1) (.t 4)⟩,
 ⟨some 16,none,.call (.k (.clo F_ref28_View [])) [.t 14,.t 15]⟩,
 ⟨some 8,none,.mv (.t 16)⟩])
 (.seq
 (.reg 2 none [2,3,4,8,18] [
 ⟨some 17,none,.mv (.t 8)⟩,
 ⟨some 18,none,.bin .neq false (.t 17) (.k (.v (.int .i64 0)))⟩])
 (.cond (.t 18)
 (.seq
 (.reg 3 none [6,7] [
 ⟨some 19,none,.mv (.t 8)⟩,
 ⟨some 6,none,.mv (.k (.v (.slice none 0 0)))⟩,
 ⟨some 7,none,.mv (.t 19)⟩])
 .ret)
 .skip)))
 (.seq
 (.seq
 (.reg 4 none [2,3,4,24] [
 ⟨some 20,none,.mv (.t 2)⟩,
 ⟨some 21,none,.lenL (.t 20)⟩,
 ⟨some 22,none,.ld (some 1) (.t 3)⟩,
 ⟨some 23,none,.call (.k (.clo F_ref28_Count [])) [.t 22]⟩,
 ⟨some 24,none,.bin .neq false (.t 21) (.t 23)⟩])
 (.cond (.t 24)
 (.seq
 (.reg 5 none [6,7] [
 ⟨some 6,none,.mv (.k (.v (.slice none 0 0)))⟩,
 ⟨some 7,none,.mv (.k (.v (.int .i64 17)))⟩])
 .ret)
 .skip))
 (.seq
 (.seq
 (.reg 6 none [2,3,4,25,26,27] [
 ⟨some 25,none,.mv (.t 2)⟩,
 ⟨some 26,none,.lenL (.t 25)⟩,
 ⟨some 27,none,.mv (.k (.v (.int .i64 0)))⟩])
 (.block 0
 (.loop
 (.seq
 (.reg 7 none [2,3,4,25,26,27,28] [
 ⟨some 28,none,.bin .lss false (.t 27) (.t 26)⟩])
 (.seq
 (.cond (.t 28)
 .skip
 (.exit 0))
 (.seq
 (.block 1
 (.seq
 (.reg 8 none [2,3,4,10,25,26,27] [
 ⟨some 29,none,.ixL 1 (.t 25) (.t 27)⟩,
 ⟨some 30,none,.ld none (.t 29)⟩,
 ⟨some 10,none,.mv (.t 30)⟩])
 (.seq
 (.reg 9 none [2,3,4,25,26,27,36] [
 ⟨some 31,none,.mv (.t 10)⟩,
 ⟨some 32,none,.bin .lss false (.t 31) (.k (.v (.int .i64 0)))⟩,
 ⟨some 33,none,.mv (.t 32)⟩,
 ⟨some 34,some (33,false),.mv (.t 10)⟩,
 ⟨some 35,some (33,false),.bin .gtr false (.t 34) (.k (.v (.int .i64 1000000)))⟩,
 ⟨some 36,none,.pick (.t 33) (.k (.v (.bool true))) (.t 35)⟩])
 (.cond (.t 36)
 (.seq
 (.reg 10 none [6,7] [
 ⟨some 6,none,.mv (.k (.v (.slice none 0 0)))⟩,
 ⟨some 7,none,.mv (.k (.v (.int .i64 2)))⟩])
 .ret)
 .skip))))
 (.reg 11 none [2,3,4,25,26,27] [
 ⟨some 37,none,.bin .add false (.t 27) (.k (.v (.int .i64 1)))⟩,
 ⟨some 27,none,.mv (.t 37)⟩])))))))
 (.seq
 (.reg 12 none [2,3,4,11] [
 ⟨some 38,none,.ld (some 1) (.t 3)⟩,
 ⟨some 39,none,.ld (some 1) (.t 4)⟩,
 ⟨some 40,none,.call (.k (.clo F_ref28_Published [])) [.t 38,.t 39]⟩,
 ⟨some 41,none,.mk 1 8 (.v (.int .i64 0)) (.t 40) (.t 40)⟩,
 ⟨some 11,none,.mv (.t 41)⟩])
 (.seq
 (.seq
 (.reg 13 none [2,3,4,11,43,44] [
 ⟨some 42,none,.mv (.t 2)⟩,
 ⟨some 43,none,.lenL (.t 42)⟩,
 ⟨some 44,none,.mv (.k (.v (.int .i64 0)))⟩])
 (.block 2
 (.loop
 (.seq
 (.reg 14 none [2,3,4,11,43,44,45] [
 ⟨some 45,none,.bin .lss false (.t 44) (.t 43)⟩])
 (.seq
 (.cond (.t 45)
 .skip
 (.exit 2))
 (.seq
 (.block 3
 (.seq
 (.reg 15 none [2,3,4,11,12,43,44] [
 ⟨some 46,none,.mv (.t 44)⟩,
 ⟨some 12,none,.mv (.t 46)⟩])
 (.seq
 (.reg 16 none [2,3,4,11,12,13,43,44] [
 ⟨some 47,none,.ld (some 1) (.t 3)⟩,
 ⟨some 48,none,.ld (some 1) (.t 4)⟩,
 ⟨some 49,none,.mv (.t 12)⟩,
 ⟨some 50,none,.call (.k (.clo F_ref28_Of [])) [.t 47,.t 48,.t 49]⟩,
 ⟨some 13,none,.mv (.t 50)⟩])
 (.seq
 (.reg 17 none [2,3,4,11,12,13,43,44,52] [
 ⟨some 51,none,.mv (.t 13)⟩,
 ⟨some 52,none,.bin .geq false (.t 51) (.k (.v (.int .i64 0)))⟩])
 (.cond (.t 52)
 (.reg 18 (some [0,0,3,7,0,0,48,112,255,511,1023]) [2,3,4,11,43,44] [
 ⟨some 53,none,.mv (.t 11)⟩,
 ⟨some 54,none,.mv (.t 13)⟩,
 ⟨some 55,none,.ixL 1 (.t 53) (.t 54)⟩,
 ⟨some 56,none,.ld none (.t 55)⟩,
 ⟨some 57,none,.mv (.t 2)⟩,
 ⟨some 58,none,.mv (.t 12)⟩,
 ⟨some 59,none,.ixL 1 (.t 57) (.t 58)⟩,
 ⟨some 60,none,.ld none (.t 59)⟩,
 ⟨some 61,none,.bin .add false (.t 56) (.t 60)⟩,
 ⟨some 62,none,.ixL 1 (.t 53) (.t 54)⟩,
 ⟨none,none,.st 1 (.t 62) (.t 61)⟩])
 .skip)))))
 (.reg 19 none [2,3,4,11,43,44] [
 ⟨some 63,none,.bin .add false (.t 44) (.k (.v (.int .i64 1)))⟩,
 ⟨some 44,none,.mv (.t 63)⟩])))))))
 (.seq
 (.reg 20 none [6,7] [
 ⟨some 64,none,.mv (.t 11)⟩,
 ⟨some 6,none,.mv (.t 64)⟩,
 ⟨some 7,none,.mv (.k (.v (.int .i64 0)))⟩])
 .ret)))))))
theorem fn_ref28_Publish:FnIR Tryd.prog F_ref28_Publish 65 [(0,[2,3,4]),(1,[2,3,4,8]),(2,[2,3,4,8,18]),(3,[6,7]),(4,[2,3,4,24]),(5,[6,7]),(6,[2,3,4,25,26,27]),(7,[2,3,4,25,26,27,28]),(8,[2,3,4,10,25,26,27]),(9,[2,3,4,25,26,27,36]),(10,[6,7]),(11,[2,3,4,25,26,27]),(12,[2,3,4,11]),(13,[2,3,4,11,43,44]),(14,[2,3,4,11,43,44,45]),(15,[2,3,4,11,12,43,44]),(16,[2,3,4,11,12,13,43,44]),(17,[2,3,4,11,12,13,43,44,52]),(18,[2,3,4,11,43,44]),(19,[2,3,4,11,43,44]),(20,[6,7])] ir_ref28_Publish [(.tmp 6),(.tmp 7)]:=
 ⟨Tryd.f48,_,Tryd.func48,rfl,by kernel_rfl,rfl,by kernel_rfl,by kernel_rfl⟩
def ir_cells_Members:RC:=
 (.seq
 (.reg 0 none [2,3,4] [
 ⟨some 3,none,.box (.t 0)⟩,
 ⟨some 4,none,.box (.t 1)⟩,
 ⟨some 6,none,.mv (.k (.v (.slice none 0 0)))⟩,
 ⟨some 7,none,.mv (.k (.v (.int .i64 0)))⟩])
 (.seq
 (.seq
 (.reg 1 none [2,3,4,8] [
 ⟨some 12,none,.ld (some 1) (.t 3)⟩,
 ⟨some 13,none,.ld (some 1) (.t 4)⟩,
 ⟨some 14,none,.call (.k (.clo F_cells_View [])) [.t 12,.t 13]⟩,
 ⟨some 8,none,.mv (.t 14)⟩])
 (.seq
 (.reg 2 none [2,3,4,8,16] [
 ⟨some 15,none,.mv (.t 8)⟩,
 ⟨some 16,none,.bin .neq false (.t 15) (.k (.v (.int .i64 0)))⟩])
 (.cond (.t 16)
 (.seq
 (.reg 3 none [6,7] [
 ⟨some 17,none,.mv (.t 8)⟩,
 ⟨some 6,none,.mv (.k (.v (.slice none 0 0)))⟩,
 ⟨some 7,none,.mv (.t 17)⟩])
 .ret)
 .skip)))
 (.seq
 (.seq
 (.reg 4 none [2,3,4,26] [
 ⟨some 18,none,.mv (.t 2)⟩,
 ⟨some 19,none,.bin .lss false (.t 18) (.k (.v (.int .i64 0)))⟩,
 ⟨some 20,none,.mv (.t 19)⟩,
 ⟨some 21,some (20,false),.mv (.t 2)⟩,
 ⟨some 22,some (20,false),.ld (some 1) (.t 4)⟩,
 ⟨some 23,some (20,false),.call (.k (.clo F_cells_sizes [])) [.t 22]⟩,
 ⟨some 24,some (20,false),.call (.k (.clo F_cells_product [])) [.t 23]⟩,
 ⟨some 25,some (20,false),.bin .geq false (.t 21) (.t 24)⟩,
 ⟨some 26,none,.pick (.t 20) (.k (.v (.bool true))) (.t 25)⟩])
 (.cond (.t 26)
 (.seq
 (.reg 5 none [6,7] [
 ⟨some 6,none,.mv (.k (.v (.slice none 0 0)))⟩,
 ⟨some 7,none,.mv (.k (.v (.int .i64 2)))⟩])
 .ret)
 .skip))
 (.seq
 (.reg 6 none [2,3,4,9] [
 ⟨some 9,none,.mv (.k (.v (.slice none 0 0)))⟩])
 (.seq
 (.seq
 (.reg 7 none [2,9,29,30,31] [
 ⟨some 27,none,.ld (some 1) (.t 3)⟩,
 ⟨some 28,none,.ld (some 1) (.t 4)⟩,
 ⟨some 29,none,.call (.k (.clo F_cells_published [])) [.t 27,.t 28]⟩,
 ⟨some 30,none,.lenL (.t 29)⟩,
 ⟨some 31,none,.mv (.k (.v (.int .i64 0)))⟩])
 (.block 0
 (.loop
 (.seq
 (.reg 8 none [2,9,29,30,31,32] [
 ⟨some 32,none,.bin .lss false (.t 31) (.t 30)⟩])
 (.seq
 (.cond (.t 32)
 .skip
 (.exit 0))
 (.seq
 (.block 1
 (.seq
 (.reg 9 none [2,9,10,11,29,30,31] [
 ⟨some 33,none,.mv (.t 31)⟩,
 ⟨some 34,none,.ixL 1 (.t 29) (.t 31)⟩,
 ⟨some 35,none,.ld none (.t 34)⟩,
 ⟨some 10,none,.mv (.t 33)⟩,
 ⟨some 11,none,.mv (.t 35)⟩])
 (.seq
 (.reg 10 none [2,9,10,29,30,31,38] [
 ⟨some 36,none,.mv (.t 11)⟩,
 ⟨some 37,none,.mv (.t 2)⟩,
 ⟨some 38,none,.bin .eql false (.t 36) (.t 37)⟩])
 (.cond (.t 38)
 (.reg 11 none [2,9,29,30,31] [
 ⟨some 39,none,.mv (.t 9)⟩,
 ⟨some 40,none,.mv (.t 10)⟩,
 ⟨some 41,none,.bsl 1 1 [.t 40]⟩,
 ⟨some 42,none,.app 1 8 false (.t 39) (.t 41)⟩,
 ⟨some 9,none,.mv (.t 42)⟩])
 .skip))))
 (.reg 12 none [2,9,29,30,31] [
 ⟨some 43,none,.bin .add false (.t 31) (.k (.v (.int .i64 1)))⟩,
 ⟨some 31,none,.mv (.t 43)⟩])))))))
 (.seq
 (.reg 13 none [6,7] [
 ⟨some 44,none,.mv (.t 9)⟩,
 ⟨some 6,none,.mv (.t 44)⟩,
 ⟨some 7,none,.mv (.k (.v (.int .i64 0)))⟩])
 .ret))))))
theorem fn_cells_Members:FnIR Tryd.prog F_cells_Members 45 [(0,[2,3,4]),(1,[2,3,4,8]),(2,[2,3,4,8,16]),(3,[6,7]),(4,[2,3,4,26]),(5,[6,7]),(6,[2,3,4,9]),(7,[2,9,29,30,31]),(8,[2,9,29,30,31,32]),(9,[2,9,10,11,29,30,31]),(10,[2,9,10,29,30,31,38]),(11,[2,9,29,30,31]),(12,[2,9,29,30,31]),(13,[6,7])] ir_cells_Members [(.tmp 6),(.tmp 7)]:=
 ⟨Tryd.f49,_,Tryd.func49,rfl,by kernel_rfl,rfl,by kernel_rfl,by kernel_rfl⟩
def ir_ref28_View:RC:=
 (.seq
 (.reg 0 none [2,3] [
 ⟨some 2,none,.box (.t 0)⟩,
 ⟨some 3,none,.box (.t 1)⟩,
 ⟨some 4,none,.mv (.k (.v (.int .i64 0)))⟩])
 (.seq
 (.seq
 (.reg 1 none [2,3,5] [
 ⟨some 11,none,.ld (some 1) (.t 2)⟩,
 ⟨some 12,none,.call (.k (.clo F_ref28_Check [])) [.t 11]⟩,
 ⟨some 5,none,.mv (.t 12)⟩])
 (.seq
 (.reg 2 none [2,3,5,14] [
 ⟨some 13,none,.mv (.t 5)⟩,
 ⟨some 14,none,.bin .neq false (.t 13) (.k (.v (.int .i64 0)))⟩])
 (.cond (.t 14)
 (.seq
 (.reg 3 none [4] [
 ⟨some 15,none,.mv (.t 5)⟩,
 ⟨some 4,none,.mv (.t 15)⟩])
 .ret)
 .skip)))
 (.seq
 (.seq
 (.reg 4 none [2,3,22] [
 ⟨some 16,none,.fa 0 (.t 3)⟩,
 ⟨some 17,none,.ld none (.t 16)⟩,
 ⟨some 18,none,.lenL (.t 17)⟩,
 ⟨some 19,none,.fa 0 (.t 2)⟩,
 ⟨some 20,none,.ld none (.t 19)⟩,
 ⟨some 21,none,.lenL (.t 20)⟩,
 ⟨some 22,none,.bin .neq false (.t 18) (.t 21)⟩])
 (.cond (.t 22)
 (.seq
 (.reg 5 none [4] [
 ⟨some 4,none,.mv (.k (.v (.int .i64 55)))⟩])
 .ret)
 .skip))
 (.seq
 (.seq
 (.reg 6 none [2,24,25,26] [
 ⟨some 23,none,.fa 0 (.t 3)⟩,
 ⟨some 24,none,.ld none (.t 23)⟩,
 ⟨some 25,none,.lenL (.t 24)⟩,
 ⟨some 26,none,.mv (.k (.v (.int .i64 0)))⟩])
 (.block 0
 (.loop
 (.seq
 (.reg 7 none [2,24,25,26,27] [
 ⟨some 27,none,.bin .lss false (.t 26) (.t 25)⟩])
 (.seq
 (.cond (.t 27)
 .skip
 (.exit 0))
 (.seq
 (.block 1
 (.seq
 (.reg 8 none [2,6,7,24,25,26] [
 ⟨some 28,none,.mv (.t 26)⟩,
 ⟨some 29,none,.ixL 1 (.t 24) (.t 26)⟩,
 ⟨some 30,none,.ld none (.t 29)⟩,
 ⟨some 6,none,.mv (.t 28)⟩,
 ⟨some 7,none,.mv (.t 30)⟩])
 (.seq
 (.seq
 (.reg 9 none [2,7,24,25,26,38] [
 ⟨some 31,none,.mv (.t 7)⟩,
 ⟨some 32,none,.lenL (.t 31)⟩,
 ⟨some 33,none,.fa 0 (.t 2)⟩,
 ⟨some 34,none,.ld none (.t 33)⟩,
 ⟨some 35,none,.mv (.t 6)⟩,
 ⟨some 36,none,.ixL 1 (.t 34) (.t 35)⟩,
 ⟨some 37,none,.ld none (.t 36)⟩,
 ⟨some 38,none,.bin .neq false (.t 32) (.t 37)⟩])
 (.cond (.t 38)
 (.seq
 (.reg 10 none [4] [
 ⟨some 4,none,.mv (.k (.v (.int .i64 55)))⟩])
 .ret)
 .skip))
 (.seq
 (.reg 11 none [2,7,8,24,25,26] [
 ⟨some 8,none,.mv (.k (.v (.int .i64 0)))⟩])
 (.seq
 (.seq
 (.reg 12 none [2,8,24,25,26,39,40,41] [
 ⟨some 39,none,.mv (.t 7)⟩,
 ⟨some 40,none,.lenL (.t 39)⟩,
 ⟨some 41,none,.mv (.k (.v (.int .i64 0)))⟩])
 (.block 2
 (.loop
 (.seq
 (.reg 13 none [2,8,24,25,26,39,40,41,42] [
 ⟨some 42,none,.bin .lss false (.t 41) (.t 40)⟩])
 (.seq
 (.cond (.t 42)
 .skip
 (.exit 2))
 (.seq
 (.block 3
 (.seq
 (.reg 14 none [2,8,10,24,25,26,39,40,41] [
 ⟨some 43,none,.ixL 1 (.t 39) (.t 41)⟩,
 ⟨some 44,none,.ld none (.t 43)⟩,
 ⟨some 10,none,.mv (.t 44)⟩])
 (.seq
 (.seq
 (.reg 15 none [2,8,10,24,25,26,39,40,41,51] [
 ⟨some 45,none,.mv (.t 10)⟩,
 ⟨some 46,none,.bin .lss false (.t 45) (.k (.v (.int .i64 (-1))))⟩,
 ⟨some 47,none,.mv (.t 46)⟩,
 ⟨some 48,some (47,false),.mv (.t 10)⟩,
 ⟨some 49,some (47,false),.mv (.t 8)⟩,
 ⟨some 50,some (47,false),.bin .gtr false (.t 48) (.t 49)⟩,
 ⟨some 51,none,.pick (.t 47) (.k (.v (.bool true))) (.t 50)⟩])
 (.cond (.t 51)
 (.seq
 (.reg 16 none [4] [
 ⟨some 4,none,.mv (.k (.v (.int .i64 55)))⟩])
 .ret)
 .skip))
 (.seq
 (.reg 17 none [2,8,24,25,26,39,40,41,54] [
 ⟨some 52,none,.mv (.t 10)⟩,
 ⟨some 53,none,.mv (.t 8)⟩,
 ⟨some 54,none,.bin .eql false (.t 52) (.t 53)⟩])
 (.cond (.t 54)
 (.reg 18 none [2,8,24,25,26,39,40,41] [
 ⟨some 55,none,.mv (.t 8)⟩,
 ⟨some 56,none,.bin .add false (.t 55) (.k (.v (.int .i64 1)))⟩,
 ⟨some 8,none,.mv (.t 56)⟩])
 .skip)))))
 (.reg 19 none [2,8,24,25,26,39,40,41] [
 ⟨some 57,none,.bin .add false (.t 41) (.k (.v (.int .i64 1)))⟩,
 ⟨some 41,none,.mv (.t 57)⟩])))))))
 (.seq
 (.reg 20 none [2,24,25,26,59] [
 ⟨some 58,none,.mv (.t 8)⟩,
 ⟨some 59,none,.bin .eql false (.t 58) (.k (.v (.int .i64 0)))⟩])
 (.cond (.t 59)
 (.seq
 (.reg 21 none [4] [
 ⟨some 4,none,.mv (.k (.v (.int .i64 55)))⟩])
 .ret)
 .skip)))))))
 (.reg 22 none [2,24,25,26] [
 ⟨some 60,none,.bin .add false (.t 26) (.k (.v (.int .i64 1)))⟩,
 ⟨some 26,none,.mv (.t 60)⟩])))))))
 (.seq
 (.reg 23 none [4] [
 ⟨some 4,none,.mv (.k (.v (.int .i64 0)))⟩])
 .ret)))))
theorem fn_ref28_View:FnIR Tryd.prog F_ref28_View 61 [(0,[2,3]),(1,[2,3,5]),(2,[2,3,5,14]),(3,[4]),(4,[2,3,22]),(5,[4]),(6,[2,24,25,26]),(7,[2,24,25,26,27]),(8,[2,6,7,24,25,26]),(9,[2,7,24,25,26,38]),(10,[4]),(11,[2,7,8,24,25,26]),(12,[2,8,24,25,26,39,40,41]),(13,[2,8,24,25,26,39,40,41,42]),(14,[2,8,10,24,25,26,39,40,41]),(15,[2,8,10,24,25,26,39,40,41,51]),(16,[4]),(17,[2,8,24,25,26,39,40,41,54]),(18,[2,8,24,25,26,39,40,41]),(19,[2,8,24,25,26,39,40,41]),(20,[2,24,25,26,59]),(21,[4]),(22,[2,24,25,26]),(23,[4])] ir_ref28_View [(.tmp 4)]:=
 ⟨Tryd.f50,_,Tryd.func50,rfl,by kernel_rfl,rfl,by kernel_rfl,by kernel_rfl⟩
def ir_ref28_Published:RC:=
 (.seq
 (.reg 0 none [2,3] [
 ⟨some 2,none,.box (.t 0)⟩,
 ⟨some 3,none,.box (.t 1)⟩,
 ⟨some 4,none,.mv (.k (.v (.int .i64 0)))⟩])
 (.seq
 (.seq
 (.reg 1 none [3,11] [
 ⟨some 8,none,.ld (some 1) (.t 2)⟩,
 ⟨some 9,none,.ld (some 1) (.t 3)⟩,
 ⟨some 10,none,.call (.k (.clo F_ref28_View [])) [.t 8,.t 9]⟩,
 ⟨some 11,none,.bin .neq false (.t 10) (.k (.v (.int .i64 0)))⟩])
 (.cond (.t 11)
 (.seq
 (.reg 2 none [4] [
 ⟨some 4,none,.mv (.k (.v (.int .i64 0)))⟩])
 .ret)
 .skip))
 (.seq
 (.reg 3 none [3,5] [
 ⟨some 5,none,.mv (.k (.v (.int .i64 1)))⟩])
 (.seq
 (.seq
 (.reg 4 none [5,13,14,15] [
 ⟨some 12,none,.fa 0 (.t 3)⟩,
 ⟨some 13,none,.ld none (.t 12)⟩,
 ⟨some 14,none,.lenL (.t 13)⟩,
 ⟨some 15,none,.mv (.k (.v (.int .i64 0)))⟩])
 (.block 0
 (.loop
 (.seq
 (.reg 5 none [5,13,14,15,16] [
 ⟨some 16,none,.bin .lss false (.t 15) (.t 14)⟩])
 (.seq
 (.cond (.t 16)
 .skip
 (.exit 0))
 (.seq
 (.block 1
 (.seq
 (.reg 6 none [5,7,13,14,15] [
 ⟨some 17,none,.ixL 1 (.t 13) (.t 15)⟩,
 ⟨some 18,none,.ld none (.t 17)⟩,
 ⟨some 7,none,.mv (.t 18)⟩])
 (.reg 7 none [5,13,14,15] [
 ⟨some 19,none,.mv (.t 5)⟩,
 ⟨some 20,none,.mv (.t 7)⟩,
 ⟨some 21,none,.call (.k (.clo F_ref28_Groups [])) [.t 20]⟩,
 ⟨some 22,none,.bin .mul false (.t 19) (.t 21)⟩,
 ⟨some 5,none,.mv (.t 22)⟩])))
 (.reg 8 none [5,13,14,15] [
 ⟨some 23,none,.bin .add false (.t 15) (.k (.v (.int .i64 1)))⟩,
 ⟨some 15,none,.mv (.t 23)⟩])))))))
 (.seq
 (.reg 9 none [4] [
 ⟨some 24,none,.mv (.t 5)⟩,
 ⟨some 4,none,.mv (.t 24)⟩])
 .ret)))))
theorem fn_ref28_Published:FnIR Tryd.prog F_ref28_Published 25 [(0,[2,3]),(1,[3,11]),(2,[4]),(3,[3,5]),(4,[5,13,14,15]),(5,[5,13,14,15,16]),(6,[5,7,13,14,15]),(7,[5,13,14,15]),(8,[5,13,14,15]),(9,[4])] ir_ref28_Published [(.tmp 4)]:=
 ⟨Tryd.f51,_,Tryd.func51,rfl,by kernel_rfl,rfl,by kernel_rfl,by kernel_rfl⟩
def ir_ref28_Of:RC:=
 (.seq
 (.reg 0 none [2,3,4] [
 ⟨some 3,none,.box (.t 0)⟩,
 ⟨some 4,none,.box (.t 1)⟩,
 ⟨some 6,none,.mv (.k (.v (.int .i64 0)))⟩])
 (.seq
 (.reg 1 none [4,7] [
 ⟨some 14,none,.ld (some 1) (.t 3)⟩,
 ⟨some 15,none,.mv (.t 2)⟩,
 ⟨some 16,none,.call (.k (.clo F_ref28_At [])) [.t 14,.t 15]⟩,
 ⟨some 13,none,.mv (.t 16)⟩,
 ⟨some 17,none,.ex (.t 13) 0⟩,
 ⟨some 18,none,.ex (.t 13) 1⟩,
 ⟨some 7,none,.mv (.t 17)⟩,
 ⟨some 8,none,.mv (.t 18)⟩])
 (.seq
 (.reg 2 none [4,7,9] [
 ⟨some 9,none,.mv (.k (.v (.int .i64 0)))⟩])
 (.seq
 (.seq
 (.reg 3 none [4,9,19,20,21] [
 ⟨some 19,none,.mv (.t 7)⟩,
 ⟨some 20,none,.lenL (.t 19)⟩,
 ⟨some 21,none,.mv (.k (.v (.int .i64 0)))⟩])
 (.block 0
 (.loop
 (.seq
 (.reg 4 none [4,9,19,20,21,22] [
 ⟨some 22,none,.bin .lss false (.t 21) (.t 20)⟩])
 (.seq
 (.cond (.t 22)
 .skip
 (.exit 0))
 (.seq
 (.block 1
 (.seq
 (.reg 5 none [4,9,10,11,19,20,21] [
 ⟨some 23,none,.mv (.t 21)⟩,
 ⟨some 24,none,.ixL 1 (.t 19) (.t 21)⟩,
 ⟨some 25,none,.ld none (.t 24)⟩,
 ⟨some 10,none,.mv (.t 23)⟩,
 ⟨some 11,none,.mv (.t 25)⟩])
 (.seq
 (.reg 6 none [4,9,10,12,19,20,21] [
 ⟨some 26,none,.fa 0 (.t 4)⟩,
 ⟨some 27,none,.ld none (.t 26)⟩,
 ⟨some 28,none,.mv (.t 10)⟩,
 ⟨some 29,none,.ixL 1 (.t 27) (.t 28)⟩,
 ⟨some 30,none,.ld none (.t 29)⟩,
 ⟨some 31,none,.mv (.t 11)⟩,
 ⟨some 32,none,.ixL 1 (.t 30) (.t 31)⟩,
 ⟨some 33,none,.ld none (.t 32)⟩,
 ⟨some 12,none,.mv (.t 33)⟩])
 (.seq
 (.seq
 (.reg 7 none [4,9,10,12,19,20,21,35] [
 ⟨some 34,none,.mv (.t 12)⟩,
 ⟨some 35,none,.bin .lss false (.t 34) (.k (.v (.int .i64 0)))⟩])
 (.cond (.t 35)
 (.seq
 (.reg 8 none [6] [
 ⟨some 6,none,.mv (.k (.v (.int .i64 (-1))))⟩])
 .ret)
 .skip))
 (.reg 9 none [4,9,19,20,21] [
 ⟨some 36,none,.mv (.t 9)⟩,
 ⟨some 37,none,.fa 0 (.t 4)⟩,
 ⟨some 38,none,.ld none (.t 37)⟩,
 ⟨some 39,none,.mv (.t 10)⟩,
 ⟨some 40,none,.ixL 1 (.t 38) (.t 39)⟩,
 ⟨some 41,none,.ld none (.t 40)⟩,
 ⟨some 42,none,.call (.k (.clo F_ref28_Groups [])) [.t 41]⟩,
 ⟨some 43,none,.bin .mul false (.t 36) (.t 42)⟩,
 ⟨some 44,none,.mv (.t 12)⟩,
 ⟨some 45,none,.bin .add false (.t 43) (.t 44)⟩,
 ⟨some 9,none,.mv (.t 45)⟩])))))
 (.reg 10 none [4,9,19,20,21] [
 ⟨some 46,none,.bin .add false (.t 21) (.k (.v (.int .i64 1)))⟩,
 ⟨some 21,none,.mv (.t 46)⟩])))))))
 (.seq
 (.reg 11 none [6] [
 ⟨some 47,none,.mv (.t 9)⟩,
 ⟨some 6,none,.mv (.t 47)⟩])
 .ret)))))
theorem fn_ref28_Of:FnIR Tryd.prog F_ref28_Of 48 [(0,[2,3,4]),(1,[4,7]),(2,[4,7,9]),(3,[4,9,19,20,21]),(4,[4,9,19,20,21,22]),(5,[4,9,10,11,19,20,21]),(6,[4,9,10,12,19,20,21]),(7,[4,9,10,12,19,20,21,35]),(8,[6]),(9,[4,9,19,20,21]),(10,[4,9,19,20,21]),(11,[6])] ir_ref28_Of [(.tmp 6)]:=
 ⟨Tryd.f52,_,Tryd.func52,rfl,by kernel_rfl,rfl,by kernel_rfl,by kernel_rfl⟩
def ir_cells_View:RC:=
 (.seq
 (.reg 0 none [2,3] [
 ⟨some 2,none,.box (.t 0)⟩,
 ⟨some 3,none,.box (.t 1)⟩,
 ⟨some 4,none,.mv (.k (.v (.int .i64 0)))⟩])
 (.seq
 (.seq
 (.reg 1 none [2,3,5] [
 ⟨some 8,none,.ld (some 1) (.t 2)⟩,
 ⟨some 9,none,.call (.k (.clo F_cells_Check [])) [.t 8]⟩,
 ⟨some 5,none,.mv (.t 9)⟩])
 (.seq
 (.reg 2 none [2,3,5,11] [
 ⟨some 10,none,.mv (.t 5)⟩,
 ⟨some 11,none,.bin .neq false (.t 10) (.k (.v (.int .i64 0)))⟩])
 (.cond (.t 11)
 (.seq
 (.reg 3 none [4] [
 ⟨some 12,none,.mv (.t 5)⟩,
 ⟨some 4,none,.mv (.t 12)⟩])
 .ret)
 .skip)))
 (.seq
 (.seq
 (.reg 4 none [2,3,19] [
 ⟨some 13,none,.fa 0 (.t 3)⟩,
 ⟨some 14,none,.ld none (.t 13)⟩,
 ⟨some 15,none,.lenL (.t 14)⟩,
 ⟨some 16,none,.fa 0 (.t 2)⟩,
 ⟨some 17,none,.ld none (.t 16)⟩,
 ⟨some 18,none,.lenL (.t 17)⟩,
 ⟨some 19,none,.bin .neq false (.t 15) (.t 18)⟩])
 (.cond (.t 19)
 (.seq
 (.reg 5 none [4] [
 ⟨some 4,none,.mv (.k (.v (.int .i64 55)))⟩])
 .ret)
 .skip))
 (.seq
 (.seq
 (.reg 6 none [2,21,22,23] [
 ⟨some 20,none,.fa 0 (.t 3)⟩,
 ⟨some 21,none,.ld none (.t 20)⟩,
 ⟨some 22,none,.lenL (.t 21)⟩,
 ⟨some 23,none,.mv (.k (.v (.int .i64 0)))⟩])
 (.block 0
 (.loop
 (.seq
 (.reg 7 none [2,21,22,23,24] [
 ⟨some 24,none,.bin .lss false (.t 23) (.t 22)⟩])
 (.seq
 (.cond (.t 24)
 .skip
 (.exit 0))
 (.seq
 (.block 1
 (.seq
 (.reg 8 none [2,6,7,21,22,23] [
 ⟨some 25,none,.mv (.t 23)⟩,
 ⟨some 26,none,.ixL 1 (.t 21) (.t 23)⟩,
 ⟨some 27,none,.ld none (.t 26)⟩,
 ⟨some 6,none,.mv (.t 25)⟩,
 ⟨some 7,none,.mv (.t 27)⟩])
 (.seq
 (.reg 9 none [2,21,22,23,40] [
 ⟨some 28,none,.mv (.t 7)⟩,
 ⟨some 29,none,.lenL (.t 28)⟩,
 ⟨some 30,none,.fa 0 (.t 2)⟩,
 ⟨some 31,none,.ld none (.t 30)⟩,
 ⟨some 32,none,.mv (.t 6)⟩,
 ⟨some 33,none,.ixL 1 (.t 31) (.t 32)⟩,
 ⟨some 34,none,.ld none (.t 33)⟩,
 ⟨some 35,none,.bin .neq false (.t 29) (.t 34)⟩,
 ⟨some 36,none,.mv (.t 35)⟩,
 ⟨some 37,some (36,false),.mv (.t 7)⟩,
 ⟨some 38,some (36,false),.call (.k (.clo F_cells_numbered [])) [.t 37]⟩,
 ⟨some 39,some (36,false),.un .not (.t 38)⟩,
 ⟨some 40,none,.pick (.t 36) (.k (.v (.bool true))) (.t 39)⟩])
 (.cond (.t 40)
 (.seq
 (.reg 10 none [4] [
 ⟨some 4,none,.mv (.k (.v (.int .i64 55)))⟩])
 .ret)
 .skip))))
 (.reg 11 none [2,21,22,23] [
 ⟨some 41,none,.bin .add false (.t 23) (.k (.v (.int .i64 1)))⟩,
 ⟨some 23,none,.mv (.t 41)⟩])))))))
 (.seq
 (.reg 12 none [4] [
 ⟨some 4,none,.mv (.k (.v (.int .i64 0)))⟩])
 .ret)))))
theorem fn_cells_View:FnIR Tryd.prog F_cells_View 42 [(0,[2,3]),(1,[2,3,5]),(2,[2,3,5,11]),(3,[4]),(4,[2,3,19]),(5,[4]),(6,[2,21,22,23]),(7,[2,21,22,23,24]),(8,[2,6,7,21,22,23]),(9,[2,21,22,23,40]),(10,[4]),(11,[2,21,22,23]),(12,[4])] ir_cells_View [(.tmp 4)]:=
 ⟨Tryd.f53,_,Tryd.func53,rfl,by kernel_rfl,rfl,by kernel_rfl,by kernel_rfl⟩
def ir_cells_Published:RC:=
 (.seq
 (.reg 0 none [2,3] [
 ⟨some 2,none,.box (.t 0)⟩,
 ⟨some 3,none,.box (.t 1)⟩,
 ⟨some 4,none,.mv (.k (.v (.int .i64 0)))⟩])
 (.seq
 (.seq
 (.reg 1 none [3,8] [
 ⟨some 5,none,.ld (some 1) (.t 2)⟩,
 ⟨some 6,none,.ld (some 1) (.t 3)⟩,
 ⟨some 7,none,.call (.k (.clo F_cells_View [])) [.t 5,.t 6]⟩,
 ⟨some 8,none,.bin .neq false (.t 7) (.k (.v (.int .i64 0)))⟩])
 (.cond (.t 8)
 (.seq
 (.reg 2 none [4] [
 ⟨some 4,none,.mv (.k (.v (.int .i64 0)))⟩])
 .ret)
 .skip))
 (.seq
 (.reg 3 none [4] [
 ⟨some 9,none,.ld (some 1) (.t 3)⟩,
 ⟨some 10,none,.call (.k (.clo F_cells_sizes [])) [.t 9]⟩,
 ⟨some 11,none,.call (.k (.clo F_cells_product [])) [.t 10]⟩,
 ⟨some 4,none,.mv (.t 11)⟩])
 .ret)))
theorem fn_cells_Published:FnIR Tryd.prog F_cells_Published 12 [(0,[2,3]),(1,[3,8]),(2,[4]),(3,[4])] ir_cells_Published [(.tmp 4)]:=
 ⟨Tryd.f54,_,Tryd.func54,rfl,by kernel_rfl,rfl,by kernel_rfl,by kernel_rfl⟩
def ir_equations_check_1:RC:=
 (.seq
 (.reg 0 none [0] [
 ⟨some 2,none,.mv (.k (.v (.bool false)))⟩])
 (.seq
 (.reg 1 none [2] [
 ⟨some 3,none,.mv (.t 0)⟩,
 ⟨some 4,none,.bin .neq false (.t 3) (.k (.v (.int .i64 (-1))))⟩,
 ⟨some 5,none,.mv (.t 4)⟩,
 ⟨some 6,some (5,true),.mv (.t 0)⟩,
 ⟨some 7,some (5,true),.call (.k (.clo F_equations_value [])) [.t 6]⟩,
 ⟨some 8,some (5,true),.un .not (.t 7)⟩,
 ⟨some 9,none,.pick (.t 5) (.t 8) (.k (.v (.bool false)))⟩,
 ⟨some 2,none,.mv (.t 9)⟩])
 .ret))
theorem fn_equations_check_1:FnIR Tryd.prog F_equations_check_1 10 [(0,[0]),(1,[2])] ir_equations_check_1 [(.tmp 2)]:=
 ⟨Tryd.f55,_,Tryd.func55,rfl,by kernel_rfl,rfl,by kernel_rfl,by kernel_rfl⟩
def ir_strconv_AppendInt:RC:=
 (.seq
 (.reg 0 none [0,1,2] [
 ⟨some 6,none,.mv (.k (.v (.slice none 0 0)))⟩])
 (.seq
 (.reg 1 none [6] [
 ⟨some 7,none,.mv (.t 0)⟩,
 ⟨some 8,none,.mv (.t 1)⟩,
 ⟨some 9,none,.mv (.t 2)⟩,
 ⟨some 10,none,.call (.k (.clo F_internal_strconv_AppendInt [])) [.t 7,.t 8,.t 9]⟩,
 ⟨some 6,none,.mv (.t 10)⟩])
 .ret))
theorem fn_strconv_AppendInt:FnIR Tryd.prog F_strconv_AppendInt 11 [(0,[0,1,2]),(1,[6])] ir_strconv_AppendInt [(.tmp 6)]:=
 ⟨Tryd.f56,_,Tryd.func56,rfl,by kernel_rfl,rfl,by kernel_rfl,by kernel_rfl⟩
def ir_slices_IndexFunc_Equation:RC:=
 (.seq
 (.reg 0 none [0,1] [
 ⟨some 4,none,.mv (.k (.v (.int .i64 0)))⟩])
 (.seq
 (.seq
 (.reg 1 none [0,1,7,8] [
 ⟨some 6,none,.mv (.t 0)⟩,
 ⟨some 7,none,.lenL (.t 6)⟩,
 ⟨some 8,none,.mv (.k (.v (.int .i64 0)))⟩])
 (.block 0
 (.loop
 (.seq
 (.reg 2 none [0,1,7,8,9] [
 ⟨some 9,none,.bin .lss false (.t 8) (.t 7)⟩])
 (.seq
 (.cond (.t 9)
 .skip
 (.exit 0))
 (.seq
 (.block 1
 (.seq
 (.reg 3 none [0,1,5,7,8] [
 ⟨some 10,none,.mv (.t 8)⟩,
 ⟨some 5,none,.mv (.t 10)⟩])
 (.seq
 (.reg 4 none [0,1,5,7,8,16] [
 ⟨some 11,none,.mv (.t 1)⟩,
 ⟨some 12,none,.mv (.t 0)⟩,
 ⟨some 13,none,.mv (.t 5)⟩,
 ⟨some 14,none,.ixL 2 (.t 12) (.t 13)⟩,
 ⟨some 15,none,.ld (some 2) (.t 14)⟩,
 ⟨some 16,none,.call (.t 11) [.t 15]⟩])
 (.cond (.t 16)
 (.seq
 (.reg 5 none [4] [
 ⟨some 17,none,.mv (.t 5)⟩,
 ⟨some 4,none,.mv (.t 17)⟩])
 .ret)
 .skip))))
 (.reg 6 none [0,1,7,8] [
 ⟨some 18,none,.bin .add false (.t 8) (.k (.v (.int .i64 1)))⟩,
 ⟨some 8,none,.mv (.t 18)⟩])))))))
 (.seq
 (.reg 7 none [4] [
 ⟨some 4,none,.mv (.k (.v (.int .i64 (-1))))⟩])
 .ret)))
theorem fn_slices_IndexFunc_Equation:FnIR Tryd.prog F_slices_IndexFunc_Equation 19 [(0,[0,1]),(1,[0,1,7,8]),(2,[0,1,7,8,9]),(3,[0,1,5,7,8]),(4,[0,1,5,7,8,16]),(5,[4]),(6,[0,1,7,8]),(7,[4])] ir_slices_IndexFunc_Equation [(.tmp 4)]:=
 ⟨Tryd.f57,_,Tryd.func57,rfl,by kernel_rfl,rfl,by kernel_rfl,by kernel_rfl⟩
def ir_slices_pdqsortOrdered_int:RC:=
 (.seq
 (.reg 0 none [0,1,2,3,8] [
 ⟨some 8,none,.mv (.k (.v (.bool true)))⟩])
 (.seq
 (.reg 1 none [0,1,2,3,8,9] [
 ⟨some 9,none,.mv (.k (.v (.bool true)))⟩])
 (.block 0
 (.loop
 (.block 1
 (.seq
 (.reg 2 none [0,1,2,3,8,9,10] [
 ⟨some 19,none,.mv (.t 2)⟩,
 ⟨some 20,none,.mv (.t 1)⟩,
 ⟨some 21,none,.bin .sub false (.t 19) (.t 20)⟩,
 ⟨some 10,none,.mv (.t 21)⟩])
 (.seq
 (.seq
 (.reg 3 none [0,1,2,3,8,9,10,23] [
 ⟨some 22,none,.mv (.t 10)⟩,
 ⟨some 23,none,.bin .leq false (.t 22) (.k (.v (.int .i64 12)))⟩])
 (.cond (.t 23)
 (.seq
 (.reg 4 none [] [
 ⟨some 24,none,.mv (.t 0)⟩,
 ⟨some 25,none,.mv (.t 1)⟩,
 ⟨some 26,none,.mv (.t 2)⟩,
 ⟨some 27,none,.call (.k (.clo F_slices_insertionSortOrdered_int [])) [.t 24,.t 25,.t 26]⟩])
 .ret)
 .skip))
 (.seq
 (.seq
 (.reg 5 none [0,1,2,3,8,9,10,29] [
 ⟨some 28,none,.mv (.t 3)⟩,
 ⟨some 29,none,.bin .eql false (.t 28) (.k (.v (.int .i64 0)))⟩])
 (.cond (.t 29)
 (.seq
 (.reg 6 none [] [
 ⟨some 30,none,.mv (.t 0)⟩,
 ⟨some 31,none,.mv (.t 1)⟩,
 ⟨some 32,none,.mv (.t 2)⟩,
 ⟨some 33,none,.call (.k (.clo F_slices_heapSortOrdered_int [])) [.t 30,.t 31,.t 32]⟩])
 .ret)
 .skip))
 (.seq
 (.seq
 (.reg 7 none [0,1,2,3,8,9,10,35] [
 ⟨some 34,none,.mv (.t 8)⟩,
 ⟨some 35,none,.un .not (.t 34)⟩])
 (.cond (.t 35)
 (.seq
 (.reg 8 none [0,1,2,3,8,9,10] [
 ⟨some 36,none,.mv (.t 0)⟩,
 ⟨some 37,none,.mv (.t 1)⟩,
 ⟨some 38,none,.mv (.t 2)⟩,
 ⟨some 39,none,.call (.k (.clo F_slices_breakPatternsOrdered_int [])) [.t 36,.t 37,.t 38]⟩])
 (.reg 9 none [0,1,2,3,8,9,10] [
 ⟨some 40,none,.mv (.t 3)⟩,
 ⟨some 41,none,.bin .sub false (.t 40) (.k (.v (.int .i64 1)))⟩,
 ⟨some 3,none,.mv (.t 41)⟩]))
 .skip))
 (.seq
 (.reg 10 none [0,1,2,3,8,9,10,11,12] [
 ⟨some 43,none,.mv (.t 0)⟩,
 ⟨some 44,none,.mv (.t 1)⟩,
 ⟨some 45,none,.mv (.t 2)⟩,
 ⟨some 46,none,.call (.k (.clo F_slices_choosePivotOrdered_int [])) [.t 43,.t 44,.t 45]⟩,
 ⟨some 42,none,.mv (.t 46)⟩,
 ⟨some 47,none,.ex (.t 42) 0⟩,
 ⟨some 48,none,.ex (.t 42) 1⟩,
 ⟨some 11,none,.mv (.t 47)⟩,
 ⟨some 12,none,.mv (.t 48)⟩])
 (.seq
 (.seq
 (.reg 11 none [0,1,2,3,8,9,10,11,12,50] [
 ⟨some 49,none,.mv (.t 12)⟩,
 ⟨some 50,none,.bin .eql false (.t 49) (.k (.v (.int .i64 2)))⟩])
 (.cond (.t 50)
 (.seq
 (.reg 12 none [0,1,2,3,8,9,10,11] [
 ⟨some 51,none,.mv (.t 0)⟩,
 ⟨some 52,none,.mv (.t 1)⟩,
 ⟨some 53,none,.mv (.t 2)⟩,
 ⟨some 54,none,.call (.k (.clo F_slices_reverseRangeOrdered_int [])) [.t 51,.t 52,.t 53]⟩])
 (.seq
 (.reg 13 none [0,1,2,3,8,9,10,11] [
 ⟨some 55,none,.mv (.t 2)⟩,
 ⟨some 56,none,.bin .sub false (.t 55) (.k (.v (.int .i64 1)))⟩,
 ⟨some 57,none,.mv (.t 11)⟩,
 ⟨some 58,none,.mv (.t 1)⟩,
 ⟨some 59,none,.bin .sub false (.t 57) (.t 58)⟩,
 ⟨some 60,none,.bin .sub false (.t 56) (.t 59)⟩,
 ⟨some 11,none,.mv (.t 60)⟩])
 (.reg 14 none [0,1,2,3,8,9,10,11,12] [
 ⟨some 12,none,.mv (.k (.v (.int .i64 1)))⟩])))
 .skip))
 (.seq
 (.seq
 (.reg 15 none [0,1,2,3,8,9,10,11,68] [
 ⟨some 61,none,.mv (.t 8)⟩,
 ⟨some 62,none,.mv (.t 61)⟩,
 ⟨some 63,some (62,true),.mv (.t 9)⟩,
 ⟨some 64,none,.pick (.t 62) (.t 63) (.k (.v (.bool false)))⟩,
 ⟨some 65,none,.mv (.t 64)⟩,
 ⟨some 66,some (65,true),.mv (.t 12)⟩,
 ⟨some 67,some (65,true),.bin .eql false (.t 66) (.k (.v (.int .i64 1)))⟩,
 ⟨some 68,none,.pick (.t 65) (.t 67) (.k (.v (.bool false)))⟩])
 (.cond (.t 68)
 (.seq
 (.reg 16 none [0,1,2,3,8,9,10,11,72] [
 ⟨some 69,none,.mv (.t 0)⟩,
 ⟨some 70,none,.mv (.t 1)⟩,
 ⟨some 71,none,.mv (.t 2)⟩,
 ⟨some 72,none,.call (.k (.clo F_slices_partialInsertionSortOrdered_int [])) [.t 69,.t 70,.t 71]⟩])
 (.cond (.t 72)
 .ret
 .skip))
 .skip))
 (.seq
 (.seq
 (.reg 17 (some [0,1,3,7,7,23,63,127,7,7,775,1799,4095,8191,16383]) [0,1,2,3,8,9,10,11,87] [
 ⟨some 73,none,.mv (.t 1)⟩,
 ⟨some 74,none,.bin .gtr false (.t 73) (.k (.v (.int .i64 0)))⟩,
 ⟨some 75,none,.mv (.t 74)⟩,
 ⟨some 76,some (75,true),.mv (.t 0)⟩,
 ⟨some 77,some (75,true),.mv (.t 1)⟩,
 ⟨some 78,some (75,true),.bin .sub false (.t 77) (.k (.v (.int .i64 1)))⟩,
 ⟨some 79,some (75,true),.ixL 1 (.t 76) (.t 78)⟩,
 ⟨some 80,some (75,true),.ld none (.t 79)⟩,
 ⟨some 81,some (75,true),.mv (.t 0)⟩,
 ⟨some 82,some (75,true),.mv (.t 11)⟩,
 ⟨some 83,some (75,true),.ixL 1 (.t 81) (.t 82)⟩,
 ⟨some 84,some (75,true),.ld none (.t 83)⟩,
 ⟨some 85,some (75,true),.call (.k (.clo F_cmp_Less_int [])) [.t 80,.t 84]⟩,
 ⟨some 86,some (75,true),.un .not (.t 85)⟩,
 ⟨some 87,none,.pick (.t 75) (.t 86) (.k (.v (.bool false)))⟩])
 (.cond (.t 87)
 (.seq
 (.reg 18 none [0,2,3,8,9,13] [
 ⟨some 88,none,.mv (.t 0)⟩,
 ⟨some 89,none,.mv (.t 1)⟩,
 ⟨some 90,none,.mv (.t 2)⟩,
 ⟨some 91,none,.mv (.t 11)⟩,
 ⟨some 92,none,.call (.k (.clo F_slices_partitionEqualOrdered_int [])) [.t 88,.t 89,.t 90,.t 91]⟩,
 ⟨some 13,none,.mv (.t 92)⟩])
 (.seq
 (.reg 19 none [0,1,2,3,8,9] [
 ⟨some 93,none,.mv (.t 13)⟩,
 ⟨some 1,none,.mv (.t 93)⟩])
 (.exit 1)))
 .skip))
 (.seq
 (.reg 20 none [0,1,2,3,10,14,15] [
 ⟨some 95,none,.mv (.t 0)⟩,
 ⟨some 96,none,.mv (.t 1)⟩,
 ⟨some 97,none,.mv (.t 2)⟩,
 ⟨some 98,none,.mv (.t 11)⟩,
 ⟨some 99,none,.call (.k (.clo F_slices_partitionOrdered_int [])) [.t 95,.t 96,.t 97,.t 98]⟩,
 ⟨some 94,none,.mv (.t 99)⟩,
 ⟨some 100,none,.ex (.t 94) 0⟩,
 ⟨some 101,none,.ex (.t 94) 1⟩,
 ⟨some 14,none,.mv (.t 100)⟩,
 ⟨some 15,none,.mv (.t 101)⟩])
 (.seq
 (.reg 21 none [0,1,2,3,9,10,14] [
 ⟨some 102,none,.mv (.t 15)⟩,
 ⟨some 9,none,.mv (.t 102)⟩])
 (.seq
 (.reg 22 none [0,1,2,3,9,10,14,16,17] [
 ⟨some 103,none,.mv (.t 14)⟩,
 ⟨some 104,none,.mv (.t 1)⟩,
 ⟨some 105,none,.bin .sub false (.t 103) (.t 104)⟩,
 ⟨some 106,none,.mv (.t 2)⟩,
 ⟨some 107,none,.mv (.t 14)⟩,
 ⟨some 108,none,.bin .sub false (.t 106) (.t 107)⟩,
 ⟨some 16,none,.mv (.t 105)⟩,
 ⟨some 17,none,.mv (.t 108)⟩])
 (.seq
 (.reg 23 none [0,1,2,3,9,14,16,17,18] [
 ⟨some 109,none,.mv (.t 10)⟩,
 ⟨some 110,none,.bin .quo false (.t 109) (.k (.v (.int .i64 8)))⟩,
 ⟨some 18,none,.mv (.t 110)⟩])
 (.seq
 (.reg 24 none [0,1,2,3,9,14,16,17,18,113] [
 ⟨some 111,none,.mv (.t 16)⟩,
 ⟨some 112,none,.mv (.t 17)⟩,
 ⟨some 113,none,.bin .lss false (.t 111) (.t 112)⟩])
 (.cond (.t 113)
 (.seq
 (.reg 25 none [0,1,2,3,8,9,14] [
 ⟨some 114,none,.mv (.t 16)⟩,
 ⟨some 115,none,.mv (.t 18)⟩,
 ⟨some 116,none,.bin .geq false (.t 114) (.t 115)⟩,
 ⟨some 8,none,.mv (.t 116)⟩])
 (.seq
 (.reg 26 none [0,2,3,8,9,14] [
 ⟨some 117,none,.mv (.t 0)⟩,
 ⟨some 118,none,.mv (.t 1)⟩,
 ⟨some 119,none,.mv (.t 14)⟩,
 ⟨some 120,none,.mv (.t 3)⟩,
 ⟨some 121,none,.call (.k (.clo F_slices_pdqsortOrdered_int [])) [.t 117,.t 118,.t 119,.t 120]⟩])
 (.reg 27 none [0,1,2,3,8,9] [
 ⟨some 122,none,.mv (.t 14)⟩,
 ⟨some 123,none,.bin .add false (.t 122) (.k (.v (.int .i64 1)))⟩,
 ⟨some 1,none,.mv (.t 123)⟩])))
 (.seq
 (.reg 28 none [0,1,2,3,8,9,14] [
 ⟨some 124,none,.mv (.t 17)⟩,
 ⟨some 125,none,.mv (.t 18)⟩,
 ⟨some 126,none,.bin .geq false (.t 124) (.t 125)⟩,
 ⟨some 8,none,.mv (.t 126)⟩])
 (.seq
 (.reg 29 none [0,1,3,8,9,14] [
 ⟨some 127,none,.mv (.t 0)⟩,
 ⟨some 128,none,.mv (.t 14)⟩,
 ⟨some 129,none,.bin .add false (.t 128) (.k (.v (.int .i64 1)))⟩,
 ⟨some 130,none,.mv (.t 2)⟩,
 ⟨some 131,none,.mv (.t 3)⟩,
 ⟨some 132,none,.call (.k (.clo F_slices_pdqsortOrdered_int [])) [.t 127,.t 129,.t 130,.t 131]⟩])
 (.reg 30 none [0,1,2,3,8,9] [
 ⟨some 133,none,.mv (.t 14)⟩,
 ⟨some 2,none,.mv (.t 133)⟩]))))))))))))))))))))))
theorem fn_slices_pdqsortOrdered_int:FnIR Tryd.prog F_slices_pdqsortOrdered_int 134 [(0,[0,1,2,3,8]),(1,[0,1,2,3,8,9]),(2,[0,1,2,3,8,9,10]),(3,[0,1,2,3,8,9,10,23]),(5,[0,1,2,3,8,9,10,29]),(7,[0,1,2,3,8,9,10,35]),(8,[0,1,2,3,8,9,10]),(9,[0,1,2,3,8,9,10]),(10,[0,1,2,3,8,9,10,11,12]),(11,[0,1,2,3,8,9,10,11,12,50]),(12,[0,1,2,3,8,9,10,11]),(13,[0,1,2,3,8,9,10,11]),(14,[0,1,2,3,8,9,10,11,12]),(15,[0,1,2,3,8,9,10,11,68]),(16,[0,1,2,3,8,9,10,11,72]),(17,[0,1,2,3,8,9,10,11,87]),(18,[0,2,3,8,9,13]),(19,[0,1,2,3,8,9]),(20,[0,1,2,3,10,14,15]),(21,[0,1,2,3,9,10,14]),(22,[0,1,2,3,9,10,14,16,17]),(23,[0,1,2,3,9,14,16,17,18]),(24,[0,1,2,3,9,14,16,17,18,113]),(25,[0,1,2,3,8,9,14]),(26,[0,2,3,8,9,14]),(27,[0,1,2,3,8,9]),(28,[0,1,2,3,8,9,14]),(29,[0,1,3,8,9,14]),(30,[0,1,2,3,8,9])] ir_slices_pdqsortOrdered_int []:=
 ⟨Tryd.f58,_,Tryd.func58,rfl,by kernel_rfl,rfl,by kernel_rfl,by kernel_rfl⟩
def ir_math_bits_Len:RC:=
 (.seq
 (.reg 0 none [0] [
 ⟨some 2,none,.mv (.k (.v (.int .i64 0)))⟩])
 (.seq
 (.cond (.k (.v (.bool false)))
 (.seq
 (.reg 1 none [2] [
 ⟨some 3,none,.mv (.t 0)⟩,
 ⟨some 4,none,.cvI .u32 (.t 3)⟩,
 ⟨some 5,none,.call (.k (.clo F_math_bits_Len32 [])) [.t 4]⟩,
 ⟨some 2,none,.mv (.t 5)⟩])
 .ret)
 .skip)
 (.seq
 (.reg 2 none [2] [
 ⟨some 6,none,.mv (.t 0)⟩,
 ⟨some 7,none,.call (.k (.clo F_math_bits_Len64 [])) [.t 6]⟩,
 ⟨some 2,none,.mv (.t 7)⟩])
 .ret)))
theorem fn_math_bits_Len:FnIR Tryd.prog F_math_bits_Len 8 [(0,[0]),(1,[2]),(2,[2])] ir_math_bits_Len [(.tmp 2)]:=
 ⟨Tryd.f59,_,Tryd.func59,rfl,by kernel_rfl,rfl,by kernel_rfl,by kernel_rfl⟩
def ir_slices_IndexFunc_int:RC:=
 (.seq
 (.reg 0 none [0,1] [
 ⟨some 4,none,.mv (.k (.v (.int .i64 0)))⟩])
 (.seq
 (.seq
 (.reg 1 none [0,1,7,8] [
 ⟨some 6,none,.mv (.t 0)⟩,
 ⟨some 7,none,.lenL (.t 6)⟩,
 ⟨some 8,none,.mv (.k (.v (.int .i64 0)))⟩])
 (.block 0
 (.loop
 (.seq
 (.reg 2 none [0,1,7,8,9] [
 ⟨some 9,none,.bin .lss false (.t 8) (.t 7)⟩])
 (.seq
 (.cond (.t 9)
 .skip
 (.exit 0))
 (.seq
 (.block 1
 (.seq
 (.reg 3 none [0,1,5,7,8] [
 ⟨some 10,none,.mv (.t 8)⟩,
 ⟨some 5,none,.mv (.t 10)⟩])
 (.seq
 (.reg 4 none [0,1,5,7,8,16] [
 ⟨some 11,none,.mv (.t 1)⟩,
 ⟨some 12,none,.mv (.t 0)⟩,
 ⟨some 13,none,.mv (.t 5)⟩,
 ⟨some 14,none,.ixL 1 (.t 12) (.t 13)⟩,
 ⟨some 15,none,.ld none (.t 14)⟩,
 ⟨some 16,none,.call (.t 11) [.t 15]⟩])
 (.cond (.t 16)
 (.seq
 (.reg 5 none [4] [
 ⟨some 17,none,.mv (.t 5)⟩,
 ⟨some 4,none,.mv (.t 17)⟩])
 .ret)
 .skip))))
 (.reg 6 none [0,1,7,8] [
 ⟨some 18,none,.bin .add false (.t 8) (.k (.v (.int .i64 1)))⟩,
 ⟨some 8,none,.mv (.t 18)⟩])))))))
 (.seq
 (.reg 7 none [4] [
 ⟨some 4,none,.mv (.k (.v (.int .i64 (-1))))⟩])
 .ret)))
theorem fn_slices_IndexFunc_int:FnIR Tryd.prog F_slices_IndexFunc_int 19 [(0,[0,1]),(1,[0,1,7,8]),(2,[0,1,7,8,9]),(3,[0,1,5,7,8]),(4,[0,1,5,7,8,16]),(5,[4]),(6,[0,1,7,8]),(7,[4])] ir_slices_IndexFunc_int [(.tmp 4)]:=
 ⟨Tryd.f60,_,Tryd.func60,rfl,by kernel_rfl,rfl,by kernel_rfl,by kernel_rfl⟩
def ir_cells_product:RC:=
 (.seq
 (.reg 0 none [0] [
 ⟨some 2,none,.mv (.k (.v (.int .i64 0)))⟩])
 (.seq
 (.reg 1 none [0,3] [
 ⟨some 3,none,.mv (.k (.v (.int .i64 1)))⟩])
 (.seq
 (.seq
 (.reg 2 none [3,6,7,8] [
 ⟨some 6,none,.mv (.t 0)⟩,
 ⟨some 7,none,.lenL (.t 6)⟩,
 ⟨some 8,none,.mv (.k (.v (.int .i64 0)))⟩])
 (.block 0
 (.loop
 (.seq
 (.reg 3 none [3,6,7,8,9] [
 ⟨some 9,none,.bin .lss false (.t 8) (.t 7)⟩])
 (.seq
 (.cond (.t 9)
 .skip
 (.exit 0))
 (.seq
 (.block 1
 (.seq
 (.reg 4 none [3,5,6,7,8] [
 ⟨some 10,none,.ixL 1 (.t 6) (.t 8)⟩,
 ⟨some 11,none,.ld none (.t 10)⟩,
 ⟨some 5,none,.mv (.t 11)⟩])
 (.reg 5 none [3,6,7,8] [
 ⟨some 12,none,.mv (.t 3)⟩,
 ⟨some 13,none,.mv (.t 5)⟩,
 ⟨some 14,none,.bin .mul false (.t 12) (.t 13)⟩,
 ⟨some 3,none,.mv (.t 14)⟩])))
 (.reg 6 none [3,6,7,8] [
 ⟨some 15,none,.bin .add false (.t 8) (.k (.v (.int .i64 1)))⟩,
 ⟨some 8,none,.mv (.t 15)⟩])))))))
 (.seq
 (.reg 7 none [2] [
 ⟨some 16,none,.mv (.t 3)⟩,
 ⟨some 2,none,.mv (.t 16)⟩])
 .ret))))
theorem fn_cells_product:FnIR Tryd.prog F_cells_product 17 [(0,[0]),(1,[0,3]),(2,[3,6,7,8]),(3,[3,6,7,8,9]),(4,[3,5,6,7,8]),(5,[3,6,7,8]),(6,[3,6,7,8]),(7,[2])] ir_cells_product [(.tmp 2)]:=
 ⟨Tryd.f61,_,Tryd.func61,rfl,by kernel_rfl,rfl,by kernel_rfl,by kernel_rfl⟩
def ir_cells_sizes:RC:=
 (.seq
 (.reg 0 none [1] [
 ⟨some 1,none,.box (.t 0)⟩,
 ⟨some 2,none,.mv (.k (.v (.slice none 0 0)))⟩])
 (.seq
 (.reg 1 none [1,3] [
 ⟨some 3,none,.mv (.k (.v (.slice none 0 0)))⟩])
 (.seq
 (.seq
 (.reg 2 none [3,7,8,9] [
 ⟨some 6,none,.fa 0 (.t 1)⟩,
 ⟨some 7,none,.ld none (.t 6)⟩,
 ⟨some 8,none,.lenL (.t 7)⟩,
 ⟨some 9,none,.mv (.k (.v (.int .i64 0)))⟩])
 (.block 0
 (.loop
 (.seq
 (.reg 3 none [3,7,8,9,10] [
 ⟨some 10,none,.bin .lss false (.t 9) (.t 8)⟩])
 (.seq
 (.cond (.t 10)
 .skip
 (.exit 0))
 (.seq
 (.block 1
 (.seq
 (.reg 4 none [3,5,7,8,9] [
 ⟨some 11,none,.ixL 1 (.t 7) (.t 9)⟩,
 ⟨some 12,none,.ld none (.t 11)⟩,
 ⟨some 5,none,.mv (.t 12)⟩])
 (.reg 5 none [3,7,8,9] [
 ⟨some 13,none,.mv (.t 3)⟩,
 ⟨some 14,none,.mv (.t 5)⟩,
 ⟨some 15,none,.call (.k (.clo F_slices_Max_int [])) [.t 14]⟩,
 ⟨some 16,none,.bin .add false (.k (.v (.int .i64 1))) (.t 15)⟩,
 ⟨some 17,none,.bsl 1 1 [.t 16]⟩,
 ⟨some 18,none,.app 1 8 false (.t 13) (.t 17)⟩,
 ⟨some 3,none,.mv (.t 18)⟩])))
 (.reg 6 none [3,7,8,9] [
 ⟨some 19,none,.bin .add false (.t 9) (.k (.v (.int .i64 1)))⟩,
 ⟨some 9,none,.mv (.t 19)⟩])))))))
 (.seq
 (.reg 7 none [2] [
 ⟨some 20,none,.mv (.t 3)⟩,
 ⟨some 2,none,.mv (.t 20)⟩])
 .ret))))
theorem fn_cells_sizes:FnIR Tryd.prog F_cells_sizes 21 [(0,[1]),(1,[1,3]),(2,[3,7,8,9]),(3,[3,7,8,9,10]),(4,[3,5,7,8,9]),(5,[3,7,8,9]),(6,[3,7,8,9]),(7,[2])] ir_cells_sizes [(.tmp 2)]:=
 ⟨Tryd.f62,_,Tryd.func62,rfl,by kernel_rfl,rfl,by kernel_rfl,by kernel_rfl⟩
def ir_cells_published:RC:=
 (.seq
 (.reg 0 none [2,3] [
 ⟨some 2,none,.box (.t 0)⟩,
 ⟨some 3,none,.box (.t 1)⟩,
 ⟨some 4,none,.mv (.k (.v (.slice none 0 0)))⟩])
 (.seq
 (.reg 1 none [2,3,5] [
 ⟨some 11,none,.ld (some 1) (.t 3)⟩,
 ⟨some 12,none,.call (.k (.clo F_cells_sizes [])) [.t 11]⟩,
 ⟨some 5,none,.mv (.t 12)⟩])
 (.seq
 (.reg 2 none [2,3,5,6] [
 ⟨some 6,none,.mv (.k (.v (.slice none 0 0)))⟩])
 (.seq
 (.seq
 (.reg 3 none [2,3,5,6,15,16] [
 ⟨some 13,none,.fa 0 (.t 2)⟩,
 ⟨some 14,none,.ld none (.t 13)⟩,
 ⟨some 15,none,.call (.k (.clo F_cells_product [])) [.t 14]⟩,
 ⟨some 16,none,.mv (.k (.v (.int .i64 0)))⟩])
 (.block 0
 (.loop
 (.seq
 (.reg 4 none [2,3,5,6,15,16,17] [
 ⟨some 17,none,.bin .lss false (.t 16) (.t 15)⟩])
 (.seq
 (.cond (.t 17)
 .skip
 (.exit 0))
 (.seq
 (.block 1
 (.seq
 (.reg 5 none [2,3,5,6,7,15,16] [
 ⟨some 18,none,.mv (.t 16)⟩,
 ⟨some 7,none,.mv (.t 18)⟩])
 (.seq
 (.reg 6 none [2,3,5,6,8,15,16] [
 ⟨some 19,none,.fa 0 (.t 2)⟩,
 ⟨some 20,none,.ld none (.t 19)⟩,
 ⟨some 21,none,.mv (.t 7)⟩,
 ⟨some 22,none,.call (.k (.clo F_cells_places [])) [.t 20,.t 21]⟩,
 ⟨some 8,none,.mv (.t 22)⟩])
 (.seq
 (.seq
 (.reg 7 none [2,3,5,6,8,15,16,23,24,25] [
 ⟨some 23,none,.mv (.t 8)⟩,
 ⟨some 24,none,.lenL (.t 23)⟩,
 ⟨some 25,none,.mv (.k (.v (.int .i64 0)))⟩])
 (.block 2
 (.loop
 (.seq
 (.reg 8 none [2,3,5,6,8,15,16,23,24,25,26] [
 ⟨some 26,none,.bin .lss false (.t 25) (.t 24)⟩])
 (.seq
 (.cond (.t 26)
 .skip
 (.exit 2))
 (.seq
 (.block 3
 (.seq
 (.reg 9 none [2,3,5,6,8,9,10,15,16,23,24,25] [
 ⟨some 27,none,.mv (.t 25)⟩,
 ⟨some 28,none,.ixL 1 (.t 23) (.t 25)⟩,
 ⟨some 29,none,.ld none (.t 28)⟩,
 ⟨some 9,none,.mv (.t 27)⟩,
 ⟨some 10,none,.mv (.t 29)⟩])
 (.reg 10 none [2,3,5,6,8,15,16,23,24,25] [
 ⟨some 30,none,.mv (.t 8)⟩,
 ⟨some 31,none,.mv (.t 9)⟩,
 ⟨some 32,none,.fa 0 (.t 3)⟩,
 ⟨some 33,none,.ld none (.t 32)⟩,
 ⟨some 34,none,.mv (.t 9)⟩,
 ⟨some 35,none,.ixL 1 (.t 33) (.t 34)⟩,
 ⟨some 36,none,.ld none (.t 35)⟩,
 ⟨some 37,none,.mv (.t 10)⟩,
 ⟨some 38,none,.ixL 1 (.t 36) (.t 37)⟩,
 ⟨some 39,none,.ld none (.t 38)⟩,
 ⟨some 40,none,.ixL 1 (.t 30) (.t 31)⟩,
 ⟨none,none,.st 1 (.t 40) (.t 39)⟩])))
 (.reg 11 none [2,3,5,6,8,15,16,23,24,25] [
 ⟨some 41,none,.bin .add false (.t 25) (.k (.v (.int .i64 1)))⟩,
 ⟨some 25,none,.mv (.t 41)⟩])))))))
 (.seq
 (.reg 12 none [2,3,5,6,8,15,16,43] [
 ⟨some 42,none,.mv (.t 8)⟩,
 ⟨some 43,none,.call (.k (.clo F_slices_Contains_int [])) [.t 42,.k (.v (.int .i64 (-1)))]⟩])
 (.cond (.t 43)
 (.reg 13 none [2,3,5,6,15,16] [
 ⟨some 44,none,.mv (.t 6)⟩,
 ⟨some 45,none,.bsl 1 1 [.k (.v (.int .i64 (-1)))]⟩,
 ⟨some 46,none,.app 1 8 false (.t 44) (.t 45)⟩,
 ⟨some 6,none,.mv (.t 46)⟩])
 (.reg 14 none [2,3,5,6,15,16] [
 ⟨some 47,none,.mv (.t 6)⟩,
 ⟨some 48,none,.mv (.t 5)⟩,
 ⟨some 49,none,.mv (.t 8)⟩,
 ⟨some 50,none,.call (.k (.clo F_cells_number [])) [.t 48,.t 49]⟩,
 ⟨some 51,none,.bsl 1 1 [.t 50]⟩,
 ⟨some 52,none,.app 1 8 false (.t 47) (.t 51)⟩,
 ⟨some 6,none,.mv (.t 52)⟩])))))))
 (.reg 15 none [2,3,5,6,15,16] [
 ⟨some 53,none,.bin .add false (.t 16) (.k (.v (.int .i64 1)))⟩,
 ⟨some 16,none,.mv (.t 53)⟩])))))))
 (.seq
 (.reg 16 none [4] [
 ⟨some 54,none,.mv (.t 6)⟩,
 ⟨some 4,none,.mv (.t 54)⟩])
 .ret)))))
theorem fn_cells_published:FnIR Tryd.prog F_cells_published 55 [(0,[2,3]),(1,[2,3,5]),(2,[2,3,5,6]),(3,[2,3,5,6,15,16]),(4,[2,3,5,6,15,16,17]),(5,[2,3,5,6,7,15,16]),(6,[2,3,5,6,8,15,16]),(7,[2,3,5,6,8,15,16,23,24,25]),(8,[2,3,5,6,8,15,16,23,24,25,26]),(9,[2,3,5,6,8,9,10,15,16,23,24,25]),(10,[2,3,5,6,8,15,16,23,24,25]),(11,[2,3,5,6,8,15,16,23,24,25]),(12,[2,3,5,6,8,15,16,43]),(13,[2,3,5,6,15,16]),(14,[2,3,5,6,15,16]),(15,[2,3,5,6,15,16]),(16,[4])] ir_cells_published [(.tmp 4)]:=
 ⟨Tryd.f63,_,Tryd.func63,rfl,by kernel_rfl,rfl,by kernel_rfl,by kernel_rfl⟩
def ir_ref28_Groups:RC:=
 (.seq
 (.reg 0 none [0] [
 ⟨some 2,none,.mv (.k (.v (.int .i64 0)))⟩])
 (.seq
 (.reg 1 none [0,3] [
 ⟨some 3,none,.mv (.k (.v (.int .i64 0)))⟩])
 (.seq
 (.seq
 (.reg 2 none [3,6,7,8] [
 ⟨some 6,none,.mv (.t 0)⟩,
 ⟨some 7,none,.lenL (.t 6)⟩,
 ⟨some 8,none,.mv (.k (.v (.int .i64 0)))⟩])
 (.block 0
 (.loop
 (.seq
 (.reg 3 none [3,6,7,8,9] [
 ⟨some 9,none,.bin .lss false (.t 8) (.t 7)⟩])
 (.seq
 (.cond (.t 9)
 .skip
 (.exit 0))
 (.seq
 (.block 1
 (.seq
 (.reg 4 none [3,5,6,7,8] [
 ⟨some 10,none,.ixL 1 (.t 6) (.t 8)⟩,
 ⟨some 11,none,.ld none (.t 10)⟩,
 ⟨some 5,none,.mv (.t 11)⟩])
 (.reg 5 none [3,6,7,8] [
 ⟨some 12,none,.mv (.t 3)⟩,
 ⟨some 13,none,.mv (.t 5)⟩,
 ⟨some 14,none,.bin .add false (.t 13) (.k (.v (.int .i64 1)))⟩,
 ⟨some 15,none,.mx [.t 12,.t 14]⟩,
 ⟨some 3,none,.mv (.t 15)⟩])))
 (.reg 6 none [3,6,7,8] [
 ⟨some 16,none,.bin .add false (.t 8) (.k (.v (.int .i64 1)))⟩,
 ⟨some 8,none,.mv (.t 16)⟩])))))))
 (.seq
 (.reg 7 none [2] [
 ⟨some 17,none,.mv (.t 3)⟩,
 ⟨some 2,none,.mv (.t 17)⟩])
 .ret))))
theorem fn_ref28_Groups:FnIR Tryd.prog F_ref28_Groups 18 [(0,[0]),(1,[0,3]),(2,[3,6,7,8]),(3,[3,6,7,8,9]),(4,[3,5,6,7,8]),(5,[3,6,7,8]),(6,[3,6,7,8]),(7,[2])] ir_ref28_Groups [(.tmp 2)]:=
 ⟨Tryd.f64,_,Tryd.func64,rfl,by kernel_rfl,rfl,by kernel_rfl,by kernel_rfl⟩
def ir_ref28_At:RC:=
 (.seq
 (.reg 0 none [1,2] [
 ⟨some 2,none,.box (.t 0)⟩,
 ⟨some 4,none,.mv (.k (.v (.slice none 0 0)))⟩,
 ⟨some 5,none,.mv (.k (.v (.int .i64 0)))⟩])
 (.seq
 (.seq
 (.reg 1 none [1,2,6] [
 ⟨some 9,none,.ld (some 1) (.t 2)⟩,
 ⟨some 10,none,.call (.k (.clo F_ref28_Check [])) [.t 9]⟩,
 ⟨some 6,none,.mv (.t 10)⟩])
 (.seq
 (.reg 2 none [1,2,6,12] [
 ⟨some 11,none,.mv (.t 6)⟩,
 ⟨some 12,none,.bin .neq false (.t 11) (.k (.v (.int .i64 0)))⟩])
 (.cond (.t 12)
 (.seq
 (.reg 3 none [4,5] [
 ⟨some 13,none,.mv (.t 6)⟩,
 ⟨some 4,none,.mv (.k (.v (.slice none 0 0)))⟩,
 ⟨some 5,none,.mv (.t 13)⟩])
 .ret)
 .skip)))
 (.seq
 (.seq
 (.reg 4 none [1,2,21] [
 ⟨some 14,none,.mv (.t 1)⟩,
 ⟨some 15,none,.bin .lss false (.t 14) (.k (.v (.int .i64 0)))⟩,
 ⟨some 16,none,.mv (.t 15)⟩,
 ⟨some 17,some (16,false),.mv (.t 1)⟩,
 ⟨some 18,some (16,false),.ld (some 1) (.t 2)⟩,
 ⟨some 19,some (16,false),.call (.k (.clo F_ref28_Count [])) [.t 18]⟩,
 ⟨some 20,some (16,false),.bin .geq false (.t 17) (.t 19)⟩,
 ⟨some 21,none,.pick (.t 16) (.k (.v (.bool true))) (.t 20)⟩])
 (.cond (.t 21)
 (.seq
 (.reg 5 none [4,5] [
 ⟨some 4,none,.mv (.k (.v (.slice none 0 0)))⟩,
 ⟨some 5,none,.mv (.k (.v (.int .i64 2)))⟩])
 .ret)
 .skip))
 (.seq
 (.reg 6 none [1,2,7] [
 ⟨some 22,none,.fa 0 (.t 2)⟩,
 ⟨some 23,none,.ld none (.t 22)⟩,
 ⟨some 24,none,.lenL (.t 23)⟩,
 ⟨some 25,none,.mk 1 8 (.v (.int .i64 0)) (.t 24) (.t 24)⟩,
 ⟨some 7,none,.mv (.t 25)⟩])
 (.seq
 (.seq
 (.reg 7 none [1,2,7,8] [
 ⟨some 26,none,.fa 0 (.t 2)⟩,
 ⟨some 27,none,.ld none (.t 26)⟩,
 ⟨some 28,none,.lenL (.t 27)⟩,
 ⟨some 29,none,.bin .sub false (.t 28) (.k (.v (.int .i64 1)))⟩,
 ⟨some 8,none,.mv (.t 29)⟩])
 (.block 0
 (.loop
 (.seq
 (.seq
 (.reg 8 none [1,2,7,8,31] [
 ⟨some 30,none,.mv (.t 8)⟩,
 ⟨some 31,none,.bin .geq false (.t 30) (.k (.v (.int .i64 0)))⟩])
 (.cond (.t 31)
 .skip
 (.exit 0)))
 (.seq
 (.block 1
 (.seq
 (.reg 10 none [1,2,7,8] [
 ⟨some 34,none,.mv (.t 7)⟩,
 ⟨some 35,none,.mv (.t 8)⟩,
 ⟨some 36,none,.mv (.t 1)⟩,
 ⟨some 37,none,.fa 0 (.t 2)⟩,
 ⟨some 38,none,.ld none (.t 37)⟩,
 ⟨some 39,none,.mv (.t 8)⟩,
 ⟨some 40,none,.ixL 1 (.t 38) (.t 39)⟩,
 ⟨some 41,none,.ld none (.t 40)⟩,
 ⟨some 42,none,.bin .rem false (.t 36) (.t 41)⟩,
 ⟨some 43,none,.ixL 1 (.t 34) (.t 35)⟩,
 ⟨none,none,.st 1 (.t 43) (.t 42)⟩])
 (.reg 11 none [1,2,7,8] [
 ⟨some 44,none,.mv (.t 1)⟩,
 ⟨some 45,none,.fa 0 (.t 2)⟩,
 ⟨some 46,none,.ld none (.t 45)⟩,
 ⟨some 47,none,.mv (.t 8)⟩,
 ⟨some 48,none,.ixL 1 (.t 46) (.t 47)⟩,
 ⟨some 49,none,.ld none (.t 48)⟩,
 ⟨some 50,none,.bin .quo false (.t 44) (.t 49)⟩,
 ⟨some 1,none,.mv (.t 50)⟩])))
 (.reg 9 none [1,2,7,8] [
 ⟨some 32,none,.mv (.t 8)⟩,
 ⟨some 33,none,.bin .sub false (.t 32) (.k (.v (.int .i64 1)))⟩,
 ⟨some 8,none,.mv (.t 33)⟩]))))))
 (.seq
 (.reg 12 none [4,5] [
 ⟨some 51,none,.mv (.t 7)⟩,
 ⟨some 4,none,.mv (.t 51)⟩,
 ⟨some 5,none,.mv (.k (.v (.int .i64 0)))⟩])
 .ret))))))
theorem fn_ref28_At:FnIR Tryd.prog F_ref28_At 52 [(0,[1,2]),(1,[1,2,6]),(2,[1,2,6,12]),(3,[4,5]),(4,[1,2,21]),(5,[4,5]),(6,[1,2,7]),(7,[1,2,7,8]),(8,[1,2,7,8,31]),(9,[1,2,7,8]),(10,[1,2,7,8]),(11,[1,2,7,8]),(12,[4,5])] ir_ref28_At [(.tmp 4),(.tmp 5)]:=
 ⟨Tryd.f65,_,Tryd.func65,rfl,by kernel_rfl,rfl,by kernel_rfl,by kernel_rfl⟩
def ir_cells_numbered:RC:=
 (.seq
 (.reg 0 none [0] [
 ⟨some 2,none,.mv (.k (.v (.bool false)))⟩])
 (.seq
 (.reg 1 none [0,3] [
 ⟨some 3,none,.mv (.k (.v (.int .i64 0)))⟩])
 (.seq
 (.seq
 (.reg 2 none [3,6,7,8] [
 ⟨some 6,none,.mv (.t 0)⟩,
 ⟨some 7,none,.lenL (.t 6)⟩,
 ⟨some 8,none,.mv (.k (.v (.int .i64 0)))⟩])
 (.block 0
 (.loop
 (.seq
 (.reg 3 none [3,6,7,8,9] [
 ⟨some 9,none,.bin .lss false (.t 8) (.t 7)⟩])
 (.seq
 (.cond (.t 9)
 .skip
 (.exit 0))
 (.seq
 (.block 1
 (.seq
 (.reg 4 none [3,5,6,7,8] [
 ⟨some 10,none,.ixL 1 (.t 6) (.t 8)⟩,
 ⟨some 11,none,.ld none (.t 10)⟩,
 ⟨some 5,none,.mv (.t 11)⟩])
 (.seq
 (.seq
 (.reg 5 none [3,5,6,7,8,18] [
 ⟨some 12,none,.mv (.t 5)⟩,
 ⟨some 13,none,.bin .lss false (.t 12) (.k (.v (.int .i64 (-1))))⟩,
 ⟨some 14,none,.mv (.t 13)⟩,
 ⟨some 15,some (14,false),.mv (.t 5)⟩,
 ⟨some 16,some (14,false),.mv (.t 3)⟩,
 ⟨some 17,some (14,false),.bin .gtr false (.t 15) (.t 16)⟩,
 ⟨some 18,none,.pick (.t 14) (.k (.v (.bool true))) (.t 17)⟩])
 (.cond (.t 18)
 (.seq
 (.reg 6 none [2] [
 ⟨some 2,none,.mv (.k (.v (.bool false)))⟩])
 .ret)
 .skip))
 (.seq
 (.reg 7 none [3,6,7,8,21] [
 ⟨some 19,none,.mv (.t 5)⟩,
 ⟨some 20,none,.mv (.t 3)⟩,
 ⟨some 21,none,.bin .eql false (.t 19) (.t 20)⟩])
 (.cond (.t 21)
 (.reg 8 none [3,6,7,8] [
 ⟨some 22,none,.mv (.t 3)⟩,
 ⟨some 23,none,.bin .add false (.t 22) (.k (.v (.int .i64 1)))⟩,
 ⟨some 3,none,.mv (.t 23)⟩])
 .skip)))))
 (.reg 9 none [3,6,7,8] [
 ⟨some 24,none,.bin .add false (.t 8) (.k (.v (.int .i64 1)))⟩,
 ⟨some 8,none,.mv (.t 24)⟩])))))))
 (.seq
 (.reg 10 none [2] [
 ⟨some 25,none,.mv (.t 3)⟩,
 ⟨some 26,none,.bin .gtr false (.t 25) (.k (.v (.int .i64 0)))⟩,
 ⟨some 2,none,.mv (.t 26)⟩])
 .ret))))
theorem fn_cells_numbered:FnIR Tryd.prog F_cells_numbered 27 [(0,[0]),(1,[0,3]),(2,[3,6,7,8]),(3,[3,6,7,8,9]),(4,[3,5,6,7,8]),(5,[3,5,6,7,8,18]),(6,[2]),(7,[3,6,7,8,21]),(8,[3,6,7,8]),(9,[3,6,7,8]),(10,[2])] ir_cells_numbered [(.tmp 2)]:=
 ⟨Tryd.f66,_,Tryd.func66,rfl,by kernel_rfl,rfl,by kernel_rfl,by kernel_rfl⟩
def ir_internal_strconv_AppendInt:RC:=
 (.seq
 (.reg 0 none [0,1,2] [
 ⟨some 6,none,.mv (.k (.v (.slice none 0 0)))⟩])
 (.seq
 (.reg 1 none [0,1,2,7] [
 ⟨some 8,none,.mv (.t 1)⟩,
 ⟨some 9,none,.cvI .u64 (.t 8)⟩,
 ⟨some 7,none,.mv (.t 9)⟩])
 (.seq
 (.seq
 (.reg 2 none [0,2,7,11] [
 ⟨some 10,none,.mv (.t 1)⟩,
 ⟨some 11,none,.bin .lss false (.t 10) (.k (.v (.int .i64 0)))⟩])
 (.cond (.t 11)
 (.seq
 (.reg 3 none [0,2,7] [
 ⟨some 12,none,.mv (.t 0)⟩,
 ⟨some 13,none,.bsl 1 1 [.k (.v (.int .u8 45))]⟩,
 ⟨some 14,none,.app 1 1 false (.t 12) (.t 13)⟩,
 ⟨some 0,none,.mv (.t 14)⟩])
 (.reg 4 none [0,2,7] [
 ⟨some 15,none,.mv (.t 7)⟩,
 ⟨some 16,none,.un .neg (.t 15)⟩,
 ⟨some 7,none,.mv (.t 16)⟩]))
 .skip))
 (.seq
 (.reg 5 none [6] [
 ⟨some 17,none,.mv (.t 0)⟩,
 ⟨some 18,none,.mv (.t 7)⟩,
 ⟨some 19,none,.mv (.t 2)⟩,
 ⟨some 20,none,.call (.k (.clo F_internal_strconv_AppendUint [])) [.t 17,.t 18,.t 19]⟩,
 ⟨some 6,none,.mv (.t 20)⟩])
 .ret))))
theorem fn_internal_strconv_AppendInt:FnIR Tryd.prog F_internal_strconv_AppendInt 21 [(0,[0,1,2]),(1,[0,1,2,7]),(2,[0,2,7,11]),(3,[0,2,7]),(4,[0,2,7]),(5,[6])] ir_internal_strconv_AppendInt [(.tmp 6)]:=
 ⟨Tryd.f67,_,Tryd.func67,rfl,by kernel_rfl,rfl,by kernel_rfl,by kernel_rfl⟩
def ir_slices_insertionSortOrdered_int:RC:=
 (.seq
 (.reg 0 none [0,1,2,6] [
 ⟨some 8,none,.mv (.t 1)⟩,
 ⟨some 9,none,.bin .add false (.t 8) (.k (.v (.int .i64 1)))⟩,
 ⟨some 6,none,.mv (.t 9)⟩])
 (.block 0
 (.loop
 (.seq
 (.seq
 (.reg 1 none [0,1,2,6,12] [
 ⟨some 10,none,.mv (.t 6)⟩,
 ⟨some 11,none,.mv (.t 2)⟩,
 ⟨some 12,none,.bin .lss false (.t 10) (.t 11)⟩])
 (.cond (.t 12)
 .skip
 (.exit 0)))
 (.seq
 (.block 1
 (.seq
 (.reg 3 none [0,1,2,6,7] [
 ⟨some 15,none,.mv (.t 6)⟩,
 ⟨some 7,none,.mv (.t 15)⟩])
 (.block 2
 (.loop
 (.seq
 (.seq
 (.reg 4 (some [0,0,3,7,15,15,63,127,15,15,527,1807,3855,8191,16383]) [0,1,2,6,7,30] [
 ⟨some 16,none,.mv (.t 7)⟩,
 ⟨some 17,none,.mv (.t 1)⟩,
 ⟨some 18,none,.bin .gtr false (.t 16) (.t 17)⟩,
 ⟨some 19,none,.mv (.t 18)⟩,
 ⟨some 20,some (19,true),.mv (.t 0)⟩,
 ⟨some 21,some (19,true),.mv (.t 7)⟩,
 ⟨some 22,some (19,true),.ixL 1 (.t 20) (.t 21)⟩,
 ⟨some 23,some (19,true),.ld none (.t 22)⟩,
 ⟨some 24,some (19,true),.mv (.t 0)⟩,
 ⟨some 25,some (19,true),.mv (.t 7)⟩,
 ⟨some 26,some (19,true),.bin .sub false (.t 25) (.k (.v (.int .i64 1)))⟩,
 ⟨some 27,some (19,true),.ixL 1 (.t 24) (.t 26)⟩,
 ⟨some 28,some (19,true),.ld none (.t 27)⟩,
 ⟨some 29,some (19,true),.call (.k (.clo F_cmp_Less_int [])) [.t 23,.t 28]⟩,
 ⟨some 30,none,.pick (.t 19) (.t 29) (.k (.v (.bool false)))⟩])
 (.cond (.t 30)
 .skip
 (.exit 2)))
 (.seq
 (.block 3
 (.reg 6 (some [0,0,0,0,8,0,0,64,224,480,0,0,3072,7168,16355,32739,65535,131071]) [0,1,2,6,7] [
 ⟨some 33,none,.mv (.t 0)⟩,
 ⟨some 34,none,.mv (.t 7)⟩,
 ⟨some 35,none,.mv (.t 0)⟩,
 ⟨some 36,none,.mv (.t 7)⟩,
 ⟨some 37,none,.bin .sub false (.t 36) (.k (.v (.int .i64 1)))⟩,
 ⟨some 38,none,.mv (.t 0)⟩,
 ⟨some 39,none,.mv (.t 7)⟩,
 ⟨some 40,none,.bin .sub false (.t 39) (.k (.v (.int .i64 1)))⟩,
 ⟨some 41,none,.ixL 1 (.t 38) (.t 40)⟩,
 ⟨some 42,none,.ld none (.t 41)⟩,
 ⟨some 43,none,.mv (.t 0)⟩,
 ⟨some 44,none,.mv (.t 7)⟩,
 ⟨some 45,none,.ixL 1 (.t 43) (.t 44)⟩,
 ⟨some 46,none,.ld none (.t 45)⟩,
 ⟨some 47,none,.ixL 1 (.t 33) (.t 34)⟩,
 ⟨none,none,.st 1 (.t 47) (.t 42)⟩,
 ⟨some 48,none,.ixL 1 (.t 35) (.t 37)⟩,
 ⟨none,none,.st 1 (.t 48) (.t 46)⟩]))
 (.reg 5 none [0,1,2,6,7] [
 ⟨some 31,none,.mv (.t 7)⟩,
 ⟨some 32,none,.bin .sub false (.t 31) (.k (.v (.int .i64 1)))⟩,
 ⟨some 7,none,.mv (.t 32)⟩])))))))
 (.reg 2 none [0,1,2,6] [
 ⟨some 13,none,.mv (.t 6)⟩,
 ⟨some 14,none,.bin .add false (.t 13) (.k (.v (.int .i64 1)))⟩,
 ⟨some 6,none,.mv (.t 14)⟩]))))))
theorem fn_slices_insertionSortOrdered_int:FnIR Tryd.prog F_slices_insertionSortOrdered_int 49 [(0,[0,1,2,6]),(1,[0,1,2,6,12]),(2,[0,1,2,6]),(3,[0,1,2,6,7]),(4,[0,1,2,6,7,30]),(5,[0,1,2,6,7]),(6,[0,1,2,6,7])] ir_slices_insertionSortOrdered_int []:=
 ⟨Tryd.f68,_,Tryd.func68,rfl,by kernel_rfl,rfl,by kernel_rfl,by kernel_rfl⟩
def ir_slices_heapSortOrdered_int:RC:=
 (.seq
 (.reg 0 none [0,1,2,6] [
 ⟨some 11,none,.mv (.t 1)⟩,
 ⟨some 6,none,.mv (.t 11)⟩])
 (.seq
 (.reg 1 none [0,1,2,6,7] [
 ⟨some 7,none,.mv (.k (.v (.int .i64 0)))⟩])
 (.seq
 (.reg 2 none [0,6,7,8] [
 ⟨some 12,none,.mv (.t 2)⟩,
 ⟨some 13,none,.mv (.t 1)⟩,
 ⟨some 14,none,.bin .sub false (.t 12) (.t 13)⟩,
 ⟨some 8,none,.mv (.t 14)⟩])
 (.seq
 (.seq
 (.reg 3 none [0,6,7,8,9] [
 ⟨some 15,none,.mv (.t 8)⟩,
 ⟨some 16,none,.bin .sub false (.t 15) (.k (.v (.int .i64 1)))⟩,
 ⟨some 17,none,.bin .quo false (.t 16) (.k (.v (.int .i64 2)))⟩,
 ⟨some 9,none,.mv (.t 17)⟩])
 (.block 0
 (.loop
 (.seq
 (.seq
 (.reg 4 none [0,6,7,8,9,19] [
 ⟨some 18,none,.mv (.t 9)⟩,
 ⟨some 19,none,.bin .geq false (.t 18) (.k (.v (.int .i64 0)))⟩])
 (.cond (.t 19)
 .skip
 (.exit 0)))
 (.seq
 (.block 1
 (.reg 6 none [0,6,7,8,9] [
 ⟨some 22,none,.mv (.t 0)⟩,
 ⟨some 23,none,.mv (.t 9)⟩,
 ⟨some 24,none,.mv (.t 8)⟩,
 ⟨some 25,none,.mv (.t 6)⟩,
 ⟨some 26,none,.call (.k (.clo F_slices_siftDownOrdered_int [])) [.t 22,.t 23,.t 24,.t 25]⟩]))
 (.reg 5 none [0,6,7,8,9] [
 ⟨some 20,none,.mv (.t 9)⟩,
 ⟨some 21,none,.bin .sub false (.t 20) (.k (.v (.int .i64 1)))⟩,
 ⟨some 9,none,.mv (.t 21)⟩]))))))
 (.seq
 (.reg 7 none [0,6,7,10] [
 ⟨some 27,none,.mv (.t 8)⟩,
 ⟨some 28,none,.bin .sub false (.t 27) (.k (.v (.int .i64 1)))⟩,
 ⟨some 10,none,.mv (.t 28)⟩])
 (.block 2
 (.loop
 (.seq
 (.seq
 (.reg 8 none [0,6,7,10,30] [
 ⟨some 29,none,.mv (.t 10)⟩,
 ⟨some 30,none,.bin .geq false (.t 29) (.k (.v (.int .i64 0)))⟩])
 (.cond (.t 30)
 .skip
 (.exit 2)))
 (.seq
 (.block 3
 (.seq
 (.reg 10 (some [0,0,0,0,0,24,0,0,0,384,960,1984,0,0,12288,28672,65475,131011,262143,524287]) [0,6,7,10] [
 ⟨some 33,none,.mv (.t 0)⟩,
 ⟨some 34,none,.mv (.t 6)⟩,
 ⟨some 35,none,.mv (.t 0)⟩,
 ⟨some 36,none,.mv (.t 6)⟩,
 ⟨some 37,none,.mv (.t 10)⟩,
 ⟨some 38,none,.bin .add false (.t 36) (.t 37)⟩,
 ⟨some 39,none,.mv (.t 0)⟩,
 ⟨some 40,none,.mv (.t 6)⟩,
 ⟨some 41,none,.mv (.t 10)⟩,
 ⟨some 42,none,.bin .add false (.t 40) (.t 41)⟩,
 ⟨some 43,none,.ixL 1 (.t 39) (.t 42)⟩,
 ⟨some 44,none,.ld none (.t 43)⟩,
 ⟨some 45,none,.mv (.t 0)⟩,
 ⟨some 46,none,.mv (.t 6)⟩,
 ⟨some 47,none,.ixL 1 (.t 45) (.t 46)⟩,
 ⟨some 48,none,.ld none (.t 47)⟩,
 ⟨some 49,none,.ixL 1 (.t 33) (.t 34)⟩,
 ⟨none,none,.st 1 (.t 49) (.t 44)⟩,
 ⟨some 50,none,.ixL 1 (.t 35) (.t 38)⟩,
 ⟨none,none,.st 1 (.t 50) (.t 48)⟩])
 (.reg 11 none [0,6,7,10] [
 ⟨some 51,none,.mv (.t 0)⟩,
 ⟨some 52,none,.mv (.t 7)⟩,
 ⟨some 53,none,.mv (.t 10)⟩,
 ⟨some 54,none,.mv (.t 6)⟩,
 ⟨some 55,none,.call (.k (.clo F_slices_siftDownOrdered_int [])) [.t 51,.t 52,.t 53,.t 54]⟩])))
 (.reg 9 none [0,6,7,10] [
 ⟨some 31,none,.mv (.t 10)⟩,
 ⟨some 32,none,.bin .sub false (.t 31) (.k (.v (.int .i64 1)))⟩,
 ⟨some 10,none,.mv (.t 32)⟩]))))))))))
theorem fn_slices_heapSortOrdered_int:FnIR Tryd.prog F_slices_heapSortOrdered_int 56 [(0,[0,1,2,6]),(1,[0,1,2,6,7]),(2,[0,6,7,8]),(3,[0,6,7,8,9]),(4,[0,6,7,8,9,19]),(5,[0,6,7,8,9]),(6,[0,6,7,8,9]),(7,[0,6,7,10]),(8,[0,6,7,10,30]),(9,[0,6,7,10]),(10,[0,6,7,10]),(11,[0,6,7,10])] ir_slices_heapSortOrdered_int []:=
 ⟨Tryd.f69,_,Tryd.func69,rfl,by kernel_rfl,rfl,by kernel_rfl,by kernel_rfl⟩
def ir_slices_breakPatternsOrdered_int:RC:=
 (.seq
 (.reg 0 none [0,1,6] [
 ⟨some 11,none,.mv (.t 2)⟩,
 ⟨some 12,none,.mv (.t 1)⟩,
 ⟨some 13,none,.bin .sub false (.t 11) (.t 12)⟩,
 ⟨some 6,none,.mv (.t 13)⟩])
 (.seq
 (.reg 1 none [0,1,6,15] [
 ⟨some 14,none,.mv (.t 6)⟩,
 ⟨some 15,none,.bin .geq false (.t 14) (.k (.v (.int .i64 8)))⟩])
 (.cond (.t 15)
 (.seq
 (.reg 2 none [0,1,6,7] [
 ⟨some 16,none,.mv (.t 6)⟩,
 ⟨some 17,none,.cvI .u64 (.t 16)⟩,
 ⟨some 7,none,.new (.v (.int .u64 0))⟩,
 ⟨none,none,.st 1 (.t 7) (.t 17)⟩])
 (.seq
 (.reg 3 none [0,1,6,7,8] [
 ⟨some 18,none,.mv (.t 6)⟩,
 ⟨some 19,none,.call (.k (.clo F_slices_nextPowerOfTwo [])) [.t 18]⟩,
 ⟨some 8,none,.mv (.t 19)⟩])
 (.seq
 (.reg 4 none [0,1,6,7,8,9] [
 ⟨some 20,none,.mv (.t 1)⟩,
 ⟨some 21,none,.mv (.t 6)⟩,
 ⟨some 22,none,.bin .quo false (.t 21) (.k (.v (.int .i64 4)))⟩,
 ⟨some 23,none,.bin .mul false (.t 22) (.k (.v (.int .i64 2)))⟩,
 ⟨some 24,none,.bin .add false (.t 20) (.t 23)⟩,
 ⟨some 25,none,.bin .sub false (.t 24) (.k (.v (.int .i64 1)))⟩,
 ⟨some 9,none,.mv (.t 25)⟩])
 (.block 0
 (.loop
 (.seq
 (.seq
 (.reg 5 none [0,1,6,7,8,9,33] [
 ⟨some 26,none,.mv (.t 9)⟩,
 ⟨some 27,none,.mv (.t 1)⟩,
 ⟨some 28,none,.mv (.t 6)⟩,
 ⟨some 29,none,.bin .quo false (.t 28) (.k (.v (.int .i64 4)))⟩,
 ⟨some 30,none,.bin .mul false (.t 29) (.k (.v (.int .i64 2)))⟩,
 ⟨some 31,none,.bin .add false (.t 27) (.t 30)⟩,
 ⟨some 32,none,.bin .add false (.t 31) (.k (.v (.int .i64 1)))⟩,
 ⟨some 33,none,.bin .leq false (.t 26) (.t 32)⟩])
 (.cond (.t 33)
 .skip
 (.exit 0)))
 (.seq
 (.block 1
 (.seq
 (.reg 7 none [0,1,6,7,8,9,10] [
 ⟨some 36,none,.call (.k (.clo F_slices_xorshift_Next [])) [.t 7]⟩,
 ⟨some 37,none,.mv (.t 8)⟩,
 ⟨some 38,none,.bin .sub false (.t 37) (.k (.v (.int .u64 1)))⟩,
 ⟨some 39,none,.bin .and false (.t 36) (.t 38)⟩,
 ⟨some 40,none,.cvI .i64 (.t 39)⟩,
 ⟨some 10,none,.mv (.t 40)⟩])
 (.seq
 (.seq
 (.reg 8 none [0,1,6,7,8,9,10,43] [
 ⟨some 41,none,.mv (.t 10)⟩,
 ⟨some 42,none,.mv (.t 6)⟩,
 ⟨some 43,none,.bin .geq false (.t 41) (.t 42)⟩])
 (.cond (.t 43)
 (.reg 9 none [0,1,6,7,8,9,10] [
 ⟨some 44,none,.mv (.t 10)⟩,
 ⟨some 45,none,.mv (.t 6)⟩,
 ⟨some 46,none,.bin .sub false (.t 44) (.t 45)⟩,
 ⟨some 10,none,.mv (.t 46)⟩])
 .skip))
 (.reg 10 (some [0,0,0,0,0,24,0,0,0,384,960,1984,0,0,12288,28672,65475,131011,262143,524287]) [0,1,6,7,8,9] [
 ⟨some 47,none,.mv (.t 0)⟩,
 ⟨some 48,none,.mv (.t 9)⟩,
 ⟨some 49,none,.mv (.t 0)⟩,
 ⟨some 50,none,.mv (.t 1)⟩,
 ⟨some 51,none,.mv (.t 10)⟩,
 ⟨some 52,none,.bin .add false (.t 50) (.t 51)⟩,
 ⟨some 53,none,.mv (.t 0)⟩,
 ⟨some 54,none,.mv (.t 1)⟩,
 ⟨some 55,none,.mv (.t 10)⟩,
 ⟨some 56,none,.bin .add false (.t 54) (.t 55)⟩,
 ⟨some 57,none,.ixL 1 (.t 53) (.t 56)⟩,
 ⟨some 58,none,.ld none (.t 57)⟩,
 ⟨some 59,none,.mv (.t 0)⟩,
 ⟨some 60,none,.mv (.t 9)⟩,
 ⟨some 61,none,.ixL 1 (.t 59) (.t 60)⟩,
 ⟨some 62,none,.ld none (.t 61)⟩,
 ⟨some 63,none,.ixL 1 (.t 47) (.t 48)⟩,
 ⟨none,none,.st 1 (.t 63) (.t 58)⟩,
 ⟨some 64,none,.ixL 1 (.t 49) (.t 52)⟩,
 ⟨none,none,.st 1 (.t 64) (.t 62)⟩]))))
 (.reg 6 none [0,1,6,7,8,9] [
 ⟨some 34,none,.mv (.t 9)⟩,
 ⟨some 35,none,.bin .add false (.t 34) (.k (.v (.int .i64 1)))⟩,
 ⟨some 9,none,.mv (.t 35)⟩]))))))))
 .skip)))
theorem fn_slices_breakPatternsOrdered_int:FnIR Tryd.prog F_slices_breakPatternsOrdered_int 65 [(0,[0,1,6]),(1,[0,1,6,15]),(2,[0,1,6,7]),(3,[0,1,6,7,8]),(4,[0,1,6,7,8,9]),(5,[0,1,6,7,8,9,33]),(6,[0,1,6,7,8,9]),(7,[0,1,6,7,8,9,10]),(8,[0,1,6,7,8,9,10,43]),(9,[0,1,6,7,8,9,10]),(10,[0,1,6,7,8,9])] ir_slices_breakPatternsOrdered_int []:=
 ⟨Tryd.f70,_,Tryd.func70,rfl,by kernel_rfl,rfl,by kernel_rfl,by kernel_rfl⟩
def ir_slices_choosePivotOrdered_int:RC:=
 (.seq
 (.reg 0 none [0,1,2] [
 ⟨some 6,none,.mv (.k (.v (.int .i64 0)))⟩,
 ⟨some 7,none,.mv (.k (.v (.int .i64 0)))⟩])
 (.seq
 (.reg 1 none [0,1,8] [
 ⟨some 13,none,.mv (.t 2)⟩,
 ⟨some 14,none,.mv (.t 1)⟩,
 ⟨some 15,none,.bin .sub false (.t 13) (.t 14)⟩,
 ⟨some 8,none,.mv (.t 15)⟩])
 (.seq
 (.reg 2 none [0,1,8,9] [
 ⟨some 9,none,.new (.v (.int .i64 0))⟩])
 (.seq
 (.reg 3 none [0,1,8,9,10] [
 ⟨some 16,none,.mv (.t 1)⟩,
 ⟨some 17,none,.mv (.t 8)⟩,
 ⟨some 18,none,.bin .quo false (.t 17) (.k (.v (.int .i64 4)))⟩,
 ⟨some 19,none,.bin .mul false (.t 18) (.k (.v (.int .i64 1)))⟩,
 ⟨some 20,none,.bin .add false (.t 16) (.t 19)⟩,
 ⟨some 10,none,.mv (.t 20)⟩])
 (.seq
 (.reg 4 none [0,1,8,9,10,11] [
 ⟨some 21,none,.mv (.t 1)⟩,
 ⟨some 22,none,.mv (.t 8)⟩,
 ⟨some 23,none,.bin .quo false (.t 22) (.k (.v (.int .i64 4)))⟩,
 ⟨some 24,none,.bin .mul false (.t 23) (.k (.v (.int .i64 2)))⟩,
 ⟨some 25,none,.bin .add false (.t 21) (.t 24)⟩,
 ⟨some 11,none,.mv (.t 25)⟩])
 (.seq
 (.reg 5 none [0,8,9,10,11,12] [
 ⟨some 26,none,.mv (.t 1)⟩,
 ⟨some 27,none,.mv (.t 8)⟩,
 ⟨some 28,none,.bin .quo false (.t 27) (.k (.v (.int .i64 4)))⟩,
 ⟨some 29,none,.bin .mul false (.t 28) (.k (.v (.int .i64 3)))⟩,
 ⟨some 30,none,.bin .add false (.t 26) (.t 29)⟩,
 ⟨some 12,none,.mv (.t 30)⟩])
 (.seq
 (.seq
 (.reg 6 none [0,8,9,10,11,12,32] [
 ⟨some 31,none,.mv (.t 8)⟩,
 ⟨some 32,none,.bin .geq false (.t 31) (.k (.v (.int .i64 8)))⟩])
 (.cond (.t 32)
 (.seq
 (.seq
 (.reg 7 none [0,9,10,11,12,34] [
 ⟨some 33,none,.mv (.t 8)⟩,
 ⟨some 34,none,.bin .geq false (.t 33) (.k (.v (.int .i64 50)))⟩])
 (.cond (.t 34)
 (.seq
 (.reg 8 none [0,9,10,11,12] [
 ⟨some 35,none,.mv (.t 0)⟩,
 ⟨some 36,none,.mv (.t 10)⟩,
 ⟨some 37,none,.call (.k (.clo F_slices_medianAdjacentOrdered_int [])) [.t 35,.t 36,.t 9]⟩,
 ⟨some 10,none,.mv (.t 37)⟩])
 (.seq
 (.reg 9 none [0,9,10,11,12] [
 ⟨some 38,none,.mv (.t 0)⟩,
 ⟨some 39,none,.mv (.t 11)⟩,
 ⟨some 40,none,.call (.k (.clo F_slices_medianAdjacentOrdered_int [])) [.t 38,.t 39,.t 9]⟩,
 ⟨some 11,none,.mv (.t 40)⟩])
 (.reg 10 none [0,9,10,11,12] [
 ⟨some 41,none,.mv (.t 0)⟩,
 ⟨some 42,none,.mv (.t 12)⟩,
 ⟨some 43,none,.call (.k (.clo F_slices_medianAdjacentOrdered_int [])) [.t 41,.t 42,.t 9]⟩,
 ⟨some 12,none,.mv (.t 43)⟩])))
 .skip))
 (.reg 11 none [9,11] [
 ⟨some 44,none,.mv (.t 0)⟩,
 ⟨some 45,none,.mv (.t 10)⟩,
 ⟨some 46,none,.mv (.t 11)⟩,
 ⟨some 47,none,.mv (.t 12)⟩,
 ⟨some 48,none,.call (.k (.clo F_slices_medianOrdered_int [])) [.t 44,.t 45,.t 46,.t 47,.t 9]⟩,
 ⟨some 11,none,.mv (.t 48)⟩]))
 .skip))
 (.seq
 (.reg 12 none [11,49] [
 ⟨some 49,none,.ld none (.t 9)⟩])
 (.block 0
 (.seq
 (.reg 14 none [11,49,51] [
 ⟨some 52,none,.bin .eql false (.t 49) (.k (.v (.int .i64 0)))⟩,
 ⟨some 51,none,.mv (.t 52)⟩])
 (.cond (.t 51)
 (.seq
 (.reg 15 none [6,7] [
 ⟨some 53,none,.mv (.t 11)⟩,
 ⟨some 6,none,.mv (.t 53)⟩,
 ⟨some 7,none,.mv (.k (.v (.int .i64 1)))⟩])
 .ret)
 (.seq
 (.reg 16 none [11,54] [
 ⟨some 55,none,.bin .eql false (.t 49) (.k (.v (.int .i64 12)))⟩,
 ⟨some 54,none,.mv (.t 55)⟩])
 (.cond (.t 54)
 (.seq
 (.reg 17 none [6,7] [
 ⟨some 56,none,.mv (.t 11)⟩,
 ⟨some 6,none,.mv (.t 56)⟩,
 ⟨some 7,none,.mv (.k (.v (.int .i64 2)))⟩])
 .ret)
 (.seq
 (.reg 13 none [6,7] [
 ⟨some 50,none,.mv (.t 11)⟩,
 ⟨some 6,none,.mv (.t 50)⟩,
 ⟨some 7,none,.mv (.k (.v (.int .i64 0)))⟩])
 .ret))))))))))))))
theorem fn_slices_choosePivotOrdered_int:FnIR Tryd.prog F_slices_choosePivotOrdered_int 57 [(0,[0,1,2]),(1,[0,1,8]),(2,[0,1,8,9]),(3,[0,1,8,9,10]),(4,[0,1,8,9,10,11]),(5,[0,8,9,10,11,12]),(6,[0,8,9,10,11,12,32]),(7,[0,9,10,11,12,34]),(8,[0,9,10,11,12]),(9,[0,9,10,11,12]),(10,[0,9,10,11,12]),(11,[9,11]),(12,[11,49]),(13,[6,7]),(14,[11,49,51]),(15,[6,7]),(16,[11,54]),(17,[6,7])] ir_slices_choosePivotOrdered_int [(.tmp 6),(.tmp 7)]:=
 ⟨Tryd.f71,_,Tryd.func71,rfl,by kernel_rfl,rfl,by kernel_rfl,by kernel_rfl⟩
def ir_slices_reverseRangeOrdered_int:RC:=
 (.seq
 (.reg 0 none [0,2,6] [
 ⟨some 8,none,.mv (.t 1)⟩,
 ⟨some 6,none,.mv (.t 8)⟩])
 (.seq
 (.reg 1 none [0,6,7] [
 ⟨some 9,none,.mv (.t 2)⟩,
 ⟨some 10,none,.bin .sub false (.t 9) (.k (.v (.int .i64 1)))⟩,
 ⟨some 7,none,.mv (.t 10)⟩])
 (.block 0
 (.loop
 (.seq
 (.seq
 (.reg 2 none [0,6,7,13] [
 ⟨some 11,none,.mv (.t 6)⟩,
 ⟨some 12,none,.mv (.t 7)⟩,
 ⟨some 13,none,.bin .lss false (.t 11) (.t 12)⟩])
 (.cond (.t 13)
 .skip
 (.exit 0)))
 (.block 1
 (.seq
 (.reg 3 (some [0,0,0,0,0,0,48,112,0,0,768,1792,4083,8179,16383,32767]) [0,6,7] [
 ⟨some 14,none,.mv (.t 0)⟩,
 ⟨some 15,none,.mv (.t 6)⟩,
 ⟨some 16,none,.mv (.t 0)⟩,
 ⟨some 17,none,.mv (.t 7)⟩,
 ⟨some 18,none,.mv (.t 0)⟩,
 ⟨some 19,none,.mv (.t 7)⟩,
 ⟨some 20,none,.ixL 1 (.t 18) (.t 19)⟩,
 ⟨some 21,none,.ld none (.t 20)⟩,
 ⟨some 22,none,.mv (.t 0)⟩,
 ⟨some 23,none,.mv (.t 6)⟩,
 ⟨some 24,none,.ixL 1 (.t 22) (.t 23)⟩,
 ⟨some 25,none,.ld none (.t 24)⟩,
 ⟨some 26,none,.ixL 1 (.t 14) (.t 15)⟩,
 ⟨none,none,.st 1 (.t 26) (.t 21)⟩,
 ⟨some 27,none,.ixL 1 (.t 16) (.t 17)⟩,
 ⟨none,none,.st 1 (.t 27) (.t 25)⟩])
 (.seq
 (.reg 4 none [0,6,7] [
 ⟨some 28,none,.mv (.t 6)⟩,
 ⟨some 29,none,.bin .add false (.t 28) (.k (.v (.int .i64 1)))⟩,
 ⟨some 6,none,.mv (.t 29)⟩])
 (.reg 5 none [0,6,7] [
 ⟨some 30,none,.mv (.t 7)⟩,
 ⟨some 31,none,.bin .sub false (.t 30) (.k (.v (.int .i64 1)))⟩,
 ⟨some 7,none,.mv (.t 31)⟩])))))))))
theorem fn_slices_reverseRangeOrdered_int:FnIR Tryd.prog F_slices_reverseRangeOrdered_int 32 [(0,[0,2,6]),(1,[0,6,7]),(2,[0,6,7,13]),(3,[0,6,7]),(4,[0,6,7]),(5,[0,6,7])] ir_slices_reverseRangeOrdered_int []:=
 ⟨Tryd.f72,_,Tryd.func72,rfl,by kernel_rfl,rfl,by kernel_rfl,by kernel_rfl⟩
def ir_slices_partialInsertionSortOrdered_int:RC:=
 (.seq
 (.reg 0 none [0,1,2] [
 ⟨some 6,none,.mv (.k (.v (.bool false)))⟩])
 (.seq
 (.reg 1 none [0,1,2,7] [
 ⟨some 11,none,.mv (.t 1)⟩,
 ⟨some 12,none,.bin .add false (.t 11) (.k (.v (.int .i64 1)))⟩,
 ⟨some 7,none,.mv (.t 12)⟩])
 (.seq
 (.seq
 (.reg 2 none [0,1,2,7,8] [
 ⟨some 8,none,.mv (.k (.v (.int .i64 0)))⟩])
 (.block 0
 (.loop
 (.seq
 (.seq
 (.reg 3 none [0,1,2,7,8,14] [
 ⟨some 13,none,.mv (.t 8)⟩,
 ⟨some 14,none,.bin .lss false (.t 13) (.k (.v (.int .i64 5)))⟩])
 (.cond (.t 14)
 .skip
 (.exit 0)))
 (.seq
 (.block 1
 (.seq
 (.block 2
 (.loop
 (.seq
 (.seq
 (.reg 5 (some [0,0,3,7,15,15,63,127,15,15,527,1807,3855,8191,16383,32767]) [0,1,2,7,8,32] [
 ⟨some 17,none,.mv (.t 7)⟩,
 ⟨some 18,none,.mv (.t 2)⟩,
 ⟨some 19,none,.bin .lss false (.t 17) (.t 18)⟩,
 ⟨some 20,none,.mv (.t 19)⟩,
 ⟨some 21,some (20,true),.mv (.t 0)⟩,
 ⟨some 22,some (20,true),.mv (.t 7)⟩,
 ⟨some 23,some (20,true),.ixL 1 (.t 21) (.t 22)⟩,
 ⟨some 24,some (20,true),.ld none (.t 23)⟩,
 ⟨some 25,some (20,true),.mv (.t 0)⟩,
 ⟨some 26,some (20,true),.mv (.t 7)⟩,
 ⟨some 27,some (20,true),.bin .sub false (.t 26) (.k (.v (.int .i64 1)))⟩,
 ⟨some 28,some (20,true),.ixL 1 (.t 25) (.t 27)⟩,
 ⟨some 29,some (20,true),.ld none (.t 28)⟩,
 ⟨some 30,some (20,true),.call (.k (.clo F_cmp_Less_int [])) [.t 24,.t 29]⟩,
 ⟨some 31,some (20,true),.un .not (.t 30)⟩,
 ⟨some 32,none,.pick (.t 20) (.t 31) (.k (.v (.bool false)))⟩])
 (.cond (.t 32)
 .skip
 (.exit 2)))
 (.block 3
 (.reg 6 none [0,1,2,7,8] [
 ⟨some 33,none,.mv (.t 7)⟩,
 ⟨some 34,none,.bin .add false (.t 33) (.k (.v (.int .i64 1)))⟩,
 ⟨some 7,none,.mv (.t 34)⟩])))))
 (.seq
 (.seq
 (.reg 7 none [0,1,2,7,8,37] [
 ⟨some 35,none,.mv (.t 7)⟩,
 ⟨some 36,none,.mv (.t 2)⟩,
 ⟨some 37,none,.bin .eql false (.t 35) (.t 36)⟩])
 (.cond (.t 37)
 (.seq
 (.reg 8 none [6] [
 ⟨some 6,none,.mv (.k (.v (.bool true)))⟩])
 .ret)
 .skip))
 (.seq
 (.seq
 (.reg 9 none [0,1,2,7,8,41] [
 ⟨some 38,none,.mv (.t 2)⟩,
 ⟨some 39,none,.mv (.t 1)⟩,
 ⟨some 40,none,.bin .sub false (.t 38) (.t 39)⟩,
 ⟨some 41,none,.bin .lss false (.t 40) (.k (.v (.int .i64 50)))⟩])
 (.cond (.t 41)
 (.seq
 (.reg 10 none [6] [
 ⟨some 6,none,.mv (.k (.v (.bool false)))⟩])
 .ret)
 .skip))
 (.seq
 (.reg 11 (some [0,0,0,0,8,0,0,64,224,480,0,0,3072,7168,16355,32739,65535,131071]) [0,1,2,7,8] [
 ⟨some 42,none,.mv (.t 0)⟩,
 ⟨some 43,none,.mv (.t 7)⟩,
 ⟨some 44,none,.mv (.t 0)⟩,
 ⟨some 45,none,.mv (.t 7)⟩,
 ⟨some 46,none,.bin .sub false (.t 45) (.k (.v (.int .i64 1)))⟩,
 ⟨some 47,none,.mv (.t 0)⟩,
 ⟨some 48,none,.mv (.t 7)⟩,
 ⟨some 49,none,.bin .sub false (.t 48) (.k (.v (.int .i64 1)))⟩,
 ⟨some 50,none,.ixL 1 (.t 47) (.t 49)⟩,
 ⟨some 51,none,.ld none (.t 50)⟩,
 ⟨some 52,none,.mv (.t 0)⟩,
 ⟨some 53,none,.mv (.t 7)⟩,
 ⟨some 54,none,.ixL 1 (.t 52) (.t 53)⟩,
 ⟨some 55,none,.ld none (.t 54)⟩,
 ⟨some 56,none,.ixL 1 (.t 42) (.t 43)⟩,
 ⟨none,none,.st 1 (.t 56) (.t 51)⟩,
 ⟨some 57,none,.ixL 1 (.t 44) (.t 46)⟩,
 ⟨none,none,.st 1 (.t 57) (.t 55)⟩])
 (.seq
 (.seq
 (.reg 12 none [0,1,2,7,8,61] [
 ⟨some 58,none,.mv (.t 7)⟩,
 ⟨some 59,none,.mv (.t 1)⟩,
 ⟨some 60,none,.bin .sub false (.t 58) (.t 59)⟩,
 ⟨some 61,none,.bin .geq false (.t 60) (.k (.v (.int .i64 2)))⟩])
 (.cond (.t 61)
 (.seq
 (.reg 13 none [0,1,2,7,8,9] [
 ⟨some 62,none,.mv (.t 7)⟩,
 ⟨some 63,none,.bin .sub false (.t 62) (.k (.v (.int .i64 1)))⟩,
 ⟨some 9,none,.mv (.t 63)⟩])
 (.block 4
 (.loop
 (.seq
 (.seq
 (.reg 14 none [0,1,2,7,8,9,65] [
 ⟨some 64,none,.mv (.t 9)⟩,
 ⟨some 65,none,.bin .geq false (.t 64) (.k (.v (.int .i64 1)))⟩])
 (.cond (.t 65)
 .skip
 (.exit 4)))
 (.seq
 (.block 5
 (.seq
 (.seq
 (.reg 16 (some [0,0,3,7,0,0,32,112,240,511,1023]) [0,1,2,7,8,9,78] [
 ⟨some 68,none,.mv (.t 0)⟩,
 ⟨some 69,none,.mv (.t 9)⟩,
 ⟨some 70,none,.ixL 1 (.t 68) (.t 69)⟩,
 ⟨some 71,none,.ld none (.t 70)⟩,
 ⟨some 72,none,.mv (.t 0)⟩,
 ⟨some 73,none,.mv (.t 9)⟩,
 ⟨some 74,none,.bin .sub false (.t 73) (.k (.v (.int .i64 1)))⟩,
 ⟨some 75,none,.ixL 1 (.t 72) (.t 74)⟩,
 ⟨some 76,none,.ld none (.t 75)⟩,
 ⟨some 77,none,.call (.k (.clo F_cmp_Less_int [])) [.t 71,.t 76]⟩,
 ⟨some 78,none,.un .not (.t 77)⟩])
 (.cond (.t 78)
 (.exit 4)
 .skip))
 (.reg 17 (some [0,0,0,0,8,0,0,64,224,480,0,0,3072,7168,16355,32739,65535,131071]) [0,1,2,7,8,9] [
 ⟨some 79,none,.mv (.t 0)⟩,
 ⟨some 80,none,.mv (.t 9)⟩,
 ⟨some 81,none,.mv (.t 0)⟩,
 ⟨some 82,none,.mv (.t 9)⟩,
 ⟨some 83,none,.bin .sub false (.t 82) (.k (.v (.int .i64 1)))⟩,
 ⟨some 84,none,.mv (.t 0)⟩,
 ⟨some 85,none,.mv (.t 9)⟩,
 ⟨some 86,none,.bin .sub false (.t 85) (.k (.v (.int .i64 1)))⟩,
 ⟨some 87,none,.ixL 1 (.t 84) (.t 86)⟩,
 ⟨some 88,none,.ld none (.t 87)⟩,
 ⟨some 89,none,.mv (.t 0)⟩,
 ⟨some 90,none,.mv (.t 9)⟩,
 ⟨some 91,none,.ixL 1 (.t 89) (.t 90)⟩,
 ⟨some 92,none,.ld none (.t 91)⟩,
 ⟨some 93,none,.ixL 1 (.t 79) (.t 80)⟩,
 ⟨none,none,.st 1 (.t 93) (.t 88)⟩,
 ⟨some 94,none,.ixL 1 (.t 81) (.t 83)⟩,
 ⟨none,none,.st 1 (.t 94) (.t 92)⟩])))
 (.reg 15 none [0,1,2,7,8,9] [
 ⟨some 66,none,.mv (.t 9)⟩,
 ⟨some 67,none,.bin .sub false (.t 66) (.k (.v (.int .i64 1)))⟩,
 ⟨some 9,none,.mv (.t 67)⟩]))))))
 .skip))
 (.seq
 (.reg 18 none [0,1,2,7,8,98] [
 ⟨some 95,none,.mv (.t 2)⟩,
 ⟨some 96,none,.mv (.t 7)⟩,
 ⟨some 97,none,.bin .sub false (.t 95) (.t 96)⟩,
 ⟨some 98,none,.bin .geq false (.t 97) (.k (.v (.int .i64 2)))⟩])
 (.cond (.t 98)
 (.seq
 (.reg 19 none [0,1,2,7,8,10] [
 ⟨some 99,none,.mv (.t 7)⟩,
 ⟨some 100,none,.bin .add false (.t 99) (.k (.v (.int .i64 1)))⟩,
 ⟨some 10,none,.mv (.t 100)⟩])
 (.block 6
 (.loop
 (.seq
 (.seq
 (.reg 20 none [0,1,2,7,8,10,103] [
 ⟨some 101,none,.mv (.t 10)⟩,
 ⟨some 102,none,.mv (.t 2)⟩,
 ⟨some 103,none,.bin .lss false (.t 101) (.t 102)⟩])
 (.cond (.t 103)
 .skip
 (.exit 6)))
 (.seq
 (.block 7
 (.seq
 (.seq
 (.reg 22 (some [0,0,3,7,0,0,32,112,240,511,1023]) [0,1,2,7,8,10,116] [
 ⟨some 106,none,.mv (.t 0)⟩,
 ⟨some 107,none,.mv (.t 10)⟩,
 ⟨some 108,none,.ixL 1 (.t 106) (.t 107)⟩,
 ⟨some 109,none,.ld none (.t 108)⟩,
 ⟨some 110,none,.mv (.t 0)⟩,
 ⟨some 111,none,.mv (.t 10)⟩,
 ⟨some 112,none,.bin .sub false (.t 111) (.k (.v (.int .i64 1)))⟩,
 ⟨some 113,none,.ixL 1 (.t 110) (.t 112)⟩,
 ⟨some 114,none,.ld none (.t 113)⟩,
 ⟨some 115,none,.call (.k (.clo F_cmp_Less_int [])) [.t 109,.t 114]⟩,
 ⟨some 116,none,.un .not (.t 115)⟩])
 (.cond (.t 116)
 (.exit 6)
 .skip))
 (.reg 23 (some [0,0,0,0,8,0,0,64,224,480,0,0,3072,7168,16355,32739,65535,131071]) [0,1,2,7,8,10] [
 ⟨some 117,none,.mv (.t 0)⟩,
 ⟨some 118,none,.mv (.t 10)⟩,
 ⟨some 119,none,.mv (.t 0)⟩,
 ⟨some 120,none,.mv (.t 10)⟩,
 ⟨some 121,none,.bin .sub false (.t 120) (.k (.v (.int .i64 1)))⟩,
 ⟨some 122,none,.mv (.t 0)⟩,
 ⟨some 123,none,.mv (.t 10)⟩,
 ⟨some 124,none,.bin .sub false (.t 123) (.k (.v (.int .i64 1)))⟩,
 ⟨some 125,none,.ixL 1 (.t 122) (.t 124)⟩,
 ⟨some 126,none,.ld none (.t 125)⟩,
 ⟨some 127,none,.mv (.t 0)⟩,
 ⟨some 128,none,.mv (.t 10)⟩,
 ⟨some 129,none,.ixL 1 (.t 127) (.t 128)⟩,
 ⟨some 130,none,.ld none (.t 129)⟩,
 ⟨some 131,none,.ixL 1 (.t 117) (.t 118)⟩,
 ⟨none,none,.st 1 (.t 131) (.t 126)⟩,
 ⟨some 132,none,.ixL 1 (.t 119) (.t 121)⟩,
 ⟨none,none,.st 1 (.t 132) (.t 130)⟩])))
 (.reg 21 none [0,1,2,7,8,10] [
 ⟨some 104,none,.mv (.t 10)⟩,
 ⟨some 105,none,.bin .add false (.t 104) (.k (.v (.int .i64 1)))⟩,
 ⟨some 10,none,.mv (.t 105)⟩]))))))
 .skip))))))))
 (.reg 4 none [0,1,2,7,8] [
 ⟨some 15,none,.mv (.t 8)⟩,
 ⟨some 16,none,.bin .add false (.t 15) (.k (.v (.int .i64 1)))⟩,
 ⟨some 8,none,.mv (.t 16)⟩]))))))
 (.seq
 (.reg 24 none [6] [
 ⟨some 6,none,.mv (.k (.v (.bool false)))⟩])
 .ret))))
theorem fn_slices_partialInsertionSortOrdered_int:FnIR Tryd.prog F_slices_partialInsertionSortOrdered_int 133 [(0,[0,1,2]),(1,[0,1,2,7]),(2,[0,1,2,7,8]),(3,[0,1,2,7,8,14]),(4,[0,1,2,7,8]),(5,[0,1,2,7,8,32]),(6,[0,1,2,7,8]),(7,[0,1,2,7,8,37]),(8,[6]),(9,[0,1,2,7,8,41]),(10,[6]),(11,[0,1,2,7,8]),(12,[0,1,2,7,8,61]),(13,[0,1,2,7,8,9]),(14,[0,1,2,7,8,9,65]),(15,[0,1,2,7,8,9]),(16,[0,1,2,7,8,9,78]),(17,[0,1,2,7,8,9]),(18,[0,1,2,7,8,98]),(19,[0,1,2,7,8,10]),(20,[0,1,2,7,8,10,103]),(21,[0,1,2,7,8,10]),(22,[0,1,2,7,8,10,116]),(23,[0,1,2,7,8,10]),(24,[6])] ir_slices_partialInsertionSortOrdered_int [(.tmp 6)]:=
 ⟨Tryd.f73,_,Tryd.func73,rfl,by kernel_rfl,rfl,by kernel_rfl,by kernel_rfl⟩
def ir_cmp_Less_int:RC:=
 (.seq
 (.reg 0 none [0,1] [
 ⟨some 4,none,.mv (.k (.v (.bool false)))⟩])
 (.seq
 (.reg 1 none [4] [
 ⟨some 5,none,.mv (.t 0)⟩,
 ⟨some 6,none,.call (.k (.clo F_cmp_isNaN_int [])) [.t 5]⟩,
 ⟨some 7,none,.mv (.t 6)⟩,
 ⟨some 8,some (7,true),.mv (.t 1)⟩,
 ⟨some 9,some (7,true),.call (.k (.clo F_cmp_isNaN_int [])) [.t 8]⟩,
 ⟨some 10,some (7,true),.un .not (.t 9)⟩,
 ⟨some 11,none,.pick (.t 7) (.t 10) (.k (.v (.bool false)))⟩,
 ⟨some 12,none,.mv (.t 11)⟩,
 ⟨some 13,some (12,false),.mv (.t 0)⟩,
 ⟨some 14,some (12,false),.mv (.t 1)⟩,
 ⟨some 15,some (12,false),.bin .lss false (.t 13) (.t 14)⟩,
 ⟨some 16,none,.pick (.t 12) (.k (.v (.bool true))) (.t 15)⟩,
 ⟨some 4,none,.mv (.t 16)⟩])
 .ret))
theorem fn_cmp_Less_int:FnIR Tryd.prog F_cmp_Less_int 17 [(0,[0,1]),(1,[4])] ir_cmp_Less_int [(.tmp 4)]:=
 ⟨Tryd.f74,_,Tryd.func74,rfl,by kernel_rfl,rfl,by kernel_rfl,by kernel_rfl⟩
def ir_slices_partitionEqualOrdered_int:RC:=
 (.seq
 (.reg 0 none [0,1,2,3] [
 ⟨some 8,none,.mv (.k (.v (.int .i64 0)))⟩])
 (.seq
 (.reg 1 (some [0,0,0,0,0,0,48,112,0,0,768,1792,4083,8179,16383,32767]) [0,1,2] [
 ⟨some 11,none,.mv (.t 0)⟩,
 ⟨some 12,none,.mv (.t 1)⟩,
 ⟨some 13,none,.mv (.t 0)⟩,
 ⟨some 14,none,.mv (.t 3)⟩,
 ⟨some 15,none,.mv (.t 0)⟩,
 ⟨some 16,none,.mv (.t 3)⟩,
 ⟨some 17,none,.ixL 1 (.t 15) (.t 16)⟩,
 ⟨some 18,none,.ld none (.t 17)⟩,
 ⟨some 19,none,.mv (.t 0)⟩,
 ⟨some 20,none,.mv (.t 1)⟩,
 ⟨some 21,none,.ixL 1 (.t 19) (.t 20)⟩,
 ⟨some 22,none,.ld none (.t 21)⟩,
 ⟨some 23,none,.ixL 1 (.t 11) (.t 12)⟩,
 ⟨none,none,.st 1 (.t 23) (.t 18)⟩,
 ⟨some 24,none,.ixL 1 (.t 13) (.t 14)⟩,
 ⟨none,none,.st 1 (.t 24) (.t 22)⟩])
 (.seq
 (.reg 2 none [0,1,9,10] [
 ⟨some 25,none,.mv (.t 1)⟩,
 ⟨some 26,none,.bin .add false (.t 25) (.k (.v (.int .i64 1)))⟩,
 ⟨some 27,none,.mv (.t 2)⟩,
 ⟨some 28,none,.bin .sub false (.t 27) (.k (.v (.int .i64 1)))⟩,
 ⟨some 9,none,.mv (.t 26)⟩,
 ⟨some 10,none,.mv (.t 28)⟩])
 (.seq
 (.block 0
 (.loop
 (.block 1
 (.seq
 (.block 2
 (.loop
 (.seq
 (.seq
 (.reg 3 (some [0,0,3,7,15,15,63,127,15,15,783,1807,4095,8191,16383]) [0,1,9,10,43] [
 ⟨some 29,none,.mv (.t 9)⟩,
 ⟨some 30,none,.mv (.t 10)⟩,
 ⟨some 31,none,.bin .leq false (.t 29) (.t 30)⟩,
 ⟨some 32,none,.mv (.t 31)⟩,
 ⟨some 33,some (32,true),.mv (.t 0)⟩,
 ⟨some 34,some (32,true),.mv (.t 1)⟩,
 ⟨some 35,some (32,true),.ixL 1 (.t 33) (.t 34)⟩,
 ⟨some 36,some (32,true),.ld none (.t 35)⟩,
 ⟨some 37,some (32,true),.mv (.t 0)⟩,
 ⟨some 38,some (32,true),.mv (.t 9)⟩,
 ⟨some 39,some (32,true),.ixL 1 (.t 37) (.t 38)⟩,
 ⟨some 40,some (32,true),.ld none (.t 39)⟩,
 ⟨some 41,some (32,true),.call (.k (.clo F_cmp_Less_int [])) [.t 36,.t 40]⟩,
 ⟨some 42,some (32,true),.un .not (.t 41)⟩,
 ⟨some 43,none,.pick (.t 32) (.t 42) (.k (.v (.bool false)))⟩])
 (.cond (.t 43)
 .skip
 (.exit 2)))
 (.block 3
 (.reg 4 none [0,1,9,10] [
 ⟨some 44,none,.mv (.t 9)⟩,
 ⟨some 45,none,.bin .add false (.t 44) (.k (.v (.int .i64 1)))⟩,
 ⟨some 9,none,.mv (.t 45)⟩])))))
 (.seq
 (.block 4
 (.loop
 (.seq
 (.seq
 (.reg 5 (some [0,0,3,7,15,15,63,127,15,15,783,1807,4095,8191]) [0,1,9,10,59] [
 ⟨some 46,none,.mv (.t 9)⟩,
 ⟨some 47,none,.mv (.t 10)⟩,
 ⟨some 48,none,.bin .leq false (.t 46) (.t 47)⟩,
 ⟨some 49,none,.mv (.t 48)⟩,
 ⟨some 50,some (49,true),.mv (.t 0)⟩,
 ⟨some 51,some (49,true),.mv (.t 1)⟩,
 ⟨some 52,some (49,true),.ixL 1 (.t 50) (.t 51)⟩,
 ⟨some 53,some (49,true),.ld none (.t 52)⟩,
 ⟨some 54,some (49,true),.mv (.t 0)⟩,
 ⟨some 55,some (49,true),.mv (.t 10)⟩,
 ⟨some 56,some (49,true),.ixL 1 (.t 54) (.t 55)⟩,
 ⟨some 57,some (49,true),.ld none (.t 56)⟩,
 ⟨some 58,some (49,true),.call (.k (.clo F_cmp_Less_int [])) [.t 53,.t 57]⟩,
 ⟨some 59,none,.pick (.t 49) (.t 58) (.k (.v (.bool false)))⟩])
 (.cond (.t 59)
 .skip
 (.exit 4)))
 (.block 5
 (.reg 6 none [0,1,9,10] [
 ⟨some 60,none,.mv (.t 10)⟩,
 ⟨some 61,none,.bin .sub false (.t 60) (.k (.v (.int .i64 1)))⟩,
 ⟨some 10,none,.mv (.t 61)⟩])))))
 (.seq
 (.seq
 (.reg 7 none [0,1,9,10,64] [
 ⟨some 62,none,.mv (.t 9)⟩,
 ⟨some 63,none,.mv (.t 10)⟩,
 ⟨some 64,none,.bin .gtr false (.t 62) (.t 63)⟩])
 (.cond (.t 64)
 (.exit 0)
 .skip))
 (.seq
 (.reg 8 (some [0,0,0,0,0,0,48,112,0,0,768,1792,4083,8179,16383,32767]) [0,1,9,10] [
 ⟨some 65,none,.mv (.t 0)⟩,
 ⟨some 66,none,.mv (.t 9)⟩,
 ⟨some 67,none,.mv (.t 0)⟩,
 ⟨some 68,none,.mv (.t 10)⟩,
 ⟨some 69,none,.mv (.t 0)⟩,
 ⟨some 70,none,.mv (.t 10)⟩,
 ⟨some 71,none,.ixL 1 (.t 69) (.t 70)⟩,
 ⟨some 72,none,.ld none (.t 71)⟩,
 ⟨some 73,none,.mv (.t 0)⟩,
 ⟨some 74,none,.mv (.t 9)⟩,
 ⟨some 75,none,.ixL 1 (.t 73) (.t 74)⟩,
 ⟨some 76,none,.ld none (.t 75)⟩,
 ⟨some 77,none,.ixL 1 (.t 65) (.t 66)⟩,
 ⟨none,none,.st 1 (.t 77) (.t 72)⟩,
 ⟨some 78,none,.ixL 1 (.t 67) (.t 68)⟩,
 ⟨none,none,.st 1 (.t 78) (.t 76)⟩])
 (.seq
 (.reg 9 none [0,1,9,10] [
 ⟨some 79,none,.mv (.t 9)⟩,
 ⟨some 80,none,.bin .add false (.t 79) (.k (.v (.int .i64 1)))⟩,
 ⟨some 9,none,.mv (.t 80)⟩])
 (.reg 10 none [0,1,9,10] [
 ⟨some 81,none,.mv (.t 10)⟩,
 ⟨some 82,none,.bin .sub false (.t 81) (.k (.v (.int .i64 1)))⟩,
 ⟨some 10,none,.mv (.t 82)⟩])))))))))
 (.seq
 (.reg 11 none [8] [
 ⟨some 83,none,.mv (.t 9)⟩,
 ⟨some 8,none,.mv (.t 83)⟩])
 .ret)))))
theorem fn_slices_partitionEqualOrdered_int:FnIR Tryd.prog F_slices_partitionEqualOrdered_int 84 [(0,[0,1,2,3]),(1,[0,1,2]),(2,[0,1,9,10]),(3,[0,1,9,10,43]),(4,[0,1,9,10]),(5,[0,1,9,10,59]),(6,[0,1,9,10]),(7,[0,1,9,10,64]),(8,[0,1,9,10]),(9,[0,1,9,10]),(10,[0,1,9,10]),(11,[8])] ir_slices_partitionEqualOrdered_int [(.tmp 8)]:=
 ⟨Tryd.f75,_,Tryd.func75,rfl,by kernel_rfl,rfl,by kernel_rfl,by kernel_rfl⟩
def ir_slices_partitionOrdered_int:RC:=
 (.seq
 (.reg 0 none [0,1,2,3] [
 ⟨some 8,none,.mv (.k (.v (.int .i64 0)))⟩,
 ⟨some 9,none,.mv (.k (.v (.bool false)))⟩])
 (.seq
 (.reg 1 (some [0,0,0,0,0,0,48,112,0,0,768,1792,4083,8179,16383,32767]) [0,1,2] [
 ⟨some 12,none,.mv (.t 0)⟩,
 ⟨some 13,none,.mv (.t 1)⟩,
 ⟨some 14,none,.mv (.t 0)⟩,
 ⟨some 15,none,.mv (.t 3)⟩,
 ⟨some 16,none,.mv (.t 0)⟩,
 ⟨some 17,none,.mv (.t 3)⟩,
 ⟨some 18,none,.ixL 1 (.t 16) (.t 17)⟩,
 ⟨some 19,none,.ld none (.t 18)⟩,
 ⟨some 20,none,.mv (.t 0)⟩,
 ⟨some 21,none,.mv (.t 1)⟩,
 ⟨some 22,none,.ixL 1 (.t 20) (.t 21)⟩,
 ⟨some 23,none,.ld none (.t 22)⟩,
 ⟨some 24,none,.ixL 1 (.t 12) (.t 13)⟩,
 ⟨none,none,.st 1 (.t 24) (.t 19)⟩,
 ⟨some 25,none,.ixL 1 (.t 14) (.t 15)⟩,
 ⟨none,none,.st 1 (.t 25) (.t 23)⟩])
 (.seq
 (.reg 2 none [0,1,10,11] [
 ⟨some 26,none,.mv (.t 1)⟩,
 ⟨some 27,none,.bin .add false (.t 26) (.k (.v (.int .i64 1)))⟩,
 ⟨some 28,none,.mv (.t 2)⟩,
 ⟨some 29,none,.bin .sub false (.t 28) (.k (.v (.int .i64 1)))⟩,
 ⟨some 10,none,.mv (.t 27)⟩,
 ⟨some 11,none,.mv (.t 29)⟩])
 (.seq
 (.block 0
 (.loop
 (.seq
 (.seq
 (.reg 3 (some [0,0,3,7,15,15,63,127,15,15,783,1807,4095,8191]) [0,1,10,11,43] [
 ⟨some 30,none,.mv (.t 10)⟩,
 ⟨some 31,none,.mv (.t 11)⟩,
 ⟨some 32,none,.bin .leq false (.t 30) (.t 31)⟩,
 ⟨some 33,none,.mv (.t 32)⟩,
 ⟨some 34,some (33,true),.mv (.t 0)⟩,
 ⟨some 35,some (33,true),.mv (.t 10)⟩,
 ⟨some 36,some (33,true),.ixL 1 (.t 34) (.t 35)⟩,
 ⟨some 37,some (33,true),.ld none (.t 36)⟩,
 ⟨some 38,some (33,true),.mv (.t 0)⟩,
 ⟨some 39,some (33,true),.mv (.t 1)⟩,
 ⟨some 40,some (33,true),.ixL 1 (.t 38) (.t 39)⟩,
 ⟨some 41,some (33,true),.ld none (.t 40)⟩,
 ⟨some 42,some (33,true),.call (.k (.clo F_cmp_Less_int [])) [.t 37,.t 41]⟩,
 ⟨some 43,none,.pick (.t 33) (.t 42) (.k (.v (.bool false)))⟩])
 (.cond (.t 43)
 .skip
 (.exit 0)))
 (.block 1
 (.reg 4 none [0,1,10,11] [
 ⟨some 44,none,.mv (.t 10)⟩,
 ⟨some 45,none,.bin .add false (.t 44) (.k (.v (.int .i64 1)))⟩,
 ⟨some 10,none,.mv (.t 45)⟩])))))
 (.seq
 (.block 2
 (.loop
 (.seq
 (.seq
 (.reg 5 (some [0,0,3,7,15,15,63,127,15,15,783,1807,4095,8191,16383]) [0,1,10,11,60] [
 ⟨some 46,none,.mv (.t 10)⟩,
 ⟨some 47,none,.mv (.t 11)⟩,
 ⟨some 48,none,.bin .leq false (.t 46) (.t 47)⟩,
 ⟨some 49,none,.mv (.t 48)⟩,
 ⟨some 50,some (49,true),.mv (.t 0)⟩,
 ⟨some 51,some (49,true),.mv (.t 11)⟩,
 ⟨some 52,some (49,true),.ixL 1 (.t 50) (.t 51)⟩,
 ⟨some 53,some (49,true),.ld none (.t 52)⟩,
 ⟨some 54,some (49,true),.mv (.t 0)⟩,
 ⟨some 55,some (49,true),.mv (.t 1)⟩,
 ⟨some 56,some (49,true),.ixL 1 (.t 54) (.t 55)⟩,
 ⟨some 57,some (49,true),.ld none (.t 56)⟩,
 ⟨some 58,some (49,true),.call (.k (.clo F_cmp_Less_int [])) [.t 53,.t 57]⟩,
 ⟨some 59,some (49,true),.un .not (.t 58)⟩,
 ⟨some 60,none,.pick (.t 49) (.t 59) (.k (.v (.bool false)))⟩])
 (.cond (.t 60)
 .skip
 (.exit 2)))
 (.block 3
 (.reg 6 none [0,1,10,11] [
 ⟨some 61,none,.mv (.t 11)⟩,
 ⟨some 62,none,.bin .sub false (.t 61) (.k (.v (.int .i64 1)))⟩,
 ⟨some 11,none,.mv (.t 62)⟩])))))
 (.seq
 (.seq
 (.reg 7 none [0,1,10,11,65] [
 ⟨some 63,none,.mv (.t 10)⟩,
 ⟨some 64,none,.mv (.t 11)⟩,
 ⟨some 65,none,.bin .gtr false (.t 63) (.t 64)⟩])
 (.cond (.t 65)
 (.seq
 (.reg 8 (some [0,0,0,0,0,0,48,112,0,0,768,1792,4083,8179,16383,32767]) [11] [
 ⟨some 66,none,.mv (.t 0)⟩,
 ⟨some 67,none,.mv (.t 11)⟩,
 ⟨some 68,none,.mv (.t 0)⟩,
 ⟨some 69,none,.mv (.t 1)⟩,
 ⟨some 70,none,.mv (.t 0)⟩,
 ⟨some 71,none,.mv (.t 1)⟩,
 ⟨some 72,none,.ixL 1 (.t 70) (.t 71)⟩,
 ⟨some 73,none,.ld none (.t 72)⟩,
 ⟨some 74,none,.mv (.t 0)⟩,
 ⟨some 75,none,.mv (.t 11)⟩,
 ⟨some 76,none,.ixL 1 (.t 74) (.t 75)⟩,
 ⟨some 77,none,.ld none (.t 76)⟩,
 ⟨some 78,none,.ixL 1 (.t 66) (.t 67)⟩,
 ⟨none,none,.st 1 (.t 78) (.t 73)⟩,
 ⟨some 79,none,.ixL 1 (.t 68) (.t 69)⟩,
 ⟨none,none,.st 1 (.t 79) (.t 77)⟩])
 (.seq
 (.reg 9 none [8,9] [
 ⟨some 80,none,.mv (.t 11)⟩,
 ⟨some 8,none,.mv (.t 80)⟩,
 ⟨some 9,none,.mv (.k (.v (.bool true)))⟩])
 .ret))
 .skip))
 (.seq
 (.reg 10 (some [0,0,0,0,0,0,48,112,0,0,768,1792,4083,8179,16383,32767]) [0,1,10,11] [
 ⟨some 81,none,.mv (.t 0)⟩,
 ⟨some 82,none,.mv (.t 10)⟩,
 ⟨some 83,none,.mv (.t 0)⟩,
 ⟨some 84,none,.mv (.t 11)⟩,
 ⟨some 85,none,.mv (.t 0)⟩,
 ⟨some 86,none,.mv (.t 11)⟩,
 ⟨some 87,none,.ixL 1 (.t 85) (.t 86)⟩,
 ⟨some 88,none,.ld none (.t 87)⟩,
 ⟨some 89,none,.mv (.t 0)⟩,
 ⟨some 90,none,.mv (.t 10)⟩,
 ⟨some 91,none,.ixL 1 (.t 89) (.t 90)⟩,
 ⟨some 92,none,.ld none (.t 91)⟩,
 ⟨some 93,none,.ixL 1 (.t 81) (.t 82)⟩,
 ⟨none,none,.st 1 (.t 93) (.t 88)⟩,
 ⟨some 94,none,.ixL 1 (.t 83) (.t 84)⟩,
 ⟨none,none,.st 1 (.t 94) (.t 92)⟩])
 (.seq
 (.reg 11 none [0,1,10,11] [
 ⟨some 95,none,.mv (.t 10)⟩,
 ⟨some 96,none,.bin .add false (.t 95) (.k (.v (.int .i64 1)))⟩,
 ⟨some 10,none,.mv (.t 96)⟩])
 (.seq
 (.reg 12 none [0,1,10,11] [
 ⟨some 97,none,.mv (.t 11)⟩,
 ⟨some 98,none,.bin .sub false (.t 97) (.k (.v (.int .i64 1)))⟩,
 ⟨some 11,none,.mv (.t 98)⟩])
 (.seq
 (.block 4
 (.loop
 (.block 5
 (.seq
 (.block 6
 (.loop
 (.seq
 (.seq
 (.reg 13 (some [0,0,3,7,15,15,63,127,15,15,783,1807,4095,8191]) [0,1,10,11,112] [
 ⟨some 99,none,.mv (.t 10)⟩,
 ⟨some 100,none,.mv (.t 11)⟩,
 ⟨some 101,none,.bin .leq false (.t 99) (.t 100)⟩,
 ⟨some 102,none,.mv (.t 101)⟩,
 ⟨some 103,some (102,true),.mv (.t 0)⟩,
 ⟨some 104,some (102,true),.mv (.t 10)⟩,
 ⟨some 105,some (102,true),.ixL 1 (.t 103) (.t 104)⟩,
 ⟨some 106,some (102,true),.ld none (.t 105)⟩,
 ⟨some 107,some (102,true),.mv (.t 0)⟩,
 ⟨some 108,some (102,true),.mv (.t 1)⟩,
 ⟨some 109,some (102,true),.ixL 1 (.t 107) (.t 108)⟩,
 ⟨some 110,some (102,true),.ld none (.t 109)⟩,
 ⟨some 111,some (102,true),.call (.k (.clo F_cmp_Less_int [])) [.t 106,.t 110]⟩,
 ⟨some 112,none,.pick (.t 102) (.t 111) (.k (.v (.bool false)))⟩])
 (.cond (.t 112)
 .skip
 (.exit 6)))
 (.block 7
 (.reg 14 none [0,1,10,11] [
 ⟨some 113,none,.mv (.t 10)⟩,
 ⟨some 114,none,.bin .add false (.t 113) (.k (.v (.int .i64 1)))⟩,
 ⟨some 10,none,.mv (.t 114)⟩])))))
 (.seq
 (.block 8
 (.loop
 (.seq
 (.seq
 (.reg 15 (some [0,0,3,7,15,15,63,127,15,15,783,1807,4095,8191,16383]) [0,1,10,11,129] [
 ⟨some 115,none,.mv (.t 10)⟩,
 ⟨some 116,none,.mv (.t 11)⟩,
 ⟨some 117,none,.bin .leq false (.t 115) (.t 116)⟩,
 ⟨some 118,none,.mv (.t 117)⟩,
 ⟨some 119,some (118,true),.mv (.t 0)⟩,
 ⟨some 120,some (118,true),.mv (.t 11)⟩,
 ⟨some 121,some (118,true),.ixL 1 (.t 119) (.t 120)⟩,
 ⟨some 122,some (118,true),.ld none (.t 121)⟩,
 ⟨some 123,some (118,true),.mv (.t 0)⟩,
 ⟨some 124,some (118,true),.mv (.t 1)⟩,
 ⟨some 125,some (118,true),.ixL 1 (.t 123) (.t 124)⟩,
 ⟨some 126,some (118,true),.ld none (.t 125)⟩,
 ⟨some 127,some (118,true),.call (.k (.clo F_cmp_Less_int [])) [.t 122,.t 126]⟩,
 ⟨some 128,some (118,true),.un .not (.t 127)⟩,
 ⟨some 129,none,.pick (.t 118) (.t 128) (.k (.v (.bool false)))⟩])
 (.cond (.t 129)
 .skip
 (.exit 8)))
 (.block 9
 (.reg 16 none [0,1,10,11] [
 ⟨some 130,none,.mv (.t 11)⟩,
 ⟨some 131,none,.bin .sub false (.t 130) (.k (.v (.int .i64 1)))⟩,
 ⟨some 11,none,.mv (.t 131)⟩])))))
 (.seq
 (.seq
 (.reg 17 none [0,1,10,11,134] [
 ⟨some 132,none,.mv (.t 10)⟩,
 ⟨some 133,none,.mv (.t 11)⟩,
 ⟨some 134,none,.bin .gtr false (.t 132) (.t 133)⟩])
 (.cond (.t 134)
 (.exit 4)
 .skip))
 (.seq
 (.reg 18 (some [0,0,0,0,0,0,48,112,0,0,768,1792,4083,8179,16383,32767]) [0,1,10,11] [
 ⟨some 135,none,.mv (.t 0)⟩,
 ⟨some 136,none,.mv (.t 10)⟩,
 ⟨some 137,none,.mv (.t 0)⟩,
 ⟨some 138,none,.mv (.t 11)⟩,
 ⟨some 139,none,.mv (.t 0)⟩,
 ⟨some 140,none,.mv (.t 11)⟩,
 ⟨some 141,none,.ixL 1 (.t 139) (.t 140)⟩,
 ⟨some 142,none,.ld none (.t 141)⟩,
 ⟨some 143,none,.mv (.t 0)⟩,
 ⟨some 144,none,.mv (.t 10)⟩,
 ⟨some 145,none,.ixL 1 (.t 143) (.t 144)⟩,
 ⟨some 146,none,.ld none (.t 145)⟩,
 ⟨some 147,none,.ixL 1 (.t 135) (.t 136)⟩,
 ⟨none,none,.st 1 (.t 147) (.t 142)⟩,
 ⟨some 148,none,.ixL 1 (.t 137) (.t 138)⟩,
 ⟨none,none,.st 1 (.t 148) (.t 146)⟩])
 (.seq
 (.reg 19 none [0,1,10,11] [
 ⟨some 149,none,.mv (.t 10)⟩,
 ⟨some 150,none,.bin .add false (.t 149) (.k (.v (.int .i64 1)))⟩,
 ⟨some 10,none,.mv (.t 150)⟩])
 (.reg 20 none [0,1,10,11] [
 ⟨some 151,none,.mv (.t 11)⟩,
 ⟨some 152,none,.bin .sub false (.t 151) (.k (.v (.int .i64 1)))⟩,
 ⟨some 11,none,.mv (.t 152)⟩])))))))))
 (.seq
 (.reg 21 (some [0,0,0,0,0,0,48,112,0,0,768,1792,4083,8179,16383,32767]) [11] [
 ⟨some 153,none,.mv (.t 0)⟩,
 ⟨some 154,none,.mv (.t 11)⟩,
 ⟨some 155,none,.mv (.t 0)⟩,
 ⟨some 156,none,.mv (.t 1)⟩,
 ⟨some 157,none,.mv (.t 0)⟩,
 ⟨some 158,none,.mv (.t 1)⟩,
 ⟨some 159,none,.ixL 1 (.t 157) (.t 158)⟩,
 ⟨some 160,none,.ld none (.t 159)⟩,
 ⟨some 161,none,.mv (.t 0)⟩,
 ⟨some 162,none,.mv (.t 11)⟩,
 ⟨some 163,none,.ixL 1 (.t 161) (.t 162)⟩,
 ⟨some 164,none,.ld none (.t 163)⟩,
 ⟨some 165,none,.ixL 1 (.t 153) (.t 154)⟩,
 ⟨none,none,.st 1 (.t 165) (.t 160)⟩,
 ⟨some 166,none,.ixL 1 (.t 155) (.t 156)⟩,
 ⟨none,none,.st 1 (.t 166) (.t 164)⟩])
 (.seq
 (.reg 22 none [8,9] [
 ⟨some 167,none,.mv (.t 11)⟩,
 ⟨some 8,none,.mv (.t 167)⟩,
 ⟨some 9,none,.mv (.k (.v (.bool false)))⟩])
 .ret))))))))))))
theorem fn_slices_partitionOrdered_int:FnIR Tryd.prog F_slices_partitionOrdered_int 168 [(0,[0,1,2,3]),(1,[0,1,2]),(2,[0,1,10,11]),(3,[0,1,10,11,43]),(4,[0,1,10,11]),(5,[0,1,10,11,60]),(6,[0,1,10,11]),(7,[0,1,10,11,65]),(8,[11]),(9,[8,9]),(10,[0,1,10,11]),(11,[0,1,10,11]),(12,[0,1,10,11]),(13,[0,1,10,11,112]),(14,[0,1,10,11]),(15,[0,1,10,11,129]),(16,[0,1,10,11]),(17,[0,1,10,11,134]),(18,[0,1,10,11]),(19,[0,1,10,11]),(20,[0,1,10,11]),(21,[11]),(22,[8,9])] ir_slices_partitionOrdered_int [(.tmp 8),(.tmp 9)]:=
 ⟨Tryd.f76,_,Tryd.func76,rfl,by kernel_rfl,rfl,by kernel_rfl,by kernel_rfl⟩
def ir_math_bits_Len64:RC:=
 (.seq
 (.reg 0 none [0,2] [
 ⟨some 2,none,.mv (.k (.v (.int .i64 0)))⟩])
 (.seq
 (.seq
 (.reg 1 none [0,2,4] [
 ⟨some 3,none,.mv (.t 0)⟩,
 ⟨some 4,none,.bin .geq false (.t 3) (.k (.v (.int .u64 4294967296)))⟩])
 (.cond (.t 4)
 (.seq
 (.reg 2 none [0] [
 ⟨some 5,none,.mv (.t 0)⟩,
 ⟨some 6,none,.bin .shr false (.t 5) (.k (.v (.int .u64 32)))⟩,
 ⟨some 0,none,.mv (.t 6)⟩])
 (.reg 3 none [0,2] [
 ⟨some 2,none,.mv (.k (.v (.int .i64 32)))⟩]))
 .skip))
 (.seq
 (.seq
 (.reg 4 none [0,2,8] [
 ⟨some 7,none,.mv (.t 0)⟩,
 ⟨some 8,none,.bin .geq false (.t 7) (.k (.v (.int .u64 65536)))⟩])
 (.cond (.t 8)
 (.seq
 (.reg 5 none [0,2] [
 ⟨some 9,none,.mv (.t 0)⟩,
 ⟨some 10,none,.bin .shr false (.t 9) (.k (.v (.int .u64 16)))⟩,
 ⟨some 0,none,.mv (.t 10)⟩])
 (.reg 6 none [0,2] [
 ⟨some 11,none,.mv (.t 2)⟩,
 ⟨some 12,none,.bin .add false (.t 11) (.k (.v (.int .i64 16)))⟩,
 ⟨some 2,none,.mv (.t 12)⟩]))
 .skip))
 (.seq
 (.seq
 (.reg 7 none [0,2,14] [
 ⟨some 13,none,.mv (.t 0)⟩,
 ⟨some 14,none,.bin .geq false (.t 13) (.k (.v (.int .u64 256)))⟩])
 (.cond (.t 14)
 (.seq
 (.reg 8 none [0,2] [
 ⟨some 15,none,.mv (.t 0)⟩,
 ⟨some 16,none,.bin .shr false (.t 15) (.k (.v (.int .u64 8)))⟩,
 ⟨some 0,none,.mv (.t 16)⟩])
 (.reg 9 none [0,2] [
 ⟨some 17,none,.mv (.t 2)⟩,
 ⟨some 18,none,.bin .add false (.t 17) (.k (.v (.int .i64 8)))⟩,
 ⟨some 2,none,.mv (.t 18)⟩]))
 .skip))
 (.seq
 (.reg 10 none [2] [
 ⟨some 19,none,.mv (.t 2)⟩,
 ⟨some 20,none,.mv (.t 0)⟩,
 ⟨some 21,none,.cvI .u8 (.t 20)⟩,
 ⟨some 22,none,.sx (.k (.v (.string ⟨#[0,1,2,2,3,3,3,3,4,4,4,4,4,4,4,4,5,5,5,5,5,5,5,5,5,5,5,5,5,5,5,5,6,6,6,6,6,6,6,6,6,6,6,6,6,6,6,6,6,6,6,6,6,6,6,6,6,6,6,6,6,6,6,6,7,7,7,7,7,7,7,7,7,7,7,7,7,7,7,7,7,7,7,7,7,7,7,7,7,7,7,7,7,7,7,7,7,7,7,7,7,7,7,7,7,7,7,7,7,7,7,7,7,7,7,7,7,7,7,7,7,7,7,7,7,7,7,7,8,8,8,8,8,8,8,8,8,8,8,8,8,8,8,8,8,8,8,8,8,8,8,8,8,8,8,8,8,8,8,8,8,8,8,8,8,8,8,8,8,8,8,8,8,8,8,8,8,8,8,8,8,8,8,8,8,8,8,8,8,8,8,8,8,8,8,8,8,8,8,8,8,8,8,8,8,8,8,8,8,8,8,8,8,8,8,8,8,8,8,8,8,8,8,8,8,8,8,8,8,8,8,8,8,8,8,8,8,8,8,8,8,8,8,8,8,8,8,8,8,8,8,8,8,8,8,8]⟩))) (.t 21)⟩,
 ⟨some 23,none,.cvI .i64 (.t 22)⟩,
 ⟨some 24,none,.bin .add false (.t 19) (.t 23)⟩,
 ⟨some 2,none,.mv (.t 24)⟩])
 .ret)))))
theorem fn_math_bits_Len64:FnIR Tryd.prog F_math_bits_Len64 25 [(0,[0,2]),(1,[0,2,4]),(2,[0]),(3,[0,2]),(4,[0,2,8]),(5,[0,2]),(6,[0,2]),(7,[0,2,14]),(8,[0,2]),(9,[0,2]),(10,[2])] ir_math_bits_Len64 [(.tmp 2)]:=
 ⟨Tryd.f78,_,Tryd.func78,rfl,by kernel_rfl,rfl,by kernel_rfl,by kernel_rfl⟩
def ir_slices_Max_int:RC:=
 (.seq
 (.reg 0 none [0] [
 ⟨some 2,none,.mv (.k (.v (.int .i64 0)))⟩])
 (.seq
 (.seq
 (.reg 1 none [0,7] [
 ⟨some 5,none,.mv (.t 0)⟩,
 ⟨some 6,none,.lenL (.t 5)⟩,
 ⟨some 7,none,.bin .lss false (.t 6) (.k (.v (.int .i64 1)))⟩])
 (.cond (.t 7)
 .stuck
 .skip))
 (.seq
 (.reg 3 none [0,3] [
 ⟨some 9,none,.mv (.t 0)⟩,
 ⟨some 10,none,.ixL 1 (.t 9) (.k (.v (.int .i64 0)))⟩,
 ⟨some 11,none,.ld none (.t 10)⟩,
 ⟨some 3,none,.mv (.t 11)⟩])
 (.seq
 (.seq
 (.reg 4 none [0,3,4] [
 ⟨some 4,none,.mv (.k (.v (.int .i64 1)))⟩])
 (.block 0
 (.loop
 (.seq
 (.seq
 (.reg 5 none [0,3,4,15] [
 ⟨some 12,none,.mv (.t 4)⟩,
 ⟨some 13,none,.mv (.t 0)⟩,
 ⟨some 14,none,.lenL (.t 13)⟩,
 ⟨some 15,none,.bin .lss false (.t 12) (.t 14)⟩])
 (.cond (.t 15)
 .skip
 (.exit 0)))
 (.seq
 (.block 1
 (.reg 7 none [0,3,4] [
 ⟨some 18,none,.mv (.t 3)⟩,
 ⟨some 19,none,.mv (.t 0)⟩,
 ⟨some 20,none,.mv (.t 4)⟩,
 ⟨some 21,none,.ixL 1 (.t 19) (.t 20)⟩,
 ⟨some 22,none,.ld none (.t 21)⟩,
 ⟨some 23,none,.mx [.t 18,.t 22]⟩,
 ⟨some 3,none,.mv (.t 23)⟩]))
 (.reg 6 none [0,3,4] [
 ⟨some 16,none,.mv (.t 4)⟩,
 ⟨some 17,none,.bin .add false (.t 16) (.k (.v (.int .i64 1)))⟩,
 ⟨some 4,none,.mv (.t 17)⟩]))))))
 (.seq
 (.reg 8 none [2] [
 ⟨some 24,none,.mv (.t 3)⟩,
 ⟨some 2,none,.mv (.t 24)⟩])
 .ret)))))
theorem fn_slices_Max_int:FnIR Tryd.prog F_slices_Max_int 25 [(0,[0]),(1,[0,7]),(3,[0,3]),(4,[0,3,4]),(5,[0,3,4,15]),(6,[0,3,4]),(7,[0,3,4]),(8,[2])] ir_slices_Max_int [(.tmp 2)]:=
 ⟨Tryd.f79,_,Tryd.func79,rfl,by kernel_rfl,rfl,by kernel_rfl,by kernel_rfl⟩
def ir_cells_places:RC:=
 (.seq
 (.reg 0 none [0,1] [
 ⟨some 4,none,.mv (.k (.v (.slice none 0 0)))⟩])
 (.seq
 (.reg 1 none [0,1,5] [
 ⟨some 7,none,.mv (.t 0)⟩,
 ⟨some 8,none,.lenL (.t 7)⟩,
 ⟨some 9,none,.mk 1 8 (.v (.int .i64 0)) (.t 8) (.t 8)⟩,
 ⟨some 5,none,.mv (.t 9)⟩])
 (.seq
 (.seq
 (.reg 2 none [0,1,5,6] [
 ⟨some 10,none,.mv (.t 0)⟩,
 ⟨some 11,none,.lenL (.t 10)⟩,
 ⟨some 12,none,.bin .sub false (.t 11) (.k (.v (.int .i64 1)))⟩,
 ⟨some 6,none,.mv (.t 12)⟩])
 (.block 0
 (.loop
 (.seq
 (.seq
 (.reg 3 none [0,1,5,6,14] [
 ⟨some 13,none,.mv (.t 6)⟩,
 ⟨some 14,none,.bin .geq false (.t 13) (.k (.v (.int .i64 0)))⟩])
 (.cond (.t 14)
 .skip
 (.exit 0)))
 (.seq
 (.block 1
 (.seq
 (.reg 5 none [0,1,5,6] [
 ⟨some 17,none,.mv (.t 5)⟩,
 ⟨some 18,none,.mv (.t 6)⟩,
 ⟨some 19,none,.mv (.t 1)⟩,
 ⟨some 20,none,.mv (.t 0)⟩,
 ⟨some 21,none,.mv (.t 6)⟩,
 ⟨some 22,none,.ixL 1 (.t 20) (.t 21)⟩,
 ⟨some 23,none,.ld none (.t 22)⟩,
 ⟨some 24,none,.bin .rem false (.t 19) (.t 23)⟩,
 ⟨some 25,none,.ixL 1 (.t 17) (.t 18)⟩,
 ⟨none,none,.st 1 (.t 25) (.t 24)⟩])
 (.reg 6 none [0,1,5,6] [
 ⟨some 26,none,.mv (.t 1)⟩,
 ⟨some 27,none,.mv (.t 0)⟩,
 ⟨some 28,none,.mv (.t 6)⟩,
 ⟨some 29,none,.ixL 1 (.t 27) (.t 28)⟩,
 ⟨some 30,none,.ld none (.t 29)⟩,
 ⟨some 31,none,.bin .quo false (.t 26) (.t 30)⟩,
 ⟨some 1,none,.mv (.t 31)⟩])))
 (.reg 4 none [0,1,5,6] [
 ⟨some 15,none,.mv (.t 6)⟩,
 ⟨some 16,none,.bin .sub false (.t 15) (.k (.v (.int .i64 1)))⟩,
 ⟨some 6,none,.mv (.t 16)⟩]))))))
 (.seq
 (.reg 7 none [4] [
 ⟨some 32,none,.mv (.t 5)⟩,
 ⟨some 4,none,.mv (.t 32)⟩])
 .ret))))
theorem fn_cells_places:FnIR Tryd.prog F_cells_places 33 [(0,[0,1]),(1,[0,1,5]),(2,[0,1,5,6]),(3,[0,1,5,6,14]),(4,[0,1,5,6]),(5,[0,1,5,6]),(6,[0,1,5,6]),(7,[4])] ir_cells_places [(.tmp 4)]:=
 ⟨Tryd.f80,_,Tryd.func80,rfl,by kernel_rfl,rfl,by kernel_rfl,by kernel_rfl⟩
def ir_slices_Contains_int:RC:=
 (.seq
 (.reg 0 none [0,1] [
 ⟨some 4,none,.mv (.k (.v (.bool false)))⟩])
 (.seq
 (.reg 1 none [4] [
 ⟨some 5,none,.mv (.t 0)⟩,
 ⟨some 6,none,.mv (.t 1)⟩,
 ⟨some 7,none,.call (.k (.clo F_slices_Index_int [])) [.t 5,.t 6]⟩,
 ⟨some 8,none,.bin .geq false (.t 7) (.k (.v (.int .i64 0)))⟩,
 ⟨some 4,none,.mv (.t 8)⟩])
 .ret))
theorem fn_slices_Contains_int:FnIR Tryd.prog F_slices_Contains_int 9 [(0,[0,1]),(1,[4])] ir_slices_Contains_int [(.tmp 4)]:=
 ⟨Tryd.f81,_,Tryd.func81,rfl,by kernel_rfl,rfl,by kernel_rfl,by kernel_rfl⟩
def ir_cells_number:RC:=
 (.seq
 (.reg 0 none [0,1] [
 ⟨some 4,none,.mv (.k (.v (.int .i64 0)))⟩])
 (.seq
 (.reg 1 none [0,1,5] [
 ⟨some 5,none,.mv (.k (.v (.int .i64 0)))⟩])
 (.seq
 (.seq
 (.reg 2 none [1,5,8,9,10] [
 ⟨some 8,none,.mv (.t 0)⟩,
 ⟨some 9,none,.lenL (.t 8)⟩,
 ⟨some 10,none,.mv (.k (.v (.int .i64 0)))⟩])
 (.block 0
 (.loop
 (.seq
 (.reg 3 none [1,5,8,9,10,11] [
 ⟨some 11,none,.bin .lss false (.t 10) (.t 9)⟩])
 (.seq
 (.cond (.t 11)
 .skip
 (.exit 0))
 (.seq
 (.block 1
 (.seq
 (.reg 4 none [1,5,6,7,8,9,10] [
 ⟨some 12,none,.mv (.t 10)⟩,
 ⟨some 13,none,.ixL 1 (.t 8) (.t 10)⟩,
 ⟨some 14,none,.ld none (.t 13)⟩,
 ⟨some 6,none,.mv (.t 12)⟩,
 ⟨some 7,none,.mv (.t 14)⟩])
 (.reg 5 none [1,5,8,9,10] [
 ⟨some 15,none,.mv (.t 5)⟩,
 ⟨some 16,none,.mv (.t 7)⟩,
 ⟨some 17,none,.bin .mul false (.t 15) (.t 16)⟩,
 ⟨some 18,none,.mv (.t 1)⟩,
 ⟨some 19,none,.mv (.t 6)⟩,
 ⟨some 20,none,.ixL 1 (.t 18) (.t 19)⟩,
 ⟨some 21,none,.ld none (.t 20)⟩,
 ⟨some 22,none,.bin .add false (.t 17) (.t 21)⟩,
 ⟨some 5,none,.mv (.t 22)⟩])))
 (.reg 6 none [1,5,8,9,10] [
 ⟨some 23,none,.bin .add false (.t 10) (.k (.v (.int .i64 1)))⟩,
 ⟨some 10,none,.mv (.t 23)⟩])))))))
 (.seq
 (.reg 7 none [4] [
 ⟨some 24,none,.mv (.t 5)⟩,
 ⟨some 4,none,.mv (.t 24)⟩])
 .ret))))
theorem fn_cells_number:FnIR Tryd.prog F_cells_number 25 [(0,[0,1]),(1,[0,1,5]),(2,[1,5,8,9,10]),(3,[1,5,8,9,10,11]),(4,[1,5,6,7,8,9,10]),(5,[1,5,8,9,10]),(6,[1,5,8,9,10]),(7,[4])] ir_cells_number [(.tmp 4)]:=
 ⟨Tryd.f82,_,Tryd.func82,rfl,by kernel_rfl,rfl,by kernel_rfl,by kernel_rfl⟩
def ir_internal_strconv_AppendUint:RC:=
 (.seq
 (.reg 0 none [0,1,2] [
 ⟨some 6,none,.mv (.k (.v (.slice none 0 0)))⟩])
 (.seq
 (.seq
 (.reg 1 none [0,1,2,10] [
 ⟨some 9,none,.mv (.t 2)⟩,
 ⟨some 10,none,.bin .eql false (.t 9) (.k (.v (.int .i64 10)))⟩])
 (.cond (.t 10)
 (.seq
 (.seq
 (.reg 2 none [0,1,12] [
 ⟨some 11,none,.mv (.t 1)⟩,
 ⟨some 12,none,.bin .lss false (.t 11) (.k (.v (.int .u64 100)))⟩])
 (.cond (.t 12)
 (.seq
 (.reg 3 none [6] [
 ⟨some 13,none,.mv (.t 0)⟩,
 ⟨some 14,none,.mv (.t 1)⟩,
 ⟨some 15,none,.cvI .i64 (.t 14)⟩,
 ⟨some 16,none,.call (.k (.clo F_internal_strconv_small [])) [.t 15]⟩,
 ⟨some 17,none,.app 1 1 true (.t 13) (.t 16)⟩,
 ⟨some 6,none,.mv (.t 17)⟩])
 .ret)
 .skip))
 (.seq
 (.reg 4 none [1] [
 ⟨some 7,none,.new (.agg [.v (.int .u8 0),.v (.int .u8 0),.v (.int .u8 0),.v (.int .u8 0),.v (.int .u8 0),.v (.int .u8 0),.v (.int .u8 0),.v (.int .u8 0),.v (.int .u8 0),.v (.int .u8 0),.v (.int .u8 0),.v (.int .u8 0),.v (.int .u8 0),.v (.int .u8 0),.v (.int .u8 0),.v (.int .u8 0),.v (.int .u8 0),.v (.int .u8 0),.v (.int .u8 0),.v (.int .u8 0),.v (.int .u8 0),.v (.int .u8 0),.v (.int .u8 0),.v (.int .u8 0)])⟩])
 (.seq
 (.reg 5 none [] [
 ⟨some 18,none,.mv (.t 1)⟩,
 ⟨some 19,none,.call (.k (.clo F_internal_strconv_numDigits [])) [.t 18]⟩,
 ⟨some 8,none,.mv (.t 19)⟩])
 (.seq
 .stuck
 (.seq
 .stuck
 .ret)))))
 .skip))
 (.seq
 (.reg 8 none [0] [
 ⟨some 29,none,.mv (.t 0)⟩,
 ⟨some 30,none,.mv (.t 1)⟩,
 ⟨some 31,none,.mv (.t 2)⟩,
 ⟨some 32,none,.call (.k (.clo F_internal_strconv_formatBits [])) [.t 29,.t 30,.t 31,.k (.v (.bool false)),.k (.v (.bool true))]⟩,
 ⟨some 28,none,.mv (.t 32)⟩,
 ⟨some 33,none,.ex (.t 28) 0⟩,
 ⟨some 34,none,.ex (.t 28) 1⟩,
 ⟨some 0,none,.mv (.t 33)⟩])
 (.seq
 (.reg 9 none [6] [
 ⟨some 35,none,.mv (.t 0)⟩,
 ⟨some 6,none,.mv (.t 35)⟩])
 .ret))))
theorem fn_internal_strconv_AppendUint:FnIR Tryd.prog F_internal_strconv_AppendUint 36 [(0,[0,1,2]),(1,[0,1,2,10]),(2,[0,1,12]),(3,[6]),(4,[1]),(8,[0]),(9,[6])] ir_internal_strconv_AppendUint [(.tmp 6)]:=
 ⟨Tryd.f83,_,Tryd.func83,rfl,by kernel_rfl,rfl,by kernel_rfl,by kernel_rfl⟩
def ir_slices_siftDownOrdered_int:RC:=
 (.seq
 (.reg 0 none [0,2,3,8] [
 ⟨some 10,none,.mv (.t 1)⟩,
 ⟨some 8,none,.mv (.t 10)⟩])
 (.block 0
 (.loop
 (.block 1
 (.seq
 (.reg 1 none [0,2,3,8,9] [
 ⟨some 11,none,.mv (.t 8)⟩,
 ⟨some 12,none,.bin .mul false (.k (.v (.int .i64 2))) (.t 11)⟩,
 ⟨some 13,none,.bin .add false (.t 12) (.k (.v (.int .i64 1)))⟩,
 ⟨some 9,none,.mv (.t 13)⟩])
 (.seq
 (.seq
 (.reg 2 none [0,2,3,8,9,16] [
 ⟨some 14,none,.mv (.t 9)⟩,
 ⟨some 15,none,.mv (.t 2)⟩,
 ⟨some 16,none,.bin .geq false (.t 14) (.t 15)⟩])
 (.cond (.t 16)
 (.exit 0)
 .skip))
 (.seq
 (.seq
 (.reg 3 (some [0,1,0,7,15,31,31,31,223,511,1023,31,31,31,12319,28703,63519,129055,262143,524287]) [0,2,3,8,9,36] [
 ⟨some 17,none,.mv (.t 9)⟩,
 ⟨some 18,none,.bin .add false (.t 17) (.k (.v (.int .i64 1)))⟩,
 ⟨some 19,none,.mv (.t 2)⟩,
 ⟨some 20,none,.bin .lss false (.t 18) (.t 19)⟩,
 ⟨some 21,none,.mv (.t 20)⟩,
 ⟨some 22,some (21,true),.mv (.t 0)⟩,
 ⟨some 23,some (21,true),.mv (.t 3)⟩,
 ⟨some 24,some (21,true),.mv (.t 9)⟩,
 ⟨some 25,some (21,true),.bin .add false (.t 23) (.t 24)⟩,
 ⟨some 26,some (21,true),.ixL 1 (.t 22) (.t 25)⟩,
 ⟨some 27,some (21,true),.ld none (.t 26)⟩,
 ⟨some 28,some (21,true),.mv (.t 0)⟩,
 ⟨some 29,some (21,true),.mv (.t 3)⟩,
 ⟨some 30,some (21,true),.mv (.t 9)⟩,
 ⟨some 31,some (21,true),.bin .add false (.t 29) (.t 30)⟩,
 ⟨some 32,some (21,true),.bin .add false (.t 31) (.k (.v (.int .i64 1)))⟩,
 ⟨some 33,some (21,true),.ixL 1 (.t 28) (.t 32)⟩,
 ⟨some 34,some (21,true),.ld none (.t 33)⟩,
 ⟨some 35,some (21,true),.call (.k (.clo F_cmp_Less_int [])) [.t 27,.t 34]⟩,
 ⟨some 36,none,.pick (.t 21) (.t 35) (.k (.v (.bool false)))⟩])
 (.cond (.t 36)
 (.reg 4 none [0,2,3,8,9] [
 ⟨some 37,none,.mv (.t 9)⟩,
 ⟨some 38,none,.bin .add false (.t 37) (.k (.v (.int .i64 1)))⟩,
 ⟨some 9,none,.mv (.t 38)⟩])
 .skip))
 (.seq
 (.seq
 (.reg 5 (some [0,0,0,6,15,31,0,0,0,384,960,1984,4095,8191]) [0,2,3,8,9,52] [
 ⟨some 39,none,.mv (.t 0)⟩,
 ⟨some 40,none,.mv (.t 3)⟩,
 ⟨some 41,none,.mv (.t 8)⟩,
 ⟨some 42,none,.bin .add false (.t 40) (.t 41)⟩,
 ⟨some 43,none,.ixL 1 (.t 39) (.t 42)⟩,
 ⟨some 44,none,.ld none (.t 43)⟩,
 ⟨some 45,none,.mv (.t 0)⟩,
 ⟨some 46,none,.mv (.t 3)⟩,
 ⟨some 47,none,.mv (.t 9)⟩,
 ⟨some 48,none,.bin .add false (.t 46) (.t 47)⟩,
 ⟨some 49,none,.ixL 1 (.t 45) (.t 48)⟩,
 ⟨some 50,none,.ld none (.t 49)⟩,
 ⟨some 51,none,.call (.k (.clo F_cmp_Less_int [])) [.t 44,.t 50]⟩,
 ⟨some 52,none,.un .not (.t 51)⟩])
 (.cond (.t 52)
 .ret
 .skip))
 (.seq
 (.reg 6 (some [0,0,0,6,0,0,0,96,0,0,0,1536,3840,7936,0,0,0,98304,245760,507904,1048335,2096911,4194303,8388607]) [0,2,3,9] [
 ⟨some 53,none,.mv (.t 0)⟩,
 ⟨some 54,none,.mv (.t 3)⟩,
 ⟨some 55,none,.mv (.t 8)⟩,
 ⟨some 56,none,.bin .add false (.t 54) (.t 55)⟩,
 ⟨some 57,none,.mv (.t 0)⟩,
 ⟨some 58,none,.mv (.t 3)⟩,
 ⟨some 59,none,.mv (.t 9)⟩,
 ⟨some 60,none,.bin .add false (.t 58) (.t 59)⟩,
 ⟨some 61,none,.mv (.t 0)⟩,
 ⟨some 62,none,.mv (.t 3)⟩,
 ⟨some 63,none,.mv (.t 9)⟩,
 ⟨some 64,none,.bin .add false (.t 62) (.t 63)⟩,
 ⟨some 65,none,.ixL 1 (.t 61) (.t 64)⟩,
 ⟨some 66,none,.ld none (.t 65)⟩,
 ⟨some 67,none,.mv (.t 0)⟩,
 ⟨some 68,none,.mv (.t 3)⟩,
 ⟨some 69,none,.mv (.t 8)⟩,
 ⟨some 70,none,.bin .add false (.t 68) (.t 69)⟩,
 ⟨some 71,none,.ixL 1 (.t 67) (.t 70)⟩,
 ⟨some 72,none,.ld none (.t 71)⟩,
 ⟨some 73,none,.ixL 1 (.t 53) (.t 56)⟩,
 ⟨none,none,.st 1 (.t 73) (.t 66)⟩,
 ⟨some 74,none,.ixL 1 (.t 57) (.t 60)⟩,
 ⟨none,none,.st 1 (.t 74) (.t 72)⟩])
 (.reg 7 none [0,2,3,8] [
 ⟨some 75,none,.mv (.t 9)⟩,
 ⟨some 8,none,.mv (.t 75)⟩]))))))))))
theorem fn_slices_siftDownOrdered_int:FnIR Tryd.prog F_slices_siftDownOrdered_int 76 [(0,[0,2,3,8]),(1,[0,2,3,8,9]),(2,[0,2,3,8,9,16]),(3,[0,2,3,8,9,36]),(4,[0,2,3,8,9]),(5,[0,2,3,8,9,52]),(6,[0,2,3,9]),(7,[0,2,3,8])] ir_slices_siftDownOrdered_int []:=
 ⟨Tryd.f84,_,Tryd.func84,rfl,by kernel_rfl,rfl,by kernel_rfl,by kernel_rfl⟩
def ir_slices_nextPowerOfTwo:RC:=
 (.seq
 (.reg 0 none [0] [
 ⟨some 2,none,.mv (.k (.v (.int .u64 0)))⟩])
 (.seq
 (.reg 1 none [2] [
 ⟨some 3,none,.mv (.t 0)⟩,
 ⟨some 4,none,.cvI .u64 (.t 3)⟩,
 ⟨some 5,none,.call (.k (.clo F_math_bits_Len [])) [.t 4]⟩,
 ⟨some 6,none,.bin .shl false (.k (.v (.int .u64 1))) (.t 5)⟩,
 ⟨some 2,none,.mv (.t 6)⟩])
 .ret))
theorem fn_slices_nextPowerOfTwo:FnIR Tryd.prog F_slices_nextPowerOfTwo 7 [(0,[0]),(1,[2])] ir_slices_nextPowerOfTwo [(.tmp 2)]:=
 ⟨Tryd.f85,_,Tryd.func85,rfl,by kernel_rfl,rfl,by kernel_rfl,by kernel_rfl⟩
def ir_slices_xorshift_Next:RC:=
 (.seq
 (.reg 0 none [0] [
 ⟨some 2,none,.mv (.k (.v (.int .u64 0)))⟩])
 (.seq
 (.reg 1 (some [0,1,3,0,8,24,56,127,255,511]) [0] [
 ⟨some 3,none,.mv (.t 0)⟩,
 ⟨some 4,none,.nc (.t 3)⟩,
 ⟨some 5,none,.ld none (.t 4)⟩,
 ⟨some 6,none,.mv (.t 0)⟩,
 ⟨some 7,none,.nc (.t 6)⟩,
 ⟨some 8,none,.ld none (.t 7)⟩,
 ⟨some 9,none,.bin .shl false (.t 8) (.k (.v (.int .u64 13)))⟩,
 ⟨some 10,none,.bin .xor false (.t 5) (.t 9)⟩,
 ⟨some 11,none,.nc (.t 3)⟩,
 ⟨none,none,.st 1 (.t 11) (.t 10)⟩])
 (.seq
 (.reg 2 (some [0,1,3,0,8,24,56,127,255,511]) [0] [
 ⟨some 12,none,.mv (.t 0)⟩,
 ⟨some 13,none,.nc (.t 12)⟩,
 ⟨some 14,none,.ld none (.t 13)⟩,
 ⟨some 15,none,.mv (.t 0)⟩,
 ⟨some 16,none,.nc (.t 15)⟩,
 ⟨some 17,none,.ld none (.t 16)⟩,
 ⟨some 18,none,.bin .shr false (.t 17) (.k (.v (.int .u64 7)))⟩,
 ⟨some 19,none,.bin .xor false (.t 14) (.t 18)⟩,
 ⟨some 20,none,.nc (.t 12)⟩,
 ⟨none,none,.st 1 (.t 20) (.t 19)⟩])
 (.seq
 (.reg 3 (some [0,1,3,0,8,24,56,127,255,511]) [0] [
 ⟨some 21,none,.mv (.t 0)⟩,
 ⟨some 22,none,.nc (.t 21)⟩,
 ⟨some 23,none,.ld none (.t 22)⟩,
 ⟨some 24,none,.mv (.t 0)⟩,
 ⟨some 25,none,.nc (.t 24)⟩,
 ⟨some 26,none,.ld none (.t 25)⟩,
 ⟨some 27,none,.bin .shl false (.t 26) (.k (.v (.int .u64 17)))⟩,
 ⟨some 28,none,.bin .xor false (.t 23) (.t 27)⟩,
 ⟨some 29,none,.nc (.t 21)⟩,
 ⟨none,none,.st 1 (.t 29) (.t 28)⟩])
 (.seq
 (.reg 4 none [2] [
 ⟨some 30,none,.mv (.t 0)⟩,
 ⟨some 31,none,.nc (.t 30)⟩,
 ⟨some 32,none,.ld none (.t 31)⟩,
 ⟨some 2,none,.mv (.t 32)⟩])
 .ret)))))
theorem fn_slices_xorshift_Next:FnIR Tryd.prog F_slices_xorshift_Next 33 [(0,[0]),(1,[0]),(2,[0]),(3,[0]),(4,[2])] ir_slices_xorshift_Next [(.tmp 2)]:=
 ⟨Tryd.f86,_,Tryd.func86,rfl,by kernel_rfl,rfl,by kernel_rfl,by kernel_rfl⟩
def ir_slices_medianAdjacentOrdered_int:RC:=
 (.seq
 (.reg 0 none [0,1,2] [
 ⟨some 6,none,.mv (.k (.v (.int .i64 0)))⟩])
 (.seq
 (.reg 1 none [6] [
 ⟨some 7,none,.mv (.t 0)⟩,
 ⟨some 8,none,.mv (.t 1)⟩,
 ⟨some 9,none,.bin .sub false (.t 8) (.k (.v (.int .i64 1)))⟩,
 ⟨some 10,none,.mv (.t 1)⟩,
 ⟨some 11,none,.mv (.t 1)⟩,
 ⟨some 12,none,.bin .add false (.t 11) (.k (.v (.int .i64 1)))⟩,
 ⟨some 13,none,.mv (.t 2)⟩,
 ⟨some 14,none,.call (.k (.clo F_slices_medianOrdered_int [])) [.t 7,.t 9,.t 10,.t 12,.t 13]⟩,
 ⟨some 6,none,.mv (.t 14)⟩])
 .ret))
theorem fn_slices_medianAdjacentOrdered_int:FnIR Tryd.prog F_slices_medianAdjacentOrdered_int 15 [(0,[0,1,2]),(1,[6])] ir_slices_medianAdjacentOrdered_int [(.tmp 6)]:=
 ⟨Tryd.f87,_,Tryd.func87,rfl,by kernel_rfl,rfl,by kernel_rfl,by kernel_rfl⟩
def ir_slices_medianOrdered_int:RC:=
 (.seq
 (.reg 0 none [0,1,2,3,4] [
 ⟨some 10,none,.mv (.k (.v (.int .i64 0)))⟩])
 (.seq
 (.reg 1 none [0,1,2,3,4] [
 ⟨some 12,none,.mv (.t 0)⟩,
 ⟨some 13,none,.mv (.t 1)⟩,
 ⟨some 14,none,.mv (.t 2)⟩,
 ⟨some 15,none,.mv (.t 4)⟩,
 ⟨some 16,none,.call (.k (.clo F_slices_order2Ordered_int [])) [.t 12,.t 13,.t 14,.t 15]⟩,
 ⟨some 11,none,.mv (.t 16)⟩,
 ⟨some 17,none,.ex (.t 11) 0⟩,
 ⟨some 18,none,.ex (.t 11) 1⟩,
 ⟨some 1,none,.mv (.t 17)⟩,
 ⟨some 2,none,.mv (.t 18)⟩])
 (.seq
 (.reg 2 none [0,1,2,4] [
 ⟨some 20,none,.mv (.t 0)⟩,
 ⟨some 21,none,.mv (.t 2)⟩,
 ⟨some 22,none,.mv (.t 3)⟩,
 ⟨some 23,none,.mv (.t 4)⟩,
 ⟨some 24,none,.call (.k (.clo F_slices_order2Ordered_int [])) [.t 20,.t 21,.t 22,.t 23]⟩,
 ⟨some 19,none,.mv (.t 24)⟩,
 ⟨some 25,none,.ex (.t 19) 0⟩,
 ⟨some 26,none,.ex (.t 19) 1⟩,
 ⟨some 2,none,.mv (.t 25)⟩,
 ⟨some 3,none,.mv (.t 26)⟩])
 (.seq
 (.reg 3 none [2] [
 ⟨some 28,none,.mv (.t 0)⟩,
 ⟨some 29,none,.mv (.t 1)⟩,
 ⟨some 30,none,.mv (.t 2)⟩,
 ⟨some 31,none,.mv (.t 4)⟩,
 ⟨some 32,none,.call (.k (.clo F_slices_order2Ordered_int [])) [.t 28,.t 29,.t 30,.t 31]⟩,
 ⟨some 27,none,.mv (.t 32)⟩,
 ⟨some 33,none,.ex (.t 27) 0⟩,
 ⟨some 34,none,.ex (.t 27) 1⟩,
 ⟨some 1,none,.mv (.t 33)⟩,
 ⟨some 2,none,.mv (.t 34)⟩])
 (.seq
 (.reg 4 none [10] [
 ⟨some 35,none,.mv (.t 2)⟩,
 ⟨some 10,none,.mv (.t 35)⟩])
 .ret)))))
theorem fn_slices_medianOrdered_int:FnIR Tryd.prog F_slices_medianOrdered_int 36 [(0,[0,1,2,3,4]),(1,[0,1,2,3,4]),(2,[0,1,2,4]),(3,[2]),(4,[10])] ir_slices_medianOrdered_int [(.tmp 10)]:=
 ⟨Tryd.f88,_,Tryd.func88,rfl,by kernel_rfl,rfl,by kernel_rfl,by kernel_rfl⟩
def ir_cmp_isNaN_int:RC:=
 (.seq
 (.reg 0 none [0] [
 ⟨some 2,none,.mv (.k (.v (.bool false)))⟩])
 (.seq
 (.reg 1 none [2] [
 ⟨some 3,none,.mv (.t 0)⟩,
 ⟨some 4,none,.mv (.t 0)⟩,
 ⟨some 5,none,.bin .neq false (.t 3) (.t 4)⟩,
 ⟨some 2,none,.mv (.t 5)⟩])
 .ret))
theorem fn_cmp_isNaN_int:FnIR Tryd.prog F_cmp_isNaN_int 6 [(0,[0]),(1,[2])] ir_cmp_isNaN_int [(.tmp 2)]:=
 ⟨Tryd.f89,_,Tryd.func89,rfl,by kernel_rfl,rfl,by kernel_rfl,by kernel_rfl⟩
def ir_slices_Index_int:RC:=
 (.seq
 (.reg 0 none [0,1] [
 ⟨some 4,none,.mv (.k (.v (.int .i64 0)))⟩])
 (.seq
 (.seq
 (.reg 1 none [0,1,7,8] [
 ⟨some 6,none,.mv (.t 0)⟩,
 ⟨some 7,none,.lenL (.t 6)⟩,
 ⟨some 8,none,.mv (.k (.v (.int .i64 0)))⟩])
 (.block 0
 (.loop
 (.seq
 (.reg 2 none [0,1,7,8,9] [
 ⟨some 9,none,.bin .lss false (.t 8) (.t 7)⟩])
 (.seq
 (.cond (.t 9)
 .skip
 (.exit 0))
 (.seq
 (.block 1
 (.seq
 (.reg 3 none [0,1,5,7,8] [
 ⟨some 10,none,.mv (.t 8)⟩,
 ⟨some 5,none,.mv (.t 10)⟩])
 (.seq
 (.reg 4 none [0,1,5,7,8,16] [
 ⟨some 11,none,.mv (.t 1)⟩,
 ⟨some 12,none,.mv (.t 0)⟩,
 ⟨some 13,none,.mv (.t 5)⟩,
 ⟨some 14,none,.ixL 1 (.t 12) (.t 13)⟩,
 ⟨some 15,none,.ld none (.t 14)⟩,
 ⟨some 16,none,.bin .eql false (.t 11) (.t 15)⟩])
 (.cond (.t 16)
 (.seq
 (.reg 5 none [4] [
 ⟨some 17,none,.mv (.t 5)⟩,
 ⟨some 4,none,.mv (.t 17)⟩])
 .ret)
 .skip))))
 (.reg 6 none [0,1,7,8] [
 ⟨some 18,none,.bin .add false (.t 8) (.k (.v (.int .i64 1)))⟩,
 ⟨some 8,none,.mv (.t 18)⟩])))))))
 (.seq
 (.reg 7 none [4] [
 ⟨some 4,none,.mv (.k (.v (.int .i64 (-1))))⟩])
 .ret)))
theorem fn_slices_Index_int:FnIR Tryd.prog F_slices_Index_int 19 [(0,[0,1]),(1,[0,1,7,8]),(2,[0,1,7,8,9]),(3,[0,1,5,7,8]),(4,[0,1,5,7,8,16]),(5,[4]),(6,[0,1,7,8]),(7,[4])] ir_slices_Index_int [(.tmp 4)]:=
 ⟨Tryd.f90,_,Tryd.func90,rfl,by kernel_rfl,rfl,by kernel_rfl,by kernel_rfl⟩
def ir_internal_strconv_small:RC:=
 (.seq
 (.reg 0 none [0] [
 ⟨some 2,none,.mv (.k (.v (.string ⟨#[]⟩)))⟩])
 (.seq
 (.seq
 (.reg 1 none [0,4] [
 ⟨some 3,none,.mv (.t 0)⟩,
 ⟨some 4,none,.bin .lss false (.t 3) (.k (.v (.int .i64 10)))⟩])
 (.cond (.t 4)
 (.seq
 (.reg 2 none [2] [
 ⟨some 5,none,.mv (.t 0)⟩,
 ⟨some 6,none,.mv (.t 0)⟩,
 ⟨some 7,none,.bin .add false (.t 6) (.k (.v (.int .i64 1)))⟩,
 ⟨some 8,none,.slS (.k (.v (.string ⟨#[48,49,50,51,52,53,54,55,56,57,97,98,99,100,101,102,103,104,105,106,107,108,109,110,111,112,113,114,115,116,117,118,119,120,121,122]⟩))) (some (.t 5)) (some (.t 7))⟩,
 ⟨some 2,none,.mv (.t 8)⟩])
 .ret)
 .skip))
 (.seq
 (.reg 3 none [2] [
 ⟨some 9,none,.mv (.t 0)⟩,
 ⟨some 10,none,.bin .mul false (.t 9) (.k (.v (.int .i64 2)))⟩,
 ⟨some 11,none,.mv (.t 0)⟩,
 ⟨some 12,none,.bin .mul false (.t 11) (.k (.v (.int .i64 2)))⟩,
 ⟨some 13,none,.bin .add false (.t 12) (.k (.v (.int .i64 2)))⟩,
 ⟨some 14,none,.slS (.k (.v (.string ⟨#[48,48,48,49,48,50,48,51,48,52,48,53,48,54,48,55,48,56,48,57,49,48,49,49,49,50,49,51,49,52,49,53,49,54,49,55,49,56,49,57,50,48,50,49,50,50,50,51,50,52,50,53,50,54,50,55,50,56,50,57,51,48,51,49,51,50,51,51,51,52,51,53,51,54,51,55,51,56,51,57,52,48,52,49,52,50,52,51,52,52,52,53,52,54,52,55,52,56,52,57,53,48,53,49,53,50,53,51,53,52,53,53,53,54,53,55,53,56,53,57,54,48,54,49,54,50,54,51,54,52,54,53,54,54,54,55,54,56,54,57,55,48,55,49,55,50,55,51,55,52,55,53,55,54,55,55,55,56,55,57,56,48,56,49,56,50,56,51,56,52,56,53,56,54,56,55,56,56,56,57,57,48,57,49,57,50,57,51,57,52,57,53,57,54,57,55,57,56,57,57]⟩))) (some (.t 10)) (some (.t 13))⟩,
 ⟨some 2,none,.mv (.t 14)⟩])
 .ret)))
theorem fn_internal_strconv_small:FnIR Tryd.prog F_internal_strconv_small 15 [(0,[0]),(1,[0,4]),(2,[2]),(3,[2])] ir_internal_strconv_small [(.tmp 2)]:=
 ⟨Tryd.f91,_,Tryd.func91,rfl,by kernel_rfl,rfl,by kernel_rfl,by kernel_rfl⟩
def ir_slices_order2Ordered_int:RC:=
 (.seq
 (.reg 0 none [0,1,2,3] [
 ⟨some 8,none,.mv (.k (.v (.int .i64 0)))⟩,
 ⟨some 9,none,.mv (.k (.v (.int .i64 0)))⟩])
 (.seq
 (.seq
 (.reg 1 (some [0,0,3,7,0,0,48,112,255]) [1,2,3,18] [
 ⟨some 10,none,.mv (.t 0)⟩,
 ⟨some 11,none,.mv (.t 2)⟩,
 ⟨some 12,none,.ixL 1 (.t 10) (.t 11)⟩,
 ⟨some 13,none,.ld none (.t 12)⟩,
 ⟨some 14,none,.mv (.t 0)⟩,
 ⟨some 15,none,.mv (.t 1)⟩,
 ⟨some 16,none,.ixL 1 (.t 14) (.t 15)⟩,
 ⟨some 17,none,.ld none (.t 16)⟩,
 ⟨some 18,none,.call (.k (.clo F_cmp_Less_int [])) [.t 13,.t 17]⟩])
 (.cond (.t 18)
 (.seq
 (.reg 2 none [1,2] [
 ⟨some 19,none,.mv (.t 3)⟩,
 ⟨some 20,none,.nc (.t 19)⟩,
 ⟨some 21,none,.ld none (.t 20)⟩,
 ⟨some 22,none,.bin .add false (.t 21) (.k (.v (.int .i64 1)))⟩,
 ⟨some 23,none,.nc (.t 19)⟩,
 ⟨none,none,.st 1 (.t 23) (.t 22)⟩])
 (.seq
 (.reg 3 none [8,9] [
 ⟨some 24,none,.mv (.t 2)⟩,
 ⟨some 25,none,.mv (.t 1)⟩,
 ⟨some 8,none,.mv (.t 24)⟩,
 ⟨some 9,none,.mv (.t 25)⟩])
 .ret))
 .skip))
 (.seq
 (.reg 4 none [8,9] [
 ⟨some 26,none,.mv (.t 1)⟩,
 ⟨some 27,none,.mv (.t 2)⟩,
 ⟨some 8,none,.mv (.t 26)⟩,
 ⟨some 9,none,.mv (.t 27)⟩])
 .ret)))
theorem fn_slices_order2Ordered_int:FnIR Tryd.prog F_slices_order2Ordered_int 28 [(0,[0,1,2,3]),(1,[1,2,3,18]),(2,[1,2]),(3,[8,9]),(4,[8,9])] ir_slices_order2Ordered_int [(.tmp 8),(.tmp 9)]:=
 ⟨Tryd.f95,_,Tryd.func95,rfl,by kernel_rfl,rfl,by kernel_rfl,by kernel_rfl⟩
end Go.Proofs
