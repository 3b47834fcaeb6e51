import Derived.Test.YtedgedggeogefaaChecked
import Derived.Test.YtedgedggeogefaaZzS
namespace Go.Proofs
open Go.TL
abbrev F_law39_ApprovalsEnd:FuncId:=3
abbrev F_law39_ApprovalsOrder:FuncId:=4
abbrev F_law39_ApprovalsAnswers:FuncId:=5
abbrev F_made_Approvals:FuncId:=6
abbrev F_draw_New:FuncId:=7
abbrev F_approvals_Active:FuncId:=8
abbrev F_approvals_End:FuncId:=9
abbrev F_approvals_Check:FuncId:=10
abbrev F_law39_awake:FuncId:=11
abbrev F_approvals_Add:FuncId:=12
abbrev F_ref39_Same:FuncId:=13
abbrev F_draw_Mod:FuncId:=14
abbrev F_made_Name:FuncId:=15
abbrev F_draw_Codes_Next:FuncId:=16
abbrev F_ref39_Check:FuncId:=17
abbrev F_ref39_Active:FuncId:=18
abbrev F_ref39_End:FuncId:=19
abbrev F_ref39_Add:FuncId:=20
abbrev F_approvals_Expired:FuncId:=21
abbrev F_ref39_Expired:FuncId:=22
abbrev F_ref36_Texts:FuncId:=23
abbrev F_ref24_Decimal:FuncId:=24
abbrev F_draw_Codes_Range:FuncId:=25
abbrev F_approvals_find:FuncId:=26
abbrev F_slices_Clone_Approval:FuncId:=27
abbrev F_slices_Delete_Approval:FuncId:=28
abbrev F_approvals_single:FuncId:=29
abbrev F_approvals_compare:FuncId:=30
abbrev F_approvals_overlaps:FuncId:=31
abbrev F_slices_BinarySearchFunc_Approval_Approval_Approval:FuncId:=32
abbrev F_approvals_Add_1:FuncId:=33
abbrev F_slices_Insert_Approval:FuncId:=34
abbrev F_ref39_named:FuncId:=35
abbrev F_ref39_proper:FuncId:=36
abbrev F_ref39_before:FuncId:=37
abbrev F_ref39_meets:FuncId:=38
abbrev F_slices_Sort_string:FuncId:=39
abbrev F_slices_Compact_string:FuncId:=40
abbrev F_slices_IndexFunc_Approval:FuncId:=41
abbrev F_approvals_find_1:FuncId:=42
abbrev F_codes_Name:FuncId:=43
abbrev F_cmp_Or_int:FuncId:=44
abbrev F_cmp_Compare_int:FuncId:=45
abbrev F_cmp_Compare_string:FuncId:=46
abbrev F_slices_ContainsFunc_Approval:FuncId:=47
abbrev F_approvals_overlaps_1:FuncId:=48
abbrev F_slices_rotateRight_Approval:FuncId:=50
abbrev F_ref35_Name:FuncId:=51
abbrev F_slices_pdqsortOrdered_string:FuncId:=52
abbrev F_math_bits_Len:FuncId:=53
abbrev F_cmp_isNaN_int:FuncId:=54
abbrev F_cmp_isNaN_string:FuncId:=55
abbrev F_slices_rotateLeft_Approval:FuncId:=56
abbrev F_ref01_Name:FuncId:=57
abbrev F_slices_insertionSortOrdered_string:FuncId:=58
abbrev F_slices_heapSortOrdered_string:FuncId:=59
abbrev F_slices_breakPatternsOrdered_string:FuncId:=60
abbrev F_slices_choosePivotOrdered_string:FuncId:=61
abbrev F_slices_reverseRangeOrdered_string:FuncId:=62
abbrev F_slices_partialInsertionSortOrdered_string:FuncId:=63
abbrev F_cmp_Less_string:FuncId:=64
abbrev F_slices_partitionEqualOrdered_string:FuncId:=65
abbrev F_slices_partitionOrdered_string:FuncId:=66
abbrev F_math_bits_Len32:FuncId:=67
abbrev F_math_bits_Len64:FuncId:=68
abbrev F_slices_Reverse_Approval:FuncId:=69
abbrev F_slices_siftDownOrdered_string:FuncId:=70
abbrev F_slices_nextPowerOfTwo:FuncId:=71
abbrev F_slices_xorshift_Next:FuncId:=72
abbrev F_slices_medianAdjacentOrdered_string:FuncId:=73
abbrev F_slices_medianOrdered_string:FuncId:=74
abbrev F_slices_order2Ordered_string:FuncId:=75
abbrev F_slices_overlaps_Approval:FuncId:=49
abbrev F_draw_Codes_Secret:FuncId:=91
def ir_law39_ApprovalsEnd:RC:=
 (.seq
 (.reg 0 none [0,1] [
 ⟨some 4,none,.mv (.k (.v (.bool false)))⟩])
 (.seq
 (.reg 1 none [1,5] [
 ⟨some 21,none,.mv (.t 0)⟩,
 ⟨some 22,none,.call (.k (.clo F_draw_New [])) [.t 21]⟩,
 ⟨some 23,none,.call (.k (.clo F_made_Approvals [])) [.t 22]⟩,
 ⟨some 5,none,.mv (.t 23)⟩])
 (.seq
 (.reg 2 none [5,6] [
 ⟨some 24,none,.mv (.t 1)⟩,
 ⟨some 25,none,.cvI .i64 (.t 24)⟩,
 ⟨some 26,none,.bin .rem false (.t 25) (.k (.v (.int .i64 50)))⟩,
 ⟨some 6,none,.mv (.t 26)⟩])
 (.seq
 (.seq
 (.reg 3 none [5,6,27,28,29] [
 ⟨some 27,none,.bsl 1 3 [.k (.v (.string ⟨#[112,48]⟩)),.k (.v (.string ⟨#[112,49]⟩)),.k (.v (.string ⟨#[112,50]⟩))]⟩,
 ⟨some 28,none,.lenL (.t 27)⟩,
 ⟨some 29,none,.mv (.k (.v (.int .i64 0)))⟩])
 (.block 0
 (.loop
 (.seq
 (.reg 4 none [5,6,27,28,29,30] [
 ⟨some 30,none,.bin .lss false (.t 29) (.t 28)⟩])
 (.seq
 (.cond (.t 30)
 .skip
 (.exit 0))
 (.seq
 (.block 1
 (.seq
 (.reg 5 none [5,6,8,27,28,29] [
 ⟨some 31,none,.ixL 1 (.t 27) (.t 29)⟩,
 ⟨some 32,none,.ld none (.t 31)⟩,
 ⟨some 8,none,.mv (.t 32)⟩])
 (.seq
 (.reg 6 none [5,6,8,9,10,27,28,29] [
 ⟨some 34,none,.mv (.t 5)⟩,
 ⟨some 35,none,.mv (.t 8)⟩,
 ⟨some 36,none,.mv (.t 6)⟩,
 ⟨some 37,none,.call (.k (.clo F_approvals_Active [])) [.t 34,.t 35,.t 36]⟩,
 ⟨some 33,none,.mv (.t 37)⟩,
 ⟨some 38,none,.ex (.t 33) 0⟩,
 ⟨some 39,none,.ex (.t 33) 1⟩,
 ⟨some 9,none,.new (.agg [.v (.string ⟨#[]⟩),.v (.string ⟨#[]⟩),.v (.int .i64 0),.v (.int .i64 0)])⟩,
 ⟨none,none,.st 4 (.t 9) (.t 38)⟩,
 ⟨some 10,none,.mv (.t 39)⟩])
 (.seq
 (.reg 7 none [5,6,8,9,10,11,12,27,28,29] [
 ⟨some 41,none,.mv (.t 5)⟩,
 ⟨some 42,none,.mv (.t 8)⟩,
 ⟨some 43,none,.mv (.t 6)⟩,
 ⟨some 44,none,.call (.k (.clo F_approvals_End [])) [.t 41,.t 42,.t 43]⟩,
 ⟨some 40,none,.mv (.t 44)⟩,
 ⟨some 45,none,.ex (.t 40) 0⟩,
 ⟨some 46,none,.ex (.t 40) 1⟩,
 ⟨some 11,none,.mv (.t 45)⟩,
 ⟨some 12,none,.mv (.t 46)⟩])
 (.seq
 (.seq
 (.reg 8 none [5,6,8,9,10,11,27,28,29,55] [
 ⟨some 47,none,.mv (.t 10)⟩,
 ⟨some 48,none,.mv (.t 12)⟩,
 ⟨some 49,none,.bin .eql false (.t 48) (.k (.v (.int .i64 0)))⟩,
 ⟨some 50,none,.bin .neq true (.t 47) (.t 49)⟩,
 ⟨some 51,none,.mv (.t 50)⟩,
 ⟨some 52,some (51,false),.mv (.t 11)⟩,
 ⟨some 53,some (51,false),.call (.k (.clo F_approvals_Check [])) [.t 52]⟩,
 ⟨some 54,some (51,false),.bin .neq false (.t 53) (.k (.v (.int .i64 0)))⟩,
 ⟨some 55,none,.pick (.t 51) (.k (.v (.bool true))) (.t 54)⟩])
 (.cond (.t 55)
 (.seq
 (.reg 9 none [4] [
 ⟨some 4,none,.mv (.k (.v (.bool false)))⟩])
 .ret)
 .skip))
 (.seq
 (.reg 10 none [5,6,8,9,10,11,13,27,28,29] [
 ⟨some 13,none,.mv (.k (.v (.int .i64 0)))⟩])
 (.block 2
 (.loop
 (.seq
 (.seq
 (.reg 11 none [5,6,8,9,10,11,13,27,28,29,57] [
 ⟨some 56,none,.mv (.t 13)⟩,
 ⟨some 57,none,.bin .lss false (.t 56) (.k (.v (.int .i64 60)))⟩])
 (.cond (.t 57)
 .skip
 (.exit 2)))
 (.seq
 (.block 3
 (.seq
 (.reg 13 none [5,6,8,9,10,11,13,27,28,29,60,61,62] [
 ⟨some 60,none,.bsl 1 3 [.k (.v (.string ⟨#[112,48]⟩)),.k (.v (.string ⟨#[112,49]⟩)),.k (.v (.string ⟨#[112,50]⟩))]⟩,
 ⟨some 61,none,.lenL (.t 60)⟩,
 ⟨some 62,none,.mv (.k (.v (.int .i64 0)))⟩])
 (.block 4
 (.loop
 (.seq
 (.reg 14 none [5,6,8,9,10,11,13,27,28,29,60,61,62,63] [
 ⟨some 63,none,.bin .lss false (.t 62) (.t 61)⟩])
 (.seq
 (.cond (.t 63)
 .skip
 (.exit 4))
 (.seq
 (.block 5
 (.seq
 (.reg 15 none [5,6,8,9,10,11,13,15,27,28,29,60,61,62] [
 ⟨some 64,none,.ixL 1 (.t 60) (.t 62)⟩,
 ⟨some 65,none,.ld none (.t 64)⟩,
 ⟨some 15,none,.mv (.t 65)⟩])
 (.seq
 (.reg 16 none [5,6,8,9,10,11,13,15,16,17,27,28,29,60,61,62] [
 ⟨some 67,none,.mv (.t 5)⟩,
 ⟨some 68,none,.mv (.t 15)⟩,
 ⟨some 69,none,.mv (.t 13)⟩,
 ⟨some 70,none,.call (.k (.clo F_approvals_Active [])) [.t 67,.t 68,.t 69]⟩,
 ⟨some 66,none,.mv (.t 70)⟩,
 ⟨some 71,none,.ex (.t 66) 0⟩,
 ⟨some 72,none,.ex (.t 66) 1⟩,
 ⟨some 16,none,.new (.agg [.v (.string ⟨#[]⟩),.v (.string ⟨#[]⟩),.v (.int .i64 0),.v (.int .i64 0)])⟩,
 ⟨none,none,.st 4 (.t 16) (.t 71)⟩,
 ⟨some 17,none,.mv (.t 72)⟩])
 (.seq
 (.reg 17 none [5,6,8,9,10,11,13,15,16,17,18,19,27,28,29,60,61,62] [
 ⟨some 74,none,.mv (.t 11)⟩,
 ⟨some 75,none,.mv (.t 15)⟩,
 ⟨some 76,none,.mv (.t 13)⟩,
 ⟨some 77,none,.call (.k (.clo F_approvals_Active [])) [.t 74,.t 75,.t 76]⟩,
 ⟨some 73,none,.mv (.t 77)⟩,
 ⟨some 78,none,.ex (.t 73) 0⟩,
 ⟨some 79,none,.ex (.t 73) 1⟩,
 ⟨some 18,none,.new (.agg [.v (.string ⟨#[]⟩),.v (.string ⟨#[]⟩),.v (.int .i64 0),.v (.int .i64 0)])⟩,
 ⟨none,none,.st 4 (.t 18) (.t 78)⟩,
 ⟨some 19,none,.mv (.t 79)⟩])
 (.seq
 (.reg 18 none [5,6,8,9,10,11,13,16,17,18,19,20,27,28,29,60,61,62] [
 ⟨some 80,none,.mv (.t 10)⟩,
 ⟨some 81,none,.mv (.t 80)⟩,
 ⟨some 82,some (81,true),.mv (.t 15)⟩,
 ⟨some 83,some (81,true),.mv (.t 8)⟩,
 ⟨some 84,some (81,true),.bin .eql false (.t 82) (.t 83)⟩,
 ⟨some 85,none,.pick (.t 81) (.t 84) (.k (.v (.bool false)))⟩,
 ⟨some 86,none,.mv (.t 85)⟩,
 ⟨some 87,some (86,true),.mv (.t 13)⟩,
 ⟨some 88,some (86,true),.mv (.t 6)⟩,
 ⟨some 89,some (86,true),.bin .geq false (.t 87) (.t 88)⟩,
 ⟨some 90,none,.pick (.t 86) (.t 89) (.k (.v (.bool false)))⟩,
 ⟨some 91,none,.mv (.t 90)⟩,
 ⟨some 92,some (91,true),.mv (.t 13)⟩,
 ⟨some 93,some (91,true),.fa 3 (.t 9)⟩,
 ⟨some 94,some (91,true),.ld none (.t 93)⟩,
 ⟨some 95,some (91,true),.bin .lss false (.t 92) (.t 94)⟩,
 ⟨some 96,none,.pick (.t 91) (.t 95) (.k (.v (.bool false)))⟩,
 ⟨some 20,none,.mv (.t 96)⟩])
 (.seq
 (.reg 19 none [5,6,8,9,10,11,13,27,28,29,60,61,62,113] [
 ⟨some 97,none,.mv (.t 19)⟩,
 ⟨some 98,none,.mv (.t 17)⟩,
 ⟨some 99,none,.mv (.t 98)⟩,
 ⟨some 100,some (99,true),.mv (.t 20)⟩,
 ⟨some 101,some (99,true),.un .not (.t 100)⟩,
 ⟨some 102,none,.pick (.t 99) (.t 101) (.k (.v (.bool false)))⟩,
 ⟨some 103,none,.bin .neq true (.t 97) (.t 102)⟩,
 ⟨some 104,none,.mv (.t 103)⟩,
 ⟨some 105,some (104,false),.mv (.t 19)⟩,
 ⟨some 106,some (104,false),.mv (.t 105)⟩,
 ⟨some 107,some (106,true),.fa 1 (.t 16)⟩,
 ⟨some 108,some (106,true),.ld none (.t 107)⟩,
 ⟨some 109,some (106,true),.fa 1 (.t 18)⟩,
 ⟨some 110,some (106,true),.ld none (.t 109)⟩,
 ⟨some 111,some (106,true),.bin .neq false (.t 108) (.t 110)⟩,
 ⟨some 112,some (104,false),.pick (.t 106) (.t 111) (.k (.v (.bool false)))⟩,
 ⟨some 113,none,.pick (.t 104) (.k (.v (.bool true))) (.t 112)⟩])
 (.cond (.t 113)
 (.seq
 (.reg 20 none [4] [
 ⟨some 4,none,.mv (.k (.v (.bool false)))⟩])
 .ret)
 .skip)))))))
 (.reg 21 none [5,6,8,9,10,11,13,27,28,29,60,61,62] [
 ⟨some 114,none,.bin .add false (.t 62) (.k (.v (.int .i64 1)))⟩,
 ⟨some 62,none,.mv (.t 114)⟩]))))))))
 (.reg 12 none [5,6,8,9,10,11,13,27,28,29] [
 ⟨some 58,none,.mv (.t 13)⟩,
 ⟨some 59,none,.bin .add false (.t 58) (.k (.v (.int .i64 1)))⟩,
 ⟨some 13,none,.mv (.t 59)⟩])))))))))))
 (.reg 22 none [5,6,27,28,29] [
 ⟨some 115,none,.bin .add false (.t 29) (.k (.v (.int .i64 1)))⟩,
 ⟨some 29,none,.mv (.t 115)⟩])))))))
 (.seq
 (.reg 23 none [4] [
 ⟨some 116,none,.call (.k (.clo F_law39_awake [])) []⟩,
 ⟨some 4,none,.mv (.t 116)⟩])
 .ret)))))
theorem fn_law39_ApprovalsEnd:FnIR Try.prog F_law39_ApprovalsEnd 117 [(0,[0,1]),(1,[1,5]),(2,[5,6]),(3,[5,6,27,28,29]),(4,[5,6,27,28,29,30]),(5,[5,6,8,27,28,29]),(6,[5,6,8,9,10,27,28,29]),(7,[5,6,8,9,10,11,12,27,28,29]),(8,[5,6,8,9,10,11,27,28,29,55]),(9,[4]),(10,[5,6,8,9,10,11,13,27,28,29]),(11,[5,6,8,9,10,11,13,27,28,29,57]),(12,[5,6,8,9,10,11,13,27,28,29]),(13,[5,6,8,9,10,11,13,27,28,29,60,61,62]),(14,[5,6,8,9,10,11,13,27,28,29,60,61,62,63]),(15,[5,6,8,9,10,11,13,15,27,28,29,60,61,62]),(16,[5,6,8,9,10,11,13,15,16,17,27,28,29,60,61,62]),(17,[5,6,8,9,10,11,13,15,16,17,18,19,27,28,29,60,61,62]),(18,[5,6,8,9,10,11,13,16,17,18,19,20,27,28,29,60,61,62]),(19,[5,6,8,9,10,11,13,27,28,29,60,61,62,113]),(20,[4]),(21,[5,6,8,9,10,11,13,27,28,29,60,61,62]),(22,[5,6,27,28,29]),(23,[4])] ir_law39_ApprovalsEnd [(.tmp 4)]:=
 ⟨Try.f3,_,Try.func3,rfl,by kernel_rfl,rfl,by kernel_rfl,by kernel_rfl⟩
def ir_law39_ApprovalsOrder:RC:=
 (.seq
 (.reg 0 none [0] [
 ⟨some 2,none,.mv (.k (.v (.bool false)))⟩])
 (.seq
 (.reg 1 none [3] [
 ⟨some 15,none,.mv (.t 0)⟩,
 ⟨some 16,none,.call (.k (.clo F_draw_New [])) [.t 15]⟩,
 ⟨some 17,none,.call (.k (.clo F_made_Approvals [])) [.t 16]⟩,
 ⟨some 3,none,.mv (.t 17)⟩])
 (.seq
 (.reg 2 none [3,4] [
 ⟨some 4,none,.mv (.k (.v (.slice none 0 0)))⟩])
 (.seq
 (.seq
 (.reg 3 none [3,4,5] [
 ⟨some 18,none,.mv (.t 3)⟩,
 ⟨some 19,none,.lenL (.t 18)⟩,
 ⟨some 20,none,.bin .sub false (.t 19) (.k (.v (.int .i64 1)))⟩,
 ⟨some 5,none,.mv (.t 20)⟩])
 (.block 0
 (.loop
 (.seq
 (.seq
 (.reg 4 none [3,4,5,22] [
 ⟨some 21,none,.mv (.t 5)⟩,
 ⟨some 22,none,.bin .geq false (.t 21) (.k (.v (.int .i64 0)))⟩])
 (.cond (.t 22)
 .skip
 (.exit 0)))
 (.seq
 (.block 1
 (.seq
 (.reg 6 none [3,4,5] [
 ⟨some 6,none,.mv (.k (.v (.int .i64 0)))⟩])
 (.seq
 (.reg 7 none [3,4,5,6] [
 ⟨some 26,none,.mv (.t 4)⟩,
 ⟨some 27,none,.mv (.t 3)⟩,
 ⟨some 28,none,.mv (.t 5)⟩,
 ⟨some 29,none,.ixL 4 (.t 27) (.t 28)⟩,
 ⟨some 30,none,.ld (some 4) (.t 29)⟩,
 ⟨some 31,none,.call (.k (.clo F_approvals_Add [])) [.t 26,.t 30]⟩,
 ⟨some 25,none,.mv (.t 31)⟩,
 ⟨some 32,none,.ex (.t 25) 0⟩,
 ⟨some 33,none,.ex (.t 25) 1⟩,
 ⟨some 4,none,.mv (.t 32)⟩,
 ⟨some 6,none,.mv (.t 33)⟩])
 (.seq
 (.reg 8 none [3,4,5,35] [
 ⟨some 34,none,.mv (.t 6)⟩,
 ⟨some 35,none,.bin .neq false (.t 34) (.k (.v (.int .i64 0)))⟩])
 (.cond (.t 35)
 (.seq
 (.reg 9 none [2] [
 ⟨some 2,none,.mv (.k (.v (.bool false)))⟩])
 .ret)
 .skip)))))
 (.reg 5 none [3,4,5] [
 ⟨some 23,none,.mv (.t 5)⟩,
 ⟨some 24,none,.bin .sub false (.t 23) (.k (.v (.int .i64 1)))⟩,
 ⟨some 5,none,.mv (.t 24)⟩]))))))
 (.seq
 (.seq
 (.reg 10 none [3,4,7] [
 ⟨some 7,none,.mv (.k (.v (.int .i64 0)))⟩])
 (.block 2
 (.loop
 (.seq
 (.seq
 (.reg 11 none [3,4,7,37] [
 ⟨some 36,none,.mv (.t 7)⟩,
 ⟨some 37,none,.bin .lss false (.t 36) (.k (.v (.int .i64 55)))⟩])
 (.cond (.t 37)
 .skip
 (.exit 2)))
 (.seq
 (.block 3
 (.seq
 (.reg 13 none [3,4,7,40,41,42] [
 ⟨some 40,none,.bsl 1 3 [.k (.v (.string ⟨#[112,48]⟩)),.k (.v (.string ⟨#[112,49]⟩)),.k (.v (.string ⟨#[112,50]⟩))]⟩,
 ⟨some 41,none,.lenL (.t 40)⟩,
 ⟨some 42,none,.mv (.k (.v (.int .i64 0)))⟩])
 (.block 4
 (.loop
 (.seq
 (.reg 14 none [3,4,7,40,41,42,43] [
 ⟨some 43,none,.bin .lss false (.t 42) (.t 41)⟩])
 (.seq
 (.cond (.t 43)
 .skip
 (.exit 4))
 (.seq
 (.block 5
 (.seq
 (.reg 15 none [3,4,7,9,40,41,42] [
 ⟨some 44,none,.ixL 1 (.t 40) (.t 42)⟩,
 ⟨some 45,none,.ld none (.t 44)⟩,
 ⟨some 9,none,.mv (.t 45)⟩])
 (.seq
 (.reg 16 none [3,4,7,9,10,40,41,42] [
 ⟨some 10,none,.mv (.k (.v (.bool false)))⟩])
 (.seq
 (.seq
 (.reg 17 none [3,4,7,9,10,40,41,42,46,47,48] [
 ⟨some 46,none,.mv (.t 3)⟩,
 ⟨some 47,none,.lenL (.t 46)⟩,
 ⟨some 48,none,.mv (.k (.v (.int .i64 0)))⟩])
 (.block 6
 (.loop
 (.seq
 (.reg 18 none [3,4,7,9,10,40,41,42,46,47,48,49] [
 ⟨some 49,none,.bin .lss false (.t 48) (.t 47)⟩])
 (.seq
 (.cond (.t 49)
 .skip
 (.exit 6))
 (.seq
 (.block 7
 (.seq
 (.reg 19 none [3,4,7,9,10,12,40,41,42,46,47,48] [
 ⟨some 50,none,.ixL 4 (.t 46) (.t 48)⟩,
 ⟨some 51,none,.ld (some 4) (.t 50)⟩,
 ⟨some 12,none,.new (.agg [.v (.string ⟨#[]⟩),.v (.string ⟨#[]⟩),.v (.int .i64 0),.v (.int .i64 0)])⟩,
 ⟨none,none,.st 4 (.t 12) (.t 51)⟩])
 (.reg 20 none [3,4,7,9,10,40,41,42,46,47,48] [
 ⟨some 52,none,.mv (.t 10)⟩,
 ⟨some 53,none,.mv (.t 52)⟩,
 ⟨some 54,some (53,false),.fa 0 (.t 12)⟩,
 ⟨some 55,some (53,false),.ld none (.t 54)⟩,
 ⟨some 56,some (53,false),.mv (.t 9)⟩,
 ⟨some 57,some (53,false),.bin .eql false (.t 55) (.t 56)⟩,
 ⟨some 58,some (53,false),.mv (.t 57)⟩,
 ⟨some 59,some (58,true),.fa 2 (.t 12)⟩,
 ⟨some 60,some (58,true),.ld none (.t 59)⟩,
 ⟨some 61,some (58,true),.mv (.t 7)⟩,
 ⟨some 62,some (58,true),.bin .leq false (.t 60) (.t 61)⟩,
 ⟨some 63,some (53,false),.pick (.t 58) (.t 62) (.k (.v (.bool false)))⟩,
 ⟨some 64,some (53,false),.mv (.t 63)⟩,
 ⟨some 65,some (64,true),.mv (.t 7)⟩,
 ⟨some 66,some (64,true),.fa 3 (.t 12)⟩,
 ⟨some 67,some (64,true),.ld none (.t 66)⟩,
 ⟨some 68,some (64,true),.bin .lss false (.t 65) (.t 67)⟩,
 ⟨some 69,some (53,false),.pick (.t 64) (.t 68) (.k (.v (.bool false)))⟩,
 ⟨some 70,none,.pick (.t 53) (.k (.v (.bool true))) (.t 69)⟩,
 ⟨some 10,none,.mv (.t 70)⟩])))
 (.reg 21 none [3,4,7,9,10,40,41,42,46,47,48] [
 ⟨some 71,none,.bin .add false (.t 48) (.k (.v (.int .i64 1)))⟩,
 ⟨some 48,none,.mv (.t 71)⟩])))))))
 (.seq
 (.reg 22 none [3,4,7,10,14,40,41,42] [
 ⟨some 73,none,.mv (.t 4)⟩,
 ⟨some 74,none,.mv (.t 9)⟩,
 ⟨some 75,none,.mv (.t 7)⟩,
 ⟨some 76,none,.call (.k (.clo F_approvals_Active [])) [.t 73,.t 74,.t 75]⟩,
 ⟨some 72,none,.mv (.t 76)⟩,
 ⟨some 77,none,.ex (.t 72) 0⟩,
 ⟨some 78,none,.ex (.t 72) 1⟩,
 ⟨some 13,none,.new (.agg [.v (.string ⟨#[]⟩),.v (.string ⟨#[]⟩),.v (.int .i64 0),.v (.int .i64 0)])⟩,
 ⟨none,none,.st 4 (.t 13) (.t 77)⟩,
 ⟨some 14,none,.mv (.t 78)⟩])
 (.seq
 (.reg 23 none [3,4,7,40,41,42,81] [
 ⟨some 79,none,.mv (.t 14)⟩,
 ⟨some 80,none,.mv (.t 10)⟩,
 ⟨some 81,none,.bin .neq true (.t 79) (.t 80)⟩])
 (.cond (.t 81)
 (.seq
 (.reg 24 none [2] [
 ⟨some 2,none,.mv (.k (.v (.bool false)))⟩])
 .ret)
 .skip)))))))
 (.reg 25 none [3,4,7,40,41,42] [
 ⟨some 82,none,.bin .add false (.t 42) (.k (.v (.int .i64 1)))⟩,
 ⟨some 42,none,.mv (.t 82)⟩]))))))))
 (.reg 12 none [3,4,7] [
 ⟨some 38,none,.mv (.t 7)⟩,
 ⟨some 39,none,.bin .add false (.t 38) (.k (.v (.int .i64 1)))⟩,
 ⟨some 7,none,.mv (.t 39)⟩]))))))
 (.seq
 (.reg 26 none [2] [
 ⟨some 83,none,.mv (.t 4)⟩,
 ⟨some 84,none,.mv (.t 3)⟩,
 ⟨some 85,none,.call (.k (.clo F_ref39_Same [])) [.t 83,.t 84]⟩,
 ⟨some 86,none,.mv (.t 85)⟩,
 ⟨some 87,some (86,true),.call (.k (.clo F_law39_awake [])) []⟩,
 ⟨some 88,none,.pick (.t 86) (.t 87) (.k (.v (.bool false)))⟩,
 ⟨some 2,none,.mv (.t 88)⟩])
 .ret))))))
theorem fn_law39_ApprovalsOrder:FnIR Try.prog F_law39_ApprovalsOrder 89 [(0,[0]),(1,[3]),(2,[3,4]),(3,[3,4,5]),(4,[3,4,5,22]),(5,[3,4,5]),(6,[3,4,5]),(7,[3,4,5,6]),(8,[3,4,5,35]),(9,[2]),(10,[3,4,7]),(11,[3,4,7,37]),(12,[3,4,7]),(13,[3,4,7,40,41,42]),(14,[3,4,7,40,41,42,43]),(15,[3,4,7,9,40,41,42]),(16,[3,4,7,9,10,40,41,42]),(17,[3,4,7,9,10,40,41,42,46,47,48]),(18,[3,4,7,9,10,40,41,42,46,47,48,49]),(19,[3,4,7,9,10,12,40,41,42,46,47,48]),(20,[3,4,7,9,10,40,41,42,46,47,48]),(21,[3,4,7,9,10,40,41,42,46,47,48]),(22,[3,4,7,10,14,40,41,42]),(23,[3,4,7,40,41,42,81]),(24,[2]),(25,[3,4,7,40,41,42]),(26,[2])] ir_law39_ApprovalsOrder [(.tmp 2)]:=
 ⟨Try.f4,_,Try.func4,rfl,by kernel_rfl,rfl,by kernel_rfl,by kernel_rfl⟩
def ir_law39_ApprovalsAnswers:RC:=
 (.seq
 (.reg 0 none [0,2,3,4,5,6,8] [
 ⟨some 8,none,.box (.t 1)⟩,
 ⟨some 14,none,.mv (.k (.v (.bool false)))⟩])
 (.seq
 (.seq
 (.reg 1 none [0,2,3,4,5,6,8,53] [
 ⟨some 46,none,.mv (.t 0)⟩,
 ⟨some 47,none,.lenL (.t 46)⟩,
 ⟨some 48,none,.bin .gtr false (.t 47) (.k (.v (.int .i64 70)))⟩,
 ⟨some 49,none,.mv (.t 48)⟩,
 ⟨some 50,some (49,false),.mv (.t 2)⟩,
 ⟨some 51,some (49,false),.lenS (.t 50)⟩,
 ⟨some 52,some (49,false),.bin .gtr false (.t 51) (.k (.v (.int .i64 100)))⟩,
 ⟨some 53,none,.pick (.t 49) (.k (.v (.bool true))) (.t 52)⟩])
 (.cond (.t 53)
 (.seq
 (.reg 2 none [14] [
 ⟨some 54,none,.call (.k (.clo F_law39_awake [])) []⟩,
 ⟨some 14,none,.mv (.t 54)⟩])
 .ret)
 .skip))
 (.seq
 (.reg 3 none [0,2,3,4,6,8,15] [
 ⟨some 55,none,.mv (.t 5)⟩,
 ⟨some 56,none,.call (.k (.clo F_draw_New [])) [.t 55]⟩,
 ⟨some 15,none,.mv (.t 56)⟩])
 (.seq
 (.reg 4 none [0,2,3,4,6,8,15,16] [
 ⟨some 57,none,.mv (.t 15)⟩,
 ⟨some 58,none,.call (.k (.clo F_made_Approvals [])) [.t 57]⟩,
 ⟨some 16,none,.mv (.t 58)⟩])
 (.seq
 (.reg 5 none [0,2,3,4,6,8,15,16,17] [
 ⟨some 59,none,.bsl 4 0 []⟩,
 ⟨some 60,none,.mv (.t 16)⟩,
 ⟨some 61,none,.app 4 48 false (.t 59) (.t 60)⟩,
 ⟨some 17,none,.mv (.t 61)⟩])
 (.seq
 (.seq
 (.reg 6 none [0,2,3,4,6,8,15,16,17,64] [
 ⟨some 62,none,.mv (.t 17)⟩,
 ⟨some 63,none,.lenL (.t 62)⟩,
 ⟨some 64,none,.bin .gtr false (.t 63) (.k (.v (.int .i64 0)))⟩])
 (.cond (.t 64)
 (.seq
 (.reg 7 none [0,2,3,4,6,8,15,16,17,18] [
 ⟨some 65,none,.mv (.t 6)⟩,
 ⟨some 66,none,.mv (.t 17)⟩,
 ⟨some 67,none,.lenL (.t 66)⟩,
 ⟨some 68,none,.call (.k (.clo F_draw_Mod [])) [.t 65,.t 67]⟩,
 ⟨some 18,none,.mv (.t 68)⟩])
 (.seq
 (.reg 8 none [0,2,3,4,6,8,15,16,17,18,70] [
 ⟨some 69,none,.mv (.t 6)⟩,
 ⟨some 70,none,.call (.k (.clo F_draw_Mod [])) [.t 69,.k (.v (.int .i64 4))]⟩])
 (.block 0
 (.seq
 (.reg 10 none [0,2,3,4,6,8,15,16,17,18,70,78] [
 ⟨some 79,none,.bin .eql false (.t 70) (.k (.v (.int .i64 0)))⟩,
 ⟨some 78,none,.mv (.t 79)⟩])
 (.cond (.t 78)
 (.reg 11 none [0,2,3,4,8,15,16,17] [
 ⟨some 80,none,.mv (.t 17)⟩,
 ⟨some 81,none,.mv (.t 18)⟩,
 ⟨some 82,none,.mv (.t 6)⟩,
 ⟨some 83,none,.call (.k (.clo F_draw_Mod [])) [.t 82,.k (.v (.int .i64 40))]⟩,
 ⟨some 84,none,.ixL 4 (.t 80) (.t 81)⟩,
 ⟨some 85,none,.fa 2 (.t 84)⟩,
 ⟨none,none,.st 1 (.t 85) (.t 83)⟩])
 (.seq
 (.reg 12 none [0,2,3,4,6,8,15,16,17,18,70,86] [
 ⟨some 87,none,.bin .eql false (.t 70) (.k (.v (.int .i64 1)))⟩,
 ⟨some 86,none,.mv (.t 87)⟩])
 (.cond (.t 86)
 (.reg 13 none [0,2,3,4,8,15,16,17] [
 ⟨some 88,none,.mv (.t 17)⟩,
 ⟨some 89,none,.mv (.t 18)⟩,
 ⟨some 90,none,.mv (.t 6)⟩,
 ⟨some 91,none,.call (.k (.clo F_draw_Mod [])) [.t 90,.k (.v (.int .i64 40))]⟩,
 ⟨some 92,none,.ixL 4 (.t 88) (.t 89)⟩,
 ⟨some 93,none,.fa 3 (.t 92)⟩,
 ⟨none,none,.st 1 (.t 93) (.t 91)⟩])
 (.seq
 (.reg 14 none [0,2,3,4,8,15,16,17,18,94] [
 ⟨some 95,none,.bin .eql false (.t 70) (.k (.v (.int .i64 2)))⟩,
 ⟨some 94,none,.mv (.t 95)⟩])
 (.cond (.t 94)
 (.reg 15 none [0,2,3,4,8,15,16,17] [
 ⟨some 96,none,.mv (.t 17)⟩,
 ⟨some 97,none,.mv (.t 18)⟩,
 ⟨some 98,none,.ixL 4 (.t 96) (.t 97)⟩,
 ⟨some 99,none,.fa 1 (.t 98)⟩,
 ⟨none,none,.st 1 (.t 99) (.k (.v (.string ⟨#[]⟩)))⟩])
 (.reg 9 none [0,2,3,4,8,15,16,17] [
 ⟨some 71,none,.mv (.t 17)⟩,
 ⟨some 72,none,.mv (.t 17)⟩,
 ⟨some 73,none,.mv (.t 18)⟩,
 ⟨some 74,none,.ixL 4 (.t 72) (.t 73)⟩,
 ⟨some 75,none,.ld (some 4) (.t 74)⟩,
 ⟨some 76,none,.bsl 4 1 [.t 75]⟩,
 ⟨some 77,none,.app 4 48 false (.t 71) (.t 76)⟩,
 ⟨some 17,none,.mv (.t 77)⟩]))))))))))
 .skip))
 (.seq
 (.reg 16 none [0,2,3,4,8,16,17,19] [
 ⟨some 100,none,.mv (.t 15)⟩,
 ⟨some 101,none,.call (.k (.clo F_made_Name [])) [.t 100]⟩,
 ⟨some 102,none,.mv (.t 15)⟩,
 ⟨some 103,none,.call (.k (.clo F_draw_Codes_Next [])) [.t 102,.k (.v (.int .i64 30))]⟩,
 ⟨some 104,none,.mv (.t 15)⟩,
 ⟨some 105,none,.call (.k (.clo F_draw_Codes_Next [])) [.t 104,.k (.v (.int .i64 45))]⟩,
 ⟨some 106,none,.build [.v (.string ⟨#[]⟩),.v (.string ⟨#[]⟩),.v (.int .i64 0),.v (.int .i64 0)] [((0,1),.k (.v (.string ⟨#[112,49]⟩))),((1,1),.t 101),((2,1),.t 103),((3,1),.t 105)]⟩,
 ⟨some 19,none,.new (.agg [.v (.string ⟨#[]⟩),.v (.string ⟨#[]⟩),.v (.int .i64 0),.v (.int .i64 0)])⟩,
 ⟨none,none,.st 4 (.t 19) (.t 106)⟩])
 (.seq
 (.seq
 (.reg 17 none [2,3,4,8,19,110,111,112] [
 ⟨some 107,none,.mv (.t 0)⟩,
 ⟨some 108,none,.mv (.t 16)⟩,
 ⟨some 109,none,.mv (.t 17)⟩,
 ⟨some 110,none,.bsl 1 3 [.t 107,.t 108,.t 109]⟩,
 ⟨some 111,none,.lenL (.t 110)⟩,
 ⟨some 112,none,.mv (.k (.v (.int .i64 0)))⟩])
 (.block 1
 (.loop
 (.seq
 (.reg 18 none [2,3,4,8,19,110,111,112,113] [
 ⟨some 113,none,.bin .lss false (.t 112) (.t 111)⟩])
 (.seq
 (.cond (.t 113)
 .skip
 (.exit 1))
 (.seq
 (.block 2
 (.seq
 (.reg 19 none [2,3,4,8,19,21,110,111,112] [
 ⟨some 114,none,.ixL 1 (.t 110) (.t 112)⟩,
 ⟨some 115,none,.ld none (.t 114)⟩,
 ⟨some 21,none,.mv (.t 115)⟩])
 (.seq
 (.seq
 (.reg 20 none [2,3,4,8,19,21,110,111,112,120] [
 ⟨some 116,none,.mv (.t 21)⟩,
 ⟨some 117,none,.call (.k (.clo F_approvals_Check [])) [.t 116]⟩,
 ⟨some 118,none,.mv (.t 21)⟩,
 ⟨some 119,none,.call (.k (.clo F_ref39_Check [])) [.t 118]⟩,
 ⟨some 120,none,.bin .neq false (.t 117) (.t 119)⟩])
 (.cond (.t 120)
 (.seq
 (.reg 21 none [14] [
 ⟨some 14,none,.mv (.k (.v (.bool false)))⟩])
 .ret)
 .skip))
 (.seq
 (.seq
 (.reg 22 none [2,3,4,8,19,21,110,111,112,122,123,124] [
 ⟨some 121,none,.mv (.t 2)⟩,
 ⟨some 122,none,.bsl 1 3 [.t 121,.k (.v (.string ⟨#[112,48]⟩)),.k (.v (.string ⟨#[112,49]⟩))]⟩,
 ⟨some 123,none,.lenL (.t 122)⟩,
 ⟨some 124,none,.mv (.k (.v (.int .i64 0)))⟩])
 (.block 3
 (.loop
 (.seq
 (.reg 23 none [2,3,4,8,19,21,110,111,112,122,123,124,125] [
 ⟨some 125,none,.bin .lss false (.t 124) (.t 123)⟩])
 (.seq
 (.cond (.t 125)
 .skip
 (.exit 3))
 (.seq
 (.block 4
 (.seq
 (.reg 24 none [2,3,4,8,19,21,23,110,111,112,122,123,124] [
 ⟨some 126,none,.ixL 1 (.t 122) (.t 124)⟩,
 ⟨some 127,none,.ld none (.t 126)⟩,
 ⟨some 23,none,.mv (.t 127)⟩])
 (.seq
 (.reg 25 none [2,3,4,8,19,21,23,110,111,112,122,123,124,131,132,133] [
 ⟨some 128,none,.mv (.t 3)⟩,
 ⟨some 129,none,.mv (.t 3)⟩,
 ⟨some 130,none,.call (.k (.clo F_draw_Mod [])) [.t 129,.k (.v (.int .i64 50))]⟩,
 ⟨some 131,none,.bsl 1 2 [.t 128,.t 130]⟩,
 ⟨some 132,none,.lenL (.t 131)⟩,
 ⟨some 133,none,.mv (.k (.v (.int .i64 0)))⟩])
 (.block 5
 (.loop
 (.seq
 (.reg 26 none [2,3,4,8,19,21,23,110,111,112,122,123,124,131,132,133,134] [
 ⟨some 134,none,.bin .lss false (.t 133) (.t 132)⟩])
 (.seq
 (.cond (.t 134)
 .skip
 (.exit 5))
 (.seq
 (.block 6
 (.seq
 (.reg 27 none [2,3,4,8,19,21,23,25,110,111,112,122,123,124,131,132,133] [
 ⟨some 135,none,.ixL 1 (.t 131) (.t 133)⟩,
 ⟨some 136,none,.ld none (.t 135)⟩,
 ⟨some 25,none,.mv (.t 136)⟩])
 (.seq
 (.reg 28 none [2,3,4,8,19,21,23,25,26,27,110,111,112,122,123,124,131,132,133] [
 ⟨some 138,none,.mv (.t 21)⟩,
 ⟨some 139,none,.mv (.t 23)⟩,
 ⟨some 140,none,.mv (.t 25)⟩,
 ⟨some 141,none,.call (.k (.clo F_approvals_Active [])) [.t 138,.t 139,.t 140]⟩,
 ⟨some 137,none,.mv (.t 141)⟩,
 ⟨some 142,none,.ex (.t 137) 0⟩,
 ⟨some 143,none,.ex (.t 137) 1⟩,
 ⟨some 26,none,.new (.agg [.v (.string ⟨#[]⟩),.v (.string ⟨#[]⟩),.v (.int .i64 0),.v (.int .i64 0)])⟩,
 ⟨none,none,.st 4 (.t 26) (.t 142)⟩,
 ⟨some 27,none,.mv (.t 143)⟩])
 (.seq
 (.reg 29 none [2,3,4,8,19,21,23,25,26,27,28,29,110,111,112,122,123,124,131,132,133] [
 ⟨some 145,none,.mv (.t 21)⟩,
 ⟨some 146,none,.mv (.t 23)⟩,
 ⟨some 147,none,.mv (.t 25)⟩,
 ⟨some 148,none,.call (.k (.clo F_ref39_Active [])) [.t 145,.t 146,.t 147]⟩,
 ⟨some 144,none,.mv (.t 148)⟩,
 ⟨some 149,none,.ex (.t 144) 0⟩,
 ⟨some 150,none,.ex (.t 144) 1⟩,
 ⟨some 28,none,.new (.agg [.v (.string ⟨#[]⟩),.v (.string ⟨#[]⟩),.v (.int .i64 0),.v (.int .i64 0)])⟩,
 ⟨none,none,.st 4 (.t 28) (.t 149)⟩,
 ⟨some 29,none,.mv (.t 150)⟩])
 (.seq
 (.reg 30 none [2,3,4,8,19,21,23,25,26,27,28,29,30,31,110,111,112,122,123,124,131,132,133] [
 ⟨some 152,none,.mv (.t 21)⟩,
 ⟨some 153,none,.mv (.t 23)⟩,
 ⟨some 154,none,.mv (.t 25)⟩,
 ⟨some 155,none,.call (.k (.clo F_approvals_End [])) [.t 152,.t 153,.t 154]⟩,
 ⟨some 151,none,.mv (.t 155)⟩,
 ⟨some 156,none,.ex (.t 151) 0⟩,
 ⟨some 157,none,.ex (.t 151) 1⟩,
 ⟨some 30,none,.mv (.t 156)⟩,
 ⟨some 31,none,.mv (.t 157)⟩])
 (.seq
 (.reg 31 none [2,3,4,8,19,21,23,26,27,28,29,30,31,32,33,110,111,112,122,123,124,131,132,133] [
 ⟨some 159,none,.mv (.t 21)⟩,
 ⟨some 160,none,.mv (.t 23)⟩,
 ⟨some 161,none,.mv (.t 25)⟩,
 ⟨some 162,none,.call (.k (.clo F_ref39_End [])) [.t 159,.t 160,.t 161]⟩,
 ⟨some 158,none,.mv (.t 162)⟩,
 ⟨some 163,none,.ex (.t 158) 0⟩,
 ⟨some 164,none,.ex (.t 158) 1⟩,
 ⟨some 32,none,.mv (.t 163)⟩,
 ⟨some 33,none,.mv (.t 164)⟩])
 (.seq
 (.reg 32 none [2,3,4,8,19,21,23,110,111,112,122,123,124,131,132,133,183] [
 ⟨some 165,none,.ld (some 4) (.t 26)⟩,
 ⟨some 166,none,.ld (some 4) (.t 28)⟩,
 ⟨some 167,none,.ext (.eqS true [.s,.s,.i .i64,.i .i64]) [.t 165,.t 166]⟩,
 ⟨some 168,none,.mv (.t 167)⟩,
 ⟨some 169,some (168,false),.mv (.t 27)⟩,
 ⟨some 170,some (168,false),.mv (.t 29)⟩,
 ⟨some 171,some (168,false),.bin .neq true (.t 169) (.t 170)⟩,
 ⟨some 172,none,.pick (.t 168) (.k (.v (.bool true))) (.t 171)⟩,
 ⟨some 173,none,.mv (.t 172)⟩,
 ⟨some 174,some (173,false),.mv (.t 30)⟩,
 ⟨some 175,some (173,false),.mv (.t 32)⟩,
 ⟨some 176,some (173,false),.call (.k (.clo F_ref39_Same [])) [.t 174,.t 175]⟩,
 ⟨some 177,some (173,false),.un .not (.t 176)⟩,
 ⟨some 178,none,.pick (.t 173) (.k (.v (.bool true))) (.t 177)⟩,
 ⟨some 179,none,.mv (.t 178)⟩,
 ⟨some 180,some (179,false),.mv (.t 31)⟩,
 ⟨some 181,some (179,false),.mv (.t 33)⟩,
 ⟨some 182,some (179,false),.bin .neq false (.t 180) (.t 181)⟩,
 ⟨some 183,none,.pick (.t 179) (.k (.v (.bool true))) (.t 182)⟩])
 (.cond (.t 183)
 (.seq
 (.reg 33 none [14] [
 ⟨some 14,none,.mv (.k (.v (.bool false)))⟩])
 .ret)
 .skip))))))))
 (.reg 34 none [2,3,4,8,19,21,23,110,111,112,122,123,124,131,132,133] [
 ⟨some 184,none,.bin .add false (.t 133) (.k (.v (.int .i64 1)))⟩,
 ⟨some 133,none,.mv (.t 184)⟩])))))))))
 (.reg 35 none [2,3,4,8,19,21,110,111,112,122,123,124] [
 ⟨some 185,none,.bin .add false (.t 124) (.k (.v (.int .i64 1)))⟩,
 ⟨some 124,none,.mv (.t 185)⟩])))))))
 (.seq
 (.seq
 (.reg 36 none [2,3,4,8,19,21,110,111,112,188,189,190] [
 ⟨some 186,none,.ld (some 4) (.t 8)⟩,
 ⟨some 187,none,.ld (some 4) (.t 19)⟩,
 ⟨some 188,none,.bsl 4 2 [.t 186,.t 187]⟩,
 ⟨some 189,none,.lenL (.t 188)⟩,
 ⟨some 190,none,.mv (.k (.v (.int .i64 0)))⟩])
 (.block 7
 (.loop
 (.seq
 (.reg 37 none [2,3,4,8,19,21,110,111,112,188,189,190,191] [
 ⟨some 191,none,.bin .lss false (.t 190) (.t 189)⟩])
 (.seq
 (.cond (.t 191)
 .skip
 (.exit 7))
 (.seq
 (.block 8
 (.seq
 (.reg 38 none [2,3,4,8,19,21,35,110,111,112,188,189,190] [
 ⟨some 192,none,.ixL 4 (.t 188) (.t 190)⟩,
 ⟨some 193,none,.ld (some 4) (.t 192)⟩,
 ⟨some 35,none,.new (.agg [.v (.string ⟨#[]⟩),.v (.string ⟨#[]⟩),.v (.int .i64 0),.v (.int .i64 0)])⟩,
 ⟨none,none,.st 4 (.t 35) (.t 193)⟩])
 (.seq
 (.reg 39 none [2,3,4,8,19,21,35,36,37,110,111,112,188,189,190] [
 ⟨some 195,none,.mv (.t 21)⟩,
 ⟨some 196,none,.ld (some 4) (.t 35)⟩,
 ⟨some 197,none,.call (.k (.clo F_approvals_Add [])) [.t 195,.t 196]⟩,
 ⟨some 194,none,.mv (.t 197)⟩,
 ⟨some 198,none,.ex (.t 194) 0⟩,
 ⟨some 199,none,.ex (.t 194) 1⟩,
 ⟨some 36,none,.mv (.t 198)⟩,
 ⟨some 37,none,.mv (.t 199)⟩])
 (.seq
 (.reg 40 none [2,3,4,8,19,21,36,37,38,39,110,111,112,188,189,190] [
 ⟨some 201,none,.mv (.t 21)⟩,
 ⟨some 202,none,.ld (some 4) (.t 35)⟩,
 ⟨some 203,none,.call (.k (.clo F_ref39_Add [])) [.t 201,.t 202]⟩,
 ⟨some 200,none,.mv (.t 203)⟩,
 ⟨some 204,none,.ex (.t 200) 0⟩,
 ⟨some 205,none,.ex (.t 200) 1⟩,
 ⟨some 38,none,.mv (.t 204)⟩,
 ⟨some 39,none,.mv (.t 205)⟩])
 (.seq
 (.reg 41 none [2,3,4,8,19,21,110,111,112,188,189,190,214] [
 ⟨some 206,none,.mv (.t 36)⟩,
 ⟨some 207,none,.mv (.t 38)⟩,
 ⟨some 208,none,.call (.k (.clo F_ref39_Same [])) [.t 206,.t 207]⟩,
 ⟨some 209,none,.un .not (.t 208)⟩,
 ⟨some 210,none,.mv (.t 209)⟩,
 ⟨some 211,some (210,false),.mv (.t 37)⟩,
 ⟨some 212,some (210,false),.mv (.t 39)⟩,
 ⟨some 213,some (210,false),.bin .neq false (.t 211) (.t 212)⟩,
 ⟨some 214,none,.pick (.t 210) (.k (.v (.bool true))) (.t 213)⟩])
 (.cond (.t 214)
 (.seq
 (.reg 42 none [14] [
 ⟨some 14,none,.mv (.k (.v (.bool false)))⟩])
 .ret)
 .skip))))))
 (.reg 43 none [2,3,4,8,19,21,110,111,112,188,189,190] [
 ⟨some 215,none,.bin .add false (.t 190) (.k (.v (.int .i64 1)))⟩,
 ⟨some 190,none,.mv (.t 215)⟩])))))))
 (.seq
 (.reg 44 none [2,3,4,8,19,21,110,111,112,227,228,229] [
 ⟨some 216,none,.mv (.t 3)⟩,
 ⟨some 217,none,.mv (.t 4)⟩,
 ⟨some 218,none,.build [.v (.int .i64 0),.v (.int .i64 0)] [((0,1),.t 216),((1,1),.t 217)]⟩,
 ⟨some 219,none,.mv (.t 3)⟩,
 ⟨some 220,none,.call (.k (.clo F_draw_Mod [])) [.t 219,.k (.v (.int .i64 30))]⟩,
 ⟨some 221,none,.mv (.t 3)⟩,
 ⟨some 222,none,.call (.k (.clo F_draw_Mod [])) [.t 221,.k (.v (.int .i64 30))]⟩,
 ⟨some 223,none,.mv (.t 4)⟩,
 ⟨some 224,none,.call (.k (.clo F_draw_Mod [])) [.t 223,.k (.v (.int .i64 30))]⟩,
 ⟨some 225,none,.bin .add false (.t 222) (.t 224)⟩,
 ⟨some 226,none,.build [.v (.int .i64 0),.v (.int .i64 0)] [((0,1),.t 220),((1,1),.t 225)]⟩,
 ⟨some 227,none,.bsl 2 2 [.t 218,.t 226]⟩,
 ⟨some 228,none,.lenL (.t 227)⟩,
 ⟨some 229,none,.mv (.k (.v (.int .i64 0)))⟩])
 (.block 9
 (.loop
 (.seq
 (.reg 45 none [2,3,4,8,19,21,110,111,112,227,228,229,230] [
 ⟨some 230,none,.bin .lss false (.t 229) (.t 228)⟩])
 (.seq
 (.cond (.t 230)
 .skip
 (.exit 9))
 (.seq
 (.block 10
 (.seq
 (.reg 46 none [2,3,4,8,19,21,41,110,111,112,227,228,229] [
 ⟨some 231,none,.ixL 2 (.t 227) (.t 229)⟩,
 ⟨some 232,none,.ld (some 2) (.t 231)⟩,
 ⟨some 41,none,.new (.agg [.v (.int .i64 0),.v (.int .i64 0)])⟩,
 ⟨none,none,.st 2 (.t 41) (.t 232)⟩])
 (.seq
 (.reg 47 none [2,3,4,8,19,21,41,42,43,110,111,112,227,228,229] [
 ⟨some 234,none,.mv (.t 21)⟩,
 ⟨some 235,none,.ixA 2 1 (.t 41) (.k (.v (.int .i64 0)))⟩,
 ⟨some 236,none,.ld none (.t 235)⟩,
 ⟨some 237,none,.ixA 2 1 (.t 41) (.k (.v (.int .i64 1)))⟩,
 ⟨some 238,none,.ld none (.t 237)⟩,
 ⟨some 239,none,.call (.k (.clo F_approvals_Expired [])) [.t 234,.t 236,.t 238]⟩,
 ⟨some 233,none,.mv (.t 239)⟩,
 ⟨some 240,none,.ex (.t 233) 0⟩,
 ⟨some 241,none,.ex (.t 233) 1⟩,
 ⟨some 42,none,.mv (.t 240)⟩,
 ⟨some 43,none,.mv (.t 241)⟩])
 (.seq
 (.reg 48 none [2,3,4,8,19,21,42,43,44,45,110,111,112,227,228,229] [
 ⟨some 243,none,.mv (.t 21)⟩,
 ⟨some 244,none,.ixA 2 1 (.t 41) (.k (.v (.int .i64 0)))⟩,
 ⟨some 245,none,.ld none (.t 244)⟩,
 ⟨some 246,none,.ixA 2 1 (.t 41) (.k (.v (.int .i64 1)))⟩,
 ⟨some 247,none,.ld none (.t 246)⟩,
 ⟨some 248,none,.call (.k (.clo F_ref39_Expired [])) [.t 243,.t 245,.t 247]⟩,
 ⟨some 242,none,.mv (.t 248)⟩,
 ⟨some 249,none,.ex (.t 242) 0⟩,
 ⟨some 250,none,.ex (.t 242) 1⟩,
 ⟨some 44,none,.mv (.t 249)⟩,
 ⟨some 45,none,.mv (.t 250)⟩])
 (.seq
 (.reg 49 none [2,3,4,8,19,21,110,111,112,227,228,229,259] [
 ⟨some 251,none,.mv (.t 42)⟩,
 ⟨some 252,none,.mv (.t 44)⟩,
 ⟨some 253,none,.call (.k (.clo F_ref36_Texts [])) [.t 251,.t 252]⟩,
 ⟨some 254,none,.un .not (.t 253)⟩,
 ⟨some 255,none,.mv (.t 254)⟩,
 ⟨some 256,some (255,false),.mv (.t 43)⟩,
 ⟨some 257,some (255,false),.mv (.t 45)⟩,
 ⟨some 258,some (255,false),.bin .neq false (.t 256) (.t 257)⟩,
 ⟨some 259,none,.pick (.t 255) (.k (.v (.bool true))) (.t 258)⟩])
 (.cond (.t 259)
 (.seq
 (.reg 50 none [14] [
 ⟨some 14,none,.mv (.k (.v (.bool false)))⟩])
 .ret)
 .skip))))))
 (.reg 51 none [2,3,4,8,19,21,110,111,112,227,228,229] [
 ⟨some 260,none,.bin .add false (.t 229) (.k (.v (.int .i64 1)))⟩,
 ⟨some 229,none,.mv (.t 260)⟩]))))))))))))
 (.reg 52 none [2,3,4,8,19,110,111,112] [
 ⟨some 261,none,.bin .add false (.t 112) (.k (.v (.int .i64 1)))⟩,
 ⟨some 112,none,.mv (.t 261)⟩])))))))
 (.seq
 (.reg 53 none [14] [
 ⟨some 262,none,.call (.k (.clo F_law39_awake [])) []⟩,
 ⟨some 14,none,.mv (.t 262)⟩])
 .ret)))))))))
theorem fn_law39_ApprovalsAnswers:FnIR Try.prog F_law39_ApprovalsAnswers 263 [(0,[0,2,3,4,5,6,8]),(1,[0,2,3,4,5,6,8,53]),(2,[14]),(3,[0,2,3,4,6,8,15]),(4,[0,2,3,4,6,8,15,16]),(5,[0,2,3,4,6,8,15,16,17]),(6,[0,2,3,4,6,8,15,16,17,64]),(7,[0,2,3,4,6,8,15,16,17,18]),(8,[0,2,3,4,6,8,15,16,17,18,70]),(9,[0,2,3,4,8,15,16,17]),(10,[0,2,3,4,6,8,15,16,17,18,70,78]),(11,[0,2,3,4,8,15,16,17]),(12,[0,2,3,4,6,8,15,16,17,18,70,86]),(13,[0,2,3,4,8,15,16,17]),(14,[0,2,3,4,8,15,16,17,18,94]),(15,[0,2,3,4,8,15,16,17]),(16,[0,2,3,4,8,16,17,19]),(17,[2,3,4,8,19,110,111,112]),(18,[2,3,4,8,19,110,111,112,113]),(19,[2,3,4,8,19,21,110,111,112]),(20,[2,3,4,8,19,21,110,111,112,120]),(21,[14]),(22,[2,3,4,8,19,21,110,111,112,122,123,124]),(23,[2,3,4,8,19,21,110,111,112,122,123,124,125]),(24,[2,3,4,8,19,21,23,110,111,112,122,123,124]),(25,[2,3,4,8,19,21,23,110,111,112,122,123,124,131,132,133]),(26,[2,3,4,8,19,21,23,110,111,112,122,123,124,131,132,133,134]),(27,[2,3,4,8,19,21,23,25,110,111,112,122,123,124,131,132,133]),(28,[2,3,4,8,19,21,23,25,26,27,110,111,112,122,123,124,131,132,133]),(29,[2,3,4,8,19,21,23,25,26,27,28,29,110,111,112,122,123,124,131,132,133]),(30,[2,3,4,8,19,21,23,25,26,27,28,29,30,31,110,111,112,122,123,124,131,132,133]),(31,[2,3,4,8,19,21,23,26,27,28,29,30,31,32,33,110,111,112,122,123,124,131,132,133]),(32,[2,3,4,8,19,21,23,110,111,112,122,123,124,131,132,133,183]),(33,[14]),(34,[2,3,4,8,19,21,23,110,111,112,122,123,124,131,132,133]),(35,[2,3,4,8,19,21,110,111,112,122,123,124]),(36,[2,3,4,8,19,21,110,111,112,188,189,190]),(37,[2,3,4,8,19,21,110,111,112,188,189,190,191]),(38,[2,3,4,8,19,21,35,110,111,112,188,189,190]),(39,[2,3,4,8,19,21,35,36,37,110,111,112,188,189,190]),(40,[2,3,4,8,19,21,36,37,38,39,110,111,112,188,189,190]),(41,[2,3,4,8,19,21,110,111,112,188,189,190,214]),(42,[14]),(43,[2,3,4,8,19,21,110,111,112,188,189,190]),(44,[2,3,4,8,19,21,110,111,112,227,228,229]),(45,[2,3,4,8,19,21,110,111,112,227,228,229,230]),(46,[2,3,4,8,19,21,41,110,111,112,227,228,229]),(47,[2,3,4,8,19,21,41,42,43,110,111,112,227,228,229]),(48,[2,3,4,8,19,21,42,43,44,45,110,111,112,227,228,229]),(49,[2,3,4,8,19,21,110,111,112,227,228,229,259]),(50,[14]),(51,[2,3,4,8,19,21,110,111,112,227,228,229]),(52,[2,3,4,8,19,110,111,112]),(53,[14])] ir_law39_ApprovalsAnswers [(.tmp 14)]:=
 ⟨Try.f5,_,Try.func5,rfl,by kernel_rfl,rfl,by kernel_rfl,by kernel_rfl⟩
def ir_made_Approvals:RC:=
 (.seq
 (.reg 0 none [0] [
 ⟨some 2,none,.mv (.k (.v (.slice none 0 0)))⟩])
 (.seq
 (.reg 1 none [0,3] [
 ⟨some 3,none,.mv (.k (.v (.slice none 0 0)))⟩])
 (.seq
 (.seq
 (.reg 2 none [0,3,4] [
 ⟨some 6,none,.mv (.t 0)⟩,
 ⟨some 7,none,.call (.k (.clo F_draw_Codes_Next [])) [.t 6,.k (.v (.int .i64 7))]⟩,
 ⟨some 4,none,.mv (.t 7)⟩])
 (.block 0
 (.loop
 (.seq
 (.seq
 (.reg 3 none [0,3,4,9] [
 ⟨some 8,none,.mv (.t 4)⟩,
 ⟨some 9,none,.bin .gtr false (.t 8) (.k (.v (.int .i64 0)))⟩])
 (.cond (.t 9)
 .skip
 (.exit 0)))
 (.seq
 (.block 1
 (.seq
 (.reg 5 none [0,3,4,5] [
 ⟨some 12,none,.mv (.t 0)⟩,
 ⟨some 13,none,.call (.k (.clo F_draw_Codes_Next [])) [.t 12,.k (.v (.int .i64 30))]⟩,
 ⟨some 5,none,.mv (.t 13)⟩])
 (.reg 6 none [0,3,4] [
 ⟨some 15,none,.mv (.t 3)⟩,
 ⟨some 16,none,.mv (.t 0)⟩,
 ⟨some 17,none,.call (.k (.clo F_draw_Codes_Next [])) [.t 16,.k (.v (.int .i64 3))]⟩,
 ⟨some 18,none,.call (.k (.clo F_ref24_Decimal [])) [.t 17]⟩,
 ⟨some 19,none,.bin .add false (.k (.v (.string ⟨#[112]⟩))) (.t 18)⟩,
 ⟨some 20,none,.mv (.t 0)⟩,
 ⟨some 21,none,.call (.k (.clo F_made_Name [])) [.t 20]⟩,
 ⟨some 22,none,.mv (.t 5)⟩,
 ⟨some 23,none,.mv (.t 5)⟩,
 ⟨some 24,none,.mv (.t 0)⟩,
 ⟨some 25,none,.call (.k (.clo F_draw_Codes_Range [])) [.t 24,.k (.v (.int .i64 1)),.k (.v (.int .i64 20))]⟩,
 ⟨some 26,none,.bin .add false (.t 23) (.t 25)⟩,
 ⟨some 27,none,.build [.v (.string ⟨#[]⟩),.v (.string ⟨#[]⟩),.v (.int .i64 0),.v (.int .i64 0)] [((0,1),.t 19),((1,1),.t 21),((2,1),.t 22),((3,1),.t 26)]⟩,
 ⟨some 28,none,.call (.k (.clo F_ref39_Add [])) [.t 15,.t 27]⟩,
 ⟨some 14,none,.mv (.t 28)⟩,
 ⟨some 29,none,.ex (.t 14) 0⟩,
 ⟨some 30,none,.ex (.t 14) 1⟩,
 ⟨some 3,none,.mv (.t 29)⟩])))
 (.reg 4 none [0,3,4] [
 ⟨some 10,none,.mv (.t 4)⟩,
 ⟨some 11,none,.bin .sub false (.t 10) (.k (.v (.int .i64 1)))⟩,
 ⟨some 4,none,.mv (.t 11)⟩]))))))
 (.seq
 (.reg 7 none [2] [
 ⟨some 31,none,.mv (.t 3)⟩,
 ⟨some 2,none,.mv (.t 31)⟩])
 .ret))))
theorem fn_made_Approvals:FnIR Try.prog F_made_Approvals 32 [(0,[0]),(1,[0,3]),(2,[0,3,4]),(3,[0,3,4,9]),(4,[0,3,4]),(5,[0,3,4,5]),(6,[0,3,4]),(7,[2])] ir_made_Approvals [(.tmp 2)]:=
 ⟨Try.f6,_,Try.func6,rfl,by kernel_rfl,rfl,by kernel_rfl,by kernel_rfl⟩
def ir_draw_New:RC:=
 (.seq
 (.reg 0 none [0] [
 ⟨some 2,none,.mv (.k (.v (.pointer none)))⟩])
 (.seq
 (.reg 1 none [2] [
 ⟨some 3,none,.mv (.t 0)⟩,
 ⟨some 4,none,.mv (.t 0)⟩,
 ⟨some 5,none,.lenL (.t 4)⟩,
 ⟨some 6,none,.mn [.t 5,.k (.v (.int .i64 400))]⟩,
 ⟨some 7,none,.slL 1 (.t 3) none (some (.t 6))⟩,
 ⟨some 8,none,.build [.v (.slice none 0 0),.v (.int .i64 0)] [((0,1),.t 7)]⟩,
 ⟨some 9,none,.box (.t 8)⟩,
 ⟨some 2,none,.mv (.t 9)⟩])
 .ret))
theorem fn_draw_New:FnIR Try.prog F_draw_New 10 [(0,[0]),(1,[2])] ir_draw_New [(.tmp 2)]:=
 ⟨Try.f7,_,Try.func7,rfl,by kernel_rfl,rfl,by kernel_rfl,by kernel_rfl⟩
def ir_approvals_Active:RC:=
 (.seq
 (.reg 0 none [0,1,2,6] [
 ⟨some 6,none,.new (.agg [.v (.string ⟨#[]⟩),.v (.string ⟨#[]⟩),.v (.int .i64 0),.v (.int .i64 0)])⟩,
 ⟨some 7,none,.mv (.k (.v (.bool false)))⟩])
 (.seq
 (.reg 1 none [0,6,8] [
 ⟨some 9,none,.mv (.t 0)⟩,
 ⟨some 10,none,.mv (.t 1)⟩,
 ⟨some 11,none,.mv (.t 2)⟩,
 ⟨some 12,none,.call (.k (.clo F_approvals_find [])) [.t 9,.t 10,.t 11]⟩,
 ⟨some 8,none,.mv (.t 12)⟩])
 (.seq
 (.seq
 (.reg 2 none [0,6,8,19] [
 ⟨some 13,none,.mv (.t 8)⟩,
 ⟨some 14,none,.bin .lss false (.t 13) (.k (.v (.int .i64 0)))⟩,
 ⟨some 15,none,.mv (.t 14)⟩,
 ⟨some 16,some (15,false),.mv (.t 0)⟩,
 ⟨some 17,some (15,false),.call (.k (.clo F_approvals_Check [])) [.t 16]⟩,
 ⟨some 18,some (15,false),.bin .neq false (.t 17) (.k (.v (.int .i64 0)))⟩,
 ⟨some 19,none,.pick (.t 15) (.k (.v (.bool true))) (.t 18)⟩])
 (.cond (.t 19)
 (.seq
 (.reg 3 none [6,7] [
 ⟨some 20,none,.build [.v (.string ⟨#[]⟩),.v (.string ⟨#[]⟩),.v (.int .i64 0),.v (.int .i64 0)] []⟩,
 ⟨none,none,.st 4 (.t 6) (.t 20)⟩,
 ⟨some 7,none,.mv (.k (.v (.bool false)))⟩])
 .ret)
 .skip))
 (.seq
 (.reg 4 none [6,7] [
 ⟨some 21,none,.mv (.t 0)⟩,
 ⟨some 22,none,.mv (.t 8)⟩,
 ⟨some 23,none,.ixL 4 (.t 21) (.t 22)⟩,
 ⟨some 24,none,.ld (some 4) (.t 23)⟩,
 ⟨none,none,.st 4 (.t 6) (.t 24)⟩,
 ⟨some 7,none,.mv (.k (.v (.bool true)))⟩])
 .ret))))
theorem fn_approvals_Active:FnIR Try.prog F_approvals_Active 25 [(0,[0,1,2,6]),(1,[0,6,8]),(2,[0,6,8,19]),(3,[6,7]),(4,[6,7])] ir_approvals_Active [(.cell 6 (some 4)),(.tmp 7)]:=
 ⟨Try.f8,_,Try.func8,rfl,by kernel_rfl,rfl,by kernel_rfl,by kernel_rfl⟩
def ir_approvals_End:RC:=
 (.seq
 (.reg 0 none [0,1,2] [
 ⟨some 6,none,.mv (.k (.v (.slice none 0 0)))⟩,
 ⟨some 7,none,.mv (.k (.v (.int .i64 0)))⟩])
 (.seq
 (.reg 1 none [0,1,2,8] [
 ⟨some 11,none,.mv (.t 0)⟩,
 ⟨some 12,none,.call (.k (.clo F_slices_Clone_Approval [])) [.t 11]⟩,
 ⟨some 8,none,.mv (.t 12)⟩])
 (.seq
 (.seq
 (.reg 2 none [0,1,2,8,9] [
 ⟨some 13,none,.mv (.t 0)⟩,
 ⟨some 14,none,.call (.k (.clo F_approvals_Check [])) [.t 13]⟩,
 ⟨some 9,none,.mv (.t 14)⟩])
 (.seq
 (.reg 3 none [0,1,2,8,9,16] [
 ⟨some 15,none,.mv (.t 9)⟩,
 ⟨some 16,none,.bin .neq false (.t 15) (.k (.v (.int .i64 0)))⟩])
 (.cond (.t 16)
 (.seq
 (.reg 4 none [6,7] [
 ⟨some 17,none,.mv (.t 8)⟩,
 ⟨some 18,none,.mv (.t 9)⟩,
 ⟨some 6,none,.mv (.t 17)⟩,
 ⟨some 7,none,.mv (.t 18)⟩])
 .ret)
 .skip)))
 (.seq
 (.reg 5 none [2,8,10] [
 ⟨some 19,none,.mv (.t 0)⟩,
 ⟨some 20,none,.mv (.t 1)⟩,
 ⟨some 21,none,.mv (.t 2)⟩,
 ⟨some 22,none,.call (.k (.clo F_approvals_find [])) [.t 19,.t 20,.t 21]⟩,
 ⟨some 10,none,.mv (.t 22)⟩])
 (.seq
 (.block 0
 (.seq
 (.reg 6 none [2,8,10,23] [
 ⟨some 24,none,.mv (.t 10)⟩,
 ⟨some 25,none,.bin .lss false (.t 24) (.k (.v (.int .i64 0)))⟩,
 ⟨some 23,none,.mv (.t 25)⟩])
 (.cond (.t 23)
 (.seq
 (.reg 7 none [6,7] [
 ⟨some 26,none,.mv (.t 8)⟩,
 ⟨some 6,none,.mv (.t 26)⟩,
 ⟨some 7,none,.mv (.k (.v (.int .i64 54)))⟩])
 .ret)
 (.seq
 (.reg 8 none [2,8,10,27] [
 ⟨some 28,none,.mv (.t 8)⟩,
 ⟨some 29,none,.mv (.t 10)⟩,
 ⟨some 30,none,.ixL 4 (.t 28) (.t 29)⟩,
 ⟨some 31,none,.fa 2 (.t 30)⟩,
 ⟨some 32,none,.ld none (.t 31)⟩,
 ⟨some 33,none,.mv (.t 2)⟩,
 ⟨some 34,none,.bin .eql false (.t 32) (.t 33)⟩,
 ⟨some 27,none,.mv (.t 34)⟩])
 (.cond (.t 27)
 (.seq
 (.reg 9 none [6,7] [
 ⟨some 35,none,.mv (.t 8)⟩,
 ⟨some 36,none,.mv (.t 10)⟩,
 ⟨some 37,none,.mv (.t 10)⟩,
 ⟨some 38,none,.bin .add false (.t 37) (.k (.v (.int .i64 1)))⟩,
 ⟨some 39,none,.call (.k (.clo F_slices_Delete_Approval [])) [.t 35,.t 36,.t 38]⟩,
 ⟨some 6,none,.mv (.t 39)⟩,
 ⟨some 7,none,.mv (.k (.v (.int .i64 0)))⟩])
 .ret)
 .skip)))))
 (.seq
 (.reg 10 none [8] [
 ⟨some 40,none,.mv (.t 8)⟩,
 ⟨some 41,none,.mv (.t 10)⟩,
 ⟨some 42,none,.mv (.t 2)⟩,
 ⟨some 43,none,.ixL 4 (.t 40) (.t 41)⟩,
 ⟨some 44,none,.fa 3 (.t 43)⟩,
 ⟨none,none,.st 1 (.t 44) (.t 42)⟩])
 (.seq
 (.reg 11 none [6,7] [
 ⟨some 45,none,.mv (.t 8)⟩,
 ⟨some 6,none,.mv (.t 45)⟩,
 ⟨some 7,none,.mv (.k (.v (.int .i64 0)))⟩])
 .ret)))))))
theorem fn_approvals_End:FnIR Try.prog F_approvals_End 46 [(0,[0,1,2]),(1,[0,1,2,8]),(2,[0,1,2,8,9]),(3,[0,1,2,8,9,16]),(4,[6,7]),(5,[2,8,10]),(6,[2,8,10,23]),(7,[6,7]),(8,[2,8,10,27]),(9,[6,7]),(10,[8]),(11,[6,7])] ir_approvals_End [(.tmp 6),(.tmp 7)]:=
 ⟨Try.f9,_,Try.func9,rfl,by kernel_rfl,rfl,by kernel_rfl,by kernel_rfl⟩
def ir_approvals_Check:RC:=
 (.seq
 (.reg 0 none [0] [
 ⟨some 2,none,.mv (.k (.v (.int .i64 0)))⟩])
 (.seq
 (.seq
 (.reg 1 none [0,8] [
 ⟨some 6,none,.mv (.t 0)⟩,
 ⟨some 7,none,.lenL (.t 6)⟩,
 ⟨some 8,none,.bin .gtr false (.t 7) (.k (.v (.int .i64 60)))⟩])
 (.cond (.t 8)
 (.seq
 (.reg 2 none [2] [
 ⟨some 2,none,.mv (.k (.v (.int .i64 1)))⟩])
 .ret)
 .skip))
 (.seq
 (.seq
 (.reg 3 none [0,9,10,11] [
 ⟨some 9,none,.mv (.t 0)⟩,
 ⟨some 10,none,.lenL (.t 9)⟩,
 ⟨some 11,none,.mv (.k (.v (.int .i64 0)))⟩])
 (.block 0
 (.loop
 (.seq
 (.reg 4 none [0,9,10,11,12] [
 ⟨some 12,none,.bin .lss false (.t 11) (.t 10)⟩])
 (.seq
 (.cond (.t 12)
 .skip
 (.exit 0))
 (.seq
 (.block 1
 (.seq
 (.reg 5 none [0,3,4,9,10,11] [
 ⟨some 13,none,.mv (.t 11)⟩,
 ⟨some 14,none,.ixL 4 (.t 9) (.t 11)⟩,
 ⟨some 15,none,.ld (some 4) (.t 14)⟩,
 ⟨some 4,none,.new (.agg [.v (.string ⟨#[]⟩),.v (.string ⟨#[]⟩),.v (.int .i64 0),.v (.int .i64 0)])⟩,
 ⟨some 3,none,.mv (.t 13)⟩,
 ⟨none,none,.st 4 (.t 4) (.t 15)⟩])
 (.seq
 (.seq
 (.reg 6 none [0,3,4,5,9,10,11] [
 ⟨some 16,none,.ld (some 4) (.t 4)⟩,
 ⟨some 17,none,.call (.k (.clo F_approvals_single [])) [.t 16]⟩,
 ⟨some 5,none,.mv (.t 17)⟩])
 (.seq
 (.reg 7 none [0,3,4,5,9,10,11,19] [
 ⟨some 18,none,.mv (.t 5)⟩,
 ⟨some 19,none,.bin .neq false (.t 18) (.k (.v (.int .i64 0)))⟩])
 (.cond (.t 19)
 (.seq
 (.reg 8 none [2] [
 ⟨some 20,none,.mv (.t 5)⟩,
 ⟨some 2,none,.mv (.t 20)⟩])
 .ret)
 .skip)))
 (.seq
 (.seq
 (.reg 9 (some [0,1,3,7,7,23,63,127,7,511,1023,2047]) [0,3,4,9,10,11,32] [
 ⟨some 21,none,.mv (.t 3)⟩,
 ⟨some 22,none,.bin .gtr false (.t 21) (.k (.v (.int .i64 0)))⟩,
 ⟨some 23,none,.mv (.t 22)⟩,
 ⟨some 24,some (23,true),.mv (.t 0)⟩,
 ⟨some 25,some (23,true),.mv (.t 3)⟩,
 ⟨some 26,some (23,true),.bin .sub false (.t 25) (.k (.v (.int .i64 1)))⟩,
 ⟨some 27,some (23,true),.ixL 4 (.t 24) (.t 26)⟩,
 ⟨some 28,some (23,true),.ld (some 4) (.t 27)⟩,
 ⟨some 29,some (23,true),.ld (some 4) (.t 4)⟩,
 ⟨some 30,some (23,true),.call (.k (.clo F_approvals_compare [])) [.t 28,.t 29]⟩,
 ⟨some 31,some (23,true),.bin .geq false (.t 30) (.k (.v (.int .i64 0)))⟩,
 ⟨some 32,none,.pick (.t 23) (.t 31) (.k (.v (.bool false)))⟩])
 (.cond (.t 32)
 (.seq
 (.reg 10 none [2] [
 ⟨some 2,none,.mv (.k (.v (.int .i64 11)))⟩])
 .ret)
 .skip))
 (.seq
 (.reg 11 (some [0,0,3,0,15]) [0,9,10,11,37] [
 ⟨some 33,none,.mv (.t 0)⟩,
 ⟨some 34,none,.mv (.t 3)⟩,
 ⟨some 35,none,.slL 4 (.t 33) none (some (.t 34))⟩,
 ⟨some 36,none,.ld (some 4) (.t 4)⟩,
 ⟨some 37,none,.call (.k (.clo F_approvals_overlaps [])) [.t 35,.t 36]⟩])
 (.cond (.t 37)
 (.seq
 (.reg 12 none [2] [
 ⟨some 2,none,.mv (.k (.v (.int .i64 10)))⟩])
 .ret)
 .skip))))))
 (.reg 13 none [0,9,10,11] [
 ⟨some 38,none,.bin .add false (.t 11) (.k (.v (.int .i64 1)))⟩,
 ⟨some 11,none,.mv (.t 38)⟩])))))))
 (.seq
 (.reg 14 none [2] [
 ⟨some 2,none,.mv (.k (.v (.int .i64 0)))⟩])
 .ret))))
theorem fn_approvals_Check:FnIR Try.prog F_approvals_Check 39 [(0,[0]),(1,[0,8]),(2,[2]),(3,[0,9,10,11]),(4,[0,9,10,11,12]),(5,[0,3,4,9,10,11]),(6,[0,3,4,5,9,10,11]),(7,[0,3,4,5,9,10,11,19]),(8,[2]),(9,[0,3,4,9,10,11,32]),(10,[2]),(11,[0,9,10,11,37]),(12,[2]),(13,[0,9,10,11]),(14,[2])] ir_approvals_Check [(.tmp 2)]:=
 ⟨Try.f10,_,Try.func10,rfl,by kernel_rfl,rfl,by kernel_rfl,by kernel_rfl⟩
def ir_law39_awake:RC:=
 (.seq
 (.reg 0 none [] [
 ⟨some 0,none,.mv (.k (.v (.bool false)))⟩])
 (.seq
 (.reg 1 none [1,2] [
 ⟨some 9,none,.build [.v (.string ⟨#[]⟩),.v (.string ⟨#[]⟩),.v (.int .i64 0),.v (.int .i64 0)] [((0,1),.k (.v (.string ⟨#[112]⟩))),((1,1),.k (.v (.string ⟨#[97,110,110]⟩))),((2,1),.k (.v (.int .i64 5))),((3,1),.k (.v (.int .i64 10)))]⟩,
 ⟨some 10,none,.call (.k (.clo F_approvals_Add [])) [.k (.v (.slice none 0 0)),.t 9]⟩,
 ⟨some 8,none,.mv (.t 10)⟩,
 ⟨some 11,none,.ex (.t 8) 0⟩,
 ⟨some 12,none,.ex (.t 8) 1⟩,
 ⟨some 1,none,.mv (.t 11)⟩,
 ⟨some 2,none,.mv (.t 12)⟩])
 (.seq
 (.reg 2 none [1,2,4] [
 ⟨some 14,none,.mv (.t 1)⟩,
 ⟨some 15,none,.call (.k (.clo F_approvals_Active [])) [.t 14,.k (.v (.string ⟨#[112]⟩)),.k (.v (.int .i64 9))]⟩,
 ⟨some 13,none,.mv (.t 15)⟩,
 ⟨some 16,none,.ex (.t 13) 0⟩,
 ⟨some 17,none,.ex (.t 13) 1⟩,
 ⟨some 3,none,.new (.agg [.v (.string ⟨#[]⟩),.v (.string ⟨#[]⟩),.v (.int .i64 0),.v (.int .i64 0)])⟩,
 ⟨none,none,.st 4 (.t 3) (.t 16)⟩,
 ⟨some 4,none,.mv (.t 17)⟩])
 (.seq
 (.reg 3 none [1,2,4,6] [
 ⟨some 19,none,.mv (.t 1)⟩,
 ⟨some 20,none,.call (.k (.clo F_approvals_Active [])) [.t 19,.k (.v (.string ⟨#[112]⟩)),.k (.v (.int .i64 10))]⟩,
 ⟨some 18,none,.mv (.t 20)⟩,
 ⟨some 21,none,.ex (.t 18) 0⟩,
 ⟨some 22,none,.ex (.t 18) 1⟩,
 ⟨some 5,none,.new (.agg [.v (.string ⟨#[]⟩),.v (.string ⟨#[]⟩),.v (.int .i64 0),.v (.int .i64 0)])⟩,
 ⟨none,none,.st 4 (.t 5) (.t 21)⟩,
 ⟨some 6,none,.mv (.t 22)⟩])
 (.seq
 (.reg 4 none [1,2,4,6,7] [
 ⟨some 24,none,.mv (.t 1)⟩,
 ⟨some 25,none,.call (.k (.clo F_approvals_End [])) [.t 24,.k (.v (.string ⟨#[112]⟩)),.k (.v (.int .i64 7))]⟩,
 ⟨some 23,none,.mv (.t 25)⟩,
 ⟨some 26,none,.ex (.t 23) 0⟩,
 ⟨some 27,none,.ex (.t 23) 1⟩,
 ⟨some 1,none,.mv (.t 26)⟩,
 ⟨some 7,none,.mv (.t 27)⟩])
 (.seq
 (.reg 5 none [0] [
 ⟨some 28,none,.mv (.t 2)⟩,
 ⟨some 29,none,.bin .eql false (.t 28) (.k (.v (.int .i64 0)))⟩,
 ⟨some 30,none,.mv (.t 29)⟩,
 ⟨some 31,some (30,true),.mv (.t 4)⟩,
 ⟨some 32,none,.pick (.t 30) (.t 31) (.k (.v (.bool false)))⟩,
 ⟨some 33,none,.mv (.t 32)⟩,
 ⟨some 34,some (33,true),.mv (.t 6)⟩,
 ⟨some 35,some (33,true),.un .not (.t 34)⟩,
 ⟨some 36,none,.pick (.t 33) (.t 35) (.k (.v (.bool false)))⟩,
 ⟨some 37,none,.mv (.t 36)⟩,
 ⟨some 38,some (37,true),.mv (.t 7)⟩,
 ⟨some 39,some (37,true),.bin .eql false (.t 38) (.k (.v (.int .i64 0)))⟩,
 ⟨some 40,none,.pick (.t 37) (.t 39) (.k (.v (.bool false)))⟩,
 ⟨some 41,none,.mv (.t 40)⟩,
 ⟨some 42,some (41,true),.mv (.t 1)⟩,
 ⟨some 43,some (41,true),.lenL (.t 42)⟩,
 ⟨some 44,some (41,true),.bin .eql false (.t 43) (.k (.v (.int .i64 1)))⟩,
 ⟨some 45,none,.pick (.t 41) (.t 44) (.k (.v (.bool false)))⟩,
 ⟨some 46,none,.mv (.t 45)⟩,
 ⟨some 47,some (46,true),.mv (.t 1)⟩,
 ⟨some 48,some (46,true),.ixL 4 (.t 47) (.k (.v (.int .i64 0)))⟩,
 ⟨some 49,some (46,true),.fa 2 (.t 48)⟩,
 ⟨some 50,some (46,true),.ld none (.t 49)⟩,
 ⟨some 51,some (46,true),.bin .eql false (.t 50) (.k (.v (.int .i64 5)))⟩,
 ⟨some 52,none,.pick (.t 46) (.t 51) (.k (.v (.bool false)))⟩,
 ⟨some 53,none,.mv (.t 52)⟩,
 ⟨some 54,some (53,true),.mv (.t 1)⟩,
 ⟨some 55,some (53,true),.ixL 4 (.t 54) (.k (.v (.int .i64 0)))⟩,
 ⟨some 56,some (53,true),.fa 3 (.t 55)⟩,
 ⟨some 57,some (53,true),.ld none (.t 56)⟩,
 ⟨some 58,some (53,true),.bin .eql false (.t 57) (.k (.v (.int .i64 7)))⟩,
 ⟨some 59,none,.pick (.t 53) (.t 58) (.k (.v (.bool false)))⟩,
 ⟨some 0,none,.mv (.t 59)⟩])
 .ret))))))
theorem fn_law39_awake:FnIR Try.prog F_law39_awake 60 [(1,[1,2]),(2,[1,2,4]),(3,[1,2,4,6]),(4,[1,2,4,6,7]),(5,[0])] ir_law39_awake [(.tmp 0)]:=
 ⟨Try.f11,_,Try.func11,rfl,by kernel_rfl,rfl,by kernel_rfl,by kernel_rfl⟩
def ir_approvals_Add:RC:=
 (.seq
 (.reg 0 none [0,3] [
 ⟨some 3,none,.box (.t 1)⟩,
 ⟨some 4,none,.mv (.k (.v (.slice none 0 0)))⟩,
 ⟨some 5,none,.mv (.k (.v (.int .i64 0)))⟩])
 (.seq
 (.reg 1 none [0,3,6] [
 ⟨some 11,none,.mv (.t 0)⟩,
 ⟨some 12,none,.call (.k (.clo F_slices_Clone_Approval [])) [.t 11]⟩,
 ⟨some 6,none,.mv (.t 12)⟩])
 (.seq
 (.seq
 (.reg 2 none [0,3,6,7] [
 ⟨some 13,none,.mv (.t 0)⟩,
 ⟨some 14,none,.call (.k (.clo F_approvals_Check [])) [.t 13]⟩,
 ⟨some 7,none,.mv (.t 14)⟩])
 (.seq
 (.reg 3 none [0,3,6,7,16] [
 ⟨some 15,none,.mv (.t 7)⟩,
 ⟨some 16,none,.bin .neq false (.t 15) (.k (.v (.int .i64 0)))⟩])
 (.cond (.t 16)
 (.seq
 (.reg 4 none [4,5] [
 ⟨some 17,none,.mv (.t 6)⟩,
 ⟨some 18,none,.mv (.t 7)⟩,
 ⟨some 4,none,.mv (.t 17)⟩,
 ⟨some 5,none,.mv (.t 18)⟩])
 .ret)
 .skip)))
 (.seq
 (.seq
 (.reg 5 none [0,3,6,8] [
 ⟨some 19,none,.ld (some 4) (.t 3)⟩,
 ⟨some 20,none,.call (.k (.clo F_approvals_single [])) [.t 19]⟩,
 ⟨some 8,none,.mv (.t 20)⟩])
 (.seq
 (.reg 6 none [0,3,6,8,22] [
 ⟨some 21,none,.mv (.t 8)⟩,
 ⟨some 22,none,.bin .neq false (.t 21) (.k (.v (.int .i64 0)))⟩])
 (.cond (.t 22)
 (.seq
 (.reg 7 none [4,5] [
 ⟨some 23,none,.mv (.t 6)⟩,
 ⟨some 24,none,.mv (.t 8)⟩,
 ⟨some 4,none,.mv (.t 23)⟩,
 ⟨some 5,none,.mv (.t 24)⟩])
 .ret)
 .skip)))
 (.seq
 (.block 0
 (.seq
 (.reg 8 none [0,3,6,25] [
 ⟨some 26,none,.mv (.t 0)⟩,
 ⟨some 27,none,.ld (some 4) (.t 3)⟩,
 ⟨some 28,none,.call (.k (.clo F_approvals_overlaps [])) [.t 26,.t 27]⟩,
 ⟨some 25,none,.mv (.t 28)⟩])
 (.cond (.t 25)
 (.seq
 (.reg 9 none [4,5] [
 ⟨some 29,none,.mv (.t 6)⟩,
 ⟨some 4,none,.mv (.t 29)⟩,
 ⟨some 5,none,.mv (.k (.v (.int .i64 10)))⟩])
 .ret)
 (.seq
 (.reg 10 none [0,3,6,30] [
 ⟨some 31,none,.mv (.t 0)⟩,
 ⟨some 32,none,.lenL (.t 31)⟩,
 ⟨some 33,none,.bin .eql false (.t 32) (.k (.v (.int .i64 60)))⟩,
 ⟨some 30,none,.mv (.t 33)⟩])
 (.cond (.t 30)
 (.seq
 (.reg 11 none [4,5] [
 ⟨some 34,none,.mv (.t 6)⟩,
 ⟨some 4,none,.mv (.t 34)⟩,
 ⟨some 5,none,.mv (.k (.v (.int .i64 1)))⟩])
 .ret)
 .skip)))))
 (.seq
 (.reg 12 none [3,6,9] [
 ⟨some 36,none,.mv (.t 0)⟩,
 ⟨some 37,none,.ld (some 4) (.t 3)⟩,
 ⟨some 38,none,.call (.k (.clo F_slices_BinarySearchFunc_Approval_Approval_Approval [])) [.t 36,.t 37,.k (.clo F_approvals_Add_1 [])]⟩,
 ⟨some 35,none,.mv (.t 38)⟩,
 ⟨some 39,none,.ex (.t 35) 0⟩,
 ⟨some 40,none,.ex (.t 35) 1⟩,
 ⟨some 9,none,.mv (.t 39)⟩,
 ⟨some 10,none,.mv (.t 40)⟩])
 (.seq
 (.reg 13 none [4,5] [
 ⟨some 41,none,.mv (.t 6)⟩,
 ⟨some 42,none,.mv (.t 9)⟩,
 ⟨some 43,none,.ld (some 4) (.t 3)⟩,
 ⟨some 44,none,.bsl 4 1 [.t 43]⟩,
 ⟨some 45,none,.call (.k (.clo F_slices_Insert_Approval [])) [.t 41,.t 42,.t 44]⟩,
 ⟨some 4,none,.mv (.t 45)⟩,
 ⟨some 5,none,.mv (.k (.v (.int .i64 0)))⟩])
 .ret)))))))
theorem fn_approvals_Add:FnIR Try.prog F_approvals_Add 46 [(0,[0,3]),(1,[0,3,6]),(2,[0,3,6,7]),(3,[0,3,6,7,16]),(4,[4,5]),(5,[0,3,6,8]),(6,[0,3,6,8,22]),(7,[4,5]),(8,[0,3,6,25]),(9,[4,5]),(10,[0,3,6,30]),(11,[4,5]),(12,[3,6,9]),(13,[4,5])] ir_approvals_Add [(.tmp 4),(.tmp 5)]:=
 ⟨Try.f12,_,Try.func12,rfl,by kernel_rfl,rfl,by kernel_rfl,by kernel_rfl⟩
def ir_ref39_Same:RC:=
 (.seq
 (.reg 0 none [0,1] [
 ⟨some 4,none,.mv (.k (.v (.bool false)))⟩])
 (.seq
 (.seq
 (.reg 1 none [0,1,10] [
 ⟨some 6,none,.mv (.t 0)⟩,
 ⟨some 7,none,.lenL (.t 6)⟩,
 ⟨some 8,none,.mv (.t 1)⟩,
 ⟨some 9,none,.lenL (.t 8)⟩,
 ⟨some 10,none,.bin .neq false (.t 7) (.t 9)⟩])
 (.cond (.t 10)
 (.seq
 (.reg 2 none [4] [
 ⟨some 4,none,.mv (.k (.v (.bool false)))⟩])
 .ret)
 .skip))
 (.seq
 (.seq
 (.reg 3 none [0,1,12,13] [
 ⟨some 11,none,.mv (.t 0)⟩,
 ⟨some 12,none,.lenL (.t 11)⟩,
 ⟨some 13,none,.mv (.k (.v (.int .i64 0)))⟩])
 (.block 0
 (.loop
 (.seq
 (.reg 4 none [0,1,12,13,14] [
 ⟨some 14,none,.bin .lss false (.t 13) (.t 12)⟩])
 (.seq
 (.cond (.t 14)
 .skip
 (.exit 0))
 (.seq
 (.block 1
 (.seq
 (.reg 5 none [0,1,5,12,13] [
 ⟨some 15,none,.mv (.t 13)⟩,
 ⟨some 5,none,.mv (.t 15)⟩])
 (.seq
 (.reg 6 (some [0,0,3,7,0,0,48,112,255]) [0,1,12,13,24] [
 ⟨some 16,none,.mv (.t 0)⟩,
 ⟨some 17,none,.mv (.t 5)⟩,
 ⟨some 18,none,.ixL 4 (.t 16) (.t 17)⟩,
 ⟨some 19,none,.ld (some 4) (.t 18)⟩,
 ⟨some 20,none,.mv (.t 1)⟩,
 ⟨some 21,none,.mv (.t 5)⟩,
 ⟨some 22,none,.ixL 4 (.t 20) (.t 21)⟩,
 ⟨some 23,none,.ld (some 4) (.t 22)⟩,
 ⟨some 24,none,.ext (.eqS true [.s,.s,.i .i64,.i .i64]) [.t 19,.t 23]⟩])
 (.cond (.t 24)
 (.seq
 (.reg 7 none [4] [
 ⟨some 4,none,.mv (.k (.v (.bool false)))⟩])
 .ret)
 .skip))))
 (.reg 8 none [0,1,12,13] [
 ⟨some 25,none,.bin .add false (.t 13) (.k (.v (.int .i64 1)))⟩,
 ⟨some 13,none,.mv (.t 25)⟩])))))))
 (.seq
 (.reg 9 none [4] [
 ⟨some 4,none,.mv (.k (.v (.bool true)))⟩])
 .ret))))
theorem fn_ref39_Same:FnIR Try.prog F_ref39_Same 26 [(0,[0,1]),(1,[0,1,10]),(2,[4]),(3,[0,1,12,13]),(4,[0,1,12,13,14]),(5,[0,1,5,12,13]),(6,[0,1,12,13,24]),(7,[4]),(8,[0,1,12,13]),(9,[4])] ir_ref39_Same [(.tmp 4)]:=
 ⟨Try.f13,_,Try.func13,rfl,by kernel_rfl,rfl,by kernel_rfl,by kernel_rfl⟩
def ir_draw_Mod:RC:=
 (.seq
 (.reg 0 none [0,1] [
 ⟨some 4,none,.mv (.k (.v (.int .i64 0)))⟩])
 (.seq
 (.seq
 (.reg 1 none [0,1,6] [
 ⟨some 5,none,.mv (.t 1)⟩,
 ⟨some 6,none,.bin .lss false (.t 5) (.k (.v (.int .i64 1)))⟩])
 (.cond (.t 6)
 (.seq
 (.reg 2 none [4] [
 ⟨some 4,none,.mv (.k (.v (.int .i64 0)))⟩])
 .ret)
 .skip))
 (.seq
 (.reg 3 none [0,1] [
 ⟨some 7,none,.mv (.t 0)⟩,
 ⟨some 8,none,.mv (.t 1)⟩,
 ⟨some 9,none,.bin .rem false (.t 7) (.t 8)⟩,
 ⟨some 0,none,.mv (.t 9)⟩])
 (.seq
 (.seq
 (.reg 4 none [0,1,11] [
 ⟨some 10,none,.mv (.t 0)⟩,
 ⟨some 11,none,.bin .lss false (.t 10) (.k (.v (.int .i64 0)))⟩])
 (.cond (.t 11)
 (.reg 5 none [0] [
 ⟨some 12,none,.mv (.t 0)⟩,
 ⟨some 13,none,.mv (.t 1)⟩,
 ⟨some 14,none,.bin .add false (.t 12) (.t 13)⟩,
 ⟨some 0,none,.mv (.t 14)⟩])
 .skip))
 (.seq
 (.reg 6 none [4] [
 ⟨some 15,none,.mv (.t 0)⟩,
 ⟨some 4,none,.mv (.t 15)⟩])
 .ret)))))
theorem fn_draw_Mod:FnIR Try.prog F_draw_Mod 16 [(0,[0,1]),(1,[0,1,6]),(2,[4]),(3,[0,1]),(4,[0,1,11]),(5,[0]),(6,[4])] ir_draw_Mod [(.tmp 4)]:=
 ⟨Try.f14,_,Try.func14,rfl,by kernel_rfl,rfl,by kernel_rfl,by kernel_rfl⟩
def ir_made_Name:RC:=
 (.seq
 (.reg 0 none [0] [
 ⟨some 2,none,.mv (.k (.v (.string ⟨#[]⟩)))⟩])
 (.seq
 (.reg 1 none [2] [
 ⟨some 3,none,.bsl 1 5 [.k (.v (.string ⟨#[97,110,110]⟩)),.k (.v (.string ⟨#[98,111,98]⟩)),.k (.v (.string ⟨#[99,121,100]⟩)),.k (.v (.string ⟨#[100,97,110]⟩)),.k (.v (.string ⟨#[101,118,101]⟩))]⟩,
 ⟨some 4,none,.mv (.t 0)⟩,
 ⟨some 5,none,.call (.k (.clo F_draw_Codes_Next [])) [.t 4,.k (.v (.int .i64 5))]⟩,
 ⟨some 6,none,.ixL 1 (.t 3) (.t 5)⟩,
 ⟨some 7,none,.ld none (.t 6)⟩,
 ⟨some 2,none,.mv (.t 7)⟩])
 .ret))
theorem fn_made_Name:FnIR Try.prog F_made_Name 8 [(0,[0]),(1,[2])] ir_made_Name [(.tmp 2)]:=
 ⟨Try.f15,_,Try.func15,rfl,by kernel_rfl,rfl,by kernel_rfl,by kernel_rfl⟩
def ir_draw_Codes_Next:RC:=
 (.seq
 (.reg 0 none [0,1] [
 ⟨some 4,none,.mv (.k (.v (.int .i64 0)))⟩])
 (.seq
 (.seq
 (.reg 1 (some [0,1,3,7,15,31,63,7,135,391,903,1927,4095,8191]) [0,1,19] [
 ⟨some 6,none,.mv (.t 1)⟩,
 ⟨some 7,none,.bin .lss false (.t 6) (.k (.v (.int .i64 1)))⟩,
 ⟨some 8,none,.mv (.t 7)⟩,
 ⟨some 9,some (8,false),.mv (.t 0)⟩,
 ⟨some 10,some (8,false),.nc (.t 9)⟩,
 ⟨some 11,some (8,false),.fa 1 (.t 10)⟩,
 ⟨some 12,some (8,false),.ld none (.t 11)⟩,
 ⟨some 13,some (8,false),.mv (.t 0)⟩,
 ⟨some 14,some (8,false),.nc (.t 13)⟩,
 ⟨some 15,some (8,false),.fa 0 (.t 14)⟩,
 ⟨some 16,some (8,false),.ld none (.t 15)⟩,
 ⟨some 17,some (8,false),.lenL (.t 16)⟩,
 ⟨some 18,some (8,false),.bin .geq false (.t 12) (.t 17)⟩,
 ⟨some 19,none,.pick (.t 8) (.k (.v (.bool true))) (.t 18)⟩])
 (.cond (.t 19)
 (.seq
 (.reg 2 none [4] [
 ⟨some 4,none,.mv (.k (.v (.int .i64 0)))⟩])
 .ret)
 .skip))
 (.seq
 (.reg 3 none [0,1] [
 ⟨some 20,none,.mv (.t 0)⟩,
 ⟨some 21,none,.nc (.t 20)⟩,
 ⟨some 22,none,.fa 1 (.t 21)⟩,
 ⟨some 23,none,.ld none (.t 22)⟩,
 ⟨some 24,none,.bin .add false (.t 23) (.k (.v (.int .i64 1)))⟩,
 ⟨some 25,none,.nc (.t 20)⟩,
 ⟨some 26,none,.fa 1 (.t 25)⟩,
 ⟨none,none,.st 1 (.t 26) (.t 24)⟩])
 (.seq
 (.reg 4 (some [0,1,3,7,0,16,48,112,240,511,1023,2047,4095]) [0,1,5] [
 ⟨some 27,none,.mv (.t 0)⟩,
 ⟨some 28,none,.nc (.t 27)⟩,
 ⟨some 29,none,.fa 0 (.t 28)⟩,
 ⟨some 30,none,.ld none (.t 29)⟩,
 ⟨some 31,none,.mv (.t 0)⟩,
 ⟨some 32,none,.nc (.t 31)⟩,
 ⟨some 33,none,.fa 1 (.t 32)⟩,
 ⟨some 34,none,.ld none (.t 33)⟩,
 ⟨some 35,none,.bin .sub false (.t 34) (.k (.v (.int .i64 1)))⟩,
 ⟨some 36,none,.ixL 1 (.t 30) (.t 35)⟩,
 ⟨some 37,none,.ld none (.t 36)⟩,
 ⟨some 38,none,.cvI .i64 (.t 37)⟩,
 ⟨some 5,none,.mv (.t 38)⟩])
 (.seq
 (.seq
 (.reg 5 (some [0,1,3,7,15,31,63,7,135,391,903,1927,4095,8191]) [0,1,5,52] [
 ⟨some 39,none,.mv (.t 1)⟩,
 ⟨some 40,none,.bin .gtr false (.t 39) (.k (.v (.int .i64 256)))⟩,
 ⟨some 41,none,.mv (.t 40)⟩,
 ⟨some 42,some (41,true),.mv (.t 0)⟩,
 ⟨some 43,some (41,true),.nc (.t 42)⟩,
 ⟨some 44,some (41,true),.fa 1 (.t 43)⟩,
 ⟨some 45,some (41,true),.ld none (.t 44)⟩,
 ⟨some 46,some (41,true),.mv (.t 0)⟩,
 ⟨some 47,some (41,true),.nc (.t 46)⟩,
 ⟨some 48,some (41,true),.fa 0 (.t 47)⟩,
 ⟨some 49,some (41,true),.ld none (.t 48)⟩,
 ⟨some 50,some (41,true),.lenL (.t 49)⟩,
 ⟨some 51,some (41,true),.bin .lss false (.t 45) (.t 50)⟩,
 ⟨some 52,none,.pick (.t 41) (.t 51) (.k (.v (.bool false)))⟩])
 (.cond (.t 52)
 (.seq
 (.reg 6 (some [0,1,0,4,12,28,0,64,192,448,1020,2044,4092,8191,16383]) [0,1,5] [
 ⟨some 53,none,.mv (.t 5)⟩,
 ⟨some 54,none,.bin .mul false (.t 53) (.k (.v (.int .i64 256)))⟩,
 ⟨some 55,none,.mv (.t 0)⟩,
 ⟨some 56,none,.nc (.t 55)⟩,
 ⟨some 57,none,.fa 0 (.t 56)⟩,
 ⟨some 58,none,.ld none (.t 57)⟩,
 ⟨some 59,none,.mv (.t 0)⟩,
 ⟨some 60,none,.nc (.t 59)⟩,
 ⟨some 61,none,.fa 1 (.t 60)⟩,
 ⟨some 62,none,.ld none (.t 61)⟩,
 ⟨some 63,none,.ixL 1 (.t 58) (.t 62)⟩,
 ⟨some 64,none,.ld none (.t 63)⟩,
 ⟨some 65,none,.cvI .i64 (.t 64)⟩,
 ⟨some 66,none,.bin .add false (.t 54) (.t 65)⟩,
 ⟨some 5,none,.mv (.t 66)⟩])
 (.reg 7 none [1,5] [
 ⟨some 67,none,.mv (.t 0)⟩,
 ⟨some 68,none,.nc (.t 67)⟩,
 ⟨some 69,none,.fa 1 (.t 68)⟩,
 ⟨some 70,none,.ld none (.t 69)⟩,
 ⟨some 71,none,.bin .add false (.t 70) (.k (.v (.int .i64 1)))⟩,
 ⟨some 72,none,.nc (.t 67)⟩,
 ⟨some 73,none,.fa 1 (.t 72)⟩,
 ⟨none,none,.st 1 (.t 73) (.t 71)⟩]))
 .skip))
 (.seq
 (.reg 8 none [4] [
 ⟨some 74,none,.mv (.t 5)⟩,
 ⟨some 75,none,.mv (.t 1)⟩,
 ⟨some 76,none,.bin .rem false (.t 74) (.t 75)⟩,
 ⟨some 4,none,.mv (.t 76)⟩])
 .ret))))))
theorem fn_draw_Codes_Next:FnIR Try.prog F_draw_Codes_Next 77 [(0,[0,1]),(1,[0,1,19]),(2,[4]),(3,[0,1]),(4,[0,1,5]),(5,[0,1,5,52]),(6,[0,1,5]),(7,[1,5]),(8,[4])] ir_draw_Codes_Next [(.tmp 4)]:=
 ⟨Try.f16,_,Try.func16,rfl,by kernel_rfl,rfl,by kernel_rfl,by kernel_rfl⟩
def ir_ref39_Check:RC:=
 (.seq
 (.reg 0 none [0] [
 ⟨some 2,none,.mv (.k (.v (.int .i64 0)))⟩])
 (.seq
 (.seq
 (.reg 1 none [0,7] [
 ⟨some 5,none,.mv (.t 0)⟩,
 ⟨some 6,none,.lenL (.t 5)⟩,
 ⟨some 7,none,.bin .gtr false (.t 6) (.k (.v (.int .i64 60)))⟩])
 (.cond (.t 7)
 (.seq
 (.reg 2 none [2] [
 ⟨some 2,none,.mv (.k (.v (.int .i64 1)))⟩])
 .ret)
 .skip))
 (.seq
 (.seq
 (.reg 3 none [0,8,9,10] [
 ⟨some 8,none,.mv (.t 0)⟩,
 ⟨some 9,none,.lenL (.t 8)⟩,
 ⟨some 10,none,.mv (.k (.v (.int .i64 0)))⟩])
 (.block 0
 (.loop
 (.seq
 (.reg 4 none [0,8,9,10,11] [
 ⟨some 11,none,.bin .lss false (.t 10) (.t 9)⟩])
 (.seq
 (.cond (.t 11)
 .skip
 (.exit 0))
 (.seq
 (.block 1
 (.seq
 (.reg 5 none [0,3,4,8,9,10] [
 ⟨some 12,none,.mv (.t 10)⟩,
 ⟨some 13,none,.ixL 4 (.t 8) (.t 10)⟩,
 ⟨some 14,none,.ld (some 4) (.t 13)⟩,
 ⟨some 4,none,.new (.agg [.v (.string ⟨#[]⟩),.v (.string ⟨#[]⟩),.v (.int .i64 0),.v (.int .i64 0)])⟩,
 ⟨some 3,none,.mv (.t 12)⟩,
 ⟨none,none,.st 4 (.t 4) (.t 14)⟩])
 (.block 2
 (.seq
 (.reg 6 none [0,3,4,8,9,10,15] [
 ⟨some 16,none,.ld (some 4) (.t 4)⟩,
 ⟨some 17,none,.call (.k (.clo F_ref39_named [])) [.t 16]⟩,
 ⟨some 18,none,.un .not (.t 17)⟩,
 ⟨some 15,none,.mv (.t 18)⟩])
 (.cond (.t 15)
 (.seq
 (.reg 7 none [2] [
 ⟨some 2,none,.mv (.k (.v (.int .i64 3)))⟩])
 .ret)
 (.seq
 (.reg 8 none [0,3,4,8,9,10,19] [
 ⟨some 20,none,.ld (some 4) (.t 4)⟩,
 ⟨some 21,none,.call (.k (.clo F_ref39_proper [])) [.t 20]⟩,
 ⟨some 22,none,.un .not (.t 21)⟩,
 ⟨some 19,none,.mv (.t 22)⟩])
 (.cond (.t 19)
 (.seq
 (.reg 9 none [2] [
 ⟨some 2,none,.mv (.k (.v (.int .i64 43)))⟩])
 .ret)
 (.seq
 (.reg 10 (some [0,1,3,7,7,23,63,127,7,511,1023,2047,4095]) [0,3,4,8,9,10,23] [
 ⟨some 24,none,.mv (.t 3)⟩,
 ⟨some 25,none,.bin .gtr false (.t 24) (.k (.v (.int .i64 0)))⟩,
 ⟨some 26,none,.mv (.t 25)⟩,
 ⟨some 27,some (26,true),.mv (.t 0)⟩,
 ⟨some 28,some (26,true),.mv (.t 3)⟩,
 ⟨some 29,some (26,true),.bin .sub false (.t 28) (.k (.v (.int .i64 1)))⟩,
 ⟨some 30,some (26,true),.ixL 4 (.t 27) (.t 29)⟩,
 ⟨some 31,some (26,true),.ld (some 4) (.t 30)⟩,
 ⟨some 32,some (26,true),.ld (some 4) (.t 4)⟩,
 ⟨some 33,some (26,true),.call (.k (.clo F_ref39_before [])) [.t 31,.t 32]⟩,
 ⟨some 34,some (26,true),.un .not (.t 33)⟩,
 ⟨some 35,none,.pick (.t 26) (.t 34) (.k (.v (.bool false)))⟩,
 ⟨some 23,none,.mv (.t 35)⟩])
 (.cond (.t 23)
 (.seq
 (.reg 11 none [2] [
 ⟨some 2,none,.mv (.k (.v (.int .i64 11)))⟩])
 .ret)
 (.seq
 (.reg 12 (some [0,0,3,0,15,31]) [0,8,9,10,36] [
 ⟨some 37,none,.mv (.t 0)⟩,
 ⟨some 38,none,.mv (.t 3)⟩,
 ⟨some 39,none,.slL 4 (.t 37) none (some (.t 38))⟩,
 ⟨some 40,none,.ld (some 4) (.t 4)⟩,
 ⟨some 41,none,.call (.k (.clo F_ref39_meets [])) [.t 39,.t 40]⟩,
 ⟨some 36,none,.mv (.t 41)⟩])
 (.cond (.t 36)
 (.seq
 (.reg 13 none [2] [
 ⟨some 2,none,.mv (.k (.v (.int .i64 10)))⟩])
 .ret)
 .skip)))))))))))
 (.reg 14 none [0,8,9,10] [
 ⟨some 42,none,.bin .add false (.t 10) (.k (.v (.int .i64 1)))⟩,
 ⟨some 10,none,.mv (.t 42)⟩])))))))
 (.seq
 (.reg 15 none [2] [
 ⟨some 2,none,.mv (.k (.v (.int .i64 0)))⟩])
 .ret))))
theorem fn_ref39_Check:FnIR Try.prog F_ref39_Check 43 [(0,[0]),(1,[0,7]),(2,[2]),(3,[0,8,9,10]),(4,[0,8,9,10,11]),(5,[0,3,4,8,9,10]),(6,[0,3,4,8,9,10,15]),(7,[2]),(8,[0,3,4,8,9,10,19]),(9,[2]),(10,[0,3,4,8,9,10,23]),(11,[2]),(12,[0,8,9,10,36]),(13,[2]),(14,[0,8,9,10]),(15,[2])] ir_ref39_Check [(.tmp 2)]:=
 ⟨Try.f17,_,Try.func17,rfl,by kernel_rfl,rfl,by kernel_rfl,by kernel_rfl⟩
def ir_ref39_Active:RC:=
 (.seq
 (.reg 0 none [0,1,2,6] [
 ⟨some 6,none,.new (.agg [.v (.string ⟨#[]⟩),.v (.string ⟨#[]⟩),.v (.int .i64 0),.v (.int .i64 0)])⟩,
 ⟨some 7,none,.mv (.k (.v (.bool false)))⟩])
 (.seq
 (.seq
 (.reg 1 none [0,1,2,6,12] [
 ⟨some 10,none,.mv (.t 0)⟩,
 ⟨some 11,none,.call (.k (.clo F_ref39_Check [])) [.t 10]⟩,
 ⟨some 12,none,.bin .neq false (.t 11) (.k (.v (.int .i64 0)))⟩])
 (.cond (.t 12)
 (.seq
 (.reg 2 none [6,7] [
 ⟨some 13,none,.build [.v (.string ⟨#[]⟩),.v (.string ⟨#[]⟩),.v (.int .i64 0),.v (.int .i64 0)] []⟩,
 ⟨none,none,.st 4 (.t 6) (.t 13)⟩,
 ⟨some 7,none,.mv (.k (.v (.bool false)))⟩])
 .ret)
 .skip))
 (.seq
 (.seq
 (.reg 3 none [1,2,6,14,15,16] [
 ⟨some 14,none,.mv (.t 0)⟩,
 ⟨some 15,none,.lenL (.t 14)⟩,
 ⟨some 16,none,.mv (.k (.v (.int .i64 0)))⟩])
 (.block 0
 (.loop
 (.seq
 (.reg 4 none [1,2,6,14,15,16,17] [
 ⟨some 17,none,.bin .lss false (.t 16) (.t 15)⟩])
 (.seq
 (.cond (.t 17)
 .skip
 (.exit 0))
 (.seq
 (.block 1
 (.seq
 (.reg 5 none [1,2,6,9,14,15,16] [
 ⟨some 18,none,.ixL 4 (.t 14) (.t 16)⟩,
 ⟨some 19,none,.ld (some 4) (.t 18)⟩,
 ⟨some 9,none,.new (.agg [.v (.string ⟨#[]⟩),.v (.string ⟨#[]⟩),.v (.int .i64 0),.v (.int .i64 0)])⟩,
 ⟨none,none,.st 4 (.t 9) (.t 19)⟩])
 (.seq
 (.reg 6 none [1,2,6,9,14,15,16,35] [
 ⟨some 20,none,.fa 0 (.t 9)⟩,
 ⟨some 21,none,.ld none (.t 20)⟩,
 ⟨some 22,none,.mv (.t 1)⟩,
 ⟨some 23,none,.bin .eql false (.t 21) (.t 22)⟩,
 ⟨some 24,none,.mv (.t 23)⟩,
 ⟨some 25,some (24,true),.fa 2 (.t 9)⟩,
 ⟨some 26,some (24,true),.ld none (.t 25)⟩,
 ⟨some 27,some (24,true),.mv (.t 2)⟩,
 ⟨some 28,some (24,true),.bin .leq false (.t 26) (.t 27)⟩,
 ⟨some 29,none,.pick (.t 24) (.t 28) (.k (.v (.bool false)))⟩,
 ⟨some 30,none,.mv (.t 29)⟩,
 ⟨some 31,some (30,true),.mv (.t 2)⟩,
 ⟨some 32,some (30,true),.fa 3 (.t 9)⟩,
 ⟨some 33,some (30,true),.ld none (.t 32)⟩,
 ⟨some 34,some (30,true),.bin .lss false (.t 31) (.t 33)⟩,
 ⟨some 35,none,.pick (.t 30) (.t 34) (.k (.v (.bool false)))⟩])
 (.cond (.t 35)
 (.seq
 (.reg 7 none [6,7] [
 ⟨some 36,none,.ld (some 4) (.t 9)⟩,
 ⟨none,none,.st 4 (.t 6) (.t 36)⟩,
 ⟨some 7,none,.mv (.k (.v (.bool true)))⟩])
 .ret)
 .skip))))
 (.reg 8 none [1,2,6,14,15,16] [
 ⟨some 37,none,.bin .add false (.t 16) (.k (.v (.int .i64 1)))⟩,
 ⟨some 16,none,.mv (.t 37)⟩])))))))
 (.seq
 (.reg 9 none [6,7] [
 ⟨some 38,none,.build [.v (.string ⟨#[]⟩),.v (.string ⟨#[]⟩),.v (.int .i64 0),.v (.int .i64 0)] []⟩,
 ⟨none,none,.st 4 (.t 6) (.t 38)⟩,
 ⟨some 7,none,.mv (.k (.v (.bool false)))⟩])
 .ret))))
theorem fn_ref39_Active:FnIR Try.prog F_ref39_Active 39 [(0,[0,1,2,6]),(1,[0,1,2,6,12]),(2,[6,7]),(3,[1,2,6,14,15,16]),(4,[1,2,6,14,15,16,17]),(5,[1,2,6,9,14,15,16]),(6,[1,2,6,9,14,15,16,35]),(7,[6,7]),(8,[1,2,6,14,15,16]),(9,[6,7])] ir_ref39_Active [(.cell 6 (some 4)),(.tmp 7)]:=
 ⟨Try.f18,_,Try.func18,rfl,by kernel_rfl,rfl,by kernel_rfl,by kernel_rfl⟩
def ir_ref39_End:RC:=
 (.seq
 (.reg 0 none [0,1,2] [
 ⟨some 6,none,.mv (.k (.v (.slice none 0 0)))⟩,
 ⟨some 7,none,.mv (.k (.v (.int .i64 0)))⟩])
 (.seq
 (.reg 1 none [0,1,2,8] [
 ⟨some 15,none,.bsl 4 0 []⟩,
 ⟨some 16,none,.mv (.t 0)⟩,
 ⟨some 17,none,.app 4 48 false (.t 15) (.t 16)⟩,
 ⟨some 8,none,.mv (.t 17)⟩])
 (.seq
 (.seq
 (.reg 2 none [0,1,2,8,9] [
 ⟨some 18,none,.mv (.t 0)⟩,
 ⟨some 19,none,.call (.k (.clo F_ref39_Check [])) [.t 18]⟩,
 ⟨some 9,none,.mv (.t 19)⟩])
 (.seq
 (.reg 3 none [0,1,2,8,9,21] [
 ⟨some 20,none,.mv (.t 9)⟩,
 ⟨some 21,none,.bin .neq false (.t 20) (.k (.v (.int .i64 0)))⟩])
 (.cond (.t 21)
 (.seq
 (.reg 4 none [6,7] [
 ⟨some 22,none,.mv (.t 8)⟩,
 ⟨some 23,none,.mv (.t 9)⟩,
 ⟨some 6,none,.mv (.t 22)⟩,
 ⟨some 7,none,.mv (.t 23)⟩])
 .ret)
 .skip)))
 (.seq
 (.seq
 (.reg 5 none [0,1,2,8,11] [
 ⟨some 25,none,.mv (.t 0)⟩,
 ⟨some 26,none,.mv (.t 1)⟩,
 ⟨some 27,none,.mv (.t 2)⟩,
 ⟨some 28,none,.call (.k (.clo F_ref39_Active [])) [.t 25,.t 26,.t 27]⟩,
 ⟨some 24,none,.mv (.t 28)⟩,
 ⟨some 29,none,.ex (.t 24) 0⟩,
 ⟨some 30,none,.ex (.t 24) 1⟩,
 ⟨some 10,none,.new (.agg [.v (.string ⟨#[]⟩),.v (.string ⟨#[]⟩),.v (.int .i64 0),.v (.int .i64 0)])⟩,
 ⟨none,none,.st 4 (.t 10) (.t 29)⟩,
 ⟨some 11,none,.mv (.t 30)⟩])
 (.seq
 (.reg 6 none [0,1,2,8,32] [
 ⟨some 31,none,.mv (.t 11)⟩,
 ⟨some 32,none,.un .not (.t 31)⟩])
 (.cond (.t 32)
 (.seq
 (.reg 7 none [6,7] [
 ⟨some 33,none,.mv (.t 8)⟩,
 ⟨some 6,none,.mv (.t 33)⟩,
 ⟨some 7,none,.mv (.k (.v (.int .i64 54)))⟩])
 .ret)
 .skip)))
 (.seq
 (.reg 8 none [0,1,2,12] [
 ⟨some 12,none,.mv (.k (.v (.slice none 0 0)))⟩])
 (.seq
 (.seq
 (.reg 9 none [1,2,12,34,35,36] [
 ⟨some 34,none,.mv (.t 0)⟩,
 ⟨some 35,none,.lenL (.t 34)⟩,
 ⟨some 36,none,.mv (.k (.v (.int .i64 0)))⟩])
 (.block 0
 (.loop
 (.seq
 (.reg 10 none [1,2,12,34,35,36,37] [
 ⟨some 37,none,.bin .lss false (.t 36) (.t 35)⟩])
 (.seq
 (.cond (.t 37)
 .skip
 (.exit 0))
 (.seq
 (.block 1
 (.seq
 (.reg 11 none [1,2,12,14,34,35,36] [
 ⟨some 38,none,.ixL 4 (.t 34) (.t 36)⟩,
 ⟨some 39,none,.ld (some 4) (.t 38)⟩,
 ⟨some 14,none,.new (.agg [.v (.string ⟨#[]⟩),.v (.string ⟨#[]⟩),.v (.int .i64 0),.v (.int .i64 0)])⟩,
 ⟨none,none,.st 4 (.t 14) (.t 39)⟩])
 (.seq
 (.seq
 (.reg 12 none [1,2,12,14,34,35,36,55] [
 ⟨some 40,none,.fa 0 (.t 14)⟩,
 ⟨some 41,none,.ld none (.t 40)⟩,
 ⟨some 42,none,.mv (.t 1)⟩,
 ⟨some 43,none,.bin .eql false (.t 41) (.t 42)⟩,
 ⟨some 44,none,.mv (.t 43)⟩,
 ⟨some 45,some (44,true),.fa 2 (.t 14)⟩,
 ⟨some 46,some (44,true),.ld none (.t 45)⟩,
 ⟨some 47,some (44,true),.mv (.t 2)⟩,
 ⟨some 48,some (44,true),.bin .leq false (.t 46) (.t 47)⟩,
 ⟨some 49,none,.pick (.t 44) (.t 48) (.k (.v (.bool false)))⟩,
 ⟨some 50,none,.mv (.t 49)⟩,
 ⟨some 51,some (50,true),.mv (.t 2)⟩,
 ⟨some 52,some (50,true),.fa 3 (.t 14)⟩,
 ⟨some 53,some (50,true),.ld none (.t 52)⟩,
 ⟨some 54,some (50,true),.bin .lss false (.t 51) (.t 53)⟩,
 ⟨some 55,none,.pick (.t 50) (.t 54) (.k (.v (.bool false)))⟩])
 (.cond (.t 55)
 (.reg 13 none [1,2,12,14,34,35,36] [
 ⟨some 56,none,.mv (.t 2)⟩,
 ⟨some 57,none,.fa 3 (.t 14)⟩,
 ⟨none,none,.st 1 (.t 57) (.t 56)⟩])
 .skip))
 (.seq
 (.reg 14 none [1,2,12,14,34,35,36,62] [
 ⟨some 58,none,.fa 2 (.t 14)⟩,
 ⟨some 59,none,.ld none (.t 58)⟩,
 ⟨some 60,none,.fa 3 (.t 14)⟩,
 ⟨some 61,none,.ld none (.t 60)⟩,
 ⟨some 62,none,.bin .lss false (.t 59) (.t 61)⟩])
 (.cond (.t 62)
 (.reg 15 none [1,2,12,34,35,36] [
 ⟨some 63,none,.mv (.t 12)⟩,
 ⟨some 64,none,.ld (some 4) (.t 14)⟩,
 ⟨some 65,none,.bsl 4 1 [.t 64]⟩,
 ⟨some 66,none,.app 4 48 false (.t 63) (.t 65)⟩,
 ⟨some 12,none,.mv (.t 66)⟩])
 .skip)))))
 (.reg 16 none [1,2,12,34,35,36] [
 ⟨some 67,none,.bin .add false (.t 36) (.k (.v (.int .i64 1)))⟩,
 ⟨some 36,none,.mv (.t 67)⟩])))))))
 (.seq
 (.reg 17 none [6,7] [
 ⟨some 68,none,.mv (.t 12)⟩,
 ⟨some 6,none,.mv (.t 68)⟩,
 ⟨some 7,none,.mv (.k (.v (.int .i64 0)))⟩])
 .ret)))))))
theorem fn_ref39_End:FnIR Try.prog F_ref39_End 69 [(0,[0,1,2]),(1,[0,1,2,8]),(2,[0,1,2,8,9]),(3,[0,1,2,8,9,21]),(4,[6,7]),(5,[0,1,2,8,11]),(6,[0,1,2,8,32]),(7,[6,7]),(8,[0,1,2,12]),(9,[1,2,12,34,35,36]),(10,[1,2,12,34,35,36,37]),(11,[1,2,12,14,34,35,36]),(12,[1,2,12,14,34,35,36,55]),(13,[1,2,12,14,34,35,36]),(14,[1,2,12,14,34,35,36,62]),(15,[1,2,12,34,35,36]),(16,[1,2,12,34,35,36]),(17,[6,7])] ir_ref39_End [(.tmp 6),(.tmp 7)]:=
 ⟨Try.f19,_,Try.func19,rfl,by kernel_rfl,rfl,by kernel_rfl,by kernel_rfl⟩
def ir_ref39_Add:RC:=
 (.seq
 (.reg 0 none [0,3] [
 ⟨some 3,none,.box (.t 1)⟩,
 ⟨some 4,none,.mv (.k (.v (.slice none 0 0)))⟩,
 ⟨some 5,none,.mv (.k (.v (.int .i64 0)))⟩])
 (.seq
 (.reg 1 none [0,3,6] [
 ⟨some 9,none,.bsl 4 0 []⟩,
 ⟨some 10,none,.mv (.t 0)⟩,
 ⟨some 11,none,.app 4 48 false (.t 9) (.t 10)⟩,
 ⟨some 6,none,.mv (.t 11)⟩])
 (.seq
 (.seq
 (.reg 2 none [0,3,6,7] [
 ⟨some 12,none,.mv (.t 0)⟩,
 ⟨some 13,none,.call (.k (.clo F_ref39_Check [])) [.t 12]⟩,
 ⟨some 7,none,.mv (.t 13)⟩])
 (.seq
 (.reg 3 none [0,3,6,7,15] [
 ⟨some 14,none,.mv (.t 7)⟩,
 ⟨some 15,none,.bin .neq false (.t 14) (.k (.v (.int .i64 0)))⟩])
 (.cond (.t 15)
 (.seq
 (.reg 4 none [4,5] [
 ⟨some 16,none,.mv (.t 6)⟩,
 ⟨some 17,none,.mv (.t 7)⟩,
 ⟨some 4,none,.mv (.t 16)⟩,
 ⟨some 5,none,.mv (.t 17)⟩])
 .ret)
 .skip)))
 (.seq
 (.block 0
 (.seq
 (.reg 5 none [0,3,6,18] [
 ⟨some 19,none,.ld (some 4) (.t 3)⟩,
 ⟨some 20,none,.call (.k (.clo F_ref39_named [])) [.t 19]⟩,
 ⟨some 21,none,.un .not (.t 20)⟩,
 ⟨some 18,none,.mv (.t 21)⟩])
 (.cond (.t 18)
 (.seq
 (.reg 6 none [4,5] [
 ⟨some 22,none,.mv (.t 6)⟩,
 ⟨some 4,none,.mv (.t 22)⟩,
 ⟨some 5,none,.mv (.k (.v (.int .i64 3)))⟩])
 .ret)
 (.seq
 (.reg 7 none [0,3,6,23] [
 ⟨some 24,none,.ld (some 4) (.t 3)⟩,
 ⟨some 25,none,.call (.k (.clo F_ref39_proper [])) [.t 24]⟩,
 ⟨some 26,none,.un .not (.t 25)⟩,
 ⟨some 23,none,.mv (.t 26)⟩])
 (.cond (.t 23)
 (.seq
 (.reg 8 none [4,5] [
 ⟨some 27,none,.mv (.t 6)⟩,
 ⟨some 4,none,.mv (.t 27)⟩,
 ⟨some 5,none,.mv (.k (.v (.int .i64 43)))⟩])
 .ret)
 (.seq
 (.reg 9 none [0,3,6,28] [
 ⟨some 29,none,.mv (.t 0)⟩,
 ⟨some 30,none,.ld (some 4) (.t 3)⟩,
 ⟨some 31,none,.call (.k (.clo F_ref39_meets [])) [.t 29,.t 30]⟩,
 ⟨some 28,none,.mv (.t 31)⟩])
 (.cond (.t 28)
 (.seq
 (.reg 10 none [4,5] [
 ⟨some 32,none,.mv (.t 6)⟩,
 ⟨some 4,none,.mv (.t 32)⟩,
 ⟨some 5,none,.mv (.k (.v (.int .i64 10)))⟩])
 .ret)
 (.seq
 (.reg 11 none [0,3,6,33] [
 ⟨some 34,none,.mv (.t 0)⟩,
 ⟨some 35,none,.lenL (.t 34)⟩,
 ⟨some 36,none,.bin .eql false (.t 35) (.k (.v (.int .i64 60)))⟩,
 ⟨some 33,none,.mv (.t 36)⟩])
 (.cond (.t 33)
 (.seq
 (.reg 12 none [4,5] [
 ⟨some 37,none,.mv (.t 6)⟩,
 ⟨some 4,none,.mv (.t 37)⟩,
 ⟨some 5,none,.mv (.k (.v (.int .i64 1)))⟩])
 .ret)
 .skip)))))))))
 (.seq
 (.reg 13 none [0,3,8] [
 ⟨some 8,none,.mv (.k (.v (.int .i64 0)))⟩])
 (.seq
 (.block 1
 (.loop
 (.seq
 (.seq
 (.reg 14 (some [0,0,2,7,15,31,31,127,255,31,1023,2047]) [0,3,8,49] [
 ⟨some 38,none,.mv (.t 8)⟩,
 ⟨some 39,none,.mv (.t 0)⟩,
 ⟨some 40,none,.lenL (.t 39)⟩,
 ⟨some 41,none,.bin .lss false (.t 38) (.t 40)⟩,
 ⟨some 42,none,.mv (.t 41)⟩,
 ⟨some 43,some (42,true),.mv (.t 0)⟩,
 ⟨some 44,some (42,true),.mv (.t 8)⟩,
 ⟨some 45,some (42,true),.ixL 4 (.t 43) (.t 44)⟩,
 ⟨some 46,some (42,true),.ld (some 4) (.t 45)⟩,
 ⟨some 47,some (42,true),.ld (some 4) (.t 3)⟩,
 ⟨some 48,some (42,true),.call (.k (.clo F_ref39_before [])) [.t 46,.t 47]⟩,
 ⟨some 49,none,.pick (.t 42) (.t 48) (.k (.v (.bool false)))⟩])
 (.cond (.t 49)
 .skip
 (.exit 1)))
 (.block 2
 (.reg 15 none [0,3,8] [
 ⟨some 50,none,.mv (.t 8)⟩,
 ⟨some 51,none,.bin .add false (.t 50) (.k (.v (.int .i64 1)))⟩,
 ⟨some 8,none,.mv (.t 51)⟩])))))
 (.seq
 (.reg 16 (some [0,0,0,6,15,0,32,127,0,0,768,2047,4095,8191]) [4,5] [
 ⟨some 52,none,.bsl 4 0 []⟩,
 ⟨some 53,none,.mv (.t 0)⟩,
 ⟨some 54,none,.mv (.t 8)⟩,
 ⟨some 55,none,.slL 4 (.t 53) none (some (.t 54))⟩,
 ⟨some 56,none,.app 4 48 false (.t 52) (.t 55)⟩,
 ⟨some 57,none,.ld (some 4) (.t 3)⟩,
 ⟨some 58,none,.bsl 4 1 [.t 57]⟩,
 ⟨some 59,none,.app 4 48 false (.t 56) (.t 58)⟩,
 ⟨some 60,none,.mv (.t 0)⟩,
 ⟨some 61,none,.mv (.t 8)⟩,
 ⟨some 62,none,.slL 4 (.t 60) (some (.t 61)) none⟩,
 ⟨some 63,none,.app 4 48 false (.t 59) (.t 62)⟩,
 ⟨some 4,none,.mv (.t 63)⟩,
 ⟨some 5,none,.mv (.k (.v (.int .i64 0)))⟩])
 .ret)))))))
theorem fn_ref39_Add:FnIR Try.prog F_ref39_Add 64 [(0,[0,3]),(1,[0,3,6]),(2,[0,3,6,7]),(3,[0,3,6,7,15]),(4,[4,5]),(5,[0,3,6,18]),(6,[4,5]),(7,[0,3,6,23]),(8,[4,5]),(9,[0,3,6,28]),(10,[4,5]),(11,[0,3,6,33]),(12,[4,5]),(13,[0,3,8]),(14,[0,3,8,49]),(15,[0,3,8]),(16,[4,5])] ir_ref39_Add [(.tmp 4),(.tmp 5)]:=
 ⟨Try.f20,_,Try.func20,rfl,by kernel_rfl,rfl,by kernel_rfl,by kernel_rfl⟩
def ir_approvals_Expired:RC:=
 (.seq
 (.reg 0 none [0,1,2] [
 ⟨some 6,none,.mv (.k (.v (.slice none 0 0)))⟩,
 ⟨some 7,none,.mv (.k (.v (.int .i64 0)))⟩])
 (.seq
 (.seq
 (.reg 1 none [0,1,2,8] [
 ⟨some 12,none,.mv (.t 0)⟩,
 ⟨some 13,none,.call (.k (.clo F_approvals_Check [])) [.t 12]⟩,
 ⟨some 8,none,.mv (.t 13)⟩])
 (.seq
 (.reg 2 none [0,1,2,8,15] [
 ⟨some 14,none,.mv (.t 8)⟩,
 ⟨some 15,none,.bin .neq false (.t 14) (.k (.v (.int .i64 0)))⟩])
 (.cond (.t 15)
 (.seq
 (.reg 3 none [6,7] [
 ⟨some 16,none,.mv (.t 8)⟩,
 ⟨some 6,none,.mv (.k (.v (.slice none 0 0)))⟩,
 ⟨some 7,none,.mv (.t 16)⟩])
 .ret)
 .skip)))
 (.seq
 (.seq
 (.reg 4 none [0,1,2,27] [
 ⟨some 17,none,.mv (.t 1)⟩,
 ⟨some 18,none,.bin .lss false (.t 17) (.k (.v (.int .i64 0)))⟩,
 ⟨some 19,none,.mv (.t 18)⟩,
 ⟨some 20,some (19,false),.mv (.t 1)⟩,
 ⟨some 21,some (19,false),.mv (.t 2)⟩,
 ⟨some 22,some (19,false),.bin .geq false (.t 20) (.t 21)⟩,
 ⟨some 23,none,.pick (.t 19) (.k (.v (.bool true))) (.t 22)⟩,
 ⟨some 24,none,.mv (.t 23)⟩,
 ⟨some 25,some (24,false),.mv (.t 2)⟩,
 ⟨some 26,some (24,false),.bin .gtr false (.t 25) (.k (.v (.int .i64 1073741824)))⟩,
 ⟨some 27,none,.pick (.t 24) (.k (.v (.bool true))) (.t 26)⟩])
 (.cond (.t 27)
 (.seq
 (.reg 5 none [6,7] [
 ⟨some 6,none,.mv (.k (.v (.slice none 0 0)))⟩,
 ⟨some 7,none,.mv (.k (.v (.int .i64 43)))⟩])
 .ret)
 .skip))
 (.seq
 (.reg 6 none [0,1,2,9] [
 ⟨some 9,none,.mv (.k (.v (.slice none 0 0)))⟩])
 (.seq
 (.seq
 (.reg 7 none [0,1,2,9,28,29,30] [
 ⟨some 28,none,.mv (.t 0)⟩,
 ⟨some 29,none,.lenL (.t 28)⟩,
 ⟨some 30,none,.mv (.k (.v (.int .i64 0)))⟩])
 (.block 0
 (.loop
 (.seq
 (.reg 8 none [0,1,2,9,28,29,30,31] [
 ⟨some 31,none,.bin .lss false (.t 30) (.t 29)⟩])
 (.seq
 (.cond (.t 31)
 .skip
 (.exit 0))
 (.seq
 (.block 1
 (.seq
 (.reg 9 none [0,1,2,9,11,28,29,30] [
 ⟨some 32,none,.ixL 4 (.t 28) (.t 30)⟩,
 ⟨some 33,none,.ld (some 4) (.t 32)⟩,
 ⟨some 11,none,.new (.agg [.v (.string ⟨#[]⟩),.v (.string ⟨#[]⟩),.v (.int .i64 0),.v (.int .i64 0)])⟩,
 ⟨none,none,.st 4 (.t 11) (.t 33)⟩])
 (.seq
 (.reg 10 none [0,1,2,9,11,28,29,30,47] [
 ⟨some 34,none,.mv (.t 0)⟩,
 ⟨some 35,none,.fa 0 (.t 11)⟩,
 ⟨some 36,none,.ld none (.t 35)⟩,
 ⟨some 37,none,.mv (.t 1)⟩,
 ⟨some 38,none,.call (.k (.clo F_approvals_find [])) [.t 34,.t 36,.t 37]⟩,
 ⟨some 39,none,.bin .geq false (.t 38) (.k (.v (.int .i64 0)))⟩,
 ⟨some 40,none,.mv (.t 39)⟩,
 ⟨some 41,some (40,true),.mv (.t 0)⟩,
 ⟨some 42,some (40,true),.fa 0 (.t 11)⟩,
 ⟨some 43,some (40,true),.ld none (.t 42)⟩,
 ⟨some 44,some (40,true),.mv (.t 2)⟩,
 ⟨some 45,some (40,true),.call (.k (.clo F_approvals_find [])) [.t 41,.t 43,.t 44]⟩,
 ⟨some 46,some (40,true),.bin .lss false (.t 45) (.k (.v (.int .i64 0)))⟩,
 ⟨some 47,none,.pick (.t 40) (.t 46) (.k (.v (.bool false)))⟩])
 (.cond (.t 47)
 (.reg 11 none [0,1,2,9,28,29,30] [
 ⟨some 48,none,.mv (.t 9)⟩,
 ⟨some 49,none,.fa 0 (.t 11)⟩,
 ⟨some 50,none,.ld none (.t 49)⟩,
 ⟨some 51,none,.bsl 1 1 [.t 50]⟩,
 ⟨some 52,none,.app 1 16 false (.t 48) (.t 51)⟩,
 ⟨some 9,none,.mv (.t 52)⟩])
 .skip))))
 (.reg 12 none [0,1,2,9,28,29,30] [
 ⟨some 53,none,.bin .add false (.t 30) (.k (.v (.int .i64 1)))⟩,
 ⟨some 30,none,.mv (.t 53)⟩])))))))
 (.seq
 (.reg 13 none [9] [
 ⟨some 54,none,.mv (.t 9)⟩,
 ⟨some 55,none,.call (.k (.clo F_slices_Sort_string [])) [.t 54]⟩])
 (.seq
 (.reg 14 none [6,7] [
 ⟨some 56,none,.mv (.t 9)⟩,
 ⟨some 57,none,.call (.k (.clo F_slices_Compact_string [])) [.t 56]⟩,
 ⟨some 6,none,.mv (.t 57)⟩,
 ⟨some 7,none,.mv (.k (.v (.int .i64 0)))⟩])
 .ret)))))))
theorem fn_approvals_Expired:FnIR Try.prog F_approvals_Expired 58 [(0,[0,1,2]),(1,[0,1,2,8]),(2,[0,1,2,8,15]),(3,[6,7]),(4,[0,1,2,27]),(5,[6,7]),(6,[0,1,2,9]),(7,[0,1,2,9,28,29,30]),(8,[0,1,2,9,28,29,30,31]),(9,[0,1,2,9,11,28,29,30]),(10,[0,1,2,9,11,28,29,30,47]),(11,[0,1,2,9,28,29,30]),(12,[0,1,2,9,28,29,30]),(13,[9]),(14,[6,7])] ir_approvals_Expired [(.tmp 6),(.tmp 7)]:=
 ⟨Try.f21,_,Try.func21,rfl,by kernel_rfl,rfl,by kernel_rfl,by kernel_rfl⟩
def ir_ref39_Expired:RC:=
 (.seq
 (.reg 0 none [0,1,2] [
 ⟨some 6,none,.mv (.k (.v (.slice none 0 0)))⟩,
 ⟨some 7,none,.mv (.k (.v (.int .i64 0)))⟩])
 (.seq
 (.seq
 (.reg 1 none [0,1,2,8] [
 ⟨some 15,none,.mv (.t 0)⟩,
 ⟨some 16,none,.call (.k (.clo F_ref39_Check [])) [.t 15]⟩,
 ⟨some 8,none,.mv (.t 16)⟩])
 (.seq
 (.reg 2 none [0,1,2,8,18] [
 ⟨some 17,none,.mv (.t 8)⟩,
 ⟨some 18,none,.bin .neq false (.t 17) (.k (.v (.int .i64 0)))⟩])
 (.cond (.t 18)
 (.seq
 (.reg 3 none [6,7] [
 ⟨some 19,none,.mv (.t 8)⟩,
 ⟨some 6,none,.mv (.k (.v (.slice none 0 0)))⟩,
 ⟨some 7,none,.mv (.t 19)⟩])
 .ret)
 .skip)))
 (.seq
 (.seq
 (.reg 4 none [0,1,2,30] [
 ⟨some 20,none,.mv (.t 1)⟩,
 ⟨some 21,none,.bin .lss false (.t 20) (.k (.v (.int .i64 0)))⟩,
 ⟨some 22,none,.mv (.t 21)⟩,
 ⟨some 23,some (22,false),.mv (.t 1)⟩,
 ⟨some 24,some (22,false),.mv (.t 2)⟩,
 ⟨some 25,some (22,false),.bin .geq false (.t 23) (.t 24)⟩,
 ⟨some 26,none,.pick (.t 22) (.k (.v (.bool true))) (.t 25)⟩,
 ⟨some 27,none,.mv (.t 26)⟩,
 ⟨some 28,some (27,false),.mv (.t 2)⟩,
 ⟨some 29,some (27,false),.bin .gtr false (.t 28) (.k (.v (.int .i64 1073741824)))⟩,
 ⟨some 30,none,.pick (.t 27) (.k (.v (.bool true))) (.t 29)⟩])
 (.cond (.t 30)
 (.seq
 (.reg 5 none [6,7] [
 ⟨some 6,none,.mv (.k (.v (.slice none 0 0)))⟩,
 ⟨some 7,none,.mv (.k (.v (.int .i64 43)))⟩])
 .ret)
 .skip))
 (.seq
 (.reg 6 none [0,1,2,9] [
 ⟨some 9,none,.mv (.k (.v (.slice none 0 0)))⟩])
 (.seq
 (.seq
 (.reg 7 none [0,1,2,9,31,32,33] [
 ⟨some 31,none,.mv (.t 0)⟩,
 ⟨some 32,none,.lenL (.t 31)⟩,
 ⟨some 33,none,.mv (.k (.v (.int .i64 0)))⟩])
 (.block 0
 (.loop
 (.seq
 (.reg 8 none [0,1,2,9,31,32,33,34] [
 ⟨some 34,none,.bin .lss false (.t 33) (.t 32)⟩])
 (.seq
 (.cond (.t 34)
 .skip
 (.exit 0))
 (.seq
 (.block 1
 (.seq
 (.reg 9 none [0,1,2,9,11,31,32,33] [
 ⟨some 35,none,.ixL 4 (.t 31) (.t 33)⟩,
 ⟨some 36,none,.ld (some 4) (.t 35)⟩,
 ⟨some 11,none,.new (.agg [.v (.string ⟨#[]⟩),.v (.string ⟨#[]⟩),.v (.int .i64 0),.v (.int .i64 0)])⟩,
 ⟨none,none,.st 4 (.t 11) (.t 36)⟩])
 (.seq
 (.seq
 (.reg 10 none [0,1,2,9,11,13,31,32,33] [
 ⟨some 38,none,.mv (.t 0)⟩,
 ⟨some 39,none,.fa 0 (.t 11)⟩,
 ⟨some 40,none,.ld none (.t 39)⟩,
 ⟨some 41,none,.mv (.t 2)⟩,
 ⟨some 42,none,.call (.k (.clo F_ref39_Active [])) [.t 38,.t 40,.t 41]⟩,
 ⟨some 37,none,.mv (.t 42)⟩,
 ⟨some 43,none,.ex (.t 37) 0⟩,
 ⟨some 44,none,.ex (.t 37) 1⟩,
 ⟨some 12,none,.new (.agg [.v (.string ⟨#[]⟩),.v (.string ⟨#[]⟩),.v (.int .i64 0),.v (.int .i64 0)])⟩,
 ⟨none,none,.st 4 (.t 12) (.t 43)⟩,
 ⟨some 13,none,.mv (.t 44)⟩])
 (.seq
 (.reg 11 none [0,1,2,9,11,31,32,33,57] [
 ⟨some 45,none,.mv (.t 13)⟩,
 ⟨some 46,none,.mv (.t 45)⟩,
 ⟨some 47,some (46,false),.mv (.t 1)⟩,
 ⟨some 48,some (46,false),.fa 2 (.t 11)⟩,
 ⟨some 49,some (46,false),.ld none (.t 48)⟩,
 ⟨some 50,some (46,false),.bin .lss false (.t 47) (.t 49)⟩,
 ⟨some 51,none,.pick (.t 46) (.k (.v (.bool true))) (.t 50)⟩,
 ⟨some 52,none,.mv (.t 51)⟩,
 ⟨some 53,some (52,false),.mv (.t 1)⟩,
 ⟨some 54,some (52,false),.fa 3 (.t 11)⟩,
 ⟨some 55,some (52,false),.ld none (.t 54)⟩,
 ⟨some 56,some (52,false),.bin .geq false (.t 53) (.t 55)⟩,
 ⟨some 57,none,.pick (.t 52) (.k (.v (.bool true))) (.t 56)⟩])
 (.cond (.t 57)
 (.exit 1)
 .skip)))
 (.seq
 (.reg 12 none [0,1,2,9,11,14,31,32,33] [
 ⟨some 14,none,.mv (.k (.v (.int .i64 0)))⟩])
 (.seq
 (.block 2
 (.loop
 (.seq
 (.seq
 (.reg 13 (some [0,0,2,7,15,31,31,127,255,31,543,2047,4095]) [0,1,2,9,11,14,31,32,33,70] [
 ⟨some 58,none,.mv (.t 14)⟩,
 ⟨some 59,none,.mv (.t 9)⟩,
 ⟨some 60,none,.lenL (.t 59)⟩,
 ⟨some 61,none,.bin .lss false (.t 58) (.t 60)⟩,
 ⟨some 62,none,.mv (.t 61)⟩,
 ⟨some 63,some (62,true),.mv (.t 9)⟩,
 ⟨some 64,some (62,true),.mv (.t 14)⟩,
 ⟨some 65,some (62,true),.ixL 1 (.t 63) (.t 64)⟩,
 ⟨some 66,some (62,true),.ld none (.t 65)⟩,
 ⟨some 67,some (62,true),.fa 0 (.t 11)⟩,
 ⟨some 68,some (62,true),.ld none (.t 67)⟩,
 ⟨some 69,some (62,true),.bin .lss false (.t 66) (.t 68)⟩,
 ⟨some 70,none,.pick (.t 62) (.t 69) (.k (.v (.bool false)))⟩])
 (.cond (.t 70)
 .skip
 (.exit 2)))
 (.block 3
 (.reg 14 none [0,1,2,9,11,14,31,32,33] [
 ⟨some 71,none,.mv (.t 14)⟩,
 ⟨some 72,none,.bin .add false (.t 71) (.k (.v (.int .i64 1)))⟩,
 ⟨some 14,none,.mv (.t 72)⟩])))))
 (.reg 15 (some [0,0,0,6,15,0,32,96,255,0,0,1536,4095,8191]) [0,1,2,9,31,32,33] [
 ⟨some 73,none,.bsl 1 0 []⟩,
 ⟨some 74,none,.mv (.t 9)⟩,
 ⟨some 75,none,.mv (.t 14)⟩,
 ⟨some 76,none,.slL 1 (.t 74) none (some (.t 75))⟩,
 ⟨some 77,none,.app 1 16 false (.t 73) (.t 76)⟩,
 ⟨some 78,none,.fa 0 (.t 11)⟩,
 ⟨some 79,none,.ld none (.t 78)⟩,
 ⟨some 80,none,.bsl 1 1 [.t 79]⟩,
 ⟨some 81,none,.app 1 16 false (.t 77) (.t 80)⟩,
 ⟨some 82,none,.mv (.t 9)⟩,
 ⟨some 83,none,.mv (.t 14)⟩,
 ⟨some 84,none,.slL 1 (.t 82) (some (.t 83)) none⟩,
 ⟨some 85,none,.app 1 16 false (.t 81) (.t 84)⟩,
 ⟨some 9,none,.mv (.t 85)⟩]))))))
 (.reg 16 none [0,1,2,9,31,32,33] [
 ⟨some 86,none,.bin .add false (.t 33) (.k (.v (.int .i64 1)))⟩,
 ⟨some 33,none,.mv (.t 86)⟩])))))))
 (.seq
 (.reg 17 none [6,7] [
 ⟨some 87,none,.mv (.t 9)⟩,
 ⟨some 6,none,.mv (.t 87)⟩,
 ⟨some 7,none,.mv (.k (.v (.int .i64 0)))⟩])
 .ret))))))
theorem fn_ref39_Expired:FnIR Try.prog F_ref39_Expired 88 [(0,[0,1,2]),(1,[0,1,2,8]),(2,[0,1,2,8,18]),(3,[6,7]),(4,[0,1,2,30]),(5,[6,7]),(6,[0,1,2,9]),(7,[0,1,2,9,31,32,33]),(8,[0,1,2,9,31,32,33,34]),(9,[0,1,2,9,11,31,32,33]),(10,[0,1,2,9,11,13,31,32,33]),(11,[0,1,2,9,11,31,32,33,57]),(12,[0,1,2,9,11,14,31,32,33]),(13,[0,1,2,9,11,14,31,32,33,70]),(14,[0,1,2,9,11,14,31,32,33]),(15,[0,1,2,9,31,32,33]),(16,[0,1,2,9,31,32,33]),(17,[6,7])] ir_ref39_Expired [(.tmp 6),(.tmp 7)]:=
 ⟨Try.f22,_,Try.func22,rfl,by kernel_rfl,rfl,by kernel_rfl,by kernel_rfl⟩
def ir_ref36_Texts:RC:=
 (.seq
 (.reg 0 none [0,1] [
 ⟨some 4,none,.mv (.k (.v (.bool false)))⟩])
 (.seq
 (.seq
 (.reg 1 none [0,1,10] [
 ⟨some 6,none,.mv (.t 0)⟩,
 ⟨some 7,none,.lenL (.t 6)⟩,
 ⟨some 8,none,.mv (.t 1)⟩,
 ⟨some 9,none,.lenL (.t 8)⟩,
 ⟨some 10,none,.bin .neq false (.t 7) (.t 9)⟩])
 (.cond (.t 10)
 (.seq
 (.reg 2 none [4] [
 ⟨some 4,none,.mv (.k (.v (.bool false)))⟩])
 .ret)
 .skip))
 (.seq
 (.seq
 (.reg 3 none [0,1,12,13] [
 ⟨some 11,none,.mv (.t 0)⟩,
 ⟨some 12,none,.lenL (.t 11)⟩,
 ⟨some 13,none,.mv (.k (.v (.int .i64 0)))⟩])
 (.block 0
 (.loop
 (.seq
 (.reg 4 none [0,1,12,13,14] [
 ⟨some 14,none,.bin .lss false (.t 13) (.t 12)⟩])
 (.seq
 (.cond (.t 14)
 .skip
 (.exit 0))
 (.seq
 (.block 1
 (.seq
 (.reg 5 none [0,1,5,12,13] [
 ⟨some 15,none,.mv (.t 13)⟩,
 ⟨some 5,none,.mv (.t 15)⟩])
 (.seq
 (.reg 6 (some [0,0,3,7,0,0,48,112,255]) [0,1,12,13,24] [
 ⟨some 16,none,.mv (.t 0)⟩,
 ⟨some 17,none,.mv (.t 5)⟩,
 ⟨some 18,none,.ixL 1 (.t 16) (.t 17)⟩,
 ⟨some 19,none,.ld none (.t 18)⟩,
 ⟨some 20,none,.mv (.t 1)⟩,
 ⟨some 21,none,.mv (.t 5)⟩,
 ⟨some 22,none,.ixL 1 (.t 20) (.t 21)⟩,
 ⟨some 23,none,.ld none (.t 22)⟩,
 ⟨some 24,none,.bin .neq false (.t 19) (.t 23)⟩])
 (.cond (.t 24)
 (.seq
 (.reg 7 none [4] [
 ⟨some 4,none,.mv (.k (.v (.bool false)))⟩])
 .ret)
 .skip))))
 (.reg 8 none [0,1,12,13] [
 ⟨some 25,none,.bin .add false (.t 13) (.k (.v (.int .i64 1)))⟩,
 ⟨some 13,none,.mv (.t 25)⟩])))))))
 (.seq
 (.reg 9 none [4] [
 ⟨some 4,none,.mv (.k (.v (.bool true)))⟩])
 .ret))))
theorem fn_ref36_Texts:FnIR Try.prog F_ref36_Texts 26 [(0,[0,1]),(1,[0,1,10]),(2,[4]),(3,[0,1,12,13]),(4,[0,1,12,13,14]),(5,[0,1,5,12,13]),(6,[0,1,12,13,24]),(7,[4]),(8,[0,1,12,13]),(9,[4])] ir_ref36_Texts [(.tmp 4)]:=
 ⟨Try.f23,_,Try.func23,rfl,by kernel_rfl,rfl,by kernel_rfl,by kernel_rfl⟩
def ir_ref24_Decimal:RC:=
 (.seq
 (.reg 0 none [0] [
 ⟨some 2,none,.mv (.k (.v (.string ⟨#[]⟩)))⟩])
 (.seq
 (.seq
 (.reg 1 none [0,5] [
 ⟨some 4,none,.mv (.t 0)⟩,
 ⟨some 5,none,.bin .lss false (.t 4) (.k (.v (.int .i64 0)))⟩])
 (.cond (.t 5)
 (.seq
 (.reg 2 none [0,3] [
 ⟨some 6,none,.mv (.t 0)⟩,
 ⟨some 7,none,.bin .rem false (.t 6) (.k (.v (.int .i64 10)))⟩,
 ⟨some 8,none,.un .neg (.t 7)⟩,
 ⟨some 3,none,.mv (.t 8)⟩])
 (.seq
 (.seq
 (.reg 3 none [0,3,10] [
 ⟨some 9,none,.mv (.t 0)⟩,
 ⟨some 10,none,.bin .gtr false (.t 9) (.k (.v (.int .i64 (-10))))⟩])
 (.cond (.t 10)
 (.seq
 (.reg 4 none [2] [
 ⟨some 11,none,.mv (.t 3)⟩,
 ⟨some 12,none,.bin .add false (.k (.v (.int .i64 48))) (.t 11)⟩,
 ⟨some 13,none,.cvI .u8 (.t 12)⟩,
 ⟨some 14,none,.bsl 1 1 [.t 13]⟩,
 ⟨some 15,none,.cvBS (.t 14)⟩,
 ⟨some 16,none,.bin .add false (.k (.v (.string ⟨#[45]⟩))) (.t 15)⟩,
 ⟨some 2,none,.mv (.t 16)⟩])
 .ret)
 .skip))
 (.seq
 (.reg 5 (some [0,1,3,0,8,24,56,120,255,511]) [2] [
 ⟨some 17,none,.mv (.t 0)⟩,
 ⟨some 18,none,.bin .quo false (.t 17) (.k (.v (.int .i64 10)))⟩,
 ⟨some 19,none,.call (.k (.clo F_ref24_Decimal [])) [.t 18]⟩,
 ⟨some 20,none,.mv (.t 3)⟩,
 ⟨some 21,none,.bin .add false (.k (.v (.int .i64 48))) (.t 20)⟩,
 ⟨some 22,none,.cvI .u8 (.t 21)⟩,
 ⟨some 23,none,.bsl 1 1 [.t 22]⟩,
 ⟨some 24,none,.cvBS (.t 23)⟩,
 ⟨some 25,none,.bin .add false (.t 19) (.t 24)⟩,
 ⟨some 2,none,.mv (.t 25)⟩])
 .ret)))
 .skip))
 (.seq
 (.seq
 (.reg 6 none [0,27] [
 ⟨some 26,none,.mv (.t 0)⟩,
 ⟨some 27,none,.bin .lss false (.t 26) (.k (.v (.int .i64 10)))⟩])
 (.cond (.t 27)
 (.seq
 (.reg 7 none [2] [
 ⟨some 28,none,.mv (.t 0)⟩,
 ⟨some 29,none,.bin .add false (.k (.v (.int .i64 48))) (.t 28)⟩,
 ⟨some 30,none,.cvI .u8 (.t 29)⟩,
 ⟨some 31,none,.bsl 1 1 [.t 30]⟩,
 ⟨some 32,none,.cvBS (.t 31)⟩,
 ⟨some 2,none,.mv (.t 32)⟩])
 .ret)
 .skip))
 (.seq
 (.reg 8 (some [0,1,3,0,8,24,56,120,248,511,1023]) [2] [
 ⟨some 33,none,.mv (.t 0)⟩,
 ⟨some 34,none,.bin .quo false (.t 33) (.k (.v (.int .i64 10)))⟩,
 ⟨some 35,none,.call (.k (.clo F_ref24_Decimal [])) [.t 34]⟩,
 ⟨some 36,none,.mv (.t 0)⟩,
 ⟨some 37,none,.bin .rem false (.t 36) (.k (.v (.int .i64 10)))⟩,
 ⟨some 38,none,.bin .add false (.k (.v (.int .i64 48))) (.t 37)⟩,
 ⟨some 39,none,.cvI .u8 (.t 38)⟩,
 ⟨some 40,none,.bsl 1 1 [.t 39]⟩,
 ⟨some 41,none,.cvBS (.t 40)⟩,
 ⟨some 42,none,.bin .add false (.t 35) (.t 41)⟩,
 ⟨some 2,none,.mv (.t 42)⟩])
 .ret))))
theorem fn_ref24_Decimal:FnIR Try.prog F_ref24_Decimal 43 [(0,[0]),(1,[0,5]),(2,[0,3]),(3,[0,3,10]),(4,[2]),(5,[2]),(6,[0,27]),(7,[2]),(8,[2])] ir_ref24_Decimal [(.tmp 2)]:=
 ⟨Try.f24,_,Try.func24,rfl,by kernel_rfl,rfl,by kernel_rfl,by kernel_rfl⟩
def ir_draw_Codes_Range:RC:=
 (.seq
 (.reg 0 none [0,1,2] [
 ⟨some 6,none,.mv (.k (.v (.int .i64 0)))⟩])
 (.seq
 (.reg 1 none [6] [
 ⟨some 7,none,.mv (.t 1)⟩,
 ⟨some 8,none,.mv (.t 0)⟩,
 ⟨some 9,none,.mv (.t 2)⟩,
 ⟨some 10,none,.mv (.t 1)⟩,
 ⟨some 11,none,.bin .sub false (.t 9) (.t 10)⟩,
 ⟨some 12,none,.bin .add false (.t 11) (.k (.v (.int .i64 1)))⟩,
 ⟨some 13,none,.call (.k (.clo F_draw_Codes_Next [])) [.t 8,.t 12]⟩,
 ⟨some 14,none,.bin .add false (.t 7) (.t 13)⟩,
 ⟨some 6,none,.mv (.t 14)⟩])
 .ret))
theorem fn_draw_Codes_Range:FnIR Try.prog F_draw_Codes_Range 15 [(0,[0,1,2]),(1,[6])] ir_draw_Codes_Range [(.tmp 6)]:=
 ⟨Try.f25,_,Try.func25,rfl,by kernel_rfl,rfl,by kernel_rfl,by kernel_rfl⟩
def ir_approvals_find:RC:=
 (.seq
 (.reg 0 none [0,4,5] [
 ⟨some 4,none,.box (.t 1)⟩,
 ⟨some 5,none,.box (.t 2)⟩,
 ⟨some 6,none,.mv (.k (.v (.int .i64 0)))⟩])
 (.seq
 (.reg 1 none [6] [
 ⟨some 7,none,.mv (.t 0)⟩,
 ⟨some 8,none,.mf F_approvals_find_1 [.t 4,.t 5]⟩,
 ⟨some 9,none,.call (.k (.clo F_slices_IndexFunc_Approval [])) [.t 7,.t 8]⟩,
 ⟨some 6,none,.mv (.t 9)⟩])
 .ret))
theorem fn_approvals_find:FnIR Try.prog F_approvals_find 10 [(0,[0,4,5]),(1,[6])] ir_approvals_find [(.tmp 6)]:=
 ⟨Try.f26,_,Try.func26,rfl,by kernel_rfl,rfl,by kernel_rfl,by kernel_rfl⟩
def ir_slices_Clone_Approval:RC:=
 (.seq
 (.reg 0 none [0] [
 ⟨some 2,none,.mv (.k (.v (.slice none 0 0)))⟩])
 (.seq
 (.seq
 (.reg 1 none [0,4] [
 ⟨some 3,none,.mv (.t 0)⟩,
 ⟨some 4,none,.ext (.nilq false) [.t 3,.k (.v (.slice none 0 0))]⟩])
 (.cond (.t 4)
 (.seq
 (.reg 2 none [2] [
 ⟨some 2,none,.mv (.k (.v (.slice none 0 0)))⟩])
 .ret)
 .skip))
 (.seq
 (.reg 3 none [2] [
 ⟨some 5,none,.bsl 4 0 []⟩,
 ⟨some 6,none,.mv (.t 0)⟩,
 ⟨some 7,none,.app 4 48 false (.t 5) (.t 6)⟩,
 ⟨some 2,none,.mv (.t 7)⟩])
 .ret)))
theorem fn_slices_Clone_Approval:FnIR Try.prog F_slices_Clone_Approval 8 [(0,[0]),(1,[0,4]),(2,[2]),(3,[2])] ir_slices_Clone_Approval [(.tmp 2)]:=
 ⟨Try.f27,_,Try.func27,rfl,by kernel_rfl,rfl,by kernel_rfl,by kernel_rfl⟩
def ir_slices_Delete_Approval:RC:=
 (.seq
 (.reg 0 none [0,1,2] [
 ⟨some 6,none,.mv (.k (.v (.slice none 0 0)))⟩])
 (.seq
 (.reg 1 none [0,1,2] [
 ⟨some 8,none,.mv (.t 0)⟩,
 ⟨some 9,none,.mv (.t 1)⟩,
 ⟨some 10,none,.mv (.t 2)⟩,
 ⟨some 11,none,.mv (.t 0)⟩,
 ⟨some 12,none,.lenL (.t 11)⟩,
 ⟨some 13,none,.ext .sl3 [.t 8,.t 9,.t 10,.t 12]⟩])
 (.seq
 (.seq
 (.reg 2 none [0,1,2,16] [
 ⟨some 14,none,.mv (.t 1)⟩,
 ⟨some 15,none,.mv (.t 2)⟩,
 ⟨some 16,none,.bin .eql false (.t 14) (.t 15)⟩])
 (.cond (.t 16)
 (.seq
 (.reg 3 none [6] [
 ⟨some 17,none,.mv (.t 0)⟩,
 ⟨some 6,none,.mv (.t 17)⟩])
 .ret)
 .skip))
 (.seq
 (.reg 4 none [0,1,2,7] [
 ⟨some 18,none,.mv (.t 0)⟩,
 ⟨some 19,none,.lenL (.t 18)⟩,
 ⟨some 7,none,.mv (.t 19)⟩])
 (.seq
 (.reg 5 (some [0,0,3,0,0,24,63,127]) [0,7] [
 ⟨some 20,none,.mv (.t 0)⟩,
 ⟨some 21,none,.mv (.t 1)⟩,
 ⟨some 22,none,.slL 4 (.t 20) none (some (.t 21))⟩,
 ⟨some 23,none,.mv (.t 0)⟩,
 ⟨some 24,none,.mv (.t 2)⟩,
 ⟨some 25,none,.slL 4 (.t 23) (some (.t 24)) none⟩,
 ⟨some 26,none,.app 4 48 false (.t 22) (.t 25)⟩,
 ⟨some 0,none,.mv (.t 26)⟩])
 (.seq
 (.reg 6 none [0] [
 ⟨some 27,none,.mv (.t 0)⟩,
 ⟨some 28,none,.mv (.t 0)⟩,
 ⟨some 29,none,.lenL (.t 28)⟩,
 ⟨some 30,none,.mv (.t 7)⟩,
 ⟨some 31,none,.slL 4 (.t 27) (some (.t 29)) (some (.t 30))⟩,
 ⟨none,none,.ext (.clr 4 (.agg [.v (.string ⟨#[]⟩),.v (.string ⟨#[]⟩),.v (.int .i64 0),.v (.int .i64 0)])) [.t 31]⟩])
 (.seq
 (.reg 7 none [6] [
 ⟨some 32,none,.mv (.t 0)⟩,
 ⟨some 6,none,.mv (.t 32)⟩])
 .ret)))))))
theorem fn_slices_Delete_Approval:FnIR Try.prog F_slices_Delete_Approval 33 [(0,[0,1,2]),(1,[0,1,2]),(2,[0,1,2,16]),(3,[6]),(4,[0,1,2,7]),(5,[0,7]),(6,[0]),(7,[6])] ir_slices_Delete_Approval [(.tmp 6)]:=
 ⟨Try.f28,_,Try.func28,rfl,by kernel_rfl,rfl,by kernel_rfl,by kernel_rfl⟩
def ir_approvals_single:RC:=
 (.seq
 (.reg 0 none [1] [
 ⟨some 1,none,.box (.t 0)⟩,
 ⟨some 2,none,.mv (.k (.v (.int .i64 0)))⟩])
 (.seq
 (.block 0
 (.seq
 (.reg 1 none [1,3] [
 ⟨some 4,none,.fa 0 (.t 1)⟩,
 ⟨some 5,none,.ld none (.t 4)⟩,
 ⟨some 6,none,.call (.k (.clo F_codes_Name [])) [.t 5]⟩,
 ⟨some 7,none,.un .not (.t 6)⟩,
 ⟨some 8,none,.mv (.t 7)⟩,
 ⟨some 9,some (8,false),.fa 1 (.t 1)⟩,
 ⟨some 10,some (8,false),.ld none (.t 9)⟩,
 ⟨some 11,some (8,false),.call (.k (.clo F_codes_Name [])) [.t 10]⟩,
 ⟨some 12,some (8,false),.un .not (.t 11)⟩,
 ⟨some 13,none,.pick (.t 8) (.k (.v (.bool true))) (.t 12)⟩,
 ⟨some 3,none,.mv (.t 13)⟩])
 (.cond (.t 3)
 (.seq
 (.reg 2 none [2] [
 ⟨some 2,none,.mv (.k (.v (.int .i64 3)))⟩])
 .ret)
 (.seq
 (.reg 3 none [14] [
 ⟨some 15,none,.fa 2 (.t 1)⟩,
 ⟨some 16,none,.ld none (.t 15)⟩,
 ⟨some 17,none,.bin .lss false (.t 16) (.k (.v (.int .i64 0)))⟩,
 ⟨some 18,none,.mv (.t 17)⟩,
 ⟨some 19,some (18,false),.fa 2 (.t 1)⟩,
 ⟨some 20,some (18,false),.ld none (.t 19)⟩,
 ⟨some 21,some (18,false),.fa 3 (.t 1)⟩,
 ⟨some 22,some (18,false),.ld none (.t 21)⟩,
 ⟨some 23,some (18,false),.bin .geq false (.t 20) (.t 22)⟩,
 ⟨some 24,none,.pick (.t 18) (.k (.v (.bool true))) (.t 23)⟩,
 ⟨some 25,none,.mv (.t 24)⟩,
 ⟨some 26,some (25,false),.fa 3 (.t 1)⟩,
 ⟨some 27,some (25,false),.ld none (.t 26)⟩,
 ⟨some 28,some (25,false),.bin .gtr false (.t 27) (.k (.v (.int .i64 1073741824)))⟩,
 ⟨some 29,none,.pick (.t 25) (.k (.v (.bool true))) (.t 28)⟩,
 ⟨some 14,none,.mv (.t 29)⟩])
 (.cond (.t 14)
 (.seq
 (.reg 4 none [2] [
 ⟨some 2,none,.mv (.k (.v (.int .i64 43)))⟩])
 .ret)
 .skip)))))
 (.seq
 (.reg 5 none [2] [
 ⟨some 2,none,.mv (.k (.v (.int .i64 0)))⟩])
 .ret)))
theorem fn_approvals_single:FnIR Try.prog F_approvals_single 30 [(0,[1]),(1,[1,3]),(2,[2]),(3,[14]),(4,[2]),(5,[2])] ir_approvals_single [(.tmp 2)]:=
 ⟨Try.f29,_,Try.func29,rfl,by kernel_rfl,rfl,by kernel_rfl,by kernel_rfl⟩
def ir_approvals_compare:RC:=
 (.seq
 (.reg 0 none [2,3] [
 ⟨some 2,none,.box (.t 0)⟩,
 ⟨some 3,none,.box (.t 1)⟩,
 ⟨some 4,none,.mv (.k (.v (.int .i64 0)))⟩])
 (.seq
 (.reg 1 (some [0,1,0,4,15,0,32,0,128,511,1023,2047,4095]) [4] [
 ⟨some 5,none,.fa 2 (.t 2)⟩,
 ⟨some 6,none,.ld none (.t 5)⟩,
 ⟨some 7,none,.fa 2 (.t 3)⟩,
 ⟨some 8,none,.ld none (.t 7)⟩,
 ⟨some 9,none,.call (.k (.clo F_cmp_Compare_int [])) [.t 6,.t 8]⟩,
 ⟨some 10,none,.fa 0 (.t 2)⟩,
 ⟨some 11,none,.ld none (.t 10)⟩,
 ⟨some 12,none,.fa 0 (.t 3)⟩,
 ⟨some 13,none,.ld none (.t 12)⟩,
 ⟨some 14,none,.call (.k (.clo F_cmp_Compare_string [])) [.t 11,.t 13]⟩,
 ⟨some 15,none,.bsl 1 2 [.t 9,.t 14]⟩,
 ⟨some 16,none,.call (.k (.clo F_cmp_Or_int [])) [.t 15]⟩,
 ⟨some 4,none,.mv (.t 16)⟩])
 .ret))
theorem fn_approvals_compare:FnIR Try.prog F_approvals_compare 17 [(0,[2,3]),(1,[4])] ir_approvals_compare [(.tmp 4)]:=
 ⟨Try.f30,_,Try.func30,rfl,by kernel_rfl,rfl,by kernel_rfl,by kernel_rfl⟩
def ir_approvals_overlaps:RC:=
 (.seq
 (.reg 0 none [0,3] [
 ⟨some 3,none,.box (.t 1)⟩,
 ⟨some 4,none,.mv (.k (.v (.bool false)))⟩])
 (.seq
 (.reg 1 none [4] [
 ⟨some 5,none,.mv (.t 0)⟩,
 ⟨some 6,none,.mf F_approvals_overlaps_1 [.t 3]⟩,
 ⟨some 7,none,.call (.k (.clo F_slices_ContainsFunc_Approval [])) [.t 5,.t 6]⟩,
 ⟨some 4,none,.mv (.t 7)⟩])
 .ret))
theorem fn_approvals_overlaps:FnIR Try.prog F_approvals_overlaps 8 [(0,[0,3]),(1,[4])] ir_approvals_overlaps [(.tmp 4)]:=
 ⟨Try.f31,_,Try.func31,rfl,by kernel_rfl,rfl,by kernel_rfl,by kernel_rfl⟩
def ir_slices_BinarySearchFunc_Approval_Approval_Approval:RC:=
 (.seq
 (.reg 0 none [0,2,4] [
 ⟨some 4,none,.box (.t 1)⟩,
 ⟨some 6,none,.mv (.k (.v (.int .i64 0)))⟩,
 ⟨some 7,none,.mv (.k (.v (.bool false)))⟩])
 (.seq
 (.reg 1 none [0,2,4,8] [
 ⟨some 12,none,.mv (.t 0)⟩,
 ⟨some 13,none,.lenL (.t 12)⟩,
 ⟨some 8,none,.mv (.t 13)⟩])
 (.seq
 (.reg 2 none [0,2,4,8,9,10] [
 ⟨some 14,none,.mv (.t 8)⟩,
 ⟨some 9,none,.mv (.k (.v (.int .i64 0)))⟩,
 ⟨some 10,none,.mv (.t 14)⟩])
 (.seq
 (.block 0
 (.loop
 (.seq
 (.seq
 (.reg 3 none [0,2,4,8,9,10,17] [
 ⟨some 15,none,.mv (.t 9)⟩,
 ⟨some 16,none,.mv (.t 10)⟩,
 ⟨some 17,none,.bin .lss false (.t 15) (.t 16)⟩])
 (.cond (.t 17)
 .skip
 (.exit 0)))
 (.block 1
 (.seq
 (.reg 4 none [0,2,4,8,9,10,11] [
 ⟨some 18,none,.mv (.t 9)⟩,
 ⟨some 19,none,.mv (.t 10)⟩,
 ⟨some 20,none,.bin .add false (.t 18) (.t 19)⟩,
 ⟨some 21,none,.cvI .u64 (.t 20)⟩,
 ⟨some 22,none,.bin .shr false (.t 21) (.k (.v (.int .u64 1)))⟩,
 ⟨some 23,none,.cvI .i64 (.t 22)⟩,
 ⟨some 11,none,.mv (.t 23)⟩])
 (.seq
 (.reg 5 (some [0,0,0,6,14,0,63,127]) [0,2,4,8,9,10,11,31] [
 ⟨some 24,none,.mv (.t 2)⟩,
 ⟨some 25,none,.mv (.t 0)⟩,
 ⟨some 26,none,.mv (.t 11)⟩,
 ⟨some 27,none,.ixL 4 (.t 25) (.t 26)⟩,
 ⟨some 28,none,.ld (some 4) (.t 27)⟩,
 ⟨some 29,none,.ld (some 4) (.t 4)⟩,
 ⟨some 30,none,.call (.t 24) [.t 28,.t 29]⟩,
 ⟨some 31,none,.bin .lss false (.t 30) (.k (.v (.int .i64 0)))⟩])
 (.cond (.t 31)
 (.reg 6 none [0,2,4,8,9,10] [
 ⟨some 32,none,.mv (.t 11)⟩,
 ⟨some 33,none,.bin .add false (.t 32) (.k (.v (.int .i64 1)))⟩,
 ⟨some 9,none,.mv (.t 33)⟩])
 (.reg 7 none [0,2,4,8,9,10] [
 ⟨some 34,none,.mv (.t 11)⟩,
 ⟨some 10,none,.mv (.t 34)⟩]))))))))
 (.seq
 (.reg 8 (some [0,0,0,6,14,30,30,30,222,478,30,2046,4094,8190,4095,32767]) [6,7] [
 ⟨some 35,none,.mv (.t 9)⟩,
 ⟨some 36,none,.mv (.t 9)⟩,
 ⟨some 37,none,.mv (.t 8)⟩,
 ⟨some 38,none,.bin .lss false (.t 36) (.t 37)⟩,
 ⟨some 39,none,.mv (.t 38)⟩,
 ⟨some 40,some (39,true),.mv (.t 2)⟩,
 ⟨some 41,some (39,true),.mv (.t 0)⟩,
 ⟨some 42,some (39,true),.mv (.t 9)⟩,
 ⟨some 43,some (39,true),.ixL 4 (.t 41) (.t 42)⟩,
 ⟨some 44,some (39,true),.ld (some 4) (.t 43)⟩,
 ⟨some 45,some (39,true),.ld (some 4) (.t 4)⟩,
 ⟨some 46,some (39,true),.call (.t 40) [.t 44,.t 45]⟩,
 ⟨some 47,some (39,true),.bin .eql false (.t 46) (.k (.v (.int .i64 0)))⟩,
 ⟨some 48,none,.pick (.t 39) (.t 47) (.k (.v (.bool false)))⟩,
 ⟨some 6,none,.mv (.t 35)⟩,
 ⟨some 7,none,.mv (.t 48)⟩])
 .ret)))))
theorem fn_slices_BinarySearchFunc_Approval_Approval_Approval:FnIR Try.prog F_slices_BinarySearchFunc_Approval_Approval_Approval 49 [(0,[0,2,4]),(1,[0,2,4,8]),(2,[0,2,4,8,9,10]),(3,[0,2,4,8,9,10,17]),(4,[0,2,4,8,9,10,11]),(5,[0,2,4,8,9,10,11,31]),(6,[0,2,4,8,9,10]),(7,[0,2,4,8,9,10]),(8,[6,7])] ir_slices_BinarySearchFunc_Approval_Approval_Approval [(.tmp 6),(.tmp 7)]:=
 ⟨Try.f32,_,Try.func32,rfl,by kernel_rfl,rfl,by kernel_rfl,by kernel_rfl⟩
def ir_approvals_Add_1:RC:=
 (.seq
 (.reg 0 none [2,3] [
 ⟨some 2,none,.box (.t 0)⟩,
 ⟨some 3,none,.box (.t 1)⟩,
 ⟨some 4,none,.mv (.k (.v (.int .i64 0)))⟩])
 (.seq
 (.reg 1 none [4] [
 ⟨some 5,none,.ld (some 4) (.t 2)⟩,
 ⟨some 6,none,.ld (some 4) (.t 3)⟩,
 ⟨some 7,none,.call (.k (.clo F_approvals_compare [])) [.t 5,.t 6]⟩,
 ⟨some 4,none,.mv (.t 7)⟩])
 .ret))
theorem fn_approvals_Add_1:FnIR Try.prog F_approvals_Add_1 8 [(0,[2,3]),(1,[4])] ir_approvals_Add_1 [(.tmp 4)]:=
 ⟨Try.f33,_,Try.func33,rfl,by kernel_rfl,rfl,by kernel_rfl,by kernel_rfl⟩
def ir_slices_Insert_Approval:RC:=
 (.seq
 (.reg 0 none [0,1,2] [
 ⟨some 6,none,.mv (.k (.v (.slice none 0 0)))⟩])
 (.seq
 (.reg 1 none [0,1,2] [
 ⟨some 10,none,.mv (.t 0)⟩,
 ⟨some 11,none,.mv (.t 1)⟩,
 ⟨some 12,none,.slL 4 (.t 10) (some (.t 11)) none⟩])
 (.seq
 (.reg 2 none [0,1,2,7] [
 ⟨some 13,none,.mv (.t 2)⟩,
 ⟨some 14,none,.lenL (.t 13)⟩,
 ⟨some 7,none,.mv (.t 14)⟩])
 (.seq
 (.seq
 (.reg 3 none [0,1,2,7,16] [
 ⟨some 15,none,.mv (.t 7)⟩,
 ⟨some 16,none,.bin .eql false (.t 15) (.k (.v (.int .i64 0)))⟩])
 (.cond (.t 16)
 (.seq
 (.reg 4 none [6] [
 ⟨some 17,none,.mv (.t 0)⟩,
 ⟨some 6,none,.mv (.t 17)⟩])
 .ret)
 .skip))
 (.seq
 (.reg 5 none [0,1,2,7,8] [
 ⟨some 18,none,.mv (.t 0)⟩,
 ⟨some 19,none,.lenL (.t 18)⟩,
 ⟨some 8,none,.mv (.t 19)⟩])
 (.seq
 (.seq
 (.reg 6 none [0,1,2,7,8,22] [
 ⟨some 20,none,.mv (.t 1)⟩,
 ⟨some 21,none,.mv (.t 8)⟩,
 ⟨some 22,none,.bin .eql false (.t 20) (.t 21)⟩])
 (.cond (.t 22)
 (.seq
 (.reg 7 none [6] [
 ⟨some 23,none,.mv (.t 0)⟩,
 ⟨some 24,none,.mv (.t 2)⟩,
 ⟨some 25,none,.app 4 48 false (.t 23) (.t 24)⟩,
 ⟨some 6,none,.mv (.t 25)⟩])
 .ret)
 .skip))
 (.seq
 (.seq
 (.reg 8 none [0,1,2,7,8,31] [
 ⟨some 26,none,.mv (.t 8)⟩,
 ⟨some 27,none,.mv (.t 7)⟩,
 ⟨some 28,none,.bin .add false (.t 26) (.t 27)⟩,
 ⟨some 29,none,.mv (.t 0)⟩,
 ⟨some 30,none,.ext .capq [.t 29]⟩,
 ⟨some 31,none,.bin .gtr false (.t 28) (.t 30)⟩])
 (.cond (.t 31)
 (.seq
 (.reg 9 none [0,1,2,7,9] [
 ⟨some 32,none,.mv (.t 0)⟩,
 ⟨some 33,none,.mv (.t 1)⟩,
 ⟨some 34,none,.slL 4 (.t 32) none (some (.t 33))⟩,
 ⟨some 35,none,.mv (.t 8)⟩,
 ⟨some 36,none,.mv (.t 7)⟩,
 ⟨some 37,none,.bin .add false (.t 35) (.t 36)⟩,
 ⟨some 38,none,.mv (.t 1)⟩,
 ⟨some 39,none,.bin .sub false (.t 37) (.t 38)⟩,
 ⟨some 40,none,.ext (.appM 4 48 (.agg [.v (.string ⟨#[]⟩),.v (.string ⟨#[]⟩),.v (.int .i64 0),.v (.int .i64 0)])) [.t 34,.t 39]⟩,
 ⟨some 9,none,.mv (.t 40)⟩])
 (.seq
 (.reg 10 none [0,1,7,9] [
 ⟨some 41,none,.mv (.t 9)⟩,
 ⟨some 42,none,.mv (.t 1)⟩,
 ⟨some 43,none,.slL 4 (.t 41) (some (.t 42)) none⟩,
 ⟨some 44,none,.mv (.t 2)⟩,
 ⟨some 45,none,.ext (.cpy 4) [.t 43,.t 44]⟩])
 (.seq
 (.reg 11 (some [0,0,0,6,15,0,0,96,255]) [9] [
 ⟨some 46,none,.mv (.t 9)⟩,
 ⟨some 47,none,.mv (.t 1)⟩,
 ⟨some 48,none,.mv (.t 7)⟩,
 ⟨some 49,none,.bin .add false (.t 47) (.t 48)⟩,
 ⟨some 50,none,.slL 4 (.t 46) (some (.t 49)) none⟩,
 ⟨some 51,none,.mv (.t 0)⟩,
 ⟨some 52,none,.mv (.t 1)⟩,
 ⟨some 53,none,.slL 4 (.t 51) (some (.t 52)) none⟩,
 ⟨some 54,none,.ext (.cpy 4) [.t 50,.t 53]⟩])
 (.seq
 (.reg 12 none [6] [
 ⟨some 55,none,.mv (.t 9)⟩,
 ⟨some 6,none,.mv (.t 55)⟩])
 .ret))))
 .skip))
 (.seq
 (.reg 13 none [0,1,2,7,8] [
 ⟨some 56,none,.mv (.t 0)⟩,
 ⟨some 57,none,.mv (.t 8)⟩,
 ⟨some 58,none,.mv (.t 7)⟩,
 ⟨some 59,none,.bin .add false (.t 57) (.t 58)⟩,
 ⟨some 60,none,.slL 4 (.t 56) none (some (.t 59))⟩,
 ⟨some 0,none,.mv (.t 60)⟩])
 (.seq
 (.seq
 (.reg 14 none [0,1,2,7,8,68] [
 ⟨some 61,none,.mv (.t 2)⟩,
 ⟨some 62,none,.mv (.t 0)⟩,
 ⟨some 63,none,.mv (.t 1)⟩,
 ⟨some 64,none,.mv (.t 7)⟩,
 ⟨some 65,none,.bin .add false (.t 63) (.t 64)⟩,
 ⟨some 66,none,.slL 4 (.t 62) (some (.t 65)) none⟩,
 ⟨some 67,none,.call (.k (.clo F_slices_overlaps_Approval [])) [.t 61,.t 66]⟩,
 ⟨some 68,none,.un .not (.t 67)⟩])
 (.cond (.t 68)
 (.seq
 (.reg 15 (some [0,0,0,6,15,0,0,96,255]) [0,1,2] [
 ⟨some 69,none,.mv (.t 0)⟩,
 ⟨some 70,none,.mv (.t 1)⟩,
 ⟨some 71,none,.mv (.t 7)⟩,
 ⟨some 72,none,.bin .add false (.t 70) (.t 71)⟩,
 ⟨some 73,none,.slL 4 (.t 69) (some (.t 72)) none⟩,
 ⟨some 74,none,.mv (.t 0)⟩,
 ⟨some 75,none,.mv (.t 1)⟩,
 ⟨some 76,none,.slL 4 (.t 74) (some (.t 75)) none⟩,
 ⟨some 77,none,.ext (.cpy 4) [.t 73,.t 76]⟩])
 (.seq
 (.reg 16 none [0] [
 ⟨some 78,none,.mv (.t 0)⟩,
 ⟨some 79,none,.mv (.t 1)⟩,
 ⟨some 80,none,.slL 4 (.t 78) (some (.t 79)) none⟩,
 ⟨some 81,none,.mv (.t 2)⟩,
 ⟨some 82,none,.ext (.cpy 4) [.t 80,.t 81]⟩])
 (.seq
 (.reg 17 none [6] [
 ⟨some 83,none,.mv (.t 0)⟩,
 ⟨some 6,none,.mv (.t 83)⟩])
 .ret)))
 .skip))
 (.seq
 (.reg 18 none [0,1,7] [
 ⟨some 84,none,.mv (.t 0)⟩,
 ⟨some 85,none,.mv (.t 8)⟩,
 ⟨some 86,none,.slL 4 (.t 84) (some (.t 85)) none⟩,
 ⟨some 87,none,.mv (.t 2)⟩,
 ⟨some 88,none,.ext (.cpy 4) [.t 86,.t 87]⟩])
 (.seq
 (.reg 19 none [0] [
 ⟨some 89,none,.mv (.t 0)⟩,
 ⟨some 90,none,.mv (.t 1)⟩,
 ⟨some 91,none,.slL 4 (.t 89) (some (.t 90)) none⟩,
 ⟨some 92,none,.mv (.t 7)⟩,
 ⟨some 93,none,.call (.k (.clo F_slices_rotateRight_Approval [])) [.t 91,.t 92]⟩])
 (.seq
 (.reg 20 none [6] [
 ⟨some 94,none,.mv (.t 0)⟩,
 ⟨some 6,none,.mv (.t 94)⟩])
 .ret))))))))))))
theorem fn_slices_Insert_Approval:FnIR Try.prog F_slices_Insert_Approval 95 [(0,[0,1,2]),(1,[0,1,2]),(2,[0,1,2,7]),(3,[0,1,2,7,16]),(4,[6]),(5,[0,1,2,7,8]),(6,[0,1,2,7,8,22]),(7,[6]),(8,[0,1,2,7,8,31]),(9,[0,1,2,7,9]),(10,[0,1,7,9]),(11,[9]),(12,[6]),(13,[0,1,2,7,8]),(14,[0,1,2,7,8,68]),(15,[0,1,2]),(16,[0]),(17,[6]),(18,[0,1,7]),(19,[0]),(20,[6])] ir_slices_Insert_Approval [(.tmp 6)]:=
 ⟨Try.f34,_,Try.func34,rfl,by kernel_rfl,rfl,by kernel_rfl,by kernel_rfl⟩
def ir_ref39_named:RC:=
 (.seq
 (.reg 0 none [1] [
 ⟨some 1,none,.box (.t 0)⟩,
 ⟨some 2,none,.mv (.k (.v (.bool false)))⟩])
 (.seq
 (.reg 1 none [2] [
 ⟨some 3,none,.fa 0 (.t 1)⟩,
 ⟨some 4,none,.ld none (.t 3)⟩,
 ⟨some 5,none,.call (.k (.clo F_ref35_Name [])) [.t 4]⟩,
 ⟨some 6,none,.mv (.t 5)⟩,
 ⟨some 7,some (6,true),.fa 1 (.t 1)⟩,
 ⟨some 8,some (6,true),.ld none (.t 7)⟩,
 ⟨some 9,some (6,true),.call (.k (.clo F_ref35_Name [])) [.t 8]⟩,
 ⟨some 10,none,.pick (.t 6) (.t 9) (.k (.v (.bool false)))⟩,
 ⟨some 2,none,.mv (.t 10)⟩])
 .ret))
theorem fn_ref39_named:FnIR Try.prog F_ref39_named 11 [(0,[1]),(1,[2])] ir_ref39_named [(.tmp 2)]:=
 ⟨Try.f35,_,Try.func35,rfl,by kernel_rfl,rfl,by kernel_rfl,by kernel_rfl⟩
def ir_ref39_proper:RC:=
 (.seq
 (.reg 0 none [1] [
 ⟨some 1,none,.box (.t 0)⟩,
 ⟨some 2,none,.mv (.k (.v (.bool false)))⟩])
 (.seq
 (.reg 1 none [2] [
 ⟨some 3,none,.fa 2 (.t 1)⟩,
 ⟨some 4,none,.ld none (.t 3)⟩,
 ⟨some 5,none,.bin .geq false (.t 4) (.k (.v (.int .i64 0)))⟩,
 ⟨some 6,none,.mv (.t 5)⟩,
 ⟨some 7,some (6,true),.fa 2 (.t 1)⟩,
 ⟨some 8,some (6,true),.ld none (.t 7)⟩,
 ⟨some 9,some (6,true),.fa 3 (.t 1)⟩,
 ⟨some 10,some (6,true),.ld none (.t 9)⟩,
 ⟨some 11,some (6,true),.bin .lss false (.t 8) (.t 10)⟩,
 ⟨some 12,none,.pick (.t 6) (.t 11) (.k (.v (.bool false)))⟩,
 ⟨some 13,none,.mv (.t 12)⟩,
 ⟨some 14,some (13,true),.fa 3 (.t 1)⟩,
 ⟨some 15,some (13,true),.ld none (.t 14)⟩,
 ⟨some 16,some (13,true),.bin .leq false (.t 15) (.k (.v (.int .i64 1073741824)))⟩,
 ⟨some 17,none,.pick (.t 13) (.t 16) (.k (.v (.bool false)))⟩,
 ⟨some 2,none,.mv (.t 17)⟩])
 .ret))
theorem fn_ref39_proper:FnIR Try.prog F_ref39_proper 18 [(0,[1]),(1,[2])] ir_ref39_proper [(.tmp 2)]:=
 ⟨Try.f36,_,Try.func36,rfl,by kernel_rfl,rfl,by kernel_rfl,by kernel_rfl⟩
def ir_ref39_before:RC:=
 (.seq
 (.reg 0 none [2,3] [
 ⟨some 2,none,.box (.t 0)⟩,
 ⟨some 3,none,.box (.t 1)⟩,
 ⟨some 4,none,.mv (.k (.v (.bool false)))⟩])
 (.seq
 (.reg 1 none [4] [
 ⟨some 5,none,.fa 2 (.t 2)⟩,
 ⟨some 6,none,.ld none (.t 5)⟩,
 ⟨some 7,none,.fa 2 (.t 3)⟩,
 ⟨some 8,none,.ld none (.t 7)⟩,
 ⟨some 9,none,.bin .lss false (.t 6) (.t 8)⟩,
 ⟨some 10,none,.mv (.t 9)⟩,
 ⟨some 11,some (10,false),.fa 2 (.t 2)⟩,
 ⟨some 12,some (10,false),.ld none (.t 11)⟩,
 ⟨some 13,some (10,false),.fa 2 (.t 3)⟩,
 ⟨some 14,some (10,false),.ld none (.t 13)⟩,
 ⟨some 15,some (10,false),.bin .eql false (.t 12) (.t 14)⟩,
 ⟨some 16,some (10,false),.mv (.t 15)⟩,
 ⟨some 17,some (16,true),.fa 0 (.t 2)⟩,
 ⟨some 18,some (16,true),.ld none (.t 17)⟩,
 ⟨some 19,some (16,true),.fa 0 (.t 3)⟩,
 ⟨some 20,some (16,true),.ld none (.t 19)⟩,
 ⟨some 21,some (16,true),.bin .lss false (.t 18) (.t 20)⟩,
 ⟨some 22,some (10,false),.pick (.t 16) (.t 21) (.k (.v (.bool false)))⟩,
 ⟨some 23,none,.pick (.t 10) (.k (.v (.bool true))) (.t 22)⟩,
 ⟨some 4,none,.mv (.t 23)⟩])
 .ret))
theorem fn_ref39_before:FnIR Try.prog F_ref39_before 24 [(0,[2,3]),(1,[4])] ir_ref39_before [(.tmp 4)]:=
 ⟨Try.f37,_,Try.func37,rfl,by kernel_rfl,rfl,by kernel_rfl,by kernel_rfl⟩
def ir_ref39_meets:RC:=
 (.seq
 (.reg 0 none [0,3] [
 ⟨some 3,none,.box (.t 1)⟩,
 ⟨some 4,none,.mv (.k (.v (.bool false)))⟩])
 (.seq
 (.seq
 (.reg 1 none [3,7,8,9] [
 ⟨some 7,none,.mv (.t 0)⟩,
 ⟨some 8,none,.lenL (.t 7)⟩,
 ⟨some 9,none,.mv (.k (.v (.int .i64 0)))⟩])
 (.block 0
 (.loop
 (.seq
 (.reg 2 none [3,7,8,9,10] [
 ⟨some 10,none,.bin .lss false (.t 9) (.t 8)⟩])
 (.seq
 (.cond (.t 10)
 .skip
 (.exit 0))
 (.seq
 (.block 1
 (.seq
 (.reg 3 none [3,6,7,8,9] [
 ⟨some 11,none,.ixL 4 (.t 7) (.t 9)⟩,
 ⟨some 12,none,.ld (some 4) (.t 11)⟩,
 ⟨some 6,none,.new (.agg [.v (.string ⟨#[]⟩),.v (.string ⟨#[]⟩),.v (.int .i64 0),.v (.int .i64 0)])⟩,
 ⟨none,none,.st 4 (.t 6) (.t 12)⟩])
 (.seq
 (.reg 4 none [3,7,8,9,31] [
 ⟨some 13,none,.fa 0 (.t 6)⟩,
 ⟨some 14,none,.ld none (.t 13)⟩,
 ⟨some 15,none,.fa 0 (.t 3)⟩,
 ⟨some 16,none,.ld none (.t 15)⟩,
 ⟨some 17,none,.bin .eql false (.t 14) (.t 16)⟩,
 ⟨some 18,none,.mv (.t 17)⟩,
 ⟨some 19,some (18,true),.fa 2 (.t 6)⟩,
 ⟨some 20,some (18,true),.ld none (.t 19)⟩,
 ⟨some 21,some (18,true),.fa 3 (.t 3)⟩,
 ⟨some 22,some (18,true),.ld none (.t 21)⟩,
 ⟨some 23,some (18,true),.bin .lss false (.t 20) (.t 22)⟩,
 ⟨some 24,none,.pick (.t 18) (.t 23) (.k (.v (.bool false)))⟩,
 ⟨some 25,none,.mv (.t 24)⟩,
 ⟨some 26,some (25,true),.fa 2 (.t 3)⟩,
 ⟨some 27,some (25,true),.ld none (.t 26)⟩,
 ⟨some 28,some (25,true),.fa 3 (.t 6)⟩,
 ⟨some 29,some (25,true),.ld none (.t 28)⟩,
 ⟨some 30,some (25,true),.bin .lss false (.t 27) (.t 29)⟩,
 ⟨some 31,none,.pick (.t 25) (.t 30) (.k (.v (.bool false)))⟩])
 (.cond (.t 31)
 (.seq
 (.reg 5 none [4] [
 ⟨some 4,none,.mv (.k (.v (.bool true)))⟩])
 .ret)
 .skip))))
 (.reg 6 none [3,7,8,9] [
 ⟨some 32,none,.bin .add false (.t 9) (.k (.v (.int .i64 1)))⟩,
 ⟨some 9,none,.mv (.t 32)⟩])))))))
 (.seq
 (.reg 7 none [4] [
 ⟨some 4,none,.mv (.k (.v (.bool false)))⟩])
 .ret)))
theorem fn_ref39_meets:FnIR Try.prog F_ref39_meets 33 [(0,[0,3]),(1,[3,7,8,9]),(2,[3,7,8,9,10]),(3,[3,6,7,8,9]),(4,[3,7,8,9,31]),(5,[4]),(6,[3,7,8,9]),(7,[4])] ir_ref39_meets [(.tmp 4)]:=
 ⟨Try.f38,_,Try.func38,rfl,by kernel_rfl,rfl,by kernel_rfl,by kernel_rfl⟩
def ir_slices_Sort_string:RC:=
 (.seq
 (.reg 0 none [0,2] [
 ⟨some 3,none,.mv (.t 0)⟩,
 ⟨some 4,none,.lenL (.t 3)⟩,
 ⟨some 2,none,.mv (.t 4)⟩])
 (.reg 1 none [] [
 ⟨some 5,none,.mv (.t 0)⟩,
 ⟨some 6,none,.mv (.t 2)⟩,
 ⟨some 7,none,.mv (.t 2)⟩,
 ⟨some 8,none,.cvI .u64 (.t 7)⟩,
 ⟨some 9,none,.call (.k (.clo F_math_bits_Len [])) [.t 8]⟩,
 ⟨some 10,none,.call (.k (.clo F_slices_pdqsortOrdered_string [])) [.t 5,.k (.v (.int .i64 0)),.t 6,.t 9]⟩]))
theorem fn_slices_Sort_string:FnIR Try.prog F_slices_Sort_string 11 [(0,[0,2])] ir_slices_Sort_string []:=
 ⟨Try.f39,_,Try.func39,rfl,by kernel_rfl,rfl,by kernel_rfl,by kernel_rfl⟩
def ir_slices_Compact_string:RC:=
 (.seq
 (.reg 0 none [0] [
 ⟨some 2,none,.mv (.k (.v (.slice none 0 0)))⟩])
 (.seq
 (.seq
 (.reg 1 none [0,8] [
 ⟨some 6,none,.mv (.t 0)⟩,
 ⟨some 7,none,.lenL (.t 6)⟩,
 ⟨some 8,none,.bin .lss false (.t 7) (.k (.v (.int .i64 2)))⟩])
 (.cond (.t 8)
 (.seq
 (.reg 2 none [2] [
 ⟨some 9,none,.mv (.t 0)⟩,
 ⟨some 2,none,.mv (.t 9)⟩])
 .ret)
 .skip))
 (.seq
 (.seq
 (.reg 3 none [0,3] [
 ⟨some 3,none,.mv (.k (.v (.int .i64 1)))⟩])
 (.block 0
 (.loop
 (.seq
 (.seq
 (.reg 4 none [0,3,13] [
 ⟨some 10,none,.mv (.t 3)⟩,
 ⟨some 11,none,.mv (.t 0)⟩,
 ⟨some 12,none,.lenL (.t 11)⟩,
 ⟨some 13,none,.bin .lss false (.t 10) (.t 12)⟩])
 (.cond (.t 13)
 .skip
 (.exit 0)))
 (.seq
 (.block 1
 (.seq
 (.reg 6 (some [0,0,3,7,0,0,32,112,240,511]) [0,3,25] [
 ⟨some 16,none,.mv (.t 0)⟩,
 ⟨some 17,none,.mv (.t 3)⟩,
 ⟨some 18,none,.ixL 1 (.t 16) (.t 17)⟩,
 ⟨some 19,none,.ld none (.t 18)⟩,
 ⟨some 20,none,.mv (.t 0)⟩,
 ⟨some 21,none,.mv (.t 3)⟩,
 ⟨some 22,none,.bin .sub false (.t 21) (.k (.v (.int .i64 1)))⟩,
 ⟨some 23,none,.ixL 1 (.t 20) (.t 22)⟩,
 ⟨some 24,none,.ld none (.t 23)⟩,
 ⟨some 25,none,.bin .eql false (.t 19) (.t 24)⟩])
 (.cond (.t 25)
 (.seq
 (.reg 7 none [0,3,4] [
 ⟨some 26,none,.mv (.t 0)⟩,
 ⟨some 27,none,.mv (.t 3)⟩,
 ⟨some 28,none,.slL 1 (.t 26) (some (.t 27)) none⟩,
 ⟨some 4,none,.mv (.t 28)⟩])
 (.seq
 (.seq
 (.reg 8 none [0,3,4,5] [
 ⟨some 5,none,.mv (.k (.v (.int .i64 1)))⟩])
 (.block 2
 (.loop
 (.seq
 (.seq
 (.reg 9 none [0,3,4,5,32] [
 ⟨some 29,none,.mv (.t 5)⟩,
 ⟨some 30,none,.mv (.t 4)⟩,
 ⟨some 31,none,.lenL (.t 30)⟩,
 ⟨some 32,none,.bin .lss false (.t 29) (.t 31)⟩])
 (.cond (.t 32)
 .skip
 (.exit 2)))
 (.seq
 (.block 3
 (.seq
 (.reg 11 (some [0,0,3,7,0,0,32,112,240,511]) [0,3,4,5,44] [
 ⟨some 35,none,.mv (.t 4)⟩,
 ⟨some 36,none,.mv (.t 5)⟩,
 ⟨some 37,none,.ixL 1 (.t 35) (.t 36)⟩,
 ⟨some 38,none,.ld none (.t 37)⟩,
 ⟨some 39,none,.mv (.t 4)⟩,
 ⟨some 40,none,.mv (.t 5)⟩,
 ⟨some 41,none,.bin .sub false (.t 40) (.k (.v (.int .i64 1)))⟩,
 ⟨some 42,none,.ixL 1 (.t 39) (.t 41)⟩,
 ⟨some 43,none,.ld none (.t 42)⟩,
 ⟨some 44,none,.bin .neq false (.t 38) (.t 43)⟩])
 (.cond (.t 44)
 (.seq
 (.reg 12 none [0,3,4,5] [
 ⟨some 45,none,.mv (.t 0)⟩,
 ⟨some 46,none,.mv (.t 3)⟩,
 ⟨some 47,none,.mv (.t 4)⟩,
 ⟨some 48,none,.mv (.t 5)⟩,
 ⟨some 49,none,.ixL 1 (.t 47) (.t 48)⟩,
 ⟨some 50,none,.ld none (.t 49)⟩,
 ⟨some 51,none,.ixL 1 (.t 45) (.t 46)⟩,
 ⟨none,none,.st 1 (.t 51) (.t 50)⟩])
 (.reg 13 none [0,3,4,5] [
 ⟨some 52,none,.mv (.t 3)⟩,
 ⟨some 53,none,.bin .add false (.t 52) (.k (.v (.int .i64 1)))⟩,
 ⟨some 3,none,.mv (.t 53)⟩]))
 .skip)))
 (.reg 10 none [0,3,4,5] [
 ⟨some 33,none,.mv (.t 5)⟩,
 ⟨some 34,none,.bin .add false (.t 33) (.k (.v (.int .i64 1)))⟩,
 ⟨some 5,none,.mv (.t 34)⟩]))))))
 (.seq
 (.reg 14 none [0,3] [
 ⟨some 54,none,.mv (.t 0)⟩,
 ⟨some 55,none,.mv (.t 3)⟩,
 ⟨some 56,none,.slL 1 (.t 54) (some (.t 55)) none⟩,
 ⟨none,none,.ext (.clr 1 (.v (.string ⟨#[]⟩))) [.t 56]⟩])
 (.seq
 (.reg 15 none [2] [
 ⟨some 57,none,.mv (.t 0)⟩,
 ⟨some 58,none,.mv (.t 3)⟩,
 ⟨some 59,none,.slL 1 (.t 57) none (some (.t 58))⟩,
 ⟨some 2,none,.mv (.t 59)⟩])
 .ret))))
 .skip)))
 (.reg 5 none [0,3] [
 ⟨some 14,none,.mv (.t 3)⟩,
 ⟨some 15,none,.bin .add false (.t 14) (.k (.v (.int .i64 1)))⟩,
 ⟨some 3,none,.mv (.t 15)⟩]))))))
 (.seq
 (.reg 16 none [2] [
 ⟨some 60,none,.mv (.t 0)⟩,
 ⟨some 2,none,.mv (.t 60)⟩])
 .ret))))
theorem fn_slices_Compact_string:FnIR Try.prog F_slices_Compact_string 61 [(0,[0]),(1,[0,8]),(2,[2]),(3,[0,3]),(4,[0,3,13]),(5,[0,3]),(6,[0,3,25]),(7,[0,3,4]),(8,[0,3,4,5]),(9,[0,3,4,5,32]),(10,[0,3,4,5]),(11,[0,3,4,5,44]),(12,[0,3,4,5]),(13,[0,3,4,5]),(14,[0,3]),(15,[2]),(16,[2])] ir_slices_Compact_string [(.tmp 2)]:=
 ⟨Try.f40,_,Try.func40,rfl,by kernel_rfl,rfl,by kernel_rfl,by kernel_rfl⟩
def ir_slices_IndexFunc_Approval:RC:=
 (.seq
 (.reg 0 none [0,1] [
 ⟨some 4,none,.mv (.k (.v (.int .i64 0)))⟩])
 (.seq
 (.seq
 (.reg 1 none [0,1,7,8] [
 ⟨some 6,none,.mv (.t 0)⟩,
 ⟨some 7,none,.lenL (.t 6)⟩,
 ⟨some 8,none,.mv (.k (.v (.int .i64 0)))⟩])
 (.block 0
 (.loop
 (.seq
 (.reg 2 none [0,1,7,8,9] [
 ⟨some 9,none,.bin .lss false (.t 8) (.t 7)⟩])
 (.seq
 (.cond (.t 9)
 .skip
 (.exit 0))
 (.seq
 (.block 1
 (.seq
 (.reg 3 none [0,1,5,7,8] [
 ⟨some 10,none,.mv (.t 8)⟩,
 ⟨some 5,none,.mv (.t 10)⟩])
 (.seq
 (.reg 4 none [0,1,5,7,8,16] [
 ⟨some 11,none,.mv (.t 1)⟩,
 ⟨some 12,none,.mv (.t 0)⟩,
 ⟨some 13,none,.mv (.t 5)⟩,
 ⟨some 14,none,.ixL 4 (.t 12) (.t 13)⟩,
 ⟨some 15,none,.ld (some 4) (.t 14)⟩,
 ⟨some 16,none,.call (.t 11) [.t 15]⟩])
 (.cond (.t 16)
 (.seq
 (.reg 5 none [4] [
 ⟨some 17,none,.mv (.t 5)⟩,
 ⟨some 4,none,.mv (.t 17)⟩])
 .ret)
 .skip))))
 (.reg 6 none [0,1,7,8] [
 ⟨some 18,none,.bin .add false (.t 8) (.k (.v (.int .i64 1)))⟩,
 ⟨some 8,none,.mv (.t 18)⟩])))))))
 (.seq
 (.reg 7 none [4] [
 ⟨some 4,none,.mv (.k (.v (.int .i64 (-1))))⟩])
 .ret)))
theorem fn_slices_IndexFunc_Approval:FnIR Try.prog F_slices_IndexFunc_Approval 19 [(0,[0,1]),(1,[0,1,7,8]),(2,[0,1,7,8,9]),(3,[0,1,5,7,8]),(4,[0,1,5,7,8,16]),(5,[4]),(6,[0,1,7,8]),(7,[4])] ir_slices_IndexFunc_Approval [(.tmp 4)]:=
 ⟨Try.f41,_,Try.func41,rfl,by kernel_rfl,rfl,by kernel_rfl,by kernel_rfl⟩
def ir_approvals_find_1:RC:=
 (.seq
 (.reg 0 none [1,2,3] [
 ⟨some 3,none,.box (.t 0)⟩,
 ⟨some 4,none,.mv (.k (.v (.bool false)))⟩])
 (.seq
 (.reg 1 none [4] [
 ⟨some 5,none,.fa 0 (.t 3)⟩,
 ⟨some 6,none,.ld none (.t 5)⟩,
 ⟨some 7,none,.ld none (.t 1)⟩,
 ⟨some 8,none,.bin .eql false (.t 6) (.t 7)⟩,
 ⟨some 9,none,.mv (.t 8)⟩,
 ⟨some 10,some (9,true),.fa 2 (.t 3)⟩,
 ⟨some 11,some (9,true),.ld none (.t 10)⟩,
 ⟨some 12,some (9,true),.ld none (.t 2)⟩,
 ⟨some 13,some (9,true),.bin .leq false (.t 11) (.t 12)⟩,
 ⟨some 14,none,.pick (.t 9) (.t 13) (.k (.v (.bool false)))⟩,
 ⟨some 15,none,.mv (.t 14)⟩,
 ⟨some 16,some (15,true),.ld none (.t 2)⟩,
 ⟨some 17,some (15,true),.fa 3 (.t 3)⟩,
 ⟨some 18,some (15,true),.ld none (.t 17)⟩,
 ⟨some 19,some (15,true),.bin .lss false (.t 16) (.t 18)⟩,
 ⟨some 20,none,.pick (.t 15) (.t 19) (.k (.v (.bool false)))⟩,
 ⟨some 4,none,.mv (.t 20)⟩])
 .ret))
theorem fn_approvals_find_1:FnIR Try.prog F_approvals_find_1 21 [(0,[1,2,3]),(1,[4])] ir_approvals_find_1 [(.tmp 4)]:=
 ⟨Try.f42,_,Try.func42,rfl,by kernel_rfl,rfl,by kernel_rfl,by kernel_rfl⟩
def ir_codes_Name:RC:=
 (.seq
 (.reg 0 none [0] [
 ⟨some 2,none,.mv (.k (.v (.bool false)))⟩])
 (.seq
 (.seq
 (.reg 1 none [0,22] [
 ⟨some 5,none,.mv (.t 0)⟩,
 ⟨some 6,none,.lenS (.t 5)⟩,
 ⟨some 7,none,.bin .lss false (.t 6) (.k (.v (.int .i64 1)))⟩,
 ⟨some 8,none,.mv (.t 7)⟩,
 ⟨some 9,some (8,false),.mv (.t 0)⟩,
 ⟨some 10,some (8,false),.lenS (.t 9)⟩,
 ⟨some 11,some (8,false),.bin .gtr false (.t 10) (.k (.v (.int .i64 16)))⟩,
 ⟨some 12,none,.pick (.t 8) (.k (.v (.bool true))) (.t 11)⟩,
 ⟨some 13,none,.mv (.t 12)⟩,
 ⟨some 14,some (13,false),.mv (.t 0)⟩,
 ⟨some 15,some (13,false),.sx (.t 14) (.k (.v (.int .i64 0)))⟩,
 ⟨some 16,some (13,false),.bin .lss false (.t 15) (.k (.v (.int .u8 97)))⟩,
 ⟨some 17,none,.pick (.t 13) (.k (.v (.bool true))) (.t 16)⟩,
 ⟨some 18,none,.mv (.t 17)⟩,
 ⟨some 19,some (18,false),.mv (.t 0)⟩,
 ⟨some 20,some (18,false),.sx (.t 19) (.k (.v (.int .i64 0)))⟩,
 ⟨some 21,some (18,false),.bin .gtr false (.t 20) (.k (.v (.int .u8 122)))⟩,
 ⟨some 22,none,.pick (.t 18) (.k (.v (.bool true))) (.t 21)⟩])
 (.cond (.t 22)
 (.seq
 (.reg 2 none [2] [
 ⟨some 2,none,.mv (.k (.v (.bool false)))⟩])
 .ret)
 .skip))
 (.seq
 (.seq
 (.reg 3 none [0,24,25,26] [
 ⟨some 23,none,.mv (.t 0)⟩,
 ⟨some 24,none,.cvSB (.t 23)⟩,
 ⟨some 25,none,.lenL (.t 24)⟩,
 ⟨some 26,none,.mv (.k (.v (.int .i64 0)))⟩])
 (.block 0
 (.loop
 (.seq
 (.reg 4 none [0,24,25,26,27] [
 ⟨some 27,none,.bin .lss false (.t 26) (.t 25)⟩])
 (.seq
 (.cond (.t 27)
 .skip
 (.exit 0))
 (.seq
 (.block 1
 (.seq
 (.reg 5 none [0,4,24,25,26] [
 ⟨some 28,none,.ixL 1 (.t 24) (.t 26)⟩,
 ⟨some 29,none,.ld none (.t 28)⟩,
 ⟨some 4,none,.mv (.t 29)⟩])
 (.seq
 (.reg 6 none [0,24,25,26,47] [
 ⟨some 30,none,.mv (.t 4)⟩,
 ⟨some 31,none,.bin .lss false (.t 30) (.k (.v (.int .u8 97)))⟩,
 ⟨some 32,none,.mv (.t 31)⟩,
 ⟨some 33,some (32,false),.mv (.t 4)⟩,
 ⟨some 34,some (32,false),.bin .gtr false (.t 33) (.k (.v (.int .u8 122)))⟩,
 ⟨some 35,none,.pick (.t 32) (.k (.v (.bool true))) (.t 34)⟩,
 ⟨some 36,none,.mv (.t 35)⟩,
 ⟨some 37,some (36,true),.mv (.t 4)⟩,
 ⟨some 38,some (36,true),.bin .lss false (.t 37) (.k (.v (.int .u8 48)))⟩,
 ⟨some 39,some (36,true),.mv (.t 38)⟩,
 ⟨some 40,some (39,false),.mv (.t 4)⟩,
 ⟨some 41,some (39,false),.bin .gtr false (.t 40) (.k (.v (.int .u8 57)))⟩,
 ⟨some 42,some (36,true),.pick (.t 39) (.k (.v (.bool true))) (.t 41)⟩,
 ⟨some 43,none,.pick (.t 36) (.t 42) (.k (.v (.bool false)))⟩,
 ⟨some 44,none,.mv (.t 43)⟩,
 ⟨some 45,some (44,true),.mv (.t 4)⟩,
 ⟨some 46,some (44,true),.bin .neq false (.t 45) (.k (.v (.int .u8 95)))⟩,
 ⟨some 47,none,.pick (.t 44) (.t 46) (.k (.v (.bool false)))⟩])
 (.cond (.t 47)
 (.seq
 (.reg 7 none [2] [
 ⟨some 2,none,.mv (.k (.v (.bool false)))⟩])
 .ret)
 .skip))))
 (.reg 8 none [0,24,25,26] [
 ⟨some 48,none,.bin .add false (.t 26) (.k (.v (.int .i64 1)))⟩,
 ⟨some 26,none,.mv (.t 48)⟩])))))))
 (.seq
 (.seq
 (.reg 9 none [49] [
 ⟨some 49,none,.mv (.t 0)⟩])
 (.block 2
 (.seq
 (.seq
 (.reg 10 none [49,50] [
 ⟨some 51,none,.bin .eql false (.t 49) (.k (.v (.string ⟨#[97,108,108]⟩)))⟩,
 ⟨some 50,none,.mv (.t 51)⟩])
 (.cond (.t 50)
 .skip
 (.seq
 (.reg 11 none [49,50] [
 ⟨some 52,none,.bin .eql false (.t 49) (.k (.v (.string ⟨#[97,110,100]⟩)))⟩,
 ⟨some 50,none,.mv (.t 52)⟩])
 (.cond (.t 50)
 .skip
 (.seq
 (.reg 12 none [49,50] [
 ⟨some 53,none,.bin .eql false (.t 49) (.k (.v (.string ⟨#[101,118,101,110,116]⟩)))⟩,
 ⟨some 50,none,.mv (.t 53)⟩])
 (.cond (.t 50)
 .skip
 (.seq
 (.reg 13 none [49,50] [
 ⟨some 54,none,.bin .eql false (.t 49) (.k (.v (.string ⟨#[102,114,111,109]⟩)))⟩,
 ⟨some 50,none,.mv (.t 54)⟩])
 (.cond (.t 50)
 .skip
 (.seq
 (.reg 14 none [49,50] [
 ⟨some 55,none,.bin .eql false (.t 49) (.k (.v (.string ⟨#[109,105,115,115,105,110,103]⟩)))⟩,
 ⟨some 50,none,.mv (.t 55)⟩])
 (.cond (.t 50)
 .skip
 (.seq
 (.reg 15 none [49,50] [
 ⟨some 56,none,.bin .eql false (.t 49) (.k (.v (.string ⟨#[110,111,116]⟩)))⟩,
 ⟨some 50,none,.mv (.t 56)⟩])
 (.cond (.t 50)
 .skip
 (.seq
 (.reg 16 none [49,50] [
 ⟨some 57,none,.bin .eql false (.t 49) (.k (.v (.string ⟨#[111,110]⟩)))⟩,
 ⟨some 50,none,.mv (.t 57)⟩])
 (.cond (.t 50)
 .skip
 (.seq
 (.reg 17 none [49,50] [
 ⟨some 58,none,.bin .eql false (.t 49) (.k (.v (.string ⟨#[111,114]⟩)))⟩,
 ⟨some 50,none,.mv (.t 58)⟩])
 (.cond (.t 50)
 .skip
 (.seq
 (.reg 18 none [49,50] [
 ⟨some 59,none,.bin .eql false (.t 49) (.k (.v (.string ⟨#[116,111]⟩)))⟩,
 ⟨some 50,none,.mv (.t 59)⟩])
 (.cond (.t 50)
 .skip
 (.seq
 (.reg 19 none [49,50] [
 ⟨some 60,none,.bin .eql false (.t 49) (.k (.v (.string ⟨#[117,110,100,101,114]⟩)))⟩,
 ⟨some 50,none,.mv (.t 60)⟩])
 (.cond (.t 50)
 .skip
 (.reg 20 none [50] [
 ⟨some 61,none,.bin .eql false (.t 49) (.k (.v (.string ⟨#[119,104,101,114,101]⟩)))⟩,
 ⟨some 50,none,.mv (.t 61)⟩])))))))))))))))))))))
 (.cond (.t 50)
 (.seq
 (.reg 21 none [2] [
 ⟨some 2,none,.mv (.k (.v (.bool false)))⟩])
 .ret)
 .skip))))
 (.seq
 (.reg 22 none [2] [
 ⟨some 2,none,.mv (.k (.v (.bool true)))⟩])
 .ret)))))
theorem fn_codes_Name:FnIR Try.prog F_codes_Name 62 [(0,[0]),(1,[0,22]),(2,[2]),(3,[0,24,25,26]),(4,[0,24,25,26,27]),(5,[0,4,24,25,26]),(6,[0,24,25,26,47]),(7,[2]),(8,[0,24,25,26]),(9,[49]),(10,[49,50]),(11,[49,50]),(12,[49,50]),(13,[49,50]),(14,[49,50]),(15,[49,50]),(16,[49,50]),(17,[49,50]),(18,[49,50]),(19,[49,50]),(20,[50]),(21,[2]),(22,[2])] ir_codes_Name [(.tmp 2)]:=
 ⟨Try.f43,_,Try.func43,rfl,by kernel_rfl,rfl,by kernel_rfl,by kernel_rfl⟩
def ir_cmp_Or_int:RC:=
 (.seq
 (.reg 0 none [0] [
 ⟨some 2,none,.mv (.k (.v (.int .i64 0)))⟩])
 (.seq
 (.reg 1 none [0,3] [
 ⟨some 3,none,.mv (.k (.v (.int .i64 0)))⟩])
 (.seq
 (.seq
 (.reg 2 none [3,6,7,8] [
 ⟨some 6,none,.mv (.t 0)⟩,
 ⟨some 7,none,.lenL (.t 6)⟩,
 ⟨some 8,none,.mv (.k (.v (.int .i64 0)))⟩])
 (.block 0
 (.loop
 (.seq
 (.reg 3 none [3,6,7,8,9] [
 ⟨some 9,none,.bin .lss false (.t 8) (.t 7)⟩])
 (.seq
 (.cond (.t 9)
 .skip
 (.exit 0))
 (.seq
 (.block 1
 (.seq
 (.reg 4 none [3,5,6,7,8] [
 ⟨some 10,none,.ixL 1 (.t 6) (.t 8)⟩,
 ⟨some 11,none,.ld none (.t 10)⟩,
 ⟨some 5,none,.mv (.t 11)⟩])
 (.seq
 (.reg 5 none [3,5,6,7,8,14] [
 ⟨some 12,none,.mv (.t 5)⟩,
 ⟨some 13,none,.mv (.t 3)⟩,
 ⟨some 14,none,.bin .neq false (.t 12) (.t 13)⟩])
 (.cond (.t 14)
 (.seq
 (.reg 6 none [2] [
 ⟨some 15,none,.mv (.t 5)⟩,
 ⟨some 2,none,.mv (.t 15)⟩])
 .ret)
 .skip))))
 (.reg 7 none [3,6,7,8] [
 ⟨some 16,none,.bin .add false (.t 8) (.k (.v (.int .i64 1)))⟩,
 ⟨some 8,none,.mv (.t 16)⟩])))))))
 (.seq
 (.reg 8 none [2] [
 ⟨some 17,none,.mv (.t 3)⟩,
 ⟨some 2,none,.mv (.t 17)⟩])
 .ret))))
theorem fn_cmp_Or_int:FnIR Try.prog F_cmp_Or_int 18 [(0,[0]),(1,[0,3]),(2,[3,6,7,8]),(3,[3,6,7,8,9]),(4,[3,5,6,7,8]),(5,[3,5,6,7,8,14]),(6,[2]),(7,[3,6,7,8]),(8,[2])] ir_cmp_Or_int [(.tmp 2)]:=
 ⟨Try.f44,_,Try.func44,rfl,by kernel_rfl,rfl,by kernel_rfl,by kernel_rfl⟩
def ir_cmp_Compare_int:RC:=
 (.seq
 (.reg 0 none [0,1] [
 ⟨some 4,none,.mv (.k (.v (.int .i64 0)))⟩])
 (.seq
 (.reg 1 none [0,1,5] [
 ⟨some 7,none,.mv (.t 0)⟩,
 ⟨some 8,none,.call (.k (.clo F_cmp_isNaN_int [])) [.t 7]⟩,
 ⟨some 5,none,.mv (.t 8)⟩])
 (.seq
 (.reg 2 none [0,1,5,6] [
 ⟨some 9,none,.mv (.t 1)⟩,
 ⟨some 10,none,.call (.k (.clo F_cmp_isNaN_int [])) [.t 9]⟩,
 ⟨some 6,none,.mv (.t 10)⟩])
 (.seq
 (.seq
 (.reg 3 none [0,1,6,11] [
 ⟨some 11,none,.mv (.t 5)⟩])
 (.cond (.t 11)
 (.seq
 (.seq
 (.reg 4 none [12] [
 ⟨some 12,none,.mv (.t 6)⟩])
 (.cond (.t 12)
 (.seq
 (.reg 5 none [4] [
 ⟨some 4,none,.mv (.k (.v (.int .i64 0)))⟩])
 .ret)
 .skip))
 (.seq
 (.reg 6 none [4] [
 ⟨some 4,none,.mv (.k (.v (.int .i64 (-1))))⟩])
 .ret))
 .skip))
 (.seq
 (.seq
 (.reg 7 none [0,1,13] [
 ⟨some 13,none,.mv (.t 6)⟩])
 (.cond (.t 13)
 (.seq
 (.reg 8 none [4] [
 ⟨some 4,none,.mv (.k (.v (.int .i64 1)))⟩])
 .ret)
 .skip))
 (.seq
 (.seq
 (.reg 9 none [0,1,16] [
 ⟨some 14,none,.mv (.t 0)⟩,
 ⟨some 15,none,.mv (.t 1)⟩,
 ⟨some 16,none,.bin .lss false (.t 14) (.t 15)⟩])
 (.cond (.t 16)
 (.seq
 (.reg 10 none [4] [
 ⟨some 4,none,.mv (.k (.v (.int .i64 (-1))))⟩])
 .ret)
 .skip))
 (.seq
 (.seq
 (.reg 11 none [19] [
 ⟨some 17,none,.mv (.t 0)⟩,
 ⟨some 18,none,.mv (.t 1)⟩,
 ⟨some 19,none,.bin .gtr false (.t 17) (.t 18)⟩])
 (.cond (.t 19)
 (.seq
 (.reg 12 none [4] [
 ⟨some 4,none,.mv (.k (.v (.int .i64 1)))⟩])
 .ret)
 .skip))
 (.seq
 (.reg 13 none [4] [
 ⟨some 4,none,.mv (.k (.v (.int .i64 0)))⟩])
 .ret))))))))
theorem fn_cmp_Compare_int:FnIR Try.prog F_cmp_Compare_int 20 [(0,[0,1]),(1,[0,1,5]),(2,[0,1,5,6]),(3,[0,1,6,11]),(4,[12]),(5,[4]),(6,[4]),(7,[0,1,13]),(8,[4]),(9,[0,1,16]),(10,[4]),(11,[19]),(12,[4]),(13,[4])] ir_cmp_Compare_int [(.tmp 4)]:=
 ⟨Try.f45,_,Try.func45,rfl,by kernel_rfl,rfl,by kernel_rfl,by kernel_rfl⟩
def ir_cmp_Compare_string:RC:=
 (.seq
 (.reg 0 none [0,1] [
 ⟨some 4,none,.mv (.k (.v (.int .i64 0)))⟩])
 (.seq
 (.reg 1 none [0,1,5] [
 ⟨some 7,none,.mv (.t 0)⟩,
 ⟨some 8,none,.call (.k (.clo F_cmp_isNaN_string [])) [.t 7]⟩,
 ⟨some 5,none,.mv (.t 8)⟩])
 (.seq
 (.reg 2 none [0,1,5,6] [
 ⟨some 9,none,.mv (.t 1)⟩,
 ⟨some 10,none,.call (.k (.clo F_cmp_isNaN_string [])) [.t 9]⟩,
 ⟨some 6,none,.mv (.t 10)⟩])
 (.seq
 (.seq
 (.reg 3 none [0,1,6,11] [
 ⟨some 11,none,.mv (.t 5)⟩])
 (.cond (.t 11)
 (.seq
 (.seq
 (.reg 4 none [12] [
 ⟨some 12,none,.mv (.t 6)⟩])
 (.cond (.t 12)
 (.seq
 (.reg 5 none [4] [
 ⟨some 4,none,.mv (.k (.v (.int .i64 0)))⟩])
 .ret)
 .skip))
 (.seq
 (.reg 6 none [4] [
 ⟨some 4,none,.mv (.k (.v (.int .i64 (-1))))⟩])
 .ret))
 .skip))
 (.seq
 (.seq
 (.reg 7 none [0,1,13] [
 ⟨some 13,none,.mv (.t 6)⟩])
 (.cond (.t 13)
 (.seq
 (.reg 8 none [4] [
 ⟨some 4,none,.mv (.k (.v (.int .i64 1)))⟩])
 .ret)
 .skip))
 (.seq
 (.seq
 (.reg 9 none [0,1,16] [
 ⟨some 14,none,.mv (.t 0)⟩,
 ⟨some 15,none,.mv (.t 1)⟩,
 ⟨some 16,none,.bin .lss false (.t 14) (.t 15)⟩])
 (.cond (.t 16)
 (.seq
 (.reg 10 none [4] [
 ⟨some 4,none,.mv (.k (.v (.int .i64 (-1))))⟩])
 .ret)
 .skip))
 (.seq
 (.seq
 (.reg 11 none [19] [
 ⟨some 17,none,.mv (.t 0)⟩,
 ⟨some 18,none,.mv (.t 1)⟩,
 ⟨some 19,none,.bin .gtr false (.t 17) (.t 18)⟩])
 (.cond (.t 19)
 (.seq
 (.reg 12 none [4] [
 ⟨some 4,none,.mv (.k (.v (.int .i64 1)))⟩])
 .ret)
 .skip))
 (.seq
 (.reg 13 none [4] [
 ⟨some 4,none,.mv (.k (.v (.int .i64 0)))⟩])
 .ret))))))))
theorem fn_cmp_Compare_string:FnIR Try.prog F_cmp_Compare_string 20 [(0,[0,1]),(1,[0,1,5]),(2,[0,1,5,6]),(3,[0,1,6,11]),(4,[12]),(5,[4]),(6,[4]),(7,[0,1,13]),(8,[4]),(9,[0,1,16]),(10,[4]),(11,[19]),(12,[4]),(13,[4])] ir_cmp_Compare_string [(.tmp 4)]:=
 ⟨Try.f46,_,Try.func46,rfl,by kernel_rfl,rfl,by kernel_rfl,by kernel_rfl⟩
def ir_slices_ContainsFunc_Approval:RC:=
 (.seq
 (.reg 0 none [0,1] [
 ⟨some 4,none,.mv (.k (.v (.bool false)))⟩])
 (.seq
 (.reg 1 none [4] [
 ⟨some 5,none,.mv (.t 0)⟩,
 ⟨some 6,none,.mv (.t 1)⟩,
 ⟨some 7,none,.call (.k (.clo F_slices_IndexFunc_Approval [])) [.t 5,.t 6]⟩,
 ⟨some 8,none,.bin .geq false (.t 7) (.k (.v (.int .i64 0)))⟩,
 ⟨some 4,none,.mv (.t 8)⟩])
 .ret))
theorem fn_slices_ContainsFunc_Approval:FnIR Try.prog F_slices_ContainsFunc_Approval 9 [(0,[0,1]),(1,[4])] ir_slices_ContainsFunc_Approval [(.tmp 4)]:=
 ⟨Try.f47,_,Try.func47,rfl,by kernel_rfl,rfl,by kernel_rfl,by kernel_rfl⟩
def ir_approvals_overlaps_1:RC:=
 (.seq
 (.reg 0 none [1,2] [
 ⟨some 2,none,.box (.t 0)⟩,
 ⟨some 3,none,.mv (.k (.v (.bool false)))⟩])
 (.seq
 (.reg 1 none [3] [
 ⟨some 4,none,.fa 0 (.t 2)⟩,
 ⟨some 5,none,.ld none (.t 4)⟩,
 ⟨some 6,none,.fa 0 (.t 1)⟩,
 ⟨some 7,none,.ld none (.t 6)⟩,
 ⟨some 8,none,.bin .eql false (.t 5) (.t 7)⟩,
 ⟨some 9,none,.mv (.t 8)⟩,
 ⟨some 10,some (9,true),.fa 2 (.t 2)⟩,
 ⟨some 11,some (9,true),.ld none (.t 10)⟩,
 ⟨some 12,some (9,true),.fa 3 (.t 1)⟩,
 ⟨some 13,some (9,true),.ld none (.t 12)⟩,
 ⟨some 14,some (9,true),.bin .lss false (.t 11) (.t 13)⟩,
 ⟨some 15,none,.pick (.t 9) (.t 14) (.k (.v (.bool false)))⟩,
 ⟨some 16,none,.mv (.t 15)⟩,
 ⟨some 17,some (16,true),.fa 2 (.t 1)⟩,
 ⟨some 18,some (16,true),.ld none (.t 17)⟩,
 ⟨some 19,some (16,true),.fa 3 (.t 2)⟩,
 ⟨some 20,some (16,true),.ld none (.t 19)⟩,
 ⟨some 21,some (16,true),.bin .lss false (.t 18) (.t 20)⟩,
 ⟨some 22,none,.pick (.t 16) (.t 21) (.k (.v (.bool false)))⟩,
 ⟨some 3,none,.mv (.t 22)⟩])
 .ret))
theorem fn_approvals_overlaps_1:FnIR Try.prog F_approvals_overlaps_1 23 [(0,[1,2]),(1,[3])] ir_approvals_overlaps_1 [(.tmp 3)]:=
 ⟨Try.f48,_,Try.func48,rfl,by kernel_rfl,rfl,by kernel_rfl,by kernel_rfl⟩
def ir_slices_rotateRight_Approval:RC:=
 (.reg 0 none [] [
 ⟨some 4,none,.mv (.t 0)⟩,
 ⟨some 5,none,.mv (.t 0)⟩,
 ⟨some 6,none,.lenL (.t 5)⟩,
 ⟨some 7,none,.mv (.t 1)⟩,
 ⟨some 8,none,.bin .sub false (.t 6) (.t 7)⟩,
 ⟨some 9,none,.call (.k (.clo F_slices_rotateLeft_Approval [])) [.t 4,.t 8]⟩])
theorem fn_slices_rotateRight_Approval:FnIR Try.prog F_slices_rotateRight_Approval 10 [] ir_slices_rotateRight_Approval []:=
 ⟨Try.f50,_,Try.func50,rfl,by kernel_rfl,rfl,by kernel_rfl,by kernel_rfl⟩
def ir_ref35_Name:RC:=
 (.seq
 (.reg 0 none [0] [
 ⟨some 2,none,.mv (.k (.v (.bool false)))⟩])
 (.seq
 (.reg 1 none [2] [
 ⟨some 3,none,.mv (.t 0)⟩,
 ⟨some 4,none,.call (.k (.clo F_ref01_Name [])) [.t 3]⟩,
 ⟨some 2,none,.mv (.t 4)⟩])
 .ret))
theorem fn_ref35_Name:FnIR Try.prog F_ref35_Name 5 [(0,[0]),(1,[2])] ir_ref35_Name [(.tmp 2)]:=
 ⟨Try.f51,_,Try.func51,rfl,by kernel_rfl,rfl,by kernel_rfl,by kernel_rfl⟩
def ir_slices_pdqsortOrdered_string:RC:=
 (.seq
 (.reg 0 none [0,1,2,3,8] [
 ⟨some 8,none,.mv (.k (.v (.bool true)))⟩])
 (.seq
 (.reg 1 none [0,1,2,3,8,9] [
 ⟨some 9,none,.mv (.k (.v (.bool true)))⟩])
 (.block 0
 (.loop
 (.block 1
 (.seq
 (.reg 2 none [0,1,2,3,8,9,10] [
 ⟨some 19,none,.mv (.t 2)⟩,
 ⟨some 20,none,.mv (.t 1)⟩,
 ⟨some 21,none,.bin .sub false (.t 19) (.t 20)⟩,
 ⟨some 10,none,.mv (.t 21)⟩])
 (.seq
 (.seq
 (.reg 3 none [0,1,2,3,8,9,10,23] [
 ⟨some 22,none,.mv (.t 10)⟩,
 ⟨some 23,none,.bin .leq false (.t 22) (.k (.v (.int .i64 12)))⟩])
 (.cond (.t 23)
 (.seq
 (.reg 4 none [] [
 ⟨some 24,none,.mv (.t 0)⟩,
 ⟨some 25,none,.mv (.t 1)⟩,
 ⟨some 26,none,.mv (.t 2)⟩,
 ⟨some 27,none,.call (.k (.clo F_slices_insertionSortOrdered_string [])) [.t 24,.t 25,.t 26]⟩])
 .ret)
 .skip))
 (.seq
 (.seq
 (.reg 5 none [0,1,2,3,8,9,10,29] [
 ⟨some 28,none,.mv (.t 3)⟩,
 ⟨some 29,none,.bin .eql false (.t 28) (.k (.v (.int .i64 0)))⟩])
 (.cond (.t 29)
 (.seq
 (.reg 6 none [] [
 ⟨some 30,none,.mv (.t 0)⟩,
 ⟨some 31,none,.mv (.t 1)⟩,
 ⟨some 32,none,.mv (.t 2)⟩,
 ⟨some 33,none,.call (.k (.clo F_slices_heapSortOrdered_string [])) [.t 30,.t 31,.t 32]⟩])
 .ret)
 .skip))
 (.seq
 (.seq
 (.reg 7 none [0,1,2,3,8,9,10,35] [
 ⟨some 34,none,.mv (.t 8)⟩,
 ⟨some 35,none,.un .not (.t 34)⟩])
 (.cond (.t 35)
 (.seq
 (.reg 8 none [0,1,2,3,8,9,10] [
 ⟨some 36,none,.mv (.t 0)⟩,
 ⟨some 37,none,.mv (.t 1)⟩,
 ⟨some 38,none,.mv (.t 2)⟩,
 ⟨some 39,none,.call (.k (.clo F_slices_breakPatternsOrdered_string [])) [.t 36,.t 37,.t 38]⟩])
 (.reg 9 none [0,1,2,3,8,9,10] [
 ⟨some 40,none,.mv (.t 3)⟩,
 ⟨some 41,none,.bin .sub false (.t 40) (.k (.v (.int .i64 1)))⟩,
 ⟨some 3,none,.mv (.t 41)⟩]))
 .skip))
 (.seq
 (.reg 10 none [0,1,2,3,8,9,10,11,12] [
 ⟨some 43,none,.mv (.t 0)⟩,
 ⟨some 44,none,.mv (.t 1)⟩,
 ⟨some 45,none,.mv (.t 2)⟩,
 ⟨some 46,none,.call (.k (.clo F_slices_choosePivotOrdered_string [])) [.t 43,.t 44,.t 45]⟩,
 ⟨some 42,none,.mv (.t 46)⟩,
 ⟨some 47,none,.ex (.t 42) 0⟩,
 ⟨some 48,none,.ex (.t 42) 1⟩,
 ⟨some 11,none,.mv (.t 47)⟩,
 ⟨some 12,none,.mv (.t 48)⟩])
 (.seq
 (.seq
 (.reg 11 none [0,1,2,3,8,9,10,11,12,50] [
 ⟨some 49,none,.mv (.t 12)⟩,
 ⟨some 50,none,.bin .eql false (.t 49) (.k (.v (.int .i64 2)))⟩])
 (.cond (.t 50)
 (.seq
 (.reg 12 none [0,1,2,3,8,9,10,11] [
 ⟨some 51,none,.mv (.t 0)⟩,
 ⟨some 52,none,.mv (.t 1)⟩,
 ⟨some 53,none,.mv (.t 2)⟩,
 ⟨some 54,none,.call (.k (.clo F_slices_reverseRangeOrdered_string [])) [.t 51,.t 52,.t 53]⟩])
 (.seq
 (.reg 13 none [0,1,2,3,8,9,10,11] [
 ⟨some 55,none,.mv (.t 2)⟩,
 ⟨some 56,none,.bin .sub false (.t 55) (.k (.v (.int .i64 1)))⟩,
 ⟨some 57,none,.mv (.t 11)⟩,
 ⟨some 58,none,.mv (.t 1)⟩,
 ⟨some 59,none,.bin .sub false (.t 57) (.t 58)⟩,
 ⟨some 60,none,.bin .sub false (.t 56) (.t 59)⟩,
 ⟨some 11,none,.mv (.t 60)⟩])
 (.reg 14 none [0,1,2,3,8,9,10,11,12] [
 ⟨some 12,none,.mv (.k (.v (.int .i64 1)))⟩])))
 .skip))
 (.seq
 (.seq
 (.reg 15 none [0,1,2,3,8,9,10,11,68] [
 ⟨some 61,none,.mv (.t 8)⟩,
 ⟨some 62,none,.mv (.t 61)⟩,
 ⟨some 63,some (62,true),.mv (.t 9)⟩,
 ⟨some 64,none,.pick (.t 62) (.t 63) (.k (.v (.bool false)))⟩,
 ⟨some 65,none,.mv (.t 64)⟩,
 ⟨some 66,some (65,true),.mv (.t 12)⟩,
 ⟨some 67,some (65,true),.bin .eql false (.t 66) (.k (.v (.int .i64 1)))⟩,
 ⟨some 68,none,.pick (.t 65) (.t 67) (.k (.v (.bool false)))⟩])
 (.cond (.t 68)
 (.seq
 (.reg 16 none [0,1,2,3,8,9,10,11,72] [
 ⟨some 69,none,.mv (.t 0)⟩,
 ⟨some 70,none,.mv (.t 1)⟩,
 ⟨some 71,none,.mv (.t 2)⟩,
 ⟨some 72,none,.call (.k (.clo F_slices_partialInsertionSortOrdered_string [])) [.t 69,.t 70,.t 71]⟩])
 (.cond (.t 72)
 .ret
 .skip))
 .skip))
 (.seq
 (.seq
 (.reg 17 (some [0,1,3,7,7,23,63,127,7,7,775,1799,4095,8191,16383]) [0,1,2,3,8,9,10,11,87] [
 ⟨some 73,none,.mv (.t 1)⟩,
 ⟨some 74,none,.bin .gtr false (.t 73) (.k (.v (.int .i64 0)))⟩,
 ⟨some 75,none,.mv (.t 74)⟩,
 ⟨some 76,some (75,true),.mv (.t 0)⟩,
 ⟨some 77,some (75,true),.mv (.t 1)⟩,
 ⟨some 78,some (75,true),.bin .sub false (.t 77) (.k (.v (.int .i64 1)))⟩,
 ⟨some 79,some (75,true),.ixL 1 (.t 76) (.t 78)⟩,
 ⟨some 80,some (75,true),.ld none (.t 79)⟩,
 ⟨some 81,some (75,true),.mv (.t 0)⟩,
 ⟨some 82,some (75,true),.mv (.t 11)⟩,
 ⟨some 83,some (75,true),.ixL 1 (.t 81) (.t 82)⟩,
 ⟨some 84,some (75,true),.ld none (.t 83)⟩,
 ⟨some 85,some (75,true),.call (.k (.clo F_cmp_Less_string [])) [.t 80,.t 84]⟩,
 ⟨some 86,some (75,true),.un .not (.t 85)⟩,
 ⟨some 87,none,.pick (.t 75) (.t 86) (.k (.v (.bool false)))⟩])
 (.cond (.t 87)
 (.seq
 (.reg 18 none [0,2,3,8,9,13] [
 ⟨some 88,none,.mv (.t 0)⟩,
 ⟨some 89,none,.mv (.t 1)⟩,
 ⟨some 90,none,.mv (.t 2)⟩,
 ⟨some 91,none,.mv (.t 11)⟩,
 ⟨some 92,none,.call (.k (.clo F_slices_partitionEqualOrdered_string [])) [.t 88,.t 89,.t 90,.t 91]⟩,
 ⟨some 13,none,.mv (.t 92)⟩])
 (.seq
 (.reg 19 none [0,1,2,3,8,9] [
 ⟨some 93,none,.mv (.t 13)⟩,
 ⟨some 1,none,.mv (.t 93)⟩])
 (.exit 1)))
 .skip))
 (.seq
 (.reg 20 none [0,1,2,3,10,14,15] [
 ⟨some 95,none,.mv (.t 0)⟩,
 ⟨some 96,none,.mv (.t 1)⟩,
 ⟨some 97,none,.mv (.t 2)⟩,
 ⟨some 98,none,.mv (.t 11)⟩,
 ⟨some 99,none,.call (.k (.clo F_slices_partitionOrdered_string [])) [.t 95,.t 96,.t 97,.t 98]⟩,
 ⟨some 94,none,.mv (.t 99)⟩,
 ⟨some 100,none,.ex (.t 94) 0⟩,
 ⟨some 101,none,.ex (.t 94) 1⟩,
 ⟨some 14,none,.mv (.t 100)⟩,
 ⟨some 15,none,.mv (.t 101)⟩])
 (.seq
 (.reg 21 none [0,1,2,3,9,10,14] [
 ⟨some 102,none,.mv (.t 15)⟩,
 ⟨some 9,none,.mv (.t 102)⟩])
 (.seq
 (.reg 22 none [0,1,2,3,9,10,14,16,17] [
 ⟨some 103,none,.mv (.t 14)⟩,
 ⟨some 104,none,.mv (.t 1)⟩,
 ⟨some 105,none,.bin .sub false (.t 103) (.t 104)⟩,
 ⟨some 106,none,.mv (.t 2)⟩,
 ⟨some 107,none,.mv (.t 14)⟩,
 ⟨some 108,none,.bin .sub false (.t 106) (.t 107)⟩,
 ⟨some 16,none,.mv (.t 105)⟩,
 ⟨some 17,none,.mv (.t 108)⟩])
 (.seq
 (.reg 23 none [0,1,2,3,9,14,16,17,18] [
 ⟨some 109,none,.mv (.t 10)⟩,
 ⟨some 110,none,.bin .quo false (.t 109) (.k (.v (.int .i64 8)))⟩,
 ⟨some 18,none,.mv (.t 110)⟩])
 (.seq
 (.reg 24 none [0,1,2,3,9,14,16,17,18,113] [
 ⟨some 111,none,.mv (.t 16)⟩,
 ⟨some 112,none,.mv (.t 17)⟩,
 ⟨some 113,none,.bin .lss false (.t 111) (.t 112)⟩])
 (.cond (.t 113)
 (.seq
 (.reg 25 none [0,1,2,3,8,9,14] [
 ⟨some 114,none,.mv (.t 16)⟩,
 ⟨some 115,none,.mv (.t 18)⟩,
 ⟨some 116,none,.bin .geq false (.t 114) (.t 115)⟩,
 ⟨some 8,none,.mv (.t 116)⟩])
 (.seq
 (.reg 26 none [0,2,3,8,9,14] [
 ⟨some 117,none,.mv (.t 0)⟩,
 ⟨some 118,none,.mv (.t 1)⟩,
 ⟨some 119,none,.mv (.t 14)⟩,
 ⟨some 120,none,.mv (.t 3)⟩,
 ⟨some 121,none,.call (.k (.clo F_slices_pdqsortOrdered_string [])) [.t 117,.t 118,.t 119,.t 120]⟩])
 (.reg 27 none [0,1,2,3,8,9] [
 ⟨some 122,none,.mv (.t 14)⟩,
 ⟨some 123,none,.bin .add false (.t 122) (.k (.v (.int .i64 1)))⟩,
 ⟨some 1,none,.mv (.t 123)⟩])))
 (.seq
 (.reg 28 none [0,1,2,3,8,9,14] [
 ⟨some 124,none,.mv (.t 17)⟩,
 ⟨some 125,none,.mv (.t 18)⟩,
 ⟨some 126,none,.bin .geq false (.t 124) (.t 125)⟩,
 ⟨some 8,none,.mv (.t 126)⟩])
 (.seq
 (.reg 29 none [0,1,3,8,9,14] [
 ⟨some 127,none,.mv (.t 0)⟩,
 ⟨some 128,none,.mv (.t 14)⟩,
 ⟨some 129,none,.bin .add false (.t 128) (.k (.v (.int .i64 1)))⟩,
 ⟨some 130,none,.mv (.t 2)⟩,
 ⟨some 131,none,.mv (.t 3)⟩,
 ⟨some 132,none,.call (.k (.clo F_slices_pdqsortOrdered_string [])) [.t 127,.t 129,.t 130,.t 131]⟩])
 (.reg 30 none [0,1,2,3,8,9] [
 ⟨some 133,none,.mv (.t 14)⟩,
 ⟨some 2,none,.mv (.t 133)⟩]))))))))))))))))))))))
theorem fn_slices_pdqsortOrdered_string:FnIR Try.prog F_slices_pdqsortOrdered_string 134 [(0,[0,1,2,3,8]),(1,[0,1,2,3,8,9]),(2,[0,1,2,3,8,9,10]),(3,[0,1,2,3,8,9,10,23]),(5,[0,1,2,3,8,9,10,29]),(7,[0,1,2,3,8,9,10,35]),(8,[0,1,2,3,8,9,10]),(9,[0,1,2,3,8,9,10]),(10,[0,1,2,3,8,9,10,11,12]),(11,[0,1,2,3,8,9,10,11,12,50]),(12,[0,1,2,3,8,9,10,11]),(13,[0,1,2,3,8,9,10,11]),(14,[0,1,2,3,8,9,10,11,12]),(15,[0,1,2,3,8,9,10,11,68]),(16,[0,1,2,3,8,9,10,11,72]),(17,[0,1,2,3,8,9,10,11,87]),(18,[0,2,3,8,9,13]),(19,[0,1,2,3,8,9]),(20,[0,1,2,3,10,14,15]),(21,[0,1,2,3,9,10,14]),(22,[0,1,2,3,9,10,14,16,17]),(23,[0,1,2,3,9,14,16,17,18]),(24,[0,1,2,3,9,14,16,17,18,113]),(25,[0,1,2,3,8,9,14]),(26,[0,2,3,8,9,14]),(27,[0,1,2,3,8,9]),(28,[0,1,2,3,8,9,14]),(29,[0,1,3,8,9,14]),(30,[0,1,2,3,8,9])] ir_slices_pdqsortOrdered_string []:=
 ⟨Try.f52,_,Try.func52,rfl,by kernel_rfl,rfl,by kernel_rfl,by kernel_rfl⟩
def ir_math_bits_Len:RC:=
 (.seq
 (.reg 0 none [0] [
 ⟨some 2,none,.mv (.k (.v (.int .i64 0)))⟩])
 (.seq
 (.cond (.k (.v (.bool false)))
 (.seq
 (.reg 1 none [2] [
 ⟨some 3,none,.mv (.t 0)⟩,
 ⟨some 4,none,.cvI .u32 (.t 3)⟩,
 ⟨some 5,none,.call (.k (.clo F_math_bits_Len32 [])) [.t 4]⟩,
 ⟨some 2,none,.mv (.t 5)⟩])
 .ret)
 .skip)
 (.seq
 (.reg 2 none [2] [
 ⟨some 6,none,.mv (.t 0)⟩,
 ⟨some 7,none,.call (.k (.clo F_math_bits_Len64 [])) [.t 6]⟩,
 ⟨some 2,none,.mv (.t 7)⟩])
 .ret)))
theorem fn_math_bits_Len:FnIR Try.prog F_math_bits_Len 8 [(0,[0]),(1,[2]),(2,[2])] ir_math_bits_Len [(.tmp 2)]:=
 ⟨Try.f53,_,Try.func53,rfl,by kernel_rfl,rfl,by kernel_rfl,by kernel_rfl⟩
def ir_cmp_isNaN_int:RC:=
 (.seq
 (.reg 0 none [0] [
 ⟨some 2,none,.mv (.k (.v (.bool false)))⟩])
 (.seq
 (.reg 1 none [2] [
 ⟨some 3,none,.mv (.t 0)⟩,
 ⟨some 4,none,.mv (.t 0)⟩,
 ⟨some 5,none,.bin .neq false (.t 3) (.t 4)⟩,
 ⟨some 2,none,.mv (.t 5)⟩])
 .ret))
theorem fn_cmp_isNaN_int:FnIR Try.prog F_cmp_isNaN_int 6 [(0,[0]),(1,[2])] ir_cmp_isNaN_int [(.tmp 2)]:=
 ⟨Try.f54,_,Try.func54,rfl,by kernel_rfl,rfl,by kernel_rfl,by kernel_rfl⟩
def ir_cmp_isNaN_string:RC:=
 (.seq
 (.reg 0 none [0] [
 ⟨some 2,none,.mv (.k (.v (.bool false)))⟩])
 (.seq
 (.reg 1 none [2] [
 ⟨some 3,none,.mv (.t 0)⟩,
 ⟨some 4,none,.mv (.t 0)⟩,
 ⟨some 5,none,.bin .neq false (.t 3) (.t 4)⟩,
 ⟨some 2,none,.mv (.t 5)⟩])
 .ret))
theorem fn_cmp_isNaN_string:FnIR Try.prog F_cmp_isNaN_string 6 [(0,[0]),(1,[2])] ir_cmp_isNaN_string [(.tmp 2)]:=
 ⟨Try.f55,_,Try.func55,rfl,by kernel_rfl,rfl,by kernel_rfl,by kernel_rfl⟩
def ir_slices_rotateLeft_Approval:RC:=
 (.seq
 (.reg 0 none [0,1] [
 ⟨some 4,none,.mv (.t 0)⟩,
 ⟨some 5,none,.mv (.t 1)⟩,
 ⟨some 6,none,.slL 4 (.t 4) none (some (.t 5))⟩,
 ⟨some 7,none,.call (.k (.clo F_slices_Reverse_Approval [])) [.t 6]⟩])
 (.seq
 (.reg 1 none [0] [
 ⟨some 8,none,.mv (.t 0)⟩,
 ⟨some 9,none,.mv (.t 1)⟩,
 ⟨some 10,none,.slL 4 (.t 8) (some (.t 9)) none⟩,
 ⟨some 11,none,.call (.k (.clo F_slices_Reverse_Approval [])) [.t 10]⟩])
 (.reg 2 none [] [
 ⟨some 12,none,.mv (.t 0)⟩,
 ⟨some 13,none,.call (.k (.clo F_slices_Reverse_Approval [])) [.t 12]⟩])))
theorem fn_slices_rotateLeft_Approval:FnIR Try.prog F_slices_rotateLeft_Approval 14 [(0,[0,1]),(1,[0])] ir_slices_rotateLeft_Approval []:=
 ⟨Try.f56,_,Try.func56,rfl,by kernel_rfl,rfl,by kernel_rfl,by kernel_rfl⟩
def ir_ref01_Name:RC:=
 (.seq
 (.reg 0 none [0] [
 ⟨some 2,none,.mv (.k (.v (.bool false)))⟩])
 (.seq
 (.seq
 (.reg 1 none [0,21] [
 ⟨some 4,none,.mv (.t 0)⟩,
 ⟨some 5,none,.lenS (.t 4)⟩,
 ⟨some 6,none,.bin .lss false (.t 5) (.k (.v (.int .i64 1)))⟩,
 ⟨some 7,none,.mv (.t 6)⟩,
 ⟨some 8,some (7,false),.mv (.t 0)⟩,
 ⟨some 9,some (7,false),.lenS (.t 8)⟩,
 ⟨some 10,some (7,false),.bin .gtr false (.t 9) (.k (.v (.int .i64 16)))⟩,
 ⟨some 11,none,.pick (.t 7) (.k (.v (.bool true))) (.t 10)⟩,
 ⟨some 12,none,.mv (.t 11)⟩,
 ⟨some 13,some (12,false),.mv (.t 0)⟩,
 ⟨some 14,some (12,false),.sx (.t 13) (.k (.v (.int .i64 0)))⟩,
 ⟨some 15,some (12,false),.bin .lss false (.t 14) (.k (.v (.int .u8 97)))⟩,
 ⟨some 16,none,.pick (.t 12) (.k (.v (.bool true))) (.t 15)⟩,
 ⟨some 17,none,.mv (.t 16)⟩,
 ⟨some 18,some (17,false),.mv (.t 0)⟩,
 ⟨some 19,some (17,false),.sx (.t 18) (.k (.v (.int .i64 0)))⟩,
 ⟨some 20,some (17,false),.bin .gtr false (.t 19) (.k (.v (.int .u8 122)))⟩,
 ⟨some 21,none,.pick (.t 17) (.k (.v (.bool true))) (.t 20)⟩])
 (.cond (.t 21)
 (.seq
 (.reg 2 none [2] [
 ⟨some 2,none,.mv (.k (.v (.bool false)))⟩])
 .ret)
 .skip))
 (.seq
 (.seq
 (.reg 3 none [0,3] [
 ⟨some 3,none,.mv (.k (.v (.int .i64 0)))⟩])
 (.block 0
 (.loop
 (.seq
 (.seq
 (.reg 4 none [0,3,25] [
 ⟨some 22,none,.mv (.t 3)⟩,
 ⟨some 23,none,.mv (.t 0)⟩,
 ⟨some 24,none,.lenS (.t 23)⟩,
 ⟨some 25,none,.bin .lss false (.t 22) (.t 24)⟩])
 (.cond (.t 25)
 .skip
 (.exit 0)))
 (.seq
 (.block 1
 (.seq
 (.reg 6 none [0,3,56] [
 ⟨some 28,none,.mv (.t 0)⟩,
 ⟨some 29,none,.mv (.t 3)⟩,
 ⟨some 30,none,.sx (.t 28) (.t 29)⟩,
 ⟨some 31,none,.bin .geq false (.t 30) (.k (.v (.int .u8 97)))⟩,
 ⟨some 32,none,.mv (.t 31)⟩,
 ⟨some 33,some (32,true),.mv (.t 0)⟩,
 ⟨some 34,some (32,true),.mv (.t 3)⟩,
 ⟨some 35,some (32,true),.sx (.t 33) (.t 34)⟩,
 ⟨some 36,some (32,true),.bin .leq false (.t 35) (.k (.v (.int .u8 122)))⟩,
 ⟨some 37,none,.pick (.t 32) (.t 36) (.k (.v (.bool false)))⟩,
 ⟨some 38,none,.mv (.t 37)⟩,
 ⟨some 39,some (38,false),.mv (.t 0)⟩,
 ⟨some 40,some (38,false),.mv (.t 3)⟩,
 ⟨some 41,some (38,false),.sx (.t 39) (.t 40)⟩,
 ⟨some 42,some (38,false),.bin .geq false (.t 41) (.k (.v (.int .u8 48)))⟩,
 ⟨some 43,some (38,false),.mv (.t 42)⟩,
 ⟨some 44,some (43,true),.mv (.t 0)⟩,
 ⟨some 45,some (43,true),.mv (.t 3)⟩,
 ⟨some 46,some (43,true),.sx (.t 44) (.t 45)⟩,
 ⟨some 47,some (43,true),.bin .leq false (.t 46) (.k (.v (.int .u8 57)))⟩,
 ⟨some 48,some (38,false),.pick (.t 43) (.t 47) (.k (.v (.bool false)))⟩,
 ⟨some 49,none,.pick (.t 38) (.k (.v (.bool true))) (.t 48)⟩,
 ⟨some 50,none,.mv (.t 49)⟩,
 ⟨some 51,some (50,false),.mv (.t 0)⟩,
 ⟨some 52,some (50,false),.mv (.t 3)⟩,
 ⟨some 53,some (50,false),.sx (.t 51) (.t 52)⟩,
 ⟨some 54,some (50,false),.bin .eql false (.t 53) (.k (.v (.int .u8 95)))⟩,
 ⟨some 55,none,.pick (.t 50) (.k (.v (.bool true))) (.t 54)⟩,
 ⟨some 56,none,.un .not (.t 55)⟩])
 (.cond (.t 56)
 (.seq
 (.reg 7 none [2] [
 ⟨some 2,none,.mv (.k (.v (.bool false)))⟩])
 .ret)
 .skip)))
 (.reg 5 none [0,3] [
 ⟨some 26,none,.mv (.t 3)⟩,
 ⟨some 27,none,.bin .add false (.t 26) (.k (.v (.int .i64 1)))⟩,
 ⟨some 3,none,.mv (.t 27)⟩]))))))
 (.seq
 (.seq
 (.reg 8 none [57] [
 ⟨some 57,none,.mv (.t 0)⟩])
 (.block 2
 (.seq
 (.seq
 (.reg 9 none [57,58] [
 ⟨some 59,none,.bin .eql false (.t 57) (.k (.v (.string ⟨#[97,108,108]⟩)))⟩,
 ⟨some 58,none,.mv (.t 59)⟩])
 (.cond (.t 58)
 .skip
 (.seq
 (.reg 10 none [57,58] [
 ⟨some 60,none,.bin .eql false (.t 57) (.k (.v (.string ⟨#[97,110,100]⟩)))⟩,
 ⟨some 58,none,.mv (.t 60)⟩])
 (.cond (.t 58)
 .skip
 (.seq
 (.reg 11 none [57,58] [
 ⟨some 61,none,.bin .eql false (.t 57) (.k (.v (.string ⟨#[101,118,101,110,116]⟩)))⟩,
 ⟨some 58,none,.mv (.t 61)⟩])
 (.cond (.t 58)
 .skip
 (.seq
 (.reg 12 none [57,58] [
 ⟨some 62,none,.bin .eql false (.t 57) (.k (.v (.string ⟨#[102,114,111,109]⟩)))⟩,
 ⟨some 58,none,.mv (.t 62)⟩])
 (.cond (.t 58)
 .skip
 (.seq
 (.reg 13 none [57,58] [
 ⟨some 63,none,.bin .eql false (.t 57) (.k (.v (.string ⟨#[109,105,115,115,105,110,103]⟩)))⟩,
 ⟨some 58,none,.mv (.t 63)⟩])
 (.cond (.t 58)
 .skip
 (.seq
 (.reg 14 none [57,58] [
 ⟨some 64,none,.bin .eql false (.t 57) (.k (.v (.string ⟨#[110,111,116]⟩)))⟩,
 ⟨some 58,none,.mv (.t 64)⟩])
 (.cond (.t 58)
 .skip
 (.seq
 (.reg 15 none [57,58] [
 ⟨some 65,none,.bin .eql false (.t 57) (.k (.v (.string ⟨#[111,110]⟩)))⟩,
 ⟨some 58,none,.mv (.t 65)⟩])
 (.cond (.t 58)
 .skip
 (.seq
 (.reg 16 none [57,58] [
 ⟨some 66,none,.bin .eql false (.t 57) (.k (.v (.string ⟨#[111,114]⟩)))⟩,
 ⟨some 58,none,.mv (.t 66)⟩])
 (.cond (.t 58)
 .skip
 (.seq
 (.reg 17 none [57,58] [
 ⟨some 67,none,.bin .eql false (.t 57) (.k (.v (.string ⟨#[116,111]⟩)))⟩,
 ⟨some 58,none,.mv (.t 67)⟩])
 (.cond (.t 58)
 .skip
 (.seq
 (.reg 18 none [57,58] [
 ⟨some 68,none,.bin .eql false (.t 57) (.k (.v (.string ⟨#[117,110,100,101,114]⟩)))⟩,
 ⟨some 58,none,.mv (.t 68)⟩])
 (.cond (.t 58)
 .skip
 (.reg 19 none [58] [
 ⟨some 69,none,.bin .eql false (.t 57) (.k (.v (.string ⟨#[119,104,101,114,101]⟩)))⟩,
 ⟨some 58,none,.mv (.t 69)⟩])))))))))))))))))))))
 (.cond (.t 58)
 (.seq
 (.reg 20 none [2] [
 ⟨some 2,none,.mv (.k (.v (.bool false)))⟩])
 .ret)
 .skip))))
 (.seq
 (.reg 21 none [2] [
 ⟨some 2,none,.mv (.k (.v (.bool true)))⟩])
 .ret)))))
theorem fn_ref01_Name:FnIR Try.prog F_ref01_Name 70 [(0,[0]),(1,[0,21]),(2,[2]),(3,[0,3]),(4,[0,3,25]),(5,[0,3]),(6,[0,3,56]),(7,[2]),(8,[57]),(9,[57,58]),(10,[57,58]),(11,[57,58]),(12,[57,58]),(13,[57,58]),(14,[57,58]),(15,[57,58]),(16,[57,58]),(17,[57,58]),(18,[57,58]),(19,[58]),(20,[2]),(21,[2])] ir_ref01_Name [(.tmp 2)]:=
 ⟨Try.f57,_,Try.func57,rfl,by kernel_rfl,rfl,by kernel_rfl,by kernel_rfl⟩
def ir_slices_insertionSortOrdered_string:RC:=
 (.seq
 (.reg 0 none [0,1,2,6] [
 ⟨some 8,none,.mv (.t 1)⟩,
 ⟨some 9,none,.bin .add false (.t 8) (.k (.v (.int .i64 1)))⟩,
 ⟨some 6,none,.mv (.t 9)⟩])
 (.block 0
 (.loop
 (.seq
 (.seq
 (.reg 1 none [0,1,2,6,12] [
 ⟨some 10,none,.mv (.t 6)⟩,
 ⟨some 11,none,.mv (.t 2)⟩,
 ⟨some 12,none,.bin .lss false (.t 10) (.t 11)⟩])
 (.cond (.t 12)
 .skip
 (.exit 0)))
 (.seq
 (.block 1
 (.seq
 (.reg 3 none [0,1,2,6,7] [
 ⟨some 15,none,.mv (.t 6)⟩,
 ⟨some 7,none,.mv (.t 15)⟩])
 (.block 2
 (.loop
 (.seq
 (.seq
 (.reg 4 (some [0,0,3,7,15,15,63,127,15,15,527,1807,3855,8191,16383]) [0,1,2,6,7,30] [
 ⟨some 16,none,.mv (.t 7)⟩,
 ⟨some 17,none,.mv (.t 1)⟩,
 ⟨some 18,none,.bin .gtr false (.t 16) (.t 17)⟩,
 ⟨some 19,none,.mv (.t 18)⟩,
 ⟨some 20,some (19,true),.mv (.t 0)⟩,
 ⟨some 21,some (19,true),.mv (.t 7)⟩,
 ⟨some 22,some (19,true),.ixL 1 (.t 20) (.t 21)⟩,
 ⟨some 23,some (19,true),.ld none (.t 22)⟩,
 ⟨some 24,some (19,true),.mv (.t 0)⟩,
 ⟨some 25,some (19,true),.mv (.t 7)⟩,
 ⟨some 26,some (19,true),.bin .sub false (.t 25) (.k (.v (.int .i64 1)))⟩,
 ⟨some 27,some (19,true),.ixL 1 (.t 24) (.t 26)⟩,
 ⟨some 28,some (19,true),.ld none (.t 27)⟩,
 ⟨some 29,some (19,true),.call (.k (.clo F_cmp_Less_string [])) [.t 23,.t 28]⟩,
 ⟨some 30,none,.pick (.t 19) (.t 29) (.k (.v (.bool false)))⟩])
 (.cond (.t 30)
 .skip
 (.exit 2)))
 (.seq
 (.block 3
 (.reg 6 (some [0,0,0,0,8,0,0,64,224,480,0,0,3072,7168,16355,32739,65535,131071]) [0,1,2,6,7] [
 ⟨some 33,none,.mv (.t 0)⟩,
 ⟨some 34,none,.mv (.t 7)⟩,
 ⟨some 35,none,.mv (.t 0)⟩,
 ⟨some 36,none,.mv (.t 7)⟩,
 ⟨some 37,none,.bin .sub false (.t 36) (.k (.v (.int .i64 1)))⟩,
 ⟨some 38,none,.mv (.t 0)⟩,
 ⟨some 39,none,.mv (.t 7)⟩,
 ⟨some 40,none,.bin .sub false (.t 39) (.k (.v (.int .i64 1)))⟩,
 ⟨some 41,none,.ixL 1 (.t 38) (.t 40)⟩,
 ⟨some 42,none,.ld none (.t 41)⟩,
 ⟨some 43,none,.mv (.t 0)⟩,
 ⟨some 44,none,.mv (.t 7)⟩,
 ⟨some 45,none,.ixL 1 (.t 43) (.t 44)⟩,
 ⟨some 46,none,.ld none (.t 45)⟩,
 ⟨some 47,none,.ixL 1 (.t 33) (.t 34)⟩,
 ⟨none,none,.st 1 (.t 47) (.t 42)⟩,
 ⟨some 48,none,.ixL 1 (.t 35) (.t 37)⟩,
 ⟨none,none,.st 1 (.t 48) (.t 46)⟩]))
 (.reg 5 none [0,1,2,6,7] [
 ⟨some 31,none,.mv (.t 7)⟩,
 ⟨some 32,none,.bin .sub false (.t 31) (.k (.v (.int .i64 1)))⟩,
 ⟨some 7,none,.mv (.t 32)⟩])))))))
 (.reg 2 none [0,1,2,6] [
 ⟨some 13,none,.mv (.t 6)⟩,
 ⟨some 14,none,.bin .add false (.t 13) (.k (.v (.int .i64 1)))⟩,
 ⟨some 6,none,.mv (.t 14)⟩]))))))
theorem fn_slices_insertionSortOrdered_string:FnIR Try.prog F_slices_insertionSortOrdered_string 49 [(0,[0,1,2,6]),(1,[0,1,2,6,12]),(2,[0,1,2,6]),(3,[0,1,2,6,7]),(4,[0,1,2,6,7,30]),(5,[0,1,2,6,7]),(6,[0,1,2,6,7])] ir_slices_insertionSortOrdered_string []:=
 ⟨Try.f58,_,Try.func58,rfl,by kernel_rfl,rfl,by kernel_rfl,by kernel_rfl⟩
def ir_slices_heapSortOrdered_string:RC:=
 (.seq
 (.reg 0 none [0,1,2,6] [
 ⟨some 11,none,.mv (.t 1)⟩,
 ⟨some 6,none,.mv (.t 11)⟩])
 (.seq
 (.reg 1 none [0,1,2,6,7] [
 ⟨some 7,none,.mv (.k (.v (.int .i64 0)))⟩])
 (.seq
 (.reg 2 none [0,6,7,8] [
 ⟨some 12,none,.mv (.t 2)⟩,
 ⟨some 13,none,.mv (.t 1)⟩,
 ⟨some 14,none,.bin .sub false (.t 12) (.t 13)⟩,
 ⟨some 8,none,.mv (.t 14)⟩])
 (.seq
 (.seq
 (.reg 3 none [0,6,7,8,9] [
 ⟨some 15,none,.mv (.t 8)⟩,
 ⟨some 16,none,.bin .sub false (.t 15) (.k (.v (.int .i64 1)))⟩,
 ⟨some 17,none,.bin .quo false (.t 16) (.k (.v (.int .i64 2)))⟩,
 ⟨some 9,none,.mv (.t 17)⟩])
 (.block 0
 (.loop
 (.seq
 (.seq
 (.reg 4 none [0,6,7,8,9,19] [
 ⟨some 18,none,.mv (.t 9)⟩,
 ⟨some 19,none,.bin .geq false (.t 18) (.k (.v (.int .i64 0)))⟩])
 (.cond (.t 19)
 .skip
 (.exit 0)))
 (.seq
 (.block 1
 (.reg 6 none [0,6,7,8,9] [
 ⟨some 22,none,.mv (.t 0)⟩,
 ⟨some 23,none,.mv (.t 9)⟩,
 ⟨some 24,none,.mv (.t 8)⟩,
 ⟨some 25,none,.mv (.t 6)⟩,
 ⟨some 26,none,.call (.k (.clo F_slices_siftDownOrdered_string [])) [.t 22,.t 23,.t 24,.t 25]⟩]))
 (.reg 5 none [0,6,7,8,9] [
 ⟨some 20,none,.mv (.t 9)⟩,
 ⟨some 21,none,.bin .sub false (.t 20) (.k (.v (.int .i64 1)))⟩,
 ⟨some 9,none,.mv (.t 21)⟩]))))))
 (.seq
 (.reg 7 none [0,6,7,10] [
 ⟨some 27,none,.mv (.t 8)⟩,
 ⟨some 28,none,.bin .sub false (.t 27) (.k (.v (.int .i64 1)))⟩,
 ⟨some 10,none,.mv (.t 28)⟩])
 (.block 2
 (.loop
 (.seq
 (.seq
 (.reg 8 none [0,6,7,10,30] [
 ⟨some 29,none,.mv (.t 10)⟩,
 ⟨some 30,none,.bin .geq false (.t 29) (.k (.v (.int .i64 0)))⟩])
 (.cond (.t 30)
 .skip
 (.exit 2)))
 (.seq
 (.block 3
 (.seq
 (.reg 10 (some [0,0,0,0,0,24,0,0,0,384,960,1984,0,0,12288,28672,65475,131011,262143,524287]) [0,6,7,10] [
 ⟨some 33,none,.mv (.t 0)⟩,
 ⟨some 34,none,.mv (.t 6)⟩,
 ⟨some 35,none,.mv (.t 0)⟩,
 ⟨some 36,none,.mv (.t 6)⟩,
 ⟨some 37,none,.mv (.t 10)⟩,
 ⟨some 38,none,.bin .add false (.t 36) (.t 37)⟩,
 ⟨some 39,none,.mv (.t 0)⟩,
 ⟨some 40,none,.mv (.t 6)⟩,
 ⟨some 41,none,.mv (.t 10)⟩,
 ⟨some 42,none,.bin .add false (.t 40) (.t 41)⟩,
 ⟨some 43,none,.ixL 1 (.t 39) (.t 42)⟩,
 ⟨some 44,none,.ld none (.t 43)⟩,
 ⟨some 45,none,.mv (.t 0)⟩,
 ⟨some 46,none,.mv (.t 6)⟩,
 ⟨some 47,none,.ixL 1 (.t 45) (.t 46)⟩,
 ⟨some 48,none,.ld none (.t 47)⟩,
 ⟨some 49,none,.ixL 1 (.t 33) (.t 34)⟩,
 ⟨none,none,.st 1 (.t 49) (.t 44)⟩,
 ⟨some 50,none,.ixL 1 (.t 35) (.t 38)⟩,
 ⟨none,none,.st 1 (.t 50) (.t 48)⟩])
 (.reg 11 none [0,6,7,10] [
 ⟨some 51,none,.mv (.t 0)⟩,
 ⟨some 52,none,.mv (.t 7)⟩,
 ⟨some 53,none,.mv (.t 10)⟩,
 ⟨some 54,none,.mv (.t 6)⟩,
 ⟨some 55,none,.call (.k (.clo F_slices_siftDownOrdered_string [])) [.t 51,.t 52,.t 53,.t 54]⟩])))
 (.reg 9 none [0,6,7,10] [
 ⟨some 31,none,.mv (.t 10)⟩,
 ⟨some 32,none,.bin .sub false (.t 31) (.k (.v (.int .i64 1)))⟩,
 ⟨some 10,none,.mv (.t 32)⟩]))))))))))
theorem fn_slices_heapSortOrdered_string:FnIR Try.prog F_slices_heapSortOrdered_string 56 [(0,[0,1,2,6]),(1,[0,1,2,6,7]),(2,[0,6,7,8]),(3,[0,6,7,8,9]),(4,[0,6,7,8,9,19]),(5,[0,6,7,8,9]),(6,[0,6,7,8,9]),(7,[0,6,7,10]),(8,[0,6,7,10,30]),(9,[0,6,7,10]),(10,[0,6,7,10]),(11,[0,6,7,10])] ir_slices_heapSortOrdered_string []:=
 ⟨Try.f59,_,Try.func59,rfl,by kernel_rfl,rfl,by kernel_rfl,by kernel_rfl⟩
def ir_slices_breakPatternsOrdered_string:RC:=
 (.seq
 (.reg 0 none [0,1,6] [
 ⟨some 11,none,.mv (.t 2)⟩,
 ⟨some 12,none,.mv (.t 1)⟩,
 ⟨some 13,none,.bin .sub false (.t 11) (.t 12)⟩,
 ⟨some 6,none,.mv (.t 13)⟩])
 (.seq
 (.reg 1 none [0,1,6,15] [
 ⟨some 14,none,.mv (.t 6)⟩,
 ⟨some 15,none,.bin .geq false (.t 14) (.k (.v (.int .i64 8)))⟩])
 (.cond (.t 15)
 (.seq
 (.reg 2 none [0,1,6,7] [
 ⟨some 16,none,.mv (.t 6)⟩,
 ⟨some 17,none,.cvI .u64 (.t 16)⟩,
 ⟨some 7,none,.new (.v (.int .u64 0))⟩,
 ⟨none,none,.st 1 (.t 7) (.t 17)⟩])
 (.seq
 (.reg 3 none [0,1,6,7,8] [
 ⟨some 18,none,.mv (.t 6)⟩,
 ⟨some 19,none,.call (.k (.clo F_slices_nextPowerOfTwo [])) [.t 18]⟩,
 ⟨some 8,none,.mv (.t 19)⟩])
 (.seq
 (.reg 4 none [0,1,6,7,8,9] [
 ⟨some 20,none,.mv (.t 1)⟩,
 ⟨some 21,none,.mv (.t 6)⟩,
 ⟨some 22,none,.bin .quo false (.t 21) (.k (.v (.int .i64 4)))⟩,
 ⟨some 23,none,.bin .mul false (.t 22) (.k (.v (.int .i64 2)))⟩,
 ⟨some 24,none,.bin .add false (.t 20) (.t 23)⟩,
 ⟨some 25,none,.bin .sub false (.t 24) (.k (.v (.int .i64 1)))⟩,
 ⟨some 9,none,.mv (.t 25)⟩])
 (.block 0
 (.loop
 (.seq
 (.seq
 (.reg 5 none [0,1,6,7,8,9,33] [
 ⟨some 26,none,.mv (.t 9)⟩,
 ⟨some 27,none,.mv (.t 1)⟩,
 ⟨some 28,none,.mv (.t 6)⟩,
 ⟨some 29,none,.bin .quo false (.t 28) (.k (.v (.int .i64 4)))⟩,
 ⟨some 30,none,.bin .mul false (.t 29) (.k (.v (.int .i64 2)))⟩,
 ⟨some 31,none,.bin .add false (.t 27) (.t 30)⟩,
 ⟨some 32,none,.bin .add false (.t 31) (.k (.v (.int .i64 1)))⟩,
 ⟨some 33,none,.bin .leq false (.t 26) (.t 32)⟩])
 (.cond (.t 33)
 .skip
 (.exit 0)))
 (.seq
 (.block 1
 (.seq
 (.reg 7 none [0,1,6,7,8,9,10] [
 ⟨some 36,none,.call (.k (.clo F_slices_xorshift_Next [])) [.t 7]⟩,
 ⟨some 37,none,.mv (.t 8)⟩,
 ⟨some 38,none,.bin .sub false (.t 37) (.k (.v (.int .u64 1)))⟩,
 ⟨some 39,none,.bin .and false (.t 36) (.t 38)⟩,
 ⟨some 40,none,.cvI .i64 (.t 39)⟩,
 ⟨some 10,none,.mv (.t 40)⟩])
 (.seq
 (.seq
 (.reg 8 none [0,1,6,7,8,9,10,43] [
 ⟨some 41,none,.mv (.t 10)⟩,
 ⟨some 42,none,.mv (.t 6)⟩,
 ⟨some 43,none,.bin .geq false (.t 41) (.t 42)⟩])
 (.cond (.t 43)
 (.reg 9 none [0,1,6,7,8,9,10] [
 ⟨some 44,none,.mv (.t 10)⟩,
 ⟨some 45,none,.mv (.t 6)⟩,
 ⟨some 46,none,.bin .sub false (.t 44) (.t 45)⟩,
 ⟨some 10,none,.mv (.t 46)⟩])
 .skip))
 (.reg 10 (some [0,0,0,0,0,24,0,0,0,384,960,1984,0,0,12288,28672,65475,131011,262143,524287]) [0,1,6,7,8,9] [
 ⟨some 47,none,.mv (.t 0)⟩,
 ⟨some 48,none,.mv (.t 9)⟩,
 ⟨some 49,none,.mv (.t 0)⟩,
 ⟨some 50,none,.mv (.t 1)⟩,
 ⟨some 51,none,.mv (.t 10)⟩,
 ⟨some 52,none,.bin .add false (.t 50) (.t 51)⟩,
 ⟨some 53,none,.mv (.t 0)⟩,
 ⟨some 54,none,.mv (.t 1)⟩,
 ⟨some 55,none,.mv (.t 10)⟩,
 ⟨some 56,none,.bin .add false (.t 54) (.t 55)⟩,
 ⟨some 57,none,.ixL 1 (.t 53) (.t 56)⟩,
 ⟨some 58,none,.ld none (.t 57)⟩,
 ⟨some 59,none,.mv (.t 0)⟩,
 ⟨some 60,none,.mv (.t 9)⟩,
 ⟨some 61,none,.ixL 1 (.t 59) (.t 60)⟩,
 ⟨some 62,none,.ld none (.t 61)⟩,
 ⟨some 63,none,.ixL 1 (.t 47) (.t 48)⟩,
 ⟨none,none,.st 1 (.t 63) (.t 58)⟩,
 ⟨some 64,none,.ixL 1 (.t 49) (.t 52)⟩,
 ⟨none,none,.st 1 (.t 64) (.t 62)⟩]))))
 (.reg 6 none [0,1,6,7,8,9] [
 ⟨some 34,none,.mv (.t 9)⟩,
 ⟨some 35,none,.bin .add false (.t 34) (.k (.v (.int .i64 1)))⟩,
 ⟨some 9,none,.mv (.t 35)⟩]))))))))
 .skip)))
theorem fn_slices_breakPatternsOrdered_string:FnIR Try.prog F_slices_breakPatternsOrdered_string 65 [(0,[0,1,6]),(1,[0,1,6,15]),(2,[0,1,6,7]),(3,[0,1,6,7,8]),(4,[0,1,6,7,8,9]),(5,[0,1,6,7,8,9,33]),(6,[0,1,6,7,8,9]),(7,[0,1,6,7,8,9,10]),(8,[0,1,6,7,8,9,10,43]),(9,[0,1,6,7,8,9,10]),(10,[0,1,6,7,8,9])] ir_slices_breakPatternsOrdered_string []:=
 ⟨Try.f60,_,Try.func60,rfl,by kernel_rfl,rfl,by kernel_rfl,by kernel_rfl⟩
def ir_slices_choosePivotOrdered_string:RC:=
 (.seq
 (.reg 0 none [0,1,2] [
 ⟨some 6,none,.mv (.k (.v (.int .i64 0)))⟩,
 ⟨some 7,none,.mv (.k (.v (.int .i64 0)))⟩])
 (.seq
 (.reg 1 none [0,1,8] [
 ⟨some 13,none,.mv (.t 2)⟩,
 ⟨some 14,none,.mv (.t 1)⟩,
 ⟨some 15,none,.bin .sub false (.t 13) (.t 14)⟩,
 ⟨some 8,none,.mv (.t 15)⟩])
 (.seq
 (.reg 2 none [0,1,8,9] [
 ⟨some 9,none,.new (.v (.int .i64 0))⟩])
 (.seq
 (.reg 3 none [0,1,8,9,10] [
 ⟨some 16,none,.mv (.t 1)⟩,
 ⟨some 17,none,.mv (.t 8)⟩,
 ⟨some 18,none,.bin .quo false (.t 17) (.k (.v (.int .i64 4)))⟩,
 ⟨some 19,none,.bin .mul false (.t 18) (.k (.v (.int .i64 1)))⟩,
 ⟨some 20,none,.bin .add false (.t 16) (.t 19)⟩,
 ⟨some 10,none,.mv (.t 20)⟩])
 (.seq
 (.reg 4 none [0,1,8,9,10,11] [
 ⟨some 21,none,.mv (.t 1)⟩,
 ⟨some 22,none,.mv (.t 8)⟩,
 ⟨some 23,none,.bin .quo false (.t 22) (.k (.v (.int .i64 4)))⟩,
 ⟨some 24,none,.bin .mul false (.t 23) (.k (.v (.int .i64 2)))⟩,
 ⟨some 25,none,.bin .add false (.t 21) (.t 24)⟩,
 ⟨some 11,none,.mv (.t 25)⟩])
 (.seq
 (.reg 5 none [0,8,9,10,11,12] [
 ⟨some 26,none,.mv (.t 1)⟩,
 ⟨some 27,none,.mv (.t 8)⟩,
 ⟨some 28,none,.bin .quo false (.t 27) (.k (.v (.int .i64 4)))⟩,
 ⟨some 29,none,.bin .mul false (.t 28) (.k (.v (.int .i64 3)))⟩,
 ⟨some 30,none,.bin .add false (.t 26) (.t 29)⟩,
 ⟨some 12,none,.mv (.t 30)⟩])
 (.seq
 (.seq
 (.reg 6 none [0,8,9,10,11,12,32] [
 ⟨some 31,none,.mv (.t 8)⟩,
 ⟨some 32,none,.bin .geq false (.t 31) (.k (.v (.int .i64 8)))⟩])
 (.cond (.t 32)
 (.seq
 (.seq
 (.reg 7 none [0,9,10,11,12,34] [
 ⟨some 33,none,.mv (.t 8)⟩,
 ⟨some 34,none,.bin .geq false (.t 33) (.k (.v (.int .i64 50)))⟩])
 (.cond (.t 34)
 (.seq
 (.reg 8 none [0,9,10,11,12] [
 ⟨some 35,none,.mv (.t 0)⟩,
 ⟨some 36,none,.mv (.t 10)⟩,
 ⟨some 37,none,.call (.k (.clo F_slices_medianAdjacentOrdered_string [])) [.t 35,.t 36,.t 9]⟩,
 ⟨some 10,none,.mv (.t 37)⟩])
 (.seq
 (.reg 9 none [0,9,10,11,12] [
 ⟨some 38,none,.mv (.t 0)⟩,
 ⟨some 39,none,.mv (.t 11)⟩,
 ⟨some 40,none,.call (.k (.clo F_slices_medianAdjacentOrdered_string [])) [.t 38,.t 39,.t 9]⟩,
 ⟨some 11,none,.mv (.t 40)⟩])
 (.reg 10 none [0,9,10,11,12] [
 ⟨some 41,none,.mv (.t 0)⟩,
 ⟨some 42,none,.mv (.t 12)⟩,
 ⟨some 43,none,.call (.k (.clo F_slices_medianAdjacentOrdered_string [])) [.t 41,.t 42,.t 9]⟩,
 ⟨some 12,none,.mv (.t 43)⟩])))
 .skip))
 (.reg 11 none [9,11] [
 ⟨some 44,none,.mv (.t 0)⟩,
 ⟨some 45,none,.mv (.t 10)⟩,
 ⟨some 46,none,.mv (.t 11)⟩,
 ⟨some 47,none,.mv (.t 12)⟩,
 ⟨some 48,none,.call (.k (.clo F_slices_medianOrdered_string [])) [.t 44,.t 45,.t 46,.t 47,.t 9]⟩,
 ⟨some 11,none,.mv (.t 48)⟩]))
 .skip))
 (.seq
 (.reg 12 none [11,49] [
 ⟨some 49,none,.ld none (.t 9)⟩])
 (.block 0
 (.seq
 (.reg 14 none [11,49,51] [
 ⟨some 52,none,.bin .eql false (.t 49) (.k (.v (.int .i64 0)))⟩,
 ⟨some 51,none,.mv (.t 52)⟩])
 (.cond (.t 51)
 (.seq
 (.reg 15 none [6,7] [
 ⟨some 53,none,.mv (.t 11)⟩,
 ⟨some 6,none,.mv (.t 53)⟩,
 ⟨some 7,none,.mv (.k (.v (.int .i64 1)))⟩])
 .ret)
 (.seq
 (.reg 16 none [11,54] [
 ⟨some 55,none,.bin .eql false (.t 49) (.k (.v (.int .i64 12)))⟩,
 ⟨some 54,none,.mv (.t 55)⟩])
 (.cond (.t 54)
 (.seq
 (.reg 17 none [6,7] [
 ⟨some 56,none,.mv (.t 11)⟩,
 ⟨some 6,none,.mv (.t 56)⟩,
 ⟨some 7,none,.mv (.k (.v (.int .i64 2)))⟩])
 .ret)
 (.seq
 (.reg 13 none [6,7] [
 ⟨some 50,none,.mv (.t 11)⟩,
 ⟨some 6,none,.mv (.t 50)⟩,
 ⟨some 7,none,.mv (.k (.v (.int .i64 0)))⟩])
 .ret))))))))))))))
theorem fn_slices_choosePivotOrdered_string:FnIR Try.prog F_slices_choosePivotOrdered_string 57 [(0,[0,1,2]),(1,[0,1,8]),(2,[0,1,8,9]),(3,[0,1,8,9,10]),(4,[0,1,8,9,10,11]),(5,[0,8,9,10,11,12]),(6,[0,8,9,10,11,12,32]),(7,[0,9,10,11,12,34]),(8,[0,9,10,11,12]),(9,[0,9,10,11,12]),(10,[0,9,10,11,12]),(11,[9,11]),(12,[11,49]),(13,[6,7]),(14,[11,49,51]),(15,[6,7]),(16,[11,54]),(17,[6,7])] ir_slices_choosePivotOrdered_string [(.tmp 6),(.tmp 7)]:=
 ⟨Try.f61,_,Try.func61,rfl,by kernel_rfl,rfl,by kernel_rfl,by kernel_rfl⟩
def ir_slices_reverseRangeOrdered_string:RC:=
 (.seq
 (.reg 0 none [0,2,6] [
 ⟨some 8,none,.mv (.t 1)⟩,
 ⟨some 6,none,.mv (.t 8)⟩])
 (.seq
 (.reg 1 none [0,6,7] [
 ⟨some 9,none,.mv (.t 2)⟩,
 ⟨some 10,none,.bin .sub false (.t 9) (.k (.v (.int .i64 1)))⟩,
 ⟨some 7,none,.mv (.t 10)⟩])
 (.block 0
 (.loop
 (.seq
 (.seq
 (.reg 2 none [0,6,7,13] [
 ⟨some 11,none,.mv (.t 6)⟩,
 ⟨some 12,none,.mv (.t 7)⟩,
 ⟨some 13,none,.bin .lss false (.t 11) (.t 12)⟩])
 (.cond (.t 13)
 .skip
 (.exit 0)))
 (.block 1
 (.seq
 (.reg 3 (some [0,0,0,0,0,0,48,112,0,0,768,1792,4083,8179,16383,32767]) [0,6,7] [
 ⟨some 14,none,.mv (.t 0)⟩,
 ⟨some 15,none,.mv (.t 6)⟩,
 ⟨some 16,none,.mv (.t 0)⟩,
 ⟨some 17,none,.mv (.t 7)⟩,
 ⟨some 18,none,.mv (.t 0)⟩,
 ⟨some 19,none,.mv (.t 7)⟩,
 ⟨some 20,none,.ixL 1 (.t 18) (.t 19)⟩,
 ⟨some 21,none,.ld none (.t 20)⟩,
 ⟨some 22,none,.mv (.t 0)⟩,
 ⟨some 23,none,.mv (.t 6)⟩,
 ⟨some 24,none,.ixL 1 (.t 22) (.t 23)⟩,
 ⟨some 25,none,.ld none (.t 24)⟩,
 ⟨some 26,none,.ixL 1 (.t 14) (.t 15)⟩,
 ⟨none,none,.st 1 (.t 26) (.t 21)⟩,
 ⟨some 27,none,.ixL 1 (.t 16) (.t 17)⟩,
 ⟨none,none,.st 1 (.t 27) (.t 25)⟩])
 (.seq
 (.reg 4 none [0,6,7] [
 ⟨some 28,none,.mv (.t 6)⟩,
 ⟨some 29,none,.bin .add false (.t 28) (.k (.v (.int .i64 1)))⟩,
 ⟨some 6,none,.mv (.t 29)⟩])
 (.reg 5 none [0,6,7] [
 ⟨some 30,none,.mv (.t 7)⟩,
 ⟨some 31,none,.bin .sub false (.t 30) (.k (.v (.int .i64 1)))⟩,
 ⟨some 7,none,.mv (.t 31)⟩])))))))))
theorem fn_slices_reverseRangeOrdered_string:FnIR Try.prog F_slices_reverseRangeOrdered_string 32 [(0,[0,2,6]),(1,[0,6,7]),(2,[0,6,7,13]),(3,[0,6,7]),(4,[0,6,7]),(5,[0,6,7])] ir_slices_reverseRangeOrdered_string []:=
 ⟨Try.f62,_,Try.func62,rfl,by kernel_rfl,rfl,by kernel_rfl,by kernel_rfl⟩
def ir_slices_partialInsertionSortOrdered_string:RC:=
 (.seq
 (.reg 0 none [0,1,2] [
 ⟨some 6,none,.mv (.k (.v (.bool false)))⟩])
 (.seq
 (.reg 1 none [0,1,2,7] [
 ⟨some 11,none,.mv (.t 1)⟩,
 ⟨some 12,none,.bin .add false (.t 11) (.k (.v (.int .i64 1)))⟩,
 ⟨some 7,none,.mv (.t 12)⟩])
 (.seq
 (.seq
 (.reg 2 none [0,1,2,7,8] [
 ⟨some 8,none,.mv (.k (.v (.int .i64 0)))⟩])
 (.block 0
 (.loop
 (.seq
 (.seq
 (.reg 3 none [0,1,2,7,8,14] [
 ⟨some 13,none,.mv (.t 8)⟩,
 ⟨some 14,none,.bin .lss false (.t 13) (.k (.v (.int .i64 5)))⟩])
 (.cond (.t 14)
 .skip
 (.exit 0)))
 (.seq
 (.block 1
 (.seq
 (.block 2
 (.loop
 (.seq
 (.seq
 (.reg 5 (some [0,0,3,7,15,15,63,127,15,15,527,1807,3855,8191,16383,32767]) [0,1,2,7,8,32] [
 ⟨some 17,none,.mv (.t 7)⟩,
 ⟨some 18,none,.mv (.t 2)⟩,
 ⟨some 19,none,.bin .lss false (.t 17) (.t 18)⟩,
 ⟨some 20,none,.mv (.t 19)⟩,
 ⟨some 21,some (20,true),.mv (.t 0)⟩,
 ⟨some 22,some (20,true),.mv (.t 7)⟩,
 ⟨some 23,some (20,true),.ixL 1 (.t 21) (.t 22)⟩,
 ⟨some 24,some (20,true),.ld none (.t 23)⟩,
 ⟨some 25,some (20,true),.mv (.t 0)⟩,
 ⟨some 26,some (20,true),.mv (.t 7)⟩,
 ⟨some 27,some (20,true),.bin .sub false (.t 26) (.k (.v (.int .i64 1)))⟩,
 ⟨some 28,some (20,true),.ixL 1 (.t 25) (.t 27)⟩,
 ⟨some 29,some (20,true),.ld none (.t 28)⟩,
 ⟨some 30,some (20,true),.call (.k (.clo F_cmp_Less_string [])) [.t 24,.t 29]⟩,
 ⟨some 31,some (20,true),.un .not (.t 30)⟩,
 ⟨some 32,none,.pick (.t 20) (.t 31) (.k (.v (.bool false)))⟩])
 (.cond (.t 32)
 .skip
 (.exit 2)))
 (.block 3
 (.reg 6 none [0,1,2,7,8] [
 ⟨some 33,none,.mv (.t 7)⟩,
 ⟨some 34,none,.bin .add false (.t 33) (.k (.v (.int .i64 1)))⟩,
 ⟨some 7,none,.mv (.t 34)⟩])))))
 (.seq
 (.seq
 (.reg 7 none [0,1,2,7,8,37] [
 ⟨some 35,none,.mv (.t 7)⟩,
 ⟨some 36,none,.mv (.t 2)⟩,
 ⟨some 37,none,.bin .eql false (.t 35) (.t 36)⟩])
 (.cond (.t 37)
 (.seq
 (.reg 8 none [6] [
 ⟨some 6,none,.mv (.k (.v (.bool true)))⟩])
 .ret)
 .skip))
 (.seq
 (.seq
 (.reg 9 none [0,1,2,7,8,41] [
 ⟨some 38,none,.mv (.t 2)⟩,
 ⟨some 39,none,.mv (.t 1)⟩,
 ⟨some 40,none,.bin .sub false (.t 38) (.t 39)⟩,
 ⟨some 41,none,.bin .lss false (.t 40) (.k (.v (.int .i64 50)))⟩])
 (.cond (.t 41)
 (.seq
 (.reg 10 none [6] [
 ⟨some 6,none,.mv (.k (.v (.bool false)))⟩])
 .ret)
 .skip))
 (.seq
 (.reg 11 (some [0,0,0,0,8,0,0,64,224,480,0,0,3072,7168,16355,32739,65535,131071]) [0,1,2,7,8] [
 ⟨some 42,none,.mv (.t 0)⟩,
 ⟨some 43,none,.mv (.t 7)⟩,
 ⟨some 44,none,.mv (.t 0)⟩,
 ⟨some 45,none,.mv (.t 7)⟩,
 ⟨some 46,none,.bin .sub false (.t 45) (.k (.v (.int .i64 1)))⟩,
 ⟨some 47,none,.mv (.t 0)⟩,
 ⟨some 48,none,.mv (.t 7)⟩,
 ⟨some 49,none,.bin .sub false (.t 48) (.k (.v (.int .i64 1)))⟩,
 ⟨some 50,none,.ixL 1 (.t 47) (.t 49)⟩,
 ⟨some 51,none,.ld none (.t 50)⟩,
 ⟨some 52,none,.mv (.t 0)⟩,
 ⟨some 53,none,.mv (.t 7)⟩,
 ⟨some 54,none,.ixL 1 (.t 52) (.t 53)⟩,
 ⟨some 55,none,.ld none (.t 54)⟩,
 ⟨some 56,none,.ixL 1 (.t 42) (.t 43)⟩,
 ⟨none,none,.st 1 (.t 56) (.t 51)⟩,
 ⟨some 57,none,.ixL 1 (.t 44) (.t 46)⟩,
 ⟨none,none,.st 1 (.t 57) (.t 55)⟩])
 (.seq
 (.seq
 (.reg 12 none [0,1,2,7,8,61] [
 ⟨some 58,none,.mv (.t 7)⟩,
 ⟨some 59,none,.mv (.t 1)⟩,
 ⟨some 60,none,.bin .sub false (.t 58) (.t 59)⟩,
 ⟨some 61,none,.bin .geq false (.t 60) (.k (.v (.int .i64 2)))⟩])
 (.cond (.t 61)
 (.seq
 (.reg 13 none [0,1,2,7,8,9] [
 ⟨some 62,none,.mv (.t 7)⟩,
 ⟨some 63,none,.bin .sub false (.t 62) (.k (.v (.int .i64 1)))⟩,
 ⟨some 9,none,.mv (.t 63)⟩])
 (.block 4
 (.loop
 (.seq
 (.seq
 (.reg 14 none [0,1,2,7,8,9,65] [
 ⟨some 64,none,.mv (.t 9)⟩,
 ⟨some 65,none,.bin .geq false (.t 64) (.k (.v (.int .i64 1)))⟩])
 (.cond (.t 65)
 .skip
 (.exit 4)))
 (.seq
 (.block 5
 (.seq
 (.seq
 (.reg 16 (some [0,0,3,7,0,0,32,112,240,511,1023]) [0,1,2,7,8,9,78] [
 ⟨some 68,none,.mv (.t 0)⟩,
 ⟨some 69,none,.mv (.t 9)⟩,
 ⟨some 70,none,.ixL 1 (.t 68) (.t 69)⟩,
 ⟨some 71,none,.ld none (.t 70)⟩,
 ⟨some 72,none,.mv (.t 0)⟩,
 ⟨some 73,none,.mv (.t 9)⟩,
 ⟨some 74,none,.bin .sub false (.t 73) (.k (.v (.int .i64 1)))⟩,
 ⟨some 75,none,.ixL 1 (.t 72) (.t 74)⟩,
 ⟨some 76,none,.ld none (.t 75)⟩,
 ⟨some 77,none,.call (.k (.clo F_cmp_Less_string [])) [.t 71,.t 76]⟩,
 ⟨some 78,none,.un .not (.t 77)⟩])
 (.cond (.t 78)
 (.exit 4)
 .skip))
 (.reg 17 (some [0,0,0,0,8,0,0,64,224,480,0,0,3072,7168,16355,32739,65535,131071]) [0,1,2,7,8,9] [
 ⟨some 79,none,.mv (.t 0)⟩,
 ⟨some 80,none,.mv (.t 9)⟩,
 ⟨some 81,none,.mv (.t 0)⟩,
 ⟨some 82,none,.mv (.t 9)⟩,
 ⟨some 83,none,.bin .sub false (.t 82) (.k (.v (.int .i64 1)))⟩,
 ⟨some 84,none,.mv (.t 0)⟩,
 ⟨some 85,none,.mv (.t 9)⟩,
 ⟨some 86,none,.bin .sub false (.t 85) (.k (.v (.int .i64 1)))⟩,
 ⟨some 87,none,.ixL 1 (.t 84) (.t 86)⟩,
 ⟨some 88,none,.ld none (.t 87)⟩,
 ⟨some 89,none,.mv (.t 0)⟩,
 ⟨some 90,none,.mv (.t 9)⟩,
 ⟨some 91,none,.ixL 1 (.t 89) (.t 90)⟩,
 ⟨some 92,none,.ld none (.t 91)⟩,
 ⟨some 93,none,.ixL 1 (.t 79) (.t 80)⟩,
 ⟨none,none,.st 1 (.t 93) (.t 88)⟩,
 ⟨some 94,none,.ixL 1 (.t 81) (.t 83)⟩,
 ⟨none,none,.st 1 (.t 94) (.t 92)⟩])))
 (.reg 15 none [0,1,2,7,8,9] [
 ⟨some 66,none,.mv (.t 9)⟩,
 ⟨some 67,none,.bin .sub false (.t 66) (.k (.v (.int .i64 1)))⟩,
 ⟨some 9,none,.mv (.t 67)⟩]))))))
 .skip))
 (.seq
 (.reg 18 none [0,1,2,7,8,98] [
 ⟨some 95,none,.mv (.t 2)⟩,
 ⟨some 96,none,.mv (.t 7)⟩,
 ⟨some 97,none,.bin .sub false (.t 95) (.t 96)⟩,
 ⟨some 98,none,.bin .geq false (.t 97) (.k (.v (.int .i64 2)))⟩])
 (.cond (.t 98)
 (.seq
 (.reg 19 none [0,1,2,7,8,10] [
 ⟨some 99,none,.mv (.t 7)⟩,
 ⟨some 100,none,.bin .add false (.t 99) (.k (.v (.int .i64 1)))⟩,
 ⟨some 10,none,.mv (.t 100)⟩])
 (.block 6
 (.loop
 (.seq
 (.seq
 (.reg 20 none [0,1,2,7,8,10,103] [
 ⟨some 101,none,.mv (.t 10)⟩,
 ⟨some 102,none,.mv (.t 2)⟩,
 ⟨some 103,none,.bin .lss false (.t 101) (.t 102)⟩])
 (.cond (.t 103)
 .skip
 (.exit 6)))
 (.seq
 (.block 7
 (.seq
 (.seq
 (.reg 22 (some [0,0,3,7,0,0,32,112,240,511,1023]) [0,1,2,7,8,10,116] [
 ⟨some 106,none,.mv (.t 0)⟩,
 ⟨some 107,none,.mv (.t 10)⟩,
 ⟨some 108,none,.ixL 1 (.t 106) (.t 107)⟩,
 ⟨some 109,none,.ld none (.t 108)⟩,
 ⟨some 110,none,.mv (.t 0)⟩,
 ⟨some 111,none,.mv (.t 10)⟩,
 ⟨some 112,none,.bin .sub false (.t 111) (.k (.v (.int .i64 1)))⟩,
 ⟨some 113,none,.ixL 1 (.t 110) (.t 112)⟩,
 ⟨some 114,none,.ld none (.t 113)⟩,
 ⟨some 115,none,.call (.k (.clo F_cmp_Less_string [])) [.t 109,.t 114]⟩,
 ⟨some 116,none,.un .not (.t 115)⟩])
 (.cond (.t 116)
 (.exit 6)
 .skip))
 (.reg 23 (some [0,0,0,0,8,0,0,64,224,480,0,0,3072,7168,16355,32739,65535,131071]) [0,1,2,7,8,10] [
 ⟨some 117,none,.mv (.t 0)⟩,
 ⟨some 118,none,.mv (.t 10)⟩,
 ⟨some 119,none,.mv (.t 0)⟩,
 ⟨some 120,none,.mv (.t 10)⟩,
 ⟨some 121,none,.bin .sub false (.t 120) (.k (.v (.int .i64 1)))⟩,
 ⟨some 122,none,.mv (.t 0)⟩,
 ⟨some 123,none,.mv (.t 10)⟩,
 ⟨some 124,none,.bin .sub false (.t 123) (.k (.v (.int .i64 1)))⟩,
 ⟨some 125,none,.ixL 1 (.t 122) (.t 124)⟩,
 ⟨some 126,none,.ld none (.t 125)⟩,
 ⟨some 127,none,.mv (.t 0)⟩,
 ⟨some 128,none,.mv (.t 10)⟩,
 ⟨some 129,none,.ixL 1 (.t 127) (.t 128)⟩,
 ⟨some 130,none,.ld none (.t 129)⟩,
 ⟨some 131,none,.ixL 1 (.t 117) (.t 118)⟩,
 ⟨none,none,.st 1 (.t 131) (.t 126)⟩,
 ⟨some 132,none,.ixL 1 (.t 119) (.t 121)⟩,
 ⟨none,none,.st 1 (.t 132) (.t 130)⟩])))
 (.reg 21 none [0,1,2,7,8,10] [
 ⟨some 104,none,.mv (.t 10)⟩,
 ⟨some 105,none,.bin .add false (.t 104) (.k (.v (.int .i64 1)))⟩,
 ⟨some 10,none,.mv (.t 105)⟩]))))))
 .skip))))))))
 (.reg 4 none [0,1,2,7,8] [
 ⟨some 15,none,.mv (.t 8)⟩,
 ⟨some 16,none,.bin .add false (.t 15) (.k (.v (.int .i64 1)))⟩,
 ⟨some 8,none,.mv (.t 16)⟩]))))))
 (.seq
 (.reg 24 none [6] [
 ⟨some 6,none,.mv (.k (.v (.bool false)))⟩])
 .ret))))
theorem fn_slices_partialInsertionSortOrdered_string:FnIR Try.prog F_slices_partialInsertionSortOrdered_string 133 [(0,[0,1,2]),(1,[0,1,2,7]),(2,[0,1,2,7,8]),(3,[0,1,2,7,8,14]),(4,[0,1,2,7,8]),(5,[0,1,2,7,8,32]),(6,[0,1,2,7,8]),(7,[0,1,2,7,8,37]),(8,[6]),(9,[0,1,2,7,8,41]),(10,[6]),(11,[0,1,2,7,8]),(12,[0,1,2,7,8,61]),(13,[0,1,2,7,8,9]),(14,[0,1,2,7,8,9,65]),(15,[0,1,2,7,8,9]),(16,[0,1,2,7,8,9,78]),(17,[0,1,2,7,8,9]),(18,[0,1,2,7,8,98]),(19,[0,1,2,7,8,10]),(20,[0,1,2,7,8,10,103]),(21,[0,1,2,7,8,10]),(22,[0,1,2,7,8,10,116]),(23,[0,1,2,7,8,10]),(24,[6])] ir_slices_partialInsertionSortOrdered_string [(.tmp 6)]:=
 ⟨Try.f63,_,Try.func63,rfl,by kernel_rfl,rfl,by kernel_rfl,by kernel_rfl⟩
def ir_cmp_Less_string:RC:=
 (.seq
 (.reg 0 none [0,1] [
 ⟨some 4,none,.mv (.k (.v (.bool false)))⟩])
 (.seq
 (.reg 1 none [4] [
 ⟨some 5,none,.mv (.t 0)⟩,
 ⟨some 6,none,.call (.k (.clo F_cmp_isNaN_string [])) [.t 5]⟩,
 ⟨some 7,none,.mv (.t 6)⟩,
 ⟨some 8,some (7,true),.mv (.t 1)⟩,
 ⟨some 9,some (7,true),.call (.k (.clo F_cmp_isNaN_string [])) [.t 8]⟩,
 ⟨some 10,some (7,true),.un .not (.t 9)⟩,
 ⟨some 11,none,.pick (.t 7) (.t 10) (.k (.v (.bool false)))⟩,
 ⟨some 12,none,.mv (.t 11)⟩,
 ⟨some 13,some (12,false),.mv (.t 0)⟩,
 ⟨some 14,some (12,false),.mv (.t 1)⟩,
 ⟨some 15,some (12,false),.bin .lss false (.t 13) (.t 14)⟩,
 ⟨some 16,none,.pick (.t 12) (.k (.v (.bool true))) (.t 15)⟩,
 ⟨some 4,none,.mv (.t 16)⟩])
 .ret))
theorem fn_cmp_Less_string:FnIR Try.prog F_cmp_Less_string 17 [(0,[0,1]),(1,[4])] ir_cmp_Less_string [(.tmp 4)]:=
 ⟨Try.f64,_,Try.func64,rfl,by kernel_rfl,rfl,by kernel_rfl,by kernel_rfl⟩
def ir_slices_partitionEqualOrdered_string:RC:=
 (.seq
 (.reg 0 none [0,1,2,3] [
 ⟨some 8,none,.mv (.k (.v (.int .i64 0)))⟩])
 (.seq
 (.reg 1 (some [0,0,0,0,0,0,48,112,0,0,768,1792,4083,8179,16383,32767]) [0,1,2] [
 ⟨some 11,none,.mv (.t 0)⟩,
 ⟨some 12,none,.mv (.t 1)⟩,
 ⟨some 13,none,.mv (.t 0)⟩,
 ⟨some 14,none,.mv (.t 3)⟩,
 ⟨some 15,none,.mv (.t 0)⟩,
 ⟨some 16,none,.mv (.t 3)⟩,
 ⟨some 17,none,.ixL 1 (.t 15) (.t 16)⟩,
 ⟨some 18,none,.ld none (.t 17)⟩,
 ⟨some 19,none,.mv (.t 0)⟩,
 ⟨some 20,none,.mv (.t 1)⟩,
 ⟨some 21,none,.ixL 1 (.t 19) (.t 20)⟩,
 ⟨some 22,none,.ld none (.t 21)⟩,
 ⟨some 23,none,.ixL 1 (.t 11) (.t 12)⟩,
 ⟨none,none,.st 1 (.t 23) (.t 18)⟩,
 ⟨some 24,none,.ixL 1 (.t 13) (.t 14)⟩,
 ⟨none,none,.st 1 (.t 24) (.t 22)⟩])
 (.seq
 (.reg 2 none [0,1,9,10] [
 ⟨some 25,none,.mv (.t 1)⟩,
 ⟨some 26,none,.bin .add false (.t 25) (.k (.v (.int .i64 1)))⟩,
 ⟨some 27,none,.mv (.t 2)⟩,
 ⟨some 28,none,.bin .sub false (.t 27) (.k (.v (.int .i64 1)))⟩,
 ⟨some 9,none,.mv (.t 26)⟩,
 ⟨some 10,none,.mv (.t 28)⟩])
 (.seq
 (.block 0
 (.loop
 (.block 1
 (.seq
 (.block 2
 (.loop
 (.seq
 (.seq
 (.reg 3 (some [0,0,3,7,15,15,63,127,15,15,783,1807,4095,8191,16383]) [0,1,9,10,43] [
 ⟨some 29,none,.mv (.t 9)⟩,
 ⟨some 30,none,.mv (.t 10)⟩,
 ⟨some 31,none,.bin .leq false (.t 29) (.t 30)⟩,
 ⟨some 32,none,.mv (.t 31)⟩,
 ⟨some 33,some (32,true),.mv (.t 0)⟩,
 ⟨some 34,some (32,true),.mv (.t 1)⟩,
 ⟨some 35,some (32,true),.ixL 1 (.t 33) (.t 34)⟩,
 ⟨some 36,some (32,true),.ld none (.t 35)⟩,
 ⟨some 37,some (32,true),.mv (.t 0)⟩,
 ⟨some 38,some (32,true),.mv (.t 9)⟩,
 ⟨some 39,some (32,true),.ixL 1 (.t 37) (.t 38)⟩,
 ⟨some 40,some (32,true),.ld none (.t 39)⟩,
 ⟨some 41,some (32,true),.call (.k (.clo F_cmp_Less_string [])) [.t 36,.t 40]⟩,
 ⟨some 42,some (32,true),.un .not (.t 41)⟩,
 ⟨some 43,none,.pick (.t 32) (.t 42) (.k (.v (.bool false)))⟩])
 (.cond (.t 43)
 .skip
 (.exit 2)))
 (.block 3
 (.reg 4 none [0,1,9,10] [
 ⟨some 44,none,.mv (.t 9)⟩,
 ⟨some 45,none,.bin .add false (.t 44) (.k (.v (.int .i64 1)))⟩,
 ⟨some 9,none,.mv (.t 45)⟩])))))
 (.seq
 (.block 4
 (.loop
 (.seq
 (.seq
 (.reg 5 (some [0,0,3,7,15,15,63,127,15,15,783,1807,4095,8191]) [0,1,9,10,59] [
 ⟨some 46,none,.mv (.t 9)⟩,
 ⟨some 47,none,.mv (.t 10)⟩,
 ⟨some 48,none,.bin .leq false (.t 46) (.t 47)⟩,
 ⟨some 49,none,.mv (.t 48)⟩,
 ⟨some 50,some (49,true),.mv (.t 0)⟩,
 ⟨some 51,some (49,true),.mv (.t 1)⟩,
 ⟨some 52,some (49,true),.ixL 1 (.t 50) (.t 51)⟩,
 ⟨some 53,some (49,true),.ld none (.t 52)⟩,
 ⟨some 54,some (49,true),.mv (.t 0)⟩,
 ⟨some 55,some (49,true),.mv (.t 10)⟩,
 ⟨some 56,some (49,true),.ixL 1 (.t 54) (.t 55)⟩,
 ⟨some 57,some (49,true),.ld none (.t 56)⟩,
 ⟨some 58,some (49,true),.call (.k (.clo F_cmp_Less_string [])) [.t 53,.t 57]⟩,
 ⟨some 59,none,.pick (.t 49) (.t 58) (.k (.v (.bool false)))⟩])
 (.cond (.t 59)
 .skip
 (.exit 4)))
 (.block 5
 (.reg 6 none [0,1,9,10] [
 ⟨some 60,none,.mv (.t 10)⟩,
 ⟨some 61,none,.bin .sub false (.t 60) (.k (.v (.int .i64 1)))⟩,
 ⟨some 10,none,.mv (.t 61)⟩])))))
 (.seq
 (.seq
 (.reg 7 none [0,1,9,10,64] [
 ⟨some 62,none,.mv (.t 9)⟩,
 ⟨some 63,none,.mv (.t 10)⟩,
 ⟨some 64,none,.bin .gtr false (.t 62) (.t 63)⟩])
 (.cond (.t 64)
 (.exit 0)
 .skip))
 (.seq
 (.reg 8 (some [0,0,0,0,0,0,48,112,0,0,768,1792,4083,8179,16383,32767]) [0,1,9,10] [
 ⟨some 65,none,.mv (.t 0)⟩,
 ⟨some 66,none,.mv (.t 9)⟩,
 ⟨some 67,none,.mv (.t 0)⟩,
 ⟨some 68,none,.mv (.t 10)⟩,
 ⟨some 69,none,.mv (.t 0)⟩,
 ⟨some 70,none,.mv (.t 10)⟩,
 ⟨some 71,none,.ixL 1 (.t 69) (.t 70)⟩,
 ⟨some 72,none,.ld none (.t 71)⟩,
 ⟨some 73,none,.mv (.t 0)⟩,
 ⟨some 74,none,.mv (.t 9)⟩,
 ⟨some 75,none,.ixL 1 (.t 73) (.t 74)⟩,
 ⟨some 76,none,.ld none (.t 75)⟩,
 ⟨some 77,none,.ixL 1 (.t 65) (.t 66)⟩,
 ⟨none,none,.st 1 (.t 77) (.t 72)⟩,
 ⟨some 78,none,.ixL 1 (.t 67) (.t 68)⟩,
 ⟨none,none,.st 1 (.t 78) (.t 76)⟩])
 (.seq
 (.reg 9 none [0,1,9,10] [
 ⟨some 79,none,.mv (.t 9)⟩,
 ⟨some 80,none,.bin .add false (.t 79) (.k (.v (.int .i64 1)))⟩,
 ⟨some 9,none,.mv (.t 80)⟩])
 (.reg 10 none [0,1,9,10] [
 ⟨some 81,none,.mv (.t 10)⟩,
 ⟨some 82,none,.bin .sub false (.t 81) (.k (.v (.int .i64 1)))⟩,
 ⟨some 10,none,.mv (.t 82)⟩])))))))))
 (.seq
 (.reg 11 none [8] [
 ⟨some 83,none,.mv (.t 9)⟩,
 ⟨some 8,none,.mv (.t 83)⟩])
 .ret)))))
theorem fn_slices_partitionEqualOrdered_string:FnIR Try.prog F_slices_partitionEqualOrdered_string 84 [(0,[0,1,2,3]),(1,[0,1,2]),(2,[0,1,9,10]),(3,[0,1,9,10,43]),(4,[0,1,9,10]),(5,[0,1,9,10,59]),(6,[0,1,9,10]),(7,[0,1,9,10,64]),(8,[0,1,9,10]),(9,[0,1,9,10]),(10,[0,1,9,10]),(11,[8])] ir_slices_partitionEqualOrdered_string [(.tmp 8)]:=
 ⟨Try.f65,_,Try.func65,rfl,by kernel_rfl,rfl,by kernel_rfl,by kernel_rfl⟩
def ir_slices_partitionOrdered_string:RC:=
 (.seq
 (.reg 0 none [0,1,2,3] [
 ⟨some 8,none,.mv (.k (.v (.int .i64 0)))⟩,
 ⟨some 9,none,.mv (.k (.v (.bool false)))⟩])
 (.seq
 (.reg 1 (some [0,0,0,0,0,0,48,112,0,0,768,1792,4083,8179,16383,32767]) [0,1,2] [
 ⟨some 12,none,.mv (.t 0)⟩,
 ⟨some 13,none,.mv (.t 1)⟩,
 ⟨some 14,none,.mv (.t 0)⟩,
 ⟨some 15,none,.mv (.t 3)⟩,
 ⟨some 16,none,.mv (.t 0)⟩,
 ⟨some 17,none,.mv (.t 3)⟩,
 ⟨some 18,none,.ixL 1 (.t 16) (.t 17)⟩,
 ⟨some 19,none,.ld none (.t 18)⟩,
 ⟨some 20,none,.mv (.t 0)⟩,
 ⟨some 21,none,.mv (.t 1)⟩,
 ⟨some 22,none,.ixL 1 (.t 20) (.t 21)⟩,
 ⟨some 23,none,.ld none (.t 22)⟩,
 ⟨some 24,none,.ixL 1 (.t 12) (.t 13)⟩,
 ⟨none,none,.st 1 (.t 24) (.t 19)⟩,
 ⟨some 25,none,.ixL 1 (.t 14) (.t 15)⟩,
 ⟨none,none,.st 1 (.t 25) (.t 23)⟩])
 (.seq
 (.reg 2 none [0,1,10,11] [
 ⟨some 26,none,.mv (.t 1)⟩,
 ⟨some 27,none,.bin .add false (.t 26) (.k (.v (.int .i64 1)))⟩,
 ⟨some 28,none,.mv (.t 2)⟩,
 ⟨some 29,none,.bin .sub false (.t 28) (.k (.v (.int .i64 1)))⟩,
 ⟨some 10,none,.mv (.t 27)⟩,
 ⟨some 11,none,.mv (.t 29)⟩])
 (.seq
 (.block 0
 (.loop
 (.seq
 (.seq
 (.reg 3 (some [0,0,3,7,15,15,63,127,15,15,783,1807,4095,8191]) [0,1,10,11,43] [
 ⟨some 30,none,.mv (.t 10)⟩,
 ⟨some 31,none,.mv (.t 11)⟩,
 ⟨some 32,none,.bin .leq false (.t 30) (.t 31)⟩,
 ⟨some 33,none,.mv (.t 32)⟩,
 ⟨some 34,some (33,true),.mv (.t 0)⟩,
 ⟨some 35,some (33,true),.mv (.t 10)⟩,
 ⟨some 36,some (33,true),.ixL 1 (.t 34) (.t 35)⟩,
 ⟨some 37,some (33,true),.ld none (.t 36)⟩,
 ⟨some 38,some (33,true),.mv (.t 0)⟩,
 ⟨some 39,some (33,true),.mv (.t 1)⟩,
 ⟨some 40,some (33,true),.ixL 1 (.t 38) (.t 39)⟩,
 ⟨some 41,some (33,true),.ld none (.t 40)⟩,
 ⟨some 42,some (33,true),.call (.k (.clo F_cmp_Less_string [])) [.t 37,.t 41]⟩,
 ⟨some 43,none,.pick (.t 33) (.t 42) (.k (.v (.bool false)))⟩])
 (.cond (.t 43)
 .skip
 (.exit 0)))
 (.block 1
 (.reg 4 none [0,1,10,11] [
 ⟨some 44,none,.mv (.t 10)⟩,
 ⟨some 45,none,.bin .add false (.t 44) (.k (.v (.int .i64 1)))⟩,
 ⟨some 10,none,.mv (.t 45)⟩])))))
 (.seq
 (.block 2
 (.loop
 (.seq
 (.seq
 (.reg 5 (some [0,0,3,7,15,15,63,127,15,15,783,1807,4095,8191,16383]) [0,1,10,11,60] [
 ⟨some 46,none,.mv (.t 10)⟩,
 ⟨some 47,none,.mv (.t 11)⟩,
 ⟨some 48,none,.bin .leq false (.t 46) (.t 47)⟩,
 ⟨some 49,none,.mv (.t 48)⟩,
 ⟨some 50,some (49,true),.mv (.t 0)⟩,
 ⟨some 51,some (49,true),.mv (.t 11)⟩,
 ⟨some 52,some (49,true),.ixL 1 (.t 50) (.t 51)⟩,
 ⟨some 53,some (49,true),.ld none (.t 52)⟩,
 ⟨some 54,some (49,true),.mv (.t 0)⟩,
 ⟨some 55,some (49,true),.mv (.t 1)⟩,
 ⟨some 56,some (49,true),.ixL 1 (.t 54) (.t 55)⟩,
 ⟨some 57,some (49,true),.ld none (.t 56)⟩,
 ⟨some 58,some (49,true),.call (.k (.clo F_cmp_Less_string [])) [.t 53,.t 57]⟩,
 ⟨some 59,some (49,true),.un .not (.t 58)⟩,
 ⟨some 60,none,.pick (.t 49) (.t 59) (.k (.v (.bool false)))⟩])
 (.cond (.t 60)
 .skip
 (.exit 2)))
 (.block 3
 (.reg 6 none [0,1,10,11] [
 ⟨some 61,none,.mv (.t 11)⟩,
 ⟨some 62,none,.bin .sub false (.t 61) (.k (.v (.int .i64 1)))⟩,
 ⟨some 11,none,.mv (.t 62)⟩])))))
 (.seq
 (.seq
 (.reg 7 none [0,1,10,11,65] [
 ⟨some 63,none,.mv (.t 10)⟩,
 ⟨some 64,none,.mv (.t 11)⟩,
 ⟨some 65,none,.bin .gtr false (.t 63) (.t 64)⟩])
 (.cond (.t 65)
 (.seq
 (.reg 8 (some [0,0,0,0,0,0,48,112,0,0,768,1792,4083,8179,16383,32767]) [11] [
 ⟨some 66,none,.mv (.t 0)⟩,
 ⟨some 67,none,.mv (.t 11)⟩,
 ⟨some 68,none,.mv (.t 0)⟩,
 ⟨some 69,none,.mv (.t 1)⟩,
 ⟨some 70,none,.mv (.t 0)⟩,
 ⟨some 71,none,.mv (.t 1)⟩,
 ⟨some 72,none,.ixL 1 (.t 70) (.t 71)⟩,
 ⟨some 73,none,.ld none (.t 72)⟩,
 ⟨some 74,none,.mv (.t 0)⟩,
 ⟨some 75,none,.mv (.t 11)⟩,
 ⟨some 76,none,.ixL 1 (.t 74) (.t 75)⟩,
 ⟨some 77,none,.ld none (.t 76)⟩,
 ⟨some 78,none,.ixL 1 (.t 66) (.t 67)⟩,
 ⟨none,none,.st 1 (.t 78) (.t 73)⟩,
 ⟨some 79,none,.ixL 1 (.t 68) (.t 69)⟩,
 ⟨none,none,.st 1 (.t 79) (.t 77)⟩])
 (.seq
 (.reg 9 none [8,9] [
 ⟨some 80,none,.mv (.t 11)⟩,
 ⟨some 8,none,.mv (.t 80)⟩,
 ⟨some 9,none,.mv (.k (.v (.bool true)))⟩])
 .ret))
 .skip))
 (.seq
 (.reg 10 (some [0,0,0,0,0,0,48,112,0,0,768,1792,4083,8179,16383,32767]) [0,1,10,11] [
 ⟨some 81,none,.mv (.t 0)⟩,
 ⟨some 82,none,.mv (.t 10)⟩,
 ⟨some 83,none,.mv (.t 0)⟩,
 ⟨some 84,none,.mv (.t 11)⟩,
 ⟨some 85,none,.mv (.t 0)⟩,
 ⟨some 86,none,.mv (.t 11)⟩,
 ⟨some 87,none,.ixL 1 (.t 85) (.t 86)⟩,
 ⟨some 88,none,.ld none (.t 87)⟩,
 ⟨some 89,none,.mv (.t 0)⟩,
 ⟨some 90,none,.mv (.t 10)⟩,
 ⟨some 91,none,.ixL 1 (.t 89) (.t 90)⟩,
 ⟨some 92,none,.ld none (.t 91)⟩,
 ⟨some 93,none,.ixL 1 (.t 81) (.t 82)⟩,
 ⟨none,none,.st 1 (.t 93) (.t 88)⟩,
 ⟨some 94,none,.ixL 1 (.t 83) (.t 84)⟩,
 ⟨none,none,.st 1 (.t 94) (.t 92)⟩])
 (.seq
 (.reg 11 none [0,1,10,11] [
 ⟨some 95,none,.mv (.t 10)⟩,
 ⟨some 96,none,.bin .add false (.t 95) (.k (.v (.int .i64 1)))⟩,
 ⟨some 10,none,.mv (.t 96)⟩])
 (.seq
 (.reg 12 none [0,1,10,11] [
 ⟨some 97,none,.mv (.t 11)⟩,
 ⟨some 98,none,.bin .sub false (.t 97) (.k (.v (.int .i64 1)))⟩,
 ⟨some 11,none,.mv (.t 98)⟩])
 (.seq
 (.block 4
 (.loop
 (.block 5
 (.seq
 (.block 6
 (.loop
 (.seq
 (.seq
 (.reg 13 (some [0,0,3,7,15,15,63,127,15,15,783,1807,4095,8191]) [0,1,10,11,112] [
 ⟨some 99,none,.mv (.t 10)⟩,
 ⟨some 100,none,.mv (.t 11)⟩,
 ⟨some 101,none,.bin .leq false (.t 99) (.t 100)⟩,
 ⟨some 102,none,.mv (.t 101)⟩,
 ⟨some 103,some (102,true),.mv (.t 0)⟩,
 ⟨some 104,some (102,true),.mv (.t 10)⟩,
 ⟨some 105,some (102,true),.ixL 1 (.t 103) (.t 104)⟩,
 ⟨some 106,some (102,true),.ld none (.t 105)⟩,
 ⟨some 107,some (102,true),.mv (.t 0)⟩,
 ⟨some 108,some (102,true),.mv (.t 1)⟩,
 ⟨some 109,some (102,true),.ixL 1 (.t 107) (.t 108)⟩,
 ⟨some 110,some (102,true),.ld none (.t 109)⟩,
 ⟨some 111,some (102,true),.call (.k (.clo F_cmp_Less_string [])) [.t 106,.t 110]⟩,
 ⟨some 112,none,.pick (.t 102) (.t 111) (.k (.v (.bool false)))⟩])
 (.cond (.t 112)
 .skip
 (.exit 6)))
 (.block 7
 (.reg 14 none [0,1,10,11] [
 ⟨some 113,none,.mv (.t 10)⟩,
 ⟨some 114,none,.bin .add false (.t 113) (.k (.v (.int .i64 1)))⟩,
 ⟨some 10,none,.mv (.t 114)⟩])))))
 (.seq
 (.block 8
 (.loop
 (.seq
 (.seq
 (.reg 15 (some [0,0,3,7,15,15,63,127,15,15,783,1807,4095,8191,16383]) [0,1,10,11,129] [
 ⟨some 115,none,.mv (.t 10)⟩,
 ⟨some 116,none,.mv (.t 11)⟩,
 ⟨some 117,none,.bin .leq false (.t 115) (.t 116)⟩,
 ⟨some 118,none,.mv (.t 117)⟩,
 ⟨some 119,some (118,true),.mv (.t 0)⟩,
 ⟨some 120,some (118,true),.mv (.t 11)⟩,
 ⟨some 121,some (118,true),.ixL 1 (.t 119) (.t 120)⟩,
 ⟨some 122,some (118,true),.ld none (.t 121)⟩,
 ⟨some 123,some (118,true),.mv (.t 0)⟩,
 ⟨some 124,some (118,true),.mv (.t 1)⟩,
 ⟨some 125,some (118,true),.ixL 1 (.t 123) (.t 124)⟩,
 ⟨some 126,some (118,true),.ld none (.t 125)⟩,
 ⟨some 127,some (118,true),.call (.k (.clo F_cmp_Less_string [])) [.t 122,.t 126]⟩,
 ⟨some 128,some (118,true),.un .not (.t 127)⟩,
 ⟨some 129,none,.pick (.t 118) (.t 128) (.k (.v (.bool false)))⟩])
 (.cond (.t 129)
 .skip
 (.exit 8)))
 (.block 9
 (.reg 16 none [0,1,10,11] [
 ⟨some 130,none,.mv (.t 11)⟩,
 ⟨some 131,none,.bin .sub false (.t 130) (.k (.v (.int .i64 1)))⟩,
 ⟨some 11,none,.mv (.t 131)⟩])))))
 (.seq
 (.seq
 (.reg 17 none [0,1,10,11,134] [
 ⟨some 132,none,.mv (.t 10)⟩,
 ⟨some 133,none,.mv (.t 11)⟩,
 ⟨some 134,none,.bin .gtr false (.t 132) (.t 133)⟩])
 (.cond (.t 134)
 (.exit 4)
 .skip))
 (.seq
 (.reg 18 (some [0,0,0,0,0,0,48,112,0,0,768,1792,4083,8179,16383,32767]) [0,1,10,11] [
 ⟨some 135,none,.mv (.t 0)⟩,
 ⟨some 136,none,.mv (.t 10)⟩,
 ⟨some 137,none,.mv (.t 0)⟩,
 ⟨some 138,none,.mv (.t 11)⟩,
 ⟨some 139,none,.mv (.t 0)⟩,
 ⟨some 140,none,.mv (.t 11)⟩,
 ⟨some 141,none,.ixL 1 (.t 139) (.t 140)⟩,
 ⟨some 142,none,.ld none (.t 141)⟩,
 ⟨some 143,none,.mv (.t 0)⟩,
 ⟨some 144,none,.mv (.t 10)⟩,
 ⟨some 145,none,.ixL 1 (.t 143) (.t 144)⟩,
 ⟨some 146,none,.ld none (.t 145)⟩,
 ⟨some 147,none,.ixL 1 (.t 135) (.t 136)⟩,
 ⟨none,none,.st 1 (.t 147) (.t 142)⟩,
 ⟨some 148,none,.ixL 1 (.t 137) (.t 138)⟩,
 ⟨none,none,.st 1 (.t 148) (.t 146)⟩])
 (.seq
 (.reg 19 none [0,1,10,11] [
 ⟨some 149,none,.mv (.t 10)⟩,
 ⟨some 150,none,.bin .add false (.t 149) (.k (.v (.int .i64 1)))⟩,
 ⟨some 10,none,.mv (.t 150)⟩])
 (.reg 20 none [0,1,10,11] [
 ⟨some 151,none,.mv (.t 11)⟩,
 ⟨some 152,none,.bin .sub false (.t 151) (.k (.v (.int .i64 1)))⟩,
 ⟨some 11,none,.mv (.t 152)⟩])))))))))
 (.seq
 (.reg 21 (some [0,0,0,0,0,0,48,112,0,0,768,1792,4083,8179,16383,32767]) [11] [
 ⟨some 153,none,.mv (.t 0)⟩,
 ⟨some 154,none,.mv (.t 11)⟩,
 ⟨some 155,none,.mv (.t 0)⟩,
 ⟨some 156,none,.mv (.t 1)⟩,
 ⟨some 157,none,.mv (.t 0)⟩,
 ⟨some 158,none,.mv (.t 1)⟩,
 ⟨some 159,none,.ixL 1 (.t 157) (.t 158)⟩,
 ⟨some 160,none,.ld none (.t 159)⟩,
 ⟨some 161,none,.mv (.t 0)⟩,
 ⟨some 162,none,.mv (.t 11)⟩,
 ⟨some 163,none,.ixL 1 (.t 161) (.t 162)⟩,
 ⟨some 164,none,.ld none (.t 163)⟩,
 ⟨some 165,none,.ixL 1 (.t 153) (.t 154)⟩,
 ⟨none,none,.st 1 (.t 165) (.t 160)⟩,
 ⟨some 166,none,.ixL 1 (.t 155) (.t 156)⟩,
 ⟨none,none,.st 1 (.t 166) (.t 164)⟩])
 (.seq
 (.reg 22 none [8,9] [
 ⟨some 167,none,.mv (.t 11)⟩,
 ⟨some 8,none,.mv (.t 167)⟩,
 ⟨some 9,none,.mv (.k (.v (.bool false)))⟩])
 .ret))))))))))))
theorem fn_slices_partitionOrdered_string:FnIR Try.prog F_slices_partitionOrdered_string 168 [(0,[0,1,2,3]),(1,[0,1,2]),(2,[0,1,10,11]),(3,[0,1,10,11,43]),(4,[0,1,10,11]),(5,[0,1,10,11,60]),(6,[0,1,10,11]),(7,[0,1,10,11,65]),(8,[11]),(9,[8,9]),(10,[0,1,10,11]),(11,[0,1,10,11]),(12,[0,1,10,11]),(13,[0,1,10,11,112]),(14,[0,1,10,11]),(15,[0,1,10,11,129]),(16,[0,1,10,11]),(17,[0,1,10,11,134]),(18,[0,1,10,11]),(19,[0,1,10,11]),(20,[0,1,10,11]),(21,[11]),(22,[8,9])] ir_slices_partitionOrdered_string [(.tmp 8),(.tmp 9)]:=
 ⟨Try.f66,_,Try.func66,rfl,by kernel_rfl,rfl,by kernel_rfl,by kernel_rfl⟩
def ir_math_bits_Len32:RC:=
 (.seq
 (.reg 0 none [0,2] [
 ⟨some 2,none,.mv (.k (.v (.int .i64 0)))⟩])
 (.seq
 (.seq
 (.reg 1 none [0,2,4] [
 ⟨some 3,none,.mv (.t 0)⟩,
 ⟨some 4,none,.bin .geq false (.t 3) (.k (.v (.int .u32 65536)))⟩])
 (.cond (.t 4)
 (.seq
 (.reg 2 none [0] [
 ⟨some 5,none,.mv (.t 0)⟩,
 ⟨some 6,none,.bin .shr false (.t 5) (.k (.v (.int .u64 16)))⟩,
 ⟨some 0,none,.mv (.t 6)⟩])
 (.reg 3 none [0,2] [
 ⟨some 2,none,.mv (.k (.v (.int .i64 16)))⟩]))
 .skip))
 (.seq
 (.seq
 (.reg 4 none [0,2,8] [
 ⟨some 7,none,.mv (.t 0)⟩,
 ⟨some 8,none,.bin .geq false (.t 7) (.k (.v (.int .u32 256)))⟩])
 (.cond (.t 8)
 (.seq
 (.reg 5 none [0,2] [
 ⟨some 9,none,.mv (.t 0)⟩,
 ⟨some 10,none,.bin .shr false (.t 9) (.k (.v (.int .u64 8)))⟩,
 ⟨some 0,none,.mv (.t 10)⟩])
 (.reg 6 none [0,2] [
 ⟨some 11,none,.mv (.t 2)⟩,
 ⟨some 12,none,.bin .add false (.t 11) (.k (.v (.int .i64 8)))⟩,
 ⟨some 2,none,.mv (.t 12)⟩]))
 .skip))
 (.seq
 (.reg 7 none [2] [
 ⟨some 13,none,.mv (.t 2)⟩,
 ⟨some 14,none,.mv (.t 0)⟩,
 ⟨some 15,none,.cvI .u8 (.t 14)⟩,
 ⟨some 16,none,.sx (.k (.v (.string ⟨#[0,1,2,2,3,3,3,3,4,4,4,4,4,4,4,4,5,5,5,5,5,5,5,5,5,5,5,5,5,5,5,5,6,6,6,6,6,6,6,6,6,6,6,6,6,6,6,6,6,6,6,6,6,6,6,6,6,6,6,6,6,6,6,6,7,7,7,7,7,7,7,7,7,7,7,7,7,7,7,7,7,7,7,7,7,7,7,7,7,7,7,7,7,7,7,7,7,7,7,7,7,7,7,7,7,7,7,7,7,7,7,7,7,7,7,7,7,7,7,7,7,7,7,7,7,7,7,7,8,8,8,8,8,8,8,8,8,8,8,8,8,8,8,8,8,8,8,8,8,8,8,8,8,8,8,8,8,8,8,8,8,8,8,8,8,8,8,8,8,8,8,8,8,8,8,8,8,8,8,8,8,8,8,8,8,8,8,8,8,8,8,8,8,8,8,8,8,8,8,8,8,8,8,8,8,8,8,8,8,8,8,8,8,8,8,8,8,8,8,8,8,8,8,8,8,8,8,8,8,8,8,8,8,8,8,8,8,8,8,8,8,8,8,8,8,8,8,8,8,8,8,8,8,8,8,8]⟩))) (.t 15)⟩,
 ⟨some 17,none,.cvI .i64 (.t 16)⟩,
 ⟨some 18,none,.bin .add false (.t 13) (.t 17)⟩,
 ⟨some 2,none,.mv (.t 18)⟩])
 .ret))))
theorem fn_math_bits_Len32:FnIR Try.prog F_math_bits_Len32 19 [(0,[0,2]),(1,[0,2,4]),(2,[0]),(3,[0,2]),(4,[0,2,8]),(5,[0,2]),(6,[0,2]),(7,[2])] ir_math_bits_Len32 [(.tmp 2)]:=
 ⟨Try.f67,_,Try.func67,rfl,by kernel_rfl,rfl,by kernel_rfl,by kernel_rfl⟩
def ir_math_bits_Len64:RC:=
 (.seq
 (.reg 0 none [0,2] [
 ⟨some 2,none,.mv (.k (.v (.int .i64 0)))⟩])
 (.seq
 (.seq
 (.reg 1 none [0,2,4] [
 ⟨some 3,none,.mv (.t 0)⟩,
 ⟨some 4,none,.bin .geq false (.t 3) (.k (.v (.int .u64 4294967296)))⟩])
 (.cond (.t 4)
 (.seq
 (.reg 2 none [0] [
 ⟨some 5,none,.mv (.t 0)⟩,
 ⟨some 6,none,.bin .shr false (.t 5) (.k (.v (.int .u64 32)))⟩,
 ⟨some 0,none,.mv (.t 6)⟩])
 (.reg 3 none [0,2] [
 ⟨some 2,none,.mv (.k (.v (.int .i64 32)))⟩]))
 .skip))
 (.seq
 (.seq
 (.reg 4 none [0,2,8] [
 ⟨some 7,none,.mv (.t 0)⟩,
 ⟨some 8,none,.bin .geq false (.t 7) (.k (.v (.int .u64 65536)))⟩])
 (.cond (.t 8)
 (.seq
 (.reg 5 none [0,2] [
 ⟨some 9,none,.mv (.t 0)⟩,
 ⟨some 10,none,.bin .shr false (.t 9) (.k (.v (.int .u64 16)))⟩,
 ⟨some 0,none,.mv (.t 10)⟩])
 (.reg 6 none [0,2] [
 ⟨some 11,none,.mv (.t 2)⟩,
 ⟨some 12,none,.bin .add false (.t 11) (.k (.v (.int .i64 16)))⟩,
 ⟨some 2,none,.mv (.t 12)⟩]))
 .skip))
 (.seq
 (.seq
 (.reg 7 none [0,2,14] [
 ⟨some 13,none,.mv (.t 0)⟩,
 ⟨some 14,none,.bin .geq false (.t 13) (.k (.v (.int .u64 256)))⟩])
 (.cond (.t 14)
 (.seq
 (.reg 8 none [0,2] [
 ⟨some 15,none,.mv (.t 0)⟩,
 ⟨some 16,none,.bin .shr false (.t 15) (.k (.v (.int .u64 8)))⟩,
 ⟨some 0,none,.mv (.t 16)⟩])
 (.reg 9 none [0,2] [
 ⟨some 17,none,.mv (.t 2)⟩,
 ⟨some 18,none,.bin .add false (.t 17) (.k (.v (.int .i64 8)))⟩,
 ⟨some 2,none,.mv (.t 18)⟩]))
 .skip))
 (.seq
 (.reg 10 none [2] [
 ⟨some 19,none,.mv (.t 2)⟩,
 ⟨some 20,none,.mv (.t 0)⟩,
 ⟨some 21,none,.cvI .u8 (.t 20)⟩,
 ⟨some 22,none,.sx (.k (.v (.string ⟨#[0,1,2,2,3,3,3,3,4,4,4,4,4,4,4,4,5,5,5,5,5,5,5,5,5,5,5,5,5,5,5,5,6,6,6,6,6,6,6,6,6,6,6,6,6,6,6,6,6,6,6,6,6,6,6,6,6,6,6,6,6,6,6,6,7,7,7,7,7,7,7,7,7,7,7,7,7,7,7,7,7,7,7,7,7,7,7,7,7,7,7,7,7,7,7,7,7,7,7,7,7,7,7,7,7,7,7,7,7,7,7,7,7,7,7,7,7,7,7,7,7,7,7,7,7,7,7,7,8,8,8,8,8,8,8,8,8,8,8,8,8,8,8,8,8,8,8,8,8,8,8,8,8,8,8,8,8,8,8,8,8,8,8,8,8,8,8,8,8,8,8,8,8,8,8,8,8,8,8,8,8,8,8,8,8,8,8,8,8,8,8,8,8,8,8,8,8,8,8,8,8,8,8,8,8,8,8,8,8,8,8,8,8,8,8,8,8,8,8,8,8,8,8,8,8,8,8,8,8,8,8,8,8,8,8,8,8,8,8,8,8,8,8,8,8,8,8,8,8,8,8,8,8,8,8,8]⟩))) (.t 21)⟩,
 ⟨some 23,none,.cvI .i64 (.t 22)⟩,
 ⟨some 24,none,.bin .add false (.t 19) (.t 23)⟩,
 ⟨some 2,none,.mv (.t 24)⟩])
 .ret)))))
theorem fn_math_bits_Len64:FnIR Try.prog F_math_bits_Len64 25 [(0,[0,2]),(1,[0,2,4]),(2,[0]),(3,[0,2]),(4,[0,2,8]),(5,[0,2]),(6,[0,2]),(7,[0,2,14]),(8,[0,2]),(9,[0,2]),(10,[2])] ir_math_bits_Len64 [(.tmp 2)]:=
 ⟨Try.f68,_,Try.func68,rfl,by kernel_rfl,rfl,by kernel_rfl,by kernel_rfl⟩
def ir_slices_Reverse_Approval:RC:=
 (.seq
 (.reg 0 none [0,2,3] [
 ⟨some 4,none,.mv (.t 0)⟩,
 ⟨some 5,none,.lenL (.t 4)⟩,
 ⟨some 6,none,.bin .sub false (.t 5) (.k (.v (.int .i64 1)))⟩,
 ⟨some 2,none,.mv (.k (.v (.int .i64 0)))⟩,
 ⟨some 3,none,.mv (.t 6)⟩])
 (.block 0
 (.loop
 (.seq
 (.seq
 (.reg 1 none [0,2,3,9] [
 ⟨some 7,none,.mv (.t 2)⟩,
 ⟨some 8,none,.mv (.t 3)⟩,
 ⟨some 9,none,.bin .lss false (.t 7) (.t 8)⟩])
 (.cond (.t 9)
 .skip
 (.exit 0)))
 (.seq
 (.block 1
 (.reg 3 (some [0,0,0,0,0,0,48,112,0,0,768,1792,4083,8179,16383,32767]) [0,2,3] [
 ⟨some 14,none,.mv (.t 0)⟩,
 ⟨some 15,none,.mv (.t 2)⟩,
 ⟨some 16,none,.mv (.t 0)⟩,
 ⟨some 17,none,.mv (.t 3)⟩,
 ⟨some 18,none,.mv (.t 0)⟩,
 ⟨some 19,none,.mv (.t 3)⟩,
 ⟨some 20,none,.ixL 4 (.t 18) (.t 19)⟩,
 ⟨some 21,none,.ld (some 4) (.t 20)⟩,
 ⟨some 22,none,.mv (.t 0)⟩,
 ⟨some 23,none,.mv (.t 2)⟩,
 ⟨some 24,none,.ixL 4 (.t 22) (.t 23)⟩,
 ⟨some 25,none,.ld (some 4) (.t 24)⟩,
 ⟨some 26,none,.ixL 4 (.t 14) (.t 15)⟩,
 ⟨none,none,.st 4 (.t 26) (.t 21)⟩,
 ⟨some 27,none,.ixL 4 (.t 16) (.t 17)⟩,
 ⟨none,none,.st 4 (.t 27) (.t 25)⟩]))
 (.reg 2 none [0,2,3] [
 ⟨some 10,none,.mv (.t 2)⟩,
 ⟨some 11,none,.bin .add false (.t 10) (.k (.v (.int .i64 1)))⟩,
 ⟨some 12,none,.mv (.t 3)⟩,
 ⟨some 13,none,.bin .sub false (.t 12) (.k (.v (.int .i64 1)))⟩,
 ⟨some 2,none,.mv (.t 11)⟩,
 ⟨some 3,none,.mv (.t 13)⟩]))))))
theorem fn_slices_Reverse_Approval:FnIR Try.prog F_slices_Reverse_Approval 28 [(0,[0,2,3]),(1,[0,2,3,9]),(2,[0,2,3]),(3,[0,2,3])] ir_slices_Reverse_Approval []:=
 ⟨Try.f69,_,Try.func69,rfl,by kernel_rfl,rfl,by kernel_rfl,by kernel_rfl⟩
def ir_slices_siftDownOrdered_string:RC:=
 (.seq
 (.reg 0 none [0,2,3,8] [
 ⟨some 10,none,.mv (.t 1)⟩,
 ⟨some 8,none,.mv (.t 10)⟩])
 (.block 0
 (.loop
 (.block 1
 (.seq
 (.reg 1 none [0,2,3,8,9] [
 ⟨some 11,none,.mv (.t 8)⟩,
 ⟨some 12,none,.bin .mul false (.k (.v (.int .i64 2))) (.t 11)⟩,
 ⟨some 13,none,.bin .add false (.t 12) (.k (.v (.int .i64 1)))⟩,
 ⟨some 9,none,.mv (.t 13)⟩])
 (.seq
 (.seq
 (.reg 2 none [0,2,3,8,9,16] [
 ⟨some 14,none,.mv (.t 9)⟩,
 ⟨some 15,none,.mv (.t 2)⟩,
 ⟨some 16,none,.bin .geq false (.t 14) (.t 15)⟩])
 (.cond (.t 16)
 (.exit 0)
 .skip))
 (.seq
 (.seq
 (.reg 3 (some [0,1,0,7,15,31,31,31,223,511,1023,31,31,31,12319,28703,63519,129055,262143,524287]) [0,2,3,8,9,36] [
 ⟨some 17,none,.mv (.t 9)⟩,
 ⟨some 18,none,.bin .add false (.t 17) (.k (.v (.int .i64 1)))⟩,
 ⟨some 19,none,.mv (.t 2)⟩,
 ⟨some 20,none,.bin .lss false (.t 18) (.t 19)⟩,
 ⟨some 21,none,.mv (.t 20)⟩,
 ⟨some 22,some (21,true),.mv (.t 0)⟩,
 ⟨some 23,some (21,true),.mv (.t 3)⟩,
 ⟨some 24,some (21,true),.mv (.t 9)⟩,
 ⟨some 25,some (21,true),.bin .add false (.t 23) (.t 24)⟩,
 ⟨some 26,some (21,true),.ixL 1 (.t 22) (.t 25)⟩,
 ⟨some 27,some (21,true),.ld none (.t 26)⟩,
 ⟨some 28,some (21,true),.mv (.t 0)⟩,
 ⟨some 29,some (21,true),.mv (.t 3)⟩,
 ⟨some 30,some (21,true),.mv (.t 9)⟩,
 ⟨some 31,some (21,true),.bin .add false (.t 29) (.t 30)⟩,
 ⟨some 32,some (21,true),.bin .add false (.t 31) (.k (.v (.int .i64 1)))⟩,
 ⟨some 33,some (21,true),.ixL 1 (.t 28) (.t 32)⟩,
 ⟨some 34,some (21,true),.ld none (.t 33)⟩,
 ⟨some 35,some (21,true),.call (.k (.clo F_cmp_Less_string [])) [.t 27,.t 34]⟩,
 ⟨some 36,none,.pick (.t 21) (.t 35) (.k (.v (.bool false)))⟩])
 (.cond (.t 36)
 (.reg 4 none [0,2,3,8,9] [
 ⟨some 37,none,.mv (.t 9)⟩,
 ⟨some 38,none,.bin .add false (.t 37) (.k (.v (.int .i64 1)))⟩,
 ⟨some 9,none,.mv (.t 38)⟩])
 .skip))
 (.seq
 (.seq
 (.reg 5 (some [0,0,0,6,15,31,0,0,0,384,960,1984,4095,8191]) [0,2,3,8,9,52] [
 ⟨some 39,none,.mv (.t 0)⟩,
 ⟨some 40,none,.mv (.t 3)⟩,
 ⟨some 41,none,.mv (.t 8)⟩,
 ⟨some 42,none,.bin .add false (.t 40) (.t 41)⟩,
 ⟨some 43,none,.ixL 1 (.t 39) (.t 42)⟩,
 ⟨some 44,none,.ld none (.t 43)⟩,
 ⟨some 45,none,.mv (.t 0)⟩,
 ⟨some 46,none,.mv (.t 3)⟩,
 ⟨some 47,none,.mv (.t 9)⟩,
 ⟨some 48,none,.bin .add false (.t 46) (.t 47)⟩,
 ⟨some 49,none,.ixL 1 (.t 45) (.t 48)⟩,
 ⟨some 50,none,.ld none (.t 49)⟩,
 ⟨some 51,none,.call (.k (.clo F_cmp_Less_string [])) [.t 44,.t 50]⟩,
 ⟨some 52,none,.un .not (.t 51)⟩])
 (.cond (.t 52)
 .ret
 .skip))
 (.seq
 (.reg 6 (some [0,0,0,6,0,0,0,96,0,0,0,1536,3840,7936,0,0,0,98304,245760,507904,1048335,2096911,4194303,8388607]) [0,2,3,9] [
 ⟨some 53,none,.mv (.t 0)⟩,
 ⟨some 54,none,.mv (.t 3)⟩,
 ⟨some 55,none,.mv (.t 8)⟩,
 ⟨some 56,none,.bin .add false (.t 54) (.t 55)⟩,
 ⟨some 57,none,.mv (.t 0)⟩,
 ⟨some 58,none,.mv (.t 3)⟩,
 ⟨some 59,none,.mv (.t 9)⟩,
 ⟨some 60,none,.bin .add false (.t 58) (.t 59)⟩,
 ⟨some 61,none,.mv (.t 0)⟩,
 ⟨some 62,none,.mv (.t 3)⟩,
 ⟨some 63,none,.mv (.t 9)⟩,
 ⟨some 64,none,.bin .add false (.t 62) (.t 63)⟩,
 ⟨some 65,none,.ixL 1 (.t 61) (.t 64)⟩,
 ⟨some 66,none,.ld none (.t 65)⟩,
 ⟨some 67,none,.mv (.t 0)⟩,
 ⟨some 68,none,.mv (.t 3)⟩,
 ⟨some 69,none,.mv (.t 8)⟩,
 ⟨some 70,none,.bin .add false (.t 68) (.t 69)⟩,
 ⟨some 71,none,.ixL 1 (.t 67) (.t 70)⟩,
 ⟨some 72,none,.ld none (.t 71)⟩,
 ⟨some 73,none,.ixL 1 (.t 53) (.t 56)⟩,
 ⟨none,none,.st 1 (.t 73) (.t 66)⟩,
 ⟨some 74,none,.ixL 1 (.t 57) (.t 60)⟩,
 ⟨none,none,.st 1 (.t 74) (.t 72)⟩])
 (.reg 7 none [0,2,3,8] [
 ⟨some 75,none,.mv (.t 9)⟩,
 ⟨some 8,none,.mv (.t 75)⟩]))))))))))
theorem fn_slices_siftDownOrdered_string:FnIR Try.prog F_slices_siftDownOrdered_string 76 [(0,[0,2,3,8]),(1,[0,2,3,8,9]),(2,[0,2,3,8,9,16]),(3,[0,2,3,8,9,36]),(4,[0,2,3,8,9]),(5,[0,2,3,8,9,52]),(6,[0,2,3,9]),(7,[0,2,3,8])] ir_slices_siftDownOrdered_string []:=
 ⟨Try.f70,_,Try.func70,rfl,by kernel_rfl,rfl,by kernel_rfl,by kernel_rfl⟩
def ir_slices_nextPowerOfTwo:RC:=
 (.seq
 (.reg 0 none [0] [
 ⟨some 2,none,.mv (.k (.v (.int .u64 0)))⟩])
 (.seq
 (.reg 1 none [2] [
 ⟨some 3,none,.mv (.t 0)⟩,
 ⟨some 4,none,.cvI .u64 (.t 3)⟩,
 ⟨some 5,none,.call (.k (.clo F_math_bits_Len [])) [.t 4]⟩,
 ⟨some 6,none,.bin .shl false (.k (.v (.int .u64 1))) (.t 5)⟩,
 ⟨some 2,none,.mv (.t 6)⟩])
 .ret))
theorem fn_slices_nextPowerOfTwo:FnIR Try.prog F_slices_nextPowerOfTwo 7 [(0,[0]),(1,[2])] ir_slices_nextPowerOfTwo [(.tmp 2)]:=
 ⟨Try.f71,_,Try.func71,rfl,by kernel_rfl,rfl,by kernel_rfl,by kernel_rfl⟩
def ir_slices_xorshift_Next:RC:=
 (.seq
 (.reg 0 none [0] [
 ⟨some 2,none,.mv (.k (.v (.int .u64 0)))⟩])
 (.seq
 (.reg 1 (some [0,1,3,0,8,24,56,127,255,511]) [0] [
 ⟨some 3,none,.mv (.t 0)⟩,
 ⟨some 4,none,.nc (.t 3)⟩,
 ⟨some 5,none,.ld none (.t 4)⟩,
 ⟨some 6,none,.mv (.t 0)⟩,
 ⟨some 7,none,.nc (.t 6)⟩,
 ⟨some 8,none,.ld none (.t 7)⟩,
 ⟨some 9,none,.bin .shl false (.t 8) (.k (.v (.int .u64 13)))⟩,
 ⟨some 10,none,.bin .xor false (.t 5) (.t 9)⟩,
 ⟨some 11,none,.nc (.t 3)⟩,
 ⟨none,none,.st 1 (.t 11) (.t 10)⟩])
 (.seq
 (.reg 2 (some [0,1,3,0,8,24,56,127,255,511]) [0] [
 ⟨some 12,none,.mv (.t 0)⟩,
 ⟨some 13,none,.nc (.t 12)⟩,
 ⟨some 14,none,.ld none (.t 13)⟩,
 ⟨some 15,none,.mv (.t 0)⟩,
 ⟨some 16,none,.nc (.t 15)⟩,
 ⟨some 17,none,.ld none (.t 16)⟩,
 ⟨some 18,none,.bin .shr false (.t 17) (.k (.v (.int .u64 7)))⟩,
 ⟨some 19,none,.bin .xor false (.t 14) (.t 18)⟩,
 ⟨some 20,none,.nc (.t 12)⟩,
 ⟨none,none,.st 1 (.t 20) (.t 19)⟩])
 (.seq
 (.reg 3 (some [0,1,3,0,8,24,56,127,255,511]) [0] [
 ⟨some 21,none,.mv (.t 0)⟩,
 ⟨some 22,none,.nc (.t 21)⟩,
 ⟨some 23,none,.ld none (.t 22)⟩,
 ⟨some 24,none,.mv (.t 0)⟩,
 ⟨some 25,none,.nc (.t 24)⟩,
 ⟨some 26,none,.ld none (.t 25)⟩,
 ⟨some 27,none,.bin .shl false (.t 26) (.k (.v (.int .u64 17)))⟩,
 ⟨some 28,none,.bin .xor false (.t 23) (.t 27)⟩,
 ⟨some 29,none,.nc (.t 21)⟩,
 ⟨none,none,.st 1 (.t 29) (.t 28)⟩])
 (.seq
 (.reg 4 none [2] [
 ⟨some 30,none,.mv (.t 0)⟩,
 ⟨some 31,none,.nc (.t 30)⟩,
 ⟨some 32,none,.ld none (.t 31)⟩,
 ⟨some 2,none,.mv (.t 32)⟩])
 .ret)))))
theorem fn_slices_xorshift_Next:FnIR Try.prog F_slices_xorshift_Next 33 [(0,[0]),(1,[0]),(2,[0]),(3,[0]),(4,[2])] ir_slices_xorshift_Next [(.tmp 2)]:=
 ⟨Try.f72,_,Try.func72,rfl,by kernel_rfl,rfl,by kernel_rfl,by kernel_rfl⟩
def ir_slices_medianAdjacentOrdered_string:RC:=
 (.seq
 (.reg 0 none [0,1,2] [
 ⟨some 6,none,.mv (.k (.v (.int .i64 0)))⟩])
 (.seq
 (.reg 1 none [6] [
 ⟨some 7,none,.mv (.t 0)⟩,
 ⟨some 8,none,.mv (.t 1)⟩,
 ⟨some 9,none,.bin .sub false (.t 8) (.k (.v (.int .i64 1)))⟩,
 ⟨some 10,none,.mv (.t 1)⟩,
 ⟨some 11,none,.mv (.t 1)⟩,
 ⟨some 12,none,.bin .add false (.t 11) (.k (.v (.int .i64 1)))⟩,
 ⟨some 13,none,.mv (.t 2)⟩,
 ⟨some 14,none,.call (.k (.clo F_slices_medianOrdered_string [])) [.t 7,.t 9,.t 10,.t 12,.t 13]⟩,
 ⟨some 6,none,.mv (.t 14)⟩])
 .ret))
theorem fn_slices_medianAdjacentOrdered_string:FnIR Try.prog F_slices_medianAdjacentOrdered_string 15 [(0,[0,1,2]),(1,[6])] ir_slices_medianAdjacentOrdered_string [(.tmp 6)]:=
 ⟨Try.f73,_,Try.func73,rfl,by kernel_rfl,rfl,by kernel_rfl,by kernel_rfl⟩
def ir_slices_medianOrdered_string:RC:=
 (.seq
 (.reg 0 none [0,1,2,3,4] [
 ⟨some 10,none,.mv (.k (.v (.int .i64 0)))⟩])
 (.seq
 (.reg 1 none [0,1,2,3,4] [
 ⟨some 12,none,.mv (.t 0)⟩,
 ⟨some 13,none,.mv (.t 1)⟩,
 ⟨some 14,none,.mv (.t 2)⟩,
 ⟨some 15,none,.mv (.t 4)⟩,
 ⟨some 16,none,.call (.k (.clo F_slices_order2Ordered_string [])) [.t 12,.t 13,.t 14,.t 15]⟩,
 ⟨some 11,none,.mv (.t 16)⟩,
 ⟨some 17,none,.ex (.t 11) 0⟩,
 ⟨some 18,none,.ex (.t 11) 1⟩,
 ⟨some 1,none,.mv (.t 17)⟩,
 ⟨some 2,none,.mv (.t 18)⟩])
 (.seq
 (.reg 2 none [0,1,2,4] [
 ⟨some 20,none,.mv (.t 0)⟩,
 ⟨some 21,none,.mv (.t 2)⟩,
 ⟨some 22,none,.mv (.t 3)⟩,
 ⟨some 23,none,.mv (.t 4)⟩,
 ⟨some 24,none,.call (.k (.clo F_slices_order2Ordered_string [])) [.t 20,.t 21,.t 22,.t 23]⟩,
 ⟨some 19,none,.mv (.t 24)⟩,
 ⟨some 25,none,.ex (.t 19) 0⟩,
 ⟨some 26,none,.ex (.t 19) 1⟩,
 ⟨some 2,none,.mv (.t 25)⟩,
 ⟨some 3,none,.mv (.t 26)⟩])
 (.seq
 (.reg 3 none [2] [
 ⟨some 28,none,.mv (.t 0)⟩,
 ⟨some 29,none,.mv (.t 1)⟩,
 ⟨some 30,none,.mv (.t 2)⟩,
 ⟨some 31,none,.mv (.t 4)⟩,
 ⟨some 32,none,.call (.k (.clo F_slices_order2Ordered_string [])) [.t 28,.t 29,.t 30,.t 31]⟩,
 ⟨some 27,none,.mv (.t 32)⟩,
 ⟨some 33,none,.ex (.t 27) 0⟩,
 ⟨some 34,none,.ex (.t 27) 1⟩,
 ⟨some 1,none,.mv (.t 33)⟩,
 ⟨some 2,none,.mv (.t 34)⟩])
 (.seq
 (.reg 4 none [10] [
 ⟨some 35,none,.mv (.t 2)⟩,
 ⟨some 10,none,.mv (.t 35)⟩])
 .ret)))))
theorem fn_slices_medianOrdered_string:FnIR Try.prog F_slices_medianOrdered_string 36 [(0,[0,1,2,3,4]),(1,[0,1,2,3,4]),(2,[0,1,2,4]),(3,[2]),(4,[10])] ir_slices_medianOrdered_string [(.tmp 10)]:=
 ⟨Try.f74,_,Try.func74,rfl,by kernel_rfl,rfl,by kernel_rfl,by kernel_rfl⟩
def ir_slices_order2Ordered_string:RC:=
 (.seq
 (.reg 0 none [0,1,2,3] [
 ⟨some 8,none,.mv (.k (.v (.int .i64 0)))⟩,
 ⟨some 9,none,.mv (.k (.v (.int .i64 0)))⟩])
 (.seq
 (.seq
 (.reg 1 (some [0,0,3,7,0,0,48,112,255]) [1,2,3,18] [
 ⟨some 10,none,.mv (.t 0)⟩,
 ⟨some 11,none,.mv (.t 2)⟩,
 ⟨some 12,none,.ixL 1 (.t 10) (.t 11)⟩,
 ⟨some 13,none,.ld none (.t 12)⟩,
 ⟨some 14,none,.mv (.t 0)⟩,
 ⟨some 15,none,.mv (.t 1)⟩,
 ⟨some 16,none,.ixL 1 (.t 14) (.t 15)⟩,
 ⟨some 17,none,.ld none (.t 16)⟩,
 ⟨some 18,none,.call (.k (.clo F_cmp_Less_string [])) [.t 13,.t 17]⟩])
 (.cond (.t 18)
 (.seq
 (.reg 2 none [1,2] [
 ⟨some 19,none,.mv (.t 3)⟩,
 ⟨some 20,none,.nc (.t 19)⟩,
 ⟨some 21,none,.ld none (.t 20)⟩,
 ⟨some 22,none,.bin .add false (.t 21) (.k (.v (.int .i64 1)))⟩,
 ⟨some 23,none,.nc (.t 19)⟩,
 ⟨none,none,.st 1 (.t 23) (.t 22)⟩])
 (.seq
 (.reg 3 none [8,9] [
 ⟨some 24,none,.mv (.t 2)⟩,
 ⟨some 25,none,.mv (.t 1)⟩,
 ⟨some 8,none,.mv (.t 24)⟩,
 ⟨some 9,none,.mv (.t 25)⟩])
 .ret))
 .skip))
 (.seq
 (.reg 4 none [8,9] [
 ⟨some 26,none,.mv (.t 1)⟩,
 ⟨some 27,none,.mv (.t 2)⟩,
 ⟨some 8,none,.mv (.t 26)⟩,
 ⟨some 9,none,.mv (.t 27)⟩])
 .ret)))
theorem fn_slices_order2Ordered_string:FnIR Try.prog F_slices_order2Ordered_string 28 [(0,[0,1,2,3]),(1,[1,2,3,18]),(2,[1,2]),(3,[8,9]),(4,[8,9])] ir_slices_order2Ordered_string [(.tmp 8),(.tmp 9)]:=
 ⟨Try.f75,_,Try.func75,rfl,by kernel_rfl,rfl,by kernel_rfl,by kernel_rfl⟩
theorem ovl_slices_overlaps_Approval:OvlFn Try.prog F_slices_overlaps_Approval:=
 ⟨Try.f49,Try.func49,by kernel_rfl,by kernel_rfl,by kernel_rfl,by kernel_rfl,by kernel_rfl⟩
end Go.Proofs
