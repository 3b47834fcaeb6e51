import Derived.Test.YtnejebkdlofdoaaChecked
import Derived.Test.YtnejebkdlofdoaaZzU
namespace Go.Proofs
open Go.TL
abbrev F_law35_QueueAnswers : FuncId := 3
abbrev F_law35_QueueBack : FuncId := 4
abbrev F_law35_QueueKeeps : FuncId := 5
abbrev F_law35_QueueNumbers : FuncId := 6
abbrev F_law35_awake : FuncId := 7
abbrev F_draw_New : FuncId := 8
abbrev F_made_Output : FuncId := 9
abbrev F_draw_Codes_Range : FuncId := 10
abbrev F_draw_Codes_Next : FuncId := 11
abbrev F_made_Name : FuncId := 12
abbrev F_ref35_Put : FuncId := 13
abbrev F_queue_Encode : FuncId := 14
abbrev F_ref35_Encode : FuncId := 15
abbrev F_queue_Valid : FuncId := 16
abbrev F_ref35_Valid : FuncId := 17
abbrev F_draw_Mod : FuncId := 18
abbrev F_queue_Decode : FuncId := 19
abbrev F_ref35_Decode : FuncId := 20
abbrev F_ref35_Same : FuncId := 21
abbrev F_ref23_Append : FuncId := 22
abbrev F_ref23_Sync : FuncId := 23
abbrev F_queue_Put : FuncId := 24
abbrev F_queue_Load : FuncId := 25
abbrev F_ref35_Load : FuncId := 26
abbrev F_ref23_Same : FuncId := 27
abbrev F_ref35_Alike : FuncId := 28
abbrev F_ref23_Crash : FuncId := 29
abbrev F_ref24_Decimal : FuncId := 30
abbrev F_ref23_Copy : FuncId := 31
abbrev F_queue_fields : FuncId := 32
abbrev F_ref35_five : FuncId := 33
abbrev F_ref35_text : FuncId := 34
abbrev F_codes_Name : FuncId := 35
abbrev F_queue_time : FuncId := 36
abbrev F_slices_ContainsFunc_Signature : FuncId := 37
abbrev F_queue_Valid_1 : FuncId := 38
abbrev F_ref35_Name : FuncId := 39
abbrev F_ref35_reader_number : FuncId := 40
abbrev F_ref35_reader_text : FuncId := 41
abbrev F_ref23_Frame : FuncId := 42
abbrev F_ref23_Read : FuncId := 43
abbrev F_queue_copied : FuncId := 44
abbrev F_journal_Append : FuncId := 45
abbrev F_journal_Sync : FuncId := 46
abbrev F_journal_Recover : FuncId := 47
abbrev F_ref23_Recover : FuncId := 48
abbrev F_ref35_outputs : FuncId := 49
abbrev F_queue_number : FuncId := 50
abbrev F_queue_fields_1 : FuncId := 51
abbrev F_queue_text : FuncId := 52
abbrev F_queue_fields_2 : FuncId := 53
abbrev F_queue_fields_3 : FuncId := 54
abbrev F_queue_fields_4 : FuncId := 55
abbrev F_queue_fields_5 : FuncId := 56
abbrev F_queue_fields_6 : FuncId := 57
abbrev F_queue_signatures : FuncId := 58
abbrev F_queue_signed : FuncId := 59
abbrev F_slices_IndexFunc_Signature : FuncId := 60
abbrev F_ref01_Name : FuncId := 61
abbrev F_ref23_Four : FuncId := 62
abbrev F_ref23_Value : FuncId := 63
abbrev F_ref23_number : FuncId := 64
abbrev F_slices_Clone_byte : FuncId := 65
abbrev F_journal_copied : FuncId := 66
abbrev F_journal_Frame : FuncId := 67
abbrev F_journal_Read : FuncId := 68
abbrev F_journal_joined : FuncId := 69
abbrev F_journal_Crash : FuncId := 70
abbrev F_queue_number_1 : FuncId := 71
abbrev F_queue_writer_number : FuncId := 72
abbrev F_queue_number_2 : FuncId := 73
abbrev F_queue_reader_number : FuncId := 74
abbrev F_queue_text_1 : FuncId := 75
abbrev F_queue_writer_text : FuncId := 76
abbrev F_queue_text_2 : FuncId := 77
abbrev F_queue_reader_text : FuncId := 78
abbrev F_journal_put : FuncId := 79
abbrev F_journal_check : FuncId := 80
abbrev F_journal_number : FuncId := 81
abbrev F_queue_reader_take : FuncId := 82
abbrev F_draw_Codes_Secret : FuncId := 98
/-- dataenclave/dataenclavelaw35.QueueAnswers -/
def ir_law35_QueueAnswers : RC :=
 (.seq
 (.reg 0 none [1, 3, 4, 5, 7] [
 ⟨some 5, none, (.box (.t 0))⟩,
 ⟨some 7, none, (.box (.t 2))⟩,
 ⟨some 10, none, (.mv (.k (.v (.bool false))))⟩])
 (.seq
 (.seq
 (.reg 1 none [1, 3, 4, 5, 7, 68] [
 ⟨some 42, none, (.fa 4 (.t 5))⟩,
 ⟨some 43, none, (.ld none (.t 42))⟩,
 ⟨some 44, none, (.lenS (.t 43))⟩,
 ⟨some 45, none, (.bin .gtr false (.t 44) (.k (.v (.int .i64 2000))))⟩,
 ⟨some 46, none, (.mv (.t 45))⟩,
 ⟨some 47, some (46, false), (.fa 6 (.t 5))⟩,
 ⟨some 48, some (46, false), (.ld none (.t 47))⟩,
 ⟨some 49, some (46, false), (.lenL (.t 48))⟩,
 ⟨some 50, some (46, false), (.bin .gtr false (.t 49) (.k (.v (.int .i64 10))))⟩,
 ⟨some 51, none, (.pick (.t 46) (.k (.v (.bool true))) (.t 50))⟩,
 ⟨some 52, none, (.mv (.t 51))⟩,
 ⟨some 53, some (52, false), (.mv (.t 1))⟩,
 ⟨some 54, some (52, false), (.lenL (.t 53))⟩,
 ⟨some 55, some (52, false), (.bin .gtr false (.t 54) (.k (.v (.int .i64 300))))⟩,
 ⟨some 56, none, (.pick (.t 52) (.k (.v (.bool true))) (.t 55))⟩,
 ⟨some 57, none, (.mv (.t 56))⟩,
 ⟨some 58, some (57, false), (.fa 0 (.t 7))⟩,
 ⟨some 59, some (57, false), (.ld none (.t 58))⟩,
 ⟨some 60, some (57, false), (.lenL (.t 59))⟩,
 ⟨some 61, some (57, false), (.bin .gtr false (.t 60) (.k (.v (.int .i64 300))))⟩,
 ⟨some 62, none, (.pick (.t 57) (.k (.v (.bool true))) (.t 61))⟩,
 ⟨some 63, none, (.mv (.t 62))⟩,
 ⟨some 64, some (63, false), (.fa 1 (.t 7))⟩,
 ⟨some 65, some (63, false), (.ld none (.t 64))⟩,
 ⟨some 66, some (63, false), (.lenL (.t 65))⟩,
 ⟨some 67, some (63, false), (.bin .gtr false (.t 66) (.k (.v (.int .i64 300))))⟩,
 ⟨some 68, none, (.pick (.t 63) (.k (.v (.bool true))) (.t 67))⟩])
 (.cond (.t 68)
 (.seq
 (.reg 2 none [10] [
 ⟨some 69, none, (.call (.k (.clo F_law35_awake [])) [])⟩,
 ⟨some 10, none, (.mv (.t 69))⟩])
 .ret)
 .skip))
 (.seq
 (.reg 3 none [1, 4, 5, 7, 11] [
 ⟨some 70, none, (.mv (.t 3))⟩,
 ⟨some 71, none, (.call (.k (.clo F_draw_New [])) [(.t 70)])⟩,
 ⟨some 11, none, (.mv (.t 71))⟩])
 (.seq
 (.reg 4 none [1, 4, 5, 7, 11, 12] [
 ⟨some 72, none, (.mv (.t 11))⟩,
 ⟨some 73, none, (.mv (.t 11))⟩,
 ⟨some 74, none, (.call (.k (.clo F_draw_Codes_Range [])) [(.t 73), (.k (.v (.int .i64 1))), (.k (.v (.int .i64 4)))])⟩,
 ⟨some 75, none, (.call (.k (.clo F_made_Output [])) [(.t 72), (.t 74)])⟩,
 ⟨some 12, none, (.new (.agg [(.v (.int .i64 0)), (.v (.string ⟨#[]⟩)), (.v (.string ⟨#[]⟩)), (.v (.int .i64 0)), (.v (.string ⟨#[]⟩)), (.v (.int .i64 0)), (.v (.slice none 0 0))]))⟩,
 ⟨none, none, (.st 7 (.t 12) (.t 75))⟩])
 (.seq
 (.seq
 (.reg 5 none [1, 4, 5, 7, 11, 12, 78] [
 ⟨some 76, none, (.mv (.t 11))⟩,
 ⟨some 77, none, (.call (.k (.clo F_draw_Codes_Next [])) [(.t 76), (.k (.v (.int .i64 2)))])⟩,
 ⟨some 78, none, (.bin .eql false (.t 77) (.k (.v (.int .i64 1))))⟩])
 (.cond (.t 78)
 (.reg 6 none [1, 4, 5, 7, 11, 12] [
 ⟨some 79, none, (.mv (.t 11))⟩,
 ⟨some 80, none, (.call (.k (.clo F_draw_Codes_Next [])) [(.t 79), (.k (.v (.int .i64 9)))])⟩,
 ⟨some 81, none, (.build [(.v (.string ⟨#[]⟩)), (.v (.int .i64 0))] [((0, 1), (.k (.v (.string ⟨#[97, 110, 110]⟩)))), ((1, 1), (.t 80))])⟩,
 ⟨some 82, none, (.mv (.t 11))⟩,
 ⟨some 83, none, (.call (.k (.clo F_made_Name [])) [(.t 82)])⟩,
 ⟨some 84, none, (.mv (.t 11))⟩,
 ⟨some 85, none, (.call (.k (.clo F_draw_Codes_Next [])) [(.t 84), (.k (.v (.int .i64 9)))])⟩,
 ⟨some 86, none, (.build [(.v (.string ⟨#[]⟩)), (.v (.int .i64 0))] [((0, 1), (.t 83)), ((1, 1), (.t 85))])⟩,
 ⟨some 87, none, (.bsl 2 2 [(.t 81), (.t 86)])⟩,
 ⟨some 88, none, (.mv (.t 11))⟩,
 ⟨some 89, none, (.call (.k (.clo F_draw_Codes_Range [])) [(.t 88), (.k (.v (.int .i64 1))), (.k (.v (.int .i64 2)))])⟩,
 ⟨some 90, none, (.slL 2 (.t 87) none (some (.t 89)))⟩,
 ⟨some 91, none, (.fa 6 (.t 12))⟩,
 ⟨none, none, (.st 1 (.t 91) (.t 90))⟩])
 .skip))
 (.seq
 (.reg 7 none [1, 4, 5, 7, 11, 12, 13] [
 ⟨some 13, none, (.new (.agg [(.v (.slice none 0 0)), (.v (.slice none 0 0))]))⟩])
 (.seq
 (.seq
 (.reg 8 none [1, 4, 5, 7, 11, 12, 13, 14] [
 ⟨some 92, none, (.mv (.t 11))⟩,
 ⟨some 93, none, (.call (.k (.clo F_draw_Codes_Next [])) [(.t 92), (.k (.v (.int .i64 4)))])⟩,
 ⟨some 14, none, (.mv (.t 93))⟩])
 (.block 0
 (.loop
 (.seq
 (.seq
 (.reg 9 none [1, 4, 5, 7, 11, 12, 13, 14, 95] [
 ⟨some 94, none, (.mv (.t 14))⟩,
 ⟨some 95, none, (.bin .gtr false (.t 94) (.k (.v (.int .i64 0))))⟩])
 (.cond (.t 95)
 .skip
 (.exit 0)))
 (.seq
 (.block 1
 (.reg 11 (some [0, 0, 0, 4, 14, 31, 63, 127, 127, 255]) [1, 4, 5, 7, 11, 12, 13, 14] [
 ⟨some 99, none, (.ld (some 2) (.t 13))⟩,
 ⟨some 100, none, (.mv (.t 11))⟩,
 ⟨some 101, none, (.mv (.t 11))⟩,
 ⟨some 102, none, (.call (.k (.clo F_draw_Codes_Range [])) [(.t 101), (.k (.v (.int .i64 1))), (.k (.v (.int .i64 3)))])⟩,
 ⟨some 103, none, (.call (.k (.clo F_made_Output [])) [(.t 100), (.t 102)])⟩,
 ⟨some 104, none, (.call (.k (.clo F_ref35_Put [])) [(.t 99), (.t 103)])⟩,
 ⟨some 98, none, (.mv (.t 104))⟩,
 ⟨some 105, none, (.ex (.t 98) 0)⟩,
 ⟨some 106, none, (.ex (.t 98) 1)⟩,
 ⟨none, none, (.st 2 (.t 13) (.t 105))⟩]))
 (.reg 10 none [1, 4, 5, 7, 11, 12, 13, 14] [
 ⟨some 96, none, (.mv (.t 14))⟩,
 ⟨some 97, none, (.bin .sub false (.t 96) (.k (.v (.int .i64 1))))⟩,
 ⟨some 14, none, (.mv (.t 97))⟩]))))))
 (.seq
 (.seq
 (.reg 12 none [1, 4, 7, 13, 109, 110, 111] [
 ⟨some 107, none, (.ld (some 7) (.t 5))⟩,
 ⟨some 108, none, (.ld (some 7) (.t 12))⟩,
 ⟨some 109, none, (.bsl 7 2 [(.t 107), (.t 108)])⟩,
 ⟨some 110, none, (.lenL (.t 109))⟩,
 ⟨some 111, none, (.mv (.k (.v (.int .i64 0))))⟩])
 (.block 2
 (.loop
 (.seq
 (.reg 13 none [1, 4, 7, 13, 109, 110, 111, 112] [
 ⟨some 112, none, (.bin .lss false (.t 111) (.t 110))⟩])
 (.seq
 (.cond (.t 112)
 .skip
 (.exit 2))
 (.seq
 (.block 3
 (.seq
 (.reg 14 none [1, 4, 7, 13, 16, 109, 110, 111] [
 ⟨some 113, none, (.ixL 7 (.t 109) (.t 111))⟩,
 ⟨some 114, none, (.ld (some 7) (.t 113))⟩,
 ⟨some 16, none, (.new (.agg [(.v (.int .i64 0)), (.v (.string ⟨#[]⟩)), (.v (.string ⟨#[]⟩)), (.v (.int .i64 0)), (.v (.string ⟨#[]⟩)), (.v (.int .i64 0)), (.v (.slice none 0 0))]))⟩,
 ⟨none, none, (.st 7 (.t 16) (.t 114))⟩])
 (.seq
 (.reg 15 none [1, 4, 7, 13, 16, 17, 18, 109, 110, 111] [
 ⟨some 116, none, (.ld (some 7) (.t 16))⟩,
 ⟨some 117, none, (.call (.k (.clo F_queue_Encode [])) [(.t 116)])⟩,
 ⟨some 115, none, (.mv (.t 117))⟩,
 ⟨some 118, none, (.ex (.t 115) 0)⟩,
 ⟨some 119, none, (.ex (.t 115) 1)⟩,
 ⟨some 17, none, (.mv (.t 118))⟩,
 ⟨some 18, none, (.mv (.t 119))⟩])
 (.seq
 (.reg 16 none [1, 4, 7, 13, 16, 17, 18, 19, 20, 109, 110, 111] [
 ⟨some 121, none, (.ld (some 7) (.t 16))⟩,
 ⟨some 122, none, (.call (.k (.clo F_ref35_Encode [])) [(.t 121)])⟩,
 ⟨some 120, none, (.mv (.t 122))⟩,
 ⟨some 123, none, (.ex (.t 120) 0)⟩,
 ⟨some 124, none, (.ex (.t 120) 1)⟩,
 ⟨some 19, none, (.mv (.t 123))⟩,
 ⟨some 20, none, (.mv (.t 124))⟩])
 (.seq
 (.seq
 (.reg 17 (some [0, 1, 0, 7, 15, 31, 63, 127, 63, 319, 1023, 2047, 4095, 8191, 8191, 32767, 65535]) [1, 4, 7, 13, 16, 19, 109, 110, 111, 141] [
 ⟨some 125, none, (.ld (some 7) (.t 16))⟩,
 ⟨some 126, none, (.call (.k (.clo F_queue_Valid [])) [(.t 125)])⟩,
 ⟨some 127, none, (.ld (some 7) (.t 16))⟩,
 ⟨some 128, none, (.call (.k (.clo F_ref35_Valid [])) [(.t 127)])⟩,
 ⟨some 129, none, (.bin .neq true (.t 126) (.t 128))⟩,
 ⟨some 130, none, (.mv (.t 129))⟩,
 ⟨some 131, some (130, false), (.mv (.t 17))⟩,
 ⟨some 132, some (130, false), (.cvBS (.t 131))⟩,
 ⟨some 133, some (130, false), (.mv (.t 19))⟩,
 ⟨some 134, some (130, false), (.cvBS (.t 133))⟩,
 ⟨some 135, some (130, false), (.bin .neq false (.t 132) (.t 134))⟩,
 ⟨some 136, none, (.pick (.t 130) (.k (.v (.bool true))) (.t 135))⟩,
 ⟨some 137, none, (.mv (.t 136))⟩,
 ⟨some 138, some (137, false), (.mv (.t 18))⟩,
 ⟨some 139, some (137, false), (.mv (.t 20))⟩,
 ⟨some 140, some (137, false), (.bin .neq false (.t 138) (.t 139))⟩,
 ⟨some 141, none, (.pick (.t 137) (.k (.v (.bool true))) (.t 140))⟩])
 (.cond (.t 141)
 (.seq
 (.reg 18 none [10] [
 ⟨some 10, none, (.mv (.k (.v (.bool false))))⟩])
 .ret)
 .skip))
 (.seq
 (.reg 19 none [1, 4, 7, 13, 16, 19, 21, 109, 110, 111] [
 ⟨some 142, none, (.bsl 1 0 [])⟩,
 ⟨some 143, none, (.mv (.t 19))⟩,
 ⟨some 144, none, (.app 1 1 false (.t 142) (.t 143))⟩,
 ⟨some 21, none, (.mv (.t 144))⟩])
 (.seq
 (.seq
 (.reg 20 none [1, 4, 7, 13, 16, 19, 21, 109, 110, 111, 147] [
 ⟨some 145, none, (.mv (.t 21))⟩,
 ⟨some 146, none, (.lenL (.t 145))⟩,
 ⟨some 147, none, (.bin .gtr false (.t 146) (.k (.v (.int .i64 0))))⟩])
 (.cond (.t 147)
 (.reg 21 (some [0, 0, 0, 4, 14, 31, 63, 0, 158, 414, 926, 2047, 4095, 8191]) [1, 4, 7, 13, 16, 19, 21, 109, 110, 111] [
 ⟨some 148, none, (.mv (.t 21))⟩,
 ⟨some 149, none, (.mv (.t 4))⟩,
 ⟨some 150, none, (.mv (.t 21))⟩,
 ⟨some 151, none, (.lenL (.t 150))⟩,
 ⟨some 152, none, (.call (.k (.clo F_draw_Mod [])) [(.t 149), (.t 151)])⟩,
 ⟨some 153, none, (.ixL 1 (.t 148) (.t 152))⟩,
 ⟨some 154, none, (.ld none (.t 153))⟩,
 ⟨some 155, none, (.mv (.t 4))⟩,
 ⟨some 156, none, (.call (.k (.clo F_draw_Mod [])) [(.t 155), (.k (.v (.int .i64 255)))])⟩,
 ⟨some 157, none, (.bin .add false (.k (.v (.int .i64 1))) (.t 156))⟩,
 ⟨some 158, none, (.cvI .u8 (.t 157))⟩,
 ⟨some 159, none, (.bin .xor false (.t 154) (.t 158))⟩,
 ⟨some 160, none, (.ixL 1 (.t 148) (.t 152))⟩,
 ⟨none, none, (.st 1 (.t 160) (.t 159))⟩])
 .skip))
 (.seq
 (.seq
 (.reg 22 none [1, 4, 7, 13, 16, 21, 109, 110, 111, 171, 172, 173] [
 ⟨some 161, none, (.mv (.t 1))⟩,
 ⟨some 162, none, (.mv (.t 19))⟩,
 ⟨some 163, none, (.mv (.t 21))⟩,
 ⟨some 164, none, (.mv (.t 19))⟩,
 ⟨some 165, none, (.mv (.t 4))⟩,
 ⟨some 166, none, (.mv (.t 19))⟩,
 ⟨some 167, none, (.lenL (.t 166))⟩,
 ⟨some 168, none, (.bin .add false (.t 167) (.k (.v (.int .i64 1))))⟩,
 ⟨some 169, none, (.call (.k (.clo F_draw_Mod [])) [(.t 165), (.t 168)])⟩,
 ⟨some 170, none, (.slL 1 (.t 164) none (some (.t 169)))⟩,
 ⟨some 171, none, (.bsl 1 4 [(.t 161), (.t 162), (.t 163), (.t 170)])⟩,
 ⟨some 172, none, (.lenL (.t 171))⟩,
 ⟨some 173, none, (.mv (.k (.v (.int .i64 0))))⟩])
 (.block 4
 (.loop
 (.seq
 (.reg 23 none [1, 4, 7, 13, 16, 21, 109, 110, 111, 171, 172, 173, 174] [
 ⟨some 174, none, (.bin .lss false (.t 173) (.t 172))⟩])
 (.seq
 (.cond (.t 174)
 .skip
 (.exit 4))
 (.seq
 (.block 5
 (.seq
 (.reg 24 none [1, 4, 7, 13, 16, 21, 23, 109, 110, 111, 171, 172, 173] [
 ⟨some 175, none, (.ixL 1 (.t 171) (.t 173))⟩,
 ⟨some 176, none, (.ld none (.t 175))⟩,
 ⟨some 23, none, (.mv (.t 176))⟩])
 (.seq
 (.reg 25 none [1, 4, 7, 13, 16, 21, 23, 24, 25, 109, 110, 111, 171, 172, 173] [
 ⟨some 178, none, (.mv (.t 23))⟩,
 ⟨some 179, none, (.call (.k (.clo F_queue_Decode [])) [(.t 178)])⟩,
 ⟨some 177, none, (.mv (.t 179))⟩,
 ⟨some 180, none, (.ex (.t 177) 0)⟩,
 ⟨some 181, none, (.ex (.t 177) 1)⟩,
 ⟨some 24, none, (.new (.agg [(.v (.int .i64 0)), (.v (.string ⟨#[]⟩)), (.v (.string ⟨#[]⟩)), (.v (.int .i64 0)), (.v (.string ⟨#[]⟩)), (.v (.int .i64 0)), (.v (.slice none 0 0))]))⟩,
 ⟨none, none, (.st 7 (.t 24) (.t 180))⟩,
 ⟨some 25, none, (.mv (.t 181))⟩])
 (.seq
 (.reg 26 none [1, 4, 7, 13, 16, 21, 24, 25, 26, 27, 109, 110, 111, 171, 172, 173] [
 ⟨some 183, none, (.mv (.t 23))⟩,
 ⟨some 184, none, (.call (.k (.clo F_ref35_Decode [])) [(.t 183)])⟩,
 ⟨some 182, none, (.mv (.t 184))⟩,
 ⟨some 185, none, (.ex (.t 182) 0)⟩,
 ⟨some 186, none, (.ex (.t 182) 1)⟩,
 ⟨some 26, none, (.new (.agg [(.v (.int .i64 0)), (.v (.string ⟨#[]⟩)), (.v (.string ⟨#[]⟩)), (.v (.int .i64 0)), (.v (.string ⟨#[]⟩)), (.v (.int .i64 0)), (.v (.slice none 0 0))]))⟩,
 ⟨none, none, (.st 7 (.t 26) (.t 185))⟩,
 ⟨some 27, none, (.mv (.t 186))⟩])
 (.seq
 (.reg 27 none [1, 4, 7, 13, 16, 21, 109, 110, 111, 171, 172, 173, 195] [
 ⟨some 187, none, (.ld (some 7) (.t 24))⟩,
 ⟨some 188, none, (.ld (some 7) (.t 26))⟩,
 ⟨some 189, none, (.call (.k (.clo F_ref35_Same [])) [(.t 187), (.t 188)])⟩,
 ⟨some 190, none, (.un .not (.t 189))⟩,
 ⟨some 191, none, (.mv (.t 190))⟩,
 ⟨some 192, some (191, false), (.mv (.t 25))⟩,
 ⟨some 193, some (191, false), (.mv (.t 27))⟩,
 ⟨some 194, some (191, false), (.bin .neq false (.t 192) (.t 193))⟩,
 ⟨some 195, none, (.pick (.t 191) (.k (.v (.bool true))) (.t 194))⟩])
 (.cond (.t 195)
 (.seq
 (.reg 28 none [10] [
 ⟨some 10, none, (.mv (.k (.v (.bool false))))⟩])
 .ret)
 .skip))))))
 (.reg 29 none [1, 4, 7, 13, 16, 21, 109, 110, 111, 171, 172, 173] [
 ⟨some 196, none, (.bin .add false (.t 173) (.k (.v (.int .i64 1))))⟩,
 ⟨some 173, none, (.mv (.t 196))⟩])))))))
 (.seq
 (.reg 30 none [1, 4, 7, 13, 16, 28, 109, 110, 111] [
 ⟨some 198, none, (.ld (some 2) (.t 13))⟩,
 ⟨some 199, none, (.mv (.t 21))⟩,
 ⟨some 200, none, (.call (.k (.clo F_ref23_Append [])) [(.t 198), (.t 199)])⟩,
 ⟨some 197, none, (.mv (.t 200))⟩,
 ⟨some 201, none, (.ex (.t 197) 0)⟩,
 ⟨some 202, none, (.ex (.t 197) 1)⟩,
 ⟨some 28, none, (.new (.agg [(.v (.slice none 0 0)), (.v (.slice none 0 0))]))⟩,
 ⟨none, none, (.st 2 (.t 28) (.t 201))⟩,
 ⟨some 29, none, (.mv (.t 202))⟩])
 (.seq
 (.reg 31 (some [0, 0, 0, 0, 8, 31, 63, 0]) [1, 4, 7, 13, 16, 109, 110, 111, 208, 209, 210] [
 ⟨some 203, none, (.ld (some 2) (.t 7))⟩,
 ⟨some 204, none, (.ld (some 2) (.t 13))⟩,
 ⟨some 205, none, (.ld (some 2) (.t 28))⟩,
 ⟨some 206, none, (.ld (some 2) (.t 28))⟩,
 ⟨some 207, none, (.call (.k (.clo F_ref23_Sync [])) [(.t 206)])⟩,
 ⟨some 208, none, (.bsl 2 4 [(.t 203), (.t 204), (.t 205), (.t 207)])⟩,
 ⟨some 209, none, (.lenL (.t 208))⟩,
 ⟨some 210, none, (.mv (.k (.v (.int .i64 0))))⟩])
 (.block 6
 (.loop
 (.seq
 (.reg 32 none [1, 4, 7, 13, 16, 109, 110, 111, 208, 209, 210, 211] [
 ⟨some 211, none, (.bin .lss false (.t 210) (.t 209))⟩])
 (.seq
 (.cond (.t 211)
 .skip
 (.exit 6))
 (.seq
 (.block 7
 (.seq
 (.reg 33 none [1, 4, 7, 13, 16, 31, 109, 110, 111, 208, 209, 210] [
 ⟨some 212, none, (.ixL 2 (.t 208) (.t 210))⟩,
 ⟨some 213, none, (.ld (some 2) (.t 212))⟩,
 ⟨some 31, none, (.new (.agg [(.v (.slice none 0 0)), (.v (.slice none 0 0))]))⟩,
 ⟨none, none, (.st 2 (.t 31) (.t 213))⟩])
 (.seq
 (.reg 34 none [1, 4, 7, 13, 16, 31, 32, 33, 109, 110, 111, 208, 209, 210] [
 ⟨some 215, none, (.ld (some 2) (.t 31))⟩,
 ⟨some 216, none, (.ld (some 7) (.t 16))⟩,
 ⟨some 217, none, (.call (.k (.clo F_queue_Put [])) [(.t 215), (.t 216)])⟩,
 ⟨some 214, none, (.mv (.t 217))⟩,
 ⟨some 218, none, (.ex (.t 214) 0)⟩,
 ⟨some 219, none, (.ex (.t 214) 1)⟩,
 ⟨some 32, none, (.new (.agg [(.v (.slice none 0 0)), (.v (.slice none 0 0))]))⟩,
 ⟨none, none, (.st 2 (.t 32) (.t 218))⟩,
 ⟨some 33, none, (.mv (.t 219))⟩])
 (.seq
 (.reg 35 none [1, 4, 7, 13, 16, 31, 32, 33, 34, 35, 109, 110, 111, 208, 209, 210] [
 ⟨some 221, none, (.ld (some 2) (.t 31))⟩,
 ⟨some 222, none, (.ld (some 7) (.t 16))⟩,
 ⟨some 223, none, (.call (.k (.clo F_ref35_Put [])) [(.t 221), (.t 222)])⟩,
 ⟨some 220, none, (.mv (.t 223))⟩,
 ⟨some 224, none, (.ex (.t 220) 0)⟩,
 ⟨some 225, none, (.ex (.t 220) 1)⟩,
 ⟨some 34, none, (.new (.agg [(.v (.slice none 0 0)), (.v (.slice none 0 0))]))⟩,
 ⟨none, none, (.st 2 (.t 34) (.t 224))⟩,
 ⟨some 35, none, (.mv (.t 225))⟩])
 (.seq
 (.reg 36 none [1, 4, 7, 13, 16, 31, 32, 33, 34, 35, 36, 37, 38, 109, 110, 111, 208, 209, 210] [
 ⟨some 227, none, (.ld (some 2) (.t 31))⟩,
 ⟨some 228, none, (.call (.k (.clo F_queue_Load [])) [(.t 227)])⟩,
 ⟨some 226, none, (.mv (.t 228))⟩,
 ⟨some 229, none, (.ex (.t 226) 0)⟩,
 ⟨some 230, none, (.ex (.t 226) 1)⟩,
 ⟨some 231, none, (.ex (.t 226) 2)⟩,
 ⟨some 36, none, (.new (.agg [(.v (.slice none 0 0)), (.v (.slice none 0 0))]))⟩,
 ⟨none, none, (.st 2 (.t 36) (.t 229))⟩,
 ⟨some 37, none, (.mv (.t 230))⟩,
 ⟨some 38, none, (.mv (.t 231))⟩])
 (.seq
 (.reg 37 none [1, 4, 7, 13, 16, 32, 33, 34, 35, 36, 37, 38, 39, 40, 41, 109, 110, 111, 208, 209, 210] [
 ⟨some 233, none, (.ld (some 2) (.t 31))⟩,
 ⟨some 234, none, (.call (.k (.clo F_ref35_Load [])) [(.t 233)])⟩,
 ⟨some 232, none, (.mv (.t 234))⟩,
 ⟨some 235, none, (.ex (.t 232) 0)⟩,
 ⟨some 236, none, (.ex (.t 232) 1)⟩,
 ⟨some 237, none, (.ex (.t 232) 2)⟩,
 ⟨some 39, none, (.new (.agg [(.v (.slice none 0 0)), (.v (.slice none 0 0))]))⟩,
 ⟨none, none, (.st 2 (.t 39) (.t 235))⟩,
 ⟨some 40, none, (.mv (.t 236))⟩,
 ⟨some 41, none, (.mv (.t 237))⟩])
 (.seq
 (.reg 38 none [1, 4, 7, 13, 16, 109, 110, 111, 208, 209, 210, 263] [
 ⟨some 238, none, (.ld (some 2) (.t 32))⟩,
 ⟨some 239, none, (.ld (some 2) (.t 34))⟩,
 ⟨some 240, none, (.call (.k (.clo F_ref23_Same [])) [(.t 238), (.t 239)])⟩,
 ⟨some 241, none, (.un .not (.t 240))⟩,
 ⟨some 242, none, (.mv (.t 241))⟩,
 ⟨some 243, some (242, false), (.mv (.t 33))⟩,
 ⟨some 244, some (242, false), (.mv (.t 35))⟩,
 ⟨some 245, some (242, false), (.bin .neq false (.t 243) (.t 244))⟩,
 ⟨some 246, none, (.pick (.t 242) (.k (.v (.bool true))) (.t 245))⟩,
 ⟨some 247, none, (.mv (.t 246))⟩,
 ⟨some 248, some (247, false), (.ld (some 2) (.t 36))⟩,
 ⟨some 249, some (247, false), (.ld (some 2) (.t 39))⟩,
 ⟨some 250, some (247, false), (.call (.k (.clo F_ref23_Same [])) [(.t 248), (.t 249)])⟩,
 ⟨some 251, some (247, false), (.un .not (.t 250))⟩,
 ⟨some 252, none, (.pick (.t 247) (.k (.v (.bool true))) (.t 251))⟩,
 ⟨some 253, none, (.mv (.t 252))⟩,
 ⟨some 254, some (253, false), (.mv (.t 37))⟩,
 ⟨some 255, some (253, false), (.mv (.t 40))⟩,
 ⟨some 256, some (253, false), (.call (.k (.clo F_ref35_Alike [])) [(.t 254), (.t 255)])⟩,
 ⟨some 257, some (253, false), (.un .not (.t 256))⟩,
 ⟨some 258, none, (.pick (.t 253) (.k (.v (.bool true))) (.t 257))⟩,
 ⟨some 259, none, (.mv (.t 258))⟩,
 ⟨some 260, some (259, false), (.mv (.t 38))⟩,
 ⟨some 261, some (259, false), (.mv (.t 41))⟩,
 ⟨some 262, some (259, false), (.bin .neq false (.t 260) (.t 261))⟩,
 ⟨some 263, none, (.pick (.t 259) (.k (.v (.bool true))) (.t 262))⟩])
 (.cond (.t 263)
 (.seq
 (.reg 39 none [10] [
 ⟨some 10, none, (.mv (.k (.v (.bool false))))⟩])
 .ret)
 .skip))))))))
 (.reg 40 none [1, 4, 7, 13, 16, 109, 110, 111, 208, 209, 210] [
 ⟨some 264, none, (.bin .add false (.t 210) (.k (.v (.int .i64 1))))⟩,
 ⟨some 210, none, (.mv (.t 264))⟩]))))))))))))))))
 (.reg 41 none [1, 4, 7, 13, 109, 110, 111] [
 ⟨some 265, none, (.bin .add false (.t 111) (.k (.v (.int .i64 1))))⟩,
 ⟨some 111, none, (.mv (.t 265))⟩])))))))
 (.seq
 (.reg 42 none [10] [
 ⟨some 266, none, (.call (.k (.clo F_law35_awake [])) [])⟩,
 ⟨some 10, none, (.mv (.t 266))⟩])
 .ret)))))))))
theorem fn_law35_QueueAnswers : FnIR Try.prog F_law35_QueueAnswers 267 [(0, [1, 3, 4, 5, 7]), (1, [1, 3, 4, 5, 7, 68]), (2, [10]), (3, [1, 4, 5, 7, 11]), (4, [1, 4, 5, 7, 11, 12]), (5, [1, 4, 5, 7, 11, 12, 78]), (6, [1, 4, 5, 7, 11, 12]), (7, [1, 4, 5, 7, 11, 12, 13]), (8, [1, 4, 5, 7, 11, 12, 13, 14]), (9, [1, 4, 5, 7, 11, 12, 13, 14, 95]), (10, [1, 4, 5, 7, 11, 12, 13, 14]), (11, [1, 4, 5, 7, 11, 12, 13, 14]), (12, [1, 4, 7, 13, 109, 110, 111]), (13, [1, 4, 7, 13, 109, 110, 111, 112]), (14, [1, 4, 7, 13, 16, 109, 110, 111]), (15, [1, 4, 7, 13, 16, 17, 18, 109, 110, 111]), (16, [1, 4, 7, 13, 16, 17, 18, 19, 20, 109, 110, 111]), (17, [1, 4, 7, 13, 16, 19, 109, 110, 111, 141]), (18, [10]), (19, [1, 4, 7, 13, 16, 19, 21, 109, 110, 111]), (20, [1, 4, 7, 13, 16, 19, 21, 109, 110, 111, 147]), (21, [1, 4, 7, 13, 16, 19, 21, 109, 110, 111]), (22, [1, 4, 7, 13, 16, 21, 109, 110, 111, 171, 172, 173]), (23, [1, 4, 7, 13, 16, 21, 109, 110, 111, 171, 172, 173, 174]), (24, [1, 4, 7, 13, 16, 21, 23, 109, 110, 111, 171, 172, 173]), (25, [1, 4, 7, 13, 16, 21, 23, 24, 25, 109, 110, 111, 171, 172, 173]), (26, [1, 4, 7, 13, 16, 21, 24, 25, 26, 27, 109, 110, 111, 171, 172, 173]), (27, [1, 4, 7, 13, 16, 21, 109, 110, 111, 171, 172, 173, 195]), (28, [10]), (29, [1, 4, 7, 13, 16, 21, 109, 110, 111, 171, 172, 173]), (30, [1, 4, 7, 13, 16, 28, 109, 110, 111]), (31, [1, 4, 7, 13, 16, 109, 110, 111, 208, 209, 210]), (32, [1, 4, 7, 13, 16, 109, 110, 111, 208, 209, 210, 211]), (33, [1, 4, 7, 13, 16, 31, 109, 110, 111, 208, 209, 210]), (34, [1, 4, 7, 13, 16, 31, 32, 33, 109, 110, 111, 208, 209, 210]), (35, [1, 4, 7, 13, 16, 31, 32, 33, 34, 35, 109, 110, 111, 208, 209, 210]), (36, [1, 4, 7, 13, 16, 31, 32, 33, 34, 35, 36, 37, 38, 109, 110, 111, 208, 209, 210]), (37, [1, 4, 7, 13, 16, 32, 33, 34, 35, 36, 37, 38, 39, 40, 41, 109, 110, 111, 208, 209, 210]), (38, [1, 4, 7, 13, 16, 109, 110, 111, 208, 209, 210, 263]), (39, [10]), (40, [1, 4, 7, 13, 16, 109, 110, 111, 208, 209, 210]), (41, [1, 4, 7, 13, 109, 110, 111]), (42, [10])] ir_law35_QueueAnswers [(.tmp 10)] :=
 ⟨Try.f3, _, Try.func3, rfl, by kernel_rfl, rfl, by kernel_rfl, by kernel_rfl⟩

/-- dataenclave/dataenclavelaw35.QueueBack -/
def ir_law35_QueueBack : RC :=
 (.seq
 (.reg 0 none [0, 1] [
 ⟨some 4, none, (.mv (.k (.v (.bool false))))⟩])
 (.seq
 (.reg 1 none [1, 5] [
 ⟨some 15, none, (.mv (.t 0))⟩,
 ⟨some 16, none, (.call (.k (.clo F_draw_New [])) [(.t 15)])⟩,
 ⟨some 5, none, (.mv (.t 16))⟩])
 (.seq
 (.reg 2 none [1, 6] [
 ⟨some 17, none, (.mv (.t 5))⟩,
 ⟨some 18, none, (.mv (.t 5))⟩,
 ⟨some 19, none, (.call (.k (.clo F_draw_Codes_Range [])) [(.t 18), (.k (.v (.int .i64 1))), (.k (.v (.int .i64 40)))])⟩,
 ⟨some 20, none, (.call (.k (.clo F_made_Output [])) [(.t 17), (.t 19)])⟩,
 ⟨some 6, none, (.new (.agg [(.v (.int .i64 0)), (.v (.string ⟨#[]⟩)), (.v (.string ⟨#[]⟩)), (.v (.int .i64 0)), (.v (.string ⟨#[]⟩)), (.v (.int .i64 0)), (.v (.slice none 0 0))]))⟩,
 ⟨none, none, (.st 7 (.t 6) (.t 20))⟩])
 (.seq
 (.reg 3 none [1, 6, 7, 8] [
 ⟨some 22, none, (.ld (some 7) (.t 6))⟩,
 ⟨some 23, none, (.call (.k (.clo F_queue_Encode [])) [(.t 22)])⟩,
 ⟨some 21, none, (.mv (.t 23))⟩,
 ⟨some 24, none, (.ex (.t 21) 0)⟩,
 ⟨some 25, none, (.ex (.t 21) 1)⟩,
 ⟨some 7, none, (.mv (.t 24))⟩,
 ⟨some 8, none, (.mv (.t 25))⟩])
 (.seq
 (.reg 4 none [1, 6, 7, 8, 9, 10] [
 ⟨some 27, none, (.mv (.t 7))⟩,
 ⟨some 28, none, (.call (.k (.clo F_queue_Decode [])) [(.t 27)])⟩,
 ⟨some 26, none, (.mv (.t 28))⟩,
 ⟨some 29, none, (.ex (.t 26) 0)⟩,
 ⟨some 30, none, (.ex (.t 26) 1)⟩,
 ⟨some 9, none, (.new (.agg [(.v (.int .i64 0)), (.v (.string ⟨#[]⟩)), (.v (.string ⟨#[]⟩)), (.v (.int .i64 0)), (.v (.string ⟨#[]⟩)), (.v (.int .i64 0)), (.v (.slice none 0 0))]))⟩,
 ⟨none, none, (.st 7 (.t 9) (.t 29))⟩,
 ⟨some 10, none, (.mv (.t 30))⟩])
 (.seq
 (.reg 5 none [6, 7, 8, 9, 10, 12] [
 ⟨some 32, none, (.bsl 1 0 [])⟩,
 ⟨some 33, none, (.mv (.t 7))⟩,
 ⟨some 34, none, (.app 1 1 false (.t 32) (.t 33))⟩,
 ⟨some 35, none, (.mv (.t 1))⟩,
 ⟨some 36, none, (.bsl 1 1 [(.t 35)])⟩,
 ⟨some 37, none, (.app 1 1 false (.t 34) (.t 36))⟩,
 ⟨some 38, none, (.call (.k (.clo F_queue_Decode [])) [(.t 37)])⟩,
 ⟨some 31, none, (.mv (.t 38))⟩,
 ⟨some 39, none, (.ex (.t 31) 0)⟩,
 ⟨some 40, none, (.ex (.t 31) 1)⟩,
 ⟨some 11, none, (.new (.agg [(.v (.int .i64 0)), (.v (.string ⟨#[]⟩)), (.v (.string ⟨#[]⟩)), (.v (.int .i64 0)), (.v (.string ⟨#[]⟩)), (.v (.int .i64 0)), (.v (.slice none 0 0))]))⟩,
 ⟨none, none, (.st 7 (.t 11) (.t 39))⟩,
 ⟨some 12, none, (.mv (.t 40))⟩])
 (.seq
 (.seq
 (.reg 6 none [6, 7, 9, 10, 12, 47] [
 ⟨some 41, none, (.mv (.t 8))⟩,
 ⟨some 42, none, (.bin .neq false (.t 41) (.k (.v (.int .i64 0))))⟩,
 ⟨some 43, none, (.mv (.t 42))⟩,
 ⟨some 44, some (43, false), (.mv (.t 7))⟩,
 ⟨some 45, some (43, false), (.lenL (.t 44))⟩,
 ⟨some 46, some (43, false), (.bin .eql false (.t 45) (.k (.v (.int .i64 0))))⟩,
 ⟨some 47, none, (.pick (.t 43) (.k (.v (.bool true))) (.t 46))⟩])
 (.cond (.t 47)
 (.seq
 (.reg 7 none [4] [
 ⟨some 4, none, (.mv (.k (.v (.bool false))))⟩])
 .ret)
 .skip))
 (.seq
 (.reg 8 none [6, 9, 10, 12, 14] [
 ⟨some 49, none, (.mv (.t 7))⟩,
 ⟨some 50, none, (.mv (.t 7))⟩,
 ⟨some 51, none, (.lenL (.t 50))⟩,
 ⟨some 52, none, (.bin .sub false (.t 51) (.k (.v (.int .i64 1))))⟩,
 ⟨some 53, none, (.slL 1 (.t 49) none (some (.t 52)))⟩,
 ⟨some 54, none, (.call (.k (.clo F_queue_Decode [])) [(.t 53)])⟩,
 ⟨some 48, none, (.mv (.t 54))⟩,
 ⟨some 55, none, (.ex (.t 48) 0)⟩,
 ⟨some 56, none, (.ex (.t 48) 1)⟩,
 ⟨some 13, none, (.new (.agg [(.v (.int .i64 0)), (.v (.string ⟨#[]⟩)), (.v (.string ⟨#[]⟩)), (.v (.int .i64 0)), (.v (.string ⟨#[]⟩)), (.v (.int .i64 0)), (.v (.slice none 0 0))]))⟩,
 ⟨none, none, (.st 7 (.t 13) (.t 55))⟩,
 ⟨some 14, none, (.mv (.t 56))⟩])
 (.seq
 (.reg 9 none [4] [
 ⟨some 57, none, (.mv (.t 10))⟩,
 ⟨some 58, none, (.bin .eql false (.t 57) (.k (.v (.int .i64 0))))⟩,
 ⟨some 59, none, (.mv (.t 58))⟩,
 ⟨some 60, some (59, true), (.ld (some 7) (.t 6))⟩,
 ⟨some 61, some (59, true), (.ld (some 7) (.t 9))⟩,
 ⟨some 62, some (59, true), (.call (.k (.clo F_ref35_Same [])) [(.t 60), (.t 61)])⟩,
 ⟨some 63, none, (.pick (.t 59) (.t 62) (.k (.v (.bool false))))⟩,
 ⟨some 64, none, (.mv (.t 63))⟩,
 ⟨some 65, some (64, true), (.mv (.t 12))⟩,
 ⟨some 66, some (64, true), (.bin .eql false (.t 65) (.k (.v (.int .i64 11))))⟩,
 ⟨some 67, none, (.pick (.t 64) (.t 66) (.k (.v (.bool false))))⟩,
 ⟨some 68, none, (.mv (.t 67))⟩,
 ⟨some 69, some (68, true), (.mv (.t 14))⟩,
 ⟨some 70, some (68, true), (.bin .eql false (.t 69) (.k (.v (.int .i64 11))))⟩,
 ⟨some 71, none, (.pick (.t 68) (.t 70) (.k (.v (.bool false))))⟩,
 ⟨some 72, none, (.mv (.t 71))⟩,
 ⟨some 73, some (72, true), (.call (.k (.clo F_law35_awake [])) [])⟩,
 ⟨some 74, none, (.pick (.t 72) (.t 73) (.k (.v (.bool false))))⟩,
 ⟨some 4, none, (.mv (.t 74))⟩])
 .ret)))))))))
theorem fn_law35_QueueBack : FnIR Try.prog F_law35_QueueBack 75 [(0, [0, 1]), (1, [1, 5]), (2, [1, 6]), (3, [1, 6, 7, 8]), (4, [1, 6, 7, 8, 9, 10]), (5, [6, 7, 8, 9, 10, 12]), (6, [6, 7, 9, 10, 12, 47]), (7, [4]), (8, [6, 9, 10, 12, 14]), (9, [4])] ir_law35_QueueBack [(.tmp 4)] :=
 ⟨Try.f4, _, Try.func4, rfl, by kernel_rfl, rfl, by kernel_rfl, by kernel_rfl⟩

/-- dataenclave/dataenclavelaw35.QueueKeeps -/
def ir_law35_QueueKeeps : RC :=
 (.seq
 (.reg 0 none [0, 1] [
 ⟨some 4, none, (.mv (.k (.v (.bool false))))⟩])
 (.seq
 (.reg 1 none [1, 5] [
 ⟨some 23, none, (.mv (.t 0))⟩,
 ⟨some 24, none, (.call (.k (.clo F_draw_New [])) [(.t 23)])⟩,
 ⟨some 5, none, (.mv (.t 24))⟩])
 (.seq
 (.reg 2 none [1, 5, 6] [
 ⟨some 6, none, (.new (.agg [(.v (.slice none 0 0)), (.v (.slice none 0 0))]))⟩])
 (.seq
 (.reg 3 none [1, 5, 6, 7] [
 ⟨some 7, none, (.mv (.k (.v (.slice none 0 0))))⟩])
 (.seq
 (.seq
 (.reg 4 none [1, 5, 6, 7, 8] [
 ⟨some 25, none, (.mv (.t 5))⟩,
 ⟨some 26, none, (.call (.k (.clo F_draw_Codes_Next [])) [(.t 25), (.k (.v (.int .i64 8)))])⟩,
 ⟨some 8, none, (.mv (.t 26))⟩])
 (.block 0
 (.loop
 (.seq
 (.seq
 (.reg 5 none [1, 5, 6, 7, 8, 28] [
 ⟨some 27, none, (.mv (.t 8))⟩,
 ⟨some 28, none, (.bin .gtr false (.t 27) (.k (.v (.int .i64 0))))⟩])
 (.cond (.t 28)
 .skip
 (.exit 0)))
 (.seq
 (.block 1
 (.seq
 (.reg 7 none [1, 5, 6, 7, 8, 9] [
 ⟨some 31, none, (.mv (.t 5))⟩,
 ⟨some 32, none, (.mv (.t 5))⟩,
 ⟨some 33, none, (.mv (.t 7))⟩,
 ⟨some 34, none, (.lenL (.t 33))⟩,
 ⟨some 35, none, (.bin .add false (.t 34) (.k (.v (.int .i64 1))))⟩,
 ⟨some 36, none, (.call (.k (.clo F_draw_Codes_Range [])) [(.t 32), (.k (.v (.int .i64 1))), (.t 35)])⟩,
 ⟨some 37, none, (.call (.k (.clo F_made_Output [])) [(.t 31), (.t 36)])⟩,
 ⟨some 9, none, (.new (.agg [(.v (.int .i64 0)), (.v (.string ⟨#[]⟩)), (.v (.string ⟨#[]⟩)), (.v (.int .i64 0)), (.v (.string ⟨#[]⟩)), (.v (.int .i64 0)), (.v (.slice none 0 0))]))⟩,
 ⟨none, none, (.st 7 (.t 9) (.t 37))⟩])
 (.seq
 (.reg 8 none [1, 5, 6, 7, 8, 9, 10, 11] [
 ⟨some 39, none, (.ld (some 2) (.t 6))⟩,
 ⟨some 40, none, (.ld (some 7) (.t 9))⟩,
 ⟨some 41, none, (.call (.k (.clo F_queue_Put [])) [(.t 39), (.t 40)])⟩,
 ⟨some 38, none, (.mv (.t 41))⟩,
 ⟨some 42, none, (.ex (.t 38) 0)⟩,
 ⟨some 43, none, (.ex (.t 38) 1)⟩,
 ⟨some 10, none, (.new (.agg [(.v (.slice none 0 0)), (.v (.slice none 0 0))]))⟩,
 ⟨none, none, (.st 2 (.t 10) (.t 42))⟩,
 ⟨some 11, none, (.mv (.t 43))⟩])
 (.seq
 (.seq
 (.reg 9 none [1, 5, 6, 7, 8, 9, 10, 45] [
 ⟨some 44, none, (.mv (.t 11))⟩,
 ⟨some 45, none, (.bin .neq false (.t 44) (.k (.v (.int .i64 0))))⟩])
 (.cond (.t 45)
 (.seq
 (.reg 10 none [4] [
 ⟨some 4, none, (.mv (.k (.v (.bool false))))⟩])
 .ret)
 .skip))
 (.seq
 (.reg 11 none [1, 5, 6, 7, 8, 9] [
 ⟨some 46, none, (.ld (some 2) (.t 10))⟩,
 ⟨none, none, (.st 2 (.t 6) (.t 46))⟩])
 (.seq
 (.reg 12 none [1, 5, 6, 7, 8, 9, 51] [
 ⟨some 47, none, (.fa 0 (.t 9))⟩,
 ⟨some 48, none, (.ld none (.t 47))⟩,
 ⟨some 49, none, (.mv (.t 7))⟩,
 ⟨some 50, none, (.lenL (.t 49))⟩,
 ⟨some 51, none, (.bin .gtr false (.t 48) (.t 50))⟩])
 (.cond (.t 51)
 (.reg 13 none [1, 5, 6, 7, 8] [
 ⟨some 52, none, (.mv (.t 7))⟩,
 ⟨some 53, none, (.ld (some 7) (.t 9))⟩,
 ⟨some 54, none, (.bsl 7 1 [(.t 53)])⟩,
 ⟨some 55, none, (.app 7 96 false (.t 52) (.t 54))⟩,
 ⟨some 7, none, (.mv (.t 55))⟩])
 (.reg 14 none [1, 5, 6, 7, 8] [
 ⟨some 56, none, (.mv (.t 7))⟩,
 ⟨some 57, none, (.fa 0 (.t 9))⟩,
 ⟨some 58, none, (.ld none (.t 57))⟩,
 ⟨some 59, none, (.bin .sub false (.t 58) (.k (.v (.int .i64 1))))⟩,
 ⟨some 60, none, (.ld (some 7) (.t 9))⟩,
 ⟨some 61, none, (.ixL 7 (.t 56) (.t 59))⟩,
 ⟨none, none, (.st 7 (.t 61) (.t 60))⟩]))))))))
 (.reg 6 none [1, 5, 6, 7, 8] [
 ⟨some 29, none, (.mv (.t 8))⟩,
 ⟨some 30, none, (.bin .sub false (.t 29) (.k (.v (.int .i64 1))))⟩,
 ⟨some 8, none, (.mv (.t 30))⟩]))))))
 (.seq
 (.reg 15 none [1, 5, 6, 7, 13, 14] [
 ⟨some 63, none, (.ld (some 2) (.t 6))⟩,
 ⟨some 64, none, (.call (.k (.clo F_queue_Load [])) [(.t 63)])⟩,
 ⟨some 62, none, (.mv (.t 64))⟩,
 ⟨some 65, none, (.ex (.t 62) 0)⟩,
 ⟨some 66, none, (.ex (.t 62) 1)⟩,
 ⟨some 67, none, (.ex (.t 62) 2)⟩,
 ⟨some 12, none, (.new (.agg [(.v (.slice none 0 0)), (.v (.slice none 0 0))]))⟩,
 ⟨none, none, (.st 2 (.t 12) (.t 65))⟩,
 ⟨some 13, none, (.mv (.t 66))⟩,
 ⟨some 14, none, (.mv (.t 67))⟩])
 (.seq
 (.seq
 (.reg 16 none [1, 5, 6, 7, 75] [
 ⟨some 68, none, (.mv (.t 14))⟩,
 ⟨some 69, none, (.bin .neq false (.t 68) (.k (.v (.int .i64 0))))⟩,
 ⟨some 70, none, (.mv (.t 69))⟩,
 ⟨some 71, some (70, false), (.mv (.t 13))⟩,
 ⟨some 72, some (70, false), (.mv (.t 7))⟩,
 ⟨some 73, some (70, false), (.call (.k (.clo F_ref35_Alike [])) [(.t 71), (.t 72)])⟩,
 ⟨some 74, some (70, false), (.un .not (.t 73))⟩,
 ⟨some 75, none, (.pick (.t 70) (.k (.v (.bool true))) (.t 74))⟩])
 (.cond (.t 75)
 (.seq
 (.reg 17 none [4] [
 ⟨some 4, none, (.mv (.k (.v (.bool false))))⟩])
 .ret)
 .skip))
 (.seq
 (.reg 18 none [1, 6, 7, 15] [
 ⟨some 76, none, (.mv (.t 5))⟩,
 ⟨some 77, none, (.mv (.t 5))⟩,
 ⟨some 78, none, (.mv (.t 7))⟩,
 ⟨some 79, none, (.lenL (.t 78))⟩,
 ⟨some 80, none, (.bin .add false (.t 79) (.k (.v (.int .i64 1))))⟩,
 ⟨some 81, none, (.call (.k (.clo F_draw_Codes_Range [])) [(.t 77), (.k (.v (.int .i64 1))), (.t 80)])⟩,
 ⟨some 82, none, (.call (.k (.clo F_made_Output [])) [(.t 76), (.t 81)])⟩,
 ⟨some 15, none, (.new (.agg [(.v (.int .i64 0)), (.v (.string ⟨#[]⟩)), (.v (.string ⟨#[]⟩)), (.v (.int .i64 0)), (.v (.string ⟨#[]⟩)), (.v (.int .i64 0)), (.v (.slice none 0 0))]))⟩,
 ⟨none, none, (.st 7 (.t 15) (.t 82))⟩])
 (.seq
 (.reg 19 none [1, 6, 7, 15, 16, 17] [
 ⟨some 84, none, (.ld (some 7) (.t 15))⟩,
 ⟨some 85, none, (.call (.k (.clo F_queue_Encode [])) [(.t 84)])⟩,
 ⟨some 83, none, (.mv (.t 85))⟩,
 ⟨some 86, none, (.ex (.t 83) 0)⟩,
 ⟨some 87, none, (.ex (.t 83) 1)⟩,
 ⟨some 16, none, (.mv (.t 86))⟩,
 ⟨some 17, none, (.mv (.t 87))⟩])
 (.seq
 (.reg 20 none [1, 7, 15, 17, 18, 19] [
 ⟨some 89, none, (.ld (some 2) (.t 6))⟩,
 ⟨some 90, none, (.mv (.t 16))⟩,
 ⟨some 91, none, (.call (.k (.clo F_ref23_Append [])) [(.t 89), (.t 90)])⟩,
 ⟨some 88, none, (.mv (.t 91))⟩,
 ⟨some 92, none, (.ex (.t 88) 0)⟩,
 ⟨some 93, none, (.ex (.t 88) 1)⟩,
 ⟨some 18, none, (.new (.agg [(.v (.slice none 0 0)), (.v (.slice none 0 0))]))⟩,
 ⟨none, none, (.st 2 (.t 18) (.t 92))⟩,
 ⟨some 19, none, (.mv (.t 93))⟩])
 (.seq
 (.reg 21 none [7, 13, 15, 17, 19, 21] [
 ⟨some 95, none, (.ld (some 2) (.t 18))⟩,
 ⟨some 96, none, (.mv (.t 1))⟩,
 ⟨some 97, none, (.call (.k (.clo F_ref23_Crash [])) [(.t 95), (.t 96)])⟩,
 ⟨some 98, none, (.call (.k (.clo F_queue_Load [])) [(.t 97)])⟩,
 ⟨some 94, none, (.mv (.t 98))⟩,
 ⟨some 99, none, (.ex (.t 94) 0)⟩,
 ⟨some 100, none, (.ex (.t 94) 1)⟩,
 ⟨some 101, none, (.ex (.t 94) 2)⟩,
 ⟨some 20, none, (.new (.agg [(.v (.slice none 0 0)), (.v (.slice none 0 0))]))⟩,
 ⟨none, none, (.st 2 (.t 20) (.t 99))⟩,
 ⟨some 13, none, (.mv (.t 100))⟩,
 ⟨some 21, none, (.mv (.t 101))⟩])
 (.seq
 (.reg 22 none [7, 13, 15, 17, 19, 21, 22] [
 ⟨some 102, none, (.bsl 7 0 [])⟩,
 ⟨some 103, none, (.mv (.t 7))⟩,
 ⟨some 104, none, (.app 7 96 false (.t 102) (.t 103))⟩,
 ⟨some 22, none, (.mv (.t 104))⟩])
 (.seq
 (.seq
 (.reg 23 none [7, 13, 15, 17, 19, 21, 22, 109] [
 ⟨some 105, none, (.fa 0 (.t 15))⟩,
 ⟨some 106, none, (.ld none (.t 105))⟩,
 ⟨some 107, none, (.mv (.t 7))⟩,
 ⟨some 108, none, (.lenL (.t 107))⟩,
 ⟨some 109, none, (.bin .gtr false (.t 106) (.t 108))⟩])
 (.cond (.t 109)
 (.reg 24 none [7, 13, 17, 19, 21, 22] [
 ⟨some 110, none, (.mv (.t 22))⟩,
 ⟨some 111, none, (.ld (some 7) (.t 15))⟩,
 ⟨some 112, none, (.bsl 7 1 [(.t 111)])⟩,
 ⟨some 113, none, (.app 7 96 false (.t 110) (.t 112))⟩,
 ⟨some 22, none, (.mv (.t 113))⟩])
 (.reg 25 none [7, 13, 17, 19, 21, 22] [
 ⟨some 114, none, (.mv (.t 22))⟩,
 ⟨some 115, none, (.fa 0 (.t 15))⟩,
 ⟨some 116, none, (.ld none (.t 115))⟩,
 ⟨some 117, none, (.bin .sub false (.t 116) (.k (.v (.int .i64 1))))⟩,
 ⟨some 118, none, (.ld (some 7) (.t 15))⟩,
 ⟨some 119, none, (.ixL 7 (.t 114) (.t 117))⟩,
 ⟨none, none, (.st 7 (.t 119) (.t 118))⟩])))
 (.seq
 (.reg 26 none [4] [
 ⟨some 120, none, (.mv (.t 17))⟩,
 ⟨some 121, none, (.bin .eql false (.t 120) (.k (.v (.int .i64 0))))⟩,
 ⟨some 122, none, (.mv (.t 121))⟩,
 ⟨some 123, some (122, true), (.mv (.t 19))⟩,
 ⟨some 124, some (122, true), (.bin .eql false (.t 123) (.k (.v (.int .i64 0))))⟩,
 ⟨some 125, none, (.pick (.t 122) (.t 124) (.k (.v (.bool false))))⟩,
 ⟨some 126, none, (.mv (.t 125))⟩,
 ⟨some 127, some (126, true), (.mv (.t 21))⟩,
 ⟨some 128, some (126, true), (.bin .eql false (.t 127) (.k (.v (.int .i64 0))))⟩,
 ⟨some 129, none, (.pick (.t 126) (.t 128) (.k (.v (.bool false))))⟩,
 ⟨some 130, none, (.mv (.t 129))⟩,
 ⟨some 131, some (130, true), (.mv (.t 13))⟩,
 ⟨some 132, some (130, true), (.mv (.t 7))⟩,
 ⟨some 133, some (130, true), (.call (.k (.clo F_ref35_Alike [])) [(.t 131), (.t 132)])⟩,
 ⟨some 134, some (130, true), (.mv (.t 133))⟩,
 ⟨some 135, some (134, false), (.mv (.t 13))⟩,
 ⟨some 136, some (134, false), (.mv (.t 22))⟩,
 ⟨some 137, some (134, false), (.call (.k (.clo F_ref35_Alike [])) [(.t 135), (.t 136)])⟩,
 ⟨some 138, some (130, true), (.pick (.t 134) (.k (.v (.bool true))) (.t 137))⟩,
 ⟨some 139, none, (.pick (.t 130) (.t 138) (.k (.v (.bool false))))⟩,
 ⟨some 140, none, (.mv (.t 139))⟩,
 ⟨some 141, some (140, true), (.call (.k (.clo F_law35_awake [])) [])⟩,
 ⟨some 142, none, (.pick (.t 140) (.t 141) (.k (.v (.bool false))))⟩,
 ⟨some 4, none, (.mv (.t 142))⟩])
 .ret))))))))))))))
theorem fn_law35_QueueKeeps : FnIR Try.prog F_law35_QueueKeeps 143 [(0, [0, 1]), (1, [1, 5]), (2, [1, 5, 6]), (3, [1, 5, 6, 7]), (4, [1, 5, 6, 7, 8]), (5, [1, 5, 6, 7, 8, 28]), (6, [1, 5, 6, 7, 8]), (7, [1, 5, 6, 7, 8, 9]), (8, [1, 5, 6, 7, 8, 9, 10, 11]), (9, [1, 5, 6, 7, 8, 9, 10, 45]), (10, [4]), (11, [1, 5, 6, 7, 8, 9]), (12, [1, 5, 6, 7, 8, 9, 51]), (13, [1, 5, 6, 7, 8]), (14, [1, 5, 6, 7, 8]), (15, [1, 5, 6, 7, 13, 14]), (16, [1, 5, 6, 7, 75]), (17, [4]), (18, [1, 6, 7, 15]), (19, [1, 6, 7, 15, 16, 17]), (20, [1, 7, 15, 17, 18, 19]), (21, [7, 13, 15, 17, 19, 21]), (22, [7, 13, 15, 17, 19, 21, 22]), (23, [7, 13, 15, 17, 19, 21, 22, 109]), (24, [7, 13, 17, 19, 21, 22]), (25, [7, 13, 17, 19, 21, 22]), (26, [4])] ir_law35_QueueKeeps [(.tmp 4)] :=
 ⟨Try.f5, _, Try.func5, rfl, by kernel_rfl, rfl, by kernel_rfl, by kernel_rfl⟩

/-- dataenclave/dataenclavelaw35.QueueNumbers -/
def ir_law35_QueueNumbers : RC :=
 (.seq
 (.reg 0 none [0, 1] [
 ⟨some 4, none, (.mv (.k (.v (.bool false))))⟩])
 (.seq
 (.reg 1 none [1, 5] [
 ⟨some 12, none, (.mv (.t 0))⟩,
 ⟨some 13, none, (.call (.k (.clo F_draw_New [])) [(.t 12)])⟩,
 ⟨some 5, none, (.mv (.t 13))⟩])
 (.seq
 (.reg 2 none [1, 5, 6] [
 ⟨some 6, none, (.new (.agg [(.v (.slice none 0 0)), (.v (.slice none 0 0))]))⟩])
 (.seq
 (.reg 3 none [1, 5, 6, 7] [
 ⟨some 14, none, (.mv (.t 5))⟩,
 ⟨some 15, none, (.call (.k (.clo F_draw_Codes_Next [])) [(.t 14), (.k (.v (.int .i64 5)))])⟩,
 ⟨some 7, none, (.mv (.t 15))⟩])
 (.seq
 (.seq
 (.reg 4 none [1, 5, 6, 7, 8] [
 ⟨some 8, none, (.mv (.k (.v (.int .i64 1))))⟩])
 (.block 0
 (.loop
 (.seq
 (.seq
 (.reg 5 none [1, 5, 6, 7, 8, 18] [
 ⟨some 16, none, (.mv (.t 8))⟩,
 ⟨some 17, none, (.mv (.t 7))⟩,
 ⟨some 18, none, (.bin .leq false (.t 16) (.t 17))⟩])
 (.cond (.t 18)
 .skip
 (.exit 0)))
 (.seq
 (.block 1
 (.reg 7 (some [0, 0, 0, 6, 15, 31, 63, 63, 127]) [1, 5, 6, 7, 8] [
 ⟨some 22, none, (.ld (some 2) (.t 6))⟩,
 ⟨some 23, none, (.mv (.t 5))⟩,
 ⟨some 24, none, (.mv (.t 8))⟩,
 ⟨some 25, none, (.call (.k (.clo F_made_Output [])) [(.t 23), (.t 24)])⟩,
 ⟨some 26, none, (.call (.k (.clo F_ref35_Put [])) [(.t 22), (.t 25)])⟩,
 ⟨some 21, none, (.mv (.t 26))⟩,
 ⟨some 27, none, (.ex (.t 21) 0)⟩,
 ⟨some 28, none, (.ex (.t 21) 1)⟩,
 ⟨none, none, (.st 2 (.t 6) (.t 27))⟩]))
 (.reg 6 none [1, 5, 6, 7, 8] [
 ⟨some 19, none, (.mv (.t 8))⟩,
 ⟨some 20, none, (.bin .add false (.t 19) (.k (.v (.int .i64 1))))⟩,
 ⟨some 8, none, (.mv (.t 20))⟩]))))))
 (.seq
 (.reg 8 none [6, 9] [
 ⟨some 29, none, (.mv (.t 5))⟩,
 ⟨some 30, none, (.mv (.t 7))⟩,
 ⟨some 31, none, (.bin .add false (.t 30) (.k (.v (.int .i64 2))))⟩,
 ⟨some 32, none, (.mv (.t 1))⟩,
 ⟨some 33, none, (.cvI .i64 (.t 32))⟩,
 ⟨some 34, none, (.bin .rem false (.t 33) (.k (.v (.int .i64 30))))⟩,
 ⟨some 35, none, (.bin .add false (.t 31) (.t 34))⟩,
 ⟨some 36, none, (.call (.k (.clo F_made_Output [])) [(.t 29), (.t 35)])⟩,
 ⟨some 9, none, (.new (.agg [(.v (.int .i64 0)), (.v (.string ⟨#[]⟩)), (.v (.string ⟨#[]⟩)), (.v (.int .i64 0)), (.v (.string ⟨#[]⟩)), (.v (.int .i64 0)), (.v (.slice none 0 0))]))⟩,
 ⟨none, none, (.st 7 (.t 9) (.t 36))⟩])
 (.seq
 (.reg 9 none [6, 10, 11] [
 ⟨some 38, none, (.ld (some 2) (.t 6))⟩,
 ⟨some 39, none, (.ld (some 7) (.t 9))⟩,
 ⟨some 40, none, (.call (.k (.clo F_queue_Put [])) [(.t 38), (.t 39)])⟩,
 ⟨some 37, none, (.mv (.t 40))⟩,
 ⟨some 41, none, (.ex (.t 37) 0)⟩,
 ⟨some 42, none, (.ex (.t 37) 1)⟩,
 ⟨some 10, none, (.new (.agg [(.v (.slice none 0 0)), (.v (.slice none 0 0))]))⟩,
 ⟨none, none, (.st 2 (.t 10) (.t 41))⟩,
 ⟨some 11, none, (.mv (.t 42))⟩])
 (.seq
 (.reg 10 none [4] [
 ⟨some 43, none, (.mv (.t 11))⟩,
 ⟨some 44, none, (.bin .eql false (.t 43) (.k (.v (.int .i64 48))))⟩,
 ⟨some 45, none, (.mv (.t 44))⟩,
 ⟨some 46, some (45, true), (.ld (some 2) (.t 6))⟩,
 ⟨some 47, some (45, true), (.ld (some 2) (.t 10))⟩,
 ⟨some 48, some (45, true), (.call (.k (.clo F_ref23_Same [])) [(.t 46), (.t 47)])⟩,
 ⟨some 49, none, (.pick (.t 45) (.t 48) (.k (.v (.bool false))))⟩,
 ⟨some 50, none, (.mv (.t 49))⟩,
 ⟨some 51, some (50, true), (.call (.k (.clo F_law35_awake [])) [])⟩,
 ⟨some 52, none, (.pick (.t 50) (.t 51) (.k (.v (.bool false))))⟩,
 ⟨some 4, none, (.mv (.t 52))⟩])
 .ret))))))))
theorem fn_law35_QueueNumbers : FnIR Try.prog F_law35_QueueNumbers 53 [(0, [0, 1]), (1, [1, 5]), (2, [1, 5, 6]), (3, [1, 5, 6, 7]), (4, [1, 5, 6, 7, 8]), (5, [1, 5, 6, 7, 8, 18]), (6, [1, 5, 6, 7, 8]), (7, [1, 5, 6, 7, 8]), (8, [6, 9]), (9, [6, 10, 11]), (10, [4])] ir_law35_QueueNumbers [(.tmp 4)] :=
 ⟨Try.f6, _, Try.func6, rfl, by kernel_rfl, rfl, by kernel_rfl, by kernel_rfl⟩

/-- dataenclave/dataenclavelaw35.awake -/
def ir_law35_awake : RC :=
 (.seq
 (.reg 0 none [] [
 ⟨some 0, none, (.mv (.k (.v (.bool false))))⟩])
 (.seq
 (.reg 1 none [1] [
 ⟨some 8, none, (.build [(.v (.int .i64 0)), (.v (.string ⟨#[]⟩)), (.v (.string ⟨#[]⟩)), (.v (.int .i64 0)), (.v (.string ⟨#[]⟩)), (.v (.int .i64 0)), (.v (.slice none 0 0))] [((0, 1), (.k (.v (.int .i64 1)))), ((1, 1), (.k (.v (.string ⟨#[112]⟩)))), ((2, 1), (.k (.v (.string ⟨#[97, 110, 110]⟩)))), ((5, 1), (.k (.v (.int .i64 1))))])⟩,
 ⟨some 1, none, (.new (.agg [(.v (.int .i64 0)), (.v (.string ⟨#[]⟩)), (.v (.string ⟨#[]⟩)), (.v (.int .i64 0)), (.v (.string ⟨#[]⟩)), (.v (.int .i64 0)), (.v (.slice none 0 0))]))⟩,
 ⟨none, none, (.st 7 (.t 1) (.t 8))⟩])
 (.seq
 (.reg 2 none [1, 2, 3] [
 ⟨some 10, none, (.build [(.v (.slice none 0 0)), (.v (.slice none 0 0))] [])⟩,
 ⟨some 11, none, (.ld (some 7) (.t 1))⟩,
 ⟨some 12, none, (.call (.k (.clo F_queue_Put [])) [(.t 10), (.t 11)])⟩,
 ⟨some 9, none, (.mv (.t 12))⟩,
 ⟨some 13, none, (.ex (.t 9) 0)⟩,
 ⟨some 14, none, (.ex (.t 9) 1)⟩,
 ⟨some 2, none, (.new (.agg [(.v (.slice none 0 0)), (.v (.slice none 0 0))]))⟩,
 ⟨none, none, (.st 2 (.t 2) (.t 13))⟩,
 ⟨some 3, none, (.mv (.t 14))⟩])
 (.seq
 (.reg 3 none [1, 2, 3] [
 ⟨some 15, none, (.fa 5 (.t 1))⟩,
 ⟨none, none, (.st 1 (.t 15) (.k (.v (.int .i64 4))))⟩])
 (.seq
 (.reg 4 none [2, 3, 4] [
 ⟨some 17, none, (.ld (some 2) (.t 2))⟩,
 ⟨some 18, none, (.ld (some 7) (.t 1))⟩,
 ⟨some 19, none, (.call (.k (.clo F_queue_Put [])) [(.t 17), (.t 18)])⟩,
 ⟨some 16, none, (.mv (.t 19))⟩,
 ⟨some 20, none, (.ex (.t 16) 0)⟩,
 ⟨some 21, none, (.ex (.t 16) 1)⟩,
 ⟨none, none, (.st 2 (.t 2) (.t 20))⟩,
 ⟨some 4, none, (.mv (.t 21))⟩])
 (.seq
 (.reg 5 none [3, 4, 6, 7] [
 ⟨some 23, none, (.ld (some 2) (.t 2))⟩,
 ⟨some 24, none, (.call (.k (.clo F_queue_Load [])) [(.t 23)])⟩,
 ⟨some 22, none, (.mv (.t 24))⟩,
 ⟨some 25, none, (.ex (.t 22) 0)⟩,
 ⟨some 26, none, (.ex (.t 22) 1)⟩,
 ⟨some 27, none, (.ex (.t 22) 2)⟩,
 ⟨some 5, none, (.new (.agg [(.v (.slice none 0 0)), (.v (.slice none 0 0))]))⟩,
 ⟨none, none, (.st 2 (.t 5) (.t 25))⟩,
 ⟨some 6, none, (.mv (.t 26))⟩,
 ⟨some 7, none, (.mv (.t 27))⟩])
 (.seq
 (.reg 6 none [0] [
 ⟨some 28, none, (.mv (.t 3))⟩,
 ⟨some 29, none, (.bin .eql false (.t 28) (.k (.v (.int .i64 0))))⟩,
 ⟨some 30, none, (.mv (.t 29))⟩,
 ⟨some 31, some (30, true), (.mv (.t 4))⟩,
 ⟨some 32, some (30, true), (.bin .eql false (.t 31) (.k (.v (.int .i64 0))))⟩,
 ⟨some 33, none, (.pick (.t 30) (.t 32) (.k (.v (.bool false))))⟩,
 ⟨some 34, none, (.mv (.t 33))⟩,
 ⟨some 35, some (34, true), (.mv (.t 7))⟩,
 ⟨some 36, some (34, true), (.bin .eql false (.t 35) (.k (.v (.int .i64 0))))⟩,
 ⟨some 37, none, (.pick (.t 34) (.t 36) (.k (.v (.bool false))))⟩,
 ⟨some 38, none, (.mv (.t 37))⟩,
 ⟨some 39, some (38, true), (.mv (.t 6))⟩,
 ⟨some 40, some (38, true), (.lenL (.t 39))⟩,
 ⟨some 41, some (38, true), (.bin .eql false (.t 40) (.k (.v (.int .i64 1))))⟩,
 ⟨some 42, none, (.pick (.t 38) (.t 41) (.k (.v (.bool false))))⟩,
 ⟨some 43, none, (.mv (.t 42))⟩,
 ⟨some 44, some (43, true), (.mv (.t 6))⟩,
 ⟨some 45, some (43, true), (.ixL 7 (.t 44) (.k (.v (.int .i64 0))))⟩,
 ⟨some 46, some (43, true), (.fa 5 (.t 45))⟩,
 ⟨some 47, some (43, true), (.ld none (.t 46))⟩,
 ⟨some 48, some (43, true), (.bin .eql false (.t 47) (.k (.v (.int .i64 4))))⟩,
 ⟨some 49, none, (.pick (.t 43) (.t 48) (.k (.v (.bool false))))⟩,
 ⟨some 0, none, (.mv (.t 49))⟩])
 .ret)))))))
theorem fn_law35_awake : FnIR Try.prog F_law35_awake 50 [(1, [1]), (2, [1, 2, 3]), (3, [1, 2, 3]), (4, [2, 3, 4]), (5, [3, 4, 6, 7]), (6, [0])] ir_law35_awake [(.tmp 0)] :=
 ⟨Try.f7, _, Try.func7, rfl, by kernel_rfl, rfl, by kernel_rfl, by kernel_rfl⟩

/-- dataenclave/dataenclavedraw.New -/
def ir_draw_New : RC :=
 (.seq
 (.reg 0 none [0] [
 ⟨some 2, none, (.mv (.k (.v (.pointer none))))⟩])
 (.seq
 (.reg 1 none [2] [
 ⟨some 3, none, (.mv (.t 0))⟩,
 ⟨some 4, none, (.mv (.t 0))⟩,
 ⟨some 5, none, (.lenL (.t 4))⟩,
 ⟨some 6, none, (.mn [(.t 5), (.k (.v (.int .i64 400)))])⟩,
 ⟨some 7, none, (.slL 1 (.t 3) none (some (.t 6)))⟩,
 ⟨some 8, none, (.build [(.v (.slice none 0 0)), (.v (.int .i64 0))] [((0, 1), (.t 7))])⟩,
 ⟨some 9, none, (.box (.t 8))⟩,
 ⟨some 2, none, (.mv (.t 9))⟩])
 .ret))
theorem fn_draw_New : FnIR Try.prog F_draw_New 10 [(0, [0]), (1, [2])] ir_draw_New [(.tmp 2)] :=
 ⟨Try.f8, _, Try.func8, rfl, by kernel_rfl, rfl, by kernel_rfl, by kernel_rfl⟩

/-- dataenclave/dataenclavemade.Output -/
def ir_made_Output : RC :=
 (.seq
 (.reg 0 none [0, 1, 4] [
 ⟨some 4, none, (.new (.agg [(.v (.int .i64 0)), (.v (.string ⟨#[]⟩)), (.v (.string ⟨#[]⟩)), (.v (.int .i64 0)), (.v (.string ⟨#[]⟩)), (.v (.int .i64 0)), (.v (.slice none 0 0))]))⟩])
 (.seq
 (.reg 1 (some [0, 0, 2, 6, 14, 0, 46, 0, 238, 0, 0, 1518, 4078, 8174, 0, 19950, 65535, 131071]) [4] [
 ⟨some 5, none, (.mv (.t 1))⟩,
 ⟨some 6, none, (.mv (.t 0))⟩,
 ⟨some 7, none, (.call (.k (.clo F_draw_Codes_Next [])) [(.t 6), (.k (.v (.int .i64 3)))])⟩,
 ⟨some 8, none, (.call (.k (.clo F_ref24_Decimal [])) [(.t 7)])⟩,
 ⟨some 9, none, (.bin .add false (.k (.v (.string ⟨#[112]⟩))) (.t 8))⟩,
 ⟨some 10, none, (.mv (.t 0))⟩,
 ⟨some 11, none, (.call (.k (.clo F_made_Name [])) [(.t 10)])⟩,
 ⟨some 12, none, (.mv (.t 0))⟩,
 ⟨some 13, none, (.call (.k (.clo F_draw_Codes_Next [])) [(.t 12), (.k (.v (.int .i64 20)))])⟩,
 ⟨some 14, none, (.bsl 1 4 [(.k (.v (.string ⟨#[]⟩))), (.k (.v (.string ⟨#[97, 10]⟩))), (.k (.v (.string ⟨#[111, 117, 116, 112, 117, 116, 32, 110, 32, 110, 117, 109, 98, 101, 114, 10, 118, 97, 108, 117, 101, 32, 49, 47, 50, 10]⟩))), (.k (.v (.string ⟨#[0, 255]⟩)))])⟩,
 ⟨some 15, none, (.mv (.t 0))⟩,
 ⟨some 16, none, (.call (.k (.clo F_draw_Codes_Next [])) [(.t 15), (.k (.v (.int .i64 4)))])⟩,
 ⟨some 17, none, (.ixL 1 (.t 14) (.t 16))⟩,
 ⟨some 18, none, (.ld none (.t 17))⟩,
 ⟨some 19, none, (.mv (.t 0))⟩,
 ⟨some 20, none, (.call (.k (.clo F_draw_Codes_Range [])) [(.t 19), (.k (.v (.int .i64 1))), (.k (.v (.int .i64 6)))])⟩,
 ⟨some 21, none, (.build [(.v (.int .i64 0)), (.v (.string ⟨#[]⟩)), (.v (.string ⟨#[]⟩)), (.v (.int .i64 0)), (.v (.string ⟨#[]⟩)), (.v (.int .i64 0)), (.v (.slice none 0 0))] [((0, 1), (.t 5)), ((1, 1), (.t 9)), ((2, 1), (.t 11)), ((3, 1), (.t 13)), ((4, 1), (.t 18)), ((5, 1), (.t 20))])⟩,
 ⟨none, none, (.st 7 (.t 4) (.t 21))⟩])
 .ret))
theorem fn_made_Output : FnIR Try.prog F_made_Output 22 [(0, [0, 1, 4]), (1, [4])] ir_made_Output [(.cell 4 (some 7))] :=
 ⟨Try.f9, _, Try.func9, rfl, by kernel_rfl, rfl, by kernel_rfl, by kernel_rfl⟩

/-- (*dataenclave/dataenclavedraw.Codes).Range -/
def ir_draw_Codes_Range : RC :=
 (.seq
 (.reg 0 none [0, 1, 2] [
 ⟨some 6, none, (.mv (.k (.v (.int .i64 0))))⟩])
 (.seq
 (.reg 1 none [6] [
 ⟨some 7, none, (.mv (.t 1))⟩,
 ⟨some 8, none, (.mv (.t 0))⟩,
 ⟨some 9, none, (.mv (.t 2))⟩,
 ⟨some 10, none, (.mv (.t 1))⟩,
 ⟨some 11, none, (.bin .sub false (.t 9) (.t 10))⟩,
 ⟨some 12, none, (.bin .add false (.t 11) (.k (.v (.int .i64 1))))⟩,
 ⟨some 13, none, (.call (.k (.clo F_draw_Codes_Next [])) [(.t 8), (.t 12)])⟩,
 ⟨some 14, none, (.bin .add false (.t 7) (.t 13))⟩,
 ⟨some 6, none, (.mv (.t 14))⟩])
 .ret))
theorem fn_draw_Codes_Range : FnIR Try.prog F_draw_Codes_Range 15 [(0, [0, 1, 2]), (1, [6])] ir_draw_Codes_Range [(.tmp 6)] :=
 ⟨Try.f10, _, Try.func10, rfl, by kernel_rfl, rfl, by kernel_rfl, by kernel_rfl⟩

/-- (*dataenclave/dataenclavedraw.Codes).Next -/
def ir_draw_Codes_Next : RC :=
 (.seq
 (.reg 0 none [0, 1] [
 ⟨some 4, none, (.mv (.k (.v (.int .i64 0))))⟩])
 (.seq
 (.seq
 (.reg 1 (some [0, 1, 3, 7, 15, 31, 63, 7, 135, 391, 903, 1927, 4095, 8191]) [0, 1, 19] [
 ⟨some 6, none, (.mv (.t 1))⟩,
 ⟨some 7, none, (.bin .lss false (.t 6) (.k (.v (.int .i64 1))))⟩,
 ⟨some 8, none, (.mv (.t 7))⟩,
 ⟨some 9, some (8, false), (.mv (.t 0))⟩,
 ⟨some 10, some (8, false), (.nc (.t 9))⟩,
 ⟨some 11, some (8, false), (.fa 1 (.t 10))⟩,
 ⟨some 12, some (8, false), (.ld none (.t 11))⟩,
 ⟨some 13, some (8, false), (.mv (.t 0))⟩,
 ⟨some 14, some (8, false), (.nc (.t 13))⟩,
 ⟨some 15, some (8, false), (.fa 0 (.t 14))⟩,
 ⟨some 16, some (8, false), (.ld none (.t 15))⟩,
 ⟨some 17, some (8, false), (.lenL (.t 16))⟩,
 ⟨some 18, some (8, false), (.bin .geq false (.t 12) (.t 17))⟩,
 ⟨some 19, none, (.pick (.t 8) (.k (.v (.bool true))) (.t 18))⟩])
 (.cond (.t 19)
 (.seq
 (.reg 2 none [4] [
 ⟨some 4, none, (.mv (.k (.v (.int .i64 0))))⟩])
 .ret)
 .skip))
 (.seq
 (.reg 3 none [0, 1] [
 ⟨some 20, none, (.mv (.t 0))⟩,
 ⟨some 21, none, (.nc (.t 20))⟩,
 ⟨some 22, none, (.fa 1 (.t 21))⟩,
 ⟨some 23, none, (.ld none (.t 22))⟩,
 ⟨some 24, none, (.bin .add false (.t 23) (.k (.v (.int .i64 1))))⟩,
 ⟨some 25, none, (.nc (.t 20))⟩,
 ⟨some 26, none, (.fa 1 (.t 25))⟩,
 ⟨none, none, (.st 1 (.t 26) (.t 24))⟩])
 (.seq
 (.reg 4 (some [0, 1, 3, 7, 0, 16, 48, 112, 240, 511, 1023, 2047, 4095]) [0, 1, 5] [
 ⟨some 27, none, (.mv (.t 0))⟩,
 ⟨some 28, none, (.nc (.t 27))⟩,
 ⟨some 29, none, (.fa 0 (.t 28))⟩,
 ⟨some 30, none, (.ld none (.t 29))⟩,
 ⟨some 31, none, (.mv (.t 0))⟩,
 ⟨some 32, none, (.nc (.t 31))⟩,
 ⟨some 33, none, (.fa 1 (.t 32))⟩,
 ⟨some 34, none, (.ld none (.t 33))⟩,
 ⟨some 35, none, (.bin .sub false (.t 34) (.k (.v (.int .i64 1))))⟩,
 ⟨some 36, none, (.ixL 1 (.t 30) (.t 35))⟩,
 ⟨some 37, none, (.ld none (.t 36))⟩,
 ⟨some 38, none, (.cvI .i64 (.t 37))⟩,
 ⟨some 5, none, (.mv (.t 38))⟩])
 (.seq
 (.seq
 (.reg 5 (some [0, 1, 3, 7, 15, 31, 63, 7, 135, 391, 903, 1927, 4095, 8191]) [0, 1, 5, 52] [
 ⟨some 39, none, (.mv (.t 1))⟩,
 ⟨some 40, none, (.bin .gtr false (.t 39) (.k (.v (.int .i64 256))))⟩,
 ⟨some 41, none, (.mv (.t 40))⟩,
 ⟨some 42, some (41, true), (.mv (.t 0))⟩,
 ⟨some 43, some (41, true), (.nc (.t 42))⟩,
 ⟨some 44, some (41, true), (.fa 1 (.t 43))⟩,
 ⟨some 45, some (41, true), (.ld none (.t 44))⟩,
 ⟨some 46, some (41, true), (.mv (.t 0))⟩,
 ⟨some 47, some (41, true), (.nc (.t 46))⟩,
 ⟨some 48, some (41, true), (.fa 0 (.t 47))⟩,
 ⟨some 49, some (41, true), (.ld none (.t 48))⟩,
 ⟨some 50, some (41, true), (.lenL (.t 49))⟩,
 ⟨some 51, some (41, true), (.bin .lss false (.t 45) (.t 50))⟩,
 ⟨some 52, none, (.pick (.t 41) (.t 51) (.k (.v (.bool false))))⟩])
 (.cond (.t 52)
 (.seq
 (.reg 6 (some [0, 1, 0, 4, 12, 28, 0, 64, 192, 448, 1020, 2044, 4092, 8191, 16383]) [0, 1, 5] [
 ⟨some 53, none, (.mv (.t 5))⟩,
 ⟨some 54, none, (.bin .mul false (.t 53) (.k (.v (.int .i64 256))))⟩,
 ⟨some 55, none, (.mv (.t 0))⟩,
 ⟨some 56, none, (.nc (.t 55))⟩,
 ⟨some 57, none, (.fa 0 (.t 56))⟩,
 ⟨some 58, none, (.ld none (.t 57))⟩,
 ⟨some 59, none, (.mv (.t 0))⟩,
 ⟨some 60, none, (.nc (.t 59))⟩,
 ⟨some 61, none, (.fa 1 (.t 60))⟩,
 ⟨some 62, none, (.ld none (.t 61))⟩,
 ⟨some 63, none, (.ixL 1 (.t 58) (.t 62))⟩,
 ⟨some 64, none, (.ld none (.t 63))⟩,
 ⟨some 65, none, (.cvI .i64 (.t 64))⟩,
 ⟨some 66, none, (.bin .add false (.t 54) (.t 65))⟩,
 ⟨some 5, none, (.mv (.t 66))⟩])
 (.reg 7 none [1, 5] [
 ⟨some 67, none, (.mv (.t 0))⟩,
 ⟨some 68, none, (.nc (.t 67))⟩,
 ⟨some 69, none, (.fa 1 (.t 68))⟩,
 ⟨some 70, none, (.ld none (.t 69))⟩,
 ⟨some 71, none, (.bin .add false (.t 70) (.k (.v (.int .i64 1))))⟩,
 ⟨some 72, none, (.nc (.t 67))⟩,
 ⟨some 73, none, (.fa 1 (.t 72))⟩,
 ⟨none, none, (.st 1 (.t 73) (.t 71))⟩]))
 .skip))
 (.seq
 (.reg 8 none [4] [
 ⟨some 74, none, (.mv (.t 5))⟩,
 ⟨some 75, none, (.mv (.t 1))⟩,
 ⟨some 76, none, (.bin .rem false (.t 74) (.t 75))⟩,
 ⟨some 4, none, (.mv (.t 76))⟩])
 .ret))))))
theorem fn_draw_Codes_Next : FnIR Try.prog F_draw_Codes_Next 77 [(0, [0, 1]), (1, [0, 1, 19]), (2, [4]), (3, [0, 1]), (4, [0, 1, 5]), (5, [0, 1, 5, 52]), (6, [0, 1, 5]), (7, [1, 5]), (8, [4])] ir_draw_Codes_Next [(.tmp 4)] :=
 ⟨Try.f11, _, Try.func11, rfl, by kernel_rfl, rfl, by kernel_rfl, by kernel_rfl⟩

/-- dataenclave/dataenclavemade.Name -/
def ir_made_Name : RC :=
 (.seq
 (.reg 0 none [0] [
 ⟨some 2, none, (.mv (.k (.v (.string ⟨#[]⟩))))⟩])
 (.seq
 (.reg 1 none [2] [
 ⟨some 3, none, (.bsl 1 5 [(.k (.v (.string ⟨#[97, 110, 110]⟩))), (.k (.v (.string ⟨#[98, 111, 98]⟩))), (.k (.v (.string ⟨#[99, 121, 100]⟩))), (.k (.v (.string ⟨#[100, 97, 110]⟩))), (.k (.v (.string ⟨#[101, 118, 101]⟩)))])⟩,
 ⟨some 4, none, (.mv (.t 0))⟩,
 ⟨some 5, none, (.call (.k (.clo F_draw_Codes_Next [])) [(.t 4), (.k (.v (.int .i64 5)))])⟩,
 ⟨some 6, none, (.ixL 1 (.t 3) (.t 5))⟩,
 ⟨some 7, none, (.ld none (.t 6))⟩,
 ⟨some 2, none, (.mv (.t 7))⟩])
 .ret))
theorem fn_made_Name : FnIR Try.prog F_made_Name 8 [(0, [0]), (1, [2])] ir_made_Name [(.tmp 2)] :=
 ⟨Try.f12, _, Try.func12, rfl, by kernel_rfl, rfl, by kernel_rfl, by kernel_rfl⟩

/-- dataenclave/dataenclaveref35.Put -/
def ir_ref35_Put : RC :=
 (.seq
 (.reg 0 none [2, 3, 4] [
 ⟨some 2, none, (.box (.t 0))⟩,
 ⟨some 3, none, (.box (.t 1))⟩,
 ⟨some 4, none, (.new (.agg [(.v (.slice none 0 0)), (.v (.slice none 0 0))]))⟩,
 ⟨some 5, none, (.mv (.k (.v (.int .i64 0))))⟩])
 (.seq
 (.reg 1 none [2, 3, 4, 6, 7] [
 ⟨some 12, none, (.ld (some 7) (.t 3))⟩,
 ⟨some 13, none, (.call (.k (.clo F_ref35_Encode [])) [(.t 12)])⟩,
 ⟨some 11, none, (.mv (.t 13))⟩,
 ⟨some 14, none, (.ex (.t 11) 0)⟩,
 ⟨some 15, none, (.ex (.t 11) 1)⟩,
 ⟨some 6, none, (.mv (.t 14))⟩,
 ⟨some 7, none, (.mv (.t 15))⟩])
 (.seq
 (.seq
 (.reg 2 none [2, 3, 4, 6, 7, 17] [
 ⟨some 16, none, (.mv (.t 7))⟩,
 ⟨some 17, none, (.bin .neq false (.t 16) (.k (.v (.int .i64 0))))⟩])
 (.cond (.t 17)
 (.seq
 (.reg 3 none [4, 5] [
 ⟨some 18, none, (.ld (some 2) (.t 2))⟩,
 ⟨some 19, none, (.call (.k (.clo F_ref23_Copy [])) [(.t 18)])⟩,
 ⟨some 20, none, (.mv (.t 7))⟩,
 ⟨none, none, (.st 2 (.t 4) (.t 19))⟩,
 ⟨some 5, none, (.mv (.t 20))⟩])
 .ret)
 .skip))
 (.seq
 (.reg 4 none [2, 3, 4, 7, 8] [
 ⟨some 22, none, (.ld (some 2) (.t 2))⟩,
 ⟨some 23, none, (.mv (.t 6))⟩,
 ⟨some 24, none, (.call (.k (.clo F_ref23_Append [])) [(.t 22), (.t 23)])⟩,
 ⟨some 21, none, (.mv (.t 24))⟩,
 ⟨some 25, none, (.ex (.t 21) 0)⟩,
 ⟨some 26, none, (.ex (.t 21) 1)⟩,
 ⟨some 8, none, (.new (.agg [(.v (.slice none 0 0)), (.v (.slice none 0 0))]))⟩,
 ⟨none, none, (.st 2 (.t 8) (.t 25))⟩,
 ⟨some 7, none, (.mv (.t 26))⟩])
 (.seq
 (.seq
 (.reg 5 none [2, 3, 4, 7, 8, 28] [
 ⟨some 27, none, (.mv (.t 7))⟩,
 ⟨some 28, none, (.bin .neq false (.t 27) (.k (.v (.int .i64 0))))⟩])
 (.cond (.t 28)
 (.seq
 (.reg 6 none [4, 5] [
 ⟨some 29, none, (.ld (some 2) (.t 2))⟩,
 ⟨some 30, none, (.call (.k (.clo F_ref23_Copy [])) [(.t 29)])⟩,
 ⟨some 31, none, (.mv (.t 7))⟩,
 ⟨none, none, (.st 2 (.t 4) (.t 30))⟩,
 ⟨some 5, none, (.mv (.t 31))⟩])
 .ret)
 .skip))
 (.seq
 (.reg 7 none [2, 3, 4, 7, 8, 10] [
 ⟨some 33, none, (.ld (some 2) (.t 2))⟩,
 ⟨some 34, none, (.call (.k (.clo F_ref35_Load [])) [(.t 33)])⟩,
 ⟨some 32, none, (.mv (.t 34))⟩,
 ⟨some 35, none, (.ex (.t 32) 0)⟩,
 ⟨some 36, none, (.ex (.t 32) 1)⟩,
 ⟨some 37, none, (.ex (.t 32) 2)⟩,
 ⟨some 9, none, (.new (.agg [(.v (.slice none 0 0)), (.v (.slice none 0 0))]))⟩,
 ⟨none, none, (.st 2 (.t 9) (.t 35))⟩,
 ⟨some 10, none, (.mv (.t 36))⟩,
 ⟨some 7, none, (.mv (.t 37))⟩])
 (.seq
 (.seq
 (.reg 8 none [2, 3, 4, 7, 8, 10, 39] [
 ⟨some 38, none, (.mv (.t 7))⟩,
 ⟨some 39, none, (.bin .neq false (.t 38) (.k (.v (.int .i64 0))))⟩])
 (.cond (.t 39)
 (.seq
 (.reg 9 none [4, 5] [
 ⟨some 40, none, (.ld (some 2) (.t 2))⟩,
 ⟨some 41, none, (.call (.k (.clo F_ref23_Copy [])) [(.t 40)])⟩,
 ⟨some 42, none, (.mv (.t 7))⟩,
 ⟨none, none, (.st 2 (.t 4) (.t 41))⟩,
 ⟨some 5, none, (.mv (.t 42))⟩])
 .ret)
 .skip))
 (.seq
 (.seq
 (.reg 10 none [2, 4, 8, 48] [
 ⟨some 43, none, (.fa 0 (.t 3))⟩,
 ⟨some 44, none, (.ld none (.t 43))⟩,
 ⟨some 45, none, (.mv (.t 10))⟩,
 ⟨some 46, none, (.lenL (.t 45))⟩,
 ⟨some 47, none, (.bin .add false (.t 46) (.k (.v (.int .i64 1))))⟩,
 ⟨some 48, none, (.bin .gtr false (.t 44) (.t 47))⟩])
 (.cond (.t 48)
 (.seq
 (.reg 11 none [4, 5] [
 ⟨some 49, none, (.ld (some 2) (.t 2))⟩,
 ⟨some 50, none, (.call (.k (.clo F_ref23_Copy [])) [(.t 49)])⟩,
 ⟨none, none, (.st 2 (.t 4) (.t 50))⟩,
 ⟨some 5, none, (.mv (.k (.v (.int .i64 48))))⟩])
 .ret)
 .skip))
 (.seq
 (.reg 12 none [4, 5] [
 ⟨some 51, none, (.ld (some 2) (.t 8))⟩,
 ⟨some 52, none, (.call (.k (.clo F_ref23_Sync [])) [(.t 51)])⟩,
 ⟨none, none, (.st 2 (.t 4) (.t 52))⟩,
 ⟨some 5, none, (.mv (.k (.v (.int .i64 0))))⟩])
 .ret)))))))))
theorem fn_ref35_Put : FnIR Try.prog F_ref35_Put 53 [(0, [2, 3, 4]), (1, [2, 3, 4, 6, 7]), (2, [2, 3, 4, 6, 7, 17]), (3, [4, 5]), (4, [2, 3, 4, 7, 8]), (5, [2, 3, 4, 7, 8, 28]), (6, [4, 5]), (7, [2, 3, 4, 7, 8, 10]), (8, [2, 3, 4, 7, 8, 10, 39]), (9, [4, 5]), (10, [2, 4, 8, 48]), (11, [4, 5]), (12, [4, 5])] ir_ref35_Put [(.cell 4 (some 2)), (.tmp 5)] :=
 ⟨Try.f13, _, Try.func13, rfl, by kernel_rfl, rfl, by kernel_rfl, by kernel_rfl⟩

/-- dataenclave/queue.Encode -/
def ir_queue_Encode : RC :=
 (.seq
 (.reg 0 none [1] [
 ⟨some 1, none, (.box (.t 0))⟩,
 ⟨some 2, none, (.mv (.k (.v (.slice none 0 0))))⟩,
 ⟨some 3, none, (.mv (.k (.v (.int .i64 0))))⟩])
 (.seq
 (.seq
 (.reg 1 none [1, 9] [
 ⟨some 7, none, (.ld (some 7) (.t 1))⟩,
 ⟨some 8, none, (.call (.k (.clo F_queue_Valid [])) [(.t 7)])⟩,
 ⟨some 9, none, (.un .not (.t 8))⟩])
 (.cond (.t 9)
 (.seq
 (.reg 2 none [2, 3] [
 ⟨some 2, none, (.mv (.k (.v (.slice none 0 0))))⟩,
 ⟨some 3, none, (.mv (.k (.v (.int .i64 11))))⟩])
 .ret)
 .skip))
 (.seq
 (.reg 3 none [1, 4] [
 ⟨some 10, none, (.build [(.v (.slice none 0 0))] [])⟩,
 ⟨some 11, none, (.box (.t 10))⟩,
 ⟨some 4, none, (.mv (.t 11))⟩])
 (.seq
 (.seq
 (.reg 4 none [1, 4, 12, 13, 14] [
 ⟨some 12, none, (.call (.k (.clo F_queue_fields [])) [])⟩,
 ⟨some 13, none, (.lenL (.t 12))⟩,
 ⟨some 14, none, (.mv (.k (.v (.int .i64 0))))⟩])
 (.block 0
 (.loop
 (.seq
 (.reg 5 none [1, 4, 12, 13, 14, 15] [
 ⟨some 15, none, (.bin .lss false (.t 14) (.t 13))⟩])
 (.seq
 (.cond (.t 15)
 .skip
 (.exit 0))
 (.seq
 (.block 1
 (.seq
 (.reg 6 none [1, 4, 6, 12, 13, 14] [
 ⟨some 16, none, (.ixL 2 (.t 12) (.t 14))⟩,
 ⟨some 17, none, (.ld (some 2) (.t 16))⟩,
 ⟨some 6, none, (.new (.agg [(.v .nilFunc), (.v .nilFunc)]))⟩,
 ⟨none, none, (.st 2 (.t 6) (.t 17))⟩])
 (.reg 7 none [1, 4, 12, 13, 14] [
 ⟨some 18, none, (.fa 0 (.t 6))⟩,
 ⟨some 19, none, (.ld none (.t 18))⟩,
 ⟨some 20, none, (.mv (.t 4))⟩,
 ⟨some 21, none, (.call (.t 19) [(.t 20), (.t 1)])⟩])))
 (.reg 8 none [1, 4, 12, 13, 14] [
 ⟨some 22, none, (.bin .add false (.t 14) (.k (.v (.int .i64 1))))⟩,
 ⟨some 14, none, (.mv (.t 22))⟩])))))))
 (.seq
 (.reg 9 none [2, 3] [
 ⟨some 23, none, (.mv (.t 4))⟩,
 ⟨some 24, none, (.nc (.t 23))⟩,
 ⟨some 25, none, (.fa 0 (.t 24))⟩,
 ⟨some 26, none, (.ld none (.t 25))⟩,
 ⟨some 2, none, (.mv (.t 26))⟩,
 ⟨some 3, none, (.mv (.k (.v (.int .i64 0))))⟩])
 .ret)))))
theorem fn_queue_Encode : FnIR Try.prog F_queue_Encode 27 [(0, [1]), (1, [1, 9]), (2, [2, 3]), (3, [1, 4]), (4, [1, 4, 12, 13, 14]), (5, [1, 4, 12, 13, 14, 15]), (6, [1, 4, 6, 12, 13, 14]), (7, [1, 4, 12, 13, 14]), (8, [1, 4, 12, 13, 14]), (9, [2, 3])] ir_queue_Encode [(.tmp 2), (.tmp 3)] :=
 ⟨Try.f14, _, Try.func14, rfl, by kernel_rfl, rfl, by kernel_rfl, by kernel_rfl⟩

/-- dataenclave/dataenclaveref35.Encode -/
def ir_ref35_Encode : RC :=
 (.seq
 (.reg 0 none [1] [
 ⟨some 1, none, (.box (.t 0))⟩,
 ⟨some 2, none, (.mv (.k (.v (.slice none 0 0))))⟩,
 ⟨some 3, none, (.mv (.k (.v (.int .i64 0))))⟩])
 (.seq
 (.seq
 (.reg 1 none [1, 9] [
 ⟨some 7, none, (.ld (some 7) (.t 1))⟩,
 ⟨some 8, none, (.call (.k (.clo F_ref35_Valid [])) [(.t 7)])⟩,
 ⟨some 9, none, (.un .not (.t 8))⟩])
 (.cond (.t 9)
 (.seq
 (.reg 2 none [2, 3] [
 ⟨some 2, none, (.mv (.k (.v (.slice none 0 0))))⟩,
 ⟨some 3, none, (.mv (.k (.v (.int .i64 11))))⟩])
 .ret)
 .skip))
 (.seq
 (.reg 3 (some [0, 1, 3, 0, 8, 31, 63, 127]) [1, 4] [
 ⟨some 10, none, (.fa 0 (.t 1))⟩,
 ⟨some 11, none, (.ld none (.t 10))⟩,
 ⟨some 12, none, (.call (.k (.clo F_ref35_five [])) [(.t 11)])⟩,
 ⟨some 13, none, (.fa 1 (.t 1))⟩,
 ⟨some 14, none, (.ld none (.t 13))⟩,
 ⟨some 15, none, (.call (.k (.clo F_ref35_text [])) [(.t 14)])⟩,
 ⟨some 16, none, (.app 1 1 false (.t 12) (.t 15))⟩,
 ⟨some 4, none, (.mv (.t 16))⟩])
 (.seq
 (.reg 4 none [1, 4] [
 ⟨some 17, none, (.mv (.t 4))⟩,
 ⟨some 18, none, (.fa 2 (.t 1))⟩,
 ⟨some 19, none, (.ld none (.t 18))⟩,
 ⟨some 20, none, (.call (.k (.clo F_ref35_text [])) [(.t 19)])⟩,
 ⟨some 21, none, (.app 1 1 false (.t 17) (.t 20))⟩,
 ⟨some 4, none, (.mv (.t 21))⟩])
 (.seq
 (.reg 5 none [1, 4] [
 ⟨some 22, none, (.mv (.t 4))⟩,
 ⟨some 23, none, (.fa 3 (.t 1))⟩,
 ⟨some 24, none, (.ld none (.t 23))⟩,
 ⟨some 25, none, (.call (.k (.clo F_ref35_five [])) [(.t 24)])⟩,
 ⟨some 26, none, (.app 1 1 false (.t 22) (.t 25))⟩,
 ⟨some 4, none, (.mv (.t 26))⟩])
 (.seq
 (.reg 6 none [1, 4] [
 ⟨some 27, none, (.mv (.t 4))⟩,
 ⟨some 28, none, (.fa 4 (.t 1))⟩,
 ⟨some 29, none, (.ld none (.t 28))⟩,
 ⟨some 30, none, (.call (.k (.clo F_ref35_text [])) [(.t 29)])⟩,
 ⟨some 31, none, (.app 1 1 false (.t 27) (.t 30))⟩,
 ⟨some 4, none, (.mv (.t 31))⟩])
 (.seq
 (.reg 7 none [1, 4] [
 ⟨some 32, none, (.mv (.t 4))⟩,
 ⟨some 33, none, (.fa 5 (.t 1))⟩,
 ⟨some 34, none, (.ld none (.t 33))⟩,
 ⟨some 35, none, (.call (.k (.clo F_ref35_five [])) [(.t 34)])⟩,
 ⟨some 36, none, (.app 1 1 false (.t 32) (.t 35))⟩,
 ⟨some 4, none, (.mv (.t 36))⟩])
 (.seq
 (.reg 8 none [1, 4] [
 ⟨some 37, none, (.mv (.t 4))⟩,
 ⟨some 38, none, (.fa 6 (.t 1))⟩,
 ⟨some 39, none, (.ld none (.t 38))⟩,
 ⟨some 40, none, (.lenL (.t 39))⟩,
 ⟨some 41, none, (.call (.k (.clo F_ref35_five [])) [(.t 40)])⟩,
 ⟨some 42, none, (.app 1 1 false (.t 37) (.t 41))⟩,
 ⟨some 4, none, (.mv (.t 42))⟩])
 (.seq
 (.seq
 (.reg 9 none [4, 44, 45, 46] [
 ⟨some 43, none, (.fa 6 (.t 1))⟩,
 ⟨some 44, none, (.ld none (.t 43))⟩,
 ⟨some 45, none, (.lenL (.t 44))⟩,
 ⟨some 46, none, (.mv (.k (.v (.int .i64 0))))⟩])
 (.block 0
 (.loop
 (.seq
 (.reg 10 none [4, 44, 45, 46, 47] [
 ⟨some 47, none, (.bin .lss false (.t 46) (.t 45))⟩])
 (.seq
 (.cond (.t 47)
 .skip
 (.exit 0))
 (.seq
 (.block 1
 (.seq
 (.reg 11 none [4, 6, 44, 45, 46] [
 ⟨some 48, none, (.ixL 2 (.t 44) (.t 46))⟩,
 ⟨some 49, none, (.ld (some 2) (.t 48))⟩,
 ⟨some 6, none, (.new (.agg [(.v (.string ⟨#[]⟩)), (.v (.int .i64 0))]))⟩,
 ⟨none, none, (.st 2 (.t 6) (.t 49))⟩])
 (.reg 12 (some [0, 0, 2, 6, 15, 0, 32, 127, 255, 511]) [4, 44, 45, 46] [
 ⟨some 50, none, (.mv (.t 4))⟩,
 ⟨some 51, none, (.fa 0 (.t 6))⟩,
 ⟨some 52, none, (.ld none (.t 51))⟩,
 ⟨some 53, none, (.call (.k (.clo F_ref35_text [])) [(.t 52)])⟩,
 ⟨some 54, none, (.app 1 1 false (.t 50) (.t 53))⟩,
 ⟨some 55, none, (.fa 1 (.t 6))⟩,
 ⟨some 56, none, (.ld none (.t 55))⟩,
 ⟨some 57, none, (.call (.k (.clo F_ref35_five [])) [(.t 56)])⟩,
 ⟨some 58, none, (.app 1 1 false (.t 54) (.t 57))⟩,
 ⟨some 4, none, (.mv (.t 58))⟩])))
 (.reg 13 none [4, 44, 45, 46] [
 ⟨some 59, none, (.bin .add false (.t 46) (.k (.v (.int .i64 1))))⟩,
 ⟨some 46, none, (.mv (.t 59))⟩])))))))
 (.seq
 (.reg 14 none [2, 3] [
 ⟨some 60, none, (.mv (.t 4))⟩,
 ⟨some 2, none, (.mv (.t 60))⟩,
 ⟨some 3, none, (.mv (.k (.v (.int .i64 0))))⟩])
 .ret))))))))))
theorem fn_ref35_Encode : FnIR Try.prog F_ref35_Encode 61 [(0, [1]), (1, [1, 9]), (2, [2, 3]), (3, [1, 4]), (4, [1, 4]), (5, [1, 4]), (6, [1, 4]), (7, [1, 4]), (8, [1, 4]), (9, [4, 44, 45, 46]), (10, [4, 44, 45, 46, 47]), (11, [4, 6, 44, 45, 46]), (12, [4, 44, 45, 46]), (13, [4, 44, 45, 46]), (14, [2, 3])] ir_ref35_Encode [(.tmp 2), (.tmp 3)] :=
 ⟨Try.f15, _, Try.func15, rfl, by kernel_rfl, rfl, by kernel_rfl, by kernel_rfl⟩

/-- dataenclave/queue.Valid -/
def ir_queue_Valid : RC :=
 (.seq
 (.reg 0 none [1] [
 ⟨some 1, none, (.box (.t 0))⟩,
 ⟨some 2, none, (.mv (.k (.v (.bool false))))⟩])
 (.seq
 (.seq
 (.reg 1 none [1, 34] [
 ⟨some 3, none, (.fa 0 (.t 1))⟩,
 ⟨some 4, none, (.ld none (.t 3))⟩,
 ⟨some 5, none, (.bin .lss false (.t 4) (.k (.v (.int .i64 1))))⟩,
 ⟨some 6, none, (.mv (.t 5))⟩,
 ⟨some 7, some (6, false), (.fa 0 (.t 1))⟩,
 ⟨some 8, some (6, false), (.ld none (.t 7))⟩,
 ⟨some 9, some (6, false), (.bin .gtr false (.t 8) (.k (.v (.int .i64 40))))⟩,
 ⟨some 10, none, (.pick (.t 6) (.k (.v (.bool true))) (.t 9))⟩,
 ⟨some 11, none, (.mv (.t 10))⟩,
 ⟨some 12, some (11, false), (.fa 1 (.t 1))⟩,
 ⟨some 13, some (11, false), (.ld none (.t 12))⟩,
 ⟨some 14, some (11, false), (.call (.k (.clo F_codes_Name [])) [(.t 13)])⟩,
 ⟨some 15, some (11, false), (.un .not (.t 14))⟩,
 ⟨some 16, none, (.pick (.t 11) (.k (.v (.bool true))) (.t 15))⟩,
 ⟨some 17, none, (.mv (.t 16))⟩,
 ⟨some 18, some (17, false), (.fa 2 (.t 1))⟩,
 ⟨some 19, some (17, false), (.ld none (.t 18))⟩,
 ⟨some 20, some (17, false), (.call (.k (.clo F_codes_Name [])) [(.t 19)])⟩,
 ⟨some 21, some (17, false), (.un .not (.t 20))⟩,
 ⟨some 22, none, (.pick (.t 17) (.k (.v (.bool true))) (.t 21))⟩,
 ⟨some 23, none, (.mv (.t 22))⟩,
 ⟨some 24, some (23, false), (.fa 3 (.t 1))⟩,
 ⟨some 25, some (23, false), (.ld none (.t 24))⟩,
 ⟨some 26, some (23, false), (.call (.k (.clo F_queue_time [])) [(.t 25)])⟩,
 ⟨some 27, some (23, false), (.un .not (.t 26))⟩,
 ⟨some 28, none, (.pick (.t 23) (.k (.v (.bool true))) (.t 27))⟩,
 ⟨some 29, none, (.mv (.t 28))⟩,
 ⟨some 30, some (29, false), (.fa 4 (.t 1))⟩,
 ⟨some 31, some (29, false), (.ld none (.t 30))⟩,
 ⟨some 32, some (29, false), (.lenS (.t 31))⟩,
 ⟨some 33, some (29, false), (.bin .gtr false (.t 32) (.k (.v (.int .i64 1024))))⟩,
 ⟨some 34, none, (.pick (.t 29) (.k (.v (.bool true))) (.t 33))⟩])
 (.cond (.t 34)
 (.seq
 (.reg 2 none [2] [
 ⟨some 2, none, (.mv (.k (.v (.bool false))))⟩])
 .ret)
 .skip))
 (.seq
 (.seq
 (.reg 3 none [1, 48] [
 ⟨some 35, none, (.fa 5 (.t 1))⟩,
 ⟨some 36, none, (.ld none (.t 35))⟩,
 ⟨some 37, none, (.bin .lss false (.t 36) (.k (.v (.int .i64 1))))⟩,
 ⟨some 38, none, (.mv (.t 37))⟩,
 ⟨some 39, some (38, false), (.fa 5 (.t 1))⟩,
 ⟨some 40, some (38, false), (.ld none (.t 39))⟩,
 ⟨some 41, some (38, false), (.bin .gtr false (.t 40) (.k (.v (.int .i64 6))))⟩,
 ⟨some 42, none, (.pick (.t 38) (.k (.v (.bool true))) (.t 41))⟩,
 ⟨some 43, none, (.mv (.t 42))⟩,
 ⟨some 44, some (43, false), (.fa 6 (.t 1))⟩,
 ⟨some 45, some (43, false), (.ld none (.t 44))⟩,
 ⟨some 46, some (43, false), (.lenL (.t 45))⟩,
 ⟨some 47, some (43, false), (.bin .gtr false (.t 46) (.k (.v (.int .i64 2))))⟩,
 ⟨some 48, none, (.pick (.t 43) (.k (.v (.bool true))) (.t 47))⟩])
 (.cond (.t 48)
 (.seq
 (.reg 4 none [2] [
 ⟨some 2, none, (.mv (.k (.v (.bool false))))⟩])
 .ret)
 .skip))
 (.seq
 (.reg 5 none [2] [
 ⟨some 49, none, (.fa 6 (.t 1))⟩,
 ⟨some 50, none, (.ld none (.t 49))⟩,
 ⟨some 51, none, (.call (.k (.clo F_slices_ContainsFunc_Signature [])) [(.t 50), (.k (.clo F_queue_Valid_1 []))])⟩,
 ⟨some 52, none, (.un .not (.t 51))⟩,
 ⟨some 2, none, (.mv (.t 52))⟩])
 .ret))))
theorem fn_queue_Valid : FnIR Try.prog F_queue_Valid 53 [(0, [1]), (1, [1, 34]), (2, [2]), (3, [1, 48]), (4, [2]), (5, [2])] ir_queue_Valid [(.tmp 2)] :=
 ⟨Try.f16, _, Try.func16, rfl, by kernel_rfl, rfl, by kernel_rfl, by kernel_rfl⟩

/-- dataenclave/dataenclaveref35.Valid -/
def ir_ref35_Valid : RC :=
 (.seq
 (.reg 0 none [1] [
 ⟨some 1, none, (.box (.t 0))⟩,
 ⟨some 2, none, (.mv (.k (.v (.bool false))))⟩])
 (.seq
 (.seq
 (.reg 1 none [1, 56] [
 ⟨some 5, none, (.fa 0 (.t 1))⟩,
 ⟨some 6, none, (.ld none (.t 5))⟩,
 ⟨some 7, none, (.bin .lss false (.t 6) (.k (.v (.int .i64 1))))⟩,
 ⟨some 8, none, (.mv (.t 7))⟩,
 ⟨some 9, some (8, false), (.fa 0 (.t 1))⟩,
 ⟨some 10, some (8, false), (.ld none (.t 9))⟩,
 ⟨some 11, some (8, false), (.bin .gtr false (.t 10) (.k (.v (.int .i64 40))))⟩,
 ⟨some 12, none, (.pick (.t 8) (.k (.v (.bool true))) (.t 11))⟩,
 ⟨some 13, none, (.mv (.t 12))⟩,
 ⟨some 14, some (13, false), (.fa 1 (.t 1))⟩,
 ⟨some 15, some (13, false), (.ld none (.t 14))⟩,
 ⟨some 16, some (13, false), (.call (.k (.clo F_ref35_Name [])) [(.t 15)])⟩,
 ⟨some 17, some (13, false), (.un .not (.t 16))⟩,
 ⟨some 18, none, (.pick (.t 13) (.k (.v (.bool true))) (.t 17))⟩,
 ⟨some 19, none, (.mv (.t 18))⟩,
 ⟨some 20, some (19, false), (.fa 2 (.t 1))⟩,
 ⟨some 21, some (19, false), (.ld none (.t 20))⟩,
 ⟨some 22, some (19, false), (.call (.k (.clo F_ref35_Name [])) [(.t 21)])⟩,
 ⟨some 23, some (19, false), (.un .not (.t 22))⟩,
 ⟨some 24, none, (.pick (.t 19) (.k (.v (.bool true))) (.t 23))⟩,
 ⟨some 25, none, (.mv (.t 24))⟩,
 ⟨some 26, some (25, false), (.fa 3 (.t 1))⟩,
 ⟨some 27, some (25, false), (.ld none (.t 26))⟩,
 ⟨some 28, some (25, false), (.bin .lss false (.t 27) (.k (.v (.int .i64 0))))⟩,
 ⟨some 29, none, (.pick (.t 25) (.k (.v (.bool true))) (.t 28))⟩,
 ⟨some 30, none, (.mv (.t 29))⟩,
 ⟨some 31, some (30, false), (.fa 3 (.t 1))⟩,
 ⟨some 32, some (30, false), (.ld none (.t 31))⟩,
 ⟨some 33, some (30, false), (.bin .gtr false (.t 32) (.k (.v (.int .i64 1073741824))))⟩,
 ⟨some 34, none, (.pick (.t 30) (.k (.v (.bool true))) (.t 33))⟩,
 ⟨some 35, none, (.mv (.t 34))⟩,
 ⟨some 36, some (35, false), (.fa 4 (.t 1))⟩,
 ⟨some 37, some (35, false), (.ld none (.t 36))⟩,
 ⟨some 38, some (35, false), (.lenS (.t 37))⟩,
 ⟨some 39, some (35, false), (.bin .gtr false (.t 38) (.k (.v (.int .i64 1024))))⟩,
 ⟨some 40, none, (.pick (.t 35) (.k (.v (.bool true))) (.t 39))⟩,
 ⟨some 41, none, (.mv (.t 40))⟩,
 ⟨some 42, some (41, false), (.fa 5 (.t 1))⟩,
 ⟨some 43, some (41, false), (.ld none (.t 42))⟩,
 ⟨some 44, some (41, false), (.bin .lss false (.t 43) (.k (.v (.int .i64 1))))⟩,
 ⟨some 45, none, (.pick (.t 41) (.k (.v (.bool true))) (.t 44))⟩,
 ⟨some 46, none, (.mv (.t 45))⟩,
 ⟨some 47, some (46, false), (.fa 5 (.t 1))⟩,
 ⟨some 48, some (46, false), (.ld none (.t 47))⟩,
 ⟨some 49, some (46, false), (.bin .gtr false (.t 48) (.k (.v (.int .i64 6))))⟩,
 ⟨some 50, none, (.pick (.t 46) (.k (.v (.bool true))) (.t 49))⟩,
 ⟨some 51, none, (.mv (.t 50))⟩,
 ⟨some 52, some (51, false), (.fa 6 (.t 1))⟩,
 ⟨some 53, some (51, false), (.ld none (.t 52))⟩,
 ⟨some 54, some (51, false), (.lenL (.t 53))⟩,
 ⟨some 55, some (51, false), (.bin .gtr false (.t 54) (.k (.v (.int .i64 2))))⟩,
 ⟨some 56, none, (.pick (.t 51) (.k (.v (.bool true))) (.t 55))⟩])
 (.cond (.t 56)
 (.seq
 (.reg 2 none [2] [
 ⟨some 2, none, (.mv (.k (.v (.bool false))))⟩])
 .ret)
 .skip))
 (.seq
 (.seq
 (.reg 3 none [58, 59, 60] [
 ⟨some 57, none, (.fa 6 (.t 1))⟩,
 ⟨some 58, none, (.ld none (.t 57))⟩,
 ⟨some 59, none, (.lenL (.t 58))⟩,
 ⟨some 60, none, (.mv (.k (.v (.int .i64 0))))⟩])
 (.block 0
 (.loop
 (.seq
 (.reg 4 none [58, 59, 60, 61] [
 ⟨some 61, none, (.bin .lss false (.t 60) (.t 59))⟩])
 (.seq
 (.cond (.t 61)
 .skip
 (.exit 0))
 (.seq
 (.block 1
 (.seq
 (.reg 5 none [4, 58, 59, 60] [
 ⟨some 62, none, (.ixL 2 (.t 58) (.t 60))⟩,
 ⟨some 63, none, (.ld (some 2) (.t 62))⟩,
 ⟨some 4, none, (.new (.agg [(.v (.string ⟨#[]⟩)), (.v (.int .i64 0))]))⟩,
 ⟨none, none, (.st 2 (.t 4) (.t 63))⟩])
 (.seq
 (.reg 6 none [58, 59, 60, 77] [
 ⟨some 64, none, (.fa 0 (.t 4))⟩,
 ⟨some 65, none, (.ld none (.t 64))⟩,
 ⟨some 66, none, (.call (.k (.clo F_ref35_Name [])) [(.t 65)])⟩,
 ⟨some 67, none, (.un .not (.t 66))⟩,
 ⟨some 68, none, (.mv (.t 67))⟩,
 ⟨some 69, some (68, false), (.fa 1 (.t 4))⟩,
 ⟨some 70, some (68, false), (.ld none (.t 69))⟩,
 ⟨some 71, some (68, false), (.bin .lss false (.t 70) (.k (.v (.int .i64 0))))⟩,
 ⟨some 72, none, (.pick (.t 68) (.k (.v (.bool true))) (.t 71))⟩,
 ⟨some 73, none, (.mv (.t 72))⟩,
 ⟨some 74, some (73, false), (.fa 1 (.t 4))⟩,
 ⟨some 75, some (73, false), (.ld none (.t 74))⟩,
 ⟨some 76, some (73, false), (.bin .gtr false (.t 75) (.k (.v (.int .i64 1073741824))))⟩,
 ⟨some 77, none, (.pick (.t 73) (.k (.v (.bool true))) (.t 76))⟩])
 (.cond (.t 77)
 (.seq
 (.reg 7 none [2] [
 ⟨some 2, none, (.mv (.k (.v (.bool false))))⟩])
 .ret)
 .skip))))
 (.reg 8 none [58, 59, 60] [
 ⟨some 78, none, (.bin .add false (.t 60) (.k (.v (.int .i64 1))))⟩,
 ⟨some 60, none, (.mv (.t 78))⟩])))))))
 (.seq
 (.reg 9 none [2] [
 ⟨some 2, none, (.mv (.k (.v (.bool true))))⟩])
 .ret))))
theorem fn_ref35_Valid : FnIR Try.prog F_ref35_Valid 79 [(0, [1]), (1, [1, 56]), (2, [2]), (3, [58, 59, 60]), (4, [58, 59, 60, 61]), (5, [4, 58, 59, 60]), (6, [58, 59, 60, 77]), (7, [2]), (8, [58, 59, 60]), (9, [2])] ir_ref35_Valid [(.tmp 2)] :=
 ⟨Try.f17, _, Try.func17, rfl, by kernel_rfl, rfl, by kernel_rfl, by kernel_rfl⟩

/-- dataenclave/dataenclavedraw.Mod -/
def ir_draw_Mod : RC :=
 (.seq
 (.reg 0 none [0, 1] [
 ⟨some 4, none, (.mv (.k (.v (.int .i64 0))))⟩])
 (.seq
 (.seq
 (.reg 1 none [0, 1, 6] [
 ⟨some 5, none, (.mv (.t 1))⟩,
 ⟨some 6, none, (.bin .lss false (.t 5) (.k (.v (.int .i64 1))))⟩])
 (.cond (.t 6)
 (.seq
 (.reg 2 none [4] [
 ⟨some 4, none, (.mv (.k (.v (.int .i64 0))))⟩])
 .ret)
 .skip))
 (.seq
 (.reg 3 none [0, 1] [
 ⟨some 7, none, (.mv (.t 0))⟩,
 ⟨some 8, none, (.mv (.t 1))⟩,
 ⟨some 9, none, (.bin .rem false (.t 7) (.t 8))⟩,
 ⟨some 0, none, (.mv (.t 9))⟩])
 (.seq
 (.seq
 (.reg 4 none [0, 1, 11] [
 ⟨some 10, none, (.mv (.t 0))⟩,
 ⟨some 11, none, (.bin .lss false (.t 10) (.k (.v (.int .i64 0))))⟩])
 (.cond (.t 11)
 (.reg 5 none [0] [
 ⟨some 12, none, (.mv (.t 0))⟩,
 ⟨some 13, none, (.mv (.t 1))⟩,
 ⟨some 14, none, (.bin .add false (.t 12) (.t 13))⟩,
 ⟨some 0, none, (.mv (.t 14))⟩])
 .skip))
 (.seq
 (.reg 6 none [4] [
 ⟨some 15, none, (.mv (.t 0))⟩,
 ⟨some 4, none, (.mv (.t 15))⟩])
 .ret)))))
theorem fn_draw_Mod : FnIR Try.prog F_draw_Mod 16 [(0, [0, 1]), (1, [0, 1, 6]), (2, [4]), (3, [0, 1]), (4, [0, 1, 11]), (5, [0]), (6, [4])] ir_draw_Mod [(.tmp 4)] :=
 ⟨Try.f18, _, Try.func18, rfl, by kernel_rfl, rfl, by kernel_rfl, by kernel_rfl⟩

/-- dataenclave/queue.Decode -/
def ir_queue_Decode : RC :=
 (.seq
 (.reg 0 none [0, 2] [
 ⟨some 2, none, (.new (.agg [(.v (.int .i64 0)), (.v (.string ⟨#[]⟩)), (.v (.string ⟨#[]⟩)), (.v (.int .i64 0)), (.v (.string ⟨#[]⟩)), (.v (.int .i64 0)), (.v (.slice none 0 0))]))⟩,
 ⟨some 3, none, (.mv (.k (.v (.int .i64 0))))⟩])
 (.seq
 (.reg 1 none [2, 4] [
 ⟨some 8, none, (.mv (.t 0))⟩,
 ⟨some 9, none, (.build [(.v (.slice none 0 0)), (.v (.bool false))] [((0, 1), (.t 8))])⟩,
 ⟨some 10, none, (.box (.t 9))⟩,
 ⟨some 4, none, (.mv (.t 10))⟩])
 (.seq
 (.reg 2 none [2, 4, 5] [
 ⟨some 5, none, (.new (.agg [(.v (.int .i64 0)), (.v (.string ⟨#[]⟩)), (.v (.string ⟨#[]⟩)), (.v (.int .i64 0)), (.v (.string ⟨#[]⟩)), (.v (.int .i64 0)), (.v (.slice none 0 0))]))⟩])
 (.seq
 (.seq
 (.reg 3 none [2, 4, 5, 11, 12, 13] [
 ⟨some 11, none, (.call (.k (.clo F_queue_fields [])) [])⟩,
 ⟨some 12, none, (.lenL (.t 11))⟩,
 ⟨some 13, none, (.mv (.k (.v (.int .i64 0))))⟩])
 (.block 0
 (.loop
 (.seq
 (.reg 4 none [2, 4, 5, 11, 12, 13, 14] [
 ⟨some 14, none, (.bin .lss false (.t 13) (.t 12))⟩])
 (.seq
 (.cond (.t 14)
 .skip
 (.exit 0))
 (.seq
 (.block 1
 (.seq
 (.reg 5 none [2, 4, 5, 7, 11, 12, 13] [
 ⟨some 15, none, (.ixL 2 (.t 11) (.t 13))⟩,
 ⟨some 16, none, (.ld (some 2) (.t 15))⟩,
 ⟨some 7, none, (.new (.agg [(.v .nilFunc), (.v .nilFunc)]))⟩,
 ⟨none, none, (.st 2 (.t 7) (.t 16))⟩])
 (.reg 6 none [2, 4, 5, 11, 12, 13] [
 ⟨some 17, none, (.fa 1 (.t 7))⟩,
 ⟨some 18, none, (.ld none (.t 17))⟩,
 ⟨some 19, none, (.mv (.t 4))⟩,
 ⟨some 20, none, (.call (.t 18) [(.t 19), (.t 5)])⟩])))
 (.reg 7 none [2, 4, 5, 11, 12, 13] [
 ⟨some 21, none, (.bin .add false (.t 13) (.k (.v (.int .i64 1))))⟩,
 ⟨some 13, none, (.mv (.t 21))⟩])))))))
 (.seq
 (.seq
 (.reg 8 none [2, 5, 38] [
 ⟨some 22, none, (.mv (.t 4))⟩,
 ⟨some 23, none, (.nc (.t 22))⟩,
 ⟨some 24, none, (.fa 1 (.t 23))⟩,
 ⟨some 25, none, (.ld none (.t 24))⟩,
 ⟨some 26, none, (.mv (.t 25))⟩,
 ⟨some 27, some (26, false), (.mv (.t 4))⟩,
 ⟨some 28, some (26, false), (.nc (.t 27))⟩,
 ⟨some 29, some (26, false), (.fa 0 (.t 28))⟩,
 ⟨some 30, some (26, false), (.ld none (.t 29))⟩,
 ⟨some 31, some (26, false), (.lenL (.t 30))⟩,
 ⟨some 32, some (26, false), (.bin .gtr false (.t 31) (.k (.v (.int .i64 0))))⟩,
 ⟨some 33, none, (.pick (.t 26) (.k (.v (.bool true))) (.t 32))⟩,
 ⟨some 34, none, (.mv (.t 33))⟩,
 ⟨some 35, some (34, false), (.ld (some 7) (.t 5))⟩,
 ⟨some 36, some (34, false), (.call (.k (.clo F_queue_Valid [])) [(.t 35)])⟩,
 ⟨some 37, some (34, false), (.un .not (.t 36))⟩,
 ⟨some 38, none, (.pick (.t 34) (.k (.v (.bool true))) (.t 37))⟩])
 (.cond (.t 38)
 (.seq
 (.reg 9 none [2, 3] [
 ⟨some 39, none, (.build [(.v (.int .i64 0)), (.v (.string ⟨#[]⟩)), (.v (.string ⟨#[]⟩)), (.v (.int .i64 0)), (.v (.string ⟨#[]⟩)), (.v (.int .i64 0)), (.v (.slice none 0 0))] [])⟩,
 ⟨none, none, (.st 7 (.t 2) (.t 39))⟩,
 ⟨some 3, none, (.mv (.k (.v (.int .i64 11))))⟩])
 .ret)
 .skip))
 (.seq
 (.reg 10 none [2, 3] [
 ⟨some 40, none, (.ld (some 7) (.t 5))⟩,
 ⟨none, none, (.st 7 (.t 2) (.t 40))⟩,
 ⟨some 3, none, (.mv (.k (.v (.int .i64 0))))⟩])
 .ret))))))
theorem fn_queue_Decode : FnIR Try.prog F_queue_Decode 41 [(0, [0, 2]), (1, [2, 4]), (2, [2, 4, 5]), (3, [2, 4, 5, 11, 12, 13]), (4, [2, 4, 5, 11, 12, 13, 14]), (5, [2, 4, 5, 7, 11, 12, 13]), (6, [2, 4, 5, 11, 12, 13]), (7, [2, 4, 5, 11, 12, 13]), (8, [2, 5, 38]), (9, [2, 3]), (10, [2, 3])] ir_queue_Decode [(.cell 2 (some 7)), (.tmp 3)] :=
 ⟨Try.f19, _, Try.func19, rfl, by kernel_rfl, rfl, by kernel_rfl, by kernel_rfl⟩

/-- dataenclave/dataenclaveref35.Decode -/
def ir_ref35_Decode : RC :=
 (.seq
 (.reg 0 none [0, 2] [
 ⟨some 2, none, (.new (.agg [(.v (.int .i64 0)), (.v (.string ⟨#[]⟩)), (.v (.string ⟨#[]⟩)), (.v (.int .i64 0)), (.v (.string ⟨#[]⟩)), (.v (.int .i64 0)), (.v (.slice none 0 0))]))⟩,
 ⟨some 3, none, (.mv (.k (.v (.int .i64 0))))⟩])
 (.seq
 (.reg 1 none [2, 4] [
 ⟨some 9, none, (.mv (.t 0))⟩,
 ⟨some 10, none, (.build [(.v (.slice none 0 0)), (.v (.bool false))] [((0, 1), (.t 9))])⟩,
 ⟨some 4, none, (.new (.agg [(.v (.slice none 0 0)), (.v (.bool false))]))⟩,
 ⟨none, none, (.st 2 (.t 4) (.t 10))⟩])
 (.seq
 (.reg 2 none [2, 4, 5] [
 ⟨some 5, none, (.new (.agg [(.v (.int .i64 0)), (.v (.string ⟨#[]⟩)), (.v (.string ⟨#[]⟩)), (.v (.int .i64 0)), (.v (.string ⟨#[]⟩)), (.v (.int .i64 0)), (.v (.slice none 0 0))]))⟩])
 (.seq
 (.reg 3 none [2, 4, 5] [
 ⟨some 11, none, (.call (.k (.clo F_ref35_reader_number [])) [(.t 4)])⟩,
 ⟨some 12, none, (.fa 0 (.t 5))⟩,
 ⟨none, none, (.st 1 (.t 12) (.t 11))⟩])
 (.seq
 (.reg 4 none [2, 4, 5] [
 ⟨some 13, none, (.call (.k (.clo F_ref35_reader_text [])) [(.t 4)])⟩,
 ⟨some 14, none, (.fa 1 (.t 5))⟩,
 ⟨none, none, (.st 1 (.t 14) (.t 13))⟩])
 (.seq
 (.reg 5 none [2, 4, 5] [
 ⟨some 15, none, (.call (.k (.clo F_ref35_reader_text [])) [(.t 4)])⟩,
 ⟨some 16, none, (.fa 2 (.t 5))⟩,
 ⟨none, none, (.st 1 (.t 16) (.t 15))⟩])
 (.seq
 (.reg 6 none [2, 4, 5] [
 ⟨some 17, none, (.call (.k (.clo F_ref35_reader_number [])) [(.t 4)])⟩,
 ⟨some 18, none, (.fa 3 (.t 5))⟩,
 ⟨none, none, (.st 1 (.t 18) (.t 17))⟩])
 (.seq
 (.reg 7 none [2, 4, 5] [
 ⟨some 19, none, (.call (.k (.clo F_ref35_reader_text [])) [(.t 4)])⟩,
 ⟨some 20, none, (.fa 4 (.t 5))⟩,
 ⟨none, none, (.st 1 (.t 20) (.t 19))⟩])
 (.seq
 (.reg 8 none [2, 4, 5] [
 ⟨some 21, none, (.call (.k (.clo F_ref35_reader_number [])) [(.t 4)])⟩,
 ⟨some 22, none, (.fa 5 (.t 5))⟩,
 ⟨none, none, (.st 1 (.t 22) (.t 21))⟩])
 (.seq
 (.reg 9 none [2, 4, 5, 6] [
 ⟨some 23, none, (.call (.k (.clo F_ref35_reader_number [])) [(.t 4)])⟩,
 ⟨some 6, none, (.mv (.t 23))⟩])
 (.seq
 (.seq
 (.reg 10 none [2, 4, 5, 6, 29] [
 ⟨some 24, none, (.fa 1 (.t 4))⟩,
 ⟨some 25, none, (.ld none (.t 24))⟩,
 ⟨some 26, none, (.mv (.t 25))⟩,
 ⟨some 27, some (26, false), (.mv (.t 6))⟩,
 ⟨some 28, some (26, false), (.bin .gtr false (.t 27) (.k (.v (.int .i64 2))))⟩,
 ⟨some 29, none, (.pick (.t 26) (.k (.v (.bool true))) (.t 28))⟩])
 (.cond (.t 29)
 (.seq
 (.reg 11 none [2, 3] [
 ⟨some 30, none, (.build [(.v (.int .i64 0)), (.v (.string ⟨#[]⟩)), (.v (.string ⟨#[]⟩)), (.v (.int .i64 0)), (.v (.string ⟨#[]⟩)), (.v (.int .i64 0)), (.v (.slice none 0 0))] [])⟩,
 ⟨none, none, (.st 7 (.t 2) (.t 30))⟩,
 ⟨some 3, none, (.mv (.k (.v (.int .i64 11))))⟩])
 .ret)
 .skip))
 (.seq
 (.seq
 (.reg 12 none [2, 4, 5, 6, 7] [
 ⟨some 7, none, (.mv (.k (.v (.int .i64 0))))⟩])
 (.block 0
 (.loop
 (.seq
 (.seq
 (.reg 13 none [2, 4, 5, 6, 7, 33] [
 ⟨some 31, none, (.mv (.t 7))⟩,
 ⟨some 32, none, (.mv (.t 6))⟩,
 ⟨some 33, none, (.bin .lss false (.t 31) (.t 32))⟩])
 (.cond (.t 33)
 .skip
 (.exit 0)))
 (.seq
 (.block 1
 (.seq
 (.reg 15 none [2, 4, 5, 6, 7, 8] [
 ⟨some 36, none, (.call (.k (.clo F_ref35_reader_text [])) [(.t 4)])⟩,
 ⟨some 8, none, (.mv (.t 36))⟩])
 (.reg 16 (some [0, 1, 0, 0, 12, 28, 63, 127, 255]) [2, 4, 5, 6, 7] [
 ⟨some 37, none, (.fa 6 (.t 5))⟩,
 ⟨some 38, none, (.ld none (.t 37))⟩,
 ⟨some 39, none, (.mv (.t 8))⟩,
 ⟨some 40, none, (.call (.k (.clo F_ref35_reader_number [])) [(.t 4)])⟩,
 ⟨some 41, none, (.build [(.v (.string ⟨#[]⟩)), (.v (.int .i64 0))] [((0, 1), (.t 39)), ((1, 1), (.t 40))])⟩,
 ⟨some 42, none, (.bsl 2 1 [(.t 41)])⟩,
 ⟨some 43, none, (.app 2 24 false (.t 38) (.t 42))⟩,
 ⟨some 44, none, (.fa 6 (.t 5))⟩,
 ⟨none, none, (.st 1 (.t 44) (.t 43))⟩])))
 (.reg 14 none [2, 4, 5, 6, 7] [
 ⟨some 34, none, (.mv (.t 7))⟩,
 ⟨some 35, none, (.bin .add false (.t 34) (.k (.v (.int .i64 1))))⟩,
 ⟨some 7, none, (.mv (.t 35))⟩]))))))
 (.seq
 (.seq
 (.reg 17 none [2, 5, 57] [
 ⟨some 45, none, (.fa 1 (.t 4))⟩,
 ⟨some 46, none, (.ld none (.t 45))⟩,
 ⟨some 47, none, (.mv (.t 46))⟩,
 ⟨some 48, some (47, false), (.fa 0 (.t 4))⟩,
 ⟨some 49, some (47, false), (.ld none (.t 48))⟩,
 ⟨some 50, some (47, false), (.lenL (.t 49))⟩,
 ⟨some 51, some (47, false), (.bin .gtr false (.t 50) (.k (.v (.int .i64 0))))⟩,
 ⟨some 52, none, (.pick (.t 47) (.k (.v (.bool true))) (.t 51))⟩,
 ⟨some 53, none, (.mv (.t 52))⟩,
 ⟨some 54, some (53, false), (.ld (some 7) (.t 5))⟩,
 ⟨some 55, some (53, false), (.call (.k (.clo F_ref35_Valid [])) [(.t 54)])⟩,
 ⟨some 56, some (53, false), (.un .not (.t 55))⟩,
 ⟨some 57, none, (.pick (.t 53) (.k (.v (.bool true))) (.t 56))⟩])
 (.cond (.t 57)
 (.seq
 (.reg 18 none [2, 3] [
 ⟨some 58, none, (.build [(.v (.int .i64 0)), (.v (.string ⟨#[]⟩)), (.v (.string ⟨#[]⟩)), (.v (.int .i64 0)), (.v (.string ⟨#[]⟩)), (.v (.int .i64 0)), (.v (.slice none 0 0))] [])⟩,
 ⟨none, none, (.st 7 (.t 2) (.t 58))⟩,
 ⟨some 3, none, (.mv (.k (.v (.int .i64 11))))⟩])
 .ret)
 .skip))
 (.seq
 (.reg 19 none [2, 3] [
 ⟨some 59, none, (.ld (some 7) (.t 5))⟩,
 ⟨none, none, (.st 7 (.t 2) (.t 59))⟩,
 ⟨some 3, none, (.mv (.k (.v (.int .i64 0))))⟩])
 .ret))))))))))))))
theorem fn_ref35_Decode : FnIR Try.prog F_ref35_Decode 60 [(0, [0, 2]), (1, [2, 4]), (2, [2, 4, 5]), (3, [2, 4, 5]), (4, [2, 4, 5]), (5, [2, 4, 5]), (6, [2, 4, 5]), (7, [2, 4, 5]), (8, [2, 4, 5]), (9, [2, 4, 5, 6]), (10, [2, 4, 5, 6, 29]), (11, [2, 3]), (12, [2, 4, 5, 6, 7]), (13, [2, 4, 5, 6, 7, 33]), (14, [2, 4, 5, 6, 7]), (15, [2, 4, 5, 6, 7, 8]), (16, [2, 4, 5, 6, 7]), (17, [2, 5, 57]), (18, [2, 3]), (19, [2, 3])] ir_ref35_Decode [(.cell 2 (some 7)), (.tmp 3)] :=
 ⟨Try.f20, _, Try.func20, rfl, by kernel_rfl, rfl, by kernel_rfl, by kernel_rfl⟩

/-- dataenclave/dataenclaveref35.Same -/
def ir_ref35_Same : RC :=
 (.seq
 (.reg 0 none [2, 3] [
 ⟨some 2, none, (.box (.t 0))⟩,
 ⟨some 3, none, (.box (.t 1))⟩,
 ⟨some 4, none, (.mv (.k (.v (.bool false))))⟩])
 (.seq
 (.seq
 (.reg 1 none [2, 3, 54] [
 ⟨some 6, none, (.fa 0 (.t 2))⟩,
 ⟨some 7, none, (.ld none (.t 6))⟩,
 ⟨some 8, none, (.fa 0 (.t 3))⟩,
 ⟨some 9, none, (.ld none (.t 8))⟩,
 ⟨some 10, none, (.bin .neq false (.t 7) (.t 9))⟩,
 ⟨some 11, none, (.mv (.t 10))⟩,
 ⟨some 12, some (11, false), (.fa 1 (.t 2))⟩,
 ⟨some 13, some (11, false), (.ld none (.t 12))⟩,
 ⟨some 14, some (11, false), (.fa 1 (.t 3))⟩,
 ⟨some 15, some (11, false), (.ld none (.t 14))⟩,
 ⟨some 16, some (11, false), (.bin .neq false (.t 13) (.t 15))⟩,
 ⟨some 17, none, (.pick (.t 11) (.k (.v (.bool true))) (.t 16))⟩,
 ⟨some 18, none, (.mv (.t 17))⟩,
 ⟨some 19, some (18, false), (.fa 2 (.t 2))⟩,
 ⟨some 20, some (18, false), (.ld none (.t 19))⟩,
 ⟨some 21, some (18, false), (.fa 2 (.t 3))⟩,
 ⟨some 22, some (18, false), (.ld none (.t 21))⟩,
 ⟨some 23, some (18, false), (.bin .neq false (.t 20) (.t 22))⟩,
 ⟨some 24, none, (.pick (.t 18) (.k (.v (.bool true))) (.t 23))⟩,
 ⟨some 25, none, (.mv (.t 24))⟩,
 ⟨some 26, some (25, false), (.fa 3 (.t 2))⟩,
 ⟨some 27, some (25, false), (.ld none (.t 26))⟩,
 ⟨some 28, some (25, false), (.fa 3 (.t 3))⟩,
 ⟨some 29, some (25, false), (.ld none (.t 28))⟩,
 ⟨some 30, some (25, false), (.bin .neq false (.t 27) (.t 29))⟩,
 ⟨some 31, none, (.pick (.t 25) (.k (.v (.bool true))) (.t 30))⟩,
 ⟨some 32, none, (.mv (.t 31))⟩,
 ⟨some 33, some (32, false), (.fa 4 (.t 2))⟩,
 ⟨some 34, some (32, false), (.ld none (.t 33))⟩,
 ⟨some 35, some (32, false), (.fa 4 (.t 3))⟩,
 ⟨some 36, some (32, false), (.ld none (.t 35))⟩,
 ⟨some 37, some (32, false), (.bin .neq false (.t 34) (.t 36))⟩,
 ⟨some 38, none, (.pick (.t 32) (.k (.v (.bool true))) (.t 37))⟩,
 ⟨some 39, none, (.mv (.t 38))⟩,
 ⟨some 40, some (39, false), (.fa 5 (.t 2))⟩,
 ⟨some 41, some (39, false), (.ld none (.t 40))⟩,
 ⟨some 42, some (39, false), (.fa 5 (.t 3))⟩,
 ⟨some 43, some (39, false), (.ld none (.t 42))⟩,
 ⟨some 44, some (39, false), (.bin .neq false (.t 41) (.t 43))⟩,
 ⟨some 45, none, (.pick (.t 39) (.k (.v (.bool true))) (.t 44))⟩,
 ⟨some 46, none, (.mv (.t 45))⟩,
 ⟨some 47, some (46, false), (.fa 6 (.t 2))⟩,
 ⟨some 48, some (46, false), (.ld none (.t 47))⟩,
 ⟨some 49, some (46, false), (.lenL (.t 48))⟩,
 ⟨some 50, some (46, false), (.fa 6 (.t 3))⟩,
 ⟨some 51, some (46, false), (.ld none (.t 50))⟩,
 ⟨some 52, some (46, false), (.lenL (.t 51))⟩,
 ⟨some 53, some (46, false), (.bin .neq false (.t 49) (.t 52))⟩,
 ⟨some 54, none, (.pick (.t 46) (.k (.v (.bool true))) (.t 53))⟩])
 (.cond (.t 54)
 (.seq
 (.reg 2 none [4] [
 ⟨some 4, none, (.mv (.k (.v (.bool false))))⟩])
 .ret)
 .skip))
 (.seq
 (.seq
 (.reg 3 none [2, 3, 57, 58] [
 ⟨some 55, none, (.fa 6 (.t 2))⟩,
 ⟨some 56, none, (.ld none (.t 55))⟩,
 ⟨some 57, none, (.lenL (.t 56))⟩,
 ⟨some 58, none, (.mv (.k (.v (.int .i64 0))))⟩])
 (.block 0
 (.loop
 (.seq
 (.reg 4 none [2, 3, 57, 58, 59] [
 ⟨some 59, none, (.bin .lss false (.t 58) (.t 57))⟩])
 (.seq
 (.cond (.t 59)
 .skip
 (.exit 0))
 (.seq
 (.block 1
 (.seq
 (.reg 5 none [2, 3, 5, 57, 58] [
 ⟨some 60, none, (.mv (.t 58))⟩,
 ⟨some 5, none, (.mv (.t 60))⟩])
 (.seq
 (.reg 6 (some [0, 1, 0, 7, 15, 0, 32, 0, 224, 480, 1023]) [2, 3, 57, 58, 71] [
 ⟨some 61, none, (.fa 6 (.t 2))⟩,
 ⟨some 62, none, (.ld none (.t 61))⟩,
 ⟨some 63, none, (.mv (.t 5))⟩,
 ⟨some 64, none, (.ixL 2 (.t 62) (.t 63))⟩,
 ⟨some 65, none, (.ld (some 2) (.t 64))⟩,
 ⟨some 66, none, (.fa 6 (.t 3))⟩,
 ⟨some 67, none, (.ld none (.t 66))⟩,
 ⟨some 68, none, (.mv (.t 5))⟩,
 ⟨some 69, none, (.ixL 2 (.t 67) (.t 68))⟩,
 ⟨some 70, none, (.ld (some 2) (.t 69))⟩,
 ⟨some 71, none, (.ext (.eqS true [.s, (.i .i64)]) [(.t 65), (.t 70)])⟩])
 (.cond (.t 71)
 (.seq
 (.reg 7 none [4] [
 ⟨some 4, none, (.mv (.k (.v (.bool false))))⟩])
 .ret)
 .skip))))
 (.reg 8 none [2, 3, 57, 58] [
 ⟨some 72, none, (.bin .add false (.t 58) (.k (.v (.int .i64 1))))⟩,
 ⟨some 58, none, (.mv (.t 72))⟩])))))))
 (.seq
 (.reg 9 none [4] [
 ⟨some 4, none, (.mv (.k (.v (.bool true))))⟩])
 .ret))))
theorem fn_ref35_Same : FnIR Try.prog F_ref35_Same 73 [(0, [2, 3]), (1, [2, 3, 54]), (2, [4]), (3, [2, 3, 57, 58]), (4, [2, 3, 57, 58, 59]), (5, [2, 3, 5, 57, 58]), (6, [2, 3, 57, 58, 71]), (7, [4]), (8, [2, 3, 57, 58]), (9, [4])] ir_ref35_Same [(.tmp 4)] :=
 ⟨Try.f21, _, Try.func21, rfl, by kernel_rfl, rfl, by kernel_rfl, by kernel_rfl⟩

/-- dataenclave/dataenclaveref23.Append -/
def ir_ref23_Append : RC :=
 (.seq
 (.reg 0 none [1, 2, 4] [
 ⟨some 2, none, (.box (.t 0))⟩,
 ⟨some 4, none, (.new (.agg [(.v (.slice none 0 0)), (.v (.slice none 0 0))]))⟩,
 ⟨some 5, none, (.mv (.k (.v (.int .i64 0))))⟩])
 (.seq
 (.reg 1 none [2, 4, 6, 7] [
 ⟨some 12, none, (.mv (.t 1))⟩,
 ⟨some 13, none, (.call (.k (.clo F_ref23_Frame [])) [(.t 12)])⟩,
 ⟨some 11, none, (.mv (.t 13))⟩,
 ⟨some 14, none, (.ex (.t 11) 0)⟩,
 ⟨some 15, none, (.ex (.t 11) 1)⟩,
 ⟨some 6, none, (.mv (.t 14))⟩,
 ⟨some 7, none, (.mv (.t 15))⟩])
 (.seq
 (.seq
 (.reg 2 none [2, 4, 6, 7, 17] [
 ⟨some 16, none, (.mv (.t 7))⟩,
 ⟨some 17, none, (.bin .neq false (.t 16) (.k (.v (.int .i64 0))))⟩])
 (.cond (.t 17)
 (.seq
 (.reg 3 none [4, 5] [
 ⟨some 18, none, (.ld (some 2) (.t 2))⟩,
 ⟨some 19, none, (.call (.k (.clo F_ref23_Copy [])) [(.t 18)])⟩,
 ⟨some 20, none, (.mv (.t 7))⟩,
 ⟨none, none, (.st 2 (.t 4) (.t 19))⟩,
 ⟨some 5, none, (.mv (.t 20))⟩])
 .ret)
 .skip))
 (.seq
 (.seq
 (.reg 4 none [2, 4, 6, 9] [
 ⟨some 22, none, (.fa 0 (.t 2))⟩,
 ⟨some 23, none, (.ld none (.t 22))⟩,
 ⟨some 24, none, (.call (.k (.clo F_ref23_Read [])) [(.t 23)])⟩,
 ⟨some 21, none, (.mv (.t 24))⟩,
 ⟨some 25, none, (.ex (.t 21) 0)⟩,
 ⟨some 26, none, (.ex (.t 21) 1)⟩,
 ⟨some 8, none, (.mv (.t 25))⟩,
 ⟨some 9, none, (.mv (.t 26))⟩])
 (.seq
 (.reg 5 none [2, 4, 6, 31] [
 ⟨some 27, none, (.mv (.t 9))⟩,
 ⟨some 28, none, (.fa 0 (.t 2))⟩,
 ⟨some 29, none, (.ld none (.t 28))⟩,
 ⟨some 30, none, (.lenL (.t 29))⟩,
 ⟨some 31, none, (.bin .neq false (.t 27) (.t 30))⟩])
 (.cond (.t 31)
 (.seq
 (.reg 6 none [4, 5] [
 ⟨some 32, none, (.ld (some 2) (.t 2))⟩,
 ⟨some 33, none, (.call (.k (.clo F_ref23_Copy [])) [(.t 32)])⟩,
 ⟨none, none, (.st 2 (.t 4) (.t 33))⟩,
 ⟨some 5, none, (.mv (.k (.v (.int .i64 40))))⟩])
 .ret)
 .skip)))
 (.seq
 (.seq
 (.reg 7 none [2, 4, 6, 44] [
 ⟨some 34, none, (.fa 0 (.t 2))⟩,
 ⟨some 35, none, (.ld none (.t 34))⟩,
 ⟨some 36, none, (.lenL (.t 35))⟩,
 ⟨some 37, none, (.fa 1 (.t 2))⟩,
 ⟨some 38, none, (.ld none (.t 37))⟩,
 ⟨some 39, none, (.lenL (.t 38))⟩,
 ⟨some 40, none, (.bin .add false (.t 36) (.t 39))⟩,
 ⟨some 41, none, (.mv (.t 6))⟩,
 ⟨some 42, none, (.lenL (.t 41))⟩,
 ⟨some 43, none, (.bin .add false (.t 40) (.t 42))⟩,
 ⟨some 44, none, (.bin .gtr false (.t 43) (.k (.v (.int .i64 262144))))⟩])
 (.cond (.t 44)
 (.seq
 (.reg 8 none [4, 5] [
 ⟨some 45, none, (.ld (some 2) (.t 2))⟩,
 ⟨some 46, none, (.call (.k (.clo F_ref23_Copy [])) [(.t 45)])⟩,
 ⟨none, none, (.st 2 (.t 4) (.t 46))⟩,
 ⟨some 5, none, (.mv (.k (.v (.int .i64 42))))⟩])
 .ret)
 .skip))
 (.seq
 (.reg 9 none [4, 6, 10] [
 ⟨some 47, none, (.ld (some 2) (.t 2))⟩,
 ⟨some 48, none, (.call (.k (.clo F_ref23_Copy [])) [(.t 47)])⟩,
 ⟨some 10, none, (.new (.agg [(.v (.slice none 0 0)), (.v (.slice none 0 0))]))⟩,
 ⟨none, none, (.st 2 (.t 10) (.t 48))⟩])
 (.seq
 (.reg 10 none [4, 10] [
 ⟨some 49, none, (.fa 1 (.t 10))⟩,
 ⟨some 50, none, (.ld none (.t 49))⟩,
 ⟨some 51, none, (.mv (.t 6))⟩,
 ⟨some 52, none, (.app 1 1 false (.t 50) (.t 51))⟩,
 ⟨some 53, none, (.fa 1 (.t 10))⟩,
 ⟨none, none, (.st 1 (.t 53) (.t 52))⟩])
 (.seq
 (.reg 11 none [4, 5] [
 ⟨some 54, none, (.ld (some 2) (.t 10))⟩,
 ⟨none, none, (.st 2 (.t 4) (.t 54))⟩,
 ⟨some 5, none, (.mv (.k (.v (.int .i64 0))))⟩])
 .ret))))))))
theorem fn_ref23_Append : FnIR Try.prog F_ref23_Append 55 [(0, [1, 2, 4]), (1, [2, 4, 6, 7]), (2, [2, 4, 6, 7, 17]), (3, [4, 5]), (4, [2, 4, 6, 9]), (5, [2, 4, 6, 31]), (6, [4, 5]), (7, [2, 4, 6, 44]), (8, [4, 5]), (9, [4, 6, 10]), (10, [4, 10]), (11, [4, 5])] ir_ref23_Append [(.cell 4 (some 2)), (.tmp 5)] :=
 ⟨Try.f22, _, Try.func22, rfl, by kernel_rfl, rfl, by kernel_rfl, by kernel_rfl⟩

/-- dataenclave/dataenclaveref23.Sync -/
def ir_ref23_Sync : RC :=
 (.seq
 (.reg 0 none [1, 2] [
 ⟨some 1, none, (.box (.t 0))⟩,
 ⟨some 2, none, (.new (.agg [(.v (.slice none 0 0)), (.v (.slice none 0 0))]))⟩])
 (.seq
 (.reg 1 none [2] [
 ⟨some 3, none, (.ld (some 2) (.t 1))⟩,
 ⟨some 4, none, (.fa 1 (.t 1))⟩,
 ⟨some 5, none, (.ld none (.t 4))⟩,
 ⟨some 6, none, (.lenL (.t 5))⟩,
 ⟨some 7, none, (.call (.k (.clo F_ref23_Crash [])) [(.t 3), (.t 6)])⟩,
 ⟨none, none, (.st 2 (.t 2) (.t 7))⟩])
 .ret))
theorem fn_ref23_Sync : FnIR Try.prog F_ref23_Sync 8 [(0, [1, 2]), (1, [2])] ir_ref23_Sync [(.cell 2 (some 2))] :=
 ⟨Try.f23, _, Try.func23, rfl, by kernel_rfl, rfl, by kernel_rfl, by kernel_rfl⟩

/-- dataenclave/queue.Put -/
def ir_queue_Put : RC :=
 (.seq
 (.reg 0 none [2, 3, 4] [
 ⟨some 2, none, (.box (.t 0))⟩,
 ⟨some 3, none, (.box (.t 1))⟩,
 ⟨some 4, none, (.new (.agg [(.v (.slice none 0 0)), (.v (.slice none 0 0))]))⟩,
 ⟨some 5, none, (.mv (.k (.v (.int .i64 0))))⟩])
 (.seq
 (.reg 1 none [2, 3, 4, 6, 7] [
 ⟨some 12, none, (.ld (some 7) (.t 3))⟩,
 ⟨some 13, none, (.call (.k (.clo F_queue_Encode [])) [(.t 12)])⟩,
 ⟨some 11, none, (.mv (.t 13))⟩,
 ⟨some 14, none, (.ex (.t 11) 0)⟩,
 ⟨some 15, none, (.ex (.t 11) 1)⟩,
 ⟨some 6, none, (.mv (.t 14))⟩,
 ⟨some 7, none, (.mv (.t 15))⟩])
 (.seq
 (.seq
 (.reg 2 none [2, 3, 4, 6, 7, 17] [
 ⟨some 16, none, (.mv (.t 7))⟩,
 ⟨some 17, none, (.bin .neq false (.t 16) (.k (.v (.int .i64 0))))⟩])
 (.cond (.t 17)
 (.seq
 (.reg 3 none [4, 5] [
 ⟨some 18, none, (.ld (some 2) (.t 2))⟩,
 ⟨some 19, none, (.call (.k (.clo F_queue_copied [])) [(.t 18)])⟩,
 ⟨some 20, none, (.mv (.t 7))⟩,
 ⟨none, none, (.st 2 (.t 4) (.t 19))⟩,
 ⟨some 5, none, (.mv (.t 20))⟩])
 .ret)
 .skip))
 (.seq
 (.reg 4 none [2, 3, 4, 7, 8] [
 ⟨some 22, none, (.ld (some 2) (.t 2))⟩,
 ⟨some 23, none, (.mv (.t 6))⟩,
 ⟨some 24, none, (.call (.k (.clo F_journal_Append [])) [(.t 22), (.t 23)])⟩,
 ⟨some 21, none, (.mv (.t 24))⟩,
 ⟨some 25, none, (.ex (.t 21) 0)⟩,
 ⟨some 26, none, (.ex (.t 21) 1)⟩,
 ⟨some 8, none, (.new (.agg [(.v (.slice none 0 0)), (.v (.slice none 0 0))]))⟩,
 ⟨none, none, (.st 2 (.t 8) (.t 25))⟩,
 ⟨some 7, none, (.mv (.t 26))⟩])
 (.seq
 (.seq
 (.reg 5 none [2, 3, 4, 7, 8, 28] [
 ⟨some 27, none, (.mv (.t 7))⟩,
 ⟨some 28, none, (.bin .neq false (.t 27) (.k (.v (.int .i64 0))))⟩])
 (.cond (.t 28)
 (.seq
 (.reg 6 none [4, 5] [
 ⟨some 29, none, (.ld (some 2) (.t 2))⟩,
 ⟨some 30, none, (.call (.k (.clo F_queue_copied [])) [(.t 29)])⟩,
 ⟨some 31, none, (.mv (.t 7))⟩,
 ⟨none, none, (.st 2 (.t 4) (.t 30))⟩,
 ⟨some 5, none, (.mv (.t 31))⟩])
 .ret)
 .skip))
 (.seq
 (.reg 7 none [2, 3, 4, 7, 8, 10] [
 ⟨some 33, none, (.ld (some 2) (.t 2))⟩,
 ⟨some 34, none, (.call (.k (.clo F_queue_Load [])) [(.t 33)])⟩,
 ⟨some 32, none, (.mv (.t 34))⟩,
 ⟨some 35, none, (.ex (.t 32) 0)⟩,
 ⟨some 36, none, (.ex (.t 32) 1)⟩,
 ⟨some 37, none, (.ex (.t 32) 2)⟩,
 ⟨some 9, none, (.new (.agg [(.v (.slice none 0 0)), (.v (.slice none 0 0))]))⟩,
 ⟨none, none, (.st 2 (.t 9) (.t 35))⟩,
 ⟨some 10, none, (.mv (.t 36))⟩,
 ⟨some 7, none, (.mv (.t 37))⟩])
 (.seq
 (.block 0
 (.seq
 (.reg 8 none [2, 3, 4, 7, 8, 10, 38] [
 ⟨some 39, none, (.mv (.t 7))⟩,
 ⟨some 40, none, (.bin .neq false (.t 39) (.k (.v (.int .i64 0))))⟩,
 ⟨some 38, none, (.mv (.t 40))⟩])
 (.cond (.t 38)
 (.seq
 (.reg 9 none [4, 5] [
 ⟨some 41, none, (.ld (some 2) (.t 2))⟩,
 ⟨some 42, none, (.call (.k (.clo F_queue_copied [])) [(.t 41)])⟩,
 ⟨some 43, none, (.mv (.t 7))⟩,
 ⟨none, none, (.st 2 (.t 4) (.t 42))⟩,
 ⟨some 5, none, (.mv (.t 43))⟩])
 .ret)
 (.seq
 (.reg 10 none [2, 4, 8, 44] [
 ⟨some 45, none, (.fa 0 (.t 3))⟩,
 ⟨some 46, none, (.ld none (.t 45))⟩,
 ⟨some 47, none, (.mv (.t 10))⟩,
 ⟨some 48, none, (.lenL (.t 47))⟩,
 ⟨some 49, none, (.bin .add false (.t 48) (.k (.v (.int .i64 1))))⟩,
 ⟨some 50, none, (.bin .gtr false (.t 46) (.t 49))⟩,
 ⟨some 44, none, (.mv (.t 50))⟩])
 (.cond (.t 44)
 (.seq
 (.reg 11 none [4, 5] [
 ⟨some 51, none, (.ld (some 2) (.t 2))⟩,
 ⟨some 52, none, (.call (.k (.clo F_queue_copied [])) [(.t 51)])⟩,
 ⟨none, none, (.st 2 (.t 4) (.t 52))⟩,
 ⟨some 5, none, (.mv (.k (.v (.int .i64 48))))⟩])
 .ret)
 .skip)))))
 (.seq
 (.reg 12 none [4, 5] [
 ⟨some 53, none, (.ld (some 2) (.t 8))⟩,
 ⟨some 54, none, (.call (.k (.clo F_journal_Sync [])) [(.t 53)])⟩,
 ⟨none, none, (.st 2 (.t 4) (.t 54))⟩,
 ⟨some 5, none, (.mv (.k (.v (.int .i64 0))))⟩])
 .ret))))))))
theorem fn_queue_Put : FnIR Try.prog F_queue_Put 55 [(0, [2, 3, 4]), (1, [2, 3, 4, 6, 7]), (2, [2, 3, 4, 6, 7, 17]), (3, [4, 5]), (4, [2, 3, 4, 7, 8]), (5, [2, 3, 4, 7, 8, 28]), (6, [4, 5]), (7, [2, 3, 4, 7, 8, 10]), (8, [2, 3, 4, 7, 8, 10, 38]), (9, [4, 5]), (10, [2, 4, 8, 44]), (11, [4, 5]), (12, [4, 5])] ir_queue_Put [(.cell 4 (some 2)), (.tmp 5)] :=
 ⟨Try.f24, _, Try.func24, rfl, by kernel_rfl, rfl, by kernel_rfl, by kernel_rfl⟩

/-- dataenclave/queue.Load -/
def ir_queue_Load : RC :=
 (.seq
 (.reg 0 none [1, 2] [
 ⟨some 1, none, (.box (.t 0))⟩,
 ⟨some 2, none, (.new (.agg [(.v (.slice none 0 0)), (.v (.slice none 0 0))]))⟩,
 ⟨some 3, none, (.mv (.k (.v (.slice none 0 0))))⟩,
 ⟨some 4, none, (.mv (.k (.v (.int .i64 0))))⟩])
 (.seq
 (.reg 1 none [2, 5, 6] [
 ⟨some 13, none, (.ld (some 2) (.t 1))⟩,
 ⟨some 14, none, (.call (.k (.clo F_journal_Recover [])) [(.t 13)])⟩,
 ⟨some 12, none, (.mv (.t 14))⟩,
 ⟨some 15, none, (.ex (.t 12) 0)⟩,
 ⟨some 16, none, (.ex (.t 12) 1)⟩,
 ⟨some 5, none, (.new (.agg [(.v (.slice none 0 0)), (.v (.slice none 0 0))]))⟩,
 ⟨none, none, (.st 2 (.t 5) (.t 15))⟩,
 ⟨some 6, none, (.mv (.t 16))⟩])
 (.seq
 (.reg 2 none [2, 5, 6, 7] [
 ⟨some 7, none, (.mv (.k (.v (.slice none 0 0))))⟩])
 (.seq
 (.seq
 (.reg 3 none [2, 5, 7, 17, 18, 19] [
 ⟨some 17, none, (.mv (.t 6))⟩,
 ⟨some 18, none, (.lenL (.t 17))⟩,
 ⟨some 19, none, (.mv (.k (.v (.int .i64 0))))⟩])
 (.block 0
 (.loop
 (.seq
 (.reg 4 none [2, 5, 7, 17, 18, 19, 20] [
 ⟨some 20, none, (.bin .lss false (.t 19) (.t 18))⟩])
 (.seq
 (.cond (.t 20)
 .skip
 (.exit 0))
 (.seq
 (.block 1
 (.seq
 (.reg 5 none [2, 5, 7, 9, 17, 18, 19] [
 ⟨some 21, none, (.ixL 1 (.t 17) (.t 19))⟩,
 ⟨some 22, none, (.ld none (.t 21))⟩,
 ⟨some 9, none, (.mv (.t 22))⟩])
 (.seq
 (.reg 6 none [2, 5, 7, 10, 11, 17, 18, 19] [
 ⟨some 24, none, (.mv (.t 9))⟩,
 ⟨some 25, none, (.call (.k (.clo F_queue_Decode [])) [(.t 24)])⟩,
 ⟨some 23, none, (.mv (.t 25))⟩,
 ⟨some 26, none, (.ex (.t 23) 0)⟩,
 ⟨some 27, none, (.ex (.t 23) 1)⟩,
 ⟨some 10, none, (.new (.agg [(.v (.int .i64 0)), (.v (.string ⟨#[]⟩)), (.v (.string ⟨#[]⟩)), (.v (.int .i64 0)), (.v (.string ⟨#[]⟩)), (.v (.int .i64 0)), (.v (.slice none 0 0))]))⟩,
 ⟨none, none, (.st 7 (.t 10) (.t 26))⟩,
 ⟨some 11, none, (.mv (.t 27))⟩])
 (.block 2
 (.seq
 (.reg 8 none [2, 5, 7, 10, 11, 17, 18, 19, 34] [
 ⟨some 35, none, (.mv (.t 11))⟩,
 ⟨some 36, none, (.bin .neq false (.t 35) (.k (.v (.int .i64 0))))⟩,
 ⟨some 34, none, (.mv (.t 36))⟩])
 (.cond (.t 34)
 (.seq
 (.reg 9 none [2, 3, 4] [
 ⟨some 37, none, (.build [(.v (.slice none 0 0)), (.v (.slice none 0 0))] [])⟩,
 ⟨some 38, none, (.mv (.t 11))⟩,
 ⟨none, none, (.st 2 (.t 2) (.t 37))⟩,
 ⟨some 3, none, (.mv (.k (.v (.slice none 0 0))))⟩,
 ⟨some 4, none, (.mv (.t 38))⟩])
 .ret)
 (.seq
 (.reg 10 none [2, 5, 7, 10, 17, 18, 19, 39] [
 ⟨some 40, none, (.fa 0 (.t 10))⟩,
 ⟨some 41, none, (.ld none (.t 40))⟩,
 ⟨some 42, none, (.mv (.t 7))⟩,
 ⟨some 43, none, (.lenL (.t 42))⟩,
 ⟨some 44, none, (.bin .add false (.t 43) (.k (.v (.int .i64 1))))⟩,
 ⟨some 45, none, (.bin .gtr false (.t 41) (.t 44))⟩,
 ⟨some 39, none, (.mv (.t 45))⟩])
 (.cond (.t 39)
 (.seq
 (.reg 11 none [2, 3, 4] [
 ⟨some 46, none, (.build [(.v (.slice none 0 0)), (.v (.slice none 0 0))] [])⟩,
 ⟨none, none, (.st 2 (.t 2) (.t 46))⟩,
 ⟨some 3, none, (.mv (.k (.v (.slice none 0 0))))⟩,
 ⟨some 4, none, (.mv (.k (.v (.int .i64 48))))⟩])
 .ret)
 (.seq
 (.reg 12 none [2, 5, 7, 10, 17, 18, 19, 47] [
 ⟨some 48, none, (.fa 0 (.t 10))⟩,
 ⟨some 49, none, (.ld none (.t 48))⟩,
 ⟨some 50, none, (.mv (.t 7))⟩,
 ⟨some 51, none, (.lenL (.t 50))⟩,
 ⟨some 52, none, (.bin .add false (.t 51) (.k (.v (.int .i64 1))))⟩,
 ⟨some 53, none, (.bin .eql false (.t 49) (.t 52))⟩,
 ⟨some 47, none, (.mv (.t 53))⟩])
 (.cond (.t 47)
 (.reg 13 none [2, 5, 7, 17, 18, 19] [
 ⟨some 54, none, (.mv (.t 7))⟩,
 ⟨some 55, none, (.ld (some 7) (.t 10))⟩,
 ⟨some 56, none, (.bsl 7 1 [(.t 55)])⟩,
 ⟨some 57, none, (.app 7 96 false (.t 54) (.t 56))⟩,
 ⟨some 7, none, (.mv (.t 57))⟩])
 (.reg 7 none [2, 5, 7, 17, 18, 19] [
 ⟨some 28, none, (.mv (.t 7))⟩,
 ⟨some 29, none, (.fa 0 (.t 10))⟩,
 ⟨some 30, none, (.ld none (.t 29))⟩,
 ⟨some 31, none, (.bin .sub false (.t 30) (.k (.v (.int .i64 1))))⟩,
 ⟨some 32, none, (.ld (some 7) (.t 10))⟩,
 ⟨some 33, none, (.ixL 7 (.t 28) (.t 31))⟩,
 ⟨none, none, (.st 7 (.t 33) (.t 32))⟩])))))))))))
 (.reg 14 none [2, 5, 7, 17, 18, 19] [
 ⟨some 58, none, (.bin .add false (.t 19) (.k (.v (.int .i64 1))))⟩,
 ⟨some 19, none, (.mv (.t 58))⟩])))))))
 (.seq
 (.reg 15 none [2, 3, 4] [
 ⟨some 59, none, (.ld (some 2) (.t 5))⟩,
 ⟨some 60, none, (.mv (.t 7))⟩,
 ⟨none, none, (.st 2 (.t 2) (.t 59))⟩,
 ⟨some 3, none, (.mv (.t 60))⟩,
 ⟨some 4, none, (.mv (.k (.v (.int .i64 0))))⟩])
 .ret)))))
theorem fn_queue_Load : FnIR Try.prog F_queue_Load 61 [(0, [1, 2]), (1, [2, 5, 6]), (2, [2, 5, 6, 7]), (3, [2, 5, 7, 17, 18, 19]), (4, [2, 5, 7, 17, 18, 19, 20]), (5, [2, 5, 7, 9, 17, 18, 19]), (6, [2, 5, 7, 10, 11, 17, 18, 19]), (7, [2, 5, 7, 17, 18, 19]), (8, [2, 5, 7, 10, 11, 17, 18, 19, 34]), (9, [2, 3, 4]), (10, [2, 5, 7, 10, 17, 18, 19, 39]), (11, [2, 3, 4]), (12, [2, 5, 7, 10, 17, 18, 19, 47]), (13, [2, 5, 7, 17, 18, 19]), (14, [2, 5, 7, 17, 18, 19]), (15, [2, 3, 4])] ir_queue_Load [(.cell 2 (some 2)), (.tmp 3), (.tmp 4)] :=
 ⟨Try.f25, _, Try.func25, rfl, by kernel_rfl, rfl, by kernel_rfl, by kernel_rfl⟩

/-- dataenclave/dataenclaveref35.Load -/
def ir_ref35_Load : RC :=
 (.seq
 (.reg 0 none [1, 2] [
 ⟨some 1, none, (.box (.t 0))⟩,
 ⟨some 2, none, (.new (.agg [(.v (.slice none 0 0)), (.v (.slice none 0 0))]))⟩,
 ⟨some 3, none, (.mv (.k (.v (.slice none 0 0))))⟩,
 ⟨some 4, none, (.mv (.k (.v (.int .i64 0))))⟩])
 (.seq
 (.reg 1 none [2, 5, 6] [
 ⟨some 10, none, (.ld (some 2) (.t 1))⟩,
 ⟨some 11, none, (.call (.k (.clo F_ref23_Recover [])) [(.t 10)])⟩,
 ⟨some 9, none, (.mv (.t 11))⟩,
 ⟨some 12, none, (.ex (.t 9) 0)⟩,
 ⟨some 13, none, (.ex (.t 9) 1)⟩,
 ⟨some 5, none, (.new (.agg [(.v (.slice none 0 0)), (.v (.slice none 0 0))]))⟩,
 ⟨none, none, (.st 2 (.t 5) (.t 12))⟩,
 ⟨some 6, none, (.mv (.t 13))⟩])
 (.seq
 (.reg 2 none [2, 5, 7, 8] [
 ⟨some 15, none, (.mv (.t 6))⟩,
 ⟨some 16, none, (.call (.k (.clo F_ref35_outputs [])) [(.t 15)])⟩,
 ⟨some 14, none, (.mv (.t 16))⟩,
 ⟨some 17, none, (.ex (.t 14) 0)⟩,
 ⟨some 18, none, (.ex (.t 14) 1)⟩,
 ⟨some 7, none, (.mv (.t 17))⟩,
 ⟨some 8, none, (.mv (.t 18))⟩])
 (.seq
 (.seq
 (.reg 3 none [2, 5, 7, 8, 20] [
 ⟨some 19, none, (.mv (.t 8))⟩,
 ⟨some 20, none, (.bin .neq false (.t 19) (.k (.v (.int .i64 0))))⟩])
 (.cond (.t 20)
 (.seq
 (.reg 4 none [2, 3, 4] [
 ⟨some 21, none, (.build [(.v (.slice none 0 0)), (.v (.slice none 0 0))] [])⟩,
 ⟨some 22, none, (.mv (.t 8))⟩,
 ⟨none, none, (.st 2 (.t 2) (.t 21))⟩,
 ⟨some 3, none, (.mv (.k (.v (.slice none 0 0))))⟩,
 ⟨some 4, none, (.mv (.t 22))⟩])
 .ret)
 .skip))
 (.seq
 (.reg 5 none [2, 3, 4] [
 ⟨some 23, none, (.ld (some 2) (.t 5))⟩,
 ⟨some 24, none, (.mv (.t 7))⟩,
 ⟨none, none, (.st 2 (.t 2) (.t 23))⟩,
 ⟨some 3, none, (.mv (.t 24))⟩,
 ⟨some 4, none, (.mv (.k (.v (.int .i64 0))))⟩])
 .ret)))))
theorem fn_ref35_Load : FnIR Try.prog F_ref35_Load 25 [(0, [1, 2]), (1, [2, 5, 6]), (2, [2, 5, 7, 8]), (3, [2, 5, 7, 8, 20]), (4, [2, 3, 4]), (5, [2, 3, 4])] ir_ref35_Load [(.cell 2 (some 2)), (.tmp 3), (.tmp 4)] :=
 ⟨Try.f26, _, Try.func26, rfl, by kernel_rfl, rfl, by kernel_rfl, by kernel_rfl⟩

/-- dataenclave/dataenclaveref23.Same -/
def ir_ref23_Same : RC :=
 (.seq
 (.reg 0 none [2, 3] [
 ⟨some 2, none, (.box (.t 0))⟩,
 ⟨some 3, none, (.box (.t 1))⟩,
 ⟨some 4, none, (.mv (.k (.v (.bool false))))⟩])
 (.seq
 (.reg 1 none [4] [
 ⟨some 5, none, (.fa 0 (.t 2))⟩,
 ⟨some 6, none, (.ld none (.t 5))⟩,
 ⟨some 7, none, (.cvBS (.t 6))⟩,
 ⟨some 8, none, (.fa 0 (.t 3))⟩,
 ⟨some 9, none, (.ld none (.t 8))⟩,
 ⟨some 10, none, (.cvBS (.t 9))⟩,
 ⟨some 11, none, (.bin .eql false (.t 7) (.t 10))⟩,
 ⟨some 12, none, (.mv (.t 11))⟩,
 ⟨some 13, some (12, true), (.fa 1 (.t 2))⟩,
 ⟨some 14, some (12, true), (.ld none (.t 13))⟩,
 ⟨some 15, some (12, true), (.cvBS (.t 14))⟩,
 ⟨some 16, some (12, true), (.fa 1 (.t 3))⟩,
 ⟨some 17, some (12, true), (.ld none (.t 16))⟩,
 ⟨some 18, some (12, true), (.cvBS (.t 17))⟩,
 ⟨some 19, some (12, true), (.bin .eql false (.t 15) (.t 18))⟩,
 ⟨some 20, none, (.pick (.t 12) (.t 19) (.k (.v (.bool false))))⟩,
 ⟨some 4, none, (.mv (.t 20))⟩])
 .ret))
theorem fn_ref23_Same : FnIR Try.prog F_ref23_Same 21 [(0, [2, 3]), (1, [4])] ir_ref23_Same [(.tmp 4)] :=
 ⟨Try.f27, _, Try.func27, rfl, by kernel_rfl, rfl, by kernel_rfl, by kernel_rfl⟩

/-- dataenclave/dataenclaveref35.Alike -/
def ir_ref35_Alike : RC :=
 (.seq
 (.reg 0 none [0, 1] [
 ⟨some 4, none, (.mv (.k (.v (.bool false))))⟩])
 (.seq
 (.seq
 (.reg 1 none [0, 1, 10] [
 ⟨some 6, none, (.mv (.t 0))⟩,
 ⟨some 7, none, (.lenL (.t 6))⟩,
 ⟨some 8, none, (.mv (.t 1))⟩,
 ⟨some 9, none, (.lenL (.t 8))⟩,
 ⟨some 10, none, (.bin .neq false (.t 7) (.t 9))⟩])
 (.cond (.t 10)
 (.seq
 (.reg 2 none [4] [
 ⟨some 4, none, (.mv (.k (.v (.bool false))))⟩])
 .ret)
 .skip))
 (.seq
 (.seq
 (.reg 3 none [0, 1, 12, 13] [
 ⟨some 11, none, (.mv (.t 0))⟩,
 ⟨some 12, none, (.lenL (.t 11))⟩,
 ⟨some 13, none, (.mv (.k (.v (.int .i64 0))))⟩])
 (.block 0
 (.loop
 (.seq
 (.reg 4 none [0, 1, 12, 13, 14] [
 ⟨some 14, none, (.bin .lss false (.t 13) (.t 12))⟩])
 (.seq
 (.cond (.t 14)
 .skip
 (.exit 0))
 (.seq
 (.block 1
 (.seq
 (.reg 5 none [0, 1, 5, 12, 13] [
 ⟨some 15, none, (.mv (.t 13))⟩,
 ⟨some 5, none, (.mv (.t 15))⟩])
 (.seq
 (.reg 6 (some [0, 0, 3, 7, 0, 0, 48, 112, 255, 511]) [0, 1, 12, 13, 25] [
 ⟨some 16, none, (.mv (.t 0))⟩,
 ⟨some 17, none, (.mv (.t 5))⟩,
 ⟨some 18, none, (.ixL 7 (.t 16) (.t 17))⟩,
 ⟨some 19, none, (.ld (some 7) (.t 18))⟩,
 ⟨some 20, none, (.mv (.t 1))⟩,
 ⟨some 21, none, (.mv (.t 5))⟩,
 ⟨some 22, none, (.ixL 7 (.t 20) (.t 21))⟩,
 ⟨some 23, none, (.ld (some 7) (.t 22))⟩,
 ⟨some 24, none, (.call (.k (.clo F_ref35_Same [])) [(.t 19), (.t 23)])⟩,
 ⟨some 25, none, (.un .not (.t 24))⟩])
 (.cond (.t 25)
 (.seq
 (.reg 7 none [4] [
 ⟨some 4, none, (.mv (.k (.v (.bool false))))⟩])
 .ret)
 .skip))))
 (.reg 8 none [0, 1, 12, 13] [
 ⟨some 26, none, (.bin .add false (.t 13) (.k (.v (.int .i64 1))))⟩,
 ⟨some 13, none, (.mv (.t 26))⟩])))))))
 (.seq
 (.reg 9 none [4] [
 ⟨some 4, none, (.mv (.k (.v (.bool true))))⟩])
 .ret))))
theorem fn_ref35_Alike : FnIR Try.prog F_ref35_Alike 27 [(0, [0, 1]), (1, [0, 1, 10]), (2, [4]), (3, [0, 1, 12, 13]), (4, [0, 1, 12, 13, 14]), (5, [0, 1, 5, 12, 13]), (6, [0, 1, 12, 13, 25]), (7, [4]), (8, [0, 1, 12, 13]), (9, [4])] ir_ref35_Alike [(.tmp 4)] :=
 ⟨Try.f28, _, Try.func28, rfl, by kernel_rfl, rfl, by kernel_rfl, by kernel_rfl⟩

/-- dataenclave/dataenclaveref23.Crash -/
def ir_ref23_Crash : RC :=
 (.seq
 (.reg 0 none [1, 2, 4] [
 ⟨some 2, none, (.box (.t 0))⟩,
 ⟨some 4, none, (.new (.agg [(.v (.slice none 0 0)), (.v (.slice none 0 0))]))⟩])
 (.seq
 (.reg 1 none [1, 2, 4] [
 ⟨some 5, none, (.mv (.t 1))⟩,
 ⟨some 6, none, (.mx [(.t 5), (.k (.v (.int .i64 0)))])⟩,
 ⟨some 7, none, (.fa 1 (.t 2))⟩,
 ⟨some 8, none, (.ld none (.t 7))⟩,
 ⟨some 9, none, (.lenL (.t 8))⟩,
 ⟨some 10, none, (.mn [(.t 6), (.t 9)])⟩,
 ⟨some 1, none, (.mv (.t 10))⟩])
 (.seq
 (.reg 2 (some [0, 0, 2, 7, 0, 16, 0, 112, 255, 511, 1023]) [4] [
 ⟨some 11, none, (.bsl 1 0 [])⟩,
 ⟨some 12, none, (.fa 0 (.t 2))⟩,
 ⟨some 13, none, (.ld none (.t 12))⟩,
 ⟨some 14, none, (.app 1 1 false (.t 11) (.t 13))⟩,
 ⟨some 15, none, (.fa 1 (.t 2))⟩,
 ⟨some 16, none, (.ld none (.t 15))⟩,
 ⟨some 17, none, (.mv (.t 1))⟩,
 ⟨some 18, none, (.slL 1 (.t 16) none (some (.t 17)))⟩,
 ⟨some 19, none, (.app 1 1 false (.t 14) (.t 18))⟩,
 ⟨some 20, none, (.build [(.v (.slice none 0 0)), (.v (.slice none 0 0))] [((0, 1), (.t 19))])⟩,
 ⟨none, none, (.st 2 (.t 4) (.t 20))⟩])
 .ret)))
theorem fn_ref23_Crash : FnIR Try.prog F_ref23_Crash 21 [(0, [1, 2, 4]), (1, [1, 2, 4]), (2, [4])] ir_ref23_Crash [(.cell 4 (some 2))] :=
 ⟨Try.f29, _, Try.func29, rfl, by kernel_rfl, rfl, by kernel_rfl, by kernel_rfl⟩

/-- dataenclave/dataenclaveref24.Decimal -/
def ir_ref24_Decimal : RC :=
 (.seq
 (.reg 0 none [0] [
 ⟨some 2, none, (.mv (.k (.v (.string ⟨#[]⟩))))⟩])
 (.seq
 (.seq
 (.reg 1 none [0, 5] [
 ⟨some 4, none, (.mv (.t 0))⟩,
 ⟨some 5, none, (.bin .lss false (.t 4) (.k (.v (.int .i64 0))))⟩])
 (.cond (.t 5)
 (.seq
 (.reg 2 none [0, 3] [
 ⟨some 6, none, (.mv (.t 0))⟩,
 ⟨some 7, none, (.bin .rem false (.t 6) (.k (.v (.int .i64 10))))⟩,
 ⟨some 8, none, (.un .neg (.t 7))⟩,
 ⟨some 3, none, (.mv (.t 8))⟩])
 (.seq
 (.seq
 (.reg 3 none [0, 3, 10] [
 ⟨some 9, none, (.mv (.t 0))⟩,
 ⟨some 10, none, (.bin .gtr false (.t 9) (.k (.v (.int .i64 (-10)))))⟩])
 (.cond (.t 10)
 (.seq
 (.reg 4 none [2] [
 ⟨some 11, none, (.mv (.t 3))⟩,
 ⟨some 12, none, (.bin .add false (.k (.v (.int .i64 48))) (.t 11))⟩,
 ⟨some 13, none, (.cvI .u8 (.t 12))⟩,
 ⟨some 14, none, (.bsl 1 1 [(.t 13)])⟩,
 ⟨some 15, none, (.cvBS (.t 14))⟩,
 ⟨some 16, none, (.bin .add false (.k (.v (.string ⟨#[45]⟩))) (.t 15))⟩,
 ⟨some 2, none, (.mv (.t 16))⟩])
 .ret)
 .skip))
 (.seq
 (.reg 5 (some [0, 1, 3, 0, 8, 24, 56, 120, 255, 511]) [2] [
 ⟨some 17, none, (.mv (.t 0))⟩,
 ⟨some 18, none, (.bin .quo false (.t 17) (.k (.v (.int .i64 10))))⟩,
 ⟨some 19, none, (.call (.k (.clo F_ref24_Decimal [])) [(.t 18)])⟩,
 ⟨some 20, none, (.mv (.t 3))⟩,
 ⟨some 21, none, (.bin .add false (.k (.v (.int .i64 48))) (.t 20))⟩,
 ⟨some 22, none, (.cvI .u8 (.t 21))⟩,
 ⟨some 23, none, (.bsl 1 1 [(.t 22)])⟩,
 ⟨some 24, none, (.cvBS (.t 23))⟩,
 ⟨some 25, none, (.bin .add false (.t 19) (.t 24))⟩,
 ⟨some 2, none, (.mv (.t 25))⟩])
 .ret)))
 .skip))
 (.seq
 (.seq
 (.reg 6 none [0, 27] [
 ⟨some 26, none, (.mv (.t 0))⟩,
 ⟨some 27, none, (.bin .lss false (.t 26) (.k (.v (.int .i64 10))))⟩])
 (.cond (.t 27)
 (.seq
 (.reg 7 none [2] [
 ⟨some 28, none, (.mv (.t 0))⟩,
 ⟨some 29, none, (.bin .add false (.k (.v (.int .i64 48))) (.t 28))⟩,
 ⟨some 30, none, (.cvI .u8 (.t 29))⟩,
 ⟨some 31, none, (.bsl 1 1 [(.t 30)])⟩,
 ⟨some 32, none, (.cvBS (.t 31))⟩,
 ⟨some 2, none, (.mv (.t 32))⟩])
 .ret)
 .skip))
 (.seq
 (.reg 8 (some [0, 1, 3, 0, 8, 24, 56, 120, 248, 511, 1023]) [2] [
 ⟨some 33, none, (.mv (.t 0))⟩,
 ⟨some 34, none, (.bin .quo false (.t 33) (.k (.v (.int .i64 10))))⟩,
 ⟨some 35, none, (.call (.k (.clo F_ref24_Decimal [])) [(.t 34)])⟩,
 ⟨some 36, none, (.mv (.t 0))⟩,
 ⟨some 37, none, (.bin .rem false (.t 36) (.k (.v (.int .i64 10))))⟩,
 ⟨some 38, none, (.bin .add false (.k (.v (.int .i64 48))) (.t 37))⟩,
 ⟨some 39, none, (.cvI .u8 (.t 38))⟩,
 ⟨some 40, none, (.bsl 1 1 [(.t 39)])⟩,
 ⟨some 41, none, (.cvBS (.t 40))⟩,
 ⟨some 42, none, (.bin .add false (.t 35) (.t 41))⟩,
 ⟨some 2, none, (.mv (.t 42))⟩])
 .ret))))
theorem fn_ref24_Decimal : FnIR Try.prog F_ref24_Decimal 43 [(0, [0]), (1, [0, 5]), (2, [0, 3]), (3, [0, 3, 10]), (4, [2]), (5, [2]), (6, [0, 27]), (7, [2]), (8, [2])] ir_ref24_Decimal [(.tmp 2)] :=
 ⟨Try.f30, _, Try.func30, rfl, by kernel_rfl, rfl, by kernel_rfl, by kernel_rfl⟩

/-- dataenclave/dataenclaveref23.Copy -/
def ir_ref23_Copy : RC :=
 (.seq
 (.reg 0 none [1, 2] [
 ⟨some 1, none, (.box (.t 0))⟩,
 ⟨some 2, none, (.new (.agg [(.v (.slice none 0 0)), (.v (.slice none 0 0))]))⟩])
 (.seq
 (.reg 1 (some [0, 0, 2, 7, 0, 0, 32, 127, 255, 511]) [2] [
 ⟨some 3, none, (.bsl 1 0 [])⟩,
 ⟨some 4, none, (.fa 0 (.t 1))⟩,
 ⟨some 5, none, (.ld none (.t 4))⟩,
 ⟨some 6, none, (.app 1 1 false (.t 3) (.t 5))⟩,
 ⟨some 7, none, (.bsl 1 0 [])⟩,
 ⟨some 8, none, (.fa 1 (.t 1))⟩,
 ⟨some 9, none, (.ld none (.t 8))⟩,
 ⟨some 10, none, (.app 1 1 false (.t 7) (.t 9))⟩,
 ⟨some 11, none, (.build [(.v (.slice none 0 0)), (.v (.slice none 0 0))] [((0, 1), (.t 6)), ((1, 1), (.t 10))])⟩,
 ⟨none, none, (.st 2 (.t 2) (.t 11))⟩])
 .ret))
theorem fn_ref23_Copy : FnIR Try.prog F_ref23_Copy 12 [(0, [1, 2]), (1, [2])] ir_ref23_Copy [(.cell 2 (some 2))] :=
 ⟨Try.f31, _, Try.func31, rfl, by kernel_rfl, rfl, by kernel_rfl, by kernel_rfl⟩

/-- dataenclave/queue.fields -/
def ir_queue_fields : RC :=
 (.seq
 (.reg 0 none [] [
 ⟨some 0, none, (.mv (.k (.v (.slice none 0 0))))⟩])
 (.seq
 (.reg 1 none [0] [
 ⟨some 1, none, (.call (.k (.clo F_queue_number [])) [(.k (.clo F_queue_fields_1 []))])⟩,
 ⟨some 2, none, (.call (.k (.clo F_queue_text [])) [(.k (.clo F_queue_fields_2 []))])⟩,
 ⟨some 3, none, (.call (.k (.clo F_queue_text [])) [(.k (.clo F_queue_fields_3 []))])⟩,
 ⟨some 4, none, (.call (.k (.clo F_queue_number [])) [(.k (.clo F_queue_fields_4 []))])⟩,
 ⟨some 5, none, (.call (.k (.clo F_queue_text [])) [(.k (.clo F_queue_fields_5 []))])⟩,
 ⟨some 6, none, (.call (.k (.clo F_queue_number [])) [(.k (.clo F_queue_fields_6 []))])⟩,
 ⟨some 7, none, (.build [(.v .nilFunc), (.v .nilFunc)] [((0, 1), (.k (.clo F_queue_signatures []))), ((1, 1), (.k (.clo F_queue_signed [])))])⟩,
 ⟨some 8, none, (.bsl 2 7 [(.t 1), (.t 2), (.t 3), (.t 4), (.t 5), (.t 6), (.t 7)])⟩,
 ⟨some 0, none, (.mv (.t 8))⟩])
 .ret))
theorem fn_queue_fields : FnIR Try.prog F_queue_fields 9 [(1, [0])] ir_queue_fields [(.tmp 0)] :=
 ⟨Try.f32, _, Try.func32, rfl, by kernel_rfl, rfl, by kernel_rfl, by kernel_rfl⟩

/-- dataenclave/dataenclaveref35.five -/
def ir_ref35_five : RC :=
 (.seq
 (.reg 0 none [0] [
 ⟨some 2, none, (.mv (.k (.v (.slice none 0 0))))⟩])
 (.seq
 (.reg 1 none [2] [
 ⟨some 3, none, (.mv (.t 0))⟩,
 ⟨some 4, none, (.bin .shr false (.t 3) (.k (.v (.int .u64 32))))⟩,
 ⟨some 5, none, (.cvI .u8 (.t 4))⟩,
 ⟨some 6, none, (.mv (.t 0))⟩,
 ⟨some 7, none, (.bin .shr false (.t 6) (.k (.v (.int .u64 24))))⟩,
 ⟨some 8, none, (.cvI .u8 (.t 7))⟩,
 ⟨some 9, none, (.mv (.t 0))⟩,
 ⟨some 10, none, (.bin .shr false (.t 9) (.k (.v (.int .u64 16))))⟩,
 ⟨some 11, none, (.cvI .u8 (.t 10))⟩,
 ⟨some 12, none, (.mv (.t 0))⟩,
 ⟨some 13, none, (.bin .shr false (.t 12) (.k (.v (.int .u64 8))))⟩,
 ⟨some 14, none, (.cvI .u8 (.t 13))⟩,
 ⟨some 15, none, (.mv (.t 0))⟩,
 ⟨some 16, none, (.cvI .u8 (.t 15))⟩,
 ⟨some 17, none, (.bsl 1 5 [(.t 5), (.t 8), (.t 11), (.t 14), (.t 16)])⟩,
 ⟨some 2, none, (.mv (.t 17))⟩])
 .ret))
theorem fn_ref35_five : FnIR Try.prog F_ref35_five 18 [(0, [0]), (1, [2])] ir_ref35_five [(.tmp 2)] :=
 ⟨Try.f33, _, Try.func33, rfl, by kernel_rfl, rfl, by kernel_rfl, by kernel_rfl⟩

/-- dataenclave/dataenclaveref35.text -/
def ir_ref35_text : RC :=
 (.seq
 (.reg 0 none [0] [
 ⟨some 2, none, (.mv (.k (.v (.slice none 0 0))))⟩])
 (.seq
 (.reg 1 none [2] [
 ⟨some 3, none, (.mv (.t 0))⟩,
 ⟨some 4, none, (.lenS (.t 3))⟩,
 ⟨some 5, none, (.call (.k (.clo F_ref35_five [])) [(.t 4)])⟩,
 ⟨some 6, none, (.mv (.t 0))⟩,
 ⟨some 7, none, (.app 1 1 true (.t 5) (.t 6))⟩,
 ⟨some 2, none, (.mv (.t 7))⟩])
 .ret))
theorem fn_ref35_text : FnIR Try.prog F_ref35_text 8 [(0, [0]), (1, [2])] ir_ref35_text [(.tmp 2)] :=
 ⟨Try.f34, _, Try.func34, rfl, by kernel_rfl, rfl, by kernel_rfl, by kernel_rfl⟩

/-- dataenclave/codes.Name -/
def ir_codes_Name : RC :=
 (.seq
 (.reg 0 none [0] [
 ⟨some 2, none, (.mv (.k (.v (.bool false))))⟩])
 (.seq
 (.seq
 (.reg 1 none [0, 22] [
 ⟨some 5, none, (.mv (.t 0))⟩,
 ⟨some 6, none, (.lenS (.t 5))⟩,
 ⟨some 7, none, (.bin .lss false (.t 6) (.k (.v (.int .i64 1))))⟩,
 ⟨some 8, none, (.mv (.t 7))⟩,
 ⟨some 9, some (8, false), (.mv (.t 0))⟩,
 ⟨some 10, some (8, false), (.lenS (.t 9))⟩,
 ⟨some 11, some (8, false), (.bin .gtr false (.t 10) (.k (.v (.int .i64 16))))⟩,
 ⟨some 12, none, (.pick (.t 8) (.k (.v (.bool true))) (.t 11))⟩,
 ⟨some 13, none, (.mv (.t 12))⟩,
 ⟨some 14, some (13, false), (.mv (.t 0))⟩,
 ⟨some 15, some (13, false), (.sx (.t 14) (.k (.v (.int .i64 0))))⟩,
 ⟨some 16, some (13, false), (.bin .lss false (.t 15) (.k (.v (.int .u8 97))))⟩,
 ⟨some 17, none, (.pick (.t 13) (.k (.v (.bool true))) (.t 16))⟩,
 ⟨some 18, none, (.mv (.t 17))⟩,
 ⟨some 19, some (18, false), (.mv (.t 0))⟩,
 ⟨some 20, some (18, false), (.sx (.t 19) (.k (.v (.int .i64 0))))⟩,
 ⟨some 21, some (18, false), (.bin .gtr false (.t 20) (.k (.v (.int .u8 122))))⟩,
 ⟨some 22, none, (.pick (.t 18) (.k (.v (.bool true))) (.t 21))⟩])
 (.cond (.t 22)
 (.seq
 (.reg 2 none [2] [
 ⟨some 2, none, (.mv (.k (.v (.bool false))))⟩])
 .ret)
 .skip))
 (.seq
 (.seq
 (.reg 3 none [0, 24, 25, 26] [
 ⟨some 23, none, (.mv (.t 0))⟩,
 ⟨some 24, none, (.cvSB (.t 23))⟩,
 ⟨some 25, none, (.lenL (.t 24))⟩,
 ⟨some 26, none, (.mv (.k (.v (.int .i64 0))))⟩])
 (.block 0
 (.loop
 (.seq
 (.reg 4 none [0, 24, 25, 26, 27] [
 ⟨some 27, none, (.bin .lss false (.t 26) (.t 25))⟩])
 (.seq
 (.cond (.t 27)
 .skip
 (.exit 0))
 (.seq
 (.block 1
 (.seq
 (.reg 5 none [0, 4, 24, 25, 26] [
 ⟨some 28, none, (.ixL 1 (.t 24) (.t 26))⟩,
 ⟨some 29, none, (.ld none (.t 28))⟩,
 ⟨some 4, none, (.mv (.t 29))⟩])
 (.seq
 (.reg 6 none [0, 24, 25, 26, 47] [
 ⟨some 30, none, (.mv (.t 4))⟩,
 ⟨some 31, none, (.bin .lss false (.t 30) (.k (.v (.int .u8 97))))⟩,
 ⟨some 32, none, (.mv (.t 31))⟩,
 ⟨some 33, some (32, false), (.mv (.t 4))⟩,
 ⟨some 34, some (32, false), (.bin .gtr false (.t 33) (.k (.v (.int .u8 122))))⟩,
 ⟨some 35, none, (.pick (.t 32) (.k (.v (.bool true))) (.t 34))⟩,
 ⟨some 36, none, (.mv (.t 35))⟩,
 ⟨some 37, some (36, true), (.mv (.t 4))⟩,
 ⟨some 38, some (36, true), (.bin .lss false (.t 37) (.k (.v (.int .u8 48))))⟩,
 ⟨some 39, some (36, true), (.mv (.t 38))⟩,
 ⟨some 40, some (39, false), (.mv (.t 4))⟩,
 ⟨some 41, some (39, false), (.bin .gtr false (.t 40) (.k (.v (.int .u8 57))))⟩,
 ⟨some 42, some (36, true), (.pick (.t 39) (.k (.v (.bool true))) (.t 41))⟩,
 ⟨some 43, none, (.pick (.t 36) (.t 42) (.k (.v (.bool false))))⟩,
 ⟨some 44, none, (.mv (.t 43))⟩,
 ⟨some 45, some (44, true), (.mv (.t 4))⟩,
 ⟨some 46, some (44, true), (.bin .neq false (.t 45) (.k (.v (.int .u8 95))))⟩,
 ⟨some 47, none, (.pick (.t 44) (.t 46) (.k (.v (.bool false))))⟩])
 (.cond (.t 47)
 (.seq
 (.reg 7 none [2] [
 ⟨some 2, none, (.mv (.k (.v (.bool false))))⟩])
 .ret)
 .skip))))
 (.reg 8 none [0, 24, 25, 26] [
 ⟨some 48, none, (.bin .add false (.t 26) (.k (.v (.int .i64 1))))⟩,
 ⟨some 26, none, (.mv (.t 48))⟩])))))))
 (.seq
 (.seq
 (.reg 9 none [49] [
 ⟨some 49, none, (.mv (.t 0))⟩])
 (.block 2
 (.seq
 (.seq
 (.reg 10 none [49, 50] [
 ⟨some 51, none, (.bin .eql false (.t 49) (.k (.v (.string ⟨#[97, 108, 108]⟩))))⟩,
 ⟨some 50, none, (.mv (.t 51))⟩])
 (.cond (.t 50)
 .skip
 (.seq
 (.reg 11 none [49, 50] [
 ⟨some 52, none, (.bin .eql false (.t 49) (.k (.v (.string ⟨#[97, 110, 100]⟩))))⟩,
 ⟨some 50, none, (.mv (.t 52))⟩])
 (.cond (.t 50)
 .skip
 (.seq
 (.reg 12 none [49, 50] [
 ⟨some 53, none, (.bin .eql false (.t 49) (.k (.v (.string ⟨#[101, 118, 101, 110, 116]⟩))))⟩,
 ⟨some 50, none, (.mv (.t 53))⟩])
 (.cond (.t 50)
 .skip
 (.seq
 (.reg 13 none [49, 50] [
 ⟨some 54, none, (.bin .eql false (.t 49) (.k (.v (.string ⟨#[102, 114, 111, 109]⟩))))⟩,
 ⟨some 50, none, (.mv (.t 54))⟩])
 (.cond (.t 50)
 .skip
 (.seq
 (.reg 14 none [49, 50] [
 ⟨some 55, none, (.bin .eql false (.t 49) (.k (.v (.string ⟨#[109, 105, 115, 115, 105, 110, 103]⟩))))⟩,
 ⟨some 50, none, (.mv (.t 55))⟩])
 (.cond (.t 50)
 .skip
 (.seq
 (.reg 15 none [49, 50] [
 ⟨some 56, none, (.bin .eql false (.t 49) (.k (.v (.string ⟨#[110, 111, 116]⟩))))⟩,
 ⟨some 50, none, (.mv (.t 56))⟩])
 (.cond (.t 50)
 .skip
 (.seq
 (.reg 16 none [49, 50] [
 ⟨some 57, none, (.bin .eql false (.t 49) (.k (.v (.string ⟨#[111, 110]⟩))))⟩,
 ⟨some 50, none, (.mv (.t 57))⟩])
 (.cond (.t 50)
 .skip
 (.seq
 (.reg 17 none [49, 50] [
 ⟨some 58, none, (.bin .eql false (.t 49) (.k (.v (.string ⟨#[111, 114]⟩))))⟩,
 ⟨some 50, none, (.mv (.t 58))⟩])
 (.cond (.t 50)
 .skip
 (.seq
 (.reg 18 none [49, 50] [
 ⟨some 59, none, (.bin .eql false (.t 49) (.k (.v (.string ⟨#[116, 111]⟩))))⟩,
 ⟨some 50, none, (.mv (.t 59))⟩])
 (.cond (.t 50)
 .skip
 (.seq
 (.reg 19 none [49, 50] [
 ⟨some 60, none, (.bin .eql false (.t 49) (.k (.v (.string ⟨#[117, 110, 100, 101, 114]⟩))))⟩,
 ⟨some 50, none, (.mv (.t 60))⟩])
 (.cond (.t 50)
 .skip
 (.reg 20 none [50] [
 ⟨some 61, none, (.bin .eql false (.t 49) (.k (.v (.string ⟨#[119, 104, 101, 114, 101]⟩))))⟩,
 ⟨some 50, none, (.mv (.t 61))⟩])))))))))))))))))))))
 (.cond (.t 50)
 (.seq
 (.reg 21 none [2] [
 ⟨some 2, none, (.mv (.k (.v (.bool false))))⟩])
 .ret)
 .skip))))
 (.seq
 (.reg 22 none [2] [
 ⟨some 2, none, (.mv (.k (.v (.bool true))))⟩])
 .ret)))))
theorem fn_codes_Name : FnIR Try.prog F_codes_Name 62 [(0, [0]), (1, [0, 22]), (2, [2]), (3, [0, 24, 25, 26]), (4, [0, 24, 25, 26, 27]), (5, [0, 4, 24, 25, 26]), (6, [0, 24, 25, 26, 47]), (7, [2]), (8, [0, 24, 25, 26]), (9, [49]), (10, [49, 50]), (11, [49, 50]), (12, [49, 50]), (13, [49, 50]), (14, [49, 50]), (15, [49, 50]), (16, [49, 50]), (17, [49, 50]), (18, [49, 50]), (19, [49, 50]), (20, [50]), (21, [2]), (22, [2])] ir_codes_Name [(.tmp 2)] :=
 ⟨Try.f35, _, Try.func35, rfl, by kernel_rfl, rfl, by kernel_rfl, by kernel_rfl⟩

/-- dataenclave/queue.time -/
def ir_queue_time : RC :=
 (.seq
 (.reg 0 none [0] [
 ⟨some 2, none, (.mv (.k (.v (.bool false))))⟩])
 (.seq
 (.reg 1 none [2] [
 ⟨some 3, none, (.mv (.t 0))⟩,
 ⟨some 4, none, (.bin .geq false (.t 3) (.k (.v (.int .i64 0))))⟩,
 ⟨some 5, none, (.mv (.t 4))⟩,
 ⟨some 6, some (5, true), (.mv (.t 0))⟩,
 ⟨some 7, some (5, true), (.bin .leq false (.t 6) (.k (.v (.int .i64 1073741824))))⟩,
 ⟨some 8, none, (.pick (.t 5) (.t 7) (.k (.v (.bool false))))⟩,
 ⟨some 2, none, (.mv (.t 8))⟩])
 .ret))
theorem fn_queue_time : FnIR Try.prog F_queue_time 9 [(0, [0]), (1, [2])] ir_queue_time [(.tmp 2)] :=
 ⟨Try.f36, _, Try.func36, rfl, by kernel_rfl, rfl, by kernel_rfl, by kernel_rfl⟩

/-- slices.ContainsFunc[[]dataenclave/api.Signature,dataenclave/api.Signature] -/
def ir_slices_ContainsFunc_Signature : RC :=
 (.seq
 (.reg 0 none [0, 1] [
 ⟨some 4, none, (.mv (.k (.v (.bool false))))⟩])
 (.seq
 (.reg 1 none [4] [
 ⟨some 5, none, (.mv (.t 0))⟩,
 ⟨some 6, none, (.mv (.t 1))⟩,
 ⟨some 7, none, (.call (.k (.clo F_slices_IndexFunc_Signature [])) [(.t 5), (.t 6)])⟩,
 ⟨some 8, none, (.bin .geq false (.t 7) (.k (.v (.int .i64 0))))⟩,
 ⟨some 4, none, (.mv (.t 8))⟩])
 .ret))
theorem fn_slices_ContainsFunc_Signature : FnIR Try.prog F_slices_ContainsFunc_Signature 9 [(0, [0, 1]), (1, [4])] ir_slices_ContainsFunc_Signature [(.tmp 4)] :=
 ⟨Try.f37, _, Try.func37, rfl, by kernel_rfl, rfl, by kernel_rfl, by kernel_rfl⟩

/-- dataenclave/queue.Valid$1 -/
def ir_queue_Valid_1 : RC :=
 (.seq
 (.reg 0 none [1] [
 ⟨some 1, none, (.box (.t 0))⟩,
 ⟨some 2, none, (.mv (.k (.v (.bool false))))⟩])
 (.seq
 (.reg 1 none [2] [
 ⟨some 3, none, (.fa 0 (.t 1))⟩,
 ⟨some 4, none, (.ld none (.t 3))⟩,
 ⟨some 5, none, (.call (.k (.clo F_codes_Name [])) [(.t 4)])⟩,
 ⟨some 6, none, (.un .not (.t 5))⟩,
 ⟨some 7, none, (.mv (.t 6))⟩,
 ⟨some 8, some (7, false), (.fa 1 (.t 1))⟩,
 ⟨some 9, some (7, false), (.ld none (.t 8))⟩,
 ⟨some 10, some (7, false), (.call (.k (.clo F_queue_time [])) [(.t 9)])⟩,
 ⟨some 11, some (7, false), (.un .not (.t 10))⟩,
 ⟨some 12, none, (.pick (.t 7) (.k (.v (.bool true))) (.t 11))⟩,
 ⟨some 2, none, (.mv (.t 12))⟩])
 .ret))
theorem fn_queue_Valid_1 : FnIR Try.prog F_queue_Valid_1 13 [(0, [1]), (1, [2])] ir_queue_Valid_1 [(.tmp 2)] :=
 ⟨Try.f38, _, Try.func38, rfl, by kernel_rfl, rfl, by kernel_rfl, by kernel_rfl⟩

/-- dataenclave/dataenclaveref35.Name -/
def ir_ref35_Name : RC :=
 (.seq
 (.reg 0 none [0] [
 ⟨some 2, none, (.mv (.k (.v (.bool false))))⟩])
 (.seq
 (.reg 1 none [2] [
 ⟨some 3, none, (.mv (.t 0))⟩,
 ⟨some 4, none, (.call (.k (.clo F_ref01_Name [])) [(.t 3)])⟩,
 ⟨some 2, none, (.mv (.t 4))⟩])
 .ret))
theorem fn_ref35_Name : FnIR Try.prog F_ref35_Name 5 [(0, [0]), (1, [2])] ir_ref35_Name [(.tmp 2)] :=
 ⟨Try.f39, _, Try.func39, rfl, by kernel_rfl, rfl, by kernel_rfl, by kernel_rfl⟩

/-- (*dataenclave/dataenclaveref35.reader).number -/
def ir_ref35_reader_number : RC :=
 (.seq
 (.reg 0 none [0] [
 ⟨some 2, none, (.mv (.k (.v (.int .i64 0))))⟩])
 (.seq
 (.seq
 (.reg 1 none [0, 10] [
 ⟨some 5, none, (.mv (.t 0))⟩,
 ⟨some 6, none, (.nc (.t 5))⟩,
 ⟨some 7, none, (.fa 0 (.t 6))⟩,
 ⟨some 8, none, (.ld none (.t 7))⟩,
 ⟨some 9, none, (.lenL (.t 8))⟩,
 ⟨some 10, none, (.bin .lss false (.t 9) (.k (.v (.int .i64 5))))⟩])
 (.cond (.t 10)
 (.seq
 (.reg 2 none [] [
 ⟨some 11, none, (.mv (.t 0))⟩,
 ⟨some 12, none, (.nc (.t 11))⟩,
 ⟨some 13, none, (.fa 1 (.t 12))⟩,
 ⟨none, none, (.st 1 (.t 13) (.k (.v (.bool true))))⟩])
 (.seq
 (.reg 3 none [2] [
 ⟨some 2, none, (.mv (.k (.v (.int .i64 0))))⟩])
 .ret))
 .skip))
 (.seq
 (.reg 4 none [0, 3] [
 ⟨some 3, none, (.mv (.k (.v (.int .i64 0))))⟩])
 (.seq
 (.seq
 (.reg 5 none [0, 3, 4] [
 ⟨some 4, none, (.mv (.k (.v (.int .i64 0))))⟩])
 (.block 0
 (.loop
 (.seq
 (.seq
 (.reg 6 none [0, 3, 4, 15] [
 ⟨some 14, none, (.mv (.t 4))⟩,
 ⟨some 15, none, (.bin .lss false (.t 14) (.k (.v (.int .i64 5))))⟩])
 (.cond (.t 15)
 .skip
 (.exit 0)))
 (.seq
 (.block 1
 (.reg 8 none [0, 3, 4] [
 ⟨some 18, none, (.mv (.t 3))⟩,
 ⟨some 19, none, (.bin .shl false (.t 18) (.k (.v (.int .u64 8))))⟩,
 ⟨some 20, none, (.mv (.t 0))⟩,
 ⟨some 21, none, (.nc (.t 20))⟩,
 ⟨some 22, none, (.fa 0 (.t 21))⟩,
 ⟨some 23, none, (.ld none (.t 22))⟩,
 ⟨some 24, none, (.mv (.t 4))⟩,
 ⟨some 25, none, (.ixL 1 (.t 23) (.t 24))⟩,
 ⟨some 26, none, (.ld none (.t 25))⟩,
 ⟨some 27, none, (.cvI .i64 (.t 26))⟩,
 ⟨some 28, none, (.bin .add false (.t 19) (.t 27))⟩,
 ⟨some 3, none, (.mv (.t 28))⟩]))
 (.reg 7 none [0, 3, 4] [
 ⟨some 16, none, (.mv (.t 4))⟩,
 ⟨some 17, none, (.bin .add false (.t 16) (.k (.v (.int .i64 1))))⟩,
 ⟨some 4, none, (.mv (.t 17))⟩]))))))
 (.seq
 (.reg 9 none [3] [
 ⟨some 29, none, (.mv (.t 0))⟩,
 ⟨some 30, none, (.mv (.t 0))⟩,
 ⟨some 31, none, (.nc (.t 30))⟩,
 ⟨some 32, none, (.fa 0 (.t 31))⟩,
 ⟨some 33, none, (.ld none (.t 32))⟩,
 ⟨some 34, none, (.slL 1 (.t 33) (some (.k (.v (.int .i64 5)))) none)⟩,
 ⟨some 35, none, (.nc (.t 29))⟩,
 ⟨some 36, none, (.fa 0 (.t 35))⟩,
 ⟨none, none, (.st 1 (.t 36) (.t 34))⟩])
 (.seq
 (.reg 10 none [2] [
 ⟨some 37, none, (.mv (.t 3))⟩,
 ⟨some 2, none, (.mv (.t 37))⟩])
 .ret))))))
theorem fn_ref35_reader_number : FnIR Try.prog F_ref35_reader_number 38 [(0, [0]), (1, [0, 10]), (3, [2]), (4, [0, 3]), (5, [0, 3, 4]), (6, [0, 3, 4, 15]), (7, [0, 3, 4]), (8, [0, 3, 4]), (9, [3]), (10, [2])] ir_ref35_reader_number [(.tmp 2)] :=
 ⟨Try.f40, _, Try.func40, rfl, by kernel_rfl, rfl, by kernel_rfl, by kernel_rfl⟩

/-- (*dataenclave/dataenclaveref35.reader).text -/
def ir_ref35_reader_text : RC :=
 (.seq
 (.reg 0 none [0] [
 ⟨some 2, none, (.mv (.k (.v (.string ⟨#[]⟩))))⟩])
 (.seq
 (.reg 1 none [0, 3] [
 ⟨some 5, none, (.mv (.t 0))⟩,
 ⟨some 6, none, (.call (.k (.clo F_ref35_reader_number [])) [(.t 5)])⟩,
 ⟨some 3, none, (.mv (.t 6))⟩])
 (.seq
 (.seq
 (.reg 2 none [0, 3, 19] [
 ⟨some 7, none, (.mv (.t 0))⟩,
 ⟨some 8, none, (.nc (.t 7))⟩,
 ⟨some 9, none, (.fa 1 (.t 8))⟩,
 ⟨some 10, none, (.ld none (.t 9))⟩,
 ⟨some 11, none, (.mv (.t 10))⟩,
 ⟨some 12, some (11, false), (.mv (.t 3))⟩,
 ⟨some 13, some (11, false), (.mv (.t 0))⟩,
 ⟨some 14, some (11, false), (.nc (.t 13))⟩,
 ⟨some 15, some (11, false), (.fa 0 (.t 14))⟩,
 ⟨some 16, some (11, false), (.ld none (.t 15))⟩,
 ⟨some 17, some (11, false), (.lenL (.t 16))⟩,
 ⟨some 18, some (11, false), (.bin .gtr false (.t 12) (.t 17))⟩,
 ⟨some 19, none, (.pick (.t 11) (.k (.v (.bool true))) (.t 18))⟩])
 (.cond (.t 19)
 (.seq
 (.reg 3 none [] [
 ⟨some 20, none, (.mv (.t 0))⟩,
 ⟨some 21, none, (.nc (.t 20))⟩,
 ⟨some 22, none, (.fa 1 (.t 21))⟩,
 ⟨none, none, (.st 1 (.t 22) (.k (.v (.bool true))))⟩])
 (.seq
 (.reg 4 none [2] [
 ⟨some 2, none, (.mv (.k (.v (.string ⟨#[]⟩))))⟩])
 .ret))
 .skip))
 (.seq
 (.reg 5 none [0, 3, 4] [
 ⟨some 23, none, (.mv (.t 0))⟩,
 ⟨some 24, none, (.nc (.t 23))⟩,
 ⟨some 25, none, (.fa 0 (.t 24))⟩,
 ⟨some 26, none, (.ld none (.t 25))⟩,
 ⟨some 27, none, (.mv (.t 3))⟩,
 ⟨some 28, none, (.slL 1 (.t 26) none (some (.t 27)))⟩,
 ⟨some 29, none, (.cvBS (.t 28))⟩,
 ⟨some 4, none, (.mv (.t 29))⟩])
 (.seq
 (.reg 6 none [4] [
 ⟨some 30, none, (.mv (.t 0))⟩,
 ⟨some 31, none, (.mv (.t 0))⟩,
 ⟨some 32, none, (.nc (.t 31))⟩,
 ⟨some 33, none, (.fa 0 (.t 32))⟩,
 ⟨some 34, none, (.ld none (.t 33))⟩,
 ⟨some 35, none, (.mv (.t 3))⟩,
 ⟨some 36, none, (.slL 1 (.t 34) (some (.t 35)) none)⟩,
 ⟨some 37, none, (.nc (.t 30))⟩,
 ⟨some 38, none, (.fa 0 (.t 37))⟩,
 ⟨none, none, (.st 1 (.t 38) (.t 36))⟩])
 (.seq
 (.reg 7 none [2] [
 ⟨some 39, none, (.mv (.t 4))⟩,
 ⟨some 2, none, (.mv (.t 39))⟩])
 .ret))))))
theorem fn_ref35_reader_text : FnIR Try.prog F_ref35_reader_text 40 [(0, [0]), (1, [0, 3]), (2, [0, 3, 19]), (4, [2]), (5, [0, 3, 4]), (6, [4]), (7, [2])] ir_ref35_reader_text [(.tmp 2)] :=
 ⟨Try.f41, _, Try.func41, rfl, by kernel_rfl, rfl, by kernel_rfl, by kernel_rfl⟩

/-- dataenclave/dataenclaveref23.Frame -/
def ir_ref23_Frame : RC :=
 (.seq
 (.reg 0 none [0] [
 ⟨some 2, none, (.mv (.k (.v (.slice none 0 0))))⟩,
 ⟨some 3, none, (.mv (.k (.v (.int .i64 0))))⟩])
 (.seq
 (.seq
 (.reg 1 none [0, 7] [
 ⟨some 5, none, (.mv (.t 0))⟩,
 ⟨some 6, none, (.lenL (.t 5))⟩,
 ⟨some 7, none, (.bin .gtr false (.t 6) (.k (.v (.int .i64 4096))))⟩])
 (.cond (.t 7)
 (.seq
 (.reg 2 none [2, 3] [
 ⟨some 2, none, (.mv (.k (.v (.slice none 0 0))))⟩,
 ⟨some 3, none, (.mv (.k (.v (.int .i64 1))))⟩])
 .ret)
 .skip))
 (.seq
 (.reg 3 none [4] [
 ⟨some 8, none, (.mv (.t 0))⟩,
 ⟨some 9, none, (.lenL (.t 8))⟩,
 ⟨some 10, none, (.call (.k (.clo F_ref23_Four [])) [(.t 9)])⟩,
 ⟨some 11, none, (.mv (.t 0))⟩,
 ⟨some 12, none, (.app 1 1 false (.t 10) (.t 11))⟩,
 ⟨some 4, none, (.mv (.t 12))⟩])
 (.seq
 (.reg 4 none [2, 3] [
 ⟨some 13, none, (.mv (.t 4))⟩,
 ⟨some 14, none, (.mv (.t 4))⟩,
 ⟨some 15, none, (.call (.k (.clo F_ref23_Value [])) [(.t 14)])⟩,
 ⟨some 16, none, (.call (.k (.clo F_ref23_Four [])) [(.t 15)])⟩,
 ⟨some 17, none, (.app 1 1 false (.t 13) (.t 16))⟩,
 ⟨some 2, none, (.mv (.t 17))⟩,
 ⟨some 3, none, (.mv (.k (.v (.int .i64 0))))⟩])
 .ret))))
theorem fn_ref23_Frame : FnIR Try.prog F_ref23_Frame 18 [(0, [0]), (1, [0, 7]), (2, [2, 3]), (3, [4]), (4, [2, 3])] ir_ref23_Frame [(.tmp 2), (.tmp 3)] :=
 ⟨Try.f42, _, Try.func42, rfl, by kernel_rfl, rfl, by kernel_rfl, by kernel_rfl⟩

/-- dataenclave/dataenclaveref23.Read -/
def ir_ref23_Read : RC :=
 (.seq
 (.reg 0 none [0] [
 ⟨some 2, none, (.mv (.k (.v (.slice none 0 0))))⟩,
 ⟨some 3, none, (.mv (.k (.v (.int .i64 0))))⟩])
 (.seq
 (.reg 1 none [0, 4] [
 ⟨some 4, none, (.mv (.k (.v (.slice none 0 0))))⟩])
 (.seq
 (.reg 2 none [0, 4, 5] [
 ⟨some 5, none, (.mv (.k (.v (.int .i64 0))))⟩])
 (.seq
 (.block 0
 (.loop
 (.seq
 (.seq
 (.reg 3 none [0, 4, 5, 11] [
 ⟨some 7, none, (.mv (.t 0))⟩,
 ⟨some 8, none, (.lenL (.t 7))⟩,
 ⟨some 9, none, (.mv (.t 5))⟩,
 ⟨some 10, none, (.bin .sub false (.t 8) (.t 9))⟩,
 ⟨some 11, none, (.bin .geq false (.t 10) (.k (.v (.int .i64 8))))⟩])
 (.cond (.t 11)
 .skip
 (.exit 0)))
 (.block 1
 (.seq
 (.reg 4 none [0, 4, 5, 6] [
 ⟨some 12, none, (.mv (.t 0))⟩,
 ⟨some 13, none, (.mv (.t 5))⟩,
 ⟨some 14, none, (.slL 1 (.t 12) (some (.t 13)) none)⟩,
 ⟨some 15, none, (.call (.k (.clo F_ref23_number [])) [(.t 14)])⟩,
 ⟨some 6, none, (.mv (.t 15))⟩])
 (.seq
 (.seq
 (.reg 5 (some [0, 1, 3, 7, 15, 7, 39, 7, 231, 511, 1023, 2047, 4095, 4095, 12287, 4095, 61439, 131071, 262143, 4095, 4095, 4095, 2101247, 4095, 14684159, 33034239, 67108863, 134217727, 268435455]) [0, 4, 5, 6, 44] [
 ⟨some 16, none, (.mv (.t 6))⟩,
 ⟨some 17, none, (.bin .gtr false (.t 16) (.k (.v (.int .i64 4096))))⟩,
 ⟨some 18, none, (.mv (.t 17))⟩,
 ⟨some 19, some (18, false), (.mv (.t 6))⟩,
 ⟨some 20, some (18, false), (.bin .add false (.t 19) (.k (.v (.int .i64 8))))⟩,
 ⟨some 21, some (18, false), (.mv (.t 0))⟩,
 ⟨some 22, some (18, false), (.lenL (.t 21))⟩,
 ⟨some 23, some (18, false), (.mv (.t 5))⟩,
 ⟨some 24, some (18, false), (.bin .sub false (.t 22) (.t 23))⟩,
 ⟨some 25, some (18, false), (.bin .gtr false (.t 20) (.t 24))⟩,
 ⟨some 26, none, (.pick (.t 18) (.k (.v (.bool true))) (.t 25))⟩,
 ⟨some 27, none, (.mv (.t 26))⟩,
 ⟨some 28, some (27, false), (.mv (.t 0))⟩,
 ⟨some 29, some (27, false), (.mv (.t 5))⟩,
 ⟨some 30, some (27, false), (.bin .add false (.t 29) (.k (.v (.int .i64 4))))⟩,
 ⟨some 31, some (27, false), (.mv (.t 6))⟩,
 ⟨some 32, some (27, false), (.bin .add false (.t 30) (.t 31))⟩,
 ⟨some 33, some (27, false), (.slL 1 (.t 28) (some (.t 32)) none)⟩,
 ⟨some 34, some (27, false), (.call (.k (.clo F_ref23_number [])) [(.t 33)])⟩,
 ⟨some 35, some (27, false), (.mv (.t 0))⟩,
 ⟨some 36, some (27, false), (.mv (.t 5))⟩,
 ⟨some 37, some (27, false), (.mv (.t 5))⟩,
 ⟨some 38, some (27, false), (.bin .add false (.t 37) (.k (.v (.int .i64 4))))⟩,
 ⟨some 39, some (27, false), (.mv (.t 6))⟩,
 ⟨some 40, some (27, false), (.bin .add false (.t 38) (.t 39))⟩,
 ⟨some 41, some (27, false), (.slL 1 (.t 35) (some (.t 36)) (some (.t 40)))⟩,
 ⟨some 42, some (27, false), (.call (.k (.clo F_ref23_Value [])) [(.t 41)])⟩,
 ⟨some 43, some (27, false), (.bin .neq false (.t 34) (.t 42))⟩,
 ⟨some 44, none, (.pick (.t 27) (.k (.v (.bool true))) (.t 43))⟩])
 (.cond (.t 44)
 (.exit 0)
 .skip))
 (.seq
 (.reg 6 none [0, 4, 5, 6] [
 ⟨some 45, none, (.mv (.t 4))⟩,
 ⟨some 46, none, (.bsl 1 0 [])⟩,
 ⟨some 47, none, (.mv (.t 0))⟩,
 ⟨some 48, none, (.mv (.t 5))⟩,
 ⟨some 49, none, (.bin .add false (.t 48) (.k (.v (.int .i64 4))))⟩,
 ⟨some 50, none, (.mv (.t 5))⟩,
 ⟨some 51, none, (.bin .add false (.t 50) (.k (.v (.int .i64 4))))⟩,
 ⟨some 52, none, (.mv (.t 6))⟩,
 ⟨some 53, none, (.bin .add false (.t 51) (.t 52))⟩,
 ⟨some 54, none, (.slL 1 (.t 47) (some (.t 49)) (some (.t 53)))⟩,
 ⟨some 55, none, (.app 1 1 false (.t 46) (.t 54))⟩,
 ⟨some 56, none, (.bsl 1 1 [(.t 55)])⟩,
 ⟨some 57, none, (.app 1 24 false (.t 45) (.t 56))⟩,
 ⟨some 4, none, (.mv (.t 57))⟩])
 (.reg 7 none [0, 4, 5] [
 ⟨some 58, none, (.mv (.t 5))⟩,
 ⟨some 59, none, (.mv (.t 6))⟩,
 ⟨some 60, none, (.bin .add false (.t 59) (.k (.v (.int .i64 8))))⟩,
 ⟨some 61, none, (.bin .add false (.t 58) (.t 60))⟩,
 ⟨some 5, none, (.mv (.t 61))⟩]))))))))
 (.seq
 (.reg 8 none [2, 3] [
 ⟨some 62, none, (.mv (.t 4))⟩,
 ⟨some 63, none, (.mv (.t 5))⟩,
 ⟨some 2, none, (.mv (.t 62))⟩,
 ⟨some 3, none, (.mv (.t 63))⟩])
 .ret)))))
theorem fn_ref23_Read : FnIR Try.prog F_ref23_Read 64 [(0, [0]), (1, [0, 4]), (2, [0, 4, 5]), (3, [0, 4, 5, 11]), (4, [0, 4, 5, 6]), (5, [0, 4, 5, 6, 44]), (6, [0, 4, 5, 6]), (7, [0, 4, 5]), (8, [2, 3])] ir_ref23_Read [(.tmp 2), (.tmp 3)] :=
 ⟨Try.f43, _, Try.func43, rfl, by kernel_rfl, rfl, by kernel_rfl, by kernel_rfl⟩

/-- dataenclave/queue.copied -/
def ir_queue_copied : RC :=
 (.seq
 (.reg 0 none [1, 2] [
 ⟨some 1, none, (.box (.t 0))⟩,
 ⟨some 2, none, (.new (.agg [(.v (.slice none 0 0)), (.v (.slice none 0 0))]))⟩])
 (.seq
 (.reg 1 (some [0, 1, 3, 0, 8, 31, 63, 127]) [2] [
 ⟨some 3, none, (.fa 0 (.t 1))⟩,
 ⟨some 4, none, (.ld none (.t 3))⟩,
 ⟨some 5, none, (.call (.k (.clo F_slices_Clone_byte [])) [(.t 4)])⟩,
 ⟨some 6, none, (.fa 1 (.t 1))⟩,
 ⟨some 7, none, (.ld none (.t 6))⟩,
 ⟨some 8, none, (.call (.k (.clo F_slices_Clone_byte [])) [(.t 7)])⟩,
 ⟨some 9, none, (.build [(.v (.slice none 0 0)), (.v (.slice none 0 0))] [((0, 1), (.t 5)), ((1, 1), (.t 8))])⟩,
 ⟨none, none, (.st 2 (.t 2) (.t 9))⟩])
 .ret))
theorem fn_queue_copied : FnIR Try.prog F_queue_copied 10 [(0, [1, 2]), (1, [2])] ir_queue_copied [(.cell 2 (some 2))] :=
 ⟨Try.f44, _, Try.func44, rfl, by kernel_rfl, rfl, by kernel_rfl, by kernel_rfl⟩

/-- dataenclave/journal.Append -/
def ir_journal_Append : RC :=
 (.seq
 (.reg 0 none [1, 2, 4] [
 ⟨some 2, none, (.box (.t 0))⟩,
 ⟨some 4, none, (.new (.agg [(.v (.slice none 0 0)), (.v (.slice none 0 0))]))⟩,
 ⟨some 5, none, (.mv (.k (.v (.int .i64 0))))⟩])
 (.seq
 (.reg 1 none [1, 2, 4, 6] [
 ⟨some 11, none, (.ld (some 2) (.t 2))⟩,
 ⟨some 12, none, (.call (.k (.clo F_journal_copied [])) [(.t 11)])⟩,
 ⟨some 6, none, (.new (.agg [(.v (.slice none 0 0)), (.v (.slice none 0 0))]))⟩,
 ⟨none, none, (.st 2 (.t 6) (.t 12))⟩])
 (.seq
 (.reg 2 none [2, 4, 6, 7, 8] [
 ⟨some 14, none, (.mv (.t 1))⟩,
 ⟨some 15, none, (.call (.k (.clo F_journal_Frame [])) [(.t 14)])⟩,
 ⟨some 13, none, (.mv (.t 15))⟩,
 ⟨some 16, none, (.ex (.t 13) 0)⟩,
 ⟨some 17, none, (.ex (.t 13) 1)⟩,
 ⟨some 7, none, (.mv (.t 16))⟩,
 ⟨some 8, none, (.mv (.t 17))⟩])
 (.seq
 (.seq
 (.reg 3 none [2, 4, 6, 7, 8, 19] [
 ⟨some 18, none, (.mv (.t 8))⟩,
 ⟨some 19, none, (.bin .neq false (.t 18) (.k (.v (.int .i64 0))))⟩])
 (.cond (.t 19)
 (.seq
 (.reg 4 none [4, 5] [
 ⟨some 20, none, (.ld (some 2) (.t 6))⟩,
 ⟨some 21, none, (.mv (.t 8))⟩,
 ⟨none, none, (.st 2 (.t 4) (.t 20))⟩,
 ⟨some 5, none, (.mv (.t 21))⟩])
 .ret)
 .skip))
 (.seq
 (.seq
 (.reg 5 none [2, 4, 6, 7, 10] [
 ⟨some 23, none, (.fa 0 (.t 2))⟩,
 ⟨some 24, none, (.ld none (.t 23))⟩,
 ⟨some 25, none, (.call (.k (.clo F_journal_Read [])) [(.t 24)])⟩,
 ⟨some 22, none, (.mv (.t 25))⟩,
 ⟨some 26, none, (.ex (.t 22) 0)⟩,
 ⟨some 27, none, (.ex (.t 22) 1)⟩,
 ⟨some 9, none, (.mv (.t 26))⟩,
 ⟨some 10, none, (.mv (.t 27))⟩])
 (.seq
 (.reg 6 none [2, 4, 6, 7, 32] [
 ⟨some 28, none, (.mv (.t 10))⟩,
 ⟨some 29, none, (.fa 0 (.t 2))⟩,
 ⟨some 30, none, (.ld none (.t 29))⟩,
 ⟨some 31, none, (.lenL (.t 30))⟩,
 ⟨some 32, none, (.bin .neq false (.t 28) (.t 31))⟩])
 (.cond (.t 32)
 (.seq
 (.reg 7 none [4, 5] [
 ⟨some 33, none, (.ld (some 2) (.t 6))⟩,
 ⟨none, none, (.st 2 (.t 4) (.t 33))⟩,
 ⟨some 5, none, (.mv (.k (.v (.int .i64 40))))⟩])
 .ret)
 .skip)))
 (.seq
 (.seq
 (.reg 8 none [2, 4, 6, 7, 44] [
 ⟨some 34, none, (.fa 0 (.t 2))⟩,
 ⟨some 35, none, (.ld none (.t 34))⟩,
 ⟨some 36, none, (.lenL (.t 35))⟩,
 ⟨some 37, none, (.fa 1 (.t 2))⟩,
 ⟨some 38, none, (.ld none (.t 37))⟩,
 ⟨some 39, none, (.lenL (.t 38))⟩,
 ⟨some 40, none, (.bin .add false (.t 36) (.t 39))⟩,
 ⟨some 41, none, (.mv (.t 7))⟩,
 ⟨some 42, none, (.lenL (.t 41))⟩,
 ⟨some 43, none, (.bin .add false (.t 40) (.t 42))⟩,
 ⟨some 44, none, (.bin .gtr false (.t 43) (.k (.v (.int .i64 262144))))⟩])
 (.cond (.t 44)
 (.seq
 (.reg 9 none [4, 5] [
 ⟨some 45, none, (.ld (some 2) (.t 6))⟩,
 ⟨none, none, (.st 2 (.t 4) (.t 45))⟩,
 ⟨some 5, none, (.mv (.k (.v (.int .i64 42))))⟩])
 .ret)
 .skip))
 (.seq
 (.reg 10 none [4, 6] [
 ⟨some 46, none, (.fa 1 (.t 2))⟩,
 ⟨some 47, none, (.ld none (.t 46))⟩,
 ⟨some 48, none, (.mv (.t 7))⟩,
 ⟨some 49, none, (.call (.k (.clo F_journal_joined [])) [(.t 47), (.t 48)])⟩,
 ⟨some 50, none, (.fa 1 (.t 6))⟩,
 ⟨none, none, (.st 1 (.t 50) (.t 49))⟩])
 (.seq
 (.reg 11 none [4, 5] [
 ⟨some 51, none, (.ld (some 2) (.t 6))⟩,
 ⟨none, none, (.st 2 (.t 4) (.t 51))⟩,
 ⟨some 5, none, (.mv (.k (.v (.int .i64 0))))⟩])
 .ret))))))))
theorem fn_journal_Append : FnIR Try.prog F_journal_Append 52 [(0, [1, 2, 4]), (1, [1, 2, 4, 6]), (2, [2, 4, 6, 7, 8]), (3, [2, 4, 6, 7, 8, 19]), (4, [4, 5]), (5, [2, 4, 6, 7, 10]), (6, [2, 4, 6, 7, 32]), (7, [4, 5]), (8, [2, 4, 6, 7, 44]), (9, [4, 5]), (10, [4, 6]), (11, [4, 5])] ir_journal_Append [(.cell 4 (some 2)), (.tmp 5)] :=
 ⟨Try.f45, _, Try.func45, rfl, by kernel_rfl, rfl, by kernel_rfl, by kernel_rfl⟩

/-- dataenclave/journal.Sync -/
def ir_journal_Sync : RC :=
 (.seq
 (.reg 0 none [1, 2] [
 ⟨some 1, none, (.box (.t 0))⟩,
 ⟨some 2, none, (.new (.agg [(.v (.slice none 0 0)), (.v (.slice none 0 0))]))⟩])
 (.seq
 (.reg 1 none [2] [
 ⟨some 3, none, (.ld (some 2) (.t 1))⟩,
 ⟨some 4, none, (.fa 1 (.t 1))⟩,
 ⟨some 5, none, (.ld none (.t 4))⟩,
 ⟨some 6, none, (.lenL (.t 5))⟩,
 ⟨some 7, none, (.call (.k (.clo F_journal_Crash [])) [(.t 3), (.t 6)])⟩,
 ⟨none, none, (.st 2 (.t 2) (.t 7))⟩])
 .ret))
theorem fn_journal_Sync : FnIR Try.prog F_journal_Sync 8 [(0, [1, 2]), (1, [2])] ir_journal_Sync [(.cell 2 (some 2))] :=
 ⟨Try.f46, _, Try.func46, rfl, by kernel_rfl, rfl, by kernel_rfl, by kernel_rfl⟩

/-- dataenclave/journal.Recover -/
def ir_journal_Recover : RC :=
 (.seq
 (.reg 0 none [1, 2] [
 ⟨some 1, none, (.box (.t 0))⟩,
 ⟨some 2, none, (.new (.agg [(.v (.slice none 0 0)), (.v (.slice none 0 0))]))⟩,
 ⟨some 3, none, (.mv (.k (.v (.slice none 0 0))))⟩])
 (.seq
 (.reg 1 none [1, 2, 4, 5] [
 ⟨some 7, none, (.fa 0 (.t 1))⟩,
 ⟨some 8, none, (.ld none (.t 7))⟩,
 ⟨some 9, none, (.call (.k (.clo F_journal_Read [])) [(.t 8)])⟩,
 ⟨some 6, none, (.mv (.t 9))⟩,
 ⟨some 10, none, (.ex (.t 6) 0)⟩,
 ⟨some 11, none, (.ex (.t 6) 1)⟩,
 ⟨some 4, none, (.mv (.t 10))⟩,
 ⟨some 5, none, (.mv (.t 11))⟩])
 (.seq
 (.reg 2 none [2, 3] [
 ⟨some 12, none, (.fa 0 (.t 1))⟩,
 ⟨some 13, none, (.ld none (.t 12))⟩,
 ⟨some 14, none, (.mv (.t 5))⟩,
 ⟨some 15, none, (.slL 1 (.t 13) none (some (.t 14)))⟩,
 ⟨some 16, none, (.call (.k (.clo F_slices_Clone_byte [])) [(.t 15)])⟩,
 ⟨some 17, none, (.build [(.v (.slice none 0 0)), (.v (.slice none 0 0))] [((0, 1), (.t 16))])⟩,
 ⟨some 18, none, (.mv (.t 4))⟩,
 ⟨none, none, (.st 2 (.t 2) (.t 17))⟩,
 ⟨some 3, none, (.mv (.t 18))⟩])
 .ret)))
theorem fn_journal_Recover : FnIR Try.prog F_journal_Recover 19 [(0, [1, 2]), (1, [1, 2, 4, 5]), (2, [2, 3])] ir_journal_Recover [(.cell 2 (some 2)), (.tmp 3)] :=
 ⟨Try.f47, _, Try.func47, rfl, by kernel_rfl, rfl, by kernel_rfl, by kernel_rfl⟩

/-- dataenclave/dataenclaveref23.Recover -/
def ir_ref23_Recover : RC :=
 (.seq
 (.reg 0 none [1, 2] [
 ⟨some 1, none, (.box (.t 0))⟩,
 ⟨some 2, none, (.new (.agg [(.v (.slice none 0 0)), (.v (.slice none 0 0))]))⟩,
 ⟨some 3, none, (.mv (.k (.v (.slice none 0 0))))⟩])
 (.seq
 (.reg 1 none [1, 2, 4, 5] [
 ⟨some 7, none, (.fa 0 (.t 1))⟩,
 ⟨some 8, none, (.ld none (.t 7))⟩,
 ⟨some 9, none, (.call (.k (.clo F_ref23_Read [])) [(.t 8)])⟩,
 ⟨some 6, none, (.mv (.t 9))⟩,
 ⟨some 10, none, (.ex (.t 6) 0)⟩,
 ⟨some 11, none, (.ex (.t 6) 1)⟩,
 ⟨some 4, none, (.mv (.t 10))⟩,
 ⟨some 5, none, (.mv (.t 11))⟩])
 (.seq
 (.reg 2 none [2, 3] [
 ⟨some 12, none, (.bsl 1 0 [])⟩,
 ⟨some 13, none, (.fa 0 (.t 1))⟩,
 ⟨some 14, none, (.ld none (.t 13))⟩,
 ⟨some 15, none, (.mv (.t 5))⟩,
 ⟨some 16, none, (.slL 1 (.t 14) none (some (.t 15)))⟩,
 ⟨some 17, none, (.app 1 1 false (.t 12) (.t 16))⟩,
 ⟨some 18, none, (.build [(.v (.slice none 0 0)), (.v (.slice none 0 0))] [((0, 1), (.t 17))])⟩,
 ⟨some 19, none, (.mv (.t 4))⟩,
 ⟨none, none, (.st 2 (.t 2) (.t 18))⟩,
 ⟨some 3, none, (.mv (.t 19))⟩])
 .ret)))
theorem fn_ref23_Recover : FnIR Try.prog F_ref23_Recover 20 [(0, [1, 2]), (1, [1, 2, 4, 5]), (2, [2, 3])] ir_ref23_Recover [(.cell 2 (some 2)), (.tmp 3)] :=
 ⟨Try.f48, _, Try.func48, rfl, by kernel_rfl, rfl, by kernel_rfl, by kernel_rfl⟩

/-- dataenclave/dataenclaveref35.outputs -/
def ir_ref35_outputs : RC :=
 (.seq
 (.reg 0 none [0] [
 ⟨some 2, none, (.mv (.k (.v (.slice none 0 0))))⟩,
 ⟨some 3, none, (.mv (.k (.v (.int .i64 0))))⟩])
 (.seq
 (.reg 1 none [0, 4] [
 ⟨some 4, none, (.mv (.k (.v (.slice none 0 0))))⟩])
 (.seq
 (.seq
 (.reg 2 none [4, 9, 10, 11] [
 ⟨some 9, none, (.mv (.t 0))⟩,
 ⟨some 10, none, (.lenL (.t 9))⟩,
 ⟨some 11, none, (.mv (.k (.v (.int .i64 0))))⟩])
 (.block 0
 (.loop
 (.seq
 (.reg 3 none [4, 9, 10, 11, 12] [
 ⟨some 12, none, (.bin .lss false (.t 11) (.t 10))⟩])
 (.seq
 (.cond (.t 12)
 .skip
 (.exit 0))
 (.seq
 (.block 1
 (.seq
 (.reg 4 none [4, 6, 9, 10, 11] [
 ⟨some 13, none, (.ixL 1 (.t 9) (.t 11))⟩,
 ⟨some 14, none, (.ld none (.t 13))⟩,
 ⟨some 6, none, (.mv (.t 14))⟩])
 (.seq
 (.reg 5 none [4, 7, 8, 9, 10, 11] [
 ⟨some 16, none, (.mv (.t 6))⟩,
 ⟨some 17, none, (.call (.k (.clo F_ref35_Decode [])) [(.t 16)])⟩,
 ⟨some 15, none, (.mv (.t 17))⟩,
 ⟨some 18, none, (.ex (.t 15) 0)⟩,
 ⟨some 19, none, (.ex (.t 15) 1)⟩,
 ⟨some 7, none, (.new (.agg [(.v (.int .i64 0)), (.v (.string ⟨#[]⟩)), (.v (.string ⟨#[]⟩)), (.v (.int .i64 0)), (.v (.string ⟨#[]⟩)), (.v (.int .i64 0)), (.v (.slice none 0 0))]))⟩,
 ⟨none, none, (.st 7 (.t 7) (.t 18))⟩,
 ⟨some 8, none, (.mv (.t 19))⟩])
 (.seq
 (.seq
 (.reg 6 none [4, 7, 8, 9, 10, 11, 21] [
 ⟨some 20, none, (.mv (.t 8))⟩,
 ⟨some 21, none, (.bin .neq false (.t 20) (.k (.v (.int .i64 0))))⟩])
 (.cond (.t 21)
 (.seq
 (.reg 7 none [2, 3] [
 ⟨some 22, none, (.mv (.t 8))⟩,
 ⟨some 2, none, (.mv (.k (.v (.slice none 0 0))))⟩,
 ⟨some 3, none, (.mv (.t 22))⟩])
 .ret)
 .skip))
 (.block 2
 (.seq
 (.reg 9 none [4, 7, 9, 10, 11, 29] [
 ⟨some 30, none, (.fa 0 (.t 7))⟩,
 ⟨some 31, none, (.ld none (.t 30))⟩,
 ⟨some 32, none, (.mv (.t 4))⟩,
 ⟨some 33, none, (.lenL (.t 32))⟩,
 ⟨some 34, none, (.bin .add false (.t 33) (.k (.v (.int .i64 1))))⟩,
 ⟨some 35, none, (.bin .gtr false (.t 31) (.t 34))⟩,
 ⟨some 29, none, (.mv (.t 35))⟩])
 (.cond (.t 29)
 (.seq
 (.reg 10 none [2, 3] [
 ⟨some 2, none, (.mv (.k (.v (.slice none 0 0))))⟩,
 ⟨some 3, none, (.mv (.k (.v (.int .i64 48))))⟩])
 .ret)
 (.seq
 (.reg 11 none [4, 7, 9, 10, 11, 36] [
 ⟨some 37, none, (.fa 0 (.t 7))⟩,
 ⟨some 38, none, (.ld none (.t 37))⟩,
 ⟨some 39, none, (.mv (.t 4))⟩,
 ⟨some 40, none, (.lenL (.t 39))⟩,
 ⟨some 41, none, (.bin .add false (.t 40) (.k (.v (.int .i64 1))))⟩,
 ⟨some 42, none, (.bin .eql false (.t 38) (.t 41))⟩,
 ⟨some 36, none, (.mv (.t 42))⟩])
 (.cond (.t 36)
 (.reg 12 none [4, 9, 10, 11] [
 ⟨some 43, none, (.mv (.t 4))⟩,
 ⟨some 44, none, (.ld (some 7) (.t 7))⟩,
 ⟨some 45, none, (.bsl 7 1 [(.t 44)])⟩,
 ⟨some 46, none, (.app 7 96 false (.t 43) (.t 45))⟩,
 ⟨some 4, none, (.mv (.t 46))⟩])
 (.reg 8 none [4, 9, 10, 11] [
 ⟨some 23, none, (.mv (.t 4))⟩,
 ⟨some 24, none, (.fa 0 (.t 7))⟩,
 ⟨some 25, none, (.ld none (.t 24))⟩,
 ⟨some 26, none, (.bin .sub false (.t 25) (.k (.v (.int .i64 1))))⟩,
 ⟨some 27, none, (.ld (some 7) (.t 7))⟩,
 ⟨some 28, none, (.ixL 7 (.t 23) (.t 26))⟩,
 ⟨none, none, (.st 7 (.t 28) (.t 27))⟩]))))))))))
 (.reg 13 none [4, 9, 10, 11] [
 ⟨some 47, none, (.bin .add false (.t 11) (.k (.v (.int .i64 1))))⟩,
 ⟨some 11, none, (.mv (.t 47))⟩])))))))
 (.seq
 (.reg 14 none [2, 3] [
 ⟨some 48, none, (.mv (.t 4))⟩,
 ⟨some 2, none, (.mv (.t 48))⟩,
 ⟨some 3, none, (.mv (.k (.v (.int .i64 0))))⟩])
 .ret))))
theorem fn_ref35_outputs : FnIR Try.prog F_ref35_outputs 49 [(0, [0]), (1, [0, 4]), (2, [4, 9, 10, 11]), (3, [4, 9, 10, 11, 12]), (4, [4, 6, 9, 10, 11]), (5, [4, 7, 8, 9, 10, 11]), (6, [4, 7, 8, 9, 10, 11, 21]), (7, [2, 3]), (8, [4, 9, 10, 11]), (9, [4, 7, 9, 10, 11, 29]), (10, [2, 3]), (11, [4, 7, 9, 10, 11, 36]), (12, [4, 9, 10, 11]), (13, [4, 9, 10, 11]), (14, [2, 3])] ir_ref35_outputs [(.tmp 2), (.tmp 3)] :=
 ⟨Try.f49, _, Try.func49, rfl, by kernel_rfl, rfl, by kernel_rfl, by kernel_rfl⟩

/-- dataenclave/queue.number -/
def ir_queue_number : RC :=
 (.seq
 (.reg 0 none [1, 2] [
 ⟨some 1, none, (.box (.t 0))⟩,
 ⟨some 2, none, (.new (.agg [(.v .nilFunc), (.v .nilFunc)]))⟩])
 (.seq
 (.reg 1 none [2] [
 ⟨some 3, none, (.mf F_queue_number_1 [(.t 1)])⟩,
 ⟨some 4, none, (.mf F_queue_number_2 [(.t 1)])⟩,
 ⟨some 5, none, (.build [(.v .nilFunc), (.v .nilFunc)] [((0, 1), (.t 3)), ((1, 1), (.t 4))])⟩,
 ⟨none, none, (.st 2 (.t 2) (.t 5))⟩])
 .ret))
theorem fn_queue_number : FnIR Try.prog F_queue_number 6 [(0, [1, 2]), (1, [2])] ir_queue_number [(.cell 2 (some 2))] :=
 ⟨Try.f50, _, Try.func50, rfl, by kernel_rfl, rfl, by kernel_rfl, by kernel_rfl⟩

/-- dataenclave/queue.fields$1 -/
def ir_queue_fields_1 : RC :=
 (.seq
 (.reg 0 none [0] [
 ⟨some 2, none, (.mv (.k (.v (.pointer none))))⟩])
 (.seq
 (.reg 1 none [2] [
 ⟨some 3, none, (.mv (.t 0))⟩,
 ⟨some 4, none, (.nc (.t 3))⟩,
 ⟨some 5, none, (.fa 0 (.t 4))⟩,
 ⟨some 2, none, (.mv (.t 5))⟩])
 .ret))
theorem fn_queue_fields_1 : FnIR Try.prog F_queue_fields_1 6 [(0, [0]), (1, [2])] ir_queue_fields_1 [(.tmp 2)] :=
 ⟨Try.f51, _, Try.func51, rfl, by kernel_rfl, rfl, by kernel_rfl, by kernel_rfl⟩

/-- dataenclave/queue.text -/
def ir_queue_text : RC :=
 (.seq
 (.reg 0 none [1, 2] [
 ⟨some 1, none, (.box (.t 0))⟩,
 ⟨some 2, none, (.new (.agg [(.v .nilFunc), (.v .nilFunc)]))⟩])
 (.seq
 (.reg 1 none [2] [
 ⟨some 3, none, (.mf F_queue_text_1 [(.t 1)])⟩,
 ⟨some 4, none, (.mf F_queue_text_2 [(.t 1)])⟩,
 ⟨some 5, none, (.build [(.v .nilFunc), (.v .nilFunc)] [((0, 1), (.t 3)), ((1, 1), (.t 4))])⟩,
 ⟨none, none, (.st 2 (.t 2) (.t 5))⟩])
 .ret))
theorem fn_queue_text : FnIR Try.prog F_queue_text 6 [(0, [1, 2]), (1, [2])] ir_queue_text [(.cell 2 (some 2))] :=
 ⟨Try.f52, _, Try.func52, rfl, by kernel_rfl, rfl, by kernel_rfl, by kernel_rfl⟩

/-- dataenclave/queue.fields$2 -/
def ir_queue_fields_2 : RC :=
 (.seq
 (.reg 0 none [0] [
 ⟨some 2, none, (.mv (.k (.v (.pointer none))))⟩])
 (.seq
 (.reg 1 none [2] [
 ⟨some 3, none, (.mv (.t 0))⟩,
 ⟨some 4, none, (.nc (.t 3))⟩,
 ⟨some 5, none, (.fa 1 (.t 4))⟩,
 ⟨some 2, none, (.mv (.t 5))⟩])
 .ret))
theorem fn_queue_fields_2 : FnIR Try.prog F_queue_fields_2 6 [(0, [0]), (1, [2])] ir_queue_fields_2 [(.tmp 2)] :=
 ⟨Try.f53, _, Try.func53, rfl, by kernel_rfl, rfl, by kernel_rfl, by kernel_rfl⟩

/-- dataenclave/queue.fields$3 -/
def ir_queue_fields_3 : RC :=
 (.seq
 (.reg 0 none [0] [
 ⟨some 2, none, (.mv (.k (.v (.pointer none))))⟩])
 (.seq
 (.reg 1 none [2] [
 ⟨some 3, none, (.mv (.t 0))⟩,
 ⟨some 4, none, (.nc (.t 3))⟩,
 ⟨some 5, none, (.fa 2 (.t 4))⟩,
 ⟨some 2, none, (.mv (.t 5))⟩])
 .ret))
theorem fn_queue_fields_3 : FnIR Try.prog F_queue_fields_3 6 [(0, [0]), (1, [2])] ir_queue_fields_3 [(.tmp 2)] :=
 ⟨Try.f54, _, Try.func54, rfl, by kernel_rfl, rfl, by kernel_rfl, by kernel_rfl⟩

/-- dataenclave/queue.fields$4 -/
def ir_queue_fields_4 : RC :=
 (.seq
 (.reg 0 none [0] [
 ⟨some 2, none, (.mv (.k (.v (.pointer none))))⟩])
 (.seq
 (.reg 1 none [2] [
 ⟨some 3, none, (.mv (.t 0))⟩,
 ⟨some 4, none, (.nc (.t 3))⟩,
 ⟨some 5, none, (.fa 3 (.t 4))⟩,
 ⟨some 2, none, (.mv (.t 5))⟩])
 .ret))
theorem fn_queue_fields_4 : FnIR Try.prog F_queue_fields_4 6 [(0, [0]), (1, [2])] ir_queue_fields_4 [(.tmp 2)] :=
 ⟨Try.f55, _, Try.func55, rfl, by kernel_rfl, rfl, by kernel_rfl, by kernel_rfl⟩

/-- dataenclave/queue.fields$5 -/
def ir_queue_fields_5 : RC :=
 (.seq
 (.reg 0 none [0] [
 ⟨some 2, none, (.mv (.k (.v (.pointer none))))⟩])
 (.seq
 (.reg 1 none [2] [
 ⟨some 3, none, (.mv (.t 0))⟩,
 ⟨some 4, none, (.nc (.t 3))⟩,
 ⟨some 5, none, (.fa 4 (.t 4))⟩,
 ⟨some 2, none, (.mv (.t 5))⟩])
 .ret))
theorem fn_queue_fields_5 : FnIR Try.prog F_queue_fields_5 6 [(0, [0]), (1, [2])] ir_queue_fields_5 [(.tmp 2)] :=
 ⟨Try.f56, _, Try.func56, rfl, by kernel_rfl, rfl, by kernel_rfl, by kernel_rfl⟩

/-- dataenclave/queue.fields$6 -/
def ir_queue_fields_6 : RC :=
 (.seq
 (.reg 0 none [0] [
 ⟨some 2, none, (.mv (.k (.v (.pointer none))))⟩])
 (.seq
 (.reg 1 none [2] [
 ⟨some 3, none, (.mv (.t 0))⟩,
 ⟨some 4, none, (.nc (.t 3))⟩,
 ⟨some 5, none, (.fa 5 (.t 4))⟩,
 ⟨some 2, none, (.mv (.t 5))⟩])
 .ret))
theorem fn_queue_fields_6 : FnIR Try.prog F_queue_fields_6 6 [(0, [0]), (1, [2])] ir_queue_fields_6 [(.tmp 2)] :=
 ⟨Try.f57, _, Try.func57, rfl, by kernel_rfl, rfl, by kernel_rfl, by kernel_rfl⟩

/-- dataenclave/queue.signatures -/
def ir_queue_signatures : RC :=
 (.seq
 (.reg 0 none [0, 1] [
 ⟨some 6, none, (.mv (.t 0))⟩,
 ⟨some 7, none, (.mv (.t 1))⟩,
 ⟨some 8, none, (.nc (.t 7))⟩,
 ⟨some 9, none, (.fa 6 (.t 8))⟩,
 ⟨some 10, none, (.ld none (.t 9))⟩,
 ⟨some 11, none, (.lenL (.t 10))⟩,
 ⟨some 12, none, (.call (.k (.clo F_queue_writer_number [])) [(.t 6), (.t 11)])⟩])
 (.seq
 (.reg 1 none [0, 16, 17, 18] [
 ⟨some 13, none, (.mv (.t 1))⟩,
 ⟨some 14, none, (.nc (.t 13))⟩,
 ⟨some 15, none, (.fa 6 (.t 14))⟩,
 ⟨some 16, none, (.ld none (.t 15))⟩,
 ⟨some 17, none, (.lenL (.t 16))⟩,
 ⟨some 18, none, (.mv (.k (.v (.int .i64 0))))⟩])
 (.block 0
 (.loop
 (.seq
 (.reg 2 none [0, 16, 17, 18, 19] [
 ⟨some 19, none, (.bin .lss false (.t 18) (.t 17))⟩])
 (.seq
 (.cond (.t 19)
 .skip
 (.exit 0))
 (.seq
 (.block 1
 (.seq
 (.reg 3 none [0, 5, 16, 17, 18] [
 ⟨some 20, none, (.ixL 2 (.t 16) (.t 18))⟩,
 ⟨some 21, none, (.ld (some 2) (.t 20))⟩,
 ⟨some 5, none, (.new (.agg [(.v (.string ⟨#[]⟩)), (.v (.int .i64 0))]))⟩,
 ⟨none, none, (.st 2 (.t 5) (.t 21))⟩])
 (.seq
 (.reg 4 none [0, 5, 16, 17, 18] [
 ⟨some 22, none, (.mv (.t 0))⟩,
 ⟨some 23, none, (.fa 0 (.t 5))⟩,
 ⟨some 24, none, (.ld none (.t 23))⟩,
 ⟨some 25, none, (.call (.k (.clo F_queue_writer_text [])) [(.t 22), (.t 24)])⟩])
 (.reg 5 none [0, 16, 17, 18] [
 ⟨some 26, none, (.mv (.t 0))⟩,
 ⟨some 27, none, (.fa 1 (.t 5))⟩,
 ⟨some 28, none, (.ld none (.t 27))⟩,
 ⟨some 29, none, (.call (.k (.clo F_queue_writer_number [])) [(.t 26), (.t 28)])⟩]))))
 (.reg 6 none [0, 16, 17, 18] [
 ⟨some 30, none, (.bin .add false (.t 18) (.k (.v (.int .i64 1))))⟩,
 ⟨some 18, none, (.mv (.t 30))⟩]))))))))
theorem fn_queue_signatures : FnIR Try.prog F_queue_signatures 31 [(0, [0, 1]), (1, [0, 16, 17, 18]), (2, [0, 16, 17, 18, 19]), (3, [0, 5, 16, 17, 18]), (4, [0, 5, 16, 17, 18]), (5, [0, 16, 17, 18]), (6, [0, 16, 17, 18])] ir_queue_signatures [] :=
 ⟨Try.f58, _, Try.func58, rfl, by kernel_rfl, rfl, by kernel_rfl, by kernel_rfl⟩

/-- dataenclave/queue.signed -/
def ir_queue_signed : RC :=
 (.seq
 (.reg 0 none [0, 1, 4] [
 ⟨some 6, none, (.mv (.t 0))⟩,
 ⟨some 7, none, (.call (.k (.clo F_queue_reader_number [])) [(.t 6)])⟩,
 ⟨some 4, none, (.mv (.t 7))⟩])
 (.seq
 (.seq
 (.reg 1 none [0, 1, 4, 9] [
 ⟨some 8, none, (.mv (.t 4))⟩,
 ⟨some 9, none, (.bin .gtr false (.t 8) (.k (.v (.int .i64 2))))⟩])
 (.cond (.t 9)
 (.reg 2 none [0, 1, 4] [
 ⟨some 10, none, (.mv (.t 0))⟩,
 ⟨some 11, none, (.nc (.t 10))⟩,
 ⟨some 12, none, (.fa 1 (.t 11))⟩,
 ⟨none, none, (.st 1 (.t 12) (.k (.v (.bool true))))⟩])
 .skip))
 (.seq
 (.reg 3 none [0, 1, 14, 15] [
 ⟨some 13, none, (.mv (.t 4))⟩,
 ⟨some 14, none, (.mn [(.t 13), (.k (.v (.int .i64 2)))])⟩,
 ⟨some 15, none, (.mv (.k (.v (.int .i64 0))))⟩])
 (.block 0
 (.loop
 (.seq
 (.reg 4 none [0, 1, 14, 15, 16] [
 ⟨some 16, none, (.bin .lss false (.t 15) (.t 14))⟩])
 (.seq
 (.cond (.t 16)
 .skip
 (.exit 0))
 (.seq
 (.block 1
 (.seq
 (.reg 5 none [0, 1, 5, 14, 15] [
 ⟨some 17, none, (.mv (.t 0))⟩,
 ⟨some 18, none, (.call (.k (.clo F_queue_reader_text [])) [(.t 17)])⟩,
 ⟨some 5, none, (.mv (.t 18))⟩])
 (.reg 6 (some [0, 0, 2, 6, 14, 0, 0, 64, 224, 480, 1022, 2047, 4095, 8191]) [0, 1, 14, 15] [
 ⟨some 19, none, (.mv (.t 1))⟩,
 ⟨some 20, none, (.mv (.t 1))⟩,
 ⟨some 21, none, (.nc (.t 20))⟩,
 ⟨some 22, none, (.fa 6 (.t 21))⟩,
 ⟨some 23, none, (.ld none (.t 22))⟩,
 ⟨some 24, none, (.mv (.t 5))⟩,
 ⟨some 25, none, (.mv (.t 0))⟩,
 ⟨some 26, none, (.call (.k (.clo F_queue_reader_number [])) [(.t 25)])⟩,
 ⟨some 27, none, (.build [(.v (.string ⟨#[]⟩)), (.v (.int .i64 0))] [((0, 1), (.t 24)), ((1, 1), (.t 26))])⟩,
 ⟨some 28, none, (.bsl 2 1 [(.t 27)])⟩,
 ⟨some 29, none, (.app 2 24 false (.t 23) (.t 28))⟩,
 ⟨some 30, none, (.nc (.t 19))⟩,
 ⟨some 31, none, (.fa 6 (.t 30))⟩,
 ⟨none, none, (.st 1 (.t 31) (.t 29))⟩])))
 (.reg 7 none [0, 1, 14, 15] [
 ⟨some 32, none, (.bin .add false (.t 15) (.k (.v (.int .i64 1))))⟩,
 ⟨some 15, none, (.mv (.t 32))⟩])))))))))
theorem fn_queue_signed : FnIR Try.prog F_queue_signed 33 [(0, [0, 1, 4]), (1, [0, 1, 4, 9]), (2, [0, 1, 4]), (3, [0, 1, 14, 15]), (4, [0, 1, 14, 15, 16]), (5, [0, 1, 5, 14, 15]), (6, [0, 1, 14, 15]), (7, [0, 1, 14, 15])] ir_queue_signed [] :=
 ⟨Try.f59, _, Try.func59, rfl, by kernel_rfl, rfl, by kernel_rfl, by kernel_rfl⟩

/-- slices.IndexFunc[[]dataenclave/api.Signature,dataenclave/api.Signature] -/
def ir_slices_IndexFunc_Signature : RC :=
 (.seq
 (.reg 0 none [0, 1] [
 ⟨some 4, none, (.mv (.k (.v (.int .i64 0))))⟩])
 (.seq
 (.seq
 (.reg 1 none [0, 1, 7, 8] [
 ⟨some 6, none, (.mv (.t 0))⟩,
 ⟨some 7, none, (.lenL (.t 6))⟩,
 ⟨some 8, none, (.mv (.k (.v (.int .i64 0))))⟩])
 (.block 0
 (.loop
 (.seq
 (.reg 2 none [0, 1, 7, 8, 9] [
 ⟨some 9, none, (.bin .lss false (.t 8) (.t 7))⟩])
 (.seq
 (.cond (.t 9)
 .skip
 (.exit 0))
 (.seq
 (.block 1
 (.seq
 (.reg 3 none [0, 1, 5, 7, 8] [
 ⟨some 10, none, (.mv (.t 8))⟩,
 ⟨some 5, none, (.mv (.t 10))⟩])
 (.seq
 (.reg 4 none [0, 1, 5, 7, 8, 16] [
 ⟨some 11, none, (.mv (.t 1))⟩,
 ⟨some 12, none, (.mv (.t 0))⟩,
 ⟨some 13, none, (.mv (.t 5))⟩,
 ⟨some 14, none, (.ixL 2 (.t 12) (.t 13))⟩,
 ⟨some 15, none, (.ld (some 2) (.t 14))⟩,
 ⟨some 16, none, (.call (.t 11) [(.t 15)])⟩])
 (.cond (.t 16)
 (.seq
 (.reg 5 none [4] [
 ⟨some 17, none, (.mv (.t 5))⟩,
 ⟨some 4, none, (.mv (.t 17))⟩])
 .ret)
 .skip))))
 (.reg 6 none [0, 1, 7, 8] [
 ⟨some 18, none, (.bin .add false (.t 8) (.k (.v (.int .i64 1))))⟩,
 ⟨some 8, none, (.mv (.t 18))⟩])))))))
 (.seq
 (.reg 7 none [4] [
 ⟨some 4, none, (.mv (.k (.v (.int .i64 (-1)))))⟩])
 .ret)))
theorem fn_slices_IndexFunc_Signature : FnIR Try.prog F_slices_IndexFunc_Signature 19 [(0, [0, 1]), (1, [0, 1, 7, 8]), (2, [0, 1, 7, 8, 9]), (3, [0, 1, 5, 7, 8]), (4, [0, 1, 5, 7, 8, 16]), (5, [4]), (6, [0, 1, 7, 8]), (7, [4])] ir_slices_IndexFunc_Signature [(.tmp 4)] :=
 ⟨Try.f60, _, Try.func60, rfl, by kernel_rfl, rfl, by kernel_rfl, by kernel_rfl⟩

/-- dataenclave/dataenclaveref01.Name -/
def ir_ref01_Name : RC :=
 (.seq
 (.reg 0 none [0] [
 ⟨some 2, none, (.mv (.k (.v (.bool false))))⟩])
 (.seq
 (.seq
 (.reg 1 none [0, 21] [
 ⟨some 4, none, (.mv (.t 0))⟩,
 ⟨some 5, none, (.lenS (.t 4))⟩,
 ⟨some 6, none, (.bin .lss false (.t 5) (.k (.v (.int .i64 1))))⟩,
 ⟨some 7, none, (.mv (.t 6))⟩,
 ⟨some 8, some (7, false), (.mv (.t 0))⟩,
 ⟨some 9, some (7, false), (.lenS (.t 8))⟩,
 ⟨some 10, some (7, false), (.bin .gtr false (.t 9) (.k (.v (.int .i64 16))))⟩,
 ⟨some 11, none, (.pick (.t 7) (.k (.v (.bool true))) (.t 10))⟩,
 ⟨some 12, none, (.mv (.t 11))⟩,
 ⟨some 13, some (12, false), (.mv (.t 0))⟩,
 ⟨some 14, some (12, false), (.sx (.t 13) (.k (.v (.int .i64 0))))⟩,
 ⟨some 15, some (12, false), (.bin .lss false (.t 14) (.k (.v (.int .u8 97))))⟩,
 ⟨some 16, none, (.pick (.t 12) (.k (.v (.bool true))) (.t 15))⟩,
 ⟨some 17, none, (.mv (.t 16))⟩,
 ⟨some 18, some (17, false), (.mv (.t 0))⟩,
 ⟨some 19, some (17, false), (.sx (.t 18) (.k (.v (.int .i64 0))))⟩,
 ⟨some 20, some (17, false), (.bin .gtr false (.t 19) (.k (.v (.int .u8 122))))⟩,
 ⟨some 21, none, (.pick (.t 17) (.k (.v (.bool true))) (.t 20))⟩])
 (.cond (.t 21)
 (.seq
 (.reg 2 none [2] [
 ⟨some 2, none, (.mv (.k (.v (.bool false))))⟩])
 .ret)
 .skip))
 (.seq
 (.seq
 (.reg 3 none [0, 3] [
 ⟨some 3, none, (.mv (.k (.v (.int .i64 0))))⟩])
 (.block 0
 (.loop
 (.seq
 (.seq
 (.reg 4 none [0, 3, 25] [
 ⟨some 22, none, (.mv (.t 3))⟩,
 ⟨some 23, none, (.mv (.t 0))⟩,
 ⟨some 24, none, (.lenS (.t 23))⟩,
 ⟨some 25, none, (.bin .lss false (.t 22) (.t 24))⟩])
 (.cond (.t 25)
 .skip
 (.exit 0)))
 (.seq
 (.block 1
 (.seq
 (.reg 6 none [0, 3, 56] [
 ⟨some 28, none, (.mv (.t 0))⟩,
 ⟨some 29, none, (.mv (.t 3))⟩,
 ⟨some 30, none, (.sx (.t 28) (.t 29))⟩,
 ⟨some 31, none, (.bin .geq false (.t 30) (.k (.v (.int .u8 97))))⟩,
 ⟨some 32, none, (.mv (.t 31))⟩,
 ⟨some 33, some (32, true), (.mv (.t 0))⟩,
 ⟨some 34, some (32, true), (.mv (.t 3))⟩,
 ⟨some 35, some (32, true), (.sx (.t 33) (.t 34))⟩,
 ⟨some 36, some (32, true), (.bin .leq false (.t 35) (.k (.v (.int .u8 122))))⟩,
 ⟨some 37, none, (.pick (.t 32) (.t 36) (.k (.v (.bool false))))⟩,
 ⟨some 38, none, (.mv (.t 37))⟩,
 ⟨some 39, some (38, false), (.mv (.t 0))⟩,
 ⟨some 40, some (38, false), (.mv (.t 3))⟩,
 ⟨some 41, some (38, false), (.sx (.t 39) (.t 40))⟩,
 ⟨some 42, some (38, false), (.bin .geq false (.t 41) (.k (.v (.int .u8 48))))⟩,
 ⟨some 43, some (38, false), (.mv (.t 42))⟩,
 ⟨some 44, some (43, true), (.mv (.t 0))⟩,
 ⟨some 45, some (43, true), (.mv (.t 3))⟩,
 ⟨some 46, some (43, true), (.sx (.t 44) (.t 45))⟩,
 ⟨some 47, some (43, true), (.bin .leq false (.t 46) (.k (.v (.int .u8 57))))⟩,
 ⟨some 48, some (38, false), (.pick (.t 43) (.t 47) (.k (.v (.bool false))))⟩,
 ⟨some 49, none, (.pick (.t 38) (.k (.v (.bool true))) (.t 48))⟩,
 ⟨some 50, none, (.mv (.t 49))⟩,
 ⟨some 51, some (50, false), (.mv (.t 0))⟩,
 ⟨some 52, some (50, false), (.mv (.t 3))⟩,
 ⟨some 53, some (50, false), (.sx (.t 51) (.t 52))⟩,
 ⟨some 54, some (50, false), (.bin .eql false (.t 53) (.k (.v (.int .u8 95))))⟩,
 ⟨some 55, none, (.pick (.t 50) (.k (.v (.bool true))) (.t 54))⟩,
 ⟨some 56, none, (.un .not (.t 55))⟩])
 (.cond (.t 56)
 (.seq
 (.reg 7 none [2] [
 ⟨some 2, none, (.mv (.k (.v (.bool false))))⟩])
 .ret)
 .skip)))
 (.reg 5 none [0, 3] [
 ⟨some 26, none, (.mv (.t 3))⟩,
 ⟨some 27, none, (.bin .add false (.t 26) (.k (.v (.int .i64 1))))⟩,
 ⟨some 3, none, (.mv (.t 27))⟩]))))))
 (.seq
 (.seq
 (.reg 8 none [57] [
 ⟨some 57, none, (.mv (.t 0))⟩])
 (.block 2
 (.seq
 (.seq
 (.reg 9 none [57, 58] [
 ⟨some 59, none, (.bin .eql false (.t 57) (.k (.v (.string ⟨#[97, 108, 108]⟩))))⟩,
 ⟨some 58, none, (.mv (.t 59))⟩])
 (.cond (.t 58)
 .skip
 (.seq
 (.reg 10 none [57, 58] [
 ⟨some 60, none, (.bin .eql false (.t 57) (.k (.v (.string ⟨#[97, 110, 100]⟩))))⟩,
 ⟨some 58, none, (.mv (.t 60))⟩])
 (.cond (.t 58)
 .skip
 (.seq
 (.reg 11 none [57, 58] [
 ⟨some 61, none, (.bin .eql false (.t 57) (.k (.v (.string ⟨#[101, 118, 101, 110, 116]⟩))))⟩,
 ⟨some 58, none, (.mv (.t 61))⟩])
 (.cond (.t 58)
 .skip
 (.seq
 (.reg 12 none [57, 58] [
 ⟨some 62, none, (.bin .eql false (.t 57) (.k (.v (.string ⟨#[102, 114, 111, 109]⟩))))⟩,
 ⟨some 58, none, (.mv (.t 62))⟩])
 (.cond (.t 58)
 .skip
 (.seq
 (.reg 13 none [57, 58] [
 ⟨some 63, none, (.bin .eql false (.t 57) (.k (.v (.string ⟨#[109, 105, 115, 115, 105, 110, 103]⟩))))⟩,
 ⟨some 58, none, (.mv (.t 63))⟩])
 (.cond (.t 58)
 .skip
 (.seq
 (.reg 14 none [57, 58] [
 ⟨some 64, none, (.bin .eql false (.t 57) (.k (.v (.string ⟨#[110, 111, 116]⟩))))⟩,
 ⟨some 58, none, (.mv (.t 64))⟩])
 (.cond (.t 58)
 .skip
 (.seq
 (.reg 15 none [57, 58] [
 ⟨some 65, none, (.bin .eql false (.t 57) (.k (.v (.string ⟨#[111, 110]⟩))))⟩,
 ⟨some 58, none, (.mv (.t 65))⟩])
 (.cond (.t 58)
 .skip
 (.seq
 (.reg 16 none [57, 58] [
 ⟨some 66, none, (.bin .eql false (.t 57) (.k (.v (.string ⟨#[111, 114]⟩))))⟩,
 ⟨some 58, none, (.mv (.t 66))⟩])
 (.cond (.t 58)
 .skip
 (.seq
 (.reg 17 none [57, 58] [
 ⟨some 67, none, (.bin .eql false (.t 57) (.k (.v (.string ⟨#[116, 111]⟩))))⟩,
 ⟨some 58, none, (.mv (.t 67))⟩])
 (.cond (.t 58)
 .skip
 (.seq
 (.reg 18 none [57, 58] [
 ⟨some 68, none, (.bin .eql false (.t 57) (.k (.v (.string ⟨#[117, 110, 100, 101, 114]⟩))))⟩,
 ⟨some 58, none, (.mv (.t 68))⟩])
 (.cond (.t 58)
 .skip
 (.reg 19 none [58] [
 ⟨some 69, none, (.bin .eql false (.t 57) (.k (.v (.string ⟨#[119, 104, 101, 114, 101]⟩))))⟩,
 ⟨some 58, none, (.mv (.t 69))⟩])))))))))))))))))))))
 (.cond (.t 58)
 (.seq
 (.reg 20 none [2] [
 ⟨some 2, none, (.mv (.k (.v (.bool false))))⟩])
 .ret)
 .skip))))
 (.seq
 (.reg 21 none [2] [
 ⟨some 2, none, (.mv (.k (.v (.bool true))))⟩])
 .ret)))))
theorem fn_ref01_Name : FnIR Try.prog F_ref01_Name 70 [(0, [0]), (1, [0, 21]), (2, [2]), (3, [0, 3]), (4, [0, 3, 25]), (5, [0, 3]), (6, [0, 3, 56]), (7, [2]), (8, [57]), (9, [57, 58]), (10, [57, 58]), (11, [57, 58]), (12, [57, 58]), (13, [57, 58]), (14, [57, 58]), (15, [57, 58]), (16, [57, 58]), (17, [57, 58]), (18, [57, 58]), (19, [58]), (20, [2]), (21, [2])] ir_ref01_Name [(.tmp 2)] :=
 ⟨Try.f61, _, Try.func61, rfl, by kernel_rfl, rfl, by kernel_rfl, by kernel_rfl⟩

/-- dataenclave/dataenclaveref23.Four -/
def ir_ref23_Four : RC :=
 (.seq
 (.reg 0 none [0] [
 ⟨some 2, none, (.mv (.k (.v (.slice none 0 0))))⟩])
 (.seq
 (.reg 1 none [2] [
 ⟨some 3, none, (.mv (.t 0))⟩,
 ⟨some 4, none, (.bin .shr false (.t 3) (.k (.v (.int .u64 24))))⟩,
 ⟨some 5, none, (.cvI .u8 (.t 4))⟩,
 ⟨some 6, none, (.mv (.t 0))⟩,
 ⟨some 7, none, (.bin .shr false (.t 6) (.k (.v (.int .u64 16))))⟩,
 ⟨some 8, none, (.cvI .u8 (.t 7))⟩,
 ⟨some 9, none, (.mv (.t 0))⟩,
 ⟨some 10, none, (.bin .shr false (.t 9) (.k (.v (.int .u64 8))))⟩,
 ⟨some 11, none, (.cvI .u8 (.t 10))⟩,
 ⟨some 12, none, (.mv (.t 0))⟩,
 ⟨some 13, none, (.cvI .u8 (.t 12))⟩,
 ⟨some 14, none, (.bsl 1 4 [(.t 5), (.t 8), (.t 11), (.t 13)])⟩,
 ⟨some 2, none, (.mv (.t 14))⟩])
 .ret))
theorem fn_ref23_Four : FnIR Try.prog F_ref23_Four 15 [(0, [0]), (1, [2])] ir_ref23_Four [(.tmp 2)] :=
 ⟨Try.f62, _, Try.func62, rfl, by kernel_rfl, rfl, by kernel_rfl, by kernel_rfl⟩

/-- dataenclave/dataenclaveref23.Value -/
def ir_ref23_Value : RC :=
 (.seq
 (.reg 0 none [0] [
 ⟨some 2, none, (.mv (.k (.v (.int .i64 0))))⟩])
 (.seq
 (.reg 1 none [0, 3] [
 ⟨some 3, none, (.mv (.k (.v (.int .i64 0))))⟩])
 (.seq
 (.seq
 (.reg 2 none [0, 3, 4] [
 ⟨some 4, none, (.mv (.k (.v (.int .i64 0))))⟩])
 (.block 0
 (.loop
 (.seq
 (.seq
 (.reg 3 none [0, 3, 4, 8] [
 ⟨some 5, none, (.mv (.t 4))⟩,
 ⟨some 6, none, (.mv (.t 0))⟩,
 ⟨some 7, none, (.lenL (.t 6))⟩,
 ⟨some 8, none, (.bin .lss false (.t 5) (.t 7))⟩])
 (.cond (.t 8)
 .skip
 (.exit 0)))
 (.seq
 (.block 1
 (.reg 5 none [0, 3, 4] [
 ⟨some 11, none, (.mv (.t 3))⟩,
 ⟨some 12, none, (.mv (.t 4))⟩,
 ⟨some 13, none, (.bin .add false (.t 12) (.k (.v (.int .i64 1))))⟩,
 ⟨some 14, none, (.mv (.t 0))⟩,
 ⟨some 15, none, (.mv (.t 4))⟩,
 ⟨some 16, none, (.ixL 1 (.t 14) (.t 15))⟩,
 ⟨some 17, none, (.ld none (.t 16))⟩,
 ⟨some 18, none, (.cvI .i64 (.t 17))⟩,
 ⟨some 19, none, (.bin .mul false (.t 13) (.t 18))⟩,
 ⟨some 20, none, (.bin .add false (.t 11) (.t 19))⟩,
 ⟨some 21, none, (.bin .rem false (.t 20) (.k (.v (.int .i64 65521))))⟩,
 ⟨some 3, none, (.mv (.t 21))⟩]))
 (.reg 4 none [0, 3, 4] [
 ⟨some 9, none, (.mv (.t 4))⟩,
 ⟨some 10, none, (.bin .add false (.t 9) (.k (.v (.int .i64 1))))⟩,
 ⟨some 4, none, (.mv (.t 10))⟩]))))))
 (.seq
 (.reg 6 none [2] [
 ⟨some 22, none, (.mv (.t 3))⟩,
 ⟨some 2, none, (.mv (.t 22))⟩])
 .ret))))
theorem fn_ref23_Value : FnIR Try.prog F_ref23_Value 23 [(0, [0]), (1, [0, 3]), (2, [0, 3, 4]), (3, [0, 3, 4, 8]), (4, [0, 3, 4]), (5, [0, 3, 4]), (6, [2])] ir_ref23_Value [(.tmp 2)] :=
 ⟨Try.f63, _, Try.func63, rfl, by kernel_rfl, rfl, by kernel_rfl, by kernel_rfl⟩

/-- dataenclave/dataenclaveref23.number -/
def ir_ref23_number : RC :=
 (.seq
 (.reg 0 none [0] [
 ⟨some 2, none, (.mv (.k (.v (.int .i64 0))))⟩])
 (.seq
 (.reg 1 (some [0, 1, 3, 7, 15, 0, 32, 96, 224, 480, 1023, 0, 2048, 6144, 14336, 30720, 65535, 0, 131072, 393216, 917504, 2097151, 4194303]) [2] [
 ⟨some 3, none, (.mv (.t 0))⟩,
 ⟨some 4, none, (.ixL 1 (.t 3) (.k (.v (.int .i64 0))))⟩,
 ⟨some 5, none, (.ld none (.t 4))⟩,
 ⟨some 6, none, (.cvI .i64 (.t 5))⟩,
 ⟨some 7, none, (.bin .shl false (.t 6) (.k (.v (.int .u64 24))))⟩,
 ⟨some 8, none, (.mv (.t 0))⟩,
 ⟨some 9, none, (.ixL 1 (.t 8) (.k (.v (.int .i64 1))))⟩,
 ⟨some 10, none, (.ld none (.t 9))⟩,
 ⟨some 11, none, (.cvI .i64 (.t 10))⟩,
 ⟨some 12, none, (.bin .shl false (.t 11) (.k (.v (.int .u64 16))))⟩,
 ⟨some 13, none, (.bin .add false (.t 7) (.t 12))⟩,
 ⟨some 14, none, (.mv (.t 0))⟩,
 ⟨some 15, none, (.ixL 1 (.t 14) (.k (.v (.int .i64 2))))⟩,
 ⟨some 16, none, (.ld none (.t 15))⟩,
 ⟨some 17, none, (.cvI .i64 (.t 16))⟩,
 ⟨some 18, none, (.bin .shl false (.t 17) (.k (.v (.int .u64 8))))⟩,
 ⟨some 19, none, (.bin .add false (.t 13) (.t 18))⟩,
 ⟨some 20, none, (.mv (.t 0))⟩,
 ⟨some 21, none, (.ixL 1 (.t 20) (.k (.v (.int .i64 3))))⟩,
 ⟨some 22, none, (.ld none (.t 21))⟩,
 ⟨some 23, none, (.cvI .i64 (.t 22))⟩,
 ⟨some 24, none, (.bin .add false (.t 19) (.t 23))⟩,
 ⟨some 2, none, (.mv (.t 24))⟩])
 .ret))
theorem fn_ref23_number : FnIR Try.prog F_ref23_number 25 [(0, [0]), (1, [2])] ir_ref23_number [(.tmp 2)] :=
 ⟨Try.f64, _, Try.func64, rfl, by kernel_rfl, rfl, by kernel_rfl, by kernel_rfl⟩

/-- slices.Clone[[]byte,byte] -/
def ir_slices_Clone_byte : RC :=
 (.seq
 (.reg 0 none [0] [
 ⟨some 2, none, (.mv (.k (.v (.slice none 0 0))))⟩])
 (.seq
 (.seq
 (.reg 1 none [0, 4] [
 ⟨some 3, none, (.mv (.t 0))⟩,
 ⟨some 4, none, (.ext (.nilq false) [(.t 3), (.k (.v (.slice none 0 0)))])⟩])
 (.cond (.t 4)
 (.seq
 (.reg 2 none [2] [
 ⟨some 2, none, (.mv (.k (.v (.slice none 0 0))))⟩])
 .ret)
 .skip))
 (.seq
 (.reg 3 none [2] [
 ⟨some 5, none, (.bsl 1 0 [])⟩,
 ⟨some 6, none, (.mv (.t 0))⟩,
 ⟨some 7, none, (.app 1 1 false (.t 5) (.t 6))⟩,
 ⟨some 2, none, (.mv (.t 7))⟩])
 .ret)))
theorem fn_slices_Clone_byte : FnIR Try.prog F_slices_Clone_byte 8 [(0, [0]), (1, [0, 4]), (2, [2]), (3, [2])] ir_slices_Clone_byte [(.tmp 2)] :=
 ⟨Try.f65, _, Try.func65, rfl, by kernel_rfl, rfl, by kernel_rfl, by kernel_rfl⟩

/-- dataenclave/journal.copied -/
def ir_journal_copied : RC :=
 (.seq
 (.reg 0 none [1, 2] [
 ⟨some 1, none, (.box (.t 0))⟩,
 ⟨some 2, none, (.new (.agg [(.v (.slice none 0 0)), (.v (.slice none 0 0))]))⟩])
 (.seq
 (.reg 1 (some [0, 1, 3, 0, 8, 31, 63, 127]) [2] [
 ⟨some 3, none, (.fa 0 (.t 1))⟩,
 ⟨some 4, none, (.ld none (.t 3))⟩,
 ⟨some 5, none, (.call (.k (.clo F_slices_Clone_byte [])) [(.t 4)])⟩,
 ⟨some 6, none, (.fa 1 (.t 1))⟩,
 ⟨some 7, none, (.ld none (.t 6))⟩,
 ⟨some 8, none, (.call (.k (.clo F_slices_Clone_byte [])) [(.t 7)])⟩,
 ⟨some 9, none, (.build [(.v (.slice none 0 0)), (.v (.slice none 0 0))] [((0, 1), (.t 5)), ((1, 1), (.t 8))])⟩,
 ⟨none, none, (.st 2 (.t 2) (.t 9))⟩])
 .ret))
theorem fn_journal_copied : FnIR Try.prog F_journal_copied 10 [(0, [1, 2]), (1, [2])] ir_journal_copied [(.cell 2 (some 2))] :=
 ⟨Try.f66, _, Try.func66, rfl, by kernel_rfl, rfl, by kernel_rfl, by kernel_rfl⟩

/-- dataenclave/journal.Frame -/
def ir_journal_Frame : RC :=
 (.seq
 (.reg 0 none [0] [
 ⟨some 2, none, (.mv (.k (.v (.slice none 0 0))))⟩,
 ⟨some 3, none, (.mv (.k (.v (.int .i64 0))))⟩])
 (.seq
 (.seq
 (.reg 1 none [0, 7] [
 ⟨some 5, none, (.mv (.t 0))⟩,
 ⟨some 6, none, (.lenL (.t 5))⟩,
 ⟨some 7, none, (.bin .gtr false (.t 6) (.k (.v (.int .i64 4096))))⟩])
 (.cond (.t 7)
 (.seq
 (.reg 2 none [2, 3] [
 ⟨some 2, none, (.mv (.k (.v (.slice none 0 0))))⟩,
 ⟨some 3, none, (.mv (.k (.v (.int .i64 1))))⟩])
 .ret)
 .skip))
 (.seq
 (.reg 3 none [4] [
 ⟨some 8, none, (.mv (.t 0))⟩,
 ⟨some 9, none, (.lenL (.t 8))⟩,
 ⟨some 10, none, (.call (.k (.clo F_journal_put [])) [(.k (.v (.slice none 0 0))), (.t 9)])⟩,
 ⟨some 11, none, (.mv (.t 0))⟩,
 ⟨some 12, none, (.app 1 1 false (.t 10) (.t 11))⟩,
 ⟨some 4, none, (.mv (.t 12))⟩])
 (.seq
 (.reg 4 none [2, 3] [
 ⟨some 13, none, (.mv (.t 4))⟩,
 ⟨some 14, none, (.mv (.t 4))⟩,
 ⟨some 15, none, (.call (.k (.clo F_journal_check [])) [(.t 14)])⟩,
 ⟨some 16, none, (.call (.k (.clo F_journal_put [])) [(.t 13), (.t 15)])⟩,
 ⟨some 2, none, (.mv (.t 16))⟩,
 ⟨some 3, none, (.mv (.k (.v (.int .i64 0))))⟩])
 .ret))))
theorem fn_journal_Frame : FnIR Try.prog F_journal_Frame 17 [(0, [0]), (1, [0, 7]), (2, [2, 3]), (3, [4]), (4, [2, 3])] ir_journal_Frame [(.tmp 2), (.tmp 3)] :=
 ⟨Try.f67, _, Try.func67, rfl, by kernel_rfl, rfl, by kernel_rfl, by kernel_rfl⟩

/-- dataenclave/journal.Read -/
def ir_journal_Read : RC :=
 (.seq
 (.reg 0 none [0] [
 ⟨some 2, none, (.mv (.k (.v (.slice none 0 0))))⟩,
 ⟨some 3, none, (.mv (.k (.v (.int .i64 0))))⟩])
 (.scope
 (.seq
 (.reg 1 none [0, 4] [
 ⟨some 4, none, (.mv (.k (.v (.slice none 0 0))))⟩])
 (.seq
 (.reg 2 none [0, 4, 5] [
 ⟨some 5, none, (.mv (.k (.v (.int .i64 0))))⟩])
 (.seq
 .skip
 (.seq
 (.block 0
 (.loop
 (.block 1
 (.seq
 (.reg 3 none [0, 4, 5, 6] [
 ⟨some 8, none, (.mv (.t 0))⟩,
 ⟨some 9, none, (.mv (.t 5))⟩,
 ⟨some 10, none, (.slL 1 (.t 8) (some (.t 9)) none)⟩,
 ⟨some 6, none, (.mv (.t 10))⟩])
 (.seq
 (.seq
 (.reg 4 none [0, 4, 5, 6, 13] [
 ⟨some 11, none, (.mv (.t 6))⟩,
 ⟨some 12, none, (.lenL (.t 11))⟩,
 ⟨some 13, none, (.bin .lss false (.t 12) (.k (.v (.int .i64 8))))⟩])
 (.cond (.t 13)
 (.exit 0)
 .skip))
 (.seq
 (.reg 5 none [0, 4, 5, 6, 7] [
 ⟨some 14, none, (.mv (.t 6))⟩,
 ⟨some 15, none, (.call (.k (.clo F_journal_number [])) [(.t 14)])⟩,
 ⟨some 7, none, (.mv (.t 15))⟩])
 (.seq
 (.seq
 (.reg 6 (some [0, 1, 3, 7, 15, 7, 39, 127, 255, 511, 1023, 1023, 3071, 8191, 16383, 1023, 1023, 66559, 230399, 524287, 1048575, 2097151]) [0, 4, 5, 6, 7, 37] [
 ⟨some 16, none, (.mv (.t 7))⟩,
 ⟨some 17, none, (.bin .gtr false (.t 16) (.k (.v (.int .i64 4096))))⟩,
 ⟨some 18, none, (.mv (.t 17))⟩,
 ⟨some 19, some (18, false), (.mv (.t 6))⟩,
 ⟨some 20, some (18, false), (.lenL (.t 19))⟩,
 ⟨some 21, some (18, false), (.mv (.t 7))⟩,
 ⟨some 22, some (18, false), (.bin .add false (.t 21) (.k (.v (.int .i64 8))))⟩,
 ⟨some 23, some (18, false), (.bin .lss false (.t 20) (.t 22))⟩,
 ⟨some 24, none, (.pick (.t 18) (.k (.v (.bool true))) (.t 23))⟩,
 ⟨some 25, none, (.mv (.t 24))⟩,
 ⟨some 26, some (25, false), (.mv (.t 6))⟩,
 ⟨some 27, some (25, false), (.mv (.t 7))⟩,
 ⟨some 28, some (25, false), (.bin .add false (.k (.v (.int .i64 4))) (.t 27))⟩,
 ⟨some 29, some (25, false), (.slL 1 (.t 26) (some (.t 28)) none)⟩,
 ⟨some 30, some (25, false), (.call (.k (.clo F_journal_number [])) [(.t 29)])⟩,
 ⟨some 31, some (25, false), (.mv (.t 6))⟩,
 ⟨some 32, some (25, false), (.mv (.t 7))⟩,
 ⟨some 33, some (25, false), (.bin .add false (.k (.v (.int .i64 4))) (.t 32))⟩,
 ⟨some 34, some (25, false), (.slL 1 (.t 31) none (some (.t 33)))⟩,
 ⟨some 35, some (25, false), (.call (.k (.clo F_journal_check [])) [(.t 34)])⟩,
 ⟨some 36, some (25, false), (.bin .neq false (.t 30) (.t 35))⟩,
 ⟨some 37, none, (.pick (.t 25) (.k (.v (.bool true))) (.t 36))⟩])
 (.cond (.t 37)
 (.exit 0)
 .skip))
 (.seq
 (.reg 7 none [0, 4, 5, 7] [
 ⟨some 38, none, (.mv (.t 4))⟩,
 ⟨some 39, none, (.mv (.t 6))⟩,
 ⟨some 40, none, (.mv (.t 7))⟩,
 ⟨some 41, none, (.bin .add false (.k (.v (.int .i64 4))) (.t 40))⟩,
 ⟨some 42, none, (.slL 1 (.t 39) (some (.k (.v (.int .i64 4)))) (some (.t 41)))⟩,
 ⟨some 43, none, (.call (.k (.clo F_slices_Clone_byte [])) [(.t 42)])⟩,
 ⟨some 44, none, (.bsl 1 1 [(.t 43)])⟩,
 ⟨some 45, none, (.app 1 24 false (.t 38) (.t 44))⟩,
 ⟨some 4, none, (.mv (.t 45))⟩])
 (.reg 8 none [0, 4, 5] [
 ⟨some 46, none, (.mv (.t 5))⟩,
 ⟨some 47, none, (.mv (.t 7))⟩,
 ⟨some 48, none, (.bin .add false (.t 47) (.k (.v (.int .i64 8))))⟩,
 ⟨some 49, none, (.bin .add false (.t 46) (.t 48))⟩,
 ⟨some 5, none, (.mv (.t 49))⟩])))))))))
 (.seq
 (.reg 9 none [2, 3] [
 ⟨some 50, none, (.mv (.t 4))⟩,
 ⟨some 51, none, (.mv (.t 5))⟩,
 ⟨some 2, none, (.mv (.t 50))⟩,
 ⟨some 3, none, (.mv (.t 51))⟩])
 .ret)))))))
theorem fn_journal_Read : FnIR Try.prog F_journal_Read 52 [(0, [0]), (1, [0, 4]), (2, [0, 4, 5]), (3, [0, 4, 5, 6]), (4, [0, 4, 5, 6, 13]), (5, [0, 4, 5, 6, 7]), (6, [0, 4, 5, 6, 7, 37]), (7, [0, 4, 5, 7]), (8, [0, 4, 5]), (9, [2, 3])] ir_journal_Read [(.tmp 2), (.tmp 3)] :=
 ⟨Try.f68, _, Try.func68, rfl, by kernel_rfl, rfl, by kernel_rfl, by kernel_rfl⟩

/-- dataenclave/journal.joined -/
def ir_journal_joined : RC :=
 (.seq
 (.reg 0 none [0, 1] [
 ⟨some 4, none, (.mv (.k (.v (.slice none 0 0))))⟩])
 (.seq
 (.reg 1 none [4] [
 ⟨some 5, none, (.mv (.t 0))⟩,
 ⟨some 6, none, (.call (.k (.clo F_slices_Clone_byte [])) [(.t 5)])⟩,
 ⟨some 7, none, (.mv (.t 1))⟩,
 ⟨some 8, none, (.app 1 1 false (.t 6) (.t 7))⟩,
 ⟨some 4, none, (.mv (.t 8))⟩])
 .ret))
theorem fn_journal_joined : FnIR Try.prog F_journal_joined 9 [(0, [0, 1]), (1, [4])] ir_journal_joined [(.tmp 4)] :=
 ⟨Try.f69, _, Try.func69, rfl, by kernel_rfl, rfl, by kernel_rfl, by kernel_rfl⟩

/-- dataenclave/journal.Crash -/
def ir_journal_Crash : RC :=
 (.seq
 (.reg 0 none [1, 2, 4] [
 ⟨some 2, none, (.box (.t 0))⟩,
 ⟨some 4, none, (.new (.agg [(.v (.slice none 0 0)), (.v (.slice none 0 0))]))⟩])
 (.seq
 (.reg 1 none [1, 2, 4] [
 ⟨some 5, none, (.mv (.t 1))⟩,
 ⟨some 6, none, (.mx [(.k (.v (.int .i64 0))), (.t 5)])⟩,
 ⟨some 7, none, (.fa 1 (.t 2))⟩,
 ⟨some 8, none, (.ld none (.t 7))⟩,
 ⟨some 9, none, (.lenL (.t 8))⟩,
 ⟨some 10, none, (.mn [(.t 6), (.t 9)])⟩,
 ⟨some 1, none, (.mv (.t 10))⟩])
 (.seq
 (.reg 2 (some [0, 1, 0, 4, 0, 28, 63, 127, 255]) [4] [
 ⟨some 11, none, (.fa 0 (.t 2))⟩,
 ⟨some 12, none, (.ld none (.t 11))⟩,
 ⟨some 13, none, (.fa 1 (.t 2))⟩,
 ⟨some 14, none, (.ld none (.t 13))⟩,
 ⟨some 15, none, (.mv (.t 1))⟩,
 ⟨some 16, none, (.slL 1 (.t 14) none (some (.t 15)))⟩,
 ⟨some 17, none, (.call (.k (.clo F_journal_joined [])) [(.t 12), (.t 16)])⟩,
 ⟨some 18, none, (.build [(.v (.slice none 0 0)), (.v (.slice none 0 0))] [((0, 1), (.t 17))])⟩,
 ⟨none, none, (.st 2 (.t 4) (.t 18))⟩])
 .ret)))
theorem fn_journal_Crash : FnIR Try.prog F_journal_Crash 19 [(0, [1, 2, 4]), (1, [1, 2, 4]), (2, [4])] ir_journal_Crash [(.cell 4 (some 2))] :=
 ⟨Try.f70, _, Try.func70, rfl, by kernel_rfl, rfl, by kernel_rfl, by kernel_rfl⟩

/-- dataenclave/queue.number$1 -/
def ir_queue_number_1 : RC :=
 (.reg 0 none [] [
 ⟨some 5, none, (.mv (.t 0))⟩,
 ⟨some 6, none, (.ld none (.t 2))⟩,
 ⟨some 7, none, (.mv (.t 1))⟩,
 ⟨some 8, none, (.call (.t 6) [(.t 7)])⟩,
 ⟨some 9, none, (.nc (.t 8))⟩,
 ⟨some 10, none, (.ld none (.t 9))⟩,
 ⟨some 11, none, (.call (.k (.clo F_queue_writer_number [])) [(.t 5), (.t 10)])⟩])
theorem fn_queue_number_1 : FnIR Try.prog F_queue_number_1 12 [] ir_queue_number_1 [] :=
 ⟨Try.f71, _, Try.func71, rfl, by kernel_rfl, rfl, by kernel_rfl, by kernel_rfl⟩

/-- (*dataenclave/queue.writer).number -/
def ir_queue_writer_number : RC :=
 (.seq
 (.reg 0 none [0, 1, 4] [
 ⟨some 4, none, (.mv (.k (.v (.int .i64 4))))⟩])
 (.block 0
 (.loop
 (.seq
 (.seq
 (.reg 1 none [0, 1, 4, 6] [
 ⟨some 5, none, (.mv (.t 4))⟩,
 ⟨some 6, none, (.bin .geq false (.t 5) (.k (.v (.int .i64 0))))⟩])
 (.cond (.t 6)
 .skip
 (.exit 0)))
 (.seq
 (.block 1
 (.reg 3 (some [0, 0, 2, 6, 14, 0, 0, 64, 224, 480, 992, 2046, 4095, 8191, 16383]) [0, 1, 4] [
 ⟨some 9, none, (.mv (.t 0))⟩,
 ⟨some 10, none, (.mv (.t 0))⟩,
 ⟨some 11, none, (.nc (.t 10))⟩,
 ⟨some 12, none, (.fa 0 (.t 11))⟩,
 ⟨some 13, none, (.ld none (.t 12))⟩,
 ⟨some 14, none, (.mv (.t 1))⟩,
 ⟨some 15, none, (.mv (.t 4))⟩,
 ⟨some 16, none, (.bin .mul false (.k (.v (.int .i64 8))) (.t 15))⟩,
 ⟨some 17, none, (.bin .shr false (.t 14) (.t 16))⟩,
 ⟨some 18, none, (.cvI .u8 (.t 17))⟩,
 ⟨some 19, none, (.bsl 1 1 [(.t 18)])⟩,
 ⟨some 20, none, (.app 1 1 false (.t 13) (.t 19))⟩,
 ⟨some 21, none, (.nc (.t 9))⟩,
 ⟨some 22, none, (.fa 0 (.t 21))⟩,
 ⟨none, none, (.st 1 (.t 22) (.t 20))⟩]))
 (.reg 2 none [0, 1, 4] [
 ⟨some 7, none, (.mv (.t 4))⟩,
 ⟨some 8, none, (.bin .sub false (.t 7) (.k (.v (.int .i64 1))))⟩,
 ⟨some 4, none, (.mv (.t 8))⟩]))))))
theorem fn_queue_writer_number : FnIR Try.prog F_queue_writer_number 23 [(0, [0, 1, 4]), (1, [0, 1, 4, 6]), (2, [0, 1, 4]), (3, [0, 1, 4])] ir_queue_writer_number [] :=
 ⟨Try.f72, _, Try.func72, rfl, by kernel_rfl, rfl, by kernel_rfl, by kernel_rfl⟩

/-- dataenclave/queue.number$2 -/
def ir_queue_number_2 : RC :=
 (.reg 0 none [] [
 ⟨some 5, none, (.ld none (.t 2))⟩,
 ⟨some 6, none, (.mv (.t 1))⟩,
 ⟨some 7, none, (.call (.t 5) [(.t 6)])⟩,
 ⟨some 8, none, (.mv (.t 0))⟩,
 ⟨some 9, none, (.call (.k (.clo F_queue_reader_number [])) [(.t 8)])⟩,
 ⟨some 10, none, (.nc (.t 7))⟩,
 ⟨none, none, (.st 1 (.t 10) (.t 9))⟩])
theorem fn_queue_number_2 : FnIR Try.prog F_queue_number_2 11 [] ir_queue_number_2 [] :=
 ⟨Try.f73, _, Try.func73, rfl, by kernel_rfl, rfl, by kernel_rfl, by kernel_rfl⟩

/-- (*dataenclave/queue.reader).number -/
def ir_queue_reader_number : RC :=
 (.seq
 (.reg 0 none [0] [
 ⟨some 2, none, (.mv (.k (.v (.int .i64 0))))⟩])
 (.seq
 (.reg 1 none [0, 3] [
 ⟨some 3, none, (.mv (.k (.v (.int .i64 0))))⟩])
 (.seq
 (.seq
 (.reg 2 none [3, 7, 8, 9] [
 ⟨some 6, none, (.mv (.t 0))⟩,
 ⟨some 7, none, (.call (.k (.clo F_queue_reader_take [])) [(.t 6), (.k (.v (.int .i64 5)))])⟩,
 ⟨some 8, none, (.lenL (.t 7))⟩,
 ⟨some 9, none, (.mv (.k (.v (.int .i64 0))))⟩])
 (.block 0
 (.loop
 (.seq
 (.reg 3 none [3, 7, 8, 9, 10] [
 ⟨some 10, none, (.bin .lss false (.t 9) (.t 8))⟩])
 (.seq
 (.cond (.t 10)
 .skip
 (.exit 0))
 (.seq
 (.block 1
 (.seq
 (.reg 4 none [3, 5, 7, 8, 9] [
 ⟨some 11, none, (.ixL 1 (.t 7) (.t 9))⟩,
 ⟨some 12, none, (.ld none (.t 11))⟩,
 ⟨some 5, none, (.mv (.t 12))⟩])
 (.reg 5 none [3, 7, 8, 9] [
 ⟨some 13, none, (.mv (.t 3))⟩,
 ⟨some 14, none, (.bin .shl false (.t 13) (.k (.v (.int .u64 8))))⟩,
 ⟨some 15, none, (.mv (.t 5))⟩,
 ⟨some 16, none, (.cvI .i64 (.t 15))⟩,
 ⟨some 17, none, (.bin .or false (.t 14) (.t 16))⟩,
 ⟨some 3, none, (.mv (.t 17))⟩])))
 (.reg 6 none [3, 7, 8, 9] [
 ⟨some 18, none, (.bin .add false (.t 9) (.k (.v (.int .i64 1))))⟩,
 ⟨some 9, none, (.mv (.t 18))⟩])))))))
 (.seq
 (.reg 7 none [2] [
 ⟨some 19, none, (.mv (.t 3))⟩,
 ⟨some 2, none, (.mv (.t 19))⟩])
 .ret))))
theorem fn_queue_reader_number : FnIR Try.prog F_queue_reader_number 20 [(0, [0]), (1, [0, 3]), (2, [3, 7, 8, 9]), (3, [3, 7, 8, 9, 10]), (4, [3, 5, 7, 8, 9]), (5, [3, 7, 8, 9]), (6, [3, 7, 8, 9]), (7, [2])] ir_queue_reader_number [(.tmp 2)] :=
 ⟨Try.f74, _, Try.func74, rfl, by kernel_rfl, rfl, by kernel_rfl, by kernel_rfl⟩

/-- dataenclave/queue.text$1 -/
def ir_queue_text_1 : RC :=
 (.reg 0 none [] [
 ⟨some 5, none, (.mv (.t 0))⟩,
 ⟨some 6, none, (.ld none (.t 2))⟩,
 ⟨some 7, none, (.mv (.t 1))⟩,
 ⟨some 8, none, (.call (.t 6) [(.t 7)])⟩,
 ⟨some 9, none, (.nc (.t 8))⟩,
 ⟨some 10, none, (.ld none (.t 9))⟩,
 ⟨some 11, none, (.call (.k (.clo F_queue_writer_text [])) [(.t 5), (.t 10)])⟩])
theorem fn_queue_text_1 : FnIR Try.prog F_queue_text_1 12 [] ir_queue_text_1 [] :=
 ⟨Try.f75, _, Try.func75, rfl, by kernel_rfl, rfl, by kernel_rfl, by kernel_rfl⟩

/-- (*dataenclave/queue.writer).text -/
def ir_queue_writer_text : RC :=
 (.seq
 (.reg 0 none [0, 1] [
 ⟨some 4, none, (.mv (.t 0))⟩,
 ⟨some 5, none, (.mv (.t 1))⟩,
 ⟨some 6, none, (.lenS (.t 5))⟩,
 ⟨some 7, none, (.call (.k (.clo F_queue_writer_number [])) [(.t 4), (.t 6)])⟩])
 (.reg 1 none [] [
 ⟨some 8, none, (.mv (.t 0))⟩,
 ⟨some 9, none, (.mv (.t 0))⟩,
 ⟨some 10, none, (.nc (.t 9))⟩,
 ⟨some 11, none, (.fa 0 (.t 10))⟩,
 ⟨some 12, none, (.ld none (.t 11))⟩,
 ⟨some 13, none, (.mv (.t 1))⟩,
 ⟨some 14, none, (.app 1 1 true (.t 12) (.t 13))⟩,
 ⟨some 15, none, (.nc (.t 8))⟩,
 ⟨some 16, none, (.fa 0 (.t 15))⟩,
 ⟨none, none, (.st 1 (.t 16) (.t 14))⟩]))
theorem fn_queue_writer_text : FnIR Try.prog F_queue_writer_text 17 [(0, [0, 1])] ir_queue_writer_text [] :=
 ⟨Try.f76, _, Try.func76, rfl, by kernel_rfl, rfl, by kernel_rfl, by kernel_rfl⟩

/-- dataenclave/queue.text$2 -/
def ir_queue_text_2 : RC :=
 (.reg 0 none [] [
 ⟨some 5, none, (.ld none (.t 2))⟩,
 ⟨some 6, none, (.mv (.t 1))⟩,
 ⟨some 7, none, (.call (.t 5) [(.t 6)])⟩,
 ⟨some 8, none, (.mv (.t 0))⟩,
 ⟨some 9, none, (.call (.k (.clo F_queue_reader_text [])) [(.t 8)])⟩,
 ⟨some 10, none, (.nc (.t 7))⟩,
 ⟨none, none, (.st 1 (.t 10) (.t 9))⟩])
theorem fn_queue_text_2 : FnIR Try.prog F_queue_text_2 11 [] ir_queue_text_2 [] :=
 ⟨Try.f77, _, Try.func77, rfl, by kernel_rfl, rfl, by kernel_rfl, by kernel_rfl⟩

/-- (*dataenclave/queue.reader).text -/
def ir_queue_reader_text : RC :=
 (.seq
 (.reg 0 none [0] [
 ⟨some 2, none, (.mv (.k (.v (.string ⟨#[]⟩))))⟩])
 (.seq
 (.reg 1 none [2] [
 ⟨some 3, none, (.mv (.t 0))⟩,
 ⟨some 4, none, (.mv (.t 0))⟩,
 ⟨some 5, none, (.call (.k (.clo F_queue_reader_number [])) [(.t 4)])⟩,
 ⟨some 6, none, (.call (.k (.clo F_queue_reader_take [])) [(.t 3), (.t 5)])⟩,
 ⟨some 7, none, (.cvBS (.t 6))⟩,
 ⟨some 2, none, (.mv (.t 7))⟩])
 .ret))
theorem fn_queue_reader_text : FnIR Try.prog F_queue_reader_text 8 [(0, [0]), (1, [2])] ir_queue_reader_text [(.tmp 2)] :=
 ⟨Try.f78, _, Try.func78, rfl, by kernel_rfl, rfl, by kernel_rfl, by kernel_rfl⟩

/-- dataenclave/journal.put -/
def ir_journal_put : RC :=
 (.seq
 (.reg 0 none [0, 1] [
 ⟨some 4, none, (.mv (.k (.v (.slice none 0 0))))⟩])
 (.seq
 (.reg 1 none [4] [
 ⟨some 5, none, (.mv (.t 0))⟩,
 ⟨some 6, none, (.mv (.t 1))⟩,
 ⟨some 7, none, (.bin .shr false (.t 6) (.k (.v (.int .u64 24))))⟩,
 ⟨some 8, none, (.cvI .u8 (.t 7))⟩,
 ⟨some 9, none, (.mv (.t 1))⟩,
 ⟨some 10, none, (.bin .shr false (.t 9) (.k (.v (.int .u64 16))))⟩,
 ⟨some 11, none, (.cvI .u8 (.t 10))⟩,
 ⟨some 12, none, (.mv (.t 1))⟩,
 ⟨some 13, none, (.bin .shr false (.t 12) (.k (.v (.int .u64 8))))⟩,
 ⟨some 14, none, (.cvI .u8 (.t 13))⟩,
 ⟨some 15, none, (.mv (.t 1))⟩,
 ⟨some 16, none, (.cvI .u8 (.t 15))⟩,
 ⟨some 17, none, (.bsl 1 4 [(.t 8), (.t 11), (.t 14), (.t 16)])⟩,
 ⟨some 18, none, (.app 1 1 false (.t 5) (.t 17))⟩,
 ⟨some 4, none, (.mv (.t 18))⟩])
 .ret))
theorem fn_journal_put : FnIR Try.prog F_journal_put 19 [(0, [0, 1]), (1, [4])] ir_journal_put [(.tmp 4)] :=
 ⟨Try.f79, _, Try.func79, rfl, by kernel_rfl, rfl, by kernel_rfl, by kernel_rfl⟩

/-- dataenclave/journal.check -/
def ir_journal_check : RC :=
 (.seq
 (.reg 0 none [0] [
 ⟨some 2, none, (.mv (.k (.v (.int .i64 0))))⟩])
 (.seq
 (.reg 1 none [0, 3] [
 ⟨some 3, none, (.mv (.k (.v (.int .i64 0))))⟩])
 (.seq
 (.seq
 (.reg 2 none [3, 6, 7, 8] [
 ⟨some 6, none, (.mv (.t 0))⟩,
 ⟨some 7, none, (.lenL (.t 6))⟩,
 ⟨some 8, none, (.mv (.k (.v (.int .i64 0))))⟩])
 (.block 0
 (.loop
 (.seq
 (.reg 3 none [3, 6, 7, 8, 9] [
 ⟨some 9, none, (.bin .lss false (.t 8) (.t 7))⟩])
 (.seq
 (.cond (.t 9)
 .skip
 (.exit 0))
 (.seq
 (.block 1
 (.seq
 (.reg 4 none [3, 4, 5, 6, 7, 8] [
 ⟨some 10, none, (.mv (.t 8))⟩,
 ⟨some 11, none, (.ixL 1 (.t 6) (.t 8))⟩,
 ⟨some 12, none, (.ld none (.t 11))⟩,
 ⟨some 4, none, (.mv (.t 10))⟩,
 ⟨some 5, none, (.mv (.t 12))⟩])
 (.reg 5 none [3, 6, 7, 8] [
 ⟨some 13, none, (.mv (.t 3))⟩,
 ⟨some 14, none, (.mv (.t 4))⟩,
 ⟨some 15, none, (.bin .add false (.t 14) (.k (.v (.int .i64 1))))⟩,
 ⟨some 16, none, (.mv (.t 5))⟩,
 ⟨some 17, none, (.cvI .i64 (.t 16))⟩,
 ⟨some 18, none, (.bin .mul false (.t 15) (.t 17))⟩,
 ⟨some 19, none, (.bin .add false (.t 13) (.t 18))⟩,
 ⟨some 3, none, (.mv (.t 19))⟩])))
 (.reg 6 none [3, 6, 7, 8] [
 ⟨some 20, none, (.bin .add false (.t 8) (.k (.v (.int .i64 1))))⟩,
 ⟨some 8, none, (.mv (.t 20))⟩])))))))
 (.seq
 (.reg 7 none [2] [
 ⟨some 21, none, (.mv (.t 3))⟩,
 ⟨some 22, none, (.bin .rem false (.t 21) (.k (.v (.int .i64 65521))))⟩,
 ⟨some 2, none, (.mv (.t 22))⟩])
 .ret))))
theorem fn_journal_check : FnIR Try.prog F_journal_check 23 [(0, [0]), (1, [0, 3]), (2, [3, 6, 7, 8]), (3, [3, 6, 7, 8, 9]), (4, [3, 4, 5, 6, 7, 8]), (5, [3, 6, 7, 8]), (6, [3, 6, 7, 8]), (7, [2])] ir_journal_check [(.tmp 2)] :=
 ⟨Try.f80, _, Try.func80, rfl, by kernel_rfl, rfl, by kernel_rfl, by kernel_rfl⟩

/-- dataenclave/journal.number -/
def ir_journal_number : RC :=
 (.seq
 (.reg 0 none [0] [
 ⟨some 2, none, (.mv (.k (.v (.int .i64 0))))⟩])
 (.seq
 (.reg 1 (some [0, 1, 3, 7, 15, 0, 32, 96, 224, 480, 1023, 0, 2048, 6144, 14336, 30720, 65535, 0, 131072, 393216, 917504, 2097151, 4194303]) [2] [
 ⟨some 3, none, (.mv (.t 0))⟩,
 ⟨some 4, none, (.ixL 1 (.t 3) (.k (.v (.int .i64 0))))⟩,
 ⟨some 5, none, (.ld none (.t 4))⟩,
 ⟨some 6, none, (.cvI .i64 (.t 5))⟩,
 ⟨some 7, none, (.bin .shl false (.t 6) (.k (.v (.int .u64 24))))⟩,
 ⟨some 8, none, (.mv (.t 0))⟩,
 ⟨some 9, none, (.ixL 1 (.t 8) (.k (.v (.int .i64 1))))⟩,
 ⟨some 10, none, (.ld none (.t 9))⟩,
 ⟨some 11, none, (.cvI .i64 (.t 10))⟩,
 ⟨some 12, none, (.bin .shl false (.t 11) (.k (.v (.int .u64 16))))⟩,
 ⟨some 13, none, (.bin .or false (.t 7) (.t 12))⟩,
 ⟨some 14, none, (.mv (.t 0))⟩,
 ⟨some 15, none, (.ixL 1 (.t 14) (.k (.v (.int .i64 2))))⟩,
 ⟨some 16, none, (.ld none (.t 15))⟩,
 ⟨some 17, none, (.cvI .i64 (.t 16))⟩,
 ⟨some 18, none, (.bin .shl false (.t 17) (.k (.v (.int .u64 8))))⟩,
 ⟨some 19, none, (.bin .or false (.t 13) (.t 18))⟩,
 ⟨some 20, none, (.mv (.t 0))⟩,
 ⟨some 21, none, (.ixL 1 (.t 20) (.k (.v (.int .i64 3))))⟩,
 ⟨some 22, none, (.ld none (.t 21))⟩,
 ⟨some 23, none, (.cvI .i64 (.t 22))⟩,
 ⟨some 24, none, (.bin .or false (.t 19) (.t 23))⟩,
 ⟨some 2, none, (.mv (.t 24))⟩])
 .ret))
theorem fn_journal_number : FnIR Try.prog F_journal_number 25 [(0, [0]), (1, [2])] ir_journal_number [(.tmp 2)] :=
 ⟨Try.f81, _, Try.func81, rfl, by kernel_rfl, rfl, by kernel_rfl, by kernel_rfl⟩

/-- (*dataenclave/queue.reader).take -/
def ir_queue_reader_take : RC :=
 (.seq
 (.reg 0 none [0, 1] [
 ⟨some 4, none, (.mv (.k (.v (.slice none 0 0))))⟩])
 (.seq
 (.seq
 (.reg 1 none [0, 1, 18] [
 ⟨some 6, none, (.mv (.t 0))⟩,
 ⟨some 7, none, (.nc (.t 6))⟩,
 ⟨some 8, none, (.fa 1 (.t 7))⟩,
 ⟨some 9, none, (.ld none (.t 8))⟩,
 ⟨some 10, none, (.mv (.t 9))⟩,
 ⟨some 11, some (10, false), (.mv (.t 1))⟩,
 ⟨some 12, some (10, false), (.mv (.t 0))⟩,
 ⟨some 13, some (10, false), (.nc (.t 12))⟩,
 ⟨some 14, some (10, false), (.fa 0 (.t 13))⟩,
 ⟨some 15, some (10, false), (.ld none (.t 14))⟩,
 ⟨some 16, some (10, false), (.lenL (.t 15))⟩,
 ⟨some 17, some (10, false), (.bin .gtr false (.t 11) (.t 16))⟩,
 ⟨some 18, none, (.pick (.t 10) (.k (.v (.bool true))) (.t 17))⟩])
 (.cond (.t 18)
 (.seq
 (.reg 2 none [] [
 ⟨some 19, none, (.mv (.t 0))⟩,
 ⟨some 20, none, (.nc (.t 19))⟩,
 ⟨some 21, none, (.fa 1 (.t 20))⟩,
 ⟨none, none, (.st 1 (.t 21) (.k (.v (.bool true))))⟩])
 (.seq
 (.reg 3 none [4] [
 ⟨some 4, none, (.mv (.k (.v (.slice none 0 0))))⟩])
 .ret))
 .skip))
 (.seq
 (.reg 4 none [0, 1, 5] [
 ⟨some 22, none, (.mv (.t 0))⟩,
 ⟨some 23, none, (.nc (.t 22))⟩,
 ⟨some 24, none, (.fa 0 (.t 23))⟩,
 ⟨some 25, none, (.ld none (.t 24))⟩,
 ⟨some 26, none, (.mv (.t 1))⟩,
 ⟨some 27, none, (.slL 1 (.t 25) none (some (.t 26)))⟩,
 ⟨some 5, none, (.mv (.t 27))⟩])
 (.seq
 (.reg 5 none [5] [
 ⟨some 28, none, (.mv (.t 0))⟩,
 ⟨some 29, none, (.mv (.t 0))⟩,
 ⟨some 30, none, (.nc (.t 29))⟩,
 ⟨some 31, none, (.fa 0 (.t 30))⟩,
 ⟨some 32, none, (.ld none (.t 31))⟩,
 ⟨some 33, none, (.mv (.t 1))⟩,
 ⟨some 34, none, (.slL 1 (.t 32) (some (.t 33)) none)⟩,
 ⟨some 35, none, (.nc (.t 28))⟩,
 ⟨some 36, none, (.fa 0 (.t 35))⟩,
 ⟨none, none, (.st 1 (.t 36) (.t 34))⟩])
 (.seq
 (.reg 6 none [4] [
 ⟨some 37, none, (.mv (.t 5))⟩,
 ⟨some 4, none, (.mv (.t 37))⟩])
 .ret)))))
theorem fn_queue_reader_take : FnIR Try.prog F_queue_reader_take 38 [(0, [0, 1]), (1, [0, 1, 18]), (3, [4]), (4, [0, 1, 5]), (5, [5]), (6, [4])] ir_queue_reader_take [(.tmp 4)] :=
 ⟨Try.f82, _, Try.func82, rfl, by kernel_rfl, rfl, by kernel_rfl, by kernel_rfl⟩

end Go.Proofs


