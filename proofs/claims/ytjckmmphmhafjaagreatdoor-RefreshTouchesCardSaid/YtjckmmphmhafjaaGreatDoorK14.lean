/- A part of the proof: Ir. -/
import Derived.WalkKit
import Derived.Still
import Derived.MapKept
import GoSem.Builtin.Cap
import Derived.Laws.Externs
import GoSem.Extern.SlicesOverlaps
import Derived.Carry
import Derived.ProofKit
import Derived.OpenShut
import Derived.HandedShaped
import Derived.Lay
import Derived.LaidLaws
import Derived.MakeChecks
import Derived.SevenTiedAt
import Derived.Test.YtjckmmphmhafjaaGreatDoorChecked
import Derived.Test.YtjckmmphmhafjaaGreatDoorK13
namespace Go.Proofs
open Go.TL
abbrev qm (d a:Nat):ROp:=.r d (.mv (.t a))
abbrev ql (d a:Nat):ROp:=.r d (.ld none (.t a))
abbrev qL (d l a:Nat):ROp:=.r d (.ld (some l) (.t a))
abbrev qf (d k a:Nat):ROp:=.r d (.fa k (.t a))
abbrev qx (d k a b:Nat):ROp:=.r d (.ixL k (.t a) (.t b))
abbrev qn (d a:Nat):ROp:=.r d (.lenL (.t a))
abbrev qi (d:Nat) (n:Int):ROp:=.r d (.mv (.k (.v (.int .i64 n))))
abbrev qa (d a:Nat):ROp:=.r d (.bin .add false (.t a) (.k (.v (.int .i64 1))))
abbrev qb (d:Nat) (o:BinOp) (a b:Nat):ROp:=.r d (.bin o false (.t a) (.t b))
abbrev qB (d:Nat) (o:BinOp) (a:Nat) (n:Int):ROp:=.r d (.bin o false (.t a) (.k (.v (.int .i64 n))))
abbrev qmt (d g a:Nat):ROp:=.rt d g (.mv (.t a))
abbrev qmf (d g a:Nat):ROp:=.rf d g (.mv (.t a))
abbrev qlt (d g a:Nat):ROp:=.rt d g (.ld none (.t a))
abbrev qlf (d g a:Nat):ROp:=.rf d g (.ld none (.t a))
abbrev qft (d g k a:Nat):ROp:=.rt d g (.fa k (.t a))
abbrev qff (d g k a:Nat):ROp:=.rf d g (.fa k (.t a))
abbrev qc (d:Nat) (b:Bool):ROp:=.r d (.mv (.k (.v (.bool b))))
abbrev qp (d a b:Nat):ROp:=.r d (.pick (.t a) (.t b) (.k (.v (.bool false))))
abbrev qP (d a b:Nat):ROp:=.r d (.pick (.t a) (.k (.v (.bool true))) (.t b))
abbrev qs (l a b:Nat):ROp:=.rn (.st l (.t a) (.t b))
abbrev qC (d:Nat) (f:FuncId) (l:List RV):ROp:=.r d (.call (.k (.clo f [])) l)
abbrev qq (t:Nat) (a b:RC):RC:=.cond (.t t) a b
abbrev qI (n:Int):RV:=.k (.v (.int .i64 n))
abbrev qN:RV:=.k (.v (.slice none 0 0))
theorem qF {P:Program} {f:FuncId} {n:Nat} {kss:List (Nat×List Nat)} {rc:RC} {rs:List RR} {fn:Func} {c:Code} (h:P.funcs[f]?=some fn) (h1:fn.body=some c:=by rfl) (h2:goFn P f=true:=by kernel_rfl) (h3:fn.ntmps=n:=by rfl) (h4:rsvC P n kss c=some rc:=by kernel_rfl) (h5:rsvRes P fn.results.toList=some rs:=by kernel_rfl):FnIR P f n kss rc rs:=⟨fn,c,h,h1,h2,h3,h4,h5⟩
abbrev F_law14_RefreshTouches:FuncId:=8
abbrev F_law14_awake:FuncId:=9
abbrev F_law14_two:FuncId:=10
abbrev F_refresh_Diff:FuncId:=11
abbrev F_refresh_Apply:FuncId:=15
abbrev F_ref13_Same:FuncId:=17
abbrev F_draw_New:FuncId:=18
abbrev F_draw_Codes_Source:FuncId:=19
abbrev F_draw_Codes_Declaration:FuncId:=20
abbrev F_ref10_Plan:FuncId:=21
abbrev F_draw_Codes_Secret:FuncId:=22
abbrev F_draw_Codes_Edits:FuncId:=23
abbrev F_ref04_At:FuncId:=24
abbrev F_ref13_Build:FuncId:=25
abbrev F_refresh_Keys:FuncId:=26
abbrev F_refresh_Stale:FuncId:=27
abbrev F_ref01_Ints:FuncId:=28
abbrev F_refresh_Touched:FuncId:=31
abbrev F_ref01_Has:FuncId:=33
abbrev F_ref12_Id:FuncId:=34
abbrev F_refresh_ordered:FuncId:=35
abbrev F_slices_Equal_Pick:FuncId:=36
abbrev F_refresh_find:FuncId:=37
abbrev F_slices_Equal_int:FuncId:=38
abbrev F_slices_Clone_int:FuncId:=39
abbrev F_ref02_SamePicks:FuncId:=41
abbrev F_ref01_Rows:FuncId:=43
abbrev F_refresh_Apply_1:FuncId:=44
abbrev F_refresh_ascends:FuncId:=45
abbrev F_slices_ContainsFunc_Lint:FuncId:=46
abbrev F_slices_Contains_int:FuncId:=47
abbrev F_slices_Clone_Pick:FuncId:=48
abbrev F_slices_Insert_Lint:FuncId:=49
abbrev F_ref04_Put:FuncId:=50
abbrev F_draw_Codes_Schema:FuncId:=51
abbrev F_draw_Codes_Next:FuncId:=52
abbrev F_draw_Codes_Row:FuncId:=53
abbrev F_strconv_Itoa:FuncId:=54
abbrev F_draw_Codes_Cond:FuncId:=55
abbrev F_draw_Codes_One:FuncId:=56
abbrev F_draw_Codes_Range:FuncId:=57
abbrev F_draw_Codes_Question:FuncId:=58
abbrev F_ref08_Check:FuncId:=59
abbrev F_ref09_Needs:FuncId:=60
abbrev F_ref05_Raise:FuncId:=61
abbrev F_draw_Codes_Edit:FuncId:=62
abbrev F_ref04_Apply:FuncId:=63
abbrev F_ref04_Valid:FuncId:=64
abbrev F_ref10_Check:FuncId:=65
abbrev F_ref13_Owners:FuncId:=66
abbrev F_ref04_Find:FuncId:=67
abbrev F_ref12_Key:FuncId:=68
abbrev F_ref02_Coarse:FuncId:=69
abbrev F_refresh_set:FuncId:=70
abbrev F_slices_ContainsFunc_int:FuncId:=71
abbrev F_refresh_Stale_1:FuncId:=72
abbrev F_ref01_Put:FuncId:=73
abbrev F_source_Touched:FuncId:=74
abbrev F_pseudonym_Key:FuncId:=75
abbrev F_ref12_right:FuncId:=77
abbrev F_ref12_Round:FuncId:=78
abbrev F_slices_BinarySearchFunc_LLint_Lint_int:FuncId:=79
abbrev F_refresh_find_1:FuncId:=80
abbrev F_slices_IndexFunc_Lint:FuncId:=81
abbrev F_slices_Index_int:FuncId:=82
abbrev F_slices_rotateRight_Lint:FuncId:=84
abbrev F_draw_Codes_List:FuncId:=85
abbrev F_draw_Codes_Measure:FuncId:=86
abbrev F_draw_Codes_Value:FuncId:=87
abbrev F_internal_strconv_Itoa:FuncId:=88
abbrev F_draw_Codes_Coded:FuncId:=89
abbrev F_draw_Codes_Measured:FuncId:=90
abbrev F_draw_Codes_Terms:FuncId:=91
abbrev F_draw_Codes_Dims:FuncId:=92
abbrev F_ref02_Check:FuncId:=93
abbrev F_ref01_Name:FuncId:=94
abbrev F_ref05_Check:FuncId:=95
abbrev F_ref08_Question:FuncId:=96
abbrev F_ref05_Needs:FuncId:=97
abbrev F_ref02_Least:FuncId:=98
abbrev F_ref09_Uses:FuncId:=99
abbrev F_ref02_Finest:FuncId:=100
abbrev F_ref02_Row:FuncId:=101
abbrev F_ref04_Drop:FuncId:=102
abbrev F_ref02_Picks:FuncId:=103
abbrev F_ref09_Suffice:FuncId:=104
abbrev F_ref05_Eval:FuncId:=105
abbrev F_ref11_In:FuncId:=106
abbrev F_ref02_in:FuncId:=107
abbrev F_ref02_Holds:FuncId:=108
abbrev F_ref01_Up:FuncId:=109
abbrev F_ref02_Width:FuncId:=110
abbrev F_ref02_Floor:FuncId:=111
abbrev F_slices_Sort_int:FuncId:=112
abbrev F_slices_Compact_int:FuncId:=113
abbrev F_slices_IndexFunc_int:FuncId:=114
abbrev F_pseudonym_right:FuncId:=115
abbrev F_pseudonym_mix:FuncId:=116
abbrev F_ref02_Leaves:FuncId:=118
abbrev F_internal_strconv_FormatInt:FuncId:=119
abbrev F_draw_columns:FuncId:=120
abbrev F_ref01_Check:FuncId:=121
abbrev F_ref02_column:FuncId:=122
abbrev F_ref05_count:FuncId:=123
abbrev F_ref05_depth:FuncId:=124
abbrev F_ref05_node:FuncId:=125
abbrev F_ref08_parts:FuncId:=126
abbrev F_ref08_zero:FuncId:=127
abbrev F_ref05_Atoms:FuncId:=128
abbrev F_ref05_decides:FuncId:=129
abbrev F_ref02_divides:FuncId:=130
abbrev F_ref01_Levels:FuncId:=131
abbrev F_ref02_Pick:FuncId:=132
abbrev F_ref05_Covers:FuncId:=133
abbrev F_ref05_eval:FuncId:=134
abbrev F_ref11_Check:FuncId:=135
abbrev F_ref11_Draw:FuncId:=136
abbrev F_ref01_Level:FuncId:=137
abbrev F_ref01_depth:FuncId:=138
abbrev F_slices_pdqsortOrdered_int:FuncId:=139
abbrev F_math_bits_Len:FuncId:=140
abbrev F_ref01_At:FuncId:=142
abbrev F_internal_strconv_small:FuncId:=143
abbrev F_internal_strconv_numDigits:FuncId:=144
abbrev F_internal_strconv_formatBits:FuncId:=146
abbrev F_ref01_leaf:FuncId:=147
abbrev F_ref02_measure:FuncId:=148
abbrev F_ref05_is:FuncId:=149
abbrev F_ref08_Is:FuncId:=150
abbrev F_ref08_Dims:FuncId:=151
abbrev F_ref08_Terms:FuncId:=152
abbrev F_ref05_Same:FuncId:=153
abbrev F_ref05_Atom:FuncId:=154
abbrev F_ref05_join:FuncId:=155
abbrev F_slices_insertionSortOrdered_int:FuncId:=156
abbrev F_slices_heapSortOrdered_int:FuncId:=157
abbrev F_slices_breakPatternsOrdered_int:FuncId:=158
abbrev F_slices_choosePivotOrdered_int:FuncId:=159
abbrev F_slices_reverseRangeOrdered_int:FuncId:=160
abbrev F_slices_partialInsertionSortOrdered_int:FuncId:=161
abbrev F_cmp_Less_int:FuncId:=162
abbrev F_slices_partitionEqualOrdered_int:FuncId:=163
abbrev F_slices_partitionOrdered_int:FuncId:=164
abbrev F_math_bits_Len32:FuncId:=165
abbrev F_math_bits_Len64:FuncId:=166
abbrev F_ref01_Under:FuncId:=171
abbrev F_cmp_isNaN_int:FuncId:=177
abbrev F_slices_overlaps_Lint:FuncId:=83
def ir_law14_RefreshTouches:RC:=
 (.seq
 (.reg 0 none [0,1] [
 qc 4 false])
 (.seq
 (.seq
 (.reg 1 none [0,1,19] [
 qm 17 1,
 qn 18 17,
 qB 19 .gtr 18 50])
 (qq 19
 (.seq
 (.reg 2 none [4] [
 qC 20 F_law14_awake [],
 qm 4 20])
 .ret)
 .skip))
 (.seq
 (.reg 3 none [1,5,6,7,8] [
 qm 22 0,
 qC 23 F_law14_two [.t 22],
 qm 21 23,
 .r 24 (.ex (.t 21) 0),
 .r 25 (.ex (.t 21) 1),
 .r 26 (.ex (.t 21) 2),
 .r 27 (.ex (.t 21) 3),
 .r 5 (.new (.agg [.v (.string ⟨#[]⟩),.v (.int .i64 0),.v (.slice none 0 0),.v (.slice none 0 0)])),
 .r 6 (.new (.agg [.v (.string ⟨#[]⟩),.v (.int .i64 0),.v (.slice none 0 0),.v (.slice none 0 0)])),
 qs 4 5 24,
 qs 4 6 25,
 qm 7 26,
 qm 8 27])
 (.seq
 (.reg 4 none [1,7,8,9,10] [
 qL 29 4 5,
 qL 30 4 6,
 qC 31 F_refresh_Diff [.t 29,.t 30],
 qm 28 31,
 .r 32 (.ex (.t 28) 0),
 .r 33 (.ex (.t 28) 1),
 .r 9 (.new (.agg [.v (.int .i64 0),.v (.slice none 0 0),.v (.slice none 0 0)])),
 qs 3 9 32,
 qm 10 33])
 (.seq
 (.seq
 (.reg 5 none [1,7,8,9,35] [
 qm 34 10,
 qB 35 .neq 34 0])
 (qq 35
 (.seq
 (.reg 6 none [4] [
 qc 4 false])
 .ret)
 .skip))
 (.seq
 (.reg 7 none [1,8,9,11] [
 qm 36 7,
 qm 37 7,
 qn 38 37,
 qm 39 8,
 qC 40 F_refresh_Touched [.t 36,qI 0,.t 38,.t 39],
 qm 11 40])
 (.seq
 (.seq
 (.reg 8 none [1,8,9,11,42,43,44] [
 qL 41 3 9,
 qC 42 F_refresh_Keys [.t 41],
 qn 43 42,
 qi 44 0])
 (.block 0
 (.loop
 (.seq
 (.reg 9 none [1,8,9,11,42,43,44,45] [
 qb 45 .lss 44 43])
 (.seq
 (qq 45
 .skip
 (.exit 0))
 (.seq
 (.block 1
 (.seq
 (.reg 10 none [1,8,9,11,13,42,43,44] [
 qx 46 1 42 44,
 ql 47 46,
 qm 13 47])
 (.seq
 (.reg 11 none [1,8,9,11,42,43,44,57] [
 qm 48 11,
 qm 49 13,
 qC 50 F_ref01_Has [.t 48,.t 49],
 .r 51 (.un .not (.t 50)),
 qm 52 51,
 qmf 53 52 8,
 qmf 54 52 13,
 .rf 55 52 (.call (.k (.clo F_ref12_Id [])) [.t 53,.t 54]),
 .rf 56 52 (.bin .lss false (.t 55) (qI 1)),
 qP 57 52 56])
 (qq 57
 (.seq
 (.reg 12 none [4] [
 qc 4 false])
 .ret)
 .skip))))
 (.reg 13 none [1,8,9,11,42,43,44] [
 qa 58 44,
 qm 44 58])))))))
 (.seq
 (.reg 14 none [1,9,11,14] [
 qc 14 false])
 (.seq
 (.seq
 (.reg 15 none [1,9,11,14,59,60,61] [
 qm 59 1,
 qn 60 59,
 qi 61 0])
 (.block 2
 (.loop
 (.seq
 (.reg 16 none [1,9,11,14,59,60,61,62] [
 qb 62 .lss 61 60])
 (.seq
 (qq 62
 .skip
 (.exit 2))
 (.seq
 (.block 3
 (.seq
 (.reg 17 none [1,9,11,14,16,59,60,61] [
 qx 63 1 59 61,
 ql 64 63,
 qm 16 64])
 (.reg 18 none [1,9,11,14,59,60,61] [
 qm 65 14,
 qm 66 65,
 qmf 67 66 11,
 qmf 68 66 16,
 .rf 69 66 (.call (.k (.clo F_ref01_Has [])) [.t 67,.t 68]),
 qP 70 66 69,
 qm 14 70])))
 (.reg 19 none [1,9,11,14,59,60,61] [
 qa 71 61,
 qm 61 71])))))))
 (.seq
 (.reg 20 none [4] [
 qL 72 3 9,
 qm 73 1,
 qC 74 F_refresh_Stale [.t 72,.t 73],
 .r 75 (.un .not (.t 74)),
 qm 76 75,
 qmf 77 76 14,
 qP 78 76 77,
 qm 79 78,
 .rt 80 79 (.call (.k (.clo F_law14_awake [])) []),
 qp 81 79 80,
 qm 4 81])
 .ret))))))))))
def ks_law14_RefreshTouches:List (Nat×List Nat):=kssOf ir_law14_RefreshTouches
theorem fn_law14_RefreshTouches:FnIR Tryz.prog F_law14_RefreshTouches 82 ks_law14_RefreshTouches ir_law14_RefreshTouches [(.tmp 4)]:=
 qF Tryz.func8
def ir_law14_awake:RC:=
 (.seq
 (.reg 0 none [] [
 qc 0 false])
 (.seq
 (.reg 1 none [1] [
 .r 7 (.bsl 1 1 [qI 3]),
 .r 8 (.bsl 1 1 [qI 5]),
 .r 9 (.bsl 1 2 [.t 7,.t 8]),
 .r 10 (.build [.v (.string ⟨#[]⟩),.v (.int .i64 0),.v (.slice none 0 0),.v (.slice none 0 0)] [((0,1),.k (.v (.string ⟨#[112]⟩))),((3,1),.t 9)]),
 .r 1 (.new (.agg [.v (.string ⟨#[]⟩),.v (.int .i64 0),.v (.slice none 0 0),.v (.slice none 0 0)])),
 qs 4 1 10])
 (.seq
 (.reg 2 none [1,2] [
 .r 11 (.bsl 1 1 [qI 5]),
 .r 12 (.bsl 1 1 [qI 9]),
 .r 13 (.bsl 1 2 [.t 11,.t 12]),
 .r 14 (.build [.v (.string ⟨#[]⟩),.v (.int .i64 0),.v (.slice none 0 0),.v (.slice none 0 0)] [((0,1),.k (.v (.string ⟨#[112]⟩))),((1,1),qI 2),((3,1),.t 13)]),
 .r 2 (.new (.agg [.v (.string ⟨#[]⟩),.v (.int .i64 0),.v (.slice none 0 0),.v (.slice none 0 0)])),
 qs 4 2 14])
 (.seq
 (.reg 3 none [1,2,3,4] [
 qL 16 4 1,
 qL 17 4 2,
 qC 18 F_refresh_Diff [.t 16,.t 17],
 qm 15 18,
 .r 19 (.ex (.t 15) 0),
 .r 20 (.ex (.t 15) 1),
 .r 3 (.new (.agg [.v (.int .i64 0),.v (.slice none 0 0),.v (.slice none 0 0)])),
 qs 3 3 19,
 qm 4 20])
 (.seq
 (.reg 4 none [2,3,4,5,6] [
 qL 22 4 1,
 qL 23 3 3,
 qC 24 F_refresh_Apply [.t 22,.t 23],
 qm 21 24,
 .r 25 (.ex (.t 21) 0),
 .r 26 (.ex (.t 21) 1),
 .r 5 (.new (.agg [.v (.string ⟨#[]⟩),.v (.int .i64 0),.v (.slice none 0 0),.v (.slice none 0 0)])),
 qs 4 5 25,
 qm 6 26])
 (.seq
 (.reg 5 none [0] [
 qm 27 4,
 qB 28 .eql 27 0,
 qm 29 28,
 qmt 30 29 6,
 .rt 31 29 (.bin .eql false (.t 30) (qI 0)),
 qp 32 29 31,
 qm 33 32,
 .rt 34 33 (.ld (some 4) (.t 5)),
 .rt 35 33 (.ld (some 4) (.t 2)),
 .rt 36 33 (.call (.k (.clo F_ref13_Same [])) [.t 34,.t 35]),
 qp 37 33 36,
 qm 38 37,
 qft 39 38 1 3,
 qlt 40 38 39,
 .rt 41 38 (.bsl 1 1 [qI 3]),
 .rt 42 38 (.call (.k (.clo F_ref01_Ints [])) [.t 40,.t 41]),
 qp 43 38 42,
 qm 44 43,
 .rt 45 44 (.ld (some 3) (.t 3)),
 .rt 46 44 (.call (.k (.clo F_refresh_Keys [])) [.t 45]),
 .rt 47 44 (.bsl 1 2 [qI 3,qI 9]),
 .rt 48 44 (.call (.k (.clo F_ref01_Ints [])) [.t 46,.t 47]),
 qp 49 44 48,
 qm 50 49,
 .rt 51 50 (.ld (some 3) (.t 3)),
 .rt 52 50 (.bsl 1 2 [qI 1,qI 9]),
 .rt 53 50 (.call (.k (.clo F_refresh_Stale [])) [.t 51,.t 52]),
 qp 54 50 53,
 qm 55 54,
 .rt 56 55 (.ld (some 3) (.t 3)),
 .rt 57 55 (.bsl 1 1 [qI 5]),
 .rt 58 55 (.call (.k (.clo F_refresh_Stale [])) [.t 56,.t 57]),
 .rt 59 55 (.un .not (.t 58)),
 qp 60 55 59,
 qm 0 60])
 .ret))))))
def ks_law14_awake:List (Nat×List Nat):=kssOf ir_law14_awake
theorem fn_law14_awake:FnIR Tryz.prog F_law14_awake 61 ks_law14_awake ir_law14_awake [(.tmp 0)]:=
 qF Tryz.func9
def ir_law14_two:RC:=
 (.seq
 (.reg 0 none [0,2,3] [
 .r 2 (.new (.agg [.v (.string ⟨#[]⟩),.v (.int .i64 0),.v (.slice none 0 0),.v (.slice none 0 0)])),
 .r 3 (.new (.agg [.v (.string ⟨#[]⟩),.v (.int .i64 0),.v (.slice none 0 0),.v (.slice none 0 0)])),
 .r 4 (.mv (qN)),
 qi 5 0])
 (.seq
 (.reg 1 none [2,3,6] [
 qm 19 0,
 qC 20 F_draw_New [.t 19],
 qm 6 20])
 (.seq
 (.reg 2 none [2,3,6,7] [
 qm 21 6,
 qC 22 F_draw_Codes_Source [.t 21,qI 8],
 .r 7 (.new (.agg [.v (.slice none 0 0),.v (.slice none 0 0),.v (.slice none 0 0),.v (.slice none 0 0),.v (.int .i64 0)])),
 qs 5 7 22])
 (.seq
 (.reg 3 none [2,3,6,7,8] [
 qm 23 6,
 qf 24 0 7,
 qL 25 2 24,
 qC 26 F_draw_Codes_Declaration [.t 23,.t 25],
 .r 8 (.new (.agg [.v (.string ⟨#[]⟩),.v (.string ⟨#[]⟩),.v (.int .i64 0),.v (.int .i64 0),.v (.int .i64 0),.v (.int .i64 0),.v (.int .i64 0),.v (.slice none 0 0),.v (.int .i64 0),.v (.int .i64 0),.v (.int .i64 0),.v (.slice none 0 0)])),
 qs 12 8 26])
 (.seq
 (.reg 4 none [2,3,6,7,8,9] [
 qf 28 0 7,
 qL 29 2 28,
 qL 30 12 8,
 qC 31 F_ref10_Plan [.t 29,.t 30],
 qm 27 31,
 .r 32 (.ex (.t 27) 0),
 .r 33 (.ex (.t 27) 1),
 qm 9 32,
 qm 10 33])
 (.seq
 (.reg 5 none [2,3,6,7,8,9,11] [
 qm 34 6,
 qC 35 F_draw_Codes_Secret [.t 34],
 qm 11 35])
 (.seq
 (.reg 6 none [2,3,7,8,9,11,12] [
 qm 36 6,
 qL 37 5 7,
 qC 38 F_draw_Codes_Edits [.t 36,.t 37,qI 6],
 qm 12 38])
 (.seq
 (.reg 7 none [2,3,7,8,9,11,12,13] [
 qL 40 5 7,
 qm 41 12,
 qm 42 12,
 qn 43 42,
 qC 44 F_ref04_At [.t 40,.t 41,.t 43],
 qm 39 44,
 .r 45 (.ex (.t 39) 0),
 .r 46 (.ex (.t 39) 1),
 .r 13 (.new (.agg [.v (.slice none 0 0),.v (.slice none 0 0),.v (.slice none 0 0),.v (.slice none 0 0),.v (.int .i64 0)])),
 qs 5 13 45,
 qm 14 46])
 (.seq
 (.reg 8 none [2,3,8,9,11,12,13,15] [
 qL 48 5 7,
 qL 49 12 8,
 qm 50 9,
 qm 51 11,
 qC 52 F_ref13_Build [.t 48,.t 49,.t 50,.t 51],
 qm 47 52,
 .r 53 (.ex (.t 47) 0),
 .r 54 (.ex (.t 47) 1),
 .r 15 (.new (.agg [.v (.string ⟨#[]⟩),.v (.int .i64 0),.v (.slice none 0 0),.v (.slice none 0 0)])),
 qs 4 15 53,
 qm 16 54])
 (.seq
 (.reg 9 none [2,3,11,12,15,17] [
 qL 56 5 13,
 qL 57 12 8,
 qm 58 9,
 qm 59 11,
 qC 60 F_ref13_Build [.t 56,.t 57,.t 58,.t 59],
 qm 55 60,
 .r 61 (.ex (.t 55) 0),
 .r 62 (.ex (.t 55) 1),
 .r 17 (.new (.agg [.v (.string ⟨#[]⟩),.v (.int .i64 0),.v (.slice none 0 0),.v (.slice none 0 0)])),
 qs 4 17 61,
 qm 18 62])
 (.seq
 (.reg 10 (some [0,0,0,0,1,19,55,127]) [2,3,4,5] [
 qL 63 4 15,
 qL 64 4 17,
 qm 65 12,
 qm 66 11,
 qs 4 2 63,
 qs 4 3 64,
 qm 4 65,
 qm 5 66])
 .ret)))))))))))
def ks_law14_two:List (Nat×List Nat):=kssOf ir_law14_two
theorem fn_law14_two:FnIR Tryz.prog F_law14_two 67 ks_law14_two ir_law14_two [(.cell 2 (some 4)),(.cell 3 (some 4)),(.tmp 4),(.tmp 5)]:=
 qF Tryz.func10
def ir_refresh_Diff:RC:=
 (.seq
 (.reg 0 none [2,3,4] [
 .r 2 (.box (.t 0)),
 .r 3 (.box (.t 1)),
 .r 4 (.new (.agg [.v (.int .i64 0),.v (.slice none 0 0),.v (.slice none 0 0)])),
 qi 5 0])
 (.seq
 (.block 0
 (.seq
 (.reg 1 none [2,3,4,15] [
 qf 16 3 2,
 ql 17 16,
 qC 18 F_refresh_ordered [.t 17],
 .r 19 (.un .not (.t 18)),
 qm 20 19,
 qff 21 20 3 3,
 qlf 22 20 21,
 .rf 23 20 (.call (.k (.clo F_refresh_ordered [])) [.t 22]),
 .rf 24 20 (.un .not (.t 23)),
 qP 25 20 24,
 qm 15 25])
 (qq 15
 (.seq
 (.reg 2 none [4,5] [
 .r 26 (.build [.v (.int .i64 0),.v (.slice none 0 0),.v (.slice none 0 0)] []),
 qs 3 4 26,
 qi 5 11])
 .ret)
 (.seq
 (.reg 3 none [2,3,4,27] [
 qf 28 0 2,
 ql 29 28,
 qf 30 0 3,
 ql 31 30,
 qb 32 .neq 29 31,
 qm 33 32,
 qff 34 33 2 2,
 qlf 35 33 34,
 qff 36 33 2 3,
 qlf 37 33 36,
 .rf 38 33 (.call (.k (.clo F_slices_Equal_Pick [])) [.t 35,.t 37]),
 .rf 39 33 (.un .not (.t 38)),
 qP 40 33 39,
 qm 27 40])
 (qq 27
 (.seq
 (.reg 4 none [4,5] [
 .r 41 (.build [.v (.int .i64 0),.v (.slice none 0 0),.v (.slice none 0 0)] []),
 qs 3 4 41,
 qi 5 23])
 .ret)
 .skip)))))
 (.seq
 (.reg 5 none [2,3,4,6] [
 qf 42 1 3,
 ql 43 42,
 .r 44 (.build [.v (.int .i64 0),.v (.slice none 0 0),.v (.slice none 0 0)] [((0,1),.t 43)]),
 .r 6 (.new (.agg [.v (.int .i64 0),.v (.slice none 0 0),.v (.slice none 0 0)])),
 qs 3 6 44])
 (.seq
 (.seq
 (.reg 6 none [2,3,4,6,46,47,48] [
 qf 45 3 2,
 ql 46 45,
 qn 47 46,
 qi 48 0])
 (.block 1
 (.loop
 (.seq
 (.reg 7 none [2,3,4,6,46,47,48,49] [
 qb 49 .lss 48 47])
 (.seq
 (qq 49
 .skip
 (.exit 1))
 (.seq
 (.block 2
 (.seq
 (.reg 8 none [2,3,4,6,8,46,47,48] [
 qx 50 1 46 48,
 ql 51 50,
 qm 8 51])
 (.seq
 (.reg 9 (some [0,1,0,4,12,31,63,127,127,255,1023]) [2,3,4,6,8,10,46,47,48] [
 qf 53 3 3,
 ql 54 53,
 qm 55 8,
 .r 56 (.ixL 1 (.t 55) (qI 0)),
 ql 57 56,
 qC 58 F_refresh_find [.t 54,.t 57],
 qm 52 58,
 .r 59 (.ex (.t 52) 0),
 .r 60 (.ex (.t 52) 1),
 qm 9 59,
 qm 10 60])
 (.seq
 (.reg 10 none [2,3,4,6,8,46,47,48,62] [
 qm 61 10,
 .r 62 (.un .not (.t 61))])
 (qq 62
 (.reg 11 (some [0,1,0,4,12,28,63,127,255]) [2,3,4,6,46,47,48] [
 qf 63 1 6,
 ql 64 63,
 qm 65 8,
 .r 66 (.ixL 1 (.t 65) (qI 0)),
 ql 67 66,
 .r 68 (.bsl 1 1 [.t 67]),
 .r 69 (.app 1 8 false (.t 64) (.t 68)),
 qf 70 1 6,
 qs 1 70 69])
 .skip)))))
 (.reg 12 none [2,3,4,6,46,47,48] [
 qa 71 48,
 qm 48 71])))))))
 (.seq
 (.seq
 (.reg 13 none [2,4,6,73,74,75] [
 qf 72 3 3,
 ql 73 72,
 qn 74 73,
 qi 75 0])
 (.block 3
 (.loop
 (.seq
 (.reg 14 none [2,4,6,73,74,75,76] [
 qb 76 .lss 75 74])
 (.seq
 (qq 76
 .skip
 (.exit 3))
 (.seq
 (.block 4
 (.seq
 (.reg 15 none [2,4,6,12,73,74,75] [
 qx 77 1 73 75,
 ql 78 77,
 qm 12 78])
 (.seq
 (.reg 16 (some [0,1,0,4,12,31,63,127,127,255,1023]) [2,4,6,12,13,14,73,74,75] [
 qf 80 3 2,
 ql 81 80,
 qm 82 12,
 .r 83 (.ixL 1 (.t 82) (qI 0)),
 ql 84 83,
 qC 85 F_refresh_find [.t 81,.t 84],
 qm 79 85,
 .r 86 (.ex (.t 79) 0),
 .r 87 (.ex (.t 79) 1),
 qm 13 86,
 qm 14 87])
 (.seq
 (.reg 17 none [2,4,6,12,73,74,75,99] [
 qm 88 14,
 .r 89 (.un .not (.t 88)),
 qm 90 89,
 qff 91 90 3 2,
 qlf 92 90 91,
 qmf 93 90 13,
 .rf 94 90 (.ixL 1 (.t 92) (.t 93)),
 qlf 95 90 94,
 qmf 96 90 12,
 .rf 97 90 (.call (.k (.clo F_slices_Equal_int [])) [.t 95,.t 96]),
 .rf 98 90 (.un .not (.t 97)),
 qP 99 90 98])
 (qq 99
 (.reg 18 (some [0,1,0,4,12,31,63,127]) [2,4,6,73,74,75] [
 qf 100 2 6,
 ql 101 100,
 qm 102 12,
 qC 103 F_slices_Clone_int [.t 102],
 .r 104 (.bsl 1 1 [.t 103]),
 .r 105 (.app 1 24 false (.t 101) (.t 104)),
 qf 106 2 6,
 qs 1 106 105])
 .skip)))))
 (.reg 19 none [2,4,6,73,74,75] [
 qa 107 75,
 qm 75 107])))))))
 (.seq
 (.reg 20 none [4,5] [
 qL 108 3 6,
 qs 3 4 108,
 qi 5 0])
 .ret))))))
def ks_refresh_Diff:List (Nat×List Nat):=kssOf ir_refresh_Diff
theorem fn_refresh_Diff:FnIR Tryz.prog F_refresh_Diff 109 ks_refresh_Diff ir_refresh_Diff [(.cell 4 (some 3)),(.tmp 5)]:=
 qF Tryz.func11
def ir_refresh_Apply:RC:=
 (.seq
 (.reg 0 none [2,3,4] [
 .r 2 (.box (.t 0)),
 .r 3 (.box (.t 1)),
 .r 4 (.new (.agg [.v (.string ⟨#[]⟩),.v (.int .i64 0),.v (.slice none 0 0),.v (.slice none 0 0)])),
 qi 5 0])
 (.seq
 (.reg 1 none [2,3,4,6] [
 .r 22 (.mf F_refresh_Apply_1 [.t 2]),
 qm 6 22])
 (.seq
 (.seq
 (.reg 2 none [2,3,4,44] [
 qf 23 3 2,
 ql 24 23,
 qC 25 F_refresh_ordered [.t 24],
 .r 26 (.un .not (.t 25)),
 qm 27 26,
 qff 28 27 1 3,
 qlf 29 27 28,
 .rf 30 27 (.call (.k (.clo F_refresh_ascends [])) [.t 29]),
 .rf 31 27 (.un .not (.t 30)),
 qP 32 27 31,
 qm 33 32,
 qff 34 33 2 3,
 qlf 35 33 34,
 .rf 36 33 (.call (.k (.clo F_refresh_ordered [])) [.t 35]),
 .rf 37 33 (.un .not (.t 36)),
 qP 38 33 37,
 qm 39 38,
 qff 40 39 2 3,
 qlf 41 39 40,
 qmf 42 39 6,
 .rf 43 39 (.call (.k (.clo F_slices_ContainsFunc_Lint [])) [.t 41,.t 42]),
 qP 44 39 43])
 (qq 44
 (.seq
 (.reg 3 none [4,5] [
 .r 45 (.build [.v (.string ⟨#[]⟩),.v (.int .i64 0),.v (.slice none 0 0),.v (.slice none 0 0)] []),
 qs 4 4 45,
 qi 5 11])
 .ret)
 .skip))
 (.seq
 (.seq
 (.reg 4 none [2,3,4,47,48,49] [
 qf 46 1 3,
 ql 47 46,
 qn 48 47,
 qi 49 0])
 (.block 0
 (.loop
 (.seq
 (.reg 5 none [2,3,4,47,48,49,50] [
 qb 50 .lss 49 48])
 (.seq
 (qq 50
 .skip
 (.exit 0))
 (.seq
 (.block 1
 (.seq
 (.reg 6 none [2,3,4,8,47,48,49] [
 qx 51 1 47 49,
 ql 52 51,
 qm 8 52])
 (.seq
 (.reg 7 none [2,3,4,10,47,48,49] [
 qf 54 3 2,
 ql 55 54,
 qm 56 8,
 qC 57 F_refresh_find [.t 55,.t 56],
 qm 53 57,
 .r 58 (.ex (.t 53) 0),
 .r 59 (.ex (.t 53) 1),
 qm 9 58,
 qm 10 59])
 (.seq
 (.reg 8 none [2,3,4,47,48,49,61] [
 qm 60 10,
 .r 61 (.un .not (.t 60))])
 (qq 61
 (.seq
 (.reg 9 none [4,5] [
 .r 62 (.build [.v (.string ⟨#[]⟩),.v (.int .i64 0),.v (.slice none 0 0),.v (.slice none 0 0)] []),
 qs 4 4 62,
 qi 5 21])
 .ret)
 .skip)))))
 (.reg 10 none [2,3,4,47,48,49] [
 qa 63 49,
 qm 49 63])))))))
 (.seq
 (.seq
 (.reg 11 none [2,3,4,65,66,67] [
 qf 64 2 3,
 ql 65 64,
 qn 66 65,
 qi 67 0])
 (.block 2
 (.loop
 (.seq
 (.reg 12 none [2,3,4,65,66,67,68] [
 qb 68 .lss 67 66])
 (.seq
 (qq 68
 .skip
 (.exit 2))
 (.seq
 (.block 3
 (.seq
 (.reg 13 none [2,3,4,12,65,66,67] [
 qx 69 1 65 67,
 ql 70 69,
 qm 12 70])
 (.seq
 (.reg 14 (some [0,1,0,4,12,31]) [2,3,4,65,66,67,76] [
 qf 71 1 3,
 ql 72 71,
 qm 73 12,
 .r 74 (.ixL 1 (.t 73) (qI 0)),
 ql 75 74,
 qC 76 F_slices_Contains_int [.t 72,.t 75]])
 (qq 76
 (.seq
 (.reg 15 none [4,5] [
 .r 77 (.build [.v (.string ⟨#[]⟩),.v (.int .i64 0),.v (.slice none 0 0),.v (.slice none 0 0)] []),
 qs 4 4 77,
 qi 5 10])
 .ret)
 .skip))))
 (.reg 16 none [2,3,4,65,66,67] [
 qa 78 67,
 qm 67 78])))))))
 (.seq
 (.reg 17 (some [0,1,0,4,0,16,48,127,0,511]) [2,3,4,13] [
 qf 79 0 2,
 ql 80 79,
 qf 81 0 3,
 ql 82 81,
 qf 83 2 2,
 ql 84 83,
 qC 85 F_slices_Clone_Pick [.t 84],
 .r 86 (.build [.v (.string ⟨#[]⟩),.v (.int .i64 0),.v (.slice none 0 0),.v (.slice none 0 0)] [((0,1),.t 80),((1,1),.t 82),((2,1),.t 85)]),
 .r 13 (.new (.agg [.v (.string ⟨#[]⟩),.v (.int .i64 0),.v (.slice none 0 0),.v (.slice none 0 0)])),
 qs 4 13 86])
 (.seq
 (.seq
 (.reg 18 none [3,4,13,88,89,90] [
 qf 87 3 2,
 ql 88 87,
 qn 89 88,
 qi 90 0])
 (.block 4
 (.loop
 (.seq
 (.reg 19 none [3,4,13,88,89,90,91] [
 qb 91 .lss 90 89])
 (.seq
 (qq 91
 .skip
 (.exit 4))
 (.seq
 (.block 5
 (.seq
 (.reg 20 none [3,4,13,15,88,89,90] [
 qx 92 1 88 90,
 ql 93 92,
 qm 15 93])
 (.seq
 (.reg 21 (some [0,1,0,4,12,31,63,127,127,255,1023]) [3,4,13,15,16,17,88,89,90] [
 qf 95 2 3,
 ql 96 95,
 qm 97 15,
 .r 98 (.ixL 1 (.t 97) (qI 0)),
 ql 99 98,
 qC 100 F_refresh_find [.t 96,.t 99],
 qm 94 100,
 .r 101 (.ex (.t 94) 0),
 .r 102 (.ex (.t 94) 1),
 qm 16 101,
 qm 17 102])
 (.seq
 (.reg 22 none [3,4,13,15,16,88,89,90,103] [
 qm 103 17])
 (qq 103
 (.reg 23 (some [0,1,0,4,0,28,60,124,252,511,1023,2047]) [3,4,13,88,89,90] [
 qf 104 3 13,
 ql 105 104,
 qf 106 2 3,
 ql 107 106,
 qm 108 16,
 qx 109 1 107 108,
 ql 110 109,
 qC 111 F_slices_Clone_int [.t 110],
 .r 112 (.bsl 1 1 [.t 111]),
 .r 113 (.app 1 24 false (.t 105) (.t 112)),
 qf 114 3 13,
 qs 1 114 113])
 (.seq
 (.reg 24 (some [0,1,0,4,12,31,63]) [3,4,13,15,88,89,90,121] [
 qf 115 1 3,
 ql 116 115,
 qm 117 15,
 .r 118 (.ixL 1 (.t 117) (qI 0)),
 ql 119 118,
 qC 120 F_slices_Contains_int [.t 116,.t 119],
 .r 121 (.un .not (.t 120))])
 (qq 121
 (.reg 25 (some [0,1,0,4,12,31,63,127]) [3,4,13,88,89,90] [
 qf 122 3 13,
 ql 123 122,
 qm 124 15,
 qC 125 F_slices_Clone_int [.t 124],
 .r 126 (.bsl 1 1 [.t 125]),
 .r 127 (.app 1 24 false (.t 123) (.t 126)),
 qf 128 3 13,
 qs 1 128 127])
 .skip)))))))
 (.reg 26 none [3,4,13,88,89,90] [
 qa 129 90,
 qm 90 129])))))))
 (.seq
 (.seq
 (.reg 27 none [4,13,131,132,133] [
 qf 130 2 3,
 ql 131 130,
 qn 132 131,
 qi 133 0])
 (.block 6
 (.loop
 (.seq
 (.reg 28 none [4,13,131,132,133,134] [
 qb 134 .lss 133 132])
 (.seq
 (qq 134
 .skip
 (.exit 6))
 (.seq
 (.block 7
 (.seq
 (.reg 29 none [4,13,19,131,132,133] [
 qx 135 1 131 133,
 ql 136 135,
 qm 19 136])
 (.seq
 (.reg 30 (some [0,1,0,4,12,31,63,127,127,255,1023]) [4,13,19,20,21,131,132,133] [
 qf 138 3 13,
 ql 139 138,
 qm 140 19,
 .r 141 (.ixL 1 (.t 140) (qI 0)),
 ql 142 141,
 qC 143 F_refresh_find [.t 139,.t 142],
 qm 137 143,
 .r 144 (.ex (.t 137) 0),
 .r 145 (.ex (.t 137) 1),
 qm 20 144,
 qm 21 145])
 (.seq
 (.reg 31 none [4,13,19,20,131,132,133,147] [
 qm 146 21,
 .r 147 (.un .not (.t 146))])
 (qq 147
 (.reg 32 (some [0,1,0,0,8,24,63,127,255]) [4,13,131,132,133] [
 qf 148 3 13,
 ql 149 148,
 qm 150 20,
 qm 151 19,
 qC 152 F_slices_Clone_int [.t 151],
 .r 153 (.bsl 1 1 [.t 152]),
 qC 154 F_slices_Insert_Lint [.t 149,.t 150,.t 153],
 qf 155 3 13,
 qs 1 155 154])
 .skip)))))
 (.reg 33 none [4,13,131,132,133] [
 qa 156 133,
 qm 133 156])))))))
 (.seq
 (.reg 34 none [4,5] [
 qL 157 4 13,
 qs 4 4 157,
 qi 5 0])
 .ret)))))))))
def ks_refresh_Apply:List (Nat×List Nat):=kssOf ir_refresh_Apply
theorem fn_refresh_Apply:FnIR Tryz.prog F_refresh_Apply 158 ks_refresh_Apply ir_refresh_Apply [(.cell 4 (some 4)),(.tmp 5)]:=
 qF Tryz.func15
def ir_ref13_Same:RC:=
 (.seq
 (.reg 0 none [2,3] [
 .r 2 (.box (.t 0)),
 .r 3 (.box (.t 1)),
 qc 4 false])
 (.seq
 (.reg 1 none [4] [
 qf 5 0 2,
 ql 6 5,
 qf 7 0 3,
 ql 8 7,
 qb 9 .eql 6 8,
 qm 10 9,
 qft 11 10 1 2,
 qlt 12 10 11,
 qft 13 10 1 3,
 qlt 14 10 13,
 .rt 15 10 (.bin .eql false (.t 12) (.t 14)),
 qp 16 10 15,
 qm 17 16,
 qft 18 17 2 2,
 qlt 19 17 18,
 qft 20 17 2 3,
 qlt 21 17 20,
 .rt 22 17 (.call (.k (.clo F_ref02_SamePicks [])) [.t 19,.t 21]),
 qp 23 17 22,
 qm 24 23,
 qft 25 24 3 2,
 qlt 26 24 25,
 qft 27 24 3 3,
 qlt 28 24 27,
 .rt 29 24 (.call (.k (.clo F_ref01_Rows [])) [.t 26,.t 28]),
 qp 30 24 29,
 qm 4 30])
 .ret))
def ks_ref13_Same:List (Nat×List Nat):=kssOf ir_ref13_Same
theorem fn_ref13_Same:FnIR Tryz.prog F_ref13_Same 31 ks_ref13_Same ir_ref13_Same [(.tmp 4)]:=
 qF Tryz.func17
def ir_draw_New:RC:=
 (.seq
 (.reg 0 none [0] [
 .r 2 (.mv (.k (.v (.pointer none))))])
 (.seq
 (.reg 1 none [2] [
 qm 3 0,
 qm 4 0,
 qn 5 4,
 .r 6 (.mn [.t 5,qI 400]),
 .r 7 (.slL 1 (.t 3) none (some (.t 6))),
 .r 8 (.build [.v (.slice none 0 0),.v (.int .i64 0)] [((0,1),.t 7)]),
 .r 9 (.box (.t 8)),
 qm 2 9])
 .ret))
def ks_draw_New:List (Nat×List Nat):=kssOf ir_draw_New
theorem fn_draw_New:FnIR Tryz.prog F_draw_New 10 ks_draw_New ir_draw_New [(.tmp 2)]:=
 qF Tryz.func18
def ir_draw_Codes_Source:RC:=
 (.seq
 (.reg 0 none [0,1,4] [
 .r 4 (.new (.agg [.v (.slice none 0 0),.v (.slice none 0 0),.v (.slice none 0 0),.v (.slice none 0 0),.v (.int .i64 0)]))])
 (.seq
 (.reg 1 none [0,1,4,5] [
 qm 8 0,
 qC 9 F_draw_Codes_Schema [.t 8],
 .r 5 (.new (.agg [.v (.slice none 0 0),.v (.slice none 0 0)])),
 qs 2 5 9])
 (.seq
 (.reg 2 none [0,1,4,5,6] [
 qL 10 2 5,
 .r 11 (.build [.v (.slice none 0 0),.v (.slice none 0 0),.v (.slice none 0 0),.v (.slice none 0 0),.v (.int .i64 0)] [((0,2),.t 10)]),
 .r 6 (.new (.agg [.v (.slice none 0 0),.v (.slice none 0 0),.v (.slice none 0 0),.v (.slice none 0 0),.v (.int .i64 0)])),
 qs 5 6 11])
 (.seq
 (.seq
 (.reg 3 none [0,4,5,6,7] [
 qm 12 0,
 qm 13 1,
 qa 14 13,
 qC 15 F_draw_Codes_Next [.t 12,.t 14],
 qm 7 15])
 (.block 0
 (.loop
 (.seq
 (.seq
 (.reg 4 none [0,4,5,6,7,17] [
 qm 16 7,
 qB 17 .gtr 16 0])
 (qq 17
 .skip
 (.exit 0)))
 (.seq
 (.block 1
 (.reg 6 (some [0,1,0,0,12,31,63,127]) [0,4,5,6,7] [
 qf 20 2 6,
 ql 21 20,
 qm 22 0,
 qL 23 2 5,
 qC 24 F_draw_Codes_Row [.t 22,.t 23],
 qC 25 F_ref04_Put [.t 21,.t 24],
 qf 26 2 6,
 qs 1 26 25]))
 (.reg 5 none [0,4,5,6,7] [
 qm 18 7,
 qB 19 .sub 18 1,
 qm 7 19]))))))
 (.seq
 (.reg 7 none [4] [
 qL 27 5 6,
 qs 5 4 27])
 .ret)))))
def ks_draw_Codes_Source:List (Nat×List Nat):=kssOf ir_draw_Codes_Source
theorem fn_draw_Codes_Source:FnIR Tryz.prog F_draw_Codes_Source 28 ks_draw_Codes_Source ir_draw_Codes_Source [(.cell 4 (some 5))]:=
 qF Tryz.func19
def ir_draw_Codes_Declaration:RC:=
 (.seq
 (.reg 0 none [0,3,4] [
 .r 3 (.box (.t 1)),
 .r 4 (.new (.agg [.v (.string ⟨#[]⟩),.v (.string ⟨#[]⟩),.v (.int .i64 0),.v (.int .i64 0),.v (.int .i64 0),.v (.int .i64 0),.v (.int .i64 0),.v (.slice none 0 0),.v (.int .i64 0),.v (.int .i64 0),.v (.int .i64 0),.v (.slice none 0 0)]))])
 (.seq
 (.reg 1 (some [0,1,3,7,0,0,55,0,247,503,1023,0,4095]) [0,3,4,5] [
 qm 7 0,
 qC 8 F_draw_Codes_Next [.t 7,qI 3],
 qC 9 F_strconv_Itoa [.t 8],
 .r 10 (.bin .add false (.k (.v (.string ⟨#[112]⟩))) (.t 9)),
 qm 11 0,
 qL 12 2 3,
 qC 13 F_draw_Codes_Cond [.t 11,.t 12,qI 1],
 qm 14 0,
 qC 15 F_draw_Codes_Next [.t 14,qI 999],
 .r 16 (.build [.v (.int .i64 0),.v (.int .i64 0),.v (.int .i64 0)] [((0,1),qI 1),((1,1),qI 1),((2,1),.t 15)]),
 .r 17 (.build [.v (.string ⟨#[]⟩),.v (.string ⟨#[]⟩),.v (.int .i64 0),.v (.int .i64 0),.v (.int .i64 0),.v (.int .i64 0),.v (.int .i64 0),.v (.slice none 0 0),.v (.int .i64 0),.v (.int .i64 0),.v (.int .i64 0),.v (.slice none 0 0)] [((0,1),.t 10),((1,1),.k (.v (.string ⟨#[115,114,99]⟩))),((2,6),.t 13),((8,3),.t 16)]),
 .r 5 (.new (.agg [.v (.string ⟨#[]⟩),.v (.string ⟨#[]⟩),.v (.int .i64 0),.v (.int .i64 0),.v (.int .i64 0),.v (.int .i64 0),.v (.int .i64 0),.v (.slice none 0 0),.v (.int .i64 0),.v (.int .i64 0),.v (.int .i64 0),.v (.slice none 0 0)])),
 qs 12 5 17])
 (.seq
 (.seq
 (.reg 2 none [0,3,4,5,19] [
 qm 18 0,
 qC 19 F_draw_Codes_One [.t 18,qI 3]])
 (qq 19
 (.reg 3 none [0,3,4,5] [
 .r 20 (.build [.v (.int .i64 0),.v (.int .i64 0),.v (.int .i64 0),.v (.int .i64 0),.v (.int .i64 0),.v (.slice none 0 0)] [((0,1),qI 1)]),
 qf 21 2 5,
 qs 6 21 20])
 .skip))
 (.seq
 (.seq
 (.reg 4 none [0,3,4,5,23] [
 qm 22 0,
 qC 23 F_draw_Codes_One [.t 22,qI 3]])
 (qq 23
 (.seq
 (.reg 5 none [0,3,4,5] [
 qm 24 0,
 qC 25 F_draw_Codes_Range [.t 24,qI 2,qI 5],
 qf 26 8 5,
 qf 27 1 26,
 qs 1 27 25])
 (.reg 6 none [0,3,4,5] [
 qm 28 0,
 qf 29 8 5,
 qf 30 1 29,
 ql 31 30,
 qC 32 F_draw_Codes_Range [.t 28,qI 1,.t 31],
 qf 33 8 5,
 qf 34 0 33,
 qs 1 34 32]))
 .skip))
 (.seq
 (.seq
 (.reg 7 none [0,3,4,5,6] [
 qm 35 0,
 qC 36 F_draw_Codes_Range [.t 35,qI 1,qI 3],
 qm 6 36])
 (.block 0
 (.loop
 (.seq
 (.seq
 (.reg 8 none [0,3,4,5,6,38] [
 qm 37 6,
 qB 38 .gtr 37 0])
 (qq 38
 .skip
 (.exit 0)))
 (.seq
 (.block 1
 (.reg 10 (some [0,1,0,0,0,16,48,124,252,511,1023,2047]) [0,3,4,5,6] [
 qf 41 11 5,
 ql 42 41,
 qm 43 0,
 qL 44 2 3,
 qm 45 6,
 qC 46 F_strconv_Itoa [.t 45],
 .r 47 (.bin .add false (.k (.v (.string ⟨#[113]⟩))) (.t 46)),
 qC 48 F_draw_Codes_Question [.t 43,.t 44,.t 47],
 .r 49 (.bsl 17 1 [.t 48]),
 .r 50 (.app 17 208 false (.t 42) (.t 49)),
 qf 51 11 5,
 qs 1 51 50]))
 (.reg 9 none [0,3,4,5,6] [
 qm 39 6,
 qB 40 .sub 39 1,
 qm 6 40]))))))
 (.seq
 (.reg 11 none [4] [
 qL 52 12 5,
 qs 12 4 52])
 .ret))))))
def ks_draw_Codes_Declaration:List (Nat×List Nat):=kssOf ir_draw_Codes_Declaration
theorem fn_draw_Codes_Declaration:FnIR Tryz.prog F_draw_Codes_Declaration 53 ks_draw_Codes_Declaration ir_draw_Codes_Declaration [(.cell 4 (some 12))]:=
 qF Tryz.func20
def ir_ref10_Plan:RC:=
 (.seq
 (.reg 0 none [2,3] [
 .r 2 (.box (.t 0)),
 .r 3 (.box (.t 1)),
 .r 4 (.mv (qN)),
 qi 5 0])
 (.seq
 (.seq
 (.reg 1 none [2,3,6] [
 qL 11 2 2,
 qL 12 12 3,
 qC 13 F_ref08_Check [.t 11,.t 12],
 qm 6 13])
 (.seq
 (.reg 2 none [2,3,6,15] [
 qm 14 6,
 qB 15 .neq 14 0])
 (qq 15
 (.seq
 (.reg 3 none [4,5] [
 qm 16 6,
 .r 4 (.mv (qN)),
 qm 5 16])
 .ret)
 .skip)))
 (.seq
 (.reg 4 none [2,3,7] [
 .r 7 (.mv (qN))])
 (.seq
 (.seq
 (.reg 5 none [2,3,7,8] [
 qi 8 0])
 (.block 0
 (.loop
 (.seq
 (.seq
 (.reg 6 none [2,3,7,8,21] [
 qm 17 8,
 qf 18 11 3,
 ql 19 18,
 qn 20 19,
 qb 21 .lss 17 20])
 (qq 21
 .skip
 (.exit 0)))
 (.seq
 (.block 1
 (.seq
 (.reg 8 (some [0,0,2,0,14,30,63,127]) [2,3,7,8,9] [
 qL 24 2 2,
 qf 25 11 3,
 ql 26 25,
 qm 27 8,
 qx 28 17 26 27,
 qL 29 17 28,
 qC 30 F_ref09_Needs [.t 24,.t 29],
 qm 9 30])
 (.seq
 (.reg 9 none [2,3,7,8,9,10] [
 qi 10 0])
 (.block 2
 (.loop
 (.seq
 (.seq
 (.reg 10 none [2,3,7,8,9,10,34] [
 qm 31 10,
 qm 32 9,
 qn 33 32,
 qb 34 .lss 31 33])
 (qq 34
 .skip
 (.exit 2)))
 (.seq
 (.block 3
 (.reg 12 (some [0,0,0,6,14,30,0,0,192,448,960,2047,4095]) [2,3,7,8,9,10] [
 qm 37 7,
 qm 38 9,
 qm 39 10,
 qx 40 2 38 39,
 qf 41 0 40,
 ql 42 41,
 qm 43 9,
 qm 44 10,
 qx 45 2 43 44,
 qf 46 1 45,
 ql 47 46,
 qC 48 F_ref05_Raise [.t 37,.t 42,.t 47],
 qm 7 48]))
 (.reg 11 none [2,3,7,8,9,10] [
 qm 35 10,
 qa 36 35,
 qm 10 36]))))))))
 (.reg 7 none [2,3,7,8] [
 qm 22 8,
 qa 23 22,
 qm 8 23]))))))
 (.seq
 (.reg 13 none [4,5] [
 qm 49 7,
 qm 4 49,
 qi 5 0])
 .ret)))))
def ks_ref10_Plan:List (Nat×List Nat):=kssOf ir_ref10_Plan
theorem fn_ref10_Plan:FnIR Tryz.prog F_ref10_Plan 50 ks_ref10_Plan ir_ref10_Plan [(.tmp 4),(.tmp 5)]:=
 qF Tryz.func21
def ir_draw_Codes_Secret:RC:=
 (.seq
 (.reg 0 none [0] [
 qi 2 0])
 (.seq
 (.reg 1 none [2] [
 qm 3 0,
 qC 4 F_draw_Codes_Next [.t 3,qI 60000],
 qm 5 0,
 qC 6 F_draw_Codes_Next [.t 5,qI 60000],
 qb 7 .mul 4 6,
 qm 8 0,
 qC 9 F_draw_Codes_Next [.t 8,qI 7],
 qb 10 .add 7 9,
 qm 2 10])
 .ret))
def ks_draw_Codes_Secret:List (Nat×List Nat):=kssOf ir_draw_Codes_Secret
theorem fn_draw_Codes_Secret:FnIR Tryz.prog F_draw_Codes_Secret 11 ks_draw_Codes_Secret ir_draw_Codes_Secret [(.tmp 2)]:=
 qF Tryz.func22
def ir_draw_Codes_Edits:RC:=
 (.seq
 (.reg 0 none [0,2,4] [
 .r 4 (.box (.t 1)),
 .r 6 (.mv (qN))])
 (.seq
 (.reg 1 none [0,2,4,7] [
 .r 7 (.mv (qN))])
 (.seq
 (.seq
 (.reg 2 none [0,4,7,8] [
 qm 12 0,
 qm 13 2,
 qa 14 13,
 qC 15 F_draw_Codes_Next [.t 12,.t 14],
 qm 8 15])
 (.block 0
 (.loop
 (.seq
 (.seq
 (.reg 3 none [0,4,7,8,17] [
 qm 16 8,
 qB 17 .gtr 16 0])
 (qq 17
 .skip
 (.exit 0)))
 (.seq
 (.block 1
 (.seq
 (.reg 5 none [0,4,7,8,9] [
 qm 20 0,
 qL 21 5 4,
 qC 22 F_draw_Codes_Edit [.t 20,.t 21],
 .r 9 (.new (.agg [.v (.int .i64 0),.v (.slice none 0 0),.v (.int .i64 0)])),
 qs 3 9 22])
 (.seq
 (.reg 6 none [0,4,7,8,9,10,11] [
 qL 24 5 4,
 qL 25 3 9,
 qC 26 F_ref04_Apply [.t 24,.t 25],
 qm 23 26,
 .r 27 (.ex (.t 23) 0),
 .r 28 (.ex (.t 23) 1),
 .r 10 (.new (.agg [.v (.slice none 0 0),.v (.slice none 0 0),.v (.slice none 0 0),.v (.slice none 0 0),.v (.int .i64 0)])),
 qs 5 10 27,
 qm 11 28])
 (.seq
 (.reg 7 none [0,4,7,8,9,10,30] [
 qm 29 11,
 qB 30 .eql 29 0])
 (qq 30
 (.seq
 (.reg 8 none [0,4,7,8,9] [
 qL 31 5 10,
 qs 5 4 31])
 (.reg 9 none [0,4,7,8] [
 qm 32 7,
 qL 33 3 9,
 .r 34 (.bsl 3 1 [.t 33]),
 .r 35 (.app 3 40 false (.t 32) (.t 34)),
 qm 7 35]))
 .skip)))))
 (.reg 4 none [0,4,7,8] [
 qm 18 8,
 qB 19 .sub 18 1,
 qm 8 19]))))))
 (.seq
 (.reg 10 none [6] [
 qm 36 7,
 qm 6 36])
 .ret))))
def ks_draw_Codes_Edits:List (Nat×List Nat):=kssOf ir_draw_Codes_Edits
theorem fn_draw_Codes_Edits:FnIR Tryz.prog F_draw_Codes_Edits 37 ks_draw_Codes_Edits ir_draw_Codes_Edits [(.tmp 6)]:=
 qF Tryz.func23
def ir_ref04_At:RC:=
 (.seq
 (.reg 0 none [1,2,3,6] [
 .r 3 (.box (.t 0)),
 .r 6 (.new (.agg [.v (.slice none 0 0),.v (.slice none 0 0),.v (.slice none 0 0),.v (.slice none 0 0),.v (.int .i64 0)])),
 qi 7 0])
 (.seq
 (.seq
 (.reg 1 none [1,2,3,6,18] [
 qm 11 2,
 qB 12 .lss 11 0,
 qm 13 12,
 qmf 14 13 2,
 qmf 15 13 1,
 .rf 16 13 (.lenL (.t 15)),
 .rf 17 13 (.bin .gtr false (.t 14) (.t 16)),
 qP 18 13 17])
 (qq 18
 (.seq
 (.reg 2 none [6,7] [
 .r 19 (.build [.v (.slice none 0 0),.v (.slice none 0 0),.v (.slice none 0 0),.v (.slice none 0 0),.v (.int .i64 0)] []),
 qs 5 6 19,
 qi 7 13])
 .ret)
 .skip))
 (.seq
 (.seq
 (.reg 3 none [1,2,3,6,8] [
 qi 8 0])
 (.block 0
 (.loop
 (.seq
 (.seq
 (.reg 4 none [1,2,3,6,8,22] [
 qm 20 8,
 qm 21 2,
 qb 22 .lss 20 21])
 (qq 22
 .skip
 (.exit 0)))
 (.seq
 (.block 1
 (.seq
 (.reg 6 (some [0,0,0,6,14,31,63,127,127,0,767,2047]) [1,2,3,6,8,9,10] [
 qL 26 5 3,
 qm 27 1,
 qm 28 8,
 qx 29 3 27 28,
 qL 30 3 29,
 qC 31 F_ref04_Apply [.t 26,.t 30],
 qm 25 31,
 .r 32 (.ex (.t 25) 0),
 .r 33 (.ex (.t 25) 1),
 .r 9 (.new (.agg [.v (.slice none 0 0),.v (.slice none 0 0),.v (.slice none 0 0),.v (.slice none 0 0),.v (.int .i64 0)])),
 qs 5 9 32,
 qm 10 33])
 (.seq
 (.seq
 (.reg 7 none [1,2,3,6,8,9,10,35] [
 qm 34 10,
 qB 35 .neq 34 0])
 (qq 35
 (.seq
 (.reg 8 none [6,7] [
 .r 36 (.build [.v (.slice none 0 0),.v (.slice none 0 0),.v (.slice none 0 0),.v (.slice none 0 0),.v (.int .i64 0)] []),
 qm 37 10,
 qs 5 6 36,
 qm 7 37])
 .ret)
 .skip))
 (.reg 9 none [1,2,3,6,8] [
 qL 38 5 9,
 qs 5 3 38]))))
 (.reg 5 none [1,2,3,6,8] [
 qm 23 8,
 qa 24 23,
 qm 8 24]))))))
 (.seq
 (.reg 10 none [6,7] [
 qL 39 5 3,
 qs 5 6 39,
 qi 7 0])
 .ret))))
def ks_ref04_At:List (Nat×List Nat):=kssOf ir_ref04_At
theorem fn_ref04_At:FnIR Tryz.prog F_ref04_At 40 ks_ref04_At ir_ref04_At [(.cell 6 (some 5)),(.tmp 7)]:=
 qF Tryz.func24
def ir_ref13_Build:RC:=
 (.seq
 (.reg 0 none [2,3,4,5,8] [
 .r 4 (.box (.t 0)),
 .r 5 (.box (.t 1)),
 .r 8 (.new (.agg [.v (.string ⟨#[]⟩),.v (.int .i64 0),.v (.slice none 0 0),.v (.slice none 0 0)])),
 qi 9 0])
 (.seq
 (.seq
 (.reg 1 none [2,3,4,5,8,19] [
 qL 17 5 4,
 qC 18 F_ref04_Valid [.t 17],
 .r 19 (.un .not (.t 18))])
 (qq 19
 (.seq
 (.reg 2 none [8,9] [
 .r 20 (.build [.v (.string ⟨#[]⟩),.v (.int .i64 0),.v (.slice none 0 0),.v (.slice none 0 0)] []),
 qs 4 8 20,
 qi 9 13])
 .ret)
 .skip))
 (.seq
 (.seq
 (.reg 3 none [2,3,4,5,8,10] [
 qf 21 0 4,
 qL 22 2 21,
 qL 23 12 5,
 qm 24 2,
 qC 25 F_ref10_Check [.t 22,.t 23,.t 24],
 qm 10 25])
 (.seq
 (.reg 4 none [2,3,4,5,8,10,27] [
 qm 26 10,
 qB 27 .neq 26 0])
 (qq 27
 (.seq
 (.reg 5 none [8,9] [
 .r 28 (.build [.v (.string ⟨#[]⟩),.v (.int .i64 0),.v (.slice none 0 0),.v (.slice none 0 0)] []),
 qm 29 10,
 qs 4 8 28,
 qm 9 29])
 .ret)
 .skip)))
 (.seq
 (.seq
 (.reg 6 none [2,3,4,5,8,35] [
 qm 30 3,
 qB 31 .lss 30 0,
 qm 32 31,
 qmf 33 32 3,
 .rf 34 32 (.bin .geq false (.t 33) (qI 1152921504606846976)),
 qP 35 32 34])
 (qq 35
 (.seq
 (.reg 7 none [8,9] [
 .r 36 (.build [.v (.string ⟨#[]⟩),.v (.int .i64 0),.v (.slice none 0 0),.v (.slice none 0 0)] []),
 qs 4 8 36,
 qi 9 2])
 .ret)
 .skip))
 (.seq
 (.reg 8 (some [0,1,0,4,0,16,63,0,255]) [2,3,4,5,8,11] [
 qf 37 0 5,
 ql 38 37,
 qf 39 4 4,
 ql 40 39,
 qm 41 2,
 .r 42 (.app 2 16 false (qN) (.t 41)),
 .r 43 (.build [.v (.string ⟨#[]⟩),.v (.int .i64 0),.v (.slice none 0 0),.v (.slice none 0 0)] [((0,1),.t 38),((1,1),.t 40),((2,1),.t 42)]),
 .r 11 (.new (.agg [.v (.string ⟨#[]⟩),.v (.int .i64 0),.v (.slice none 0 0),.v (.slice none 0 0)])),
 qs 4 11 43])
 (.seq
 (.reg 9 none [2,3,4,8,11,12] [
 qL 44 5 4,
 qL 45 12 5,
 qC 46 F_ref13_Owners [.t 44,.t 45],
 qm 12 46])
 (.seq
 (.seq
 (.reg 10 none [2,3,4,8,11,12,13] [
 qi 13 0])
 (.block 0
 (.loop
 (.seq
 (.seq
 (.reg 11 none [2,3,4,8,11,12,13,50] [
 qm 47 13,
 qm 48 12,
 qn 49 48,
 qb 50 .lss 47 49])
 (qq 50
 .skip
 (.exit 0)))
 (.seq
 (.block 1
 (.seq
 (.reg 13 (some [0,1,0,0,0,24,56,124,255,511,1023]) [2,3,4,8,11,12,13,14] [
 qf 53 2 4,
 ql 54 53,
 qL 55 5 4,
 qm 56 12,
 qm 57 13,
 qx 58 1 56 57,
 ql 59 58,
 qC 60 F_ref04_Find [.t 55,.t 59],
 qx 61 1 54 60,
 ql 62 61,
 qm 14 62])
 (.seq
 (.reg 14 none [2,3,4,8,11,12,13,14,15] [
 qm 63 3,
 qm 64 12,
 qm 65 13,
 qx 66 1 64 65,
 ql 67 66,
 qC 68 F_ref12_Key [.t 63,.t 67],
 .r 69 (.bsl 1 1 [.t 68]),
 qm 15 69])
 (.seq
 (.seq
 (.reg 15 none [2,3,4,8,11,12,13,14,15,16] [
 qi 16 0])
 (.block 2
 (.loop
 (.seq
 (.seq
 (.reg 16 none [2,3,4,8,11,12,13,14,15,16,73] [
 qm 70 16,
 qm 71 2,
 qn 72 71,
 qb 73 .lss 70 72])
 (qq 73
 .skip
 (.exit 2)))
 (.seq
 (.block 3
 (.reg 18 (some [0,0,2,0,0,24,56,120,0,0,768,1792,3840,0,0,0,49152,114688,245760,516096,1040384,2097150,4194302,8388607,16777215]) [2,3,4,8,11,12,13,14,15,16] [
 qm 76 15,
 qf 77 0 4,
 qL 78 2 77,
 qm 79 2,
 qm 80 16,
 qx 81 2 79 80,
 qf 82 0 81,
 ql 83 82,
 qm 84 2,
 qm 85 16,
 qx 86 2 84 85,
 qf 87 1 86,
 ql 88 87,
 qm 89 14,
 qm 90 2,
 qm 91 16,
 qx 92 2 90 91,
 qf 93 0 92,
 ql 94 93,
 qx 95 1 89 94,
 ql 96 95,
 qC 97 F_ref02_Coarse [.t 78,.t 83,.t 88,.t 96],
 .r 98 (.bsl 1 1 [.t 97]),
 .r 99 (.app 1 8 false (.t 76) (.t 98)),
 qm 15 99]))
 (.reg 17 none [2,3,4,8,11,12,13,14,15,16] [
 qm 74 16,
 qa 75 74,
 qm 16 75]))))))
 (.reg 19 none [2,3,4,8,11,12,13] [
 qf 100 3 11,
 ql 101 100,
 qm 102 15,
 qC 103 F_ref04_Put [.t 101,.t 102],
 qf 104 3 11,
 qs 1 104 103])))))
 (.reg 12 none [2,3,4,8,11,12,13] [
 qm 51 13,
 qa 52 51,
 qm 13 52]))))))
 (.seq
 (.reg 20 none [8,9] [
 qL 105 4 11,
 qs 4 8 105,
 qi 9 0])
 .ret))))))))
def ks_ref13_Build:List (Nat×List Nat):=kssOf ir_ref13_Build
theorem fn_ref13_Build:FnIR Tryz.prog F_ref13_Build 106 ks_ref13_Build ir_ref13_Build [(.cell 8 (some 4)),(.tmp 9)]:=
 qF Tryz.func25
def ir_refresh_Keys:RC:=
 (.seq
 (.reg 0 none [1] [
 .r 1 (.box (.t 0)),
 .r 2 (.mv (qN))])
 (.seq
 (.reg 1 none [1,3] [
 qf 6 1 1,
 ql 7 6,
 qC 8 F_slices_Clone_int [.t 7],
 qm 3 8])
 (.seq
 (.seq
 (.reg 2 none [3,10,11,12] [
 qf 9 2 1,
 ql 10 9,
 qn 11 10,
 qi 12 0])
 (.block 0
 (.loop
 (.seq
 (.reg 3 none [3,10,11,12,13] [
 qb 13 .lss 12 11])
 (.seq
 (qq 13
 .skip
 (.exit 0))
 (.seq
 (.block 1
 (.seq
 (.reg 4 none [3,5,10,11,12] [
 qx 14 1 10 12,
 ql 15 14,
 qm 5 15])
 (.seq
 (.reg 5 none [3,5,10,11,12,18] [
 qm 16 5,
 qn 17 16,
 qB 18 .gtr 17 0])
 (qq 18
 (.reg 6 none [3,10,11,12] [
 qm 19 3,
 qm 20 5,
 .r 21 (.ixL 1 (.t 20) (qI 0)),
 ql 22 21,
 .r 23 (.bsl 1 1 [.t 22]),
 .r 24 (.app 1 8 false (.t 19) (.t 23)),
 qm 3 24])
 .skip))))
 (.reg 7 none [3,10,11,12] [
 qa 25 12,
 qm 12 25])))))))
 (.seq
 (.reg 8 none [2] [
 qm 26 3,
 qC 27 F_refresh_set [.t 26],
 qm 2 27])
 .ret))))
def ks_refresh_Keys:List (Nat×List Nat):=kssOf ir_refresh_Keys
theorem fn_refresh_Keys:FnIR Tryz.prog F_refresh_Keys 28 ks_refresh_Keys ir_refresh_Keys [(.tmp 2)]:=
 qF Tryz.func26
def ir_refresh_Stale:RC:=
 (.seq
 (.reg 0 none [1,2] [
 .r 2 (.box (.t 0)),
 qc 4 false])
 (.seq
 (.reg 1 none [1,5] [
 qL 6 3 2,
 qC 7 F_refresh_Keys [.t 6],
 .r 5 (.new (.v (.slice none 0 0))),
 qs 1 5 7])
 (.seq
 (.reg 2 none [4] [
 qm 8 1,
 .r 9 (.mf F_refresh_Stale_1 [.t 5]),
 qC 10 F_slices_ContainsFunc_int [.t 8,.t 9],
 qm 4 10])
 .ret)))
def ks_refresh_Stale:List (Nat×List Nat):=kssOf ir_refresh_Stale
theorem fn_refresh_Stale:FnIR Tryz.prog F_refresh_Stale 11 ks_refresh_Stale ir_refresh_Stale [(.tmp 4)]:=
 qF Tryz.func27
def ir_ref01_Ints:RC:=
 (.seq
 (.reg 0 none [0,1] [
 qc 4 false])
 (.seq
 (.seq
 (.reg 1 none [0,1,10] [
 qm 6 0,
 qn 7 6,
 qm 8 1,
 qn 9 8,
 qb 10 .neq 7 9])
 (qq 10
 (.seq
 (.reg 2 none [4] [
 qc 4 false])
 .ret)
 .skip))
 (.seq
 (.seq
 (.reg 3 none [0,1,5] [
 qi 5 0])
 (.block 0
 (.loop
 (.seq
 (.seq
 (.reg 4 none [0,1,5,14] [
 qm 11 5,
 qm 12 0,
 qn 13 12,
 qb 14 .lss 11 13])
 (qq 14
 .skip
 (.exit 0)))
 (.seq
 (.block 1
 (.seq
 (.reg 6 (some [0,0,3,7,0,0,48,112,255]) [0,1,5,25] [
 qm 17 0,
 qm 18 5,
 qx 19 1 17 18,
 ql 20 19,
 qm 21 1,
 qm 22 5,
 qx 23 1 21 22,
 ql 24 23,
 qb 25 .neq 20 24])
 (qq 25
 (.seq
 (.reg 7 none [4] [
 qc 4 false])
 .ret)
 .skip)))
 (.reg 5 none [0,1,5] [
 qm 15 5,
 qa 16 15,
 qm 5 16]))))))
 (.seq
 (.reg 8 none [4] [
 qc 4 true])
 .ret))))
def ks_ref01_Ints:List (Nat×List Nat):=kssOf ir_ref01_Ints
theorem fn_ref01_Ints:FnIR Tryz.prog F_ref01_Ints 26 ks_ref01_Ints ir_ref01_Ints [(.tmp 4)]:=
 qF Tryz.func28
def ir_refresh_Touched:RC:=
 (.seq
 (.reg 0 none [0,1,2,3] [
 .r 8 (.mv (qN))])
 (.seq
 (.reg 1 none [0,1,2,3,9] [
 .r 9 (.mv (qN))])
 (.seq
 (.seq
 (.reg 2 none [3,9,16,17,18] [
 qm 13 0,
 qm 14 1,
 qm 15 2,
 qC 16 F_source_Touched [.t 13,.t 14,.t 15],
 qn 17 16,
 qi 18 0])
 (.block 0
 (.loop
 (.seq
 (.reg 3 none [3,9,16,17,18,19] [
 qb 19 .lss 18 17])
 (.seq
 (qq 19
 .skip
 (.exit 0))
 (.seq
 (.block 1
 (.seq
 (.reg 4 none [3,9,11,16,17,18] [
 qx 20 1 16 18,
 ql 21 20,
 qm 11 21])
 (.seq
 (.reg 5 none [3,9,12,16,17,18] [
 qm 22 3,
 qm 23 11,
 qC 24 F_pseudonym_Key [.t 22,.t 23],
 qm 12 24])
 (.seq
 (.reg 6 none [3,9,12,16,17,18,26] [
 qm 25 12,
 qB 26 .geq 25 0])
 (qq 26
 (.reg 7 none [3,9,16,17,18] [
 qm 27 9,
 qm 28 12,
 .r 29 (.bsl 1 1 [.t 28]),
 .r 30 (.app 1 8 false (.t 27) (.t 29)),
 qm 9 30])
 .skip)))))
 (.reg 8 none [3,9,16,17,18] [
 qa 31 18,
 qm 18 31])))))))
 (.seq
 (.reg 9 none [8] [
 qm 32 9,
 qC 33 F_refresh_set [.t 32],
 qm 8 33])
 .ret))))
def ks_refresh_Touched:List (Nat×List Nat):=kssOf ir_refresh_Touched
theorem fn_refresh_Touched:FnIR Tryz.prog F_refresh_Touched 34 ks_refresh_Touched ir_refresh_Touched [(.tmp 8)]:=
 qF Tryz.func31
def ir_ref01_Has:RC:=
 (.seq
 (.reg 0 none [0,1] [
 qc 4 false])
 (.seq
 (.seq
 (.reg 1 none [0,1,5] [
 qi 5 0])
 (.block 0
 (.loop
 (.seq
 (.seq
 (.reg 2 none [0,1,5,9] [
 qm 6 5,
 qm 7 0,
 qn 8 7,
 qb 9 .lss 6 8])
 (qq 9
 .skip
 (.exit 0)))
 (.seq
 (.block 1
 (.seq
 (.reg 4 none [0,1,5,17] [
 qm 12 0,
 qm 13 5,
 qx 14 1 12 13,
 ql 15 14,
 qm 16 1,
 qb 17 .eql 15 16])
 (qq 17
 (.seq
 (.reg 5 none [4] [
 qc 4 true])
 .ret)
 .skip)))
 (.reg 3 none [0,1,5] [
 qm 10 5,
 qa 11 10,
 qm 5 11]))))))
 (.seq
 (.reg 6 none [4] [
 qc 4 false])
 .ret)))
def ks_ref01_Has:List (Nat×List Nat):=kssOf ir_ref01_Has
theorem fn_ref01_Has:FnIR Tryz.prog F_ref01_Has 18 ks_ref01_Has ir_ref01_Has [(.tmp 4)]:=
 qF Tryz.func33
def ir_ref12_Id:RC:=
 (.seq
 (.reg 0 none [0,1] [
 qi 4 0])
 (.seq
 (.seq
 (.reg 1 none [0,1,11] [
 qm 8 0,
 qm 9 1,
 qC 10 F_ref12_right [.t 8,.t 9],
 .r 11 (.un .not (.t 10))])
 (qq 11
 (.seq
 (.reg 2 none [4] [
 .r 4 (.mv (.k (.v (.int .i64 (-1)))))])
 .ret)
 .skip))
 (.seq
 (.reg 3 none [0,5,6] [
 qm 12 1,
 qB 13 .quo 12 1024,
 qm 14 1,
 qB 15 .rem 14 1024,
 qm 5 13,
 qm 6 15])
 (.seq
 (.seq
 (.reg 4 none [0,5,6,7] [
 qi 7 7])
 (.block 0
 (.loop
 (.seq
 (.seq
 (.reg 5 none [0,5,6,7,17] [
 qm 16 7,
 qB 17 .geq 16 0])
 (qq 17
 .skip
 (.exit 0)))
 (.seq
 (.block 1
 (.reg 7 none [0,5,6,7] [
 qm 20 6,
 qm 21 0,
 qm 22 7,
 qm 23 5,
 qC 24 F_ref12_Round [.t 21,.t 22,.t 23],
 qb 25 .xor 20 24,
 qm 26 5,
 qm 5 25,
 qm 6 26]))
 (.reg 6 none [0,5,6,7] [
 qm 18 7,
 qB 19 .sub 18 1,
 qm 7 19]))))))
 (.seq
 (.reg 8 none [4] [
 qm 27 5,
 qB 28 .mul 27 1024,
 qm 29 6,
 qb 30 .add 28 29,
 qm 4 30])
 .ret)))))
def ks_ref12_Id:List (Nat×List Nat):=kssOf ir_ref12_Id
theorem fn_ref12_Id:FnIR Tryz.prog F_ref12_Id 31 ks_ref12_Id ir_ref12_Id [(.tmp 4)]:=
 qF Tryz.func34
def ir_refresh_ordered:RC:=
 (.seq
 (.reg 0 none [0] [
 qc 2 false])
 (.seq
 (.seq
 (.reg 1 none [0,5,6,7] [
 qm 5 0,
 qn 6 5,
 qi 7 0])
 (.block 0
 (.loop
 (.seq
 (.reg 2 none [0,5,6,7,8] [
 qb 8 .lss 7 6])
 (.seq
 (qq 8
 .skip
 (.exit 0))
 (.seq
 (.block 1
 (.seq
 (.reg 3 none [0,3,4,5,6,7] [
 qm 9 7,
 qx 10 1 5 7,
 ql 11 10,
 qm 3 9,
 qm 4 11])
 (.seq
 (.reg 4 (some [0,1,3,7,15,31,63,127,255,511,127,127,2175,7295,15487,31871,64639,131071,262143,524287]) [0,5,6,7,31] [
 qm 12 4,
 qn 13 12,
 qB 14 .eql 13 0,
 qm 15 14,
 qmf 16 15 3,
 .rf 17 15 (.bin .gtr false (.t 16) (qI 0)),
 qmf 18 15 17,
 qmt 19 18 4,
 .rt 20 18 (.ixL 1 (.t 19) (qI 0)),
 qlt 21 18 20,
 qmt 22 18 0,
 qmt 23 18 3,
 .rt 24 18 (.bin .sub false (.t 23) (qI 1)),
 .rt 25 18 (.ixL 1 (.t 22) (.t 24)),
 qlt 26 18 25,
 .rt 27 18 (.ixL 1 (.t 26) (qI 0)),
 qlt 28 18 27,
 .rt 29 18 (.bin .leq false (.t 21) (.t 28)),
 .rf 30 15 (.pick (.t 18) (.t 29) (.k (.v (.bool false)))),
 qP 31 15 30])
 (qq 31
 (.seq
 (.reg 5 none [2] [
 qc 2 false])
 .ret)
 .skip))))
 (.reg 6 none [0,5,6,7] [
 qa 32 7,
 qm 7 32])))))))
 (.seq
 (.reg 7 none [2] [
 qc 2 true])
 .ret)))
def ks_refresh_ordered:List (Nat×List Nat):=kssOf ir_refresh_ordered
theorem fn_refresh_ordered:FnIR Tryz.prog F_refresh_ordered 33 ks_refresh_ordered ir_refresh_ordered [(.tmp 2)]:=
 qF Tryz.func35
def ir_slices_Equal_Pick:RC:=
 (.seq
 (.reg 0 none [0,1] [
 qc 4 false])
 (.seq
 (.seq
 (.reg 1 none [0,1,10] [
 qm 6 0,
 qn 7 6,
 qm 8 1,
 qn 9 8,
 qb 10 .neq 7 9])
 (qq 10
 (.seq
 (.reg 2 none [4] [
 qc 4 false])
 .ret)
 .skip))
 (.seq
 (.seq
 (.reg 3 none [0,1,12,13] [
 qm 11 0,
 qn 12 11,
 qi 13 0])
 (.block 0
 (.loop
 (.seq
 (.reg 4 none [0,1,12,13,14] [
 qb 14 .lss 13 12])
 (.seq
 (qq 14
 .skip
 (.exit 0))
 (.seq
 (.block 1
 (.seq
 (.reg 5 none [0,1,5,12,13] [
 qm 15 13,
 qm 5 15])
 (.seq
 (.reg 6 (some [0,0,3,7,0,0,48,112,255]) [0,1,12,13,24] [
 qm 16 0,
 qm 17 5,
 qx 18 2 16 17,
 qL 19 2 18,
 qm 20 1,
 qm 21 5,
 qx 22 2 20 21,
 qL 23 2 22,
 .r 24 (.ext (.eqS true [.i .i64,.i .i64]) [.t 19,.t 23])])
 (qq 24
 (.seq
 (.reg 7 none [4] [
 qc 4 false])
 .ret)
 .skip))))
 (.reg 8 none [0,1,12,13] [
 qa 25 13,
 qm 13 25])))))))
 (.seq
 (.reg 9 none [4] [
 qc 4 true])
 .ret))))
def ks_slices_Equal_Pick:List (Nat×List Nat):=kssOf ir_slices_Equal_Pick
theorem fn_slices_Equal_Pick:FnIR Tryz.prog F_slices_Equal_Pick 26 ks_slices_Equal_Pick ir_slices_Equal_Pick [(.tmp 4)]:=
 qF Tryz.func36
def ir_refresh_find:RC:=
 (.seq
 (.reg 0 none [0,1] [
 qi 4 0,
 qc 5 false])
 (.seq
 (.reg 1 none [4,5] [
 qm 6 0,
 qm 7 1,
 .r 8 (.call (.k (.clo F_slices_BinarySearchFunc_LLint_Lint_int [])) [.t 6,.t 7,.k (.clo F_refresh_find_1 [])]),
 .r 9 (.ex (.t 8) 0),
 .r 10 (.ex (.t 8) 1),
 qm 4 9,
 qm 5 10])
 .ret))
def ks_refresh_find:List (Nat×List Nat):=kssOf ir_refresh_find
theorem fn_refresh_find:FnIR Tryz.prog F_refresh_find 11 ks_refresh_find ir_refresh_find [(.tmp 4),(.tmp 5)]:=
 qF Tryz.func37
def ir_slices_Equal_int:RC:=
 (.seq
 (.reg 0 none [0,1] [
 qc 4 false])
 (.seq
 (.seq
 (.reg 1 none [0,1,10] [
 qm 6 0,
 qn 7 6,
 qm 8 1,
 qn 9 8,
 qb 10 .neq 7 9])
 (qq 10
 (.seq
 (.reg 2 none [4] [
 qc 4 false])
 .ret)
 .skip))
 (.seq
 (.seq
 (.reg 3 none [0,1,12,13] [
 qm 11 0,
 qn 12 11,
 qi 13 0])
 (.block 0
 (.loop
 (.seq
 (.reg 4 none [0,1,12,13,14] [
 qb 14 .lss 13 12])
 (.seq
 (qq 14
 .skip
 (.exit 0))
 (.seq
 (.block 1
 (.seq
 (.reg 5 none [0,1,5,12,13] [
 qm 15 13,
 qm 5 15])
 (.seq
 (.reg 6 (some [0,0,3,7,0,0,48,112,255]) [0,1,12,13,24] [
 qm 16 0,
 qm 17 5,
 qx 18 1 16 17,
 ql 19 18,
 qm 20 1,
 qm 21 5,
 qx 22 1 20 21,
 ql 23 22,
 qb 24 .neq 19 23])
 (qq 24
 (.seq
 (.reg 7 none [4] [
 qc 4 false])
 .ret)
 .skip))))
 (.reg 8 none [0,1,12,13] [
 qa 25 13,
 qm 13 25])))))))
 (.seq
 (.reg 9 none [4] [
 qc 4 true])
 .ret))))
def ks_slices_Equal_int:List (Nat×List Nat):=kssOf ir_slices_Equal_int
theorem fn_slices_Equal_int:FnIR Tryz.prog F_slices_Equal_int 26 ks_slices_Equal_int ir_slices_Equal_int [(.tmp 4)]:=
 qF Tryz.func38
def ir_slices_Clone_int:RC:=
 (.seq
 (.reg 0 none [0] [
 .r 2 (.mv (qN))])
 (.seq
 (.seq
 (.reg 1 none [0,4] [
 qm 3 0,
 .r 4 (.ext (.nilq false) [.t 3,qN])])
 (qq 4
 (.seq
 (.reg 2 none [2] [
 .r 2 (.mv (qN))])
 .ret)
 .skip))
 (.seq
 (.reg 3 none [2] [
 .r 5 (.bsl 1 0 []),
 qm 6 0,
 .r 7 (.app 1 8 false (.t 5) (.t 6)),
 qm 2 7])
 .ret)))
def ks_slices_Clone_int:List (Nat×List Nat):=kssOf ir_slices_Clone_int
theorem fn_slices_Clone_int:FnIR Tryz.prog F_slices_Clone_int 8 ks_slices_Clone_int ir_slices_Clone_int [(.tmp 2)]:=
 qF Tryz.func39
def ir_ref02_SamePicks:RC:=
 (.seq
 (.reg 0 none [0,1] [
 qc 4 false])
 (.seq
 (.seq
 (.reg 1 none [0,1,10] [
 qm 6 0,
 qn 7 6,
 qm 8 1,
 qn 9 8,
 qb 10 .neq 7 9])
 (qq 10
 (.seq
 (.reg 2 none [4] [
 qc 4 false])
 .ret)
 .skip))
 (.seq
 (.seq
 (.reg 3 none [0,1,5] [
 qi 5 0])
 (.block 0
 (.loop
 (.seq
 (.seq
 (.reg 4 none [0,1,5,14] [
 qm 11 5,
 qm 12 0,
 qn 13 12,
 qb 14 .lss 11 13])
 (qq 14
 .skip
 (.exit 0)))
 (.seq
 (.block 1
 (.seq
 (.reg 6 (some [0,0,3,7,0,0,48,112,255]) [0,1,5,25] [
 qm 17 0,
 qm 18 5,
 qx 19 2 17 18,
 qL 20 2 19,
 qm 21 1,
 qm 22 5,
 qx 23 2 21 22,
 qL 24 2 23,
 .r 25 (.ext (.eqS true [.i .i64,.i .i64]) [.t 20,.t 24])])
 (qq 25
 (.seq
 (.reg 7 none [4] [
 qc 4 false])
 .ret)
 .skip)))
 (.reg 5 none [0,1,5] [
 qm 15 5,
 qa 16 15,
 qm 5 16]))))))
 (.seq
 (.reg 8 none [4] [
 qc 4 true])
 .ret))))
def ks_ref02_SamePicks:List (Nat×List Nat):=kssOf ir_ref02_SamePicks
theorem fn_ref02_SamePicks:FnIR Tryz.prog F_ref02_SamePicks 26 ks_ref02_SamePicks ir_ref02_SamePicks [(.tmp 4)]:=
 qF Tryz.func41
def ir_ref01_Rows:RC:=
 (.seq
 (.reg 0 none [0,1] [
 qc 4 false])
 (.seq
 (.seq
 (.reg 1 none [0,1,10] [
 qm 6 0,
 qn 7 6,
 qm 8 1,
 qn 9 8,
 qb 10 .neq 7 9])
 (qq 10
 (.seq
 (.reg 2 none [4] [
 qc 4 false])
 .ret)
 .skip))
 (.seq
 (.seq
 (.reg 3 none [0,1,5] [
 qi 5 0])
 (.block 0
 (.loop
 (.seq
 (.seq
 (.reg 4 none [0,1,5,14] [
 qm 11 5,
 qm 12 0,
 qn 13 12,
 qb 14 .lss 11 13])
 (qq 14
 .skip
 (.exit 0)))
 (.seq
 (.block 1
 (.seq
 (.reg 6 (some [0,0,3,7,0,0,48,112,255,511]) [0,1,5,26] [
 qm 17 0,
 qm 18 5,
 qx 19 1 17 18,
 ql 20 19,
 qm 21 1,
 qm 22 5,
 qx 23 1 21 22,
 ql 24 23,
 qC 25 F_ref01_Ints [.t 20,.t 24],
 .r 26 (.un .not (.t 25))])
 (qq 26
 (.seq
 (.reg 7 none [4] [
 qc 4 false])
 .ret)
 .skip)))
 (.reg 5 none [0,1,5] [
 qm 15 5,
 qa 16 15,
 qm 5 16]))))))
 (.seq
 (.reg 8 none [4] [
 qc 4 true])
 .ret))))
def ks_ref01_Rows:List (Nat×List Nat):=kssOf ir_ref01_Rows
theorem fn_ref01_Rows:FnIR Tryz.prog F_ref01_Rows 27 ks_ref01_Rows ir_ref01_Rows [(.tmp 4)]:=
 qF Tryz.func43
def ir_refresh_Apply_1:RC:=
 (.seq
 (.reg 0 none [0,1] [
 qc 3 false])
 (.seq
 (.reg 1 none [3] [
 qm 4 0,
 qn 5 4,
 qf 6 2 1,
 ql 7 6,
 qn 8 7,
 qa 9 8,
 qb 10 .neq 5 9,
 qm 3 10])
 .ret))
def ks_refresh_Apply_1:List (Nat×List Nat):=kssOf ir_refresh_Apply_1
theorem fn_refresh_Apply_1:FnIR Tryz.prog F_refresh_Apply_1 11 ks_refresh_Apply_1 ir_refresh_Apply_1 [(.tmp 3)]:=
 qF Tryz.func44
def ir_refresh_ascends:RC:=
 (.seq
 (.reg 0 none [0] [
 qc 2 false])
 (.seq
 (.seq
 (.reg 1 none [0,3] [
 qi 3 1])
 (.block 0
 (.loop
 (.seq
 (.seq
 (.reg 2 none [0,3,7] [
 qm 4 3,
 qm 5 0,
 qn 6 5,
 qb 7 .lss 4 6])
 (qq 7
 .skip
 (.exit 0)))
 (.seq
 (.block 1
 (.seq
 (.reg 4 (some [0,0,3,7,0,0,32,112,240,511]) [0,3,19] [
 qm 10 0,
 qm 11 3,
 qx 12 1 10 11,
 ql 13 12,
 qm 14 0,
 qm 15 3,
 qB 16 .sub 15 1,
 qx 17 1 14 16,
 ql 18 17,
 qb 19 .leq 13 18])
 (qq 19
 (.seq
 (.reg 5 none [2] [
 qc 2 false])
 .ret)
 .skip)))
 (.reg 3 none [0,3] [
 qm 8 3,
 qa 9 8,
 qm 3 9]))))))
 (.seq
 (.reg 6 none [2] [
 qc 2 true])
 .ret)))
def ks_refresh_ascends:List (Nat×List Nat):=kssOf ir_refresh_ascends
theorem fn_refresh_ascends:FnIR Tryz.prog F_refresh_ascends 20 ks_refresh_ascends ir_refresh_ascends [(.tmp 2)]:=
 qF Tryz.func45
def ir_slices_ContainsFunc_Lint:RC:=
 (.seq
 (.reg 0 none [0,1] [
 qc 4 false])
 (.seq
 (.reg 1 none [4] [
 qm 5 0,
 qm 6 1,
 qC 7 F_slices_IndexFunc_Lint [.t 5,.t 6],
 qB 8 .geq 7 0,
 qm 4 8])
 .ret))
def ks_slices_ContainsFunc_Lint:List (Nat×List Nat):=kssOf ir_slices_ContainsFunc_Lint
theorem fn_slices_ContainsFunc_Lint:FnIR Tryz.prog F_slices_ContainsFunc_Lint 9 ks_slices_ContainsFunc_Lint ir_slices_ContainsFunc_Lint [(.tmp 4)]:=
 qF Tryz.func46
def ir_slices_Contains_int:RC:=
 (.seq
 (.reg 0 none [0,1] [
 qc 4 false])
 (.seq
 (.reg 1 none [4] [
 qm 5 0,
 qm 6 1,
 qC 7 F_slices_Index_int [.t 5,.t 6],
 qB 8 .geq 7 0,
 qm 4 8])
 .ret))
def ks_slices_Contains_int:List (Nat×List Nat):=kssOf ir_slices_Contains_int
theorem fn_slices_Contains_int:FnIR Tryz.prog F_slices_Contains_int 9 ks_slices_Contains_int ir_slices_Contains_int [(.tmp 4)]:=
 qF Tryz.func47
def ir_slices_Clone_Pick:RC:=
 (.seq
 (.reg 0 none [0] [
 .r 2 (.mv (qN))])
 (.seq
 (.seq
 (.reg 1 none [0,4] [
 qm 3 0,
 .r 4 (.ext (.nilq false) [.t 3,qN])])
 (qq 4
 (.seq
 (.reg 2 none [2] [
 .r 2 (.mv (qN))])
 .ret)
 .skip))
 (.seq
 (.reg 3 none [2] [
 .r 5 (.bsl 2 0 []),
 qm 6 0,
 .r 7 (.app 2 16 false (.t 5) (.t 6)),
 qm 2 7])
 .ret)))
def ks_slices_Clone_Pick:List (Nat×List Nat):=kssOf ir_slices_Clone_Pick
theorem fn_slices_Clone_Pick:FnIR Tryz.prog F_slices_Clone_Pick 8 ks_slices_Clone_Pick ir_slices_Clone_Pick [(.tmp 2)]:=
 qF Tryz.func48
def ir_slices_Insert_Lint:RC:=
 (.seq
 (.reg 0 none [0,1,2] [
 .r 6 (.mv (qN))])
 (.seq
 (.reg 1 none [0,1,2] [
 qm 10 0,
 qm 11 1,
 .r 12 (.slL 1 (.t 10) (some (.t 11)) none)])
 (.seq
 (.reg 2 none [0,1,2,7] [
 qm 13 2,
 qn 14 13,
 qm 7 14])
 (.seq
 (.seq
 (.reg 3 none [0,1,2,7,16] [
 qm 15 7,
 qB 16 .eql 15 0])
 (qq 16
 (.seq
 (.reg 4 none [6] [
 qm 17 0,
 qm 6 17])
 .ret)
 .skip))
 (.seq
 (.reg 5 none [0,1,2,7,8] [
 qm 18 0,
 qn 19 18,
 qm 8 19])
 (.seq
 (.seq
 (.reg 6 none [0,1,2,7,8,22] [
 qm 20 1,
 qm 21 8,
 qb 22 .eql 20 21])
 (qq 22
 (.seq
 (.reg 7 none [6] [
 qm 23 0,
 qm 24 2,
 .r 25 (.app 1 24 false (.t 23) (.t 24)),
 qm 6 25])
 .ret)
 .skip))
 (.seq
 (.seq
 (.reg 8 none [0,1,2,7,8,31] [
 qm 26 8,
 qm 27 7,
 qb 28 .add 26 27,
 qm 29 0,
 .r 30 (.ext .capq [.t 29]),
 qb 31 .gtr 28 30])
 (qq 31
 (.seq
 (.reg 9 none [0,1,2,7,9] [
 qm 32 0,
 qm 33 1,
 .r 34 (.slL 1 (.t 32) none (some (.t 33))),
 qm 35 8,
 qm 36 7,
 qb 37 .add 35 36,
 qm 38 1,
 qb 39 .sub 37 38,
 .r 40 (.ext (.appM 1 24 (.v (.slice none 0 0))) [.t 34,.t 39]),
 qm 9 40])
 (.seq
 (.reg 10 none [0,1,7,9] [
 qm 41 9,
 qm 42 1,
 .r 43 (.slL 1 (.t 41) (some (.t 42)) none),
 qm 44 2,
 .r 45 (.ext (.cpy 1) [.t 43,.t 44])])
 (.seq
 (.reg 11 (some [0,0,0,6,15,0,0,96,255]) [9] [
 qm 46 9,
 qm 47 1,
 qm 48 7,
 qb 49 .add 47 48,
 .r 50 (.slL 1 (.t 46) (some (.t 49)) none),
 qm 51 0,
 qm 52 1,
 .r 53 (.slL 1 (.t 51) (some (.t 52)) none),
 .r 54 (.ext (.cpy 1) [.t 50,.t 53])])
 (.seq
 (.reg 12 none [6] [
 qm 55 9,
 qm 6 55])
 .ret))))
 .skip))
 (.seq
 (.reg 13 none [0,1,2,7,8] [
 qm 56 0,
 qm 57 8,
 qm 58 7,
 qb 59 .add 57 58,
 .r 60 (.slL 1 (.t 56) none (some (.t 59))),
 qm 0 60])
 (.seq
 (.seq
 (.reg 14 none [0,1,2,7,8,68] [
 qm 61 2,
 qm 62 0,
 qm 63 1,
 qm 64 7,
 qb 65 .add 63 64,
 .r 66 (.slL 1 (.t 62) (some (.t 65)) none),
 qC 67 F_slices_overlaps_Lint [.t 61,.t 66],
 .r 68 (.un .not (.t 67))])
 (qq 68
 (.seq
 (.reg 15 (some [0,0,0,6,15,0,0,96,255]) [0,1,2] [
 qm 69 0,
 qm 70 1,
 qm 71 7,
 qb 72 .add 70 71,
 .r 73 (.slL 1 (.t 69) (some (.t 72)) none),
 qm 74 0,
 qm 75 1,
 .r 76 (.slL 1 (.t 74) (some (.t 75)) none),
 .r 77 (.ext (.cpy 1) [.t 73,.t 76])])
 (.seq
 (.reg 16 none [0] [
 qm 78 0,
 qm 79 1,
 .r 80 (.slL 1 (.t 78) (some (.t 79)) none),
 qm 81 2,
 .r 82 (.ext (.cpy 1) [.t 80,.t 81])])
 (.seq
 (.reg 17 none [6] [
 qm 83 0,
 qm 6 83])
 .ret)))
 .skip))
 (.seq
 (.reg 18 none [0,1,7] [
 qm 84 0,
 qm 85 8,
 .r 86 (.slL 1 (.t 84) (some (.t 85)) none),
 qm 87 2,
 .r 88 (.ext (.cpy 1) [.t 86,.t 87])])
 (.seq
 (.reg 19 none [0] [
 qm 89 0,
 qm 90 1,
 .r 91 (.slL 1 (.t 89) (some (.t 90)) none),
 qm 92 7,
 qC 93 F_slices_rotateRight_Lint [.t 91,.t 92]])
 (.seq
 (.reg 20 none [6] [
 qm 94 0,
 qm 6 94])
 .ret))))))))))))
def ks_slices_Insert_Lint:List (Nat×List Nat):=kssOf ir_slices_Insert_Lint
theorem fn_slices_Insert_Lint:FnIR Tryz.prog F_slices_Insert_Lint 95 ks_slices_Insert_Lint ir_slices_Insert_Lint [(.tmp 6)]:=
 qF Tryz.func49
def ir_ref04_Put:RC:=
 (.seq
 (.reg 0 none [0,1] [
 .r 4 (.mv (qN))])
 (.seq
 (.reg 1 none [0,1,5] [
 .r 5 (.mv (qN))])
 (.seq
 (.reg 2 none [0,1,5,6] [
 qc 6 false])
 (.seq
 (.seq
 (.reg 3 none [0,1,5,6,7] [
 qi 7 0])
 (.block 0
 (.loop
 (.seq
 (.seq
 (.reg 4 none [0,1,5,6,7,11] [
 qm 8 7,
 qm 9 0,
 qn 10 9,
 qb 11 .lss 8 10])
 (qq 11
 .skip
 (.exit 0)))
 (.seq
 (.block 1
 (.seq
 (.seq
 (.reg 6 (some [0,0,3,7,15,31,0,64,192,511]) [0,1,5,6,7,23] [
 qm 14 0,
 qm 15 7,
 qx 16 1 14 15,
 ql 17 16,
 .r 18 (.ixL 1 (.t 17) (qI 0)),
 ql 19 18,
 qm 20 1,
 .r 21 (.ixL 1 (.t 20) (qI 0)),
 ql 22 21,
 qb 23 .eql 19 22])
 (qq 23
 (.exit 1)
 .skip))
 (.seq
 (.seq
 (.reg 7 (some [0,0,3,7,15,31,0,64,192,511,1023,2047,4095,8191]) [0,1,5,6,7,37] [
 qm 24 0,
 qm 25 7,
 qx 26 1 24 25,
 ql 27 26,
 .r 28 (.ixL 1 (.t 27) (qI 0)),
 ql 29 28,
 qm 30 1,
 .r 31 (.ixL 1 (.t 30) (qI 0)),
 ql 32 31,
 qb 33 .gtr 29 32,
 qm 34 33,
 qmt 35 34 6,
 .rt 36 34 (.un .not (.t 35)),
 qp 37 34 36])
 (qq 37
 (.reg 8 none [0,1,5,6,7] [
 qm 38 5,
 qm 39 1,
 .r 40 (.bsl 1 1 [.t 39]),
 .r 41 (.app 1 24 false (.t 38) (.t 40)),
 qm 5 41,
 qc 6 true])
 .skip))
 (.reg 9 none [0,1,5,6,7] [
 qm 42 5,
 qm 43 0,
 qm 44 7,
 qx 45 1 43 44,
 ql 46 45,
 .r 47 (.bsl 1 1 [.t 46]),
 .r 48 (.app 1 24 false (.t 42) (.t 47)),
 qm 5 48]))))
 (.reg 5 none [0,1,5,6,7] [
 qm 12 7,
 qa 13 12,
 qm 7 13]))))))
 (.seq
 (.seq
 (.reg 10 none [1,5,50] [
 qm 49 6,
 .r 50 (.un .not (.t 49))])
 (qq 50
 (.reg 11 none [5] [
 qm 51 5,
 qm 52 1,
 .r 53 (.bsl 1 1 [.t 52]),
 .r 54 (.app 1 24 false (.t 51) (.t 53)),
 qm 5 54])
 .skip))
 (.seq
 (.reg 12 none [4] [
 qm 55 5,
 qm 4 55])
 .ret))))))
def ks_ref04_Put:List (Nat×List Nat):=kssOf ir_ref04_Put
theorem fn_ref04_Put:FnIR Tryz.prog F_ref04_Put 56 ks_ref04_Put ir_ref04_Put [(.tmp 4)]:=
 qF Tryz.func50
def ir_draw_Codes_Schema:RC:=
 (.seq
 (.reg 0 none [0,2] [
 .r 2 (.new (.agg [.v (.slice none 0 0),.v (.slice none 0 0)]))])
 (.seq
 (.reg 1 none [0,2,3] [
 qm 5 0,
 .r 6 (.call (.k (.clo F_draw_Codes_List [])) [.t 5,.k (.v (.string ⟨#[111,110,101]⟩))]),
 qm 7 0,
 .r 8 (.call (.k (.clo F_draw_Codes_List [])) [.t 7,.k (.v (.string ⟨#[116,119,111]⟩))]),
 .r 9 (.bsl 2 2 [.t 6,.t 8]),
 .r 10 (.build [.v (.string ⟨#[]⟩),.v (.int .i64 0),.v (.int .i64 0),.v (.int .i64 0),.v (.int .i64 0),.v (.slice none 0 0),.v (.bool false)] [((0,1),.k (.v (.string ⟨#[119,104,111]⟩))),((1,1),qI 1)]),
 .r 11 (.build [.v (.string ⟨#[]⟩),.v (.int .i64 0),.v (.int .i64 0),.v (.int .i64 0),.v (.int .i64 0),.v (.slice none 0 0),.v (.bool false)] [((0,1),.k (.v (.string ⟨#[115,101,120]⟩))),((1,1),qI 2)]),
 .r 12 (.bsl 7 2 [.t 10,.t 11]),
 .r 13 (.build [.v (.slice none 0 0),.v (.slice none 0 0)] [((0,1),.t 9),((1,1),.t 12)]),
 .r 3 (.new (.agg [.v (.slice none 0 0),.v (.slice none 0 0)])),
 qs 2 3 13])
 (.seq
 (.seq
 (.reg 2 none [0,2,3,15] [
 qm 14 0,
 qC 15 F_draw_Codes_One [.t 14,qI 2]])
 (qq 15
 (.reg 3 none [0,2,3] [
 qf 16 1 3,
 ql 17 16,
 .r 18 (.build [.v (.string ⟨#[]⟩),.v (.int .i64 0),.v (.int .i64 0),.v (.int .i64 0),.v (.int .i64 0),.v (.slice none 0 0),.v (.bool false)] [((0,1),.k (.v (.string ⟨#[106,111,98]⟩))),((1,1),qI 2),((2,1),qI 1)]),
 .r 19 (.bsl 7 1 [.t 18]),
 .r 20 (.app 7 80 false (.t 17) (.t 19)),
 qf 21 1 3,
 qs 1 21 20])
 .skip))
 (.seq
 (.seq
 (.reg 4 none [0,2,3,4] [
 qm 22 0,
 qC 23 F_draw_Codes_Range [.t 22,qI 1,qI 3],
 qm 4 23])
 (.block 0
 (.loop
 (.seq
 (.seq
 (.reg 5 none [0,2,3,4,25] [
 qm 24 4,
 qB 25 .gtr 24 0])
 (qq 25
 .skip
 (.exit 0)))
 (.seq
 (.block 1
 (.reg 7 (some [0,1,0,0,8,24,56,120,252,508,1023,2047,4095]) [0,2,3,4] [
 qf 28 1 3,
 ql 29 28,
 qm 30 0,
 qf 31 1 3,
 ql 32 31,
 qn 33 32,
 qC 34 F_strconv_Itoa [.t 33],
 .r 35 (.bin .add false (.k (.v (.string ⟨#[109]⟩))) (.t 34)),
 qC 36 F_draw_Codes_Measure [.t 30,.t 35],
 .r 37 (.bsl 7 1 [.t 36]),
 .r 38 (.app 7 80 false (.t 29) (.t 37)),
 qf 39 1 3,
 qs 1 39 38]))
 (.reg 6 none [0,2,3,4] [
 qm 26 4,
 qB 27 .sub 26 1,
 qm 4 27]))))))
 (.seq
 (.reg 8 none [2] [
 qL 40 2 3,
 qs 2 2 40])
 .ret)))))
def ks_draw_Codes_Schema:List (Nat×List Nat):=kssOf ir_draw_Codes_Schema
theorem fn_draw_Codes_Schema:FnIR Tryz.prog F_draw_Codes_Schema 41 ks_draw_Codes_Schema ir_draw_Codes_Schema [(.cell 2 (some 2))]:=
 qF Tryz.func51
def ir_draw_Codes_Next:RC:=
 (.seq
 (.reg 0 none [0,1] [
 qi 4 0])
 (.seq
 (.seq
 (.reg 1 (some [0,1,3,7,15,31,63,7,135,391,903,1927,4095,8191]) [0,1,19] [
 qm 6 1,
 qB 7 .lss 6 1,
 qm 8 7,
 qmf 9 8 0,
 .rf 10 8 (.nc (.t 9)),
 qff 11 8 1 10,
 qlf 12 8 11,
 qmf 13 8 0,
 .rf 14 8 (.nc (.t 13)),
 qff 15 8 0 14,
 qlf 16 8 15,
 .rf 17 8 (.lenL (.t 16)),
 .rf 18 8 (.bin .geq false (.t 12) (.t 17)),
 qP 19 8 18])
 (qq 19
 (.seq
 (.reg 2 none [4] [
 qi 4 0])
 .ret)
 .skip))
 (.seq
 (.reg 3 none [0,1] [
 qm 20 0,
 .r 21 (.nc (.t 20)),
 qf 22 1 21,
 ql 23 22,
 qa 24 23,
 .r 25 (.nc (.t 20)),
 qf 26 1 25,
 qs 1 26 24])
 (.seq
 (.reg 4 (some [0,1,3,7,0,16,48,112,240,511,1023,2047,4095]) [0,1,5] [
 qm 27 0,
 .r 28 (.nc (.t 27)),
 qf 29 0 28,
 ql 30 29,
 qm 31 0,
 .r 32 (.nc (.t 31)),
 qf 33 1 32,
 ql 34 33,
 qB 35 .sub 34 1,
 qx 36 1 30 35,
 ql 37 36,
 .r 38 (.cvI .i64 (.t 37)),
 qm 5 38])
 (.seq
 (.seq
 (.reg 5 (some [0,1,3,7,15,31,63,7,135,391,903,1927,4095,8191]) [0,1,5,52] [
 qm 39 1,
 qB 40 .gtr 39 256,
 qm 41 40,
 qmt 42 41 0,
 .rt 43 41 (.nc (.t 42)),
 qft 44 41 1 43,
 qlt 45 41 44,
 qmt 46 41 0,
 .rt 47 41 (.nc (.t 46)),
 qft 48 41 0 47,
 qlt 49 41 48,
 .rt 50 41 (.lenL (.t 49)),
 .rt 51 41 (.bin .lss false (.t 45) (.t 50)),
 qp 52 41 51])
 (qq 52
 (.seq
 (.reg 6 (some [0,1,0,4,12,28,0,64,192,448,1020,2044,4092,8191,16383]) [0,1,5] [
 qm 53 5,
 qB 54 .mul 53 256,
 qm 55 0,
 .r 56 (.nc (.t 55)),
 qf 57 0 56,
 ql 58 57,
 qm 59 0,
 .r 60 (.nc (.t 59)),
 qf 61 1 60,
 ql 62 61,
 qx 63 1 58 62,
 ql 64 63,
 .r 65 (.cvI .i64 (.t 64)),
 qb 66 .add 54 65,
 qm 5 66])
 (.reg 7 none [1,5] [
 qm 67 0,
 .r 68 (.nc (.t 67)),
 qf 69 1 68,
 ql 70 69,
 qa 71 70,
 .r 72 (.nc (.t 67)),
 qf 73 1 72,
 qs 1 73 71]))
 .skip))
 (.seq
 (.reg 8 none [4] [
 qm 74 5,
 qm 75 1,
 qb 76 .rem 74 75,
 qm 4 76])
 .ret))))))
def ks_draw_Codes_Next:List (Nat×List Nat):=kssOf ir_draw_Codes_Next
theorem fn_draw_Codes_Next:FnIR Tryz.prog F_draw_Codes_Next 77 ks_draw_Codes_Next ir_draw_Codes_Next [(.tmp 4)]:=
 qF Tryz.func52
def ir_draw_Codes_Row:RC:=
 (.seq
 (.reg 0 none [0,3] [
 .r 3 (.box (.t 1)),
 .r 4 (.mv (qN))])
 (.seq
 (.reg 1 none [0,3,5] [
 .r 5 (.mv (qN))])
 (.seq
 (.seq
 (.reg 2 none [0,3,5,9,10] [
 qf 7 1 3,
 ql 8 7,
 qn 9 8,
 qi 10 0])
 (.block 0
 (.loop
 (.seq
 (.reg 3 none [0,3,5,9,10,11] [
 qb 11 .lss 10 9])
 (.seq
 (qq 11
 .skip
 (.exit 0))
 (.seq
 (.block 1
 (.seq
 (.reg 4 none [0,3,5,6,9,10] [
 qm 12 10,
 qm 6 12])
 (.reg 5 none [0,3,5,9,10] [
 qm 13 5,
 qm 14 0,
 qL 15 2 3,
 qm 16 6,
 qC 17 F_draw_Codes_Value [.t 14,.t 15,.t 16],
 .r 18 (.bsl 1 1 [.t 17]),
 .r 19 (.app 1 8 false (.t 13) (.t 18)),
 qm 5 19])))
 (.reg 6 none [0,3,5,9,10] [
 qa 20 10,
 qm 10 20])))))))
 (.seq
 (.reg 7 none [4] [
 qm 21 5,
 qm 4 21])
 .ret))))
def ks_draw_Codes_Row:List (Nat×List Nat):=kssOf ir_draw_Codes_Row
theorem fn_draw_Codes_Row:FnIR Tryz.prog F_draw_Codes_Row 22 ks_draw_Codes_Row ir_draw_Codes_Row [(.tmp 4)]:=
 qF Tryz.func53
def ir_strconv_Itoa:RC:=
 (.seq
 (.reg 0 none [0] [
 .r 2 (.mv (.k (.v (.string ⟨#[]⟩))))])
 (.seq
 (.reg 1 none [2] [
 qm 3 0,
 qC 4 F_internal_strconv_Itoa [.t 3],
 qm 2 4])
 .ret))
def ks_strconv_Itoa:List (Nat×List Nat):=kssOf ir_strconv_Itoa
theorem fn_strconv_Itoa:FnIR Tryz.prog F_strconv_Itoa 5 ks_strconv_Itoa ir_strconv_Itoa [(.tmp 2)]:=
 qF Tryz.func54
def ir_draw_Codes_Cond:RC:=
 (.seq
 (.reg 0 none [0,2,4,6] [
 .r 4 (.box (.t 1)),
 .r 6 (.new (.agg [.v (.int .i64 0),.v (.int .i64 0),.v (.int .i64 0),.v (.int .i64 0),.v (.int .i64 0),.v (.slice none 0 0)]))])
 (.seq
 (.seq
 (.reg 1 none [0,2,4,6,12] [
 qm 11 2,
 qB 12 .gtr 11 0])
 (qq 12
 (.seq
 (.reg 2 none [0,2,4,6,14] [
 qm 13 0,
 qC 14 F_draw_Codes_Next [.t 13,qI 5]])
 (.block 0
 (.seq
 (.reg 3 none [0,2,4,6,14,15] [
 qB 16 .eql 14 2,
 qm 15 16])
 (qq 15
 (.seq
 (.reg 4 none [6] [
 qm 17 0,
 qL 18 2 4,
 qm 19 2,
 qB 20 .sub 19 1,
 qC 21 F_draw_Codes_Cond [.t 17,.t 18,.t 20],
 .r 22 (.bsl 6 1 [.t 21]),
 .r 23 (.build [.v (.int .i64 0),.v (.int .i64 0),.v (.int .i64 0),.v (.int .i64 0),.v (.int .i64 0),.v (.slice none 0 0)] [((0,1),qI 7),((5,1),.t 22)]),
 qs 6 6 23])
 .ret)
 (.seq
 (.reg 5 none [0,2,4,6,14,24] [
 qB 25 .eql 14 3,
 qm 24 25])
 (qq 24
 (.seq
 (.reg 6 (some [0,0,0,4,15,0,0,0,128,511,1023,2047,4095]) [6] [
 qm 26 0,
 qL 27 2 4,
 qm 28 2,
 qB 29 .sub 28 1,
 qC 30 F_draw_Codes_Cond [.t 26,.t 27,.t 29],
 qm 31 0,
 qL 32 2 4,
 qm 33 2,
 qB 34 .sub 33 1,
 qC 35 F_draw_Codes_Cond [.t 31,.t 32,.t 34],
 .r 36 (.bsl 6 2 [.t 30,.t 35]),
 .r 37 (.build [.v (.int .i64 0),.v (.int .i64 0),.v (.int .i64 0),.v (.int .i64 0),.v (.int .i64 0),.v (.slice none 0 0)] [((0,1),qI 5),((5,1),.t 36)]),
 qs 6 6 37])
 .ret)
 (.seq
 (.reg 7 none [0,2,4,6,38] [
 qB 39 .eql 14 4,
 qm 38 39])
 (qq 38
 (.seq
 (.reg 8 (some [0,0,0,4,15,0,0,0,128,511,1023,2047,4095]) [6] [
 qm 40 0,
 qL 41 2 4,
 qm 42 2,
 qB 43 .sub 42 1,
 qC 44 F_draw_Codes_Cond [.t 40,.t 41,.t 43],
 qm 45 0,
 qL 46 2 4,
 qm 47 2,
 qB 48 .sub 47 1,
 qC 49 F_draw_Codes_Cond [.t 45,.t 46,.t 48],
 .r 50 (.bsl 6 2 [.t 44,.t 49]),
 .r 51 (.build [.v (.int .i64 0),.v (.int .i64 0),.v (.int .i64 0),.v (.int .i64 0),.v (.int .i64 0),.v (.slice none 0 0)] [((0,1),qI 6),((5,1),.t 50)]),
 qs 6 6 51])
 .ret)
 .skip))))))))
 .skip))
 (.seq
 (.seq
 (.reg 9 none [0,4,6,53] [
 qm 52 0,
 qC 53 F_draw_Codes_Next [.t 52,qI 5]])
 (.block 1
 (.seq
 (.reg 10 none [0,4,6,53,54] [
 qB 55 .eql 53 1,
 qm 54 55])
 (qq 54
 (.seq
 (.reg 11 none [0,4,6,7] [
 qm 56 0,
 qL 57 2 4,
 qC 58 F_draw_Codes_Coded [.t 56,.t 57],
 qm 7 58])
 (.seq
 (.reg 12 (some [0,0,0,4,0,16,0,112,240,496,1020,2044,4092,8188,16382,32767,65535]) [6] [
 qm 59 7,
 qm 60 0,
 qf 61 0 4,
 ql 62 61,
 qf 63 1 4,
 ql 64 63,
 qm 65 7,
 qx 66 7 64 65,
 qf 67 2 66,
 ql 68 67,
 qx 69 2 62 68,
 qf 70 1 69,
 ql 71 70,
 qn 72 71,
 qC 73 F_draw_Codes_Next [.t 60,.t 72],
 .r 74 (.build [.v (.int .i64 0),.v (.int .i64 0),.v (.int .i64 0),.v (.int .i64 0),.v (.int .i64 0),.v (.slice none 0 0)] [((0,1),qI 2),((1,1),.t 59),((2,1),.t 73)]),
 qs 6 6 74])
 .ret))
 (.seq
 (.seq
 (.reg 13 none [0,4,6,53,75] [
 qB 76 .eql 53 2,
 qm 75 76])
 (qq 75
 .skip
 (.reg 14 none [0,4,6,53,75] [
 qB 77 .eql 53 3,
 qm 75 77])))
 (qq 75
 (.seq
 (.reg 15 none [0,4,6,8] [
 qm 78 0,
 qL 79 2 4,
 qC 80 F_draw_Codes_Measured [.t 78,.t 79],
 qm 8 80])
 (.seq
 (.reg 16 (some [0,1,0,7,15,31,0,64,255,511]) [0,6,8,9] [
 qf 81 1 4,
 ql 82 81,
 qm 83 8,
 qx 84 7 82 83,
 qf 85 3 84,
 ql 86 85,
 qm 87 0,
 qC 88 F_draw_Codes_Range [.t 87,.k (.v (.int .i64 (-3))),qI 40],
 qb 89 .add 86 88,
 qm 9 89])
 (.seq
 (.reg 17 none [6] [
 qm 90 8,
 qm 91 9,
 qm 92 9,
 qm 93 0,
 qC 94 F_draw_Codes_Next [.t 93,qI 30],
 qb 95 .add 92 94,
 .r 96 (.build [.v (.int .i64 0),.v (.int .i64 0),.v (.int .i64 0),.v (.int .i64 0),.v (.int .i64 0),.v (.slice none 0 0)] [((0,1),qI 3),((1,1),.t 90),((3,1),.t 91),((4,1),.t 95)]),
 qs 6 6 96])
 .ret)))
 (.seq
 (.reg 18 none [0,4,6,97] [
 qB 98 .eql 53 4,
 qm 97 98])
 (qq 97
 (.seq
 (.reg 19 none [4,6,10] [
 qm 99 0,
 qL 100 2 4,
 qC 101 F_draw_Codes_Measured [.t 99,.t 100],
 qm 10 101])
 (.seq
 (.reg 20 none [6,10,107] [
 qf 102 1 4,
 ql 103 102,
 qm 104 10,
 qx 105 7 103 104,
 qf 106 6 105,
 ql 107 106])
 (qq 107
 (.seq
 (.reg 21 none [6] [
 qm 108 10,
 .r 109 (.build [.v (.int .i64 0),.v (.int .i64 0),.v (.int .i64 0),.v (.int .i64 0),.v (.int .i64 0),.v (.slice none 0 0)] [((0,1),qI 4),((1,1),.t 108)]),
 qs 6 6 109])
 .ret)
 .skip)))
 .skip))))))))
 (.seq
 (.reg 22 none [6] [
 .r 110 (.build [.v (.int .i64 0),.v (.int .i64 0),.v (.int .i64 0),.v (.int .i64 0),.v (.int .i64 0),.v (.slice none 0 0)] [((0,1),qI 1)]),
 qs 6 6 110])
 .ret))))
def ks_draw_Codes_Cond:List (Nat×List Nat):=kssOf ir_draw_Codes_Cond
theorem fn_draw_Codes_Cond:FnIR Tryz.prog F_draw_Codes_Cond 111 ks_draw_Codes_Cond ir_draw_Codes_Cond [(.cell 6 (some 6))]:=
 qF Tryz.func55
def ir_draw_Codes_One:RC:=
 (.seq
 (.reg 0 none [0,1] [
 qc 4 false])
 (.seq
 (.reg 1 none [4] [
 qm 5 0,
 qm 6 1,
 qC 7 F_draw_Codes_Next [.t 5,.t 6],
 qm 8 1,
 qB 9 .sub 8 1,
 qb 10 .eql 7 9,
 qm 4 10])
 .ret))
def ks_draw_Codes_One:List (Nat×List Nat):=kssOf ir_draw_Codes_One
theorem fn_draw_Codes_One:FnIR Tryz.prog F_draw_Codes_One 11 ks_draw_Codes_One ir_draw_Codes_One [(.tmp 4)]:=
 qF Tryz.func56
def ir_draw_Codes_Range:RC:=
 (.seq
 (.reg 0 none [0,1,2] [
 qi 6 0])
 (.seq
 (.reg 1 none [6] [
 qm 7 1,
 qm 8 0,
 qm 9 2,
 qm 10 1,
 qb 11 .sub 9 10,
 qa 12 11,
 qC 13 F_draw_Codes_Next [.t 8,.t 12],
 qb 14 .add 7 13,
 qm 6 14])
 .ret))
def ks_draw_Codes_Range:List (Nat×List Nat):=kssOf ir_draw_Codes_Range
theorem fn_draw_Codes_Range:FnIR Tryz.prog F_draw_Codes_Range 15 ks_draw_Codes_Range ir_draw_Codes_Range [(.tmp 6)]:=
 qF Tryz.func57
def ir_draw_Codes_Question:RC:=
 (.seq
 (.reg 0 none [0,2,4,6] [
 .r 4 (.box (.t 1)),
 .r 6 (.new (.agg [.v (.string ⟨#[]⟩),.v (.int .i64 0),.v (.int .i64 0),.v (.int .i64 0),.v (.int .i64 0),.v (.int .i64 0),.v (.int .i64 0),.v (.slice none 0 0),.v (.slice none 0 0),.v (.int .i64 0),.v (.slice none 0 0),.v (.int .i64 0),.v (.int .i64 0),.v (.int .i64 0),.v (.int .i64 0),.v (.int .i64 0),.v (.slice none 0 0)]))])
 (.seq
 (.reg 1 (some [0,0,0,0,8,30,63,0,255]) [0,4,6,7] [
 qm 10 2,
 qm 11 0,
 qL 12 2 4,
 qm 13 0,
 qC 14 F_draw_Codes_Next [.t 13,qI 3],
 qC 15 F_draw_Codes_Cond [.t 11,.t 12,.t 14],
 .r 16 (.build [.v (.string ⟨#[]⟩),.v (.int .i64 0),.v (.int .i64 0),.v (.int .i64 0),.v (.int .i64 0),.v (.int .i64 0),.v (.int .i64 0),.v (.slice none 0 0),.v (.slice none 0 0),.v (.int .i64 0),.v (.slice none 0 0),.v (.int .i64 0),.v (.int .i64 0),.v (.int .i64 0),.v (.int .i64 0),.v (.int .i64 0),.v (.slice none 0 0)] [((0,1),.t 10),((1,1),qI 1),((2,6),.t 15),((9,1),.k (.v (.int .i64 (-1))))]),
 .r 7 (.new (.agg [.v (.string ⟨#[]⟩),.v (.int .i64 0),.v (.int .i64 0),.v (.int .i64 0),.v (.int .i64 0),.v (.int .i64 0),.v (.int .i64 0),.v (.slice none 0 0),.v (.slice none 0 0),.v (.int .i64 0),.v (.slice none 0 0),.v (.int .i64 0),.v (.int .i64 0),.v (.int .i64 0),.v (.int .i64 0),.v (.int .i64 0),.v (.slice none 0 0)])),
 qs 17 7 16])
 (.seq
 (.reg 2 none [0,4,6,7,8] [
 qm 17 0,
 qL 18 2 4,
 qC 19 F_draw_Codes_Measured [.t 17,.t 18],
 qm 8 19])
 (.seq
 (.seq
 (.reg 3 none [0,4,6,7,8,21] [
 qm 20 0,
 qC 21 F_draw_Codes_Next [.t 20,qI 4]])
 (.block 0
 (.seq
 (.reg 4 none [0,4,6,7,8,21,22] [
 qB 23 .eql 21 1,
 qm 22 23])
 (qq 22
 (.reg 5 none [0,4,6,7] [
 qm 24 8,
 qf 25 9 7,
 qs 1 25 24])
 (.seq
 (.reg 6 none [0,4,6,7,8,21,26] [
 qB 27 .eql 21 2,
 qm 26 27])
 (qq 26
 (.seq
 (.reg 7 none [0,4,6,7,8,9] [
 qm 28 0,
 qL 29 2 4,
 qm 30 8,
 qC 31 F_draw_Codes_Terms [.t 28,.t 29,.t 30],
 qm 9 31])
 (.seq
 (.reg 8 none [0,4,6,7,8,9,34] [
 qm 32 9,
 qn 33 32,
 qB 34 .gtr 33 0])
 (qq 34
 (.seq
 (.reg 9 none [6,7] [
 qm 35 8,
 qm 36 9,
 qf 37 1 7,
 .rn (.st 1 (.t 37) (qI 2)),
 qf 38 9 7,
 qs 1 38 35,
 qf 39 10 7,
 qs 1 39 36])
 (.seq
 (.reg 10 none [6] [
 qL 40 17 7,
 qs 17 6 40])
 .ret))
 .skip)))
 (.seq
 (.reg 11 none [0,4,6,7,8,41] [
 qB 42 .eql 21 3,
 qm 41 42])
 (qq 41
 (.seq
 (.reg 12 none [0,4,6,7,8,49] [
 qf 43 1 4,
 ql 44 43,
 qm 45 8,
 qx 46 7 44 45,
 qf 47 3 46,
 ql 48 47,
 qB 49 .geq 48 0])
 (qq 49
 (.seq
 (.reg 13 none [6,7] [
 qm 50 8,
 qm 51 0,
 qL 52 2 4,
 qC 53 F_draw_Codes_Cond [.t 51,.t 52,qI 1],
 qf 54 1 7,
 .rn (.st 1 (.t 54) (qI 3)),
 qf 55 9 7,
 qs 1 55 50,
 qf 56 11 7,
 qs 6 56 53])
 (.seq
 (.reg 14 none [6] [
 qL 57 17 7,
 qs 17 6 57])
 .ret))
 .skip))
 .skip))))))))
 (.seq
 (.reg 15 none [6,7] [
 qm 58 0,
 qL 59 2 4,
 qC 60 F_draw_Codes_Dims [.t 58,.t 59],
 qf 61 8 7,
 qs 1 61 60])
 (.seq
 (.reg 16 none [6] [
 qL 62 17 7,
 qs 17 6 62])
 .ret))))))
def ks_draw_Codes_Question:List (Nat×List Nat):=kssOf ir_draw_Codes_Question
theorem fn_draw_Codes_Question:FnIR Tryz.prog F_draw_Codes_Question 63 ks_draw_Codes_Question ir_draw_Codes_Question [(.cell 6 (some 17))]:=
 qF Tryz.func58
def ir_ref08_Check:RC:=
 (.seq
 (.reg 0 none [2,3] [
 .r 2 (.box (.t 0)),
 .r 3 (.box (.t 1)),
 qi 4 0])
 (.seq
 (.seq
 (.reg 1 none [2,3,5] [
 qL 11 2 2,
 qC 12 F_ref02_Check [.t 11],
 qm 5 12])
 (.seq
 (.reg 2 none [2,3,5,14] [
 qm 13 5,
 qB 14 .neq 13 0])
 (qq 14
 (.seq
 (.reg 3 none [4] [
 qm 15 5,
 qm 4 15])
 .ret)
 .skip)))
 (.seq
 (.seq
 (.reg 4 none [2,3,25] [
 qf 16 0 3,
 ql 17 16,
 qC 18 F_ref01_Name [.t 17],
 .r 19 (.un .not (.t 18)),
 qm 20 19,
 qff 21 20 1 3,
 qlf 22 20 21,
 .rf 23 20 (.call (.k (.clo F_ref01_Name [])) [.t 22]),
 .rf 24 20 (.un .not (.t 23)),
 qP 25 20 24])
 (qq 25
 (.seq
 (.reg 5 none [4] [
 qi 4 3])
 .ret)
 .skip))
 (.seq
 (.seq
 (.reg 6 none [2,3,6] [
 qL 26 2 2,
 qf 27 2 3,
 qL 28 6 27,
 qC 29 F_ref05_Check [.t 26,.t 28],
 qm 6 29])
 (.seq
 (.reg 7 none [2,3,6,31] [
 qm 30 6,
 qB 31 .neq 30 0])
 (qq 31
 (.seq
 (.reg 8 none [4] [
 qm 32 6,
 qm 4 32])
 .ret)
 .skip)))
 (.seq
 (.reg 9 none [2,3,7] [
 qf 33 8 3,
 qL 34 3 33,
 .r 7 (.new (.agg [.v (.int .i64 0),.v (.int .i64 0),.v (.int .i64 0)])),
 qs 3 7 34])
 (.seq
 (.seq
 (.reg 10 none [2,3,64] [
 qf 35 1 7,
 ql 36 35,
 qB 37 .lss 36 1,
 qm 38 37,
 qff 39 38 1 7,
 qlf 40 38 39,
 .rf 41 38 (.bin .gtr false (.t 40) (qI 1000)),
 qP 42 38 41,
 qm 43 42,
 qff 44 43 0 7,
 qlf 45 43 44,
 .rf 46 43 (.bin .lss false (.t 45) (qI 1)),
 qP 47 43 46,
 qm 48 47,
 qff 49 48 0 7,
 qlf 50 48 49,
 qff 51 48 1 7,
 qlf 52 48 51,
 .rf 53 48 (.bin .gtr false (.t 50) (.t 52)),
 qP 54 48 53,
 qm 55 54,
 qff 56 55 2 7,
 qlf 57 55 56,
 .rf 58 55 (.bin .lss false (.t 57) (qI 0)),
 qP 59 55 58,
 qm 60 59,
 qff 61 60 2 7,
 qlf 62 60 61,
 .rf 63 60 (.bin .gtr false (.t 62) (qI 1099511627776)),
 qP 64 60 63])
 (qq 64
 (.seq
 (.reg 11 none [4] [
 qi 4 2])
 .ret)
 .skip))
 (.seq
 (.seq
 (.reg 12 none [2,3,74] [
 qf 65 11 3,
 ql 66 65,
 qn 67 66,
 qB 68 .lss 67 1,
 qm 69 68,
 qff 70 69 11 3,
 qlf 71 69 70,
 .rf 72 69 (.lenL (.t 71)),
 .rf 73 69 (.bin .gtr false (.t 72) (qI 8)),
 qP 74 69 73])
 (qq 74
 (.seq
 (.reg 13 none [4] [
 qi 4 1])
 .ret)
 .skip))
 (.seq
 (.seq
 (.reg 14 none [2,3,8] [
 qi 8 0])
 (.block 0
 (.loop
 (.seq
 (.seq
 (.reg 15 none [2,3,8,79] [
 qm 75 8,
 qf 76 11 3,
 ql 77 76,
 qn 78 77,
 qb 79 .lss 75 78])
 (qq 79
 .skip
 (.exit 0)))
 (.seq
 (.block 1
 (.seq
 (.seq
 (.reg 17 (some [0,0,2,0,14,30,63,127]) [2,3,8,9] [
 qL 82 2 2,
 qf 83 11 3,
 ql 84 83,
 qm 85 8,
 qx 86 17 84 85,
 qL 87 17 86,
 qC 88 F_ref08_Question [.t 82,.t 87],
 qm 9 88])
 (.seq
 (.reg 18 none [2,3,8,9,90] [
 qm 89 9,
 qB 90 .neq 89 0])
 (qq 90
 (.seq
 (.reg 19 none [4] [
 qm 91 9,
 qm 4 91])
 .ret)
 .skip)))
 (.seq
 (.reg 20 none [2,3,8,10] [
 qi 10 0])
 (.block 2
 (.loop
 (.seq
 (.seq
 (.reg 21 none [2,3,8,10,94] [
 qm 92 10,
 qm 93 8,
 qb 94 .lss 92 93])
 (qq 94
 .skip
 (.exit 2)))
 (.seq
 (.block 3
 (.seq
 (.reg 23 (some [0,1,0,7,15,31,0,64,0,448,960,1984,4095]) [2,3,8,10,109] [
 qf 97 11 3,
 ql 98 97,
 qm 99 10,
 qx 100 17 98 99,
 qf 101 0 100,
 ql 102 101,
 qf 103 11 3,
 ql 104 103,
 qm 105 8,
 qx 106 17 104 105,
 qf 107 0 106,
 ql 108 107,
 qb 109 .eql 102 108])
 (qq 109
 (.seq
 (.reg 24 none [4] [
 qi 4 10])
 .ret)
 .skip)))
 (.reg 22 none [2,3,8,10] [
 qm 95 10,
 qa 96 95,
 qm 10 96]))))))))
 (.reg 16 none [2,3,8] [
 qm 80 8,
 qa 81 80,
 qm 8 81]))))))
 (.seq
 (.reg 25 none [4] [
 qi 4 0])
 .ret)))))))))
def ks_ref08_Check:List (Nat×List Nat):=kssOf ir_ref08_Check
theorem fn_ref08_Check:FnIR Tryz.prog F_ref08_Check 110 ks_ref08_Check ir_ref08_Check [(.tmp 4)]:=
 qF Tryz.func59
def ir_ref09_Needs:RC:=
 (.seq
 (.reg 0 none [2,3] [
 .r 2 (.box (.t 0)),
 .r 3 (.box (.t 1)),
 .r 4 (.mv (qN))])
 (.seq
 (.seq
 (.reg 1 none [2,3,13] [
 qL 10 2 2,
 qL 11 17 3,
 qC 12 F_ref08_Question [.t 10,.t 11],
 qB 13 .neq 12 0])
 (qq 13
 (.seq
 (.reg 2 none [4] [
 .r 4 (.mv (qN))])
 .ret)
 .skip))
 (.seq
 (.reg 3 none [2,3,5] [
 qL 14 2 2,
 qf 15 2 3,
 qL 16 6 15,
 qC 17 F_ref05_Needs [.t 14,.t 16],
 qm 5 17])
 (.seq
 (.seq
 (.reg 4 none [2,3,5,20] [
 qf 18 1 3,
 ql 19 18,
 qB 20 .eql 19 3])
 (qq 20
 (.seq
 (.reg 5 none [2,3,5,6] [
 qL 21 2 2,
 qf 22 11 3,
 qL 23 6 22,
 qC 24 F_ref05_Needs [.t 21,.t 23],
 qm 6 24])
 (.seq
 (.reg 6 none [2,3,5,6,7] [
 qi 7 0])
 (.block 0
 (.loop
 (.seq
 (.seq
 (.reg 7 none [2,3,5,6,7,28] [
 qm 25 7,
 qm 26 6,
 qn 27 26,
 qb 28 .lss 25 27])
 (qq 28
 .skip
 (.exit 0)))
 (.seq
 (.block 1
 (.reg 9 (some [0,0,0,6,14,30,0,0,192,448,960,2047,4095]) [2,3,5,6,7] [
 qm 31 5,
 qm 32 6,
 qm 33 7,
 qx 34 2 32 33,
 qf 35 0 34,
 ql 36 35,
 qm 37 6,
 qm 38 7,
 qx 39 2 37 38,
 qf 40 1 39,
 ql 41 40,
 qC 42 F_ref05_Raise [.t 31,.t 36,.t 41],
 qm 5 42]))
 (.reg 8 none [2,3,5,6,7] [
 qm 29 7,
 qa 30 29,
 qm 7 30])))))))
 .skip))
 (.seq
 (.seq
 (.reg 10 none [2,3,5,8] [
 qi 8 0])
 (.block 2
 (.loop
 (.seq
 (.seq
 (.reg 11 none [2,3,5,8,47] [
 qm 43 8,
 qf 44 8 3,
 ql 45 44,
 qn 46 45,
 qb 47 .lss 43 46])
 (qq 47
 .skip
 (.exit 2)))
 (.seq
 (.block 3
 (.reg 13 (some [0,0,2,0,14,30,62,0,0,256,0,1792,3840,7936,0,16384,0,114688,245760,507904,1048448,2097151,4194303]) [2,3,5,8] [
 qm 50 5,
 qf 51 8 3,
 ql 52 51,
 qm 53 8,
 qx 54 2 52 53,
 qf 55 0 54,
 ql 56 55,
 qL 57 2 2,
 qf 58 8 3,
 ql 59 58,
 qm 60 8,
 qx 61 2 59 60,
 qf 62 0 61,
 ql 63 62,
 qf 64 8 3,
 ql 65 64,
 qm 66 8,
 qx 67 2 65 66,
 qf 68 1 67,
 ql 69 68,
 qC 70 F_ref02_Least [.t 57,.t 63,.t 69],
 qC 71 F_ref05_Raise [.t 50,.t 56,.t 70],
 qm 5 71]))
 (.reg 12 none [2,3,5,8] [
 qm 48 8,
 qa 49 48,
 qm 8 49]))))))
 (.seq
 (.seq
 (.reg 14 none [2,3,5,9] [
 qi 9 1])
 (.block 4
 (.loop
 (.seq
 (.seq
 (.reg 15 none [2,3,5,9,76] [
 qm 72 9,
 qf 73 1 2,
 ql 74 73,
 qn 75 74,
 qb 76 .lss 72 75])
 (qq 76
 .skip
 (.exit 4)))
 (.seq
 (.block 5
 (.seq
 (.reg 17 none [2,3,5,9,81] [
 qL 79 17 3,
 qm 80 9,
 qC 81 F_ref09_Uses [.t 79,.t 80]])
 (qq 81
 (.reg 18 (some [0,0,0,0,0,0,48,124,255,511]) [2,3,5,9] [
 qm 82 5,
 qm 83 9,
 qL 84 2 2,
 qm 85 9,
 qL 86 2 2,
 qm 87 9,
 qC 88 F_ref02_Finest [.t 86,.t 87],
 qC 89 F_ref02_Least [.t 84,.t 85,.t 88],
 qC 90 F_ref05_Raise [.t 82,.t 83,.t 89],
 qm 5 90])
 .skip)))
 (.reg 16 none [2,3,5,9] [
 qm 77 9,
 qa 78 77,
 qm 9 78]))))))
 (.seq
 (.reg 19 none [4] [
 qm 91 5,
 qm 4 91])
 .ret)))))))
def ks_ref09_Needs:List (Nat×List Nat):=kssOf ir_ref09_Needs
theorem fn_ref09_Needs:FnIR Tryz.prog F_ref09_Needs 92 ks_ref09_Needs ir_ref09_Needs [(.tmp 4)]:=
 qF Tryz.func60
def ir_ref05_Raise:RC:=
 (.seq
 (.reg 0 none [0,1,2] [
 .r 6 (.mv (qN))])
 (.seq
 (.reg 1 none [0,1,2,7] [
 .r 7 (.mv (qN))])
 (.seq
 (.reg 2 none [0,1,2,7,8] [
 qm 11 2,
 qB 12 .leq 11 0,
 qm 8 12])
 (.seq
 (.seq
 (.reg 3 none [0,1,2,7,8,9] [
 qi 9 0])
 (.block 0
 (.loop
 (.seq
 (.seq
 (.reg 4 none [0,1,2,7,8,9,16] [
 qm 13 9,
 qm 14 0,
 qn 15 14,
 qb 16 .lss 13 15])
 (qq 16
 .skip
 (.exit 0)))
 (.seq
 (.block 1
 (.seq
 (.reg 6 none [0,1,2,7,8,9,10] [
 qm 19 0,
 qm 20 9,
 qx 21 2 19 20,
 qL 22 2 21,
 .r 10 (.new (.agg [.v (.int .i64 0),.v (.int .i64 0)])),
 qs 2 10 22])
 (.seq
 (.seq
 (.reg 7 none [0,1,2,7,8,9,10,30] [
 qf 23 0 10,
 ql 24 23,
 qm 25 1,
 qb 26 .gtr 24 25,
 qm 27 26,
 qmt 28 27 8,
 .rt 29 27 (.un .not (.t 28)),
 qp 30 27 29])
 (qq 30
 (.reg 8 none [0,1,2,7,8,9,10] [
 qm 31 7,
 qm 32 1,
 qm 33 2,
 .r 34 (.build [.v (.int .i64 0),.v (.int .i64 0)] [((0,1),.t 32),((1,1),.t 33)]),
 .r 35 (.bsl 2 1 [.t 34]),
 .r 36 (.app 2 16 false (.t 31) (.t 35)),
 qm 7 36,
 qc 8 true])
 .skip))
 (.seq
 (.seq
 (.reg 9 none [0,1,2,7,8,9,10,40] [
 qf 37 0 10,
 ql 38 37,
 qm 39 1,
 qb 40 .eql 38 39])
 (qq 40
 (.reg 10 none [0,1,2,7,8,9,10] [
 qf 41 1 10,
 ql 42 41,
 qm 43 2,
 .r 44 (.mx [.t 42,.t 43]),
 qf 45 1 10,
 qs 1 45 44,
 qc 8 true])
 .skip))
 (.reg 11 none [0,1,2,7,8,9] [
 qm 46 7,
 qL 47 2 10,
 .r 48 (.bsl 2 1 [.t 47]),
 .r 49 (.app 2 16 false (.t 46) (.t 48)),
 qm 7 49])))))
 (.reg 5 none [0,1,2,7,8,9] [
 qm 17 9,
 qa 18 17,
 qm 9 18]))))))
 (.seq
 (.seq
 (.reg 12 none [1,2,7,51] [
 qm 50 8,
 .r 51 (.un .not (.t 50))])
 (qq 51
 (.reg 13 none [7] [
 qm 52 7,
 qm 53 1,
 qm 54 2,
 .r 55 (.build [.v (.int .i64 0),.v (.int .i64 0)] [((0,1),.t 53),((1,1),.t 54)]),
 .r 56 (.bsl 2 1 [.t 55]),
 .r 57 (.app 2 16 false (.t 52) (.t 56)),
 qm 7 57])
 .skip))
 (.seq
 (.reg 14 none [6] [
 qm 58 7,
 qm 6 58])
 .ret))))))
def ks_ref05_Raise:List (Nat×List Nat):=kssOf ir_ref05_Raise
theorem fn_ref05_Raise:FnIR Tryz.prog F_ref05_Raise 59 ks_ref05_Raise ir_ref05_Raise [(.tmp 6)]:=
 qF Tryz.func61
def ir_draw_Codes_Edit:RC:=
 (.seq
 (.reg 0 none [0,3,4] [
 .r 3 (.box (.t 1)),
 .r 4 (.new (.agg [.v (.int .i64 0),.v (.slice none 0 0),.v (.int .i64 0)]))])
 (.seq
 (.reg 1 none [0,3,4,5] [
 qm 6 0,
 qC 7 F_draw_Codes_Range [.t 6,qI 1,qI 4],
 qm 8 0,
 qC 9 F_draw_Codes_Range [.t 8,qI 1,qI 60],
 .r 10 (.build [.v (.int .i64 0),.v (.slice none 0 0),.v (.int .i64 0)] [((0,1),.t 7),((2,1),.t 9)]),
 .r 5 (.new (.agg [.v (.int .i64 0),.v (.slice none 0 0),.v (.int .i64 0)])),
 qs 3 5 10])
 (.seq
 (.seq
 (.reg 2 none [0,3,4,5,18] [
 qf 11 2 3,
 ql 12 11,
 qn 13 12,
 qB 14 .gtr 13 0,
 qm 15 14,
 qmt 16 15 0,
 .rt 17 15 (.call (.k (.clo F_draw_Codes_One [])) [.t 16,qI 2]),
 qp 18 15 17])
 (qq 18
 (.reg 3 (some [0,1,0,0,8,24,60,127,255,511,1023,2047,4095]) [0,3,4,5] [
 qf 19 2 3,
 ql 20 19,
 qm 21 0,
 qf 22 2 3,
 ql 23 22,
 qn 24 23,
 qC 25 F_draw_Codes_Next [.t 21,.t 24],
 qx 26 1 20 25,
 ql 27 26,
 .r 28 (.ixL 1 (.t 27) (qI 0)),
 ql 29 28,
 qf 30 2 5,
 qs 1 30 29])
 .skip))
 (.seq
 (.seq
 (.reg 4 none [0,3,4,5,33] [
 qf 31 0 5,
 ql 32 31,
 qB 33 .leq 32 2])
 (qq 33
 (.seq
 (.reg 5 none [4,5] [
 qm 34 0,
 qf 35 0 3,
 qL 36 2 35,
 qC 37 F_draw_Codes_Row [.t 34,.t 36],
 qf 38 1 5,
 qs 1 38 37])
 (.seq
 (.seq
 (.reg 6 none [4,5,41] [
 qf 39 0 5,
 ql 40 39,
 qB 41 .eql 40 2])
 (qq 41
 (.reg 7 none [4,5] [
 qf 42 1 5,
 ql 43 42,
 qf 44 2 5,
 ql 45 44,
 .r 46 (.ixL 1 (.t 43) (qI 0)),
 qs 1 46 45])
 .skip))
 (.reg 8 none [4,5] [
 qf 47 2 5,
 .rn (.st 1 (.t 47) (qI 0))])))
 .skip))
 (.seq
 (.reg 9 none [4] [
 qL 48 3 5,
 qs 3 4 48])
 .ret)))))
def ks_draw_Codes_Edit:List (Nat×List Nat):=kssOf ir_draw_Codes_Edit
theorem fn_draw_Codes_Edit:FnIR Tryz.prog F_draw_Codes_Edit 49 ks_draw_Codes_Edit ir_draw_Codes_Edit [(.cell 4 (some 3))]:=
 qF Tryz.func62
def ir_ref04_Apply:RC:=
 (.seq
 (.reg 0 none [2,3,4] [
 .r 2 (.box (.t 0)),
 .r 3 (.box (.t 1)),
 .r 4 (.new (.agg [.v (.slice none 0 0),.v (.slice none 0 0),.v (.slice none 0 0),.v (.slice none 0 0),.v (.int .i64 0)])),
 qi 5 0])
 (.seq
 (.seq
 (.reg 1 none [2,3,4,16] [
 qL 9 5 2,
 qC 10 F_ref04_Valid [.t 9],
 .r 11 (.un .not (.t 10)),
 qm 12 11,
 qff 13 12 4 2,
 qlf 14 12 13,
 .rf 15 12 (.bin .eql false (.t 14) (qI 300)),
 qP 16 12 15])
 (qq 16
 (.seq
 (.reg 2 none [4,5] [
 .r 17 (.build [.v (.slice none 0 0),.v (.slice none 0 0),.v (.slice none 0 0),.v (.slice none 0 0),.v (.int .i64 0)] []),
 qs 5 4 17,
 qi 5 13])
 .ret)
 .skip))
 (.seq
 (.reg 3 none [2,3,4,6] [
 qf 18 0 2,
 qL 19 2 18,
 qf 20 2 2,
 ql 21 20,
 qf 22 3 2,
 ql 23 22,
 qf 24 4 2,
 ql 25 24,
 qa 26 25,
 .r 27 (.build [.v (.slice none 0 0),.v (.slice none 0 0),.v (.slice none 0 0),.v (.slice none 0 0),.v (.int .i64 0)] [((0,2),.t 19),((2,1),.t 21),((3,1),.t 23),((4,1),.t 26)]),
 .r 6 (.new (.agg [.v (.slice none 0 0),.v (.slice none 0 0),.v (.slice none 0 0),.v (.slice none 0 0),.v (.int .i64 0)])),
 qs 5 6 27])
 (.seq
 (.seq
 (.reg 4 none [2,3,4,6,29] [
 qf 28 0 3,
 ql 29 28])
 (.block 0
 (.seq
 (.seq
 (.reg 6 none [2,3,4,6,29,31] [
 qB 32 .eql 29 1,
 qm 31 32])
 (qq 31
 .skip
 (.reg 7 none [2,3,4,6,29,31] [
 qB 33 .eql 29 2,
 qm 31 33])))
 (qq 31
 (.seq
 (.seq
 (.reg 8 none [2,3,4,6,7] [
 qf 34 0 2,
 qL 35 2 34,
 qf 36 1 3,
 ql 37 36,
 qC 38 F_ref02_Row [.t 35,.t 37],
 qm 7 38])
 (.seq
 (.reg 9 none [2,3,4,6,7,40] [
 qm 39 7,
 qB 40 .neq 39 0])
 (qq 40
 (.seq
 (.reg 10 none [4,5] [
 .r 41 (.build [.v (.slice none 0 0),.v (.slice none 0 0),.v (.slice none 0 0),.v (.slice none 0 0),.v (.int .i64 0)] []),
 qm 42 7,
 qs 5 4 41,
 qm 5 42])
 .ret)
 .skip)))
 (.seq
 (.seq
 (.reg 11 (some [0,1,0,4,12,28,63]) [2,3,4,6,49] [
 qf 43 3 2,
 ql 44 43,
 qf 45 1 3,
 ql 46 45,
 .r 47 (.ixL 1 (.t 46) (qI 0)),
 ql 48 47,
 qC 49 F_ref01_Has [.t 44,.t 48]])
 (qq 49
 (.seq
 (.reg 12 none [4,5] [
 .r 50 (.build [.v (.slice none 0 0),.v (.slice none 0 0),.v (.slice none 0 0),.v (.slice none 0 0),.v (.int .i64 0)] []),
 qs 5 4 50,
 qi 5 20])
 .ret)
 .skip))
 (.seq
 (.reg 13 (some [0,0,2,6,14,31,63,127]) [2,3,4,6,8] [
 qL 51 5 2,
 qf 52 1 3,
 ql 53 52,
 .r 54 (.ixL 1 (.t 53) (qI 0)),
 ql 55 54,
 qC 56 F_ref04_Find [.t 51,.t 55],
 qB 57 .geq 56 0,
 qm 8 57])
 (.seq
 (.seq
 (.reg 14 none [2,3,4,6,8,63] [
 qf 58 0 3,
 ql 59 58,
 qB 60 .eql 59 1,
 qm 61 60,
 qmt 62 61 8,
 qp 63 61 62])
 (qq 63
 (.seq
 (.reg 15 none [4,5] [
 .r 64 (.build [.v (.slice none 0 0),.v (.slice none 0 0),.v (.slice none 0 0),.v (.slice none 0 0),.v (.int .i64 0)] []),
 qs 5 4 64,
 qi 5 10])
 .ret)
 .skip))
 (.seq
 (.seq
 (.reg 16 none [2,3,4,6,8,73] [
 qf 65 0 3,
 ql 66 65,
 qB 67 .eql 66 1,
 qm 68 67,
 qft 69 68 2 2,
 qlt 70 68 69,
 .rt 71 68 (.lenL (.t 70)),
 .rt 72 68 (.bin .eql false (.t 71) (qI 200)),
 qp 73 68 72])
 (qq 73
 (.seq
 (.reg 17 none [4,5] [
 .r 74 (.build [.v (.slice none 0 0),.v (.slice none 0 0),.v (.slice none 0 0),.v (.slice none 0 0),.v (.int .i64 0)] []),
 qs 5 4 74,
 qi 5 1])
 .ret)
 .skip))
 (.seq
 (.seq
 (.reg 18 none [2,3,4,6,81] [
 qf 75 0 3,
 ql 76 75,
 qB 77 .eql 76 2,
 qm 78 77,
 qmt 79 78 8,
 .rt 80 78 (.un .not (.t 79)),
 qp 81 78 80])
 (qq 81
 (.seq
 (.reg 19 none [4,5] [
 .r 82 (.build [.v (.slice none 0 0),.v (.slice none 0 0),.v (.slice none 0 0),.v (.slice none 0 0),.v (.int .i64 0)] []),
 qs 5 4 82,
 qi 5 19])
 .ret)
 .skip))
 (.reg 20 (some [0,1,0,4,12,31,63,127]) [4,6] [
 qf 83 2 2,
 ql 84 83,
 qf 85 1 3,
 ql 86 85,
 .r 87 (.app 1 8 false (qN) (.t 86)),
 qC 88 F_ref04_Put [.t 84,.t 87],
 qf 89 2 6,
 qs 1 89 88])))))))
 (.seq
 (.reg 21 none [2,3,4,6,29,90] [
 qB 91 .eql 29 3,
 qm 90 91])
 (qq 90
 (.seq
 (.seq
 (.reg 22 none [2,3,4,6,96] [
 qL 92 5 2,
 qf 93 2 3,
 ql 94 93,
 qC 95 F_ref04_Find [.t 92,.t 94],
 qB 96 .lss 95 0])
 (qq 96
 (.seq
 (.reg 23 none [4,5] [
 .r 97 (.build [.v (.slice none 0 0),.v (.slice none 0 0),.v (.slice none 0 0),.v (.slice none 0 0),.v (.int .i64 0)] []),
 qs 5 4 97,
 qi 5 19])
 .ret)
 .skip))
 (.reg 24 none [4,6] [
 qf 98 2 2,
 ql 99 98,
 qf 100 2 3,
 ql 101 100,
 qC 102 F_ref04_Drop [.t 99,.t 101],
 qf 103 2 6,
 qs 1 103 102]))
 (.seq
 (.reg 25 none [2,3,4,6,104] [
 qB 105 .eql 29 4,
 qm 104 105])
 (qq 104
 (.seq
 (.seq
 (.reg 26 none [2,3,4,6,113] [
 qf 106 2 3,
 ql 107 106,
 qB 108 .lss 107 1,
 qm 109 108,
 qff 110 109 2 3,
 qlf 111 109 110,
 .rf 112 109 (.bin .gtr false (.t 111) (qI 1048575)),
 qP 113 109 112])
 (qq 113
 (.seq
 (.reg 27 none [4,5] [
 .r 114 (.build [.v (.slice none 0 0),.v (.slice none 0 0),.v (.slice none 0 0),.v (.slice none 0 0),.v (.int .i64 0)] []),
 qs 5 4 114,
 qi 5 2])
 .ret)
 .skip))
 (.seq
 (.seq
 (.reg 28 none [2,3,4,6,119] [
 qf 115 3 2,
 ql 116 115,
 qf 117 2 3,
 ql 118 117,
 qC 119 F_ref01_Has [.t 116,.t 118]])
 (qq 119
 (.seq
 (.reg 29 none [4,5] [
 .r 120 (.build [.v (.slice none 0 0),.v (.slice none 0 0),.v (.slice none 0 0),.v (.slice none 0 0),.v (.int .i64 0)] []),
 qs 5 4 120,
 qi 5 20])
 .ret)
 .skip))
 (.seq
 (.reg 30 none [2,3,4,6] [
 qf 121 2 2,
 ql 122 121,
 qf 123 2 3,
 ql 124 123,
 qC 125 F_ref04_Drop [.t 122,.t 124],
 qf 126 2 6,
 qs 1 126 125])
 (.reg 31 none [4,6] [
 qf 127 3 2,
 ql 128 127,
 qf 129 2 3,
 ql 130 129,
 qC 131 F_ref01_Put [.t 128,.t 130],
 qf 132 3 6,
 qs 1 132 131]))))
 (.seq
 (.reg 5 none [4,5] [
 .r 30 (.build [.v (.slice none 0 0),.v (.slice none 0 0),.v (.slice none 0 0),.v (.slice none 0 0),.v (.int .i64 0)] []),
 qs 5 4 30,
 qi 5 4])
 .ret)))))))))
 (.seq
 (.reg 32 none [4,5] [
 qL 133 5 6,
 qs 5 4 133,
 qi 5 0])
 .ret)))))
def ks_ref04_Apply:List (Nat×List Nat):=kssOf ir_ref04_Apply
theorem fn_ref04_Apply:FnIR Tryz.prog F_ref04_Apply 134 ks_ref04_Apply ir_ref04_Apply [(.cell 4 (some 5)),(.tmp 5)]:=
 qF Tryz.func63
def ir_ref04_Valid:RC:=
 (.seq
 (.reg 0 none [1] [
 .r 1 (.box (.t 0)),
 qc 2 false])
 (.seq
 (.seq
 (.reg 1 none [1,30] [
 qf 5 0 1,
 qL 6 2 5,
 qC 7 F_ref02_Check [.t 6],
 qB 8 .neq 7 0,
 qm 9 8,
 qff 10 9 2 1,
 qlf 11 9 10,
 .rf 12 9 (.lenL (.t 11)),
 .rf 13 9 (.bin .gtr false (.t 12) (qI 200)),
 qP 14 9 13,
 qm 15 14,
 qff 16 15 3 1,
 qlf 17 15 16,
 .rf 18 15 (.lenL (.t 17)),
 .rf 19 15 (.bin .gtr false (.t 18) (qI 300)),
 qP 20 15 19,
 qm 21 20,
 qff 22 21 4 1,
 qlf 23 21 22,
 .rf 24 21 (.bin .lss false (.t 23) (qI 0)),
 qP 25 21 24,
 qm 26 25,
 qff 27 26 4 1,
 qlf 28 26 27,
 .rf 29 26 (.bin .gtr false (.t 28) (qI 300)),
 qP 30 26 29])
 (qq 30
 (.seq
 (.reg 2 none [2] [
 qc 2 false])
 .ret)
 .skip))
 (.seq
 (.seq
 (.reg 3 none [1,3] [
 qi 3 0])
 (.block 0
 (.loop
 (.seq
 (.seq
 (.reg 4 none [1,3,35] [
 qm 31 3,
 qf 32 2 1,
 ql 33 32,
 qn 34 33,
 qb 35 .lss 31 34])
 (qq 35
 .skip
 (.exit 0)))
 (.seq
 (.block 1
 (.seq
 (.reg 6 (some [0,1,0,4,0,28,60,127,255,511,1023,2047,4095,8191,16383,8191,65535,131071,262143,524287,8191,1056767,8191,4202495,15736831,32514047,66068479,133177343,268435455,536870911,1073741823]) [1,3,68] [
 qf 38 0 1,
 qL 39 2 38,
 qf 40 2 1,
 ql 41 40,
 qm 42 3,
 qx 43 1 41 42,
 ql 44 43,
 qC 45 F_ref02_Row [.t 39,.t 44],
 qB 46 .neq 45 0,
 qm 47 46,
 qmf 48 47 3,
 .rf 49 47 (.bin .gtr false (.t 48) (qI 0)),
 qmf 50 47 49,
 qft 51 50 2 1,
 qlt 52 50 51,
 qmt 53 50 3,
 .rt 54 50 (.ixL 1 (.t 52) (.t 53)),
 qlt 55 50 54,
 .rt 56 50 (.ixL 1 (.t 55) (qI 0)),
 qlt 57 50 56,
 qft 58 50 2 1,
 qlt 59 50 58,
 qmt 60 50 3,
 .rt 61 50 (.bin .sub false (.t 60) (qI 1)),
 .rt 62 50 (.ixL 1 (.t 59) (.t 61)),
 qlt 63 50 62,
 .rt 64 50 (.ixL 1 (.t 63) (qI 0)),
 qlt 65 50 64,
 .rt 66 50 (.bin .leq false (.t 57) (.t 65)),
 .rf 67 47 (.pick (.t 50) (.t 66) (.k (.v (.bool false)))),
 qP 68 47 67])
 (qq 68
 (.seq
 (.reg 7 none [2] [
 qc 2 false])
 .ret)
 .skip)))
 (.reg 5 none [1,3] [
 qm 36 3,
 qa 37 36,
 qm 3 37]))))))
 (.seq
 (.seq
 (.reg 8 none [1,4] [
 qi 4 0])
 (.block 2
 (.loop
 (.seq
 (.seq
 (.reg 9 none [1,4,73] [
 qm 69 4,
 qf 70 3 1,
 ql 71 70,
 qn 72 71,
 qb 73 .lss 69 72])
 (qq 73
 .skip
 (.exit 2)))
 (.seq
 (.block 3
 (.seq
 (.reg 11 (some [0,1,0,7,15,31,63,127,255,127,1023,2047,4095,8191,16383,32767,65535,131071,262143,524287,262143,2097151,4194303,262143,8650751,262143,33816575,126091263,260308991,536870911,1073741823,2147483647,4294967295,8589934591,8589934591,25769803775,8589934591,128849018879,266287972351,549755813887,1099511627775,2199023255551]) [1,4,117] [
 qf 76 3 1,
 ql 77 76,
 qm 78 4,
 qx 79 1 77 78,
 ql 80 79,
 qB 81 .lss 80 1,
 qm 82 81,
 qff 83 82 3 1,
 qlf 84 82 83,
 qmf 85 82 4,
 .rf 86 82 (.ixL 1 (.t 84) (.t 85)),
 qlf 87 82 86,
 .rf 88 82 (.bin .gtr false (.t 87) (qI 1048575)),
 qP 89 82 88,
 qm 90 89,
 qmf 91 90 4,
 .rf 92 90 (.bin .gtr false (.t 91) (qI 0)),
 qmf 93 90 92,
 qft 94 93 3 1,
 qlt 95 93 94,
 qmt 96 93 4,
 .rt 97 93 (.ixL 1 (.t 95) (.t 96)),
 qlt 98 93 97,
 qft 99 93 3 1,
 qlt 100 93 99,
 qmt 101 93 4,
 .rt 102 93 (.bin .sub false (.t 101) (qI 1)),
 .rt 103 93 (.ixL 1 (.t 100) (.t 102)),
 qlt 104 93 103,
 .rt 105 93 (.bin .leq false (.t 98) (.t 104)),
 .rf 106 90 (.pick (.t 93) (.t 105) (.k (.v (.bool false)))),
 qP 107 90 106,
 qm 108 107,
 .rf 109 108 (.ld (some 5) (.t 1)),
 qff 110 108 3 1,
 qlf 111 108 110,
 qmf 112 108 4,
 .rf 113 108 (.ixL 1 (.t 111) (.t 112)),
 qlf 114 108 113,
 .rf 115 108 (.call (.k (.clo F_ref04_Find [])) [.t 109,.t 114]),
 .rf 116 108 (.bin .geq false (.t 115) (qI 0)),
 qP 117 108 116])
 (qq 117
 (.seq
 (.reg 12 none [2] [
 qc 2 false])
 .ret)
 .skip)))
 (.reg 10 none [1,4] [
 qm 74 4,
 qa 75 74,
 qm 4 75]))))))
 (.seq
 (.reg 13 none [2] [
 qc 2 true])
 .ret)))))
def ks_ref04_Valid:List (Nat×List Nat):=kssOf ir_ref04_Valid
theorem fn_ref04_Valid:FnIR Tryz.prog F_ref04_Valid 118 ks_ref04_Valid ir_ref04_Valid [(.tmp 2)]:=
 qF Tryz.func64
def ir_ref10_Check:RC:=
 (.seq
 (.reg 0 none [2,3,4] [
 .r 3 (.box (.t 0)),
 .r 4 (.box (.t 1)),
 qi 6 0])
 (.seq
 (.seq
 (.reg 1 none [2,3,4,7] [
 qL 10 2 3,
 qL 11 12 4,
 qC 12 F_ref08_Check [.t 10,.t 11],
 qm 7 12])
 (.seq
 (.reg 2 none [2,3,4,7,14] [
 qm 13 7,
 qB 14 .neq 13 0])
 (qq 14
 (.seq
 (.reg 3 none [6] [
 qm 15 7,
 qm 6 15])
 .ret)
 .skip)))
 (.seq
 (.seq
 (.reg 4 none [2,3,4,8] [
 qL 16 2 3,
 qm 17 2,
 qC 18 F_ref02_Picks [.t 16,.t 17],
 qm 8 18])
 (.seq
 (.reg 5 none [2,3,4,8,20] [
 qm 19 8,
 qB 20 .neq 19 0])
 (qq 20
 (.seq
 (.reg 6 none [6] [
 qm 21 8,
 qm 6 21])
 .ret)
 .skip)))
 (.seq
 (.seq
 (.reg 7 none [2,3,4,9] [
 qi 9 0])
 (.block 0
 (.loop
 (.seq
 (.seq
 (.reg 8 none [2,3,4,9,26] [
 qm 22 9,
 qf 23 11 4,
 ql 24 23,
 qn 25 24,
 qb 26 .lss 22 25])
 (qq 26
 .skip
 (.exit 0)))
 (.seq
 (.block 1
 (.seq
 (.reg 10 (some [0,0,2,0,14,30,0,127,255]) [2,3,4,9,37] [
 qL 29 2 3,
 qf 30 11 4,
 ql 31 30,
 qm 32 9,
 qx 33 17 31 32,
 qL 34 17 33,
 qm 35 2,
 qC 36 F_ref09_Suffice [.t 29,.t 34,.t 35],
 .r 37 (.un .not (.t 36))])
 (qq 37
 (.seq
 (.reg 11 none [6] [
 qi 6 23])
 .ret)
 .skip)))
 (.reg 9 none [2,3,4,9] [
 qm 27 9,
 qa 28 27,
 qm 9 28]))))))
 (.seq
 (.reg 12 none [6] [
 qi 6 0])
 .ret)))))
def ks_ref10_Check:List (Nat×List Nat):=kssOf ir_ref10_Check
theorem fn_ref10_Check:FnIR Tryz.prog F_ref10_Check 38 ks_ref10_Check ir_ref10_Check [(.tmp 6)]:=
 qF Tryz.func65
def ir_ref13_Owners:RC:=
 (.seq
 (.reg 0 none [2,3] [
 .r 2 (.box (.t 0)),
 .r 3 (.box (.t 1)),
 .r 4 (.mv (qN))])
 (.seq
 (.seq
 (.reg 1 none [2,3,16] [
 qL 7 5 2,
 qC 8 F_ref04_Valid [.t 7],
 .r 9 (.un .not (.t 8)),
 qm 10 9,
 qff 11 10 0 2,
 .rf 12 10 (.ld (some 2) (.t 11)),
 .rf 13 10 (.ld (some 12) (.t 3)),
 .rf 14 10 (.call (.k (.clo F_ref08_Check [])) [.t 12,.t 13]),
 .rf 15 10 (.bin .neq false (.t 14) (qI 0)),
 qP 16 10 15])
 (qq 16
 (.seq
 (.reg 2 none [4] [
 .r 4 (.mv (qN))])
 .ret)
 .skip))
 (.seq
 (.reg 3 none [2,3,5] [
 .r 5 (.mv (qN))])
 (.seq
 (.seq
 (.reg 4 none [2,3,5,6] [
 qi 6 0])
 (.block 0
 (.loop
 (.seq
 (.seq
 (.reg 5 none [2,3,5,6,21] [
 qm 17 6,
 qf 18 2 2,
 ql 19 18,
 qn 20 19,
 qb 21 .lss 17 20])
 (qq 21
 .skip
 (.exit 0)))
 (.seq
 (.block 1
 (.seq
 (.reg 7 (some [0,1,0,4,0,16,0,112,240,511,1023,2047,4095,8191,4095,20479,4095,118783,249855,511999,1036287,2097151,4194303]) [2,3,5,6,46] [
 qf 24 0 2,
 qL 25 2 24,
 qf 26 2 3,
 qL 27 6 26,
 qf 28 2 2,
 ql 29 28,
 qm 30 6,
 qx 31 1 29 30,
 ql 32 31,
 qC 33 F_ref05_Eval [.t 25,.t 27,.t 32],
 qB 34 .eql 33 1,
 qm 35 34,
 qft 36 35 8 3,
 .rt 37 35 (.ld (some 3) (.t 36)),
 qft 38 35 2 2,
 qlt 39 35 38,
 qmt 40 35 6,
 .rt 41 35 (.ixL 1 (.t 39) (.t 40)),
 qlt 42 35 41,
 .rt 43 35 (.ixL 1 (.t 42) (qI 0)),
 qlt 44 35 43,
 .rt 45 35 (.call (.k (.clo F_ref11_In [])) [.t 37,.t 44]),
 qp 46 35 45])
 (qq 46
 (.reg 8 none [2,3,5,6] [
 qm 47 5,
 qf 48 2 2,
 ql 49 48,
 qm 50 6,
 qx 51 1 49 50,
 ql 52 51,
 .r 53 (.ixL 1 (.t 52) (qI 0)),
 ql 54 53,
 .r 55 (.bsl 1 1 [.t 54]),
 .r 56 (.app 1 8 false (.t 47) (.t 55)),
 qm 5 56])
 .skip)))
 (.reg 6 none [2,3,5,6] [
 qm 22 6,
 qa 23 22,
 qm 6 23]))))))
 (.seq
 (.reg 9 none [4] [
 qm 57 5,
 qm 4 57])
 .ret)))))
def ks_ref13_Owners:List (Nat×List Nat):=kssOf ir_ref13_Owners
theorem fn_ref13_Owners:FnIR Tryz.prog F_ref13_Owners 58 ks_ref13_Owners ir_ref13_Owners [(.tmp 4)]:=
 qF Tryz.func66
def ir_ref04_Find:RC:=
 (.seq
 (.reg 0 none [1,2] [
 .r 2 (.box (.t 0)),
 qi 4 0])
 (.seq
 (.seq
 (.reg 1 none [1,2,5] [
 qi 5 0])
 (.block 0
 (.loop
 (.seq
 (.seq
 (.reg 2 none [1,2,5,10] [
 qm 6 5,
 qf 7 2 2,
 ql 8 7,
 qn 9 8,
 qb 10 .lss 6 9])
 (qq 10
 .skip
 (.exit 0)))
 (.seq
 (.block 1
 (.seq
 (.reg 4 none [1,2,5,30] [
 qf 13 2 2,
 ql 14 13,
 qm 15 5,
 qx 16 1 14 15,
 ql 17 16,
 qn 18 17,
 qB 19 .gtr 18 0,
 qm 20 19,
 qft 21 20 2 2,
 qlt 22 20 21,
 qmt 23 20 5,
 .rt 24 20 (.ixL 1 (.t 22) (.t 23)),
 qlt 25 20 24,
 .rt 26 20 (.ixL 1 (.t 25) (qI 0)),
 qlt 27 20 26,
 qmt 28 20 1,
 .rt 29 20 (.bin .eql false (.t 27) (.t 28)),
 qp 30 20 29])
 (qq 30
 (.seq
 (.reg 5 none [4] [
 qm 31 5,
 qm 4 31])
 .ret)
 .skip)))
 (.reg 3 none [1,2,5] [
 qm 11 5,
 qa 12 11,
 qm 5 12]))))))
 (.seq
 (.reg 6 none [4] [
 .r 4 (.mv (.k (.v (.int .i64 (-1)))))])
 .ret)))
def ks_ref04_Find:List (Nat×List Nat):=kssOf ir_ref04_Find
theorem fn_ref04_Find:FnIR Tryz.prog F_ref04_Find 32 ks_ref04_Find ir_ref04_Find [(.tmp 4)]:=
 qF Tryz.func67
def ir_ref12_Key:RC:=
 (.seq
 (.reg 0 none [0,1] [
 qi 4 0])
 (.seq
 (.seq
 (.reg 1 none [0,1,11] [
 qm 8 0,
 qm 9 1,
 qC 10 F_ref12_right [.t 8,.t 9],
 .r 11 (.un .not (.t 10))])
 (qq 11
 (.seq
 (.reg 2 none [4] [
 .r 4 (.mv (.k (.v (.int .i64 (-1)))))])
 .ret)
 .skip))
 (.seq
 (.reg 3 none [0,5,6] [
 qm 12 1,
 qB 13 .quo 12 1024,
 qm 14 1,
 qB 15 .rem 14 1024,
 qm 5 13,
 qm 6 15])
 (.seq
 (.seq
 (.reg 4 none [0,5,6,7] [
 qi 7 0])
 (.block 0
 (.loop
 (.seq
 (.seq
 (.reg 5 none [0,5,6,7,17] [
 qm 16 7,
 qB 17 .leq 16 7])
 (qq 17
 .skip
 (.exit 0)))
 (.seq
 (.block 1
 (.reg 7 none [0,5,6,7] [
 qm 20 6,
 qm 21 5,
 qm 22 0,
 qm 23 7,
 qm 24 6,
 qC 25 F_ref12_Round [.t 22,.t 23,.t 24],
 qb 26 .xor 21 25,
 qm 5 20,
 qm 6 26]))
 (.reg 6 none [0,5,6,7] [
 qm 18 7,
 qa 19 18,
 qm 7 19]))))))
 (.seq
 (.reg 8 none [4] [
 qm 27 5,
 qB 28 .mul 27 1024,
 qm 29 6,
 qb 30 .add 28 29,
 qm 4 30])
 .ret)))))
def ks_ref12_Key:List (Nat×List Nat):=kssOf ir_ref12_Key
theorem fn_ref12_Key:FnIR Tryz.prog F_ref12_Key 31 ks_ref12_Key ir_ref12_Key [(.tmp 4)]:=
 qF Tryz.func68
def ir_ref02_Coarse:RC:=
 (.seq
 (.reg 0 none [1,2,3,4] [
 .r 4 (.box (.t 0)),
 qi 8 0])
 (.seq
 (.seq
 (.reg 1 none [1,2,3,4,16] [
 qm 11 2,
 qL 12 2 4,
 qm 13 1,
 qC 14 F_ref02_Finest [.t 12,.t 13],
 qC 15 F_ref02_in [.t 11,qI 0,.t 14],
 .r 16 (.un .not (.t 15))])
 (qq 16
 (.seq
 (.reg 2 none [8] [
 .r 8 (.mv (.k (.v (.int .i64 (-1)))))])
 .ret)
 .skip))
 (.seq
 (.reg 3 none [1,2,3,4,9] [
 qf 17 1 4,
 ql 18 17,
 qm 19 1,
 qx 20 7 18 19,
 qL 21 7 20,
 .r 9 (.new (.agg [.v (.string ⟨#[]⟩),.v (.int .i64 0),.v (.int .i64 0),.v (.int .i64 0),.v (.int .i64 0),.v (.slice none 0 0),.v (.bool false)])),
 qs 7 9 21])
 (.seq
 (.seq
 (.reg 4 none [1,2,3,4,9,24] [
 qf 22 1 9,
 ql 23 22,
 qB 24 .eql 23 2])
 (qq 24
 (.seq
 (.seq
 (.reg 5 none [2,3,4,9,29] [
 qL 25 2 4,
 qm 26 1,
 qm 27 3,
 qC 28 F_ref02_Holds [.t 25,.t 26,.t 27],
 .r 29 (.un .not (.t 28))])
 (qq 29
 (.seq
 (.reg 6 none [8] [
 .r 8 (.mv (.k (.v (.int .i64 (-1)))))])
 .ret)
 .skip))
 (.seq
 (.reg 7 none [8] [
 qf 30 0 4,
 ql 31 30,
 qf 32 2 9,
 ql 33 32,
 qx 34 2 31 33,
 qL 35 2 34,
 qm 36 3,
 qm 37 2,
 qC 38 F_ref01_Up [.t 35,.t 36,.t 37],
 qm 8 38])
 .ret))
 .skip))
 (.seq
 (.seq
 (.reg 8 none [2,3,9,45] [
 qm 39 3,
 .r 40 (.bin .neq false (.t 39) (.k (.v (.int .i64 (-1099511627776))))),
 qm 41 40,
 qmt 42 41 3,
 .rt 43 41 (.call (.k (.clo F_ref02_in [])) [.t 42,.k (.v (.int .i64 (-1000000))),qI 1000000]),
 .rt 44 41 (.un .not (.t 43)),
 qp 45 41 44])
 (qq 45
 (.seq
 (.reg 9 none [8] [
 .r 8 (.mv (.k (.v (.int .i64 (-1)))))])
 .ret)
 .skip))
 (.seq
 (.seq
 (.reg 10 none [2,3,9,47] [
 qm 46 2,
 qB 47 .eql 46 0])
 (qq 47
 (.seq
 (.reg 11 none [8] [
 qi 8 0])
 .ret)
 .skip))
 (.seq
 (.seq
 (.reg 12 none [2,3,9,49] [
 qm 48 3,
 .r 49 (.bin .eql false (.t 48) (.k (.v (.int .i64 (-1099511627776)))))])
 (qq 49
 (.seq
 (.reg 13 none [8] [
 qm 50 3,
 qm 8 50])
 .ret)
 .skip))
 (.seq
 (.reg 14 none [3,10] [
 qL 51 7 9,
 qm 52 2,
 qC 53 F_ref02_Width [.t 51,.t 52],
 qm 10 53])
 (.seq
 (.reg 15 none [8] [
 qm 54 3,
 qm 55 10,
 qC 56 F_ref02_Floor [.t 54,.t 55],
 qm 57 10,
 qb 58 .mul 56 57,
 qm 8 58])
 .ret)))))))))
def ks_ref02_Coarse:List (Nat×List Nat):=kssOf ir_ref02_Coarse
theorem fn_ref02_Coarse:FnIR Tryz.prog F_ref02_Coarse 59 ks_ref02_Coarse ir_ref02_Coarse [(.tmp 8)]:=
 qF Tryz.func69
def ir_refresh_set:RC:=
 (.seq
 (.reg 0 none [0] [
 .r 2 (.mv (qN))])
 (.seq
 (.reg 1 none [0] [
 qm 3 0,
 qC 4 F_slices_Sort_int [.t 3]])
 (.seq
 (.reg 2 none [2] [
 qm 5 0,
 qC 6 F_slices_Compact_int [.t 5],
 qm 2 6])
 .ret)))
def ks_refresh_set:List (Nat×List Nat):=kssOf ir_refresh_set
theorem fn_refresh_set:FnIR Tryz.prog F_refresh_set 7 ks_refresh_set ir_refresh_set [(.tmp 2)]:=
 qF Tryz.func70
def ir_slices_ContainsFunc_int:RC:=
 (.seq
 (.reg 0 none [0,1] [
 qc 4 false])
 (.seq
 (.reg 1 none [4] [
 qm 5 0,
 qm 6 1,
 qC 7 F_slices_IndexFunc_int [.t 5,.t 6],
 qB 8 .geq 7 0,
 qm 4 8])
 .ret))
def ks_slices_ContainsFunc_int:List (Nat×List Nat):=kssOf ir_slices_ContainsFunc_int
theorem fn_slices_ContainsFunc_int:FnIR Tryz.prog F_slices_ContainsFunc_int 9 ks_slices_ContainsFunc_int ir_slices_ContainsFunc_int [(.tmp 4)]:=
 qF Tryz.func71
def ir_refresh_Stale_1:RC:=
 (.seq
 (.reg 0 none [0,1] [
 qc 3 false])
 (.seq
 (.reg 1 none [3] [
 ql 4 1,
 qm 5 0,
 qC 6 F_slices_Contains_int [.t 4,.t 5],
 qm 3 6])
 .ret))
def ks_refresh_Stale_1:List (Nat×List Nat):=kssOf ir_refresh_Stale_1
theorem fn_refresh_Stale_1:FnIR Tryz.prog F_refresh_Stale_1 7 ks_refresh_Stale_1 ir_refresh_Stale_1 [(.tmp 3)]:=
 qF Tryz.func72
def ir_ref01_Put:RC:=
 (.seq
 (.reg 0 none [0,1] [
 .r 4 (.mv (qN))])
 (.seq
 (.seq
 (.reg 1 none [0,1,10] [
 qm 8 0,
 qm 9 1,
 qC 10 F_ref01_Has [.t 8,.t 9]])
 (qq 10
 (.seq
 (.reg 2 none [4] [
 qm 11 0,
 qm 4 11])
 .ret)
 .skip))
 (.seq
 (.reg 3 none [0,1,5] [
 .r 5 (.mv (qN))])
 (.seq
 (.reg 4 none [0,1,5,6] [
 qc 6 false])
 (.seq
 (.seq
 (.reg 5 none [0,1,5,6,7] [
 qi 7 0])
 (.block 0
 (.loop
 (.seq
 (.seq
 (.reg 6 none [0,1,5,6,7,15] [
 qm 12 7,
 qm 13 0,
 qn 14 13,
 qb 15 .lss 12 14])
 (qq 15
 .skip
 (.exit 0)))
 (.seq
 (.block 1
 (.seq
 (.seq
 (.reg 8 none [0,1,5,6,7,27] [
 qm 18 0,
 qm 19 7,
 qx 20 1 18 19,
 ql 21 20,
 qm 22 1,
 qb 23 .gtr 21 22,
 qm 24 23,
 qmt 25 24 6,
 .rt 26 24 (.un .not (.t 25)),
 qp 27 24 26])
 (qq 27
 (.reg 9 none [0,1,5,6,7] [
 qm 28 5,
 qm 29 1,
 .r 30 (.bsl 1 1 [.t 29]),
 .r 31 (.app 1 8 false (.t 28) (.t 30)),
 qm 5 31,
 qc 6 true])
 .skip))
 (.reg 10 none [0,1,5,6,7] [
 qm 32 5,
 qm 33 0,
 qm 34 7,
 qx 35 1 33 34,
 ql 36 35,
 .r 37 (.bsl 1 1 [.t 36]),
 .r 38 (.app 1 8 false (.t 32) (.t 37)),
 qm 5 38])))
 (.reg 7 none [0,1,5,6,7] [
 qm 16 7,
 qa 17 16,
 qm 7 17]))))))
 (.seq
 (.seq
 (.reg 11 none [1,5,40] [
 qm 39 6,
 .r 40 (.un .not (.t 39))])
 (qq 40
 (.reg 12 none [5] [
 qm 41 5,
 qm 42 1,
 .r 43 (.bsl 1 1 [.t 42]),
 .r 44 (.app 1 8 false (.t 41) (.t 43)),
 qm 5 44])
 .skip))
 (.seq
 (.reg 13 none [4] [
 qm 45 5,
 qm 4 45])
 .ret)))))))
def ks_ref01_Put:List (Nat×List Nat):=kssOf ir_ref01_Put
theorem fn_ref01_Put:FnIR Tryz.prog F_ref01_Put 46 ks_ref01_Put ir_ref01_Put [(.tmp 4)]:=
 qF Tryz.func73
def ir_source_Touched:RC:=
 (.seq
 (.reg 0 none [0,1,2] [
 .r 6 (.mv (qN))])
 (.seq
 (.seq
 (.reg 1 none [0,1,2,22] [
 qm 10 1,
 qB 11 .lss 10 0,
 qm 12 11,
 qmf 13 12 1,
 qmf 14 12 2,
 .rf 15 12 (.bin .gtr false (.t 13) (.t 14)),
 qP 16 12 15,
 qm 17 16,
 qmf 18 17 2,
 qmf 19 17 0,
 .rf 20 17 (.lenL (.t 19)),
 .rf 21 17 (.bin .gtr false (.t 18) (.t 20)),
 qP 22 17 21])
 (qq 22
 (.seq
 (.reg 2 none [6] [
 .r 6 (.mv (qN))])
 .ret)
 .skip))
 (.seq
 (.reg 3 none [0,1,2,7] [
 .r 7 (.mv (qN))])
 (.seq
 (.seq
 (.reg 4 none [7,26,27,28] [
 qm 23 0,
 qm 24 1,
 qm 25 2,
 .r 26 (.slL 3 (.t 23) (some (.t 24)) (some (.t 25))),
 qn 27 26,
 qi 28 0])
 (.block 0
 (.loop
 (.seq
 (.reg 5 none [7,26,27,28,29] [
 qb 29 .lss 28 27])
 (.seq
 (qq 29
 .skip
 (.exit 0))
 (.seq
 (.block 1
 (.seq
 (.reg 6 none [7,9,26,27,28] [
 qx 30 3 26 28,
 qL 31 3 30,
 .r 9 (.new (.agg [.v (.int .i64 0),.v (.slice none 0 0),.v (.int .i64 0)])),
 qs 3 9 31])
 (.seq
 (.reg 7 none [7,9,26,27,28,33] [
 qf 32 0 9,
 ql 33 32])
 (.block 2
 (.seq
 (.seq
 (.reg 8 none [7,9,26,27,28,33,34] [
 qB 35 .eql 33 1,
 qm 34 35])
 (qq 34
 .skip
 (.reg 9 none [7,9,26,27,28,33,34] [
 qB 36 .eql 33 2,
 qm 34 36])))
 (qq 34
 (.seq
 (.reg 10 none [7,9,26,27,28,40] [
 qf 37 1 9,
 ql 38 37,
 qn 39 38,
 qB 40 .gtr 39 0])
 (qq 40
 (.reg 11 none [7,26,27,28] [
 qm 41 7,
 qf 42 1 9,
 ql 43 42,
 .r 44 (.ixL 1 (.t 43) (qI 0)),
 ql 45 44,
 .r 46 (.bsl 1 1 [.t 45]),
 .r 47 (.app 1 8 false (.t 41) (.t 46)),
 qm 7 47])
 .skip))
 (.seq
 (.seq
 (.reg 12 none [7,9,26,27,28,33,48] [
 qB 49 .eql 33 3,
 qm 48 49])
 (qq 48
 .skip
 (.reg 13 none [7,9,26,27,28,48] [
 qB 50 .eql 33 4,
 qm 48 50])))
 (qq 48
 (.reg 14 none [7,26,27,28] [
 qm 51 7,
 qf 52 2 9,
 ql 53 52,
 .r 54 (.bsl 1 1 [.t 53]),
 .r 55 (.app 1 8 false (.t 51) (.t 54)),
 qm 7 55])
 .skip))))))))
 (.reg 15 none [7,26,27,28] [
 qa 56 28,
 qm 28 56])))))))
 (.seq
 (.reg 16 none [7] [
 qm 57 7,
 qC 58 F_slices_Sort_int [.t 57]])
 (.seq
 (.reg 17 none [6] [
 qm 59 7,
 qC 60 F_slices_Compact_int [.t 59],
 qm 6 60])
 .ret))))))
def ks_source_Touched:List (Nat×List Nat):=kssOf ir_source_Touched
theorem fn_source_Touched:FnIR Tryz.prog F_source_Touched 61 ks_source_Touched ir_source_Touched [(.tmp 6)]:=
 qF Tryz.func74
def ir_pseudonym_Key:RC:=
 (.seq
 (.reg 0 none [0,1] [
 qi 4 0])
 (.seq
 (.seq
 (.reg 1 none [0,1,11] [
 qm 8 0,
 qm 9 1,
 qC 10 F_pseudonym_right [.t 8,.t 9],
 .r 11 (.un .not (.t 10))])
 (qq 11
 (.seq
 (.reg 2 none [4] [
 .r 4 (.mv (.k (.v (.int .i64 (-1)))))])
 .ret)
 .skip))
 (.seq
 (.reg 3 none [0,5,6] [
 qm 12 1,
 qB 13 .quo 12 1024,
 qm 14 1,
 qB 15 .rem 14 1024,
 qm 5 13,
 qm 6 15])
 (.seq
 (.seq
 (.reg 4 none [0,5,6,16] [
 qi 16 0])
 (.block 0
 (.loop
 (.seq
 (.reg 5 none [0,5,6,16,17] [
 qB 17 .lss 16 8])
 (.seq
 (qq 17
 .skip
 (.exit 0))
 (.seq
 (.block 1
 (.seq
 (.reg 6 none [0,5,6,7,16] [
 qm 18 16,
 qm 7 18])
 (.reg 7 none [0,5,6,16] [
 qm 19 6,
 qm 20 5,
 qm 21 0,
 qm 22 7,
 qm 23 6,
 qC 24 F_pseudonym_mix [.t 21,.t 22,.t 23],
 qb 25 .xor 20 24,
 qm 5 19,
 qm 6 25])))
 (.reg 8 none [0,5,6,16] [
 qa 26 16,
 qm 16 26])))))))
 (.seq
 (.reg 9 none [4] [
 qm 27 5,
 qB 28 .mul 27 1024,
 qm 29 6,
 qb 30 .add 28 29,
 qm 4 30])
 .ret)))))
def ks_pseudonym_Key:List (Nat×List Nat):=kssOf ir_pseudonym_Key
theorem fn_pseudonym_Key:FnIR Tryz.prog F_pseudonym_Key 31 ks_pseudonym_Key ir_pseudonym_Key [(.tmp 4)]:=
 qF Tryz.func75
def ir_ref12_right:RC:=
 (.seq
 (.reg 0 none [0,1] [
 qc 4 false])
 (.seq
 (.reg 1 none [4] [
 qm 5 0,
 qB 6 .geq 5 0,
 qm 7 6,
 qmt 8 7 0,
 .rt 9 7 (.bin .lss false (.t 8) (qI 1152921504606846976)),
 qp 10 7 9,
 qm 11 10,
 qmt 12 11 1,
 .rt 13 11 (.bin .geq false (.t 12) (qI 0)),
 qp 14 11 13,
 qm 15 14,
 qmt 16 15 1,
 .rt 17 15 (.bin .lss false (.t 16) (qI 1048576)),
 qp 18 15 17,
 qm 4 18])
 .ret))
def ks_ref12_right:List (Nat×List Nat):=kssOf ir_ref12_right
theorem fn_ref12_right:FnIR Tryz.prog F_ref12_right 19 ks_ref12_right ir_ref12_right [(.tmp 4)]:=
 qF Tryz.func77
def ir_ref12_Round:RC:=
 (.seq
 (.reg 0 none [0,1,2] [
 qi 6 0])
 (.seq
 (.seq
 (.reg 1 none [0,1,2,30] [
 qm 9 0,
 qB 10 .lss 9 0,
 qm 11 10,
 qmf 12 11 0,
 .rf 13 11 (.bin .geq false (.t 12) (qI 1152921504606846976)),
 qP 14 11 13,
 qm 15 14,
 qmf 16 15 1,
 .rf 17 15 (.bin .lss false (.t 16) (qI 0)),
 qP 18 15 17,
 qm 19 18,
 qmf 20 19 1,
 .rf 21 19 (.bin .gtr false (.t 20) (qI 7)),
 qP 22 19 21,
 qm 23 22,
 qmf 24 23 2,
 .rf 25 23 (.bin .lss false (.t 24) (qI 0)),
 qP 26 23 25,
 qm 27 26,
 qmf 28 27 2,
 .rf 29 27 (.bin .gtr false (.t 28) (qI 1023)),
 qP 30 27 29])
 (qq 30
 (.seq
 (.reg 2 none [6] [
 qi 6 0])
 .ret)
 .skip))
 (.seq
 (.reg 3 none [7] [
 qm 31 0,
 .r 32 (.cvI .u64 (.t 31)),
 qm 33 1,
 .r 34 (.cvI .u64 (.t 33)),
 .r 35 (.bin .mul false (.t 34) (.k (.v (.int .u64 11400714819323198485)))),
 qb 36 .add 32 35,
 qm 37 2,
 .r 38 (.cvI .u64 (.t 37)),
 .r 39 (.bin .mul false (.t 38) (.k (.v (.int .u64 14029467366897019727)))),
 qb 40 .add 36 39,
 qm 7 40])
 (.seq
 (.seq
 (.reg 4 none [7,8] [
 qi 8 0])
 (.block 0
 (.loop
 (.seq
 (.seq
 (.reg 5 none [7,8,42] [
 qm 41 8,
 qB 42 .lss 41 3])
 (qq 42
 .skip
 (.exit 0)))
 (.seq
 (.block 1
 (.seq
 (.reg 7 none [7,8] [
 qm 45 7,
 qm 46 7,
 .r 47 (.bin .shr false (.t 46) (.k (.v (.int .u64 31)))),
 qb 48 .xor 45 47,
 qm 7 48])
 (.reg 8 none [7,8] [
 qm 49 7,
 .r 50 (.bin .mul false (.t 49) (.k (.v (.int .u64 13787848793156543929)))),
 qm 7 50])))
 (.reg 6 none [7,8] [
 qm 43 8,
 qa 44 43,
 qm 8 44]))))))
 (.seq
 (.reg 9 none [6] [
 qm 51 7,
 .r 52 (.bin .shr false (.t 51) (.k (.v (.int .u64 54)))),
 .r 53 (.cvI .i64 (.t 52)),
 qm 6 53])
 .ret)))))
def ks_ref12_Round:List (Nat×List Nat):=kssOf ir_ref12_Round
theorem fn_ref12_Round:FnIR Tryz.prog F_ref12_Round 54 ks_ref12_Round ir_ref12_Round [(.tmp 6)]:=
 qF Tryz.func78
def ir_slices_BinarySearchFunc_LLint_Lint_int:RC:=
 (.seq
 (.reg 0 none [0,1,2] [
 qi 6 0,
 qc 7 false])
 (.seq
 (.reg 1 none [0,1,2,8] [
 qm 12 0,
 qn 13 12,
 qm 8 13])
 (.seq
 (.reg 2 none [0,1,2,8,9,10] [
 qm 14 8,
 qi 9 0,
 qm 10 14])
 (.seq
 (.block 0
 (.loop
 (.seq
 (.seq
 (.reg 3 none [0,1,2,8,9,10,17] [
 qm 15 9,
 qm 16 10,
 qb 17 .lss 15 16])
 (qq 17
 .skip
 (.exit 0)))
 (.block 1
 (.seq
 (.reg 4 none [0,1,2,8,9,10,11] [
 qm 18 9,
 qm 19 10,
 qb 20 .add 18 19,
 .r 21 (.cvI .u64 (.t 20)),
 .r 22 (.bin .shr false (.t 21) (.k (.v (.int .u64 1)))),
 .r 23 (.cvI .i64 (.t 22)),
 qm 11 23])
 (.seq
 (.reg 5 none [0,1,2,8,9,10,11,31] [
 qm 24 2,
 qm 25 0,
 qm 26 11,
 qx 27 1 25 26,
 ql 28 27,
 qm 29 1,
 .r 30 (.call (.t 24) [.t 28,.t 29]),
 qB 31 .lss 30 0])
 (qq 31
 (.reg 6 none [0,1,2,8,9,10] [
 qm 32 11,
 qa 33 32,
 qm 9 33])
 (.reg 7 none [0,1,2,8,9,10] [
 qm 34 11,
 qm 10 34]))))))))
 (.seq
 (.reg 8 none [6,7] [
 qm 35 9,
 qm 36 9,
 qm 37 8,
 qb 38 .lss 36 37,
 qm 39 38,
 qmt 40 39 2,
 qmt 41 39 0,
 qmt 42 39 9,
 .rt 43 39 (.ixL 1 (.t 41) (.t 42)),
 qlt 44 39 43,
 qmt 45 39 1,
 .rt 46 39 (.call (.t 40) [.t 44,.t 45]),
 .rt 47 39 (.bin .eql false (.t 46) (qI 0)),
 qp 48 39 47,
 qm 6 35,
 qm 7 48])
 .ret)))))
def ks_slices_BinarySearchFunc_LLint_Lint_int:List (Nat×List Nat):=kssOf ir_slices_BinarySearchFunc_LLint_Lint_int
theorem fn_slices_BinarySearchFunc_LLint_Lint_int:FnIR Tryz.prog F_slices_BinarySearchFunc_LLint_Lint_int 49 ks_slices_BinarySearchFunc_LLint_Lint_int ir_slices_BinarySearchFunc_LLint_Lint_int [(.tmp 6),(.tmp 7)]:=
 qF Tryz.func79
def ir_refresh_find_1:RC:=
 (.seq
 (.reg 0 none [0,1] [
 qi 4 0])
 (.seq
 (.block 0
 (.seq
 (.reg 1 none [0,1,5] [
 qm 6 0,
 .r 7 (.ixL 1 (.t 6) (qI 0)),
 ql 8 7,
 qm 9 1,
 qb 10 .lss 8 9,
 qm 5 10])
 (qq 5
 (.seq
 (.reg 2 none [4] [
 .r 4 (.mv (.k (.v (.int .i64 (-1)))))])
 .ret)
 (.seq
 (.reg 3 none [11] [
 qm 12 0,
 .r 13 (.ixL 1 (.t 12) (qI 0)),
 ql 14 13,
 qm 15 1,
 qb 16 .gtr 14 15,
 qm 11 16])
 (qq 11
 (.seq
 (.reg 4 none [4] [
 qi 4 1])
 .ret)
 .skip)))))
 (.seq
 (.reg 5 none [4] [
 qi 4 0])
 .ret)))
def ks_refresh_find_1:List (Nat×List Nat):=kssOf ir_refresh_find_1
theorem fn_refresh_find_1:FnIR Tryz.prog F_refresh_find_1 17 ks_refresh_find_1 ir_refresh_find_1 [(.tmp 4)]:=
 qF Tryz.func80
def ir_slices_IndexFunc_Lint:RC:=
 (.seq
 (.reg 0 none [0,1] [
 qi 4 0])
 (.seq
 (.seq
 (.reg 1 none [0,1,7,8] [
 qm 6 0,
 qn 7 6,
 qi 8 0])
 (.block 0
 (.loop
 (.seq
 (.reg 2 none [0,1,7,8,9] [
 qb 9 .lss 8 7])
 (.seq
 (qq 9
 .skip
 (.exit 0))
 (.seq
 (.block 1
 (.seq
 (.reg 3 none [0,1,5,7,8] [
 qm 10 8,
 qm 5 10])
 (.seq
 (.reg 4 none [0,1,5,7,8,16] [
 qm 11 1,
 qm 12 0,
 qm 13 5,
 qx 14 1 12 13,
 ql 15 14,
 .r 16 (.call (.t 11) [.t 15])])
 (qq 16
 (.seq
 (.reg 5 none [4] [
 qm 17 5,
 qm 4 17])
 .ret)
 .skip))))
 (.reg 6 none [0,1,7,8] [
 qa 18 8,
 qm 8 18])))))))
 (.seq
 (.reg 7 none [4] [
 .r 4 (.mv (.k (.v (.int .i64 (-1)))))])
 .ret)))
def ks_slices_IndexFunc_Lint:List (Nat×List Nat):=kssOf ir_slices_IndexFunc_Lint
theorem fn_slices_IndexFunc_Lint:FnIR Tryz.prog F_slices_IndexFunc_Lint 19 ks_slices_IndexFunc_Lint ir_slices_IndexFunc_Lint [(.tmp 4)]:=
 qF Tryz.func81
def ir_slices_Index_int:RC:=
 (.seq
 (.reg 0 none [0,1] [
 qi 4 0])
 (.seq
 (.seq
 (.reg 1 none [0,1,7,8] [
 qm 6 0,
 qn 7 6,
 qi 8 0])
 (.block 0
 (.loop
 (.seq
 (.reg 2 none [0,1,7,8,9] [
 qb 9 .lss 8 7])
 (.seq
 (qq 9
 .skip
 (.exit 0))
 (.seq
 (.block 1
 (.seq
 (.reg 3 none [0,1,5,7,8] [
 qm 10 8,
 qm 5 10])
 (.seq
 (.reg 4 none [0,1,5,7,8,16] [
 qm 11 1,
 qm 12 0,
 qm 13 5,
 qx 14 1 12 13,
 ql 15 14,
 qb 16 .eql 11 15])
 (qq 16
 (.seq
 (.reg 5 none [4] [
 qm 17 5,
 qm 4 17])
 .ret)
 .skip))))
 (.reg 6 none [0,1,7,8] [
 qa 18 8,
 qm 8 18])))))))
 (.seq
 (.reg 7 none [4] [
 .r 4 (.mv (.k (.v (.int .i64 (-1)))))])
 .ret)))
def ks_slices_Index_int:List (Nat×List Nat):=kssOf ir_slices_Index_int
theorem fn_slices_Index_int:FnIR Tryz.prog F_slices_Index_int 19 ks_slices_Index_int ir_slices_Index_int [(.tmp 4)]:=
 qF Tryz.func82
def ir_draw_Codes_List:RC:=
 (.seq
 (.reg 0 none [0,1,4] [
 .r 4 (.new (.agg [.v (.string ⟨#[]⟩),.v (.slice none 0 0)]))])
 (.seq
 (.reg 1 none [0,4,5] [
 qm 10 1,
 .r 11 (.build [.v (.string ⟨#[]⟩),.v (.int .i64 0)] [((0,1),.k (.v (.string ⟨#[116,111,112]⟩))),((1,1),.k (.v (.int .i64 (-1))))]),
 .r 12 (.bsl 2 1 [.t 11]),
 .r 13 (.build [.v (.string ⟨#[]⟩),.v (.slice none 0 0)] [((0,1),.t 10),((1,1),.t 12)]),
 .r 5 (.new (.agg [.v (.string ⟨#[]⟩),.v (.slice none 0 0)])),
 qs 2 5 13])
 (.seq
 (.reg 2 none [0,4,5,6] [
 qm 14 0,
 qC 15 F_draw_Codes_Range [.t 14,qI 1,qI 3],
 qm 6 15])
 (.seq
 (.seq
 (.reg 3 none [0,4,5,6,7] [
 qi 7 0])
 (.block 0
 (.loop
 (.seq
 (.seq
 (.reg 4 none [0,4,5,6,7,18] [
 qm 16 7,
 qm 17 6,
 qb 18 .lss 16 17])
 (qq 18
 .skip
 (.exit 0)))
 (.seq
 (.block 1
 (.reg 6 (some [0,1,0,4,12,28,60,127,255,511]) [0,4,5,6,7] [
 qf 21 1 5,
 ql 22 21,
 qm 23 7,
 qC 24 F_strconv_Itoa [.t 23],
 .r 25 (.bin .add false (.k (.v (.string ⟨#[107]⟩))) (.t 24)),
 .r 26 (.build [.v (.string ⟨#[]⟩),.v (.int .i64 0)] [((0,1),.t 25)]),
 .r 27 (.bsl 2 1 [.t 26]),
 .r 28 (.app 2 24 false (.t 22) (.t 27)),
 qf 29 1 5,
 qs 1 29 28]))
 (.reg 5 none [0,4,5,6,7] [
 qm 19 7,
 qa 20 19,
 qm 7 20]))))))
 (.seq
 (.seq
 (.reg 7 none [0,4,5,6,31] [
 qm 30 0,
 qC 31 F_draw_Codes_One [.t 30,qI 2]])
 (qq 31
 (.seq
 (.reg 8 none [4] [
 qL 32 2 5,
 qs 2 4 32])
 .ret)
 .skip))
 (.seq
 (.seq
 (.reg 9 none [0,4,5,6,8] [
 qi 8 0])
 (.block 2
 (.loop
 (.seq
 (.seq
 (.reg 10 none [0,4,5,6,8,35] [
 qm 33 8,
 qm 34 6,
 qb 35 .lss 33 34])
 (qq 35
 .skip
 (.exit 2)))
 (.seq
 (.block 3
 (.seq
 (.reg 12 none [0,4,5,6,8,9] [
 qm 38 0,
 qC 39 F_draw_Codes_Range [.t 38,qI 1,qI 2],
 qm 9 39])
 (.block 4
 (.loop
 (.seq
 (.seq
 (.reg 13 none [0,4,5,6,8,9,41] [
 qm 40 9,
 qB 41 .gtr 40 0])
 (qq 41
 .skip
 (.exit 4)))
 (.seq
 (.block 5
 (.reg 15 (some [0,1,0,4,12,28,60,0,128,508,1020,2047,4095,8191]) [0,4,5,6,8,9] [
 qf 44 1 5,
 ql 45 44,
 qf 46 1 5,
 ql 47 46,
 qn 48 47,
 qC 49 F_strconv_Itoa [.t 48],
 .r 50 (.bin .add false (.k (.v (.string ⟨#[108]⟩))) (.t 49)),
 qm 51 8,
 .r 52 (.bin .add false (qI 1) (.t 51)),
 .r 53 (.build [.v (.string ⟨#[]⟩),.v (.int .i64 0)] [((0,1),.t 50),((1,1),.t 52)]),
 .r 54 (.bsl 2 1 [.t 53]),
 .r 55 (.app 2 24 false (.t 45) (.t 54)),
 qf 56 1 5,
 qs 1 56 55]))
 (.reg 14 none [0,4,5,6,8,9] [
 qm 42 9,
 qB 43 .sub 42 1,
 qm 9 43])))))))
 (.reg 11 none [0,4,5,6,8] [
 qm 36 8,
 qa 37 36,
 qm 8 37]))))))
 (.seq
 (.reg 16 none [4] [
 qL 57 2 5,
 qs 2 4 57])
 .ret)))))))
def ks_draw_Codes_List:List (Nat×List Nat):=kssOf ir_draw_Codes_List
theorem fn_draw_Codes_List:FnIR Tryz.prog F_draw_Codes_List 58 ks_draw_Codes_List ir_draw_Codes_List [(.cell 4 (some 2))]:=
 qF Tryz.func85
def ir_draw_Codes_Measure:RC:=
 (.seq
 (.reg 0 none [0,1,4] [
 .r 4 (.new (.agg [.v (.string ⟨#[]⟩),.v (.int .i64 0),.v (.int .i64 0),.v (.int .i64 0),.v (.int .i64 0),.v (.slice none 0 0),.v (.bool false)]))])
 (.seq
 (.reg 1 (some [0,0,2,0,0,0,0,120,0,262,1022,2046,0,4870,16383,0,65535]) [0,4,5] [
 qm 6 1,
 qm 7 0,
 qC 8 F_draw_Codes_Range [.t 7,.k (.v (.int .i64 (-4))),qI 2],
 .r 9 (.bsl 1 1 [qI 1]),
 .r 10 (.bsl 1 2 [qI 1,qI 5]),
 .r 11 (.bsl 1 3 [qI 1,qI 5,qI 20]),
 .r 12 (.bsl 1 4 [qI 1,qI 2,qI 4,qI 12]),
 .r 13 (.bsl 1 4 [.t 9,.t 10,.t 11,.t 12]),
 qm 14 0,
 qC 15 F_draw_Codes_Next [.t 14,qI 4],
 qx 16 1 13 15,
 ql 17 16,
 qm 18 0,
 qC 19 F_draw_Codes_One [.t 18,qI 3],
 .r 20 (.build [.v (.string ⟨#[]⟩),.v (.int .i64 0),.v (.int .i64 0),.v (.int .i64 0),.v (.int .i64 0),.v (.slice none 0 0),.v (.bool false)] [((0,1),.t 6),((1,1),qI 3),((3,1),.t 8),((5,1),.t 17),((6,1),.t 19)]),
 .r 5 (.new (.agg [.v (.string ⟨#[]⟩),.v (.int .i64 0),.v (.int .i64 0),.v (.int .i64 0),.v (.int .i64 0),.v (.slice none 0 0),.v (.bool false)])),
 qs 7 5 20])
 (.seq
 (.reg 2 (some [0,1,0,4,15,31,63]) [4,5] [
 qf 21 3 5,
 ql 22 21,
 qm 23 0,
 qC 24 F_draw_Codes_Next [.t 23,qI 45],
 qb 25 .add 22 24,
 qf 26 4 5,
 qs 1 26 25])
 (.seq
 (.reg 3 none [4] [
 qL 27 7 5,
 qs 7 4 27])
 .ret))))
def ks_draw_Codes_Measure:List (Nat×List Nat):=kssOf ir_draw_Codes_Measure
theorem fn_draw_Codes_Measure:FnIR Tryz.prog F_draw_Codes_Measure 28 ks_draw_Codes_Measure ir_draw_Codes_Measure [(.cell 4 (some 7))]:=
 qF Tryz.func86
def ir_draw_Codes_Value:RC:=
 (.seq
 (.reg 0 none [0,2,4] [
 .r 4 (.box (.t 1)),
 qi 6 0])
 (.seq
 (.reg 1 none [0,2,4,7] [
 qf 9 1 4,
 ql 10 9,
 qm 11 2,
 qx 12 7 10 11,
 qL 13 7 12,
 .r 7 (.new (.agg [.v (.string ⟨#[]⟩),.v (.int .i64 0),.v (.int .i64 0),.v (.int .i64 0),.v (.int .i64 0),.v (.slice none 0 0),.v (.bool false)])),
 qs 7 7 13])
 (.seq
 (.seq
 (.reg 2 none [0,2,4,7,15] [
 qf 14 1 7,
 ql 15 14])
 (.block 0
 (.seq
 (.reg 3 none [0,2,4,7,15,16] [
 qB 17 .eql 15 1,
 qm 16 17])
 (qq 16
 (.seq
 (.reg 4 none [6] [
 qm 18 0,
 qC 19 F_draw_Codes_Range [.t 18,qI 1,qI 60],
 qm 6 19])
 .ret)
 (.seq
 (.reg 5 none [0,2,4,7,20] [
 qB 21 .eql 15 2,
 qm 20 21])
 (qq 20
 (.seq
 (.reg 6 none [0,8] [
 qL 22 2 4,
 qm 23 2,
 qC 24 F_ref02_Leaves [.t 22,.t 23],
 qm 8 24])
 (.seq
 (.reg 7 none [6] [
 qm 25 8,
 qm 26 0,
 qm 27 8,
 qn 28 27,
 qC 29 F_draw_Codes_Next [.t 26,.t 28],
 qx 30 1 25 29,
 ql 31 30,
 qm 6 31])
 .ret))
 .skip))))))
 (.seq
 (.seq
 (.reg 8 none [0,7,37] [
 qf 32 6 7,
 ql 33 32,
 qm 34 33,
 qmt 35 34 0,
 .rt 36 34 (.call (.k (.clo F_draw_Codes_One [])) [.t 35,qI 4]),
 qp 37 34 36])
 (qq 37
 (.seq
 (.reg 9 none [6] [
 .r 6 (.mv (.k (.v (.int .i64 (-1099511627776)))))])
 .ret)
 .skip))
 (.seq
 (.reg 10 none [6] [
 qm 38 0,
 qf 39 3 7,
 ql 40 39,
 qf 41 4 7,
 ql 42 41,
 qC 43 F_draw_Codes_Range [.t 38,.t 40,.t 42],
 qm 6 43])
 .ret)))))
def ks_draw_Codes_Value:List (Nat×List Nat):=kssOf ir_draw_Codes_Value
theorem fn_draw_Codes_Value:FnIR Tryz.prog F_draw_Codes_Value 44 ks_draw_Codes_Value ir_draw_Codes_Value [(.tmp 6)]:=
 qF Tryz.func87
def ir_internal_strconv_Itoa:RC:=
 (.seq
 (.reg 0 none [0] [
 .r 2 (.mv (.k (.v (.string ⟨#[]⟩))))])
 (.seq
 (.reg 1 none [2] [
 qm 3 0,
 qC 4 F_internal_strconv_FormatInt [.t 3,qI 10],
 qm 2 4])
 .ret))
def ks_internal_strconv_Itoa:List (Nat×List Nat):=kssOf ir_internal_strconv_Itoa
theorem fn_internal_strconv_Itoa:FnIR Tryz.prog F_internal_strconv_Itoa 5 ks_internal_strconv_Itoa ir_internal_strconv_Itoa [(.tmp 2)]:=
 qF Tryz.func88
def ir_draw_Codes_Coded:RC:=
 (.seq
 (.reg 0 none [0,3] [
 .r 3 (.box (.t 1)),
 qi 4 0])
 (.seq
 (.reg 1 none [0,5] [
 qL 6 2 3,
 qC 7 F_draw_columns [.t 6,qI 2],
 qm 5 7])
 (.seq
 (.reg 2 none [4] [
 qm 8 5,
 qm 9 0,
 qm 10 5,
 qn 11 10,
 qC 12 F_draw_Codes_Next [.t 9,.t 11],
 qx 13 1 8 12,
 ql 14 13,
 qm 4 14])
 .ret)))
def ks_draw_Codes_Coded:List (Nat×List Nat):=kssOf ir_draw_Codes_Coded
theorem fn_draw_Codes_Coded:FnIR Tryz.prog F_draw_Codes_Coded 15 ks_draw_Codes_Coded ir_draw_Codes_Coded [(.tmp 4)]:=
 qF Tryz.func89
def ir_draw_Codes_Measured:RC:=
 (.seq
 (.reg 0 none [0,3] [
 .r 3 (.box (.t 1)),
 qi 4 0])
 (.seq
 (.reg 1 none [0,5] [
 qL 6 2 3,
 qC 7 F_draw_columns [.t 6,qI 3],
 qm 5 7])
 (.seq
 (.reg 2 none [4] [
 qm 8 5,
 qm 9 0,
 qm 10 5,
 qn 11 10,
 qC 12 F_draw_Codes_Next [.t 9,.t 11],
 qx 13 1 8 12,
 ql 14 13,
 qm 4 14])
 .ret)))
def ks_draw_Codes_Measured:List (Nat×List Nat):=kssOf ir_draw_Codes_Measured
theorem fn_draw_Codes_Measured:FnIR Tryz.prog F_draw_Codes_Measured 15 ks_draw_Codes_Measured ir_draw_Codes_Measured [(.tmp 4)]:=
 qF Tryz.func90
def ir_draw_Codes_Terms:RC:=
 (.seq
 (.reg 0 none [0,2,4] [
 .r 4 (.box (.t 1)),
 .r 6 (.mv (qN))])
 (.seq
 (.reg 1 none [0,2,4,7] [
 .r 7 (.mv (qN))])
 (.seq
 (.reg 2 none [0,2,7,8] [
 qL 10 2 4,
 qC 11 F_draw_columns [.t 10,qI 3],
 qm 8 11])
 (.seq
 (.seq
 (.reg 3 none [0,2,7,8,13,14] [
 qm 12 8,
 qn 13 12,
 qi 14 0])
 (.block 0
 (.loop
 (.seq
 (.reg 4 none [0,2,7,8,13,14,15] [
 qb 15 .lss 14 13])
 (.seq
 (qq 15
 .skip
 (.exit 0))
 (.seq
 (.block 1
 (.seq
 (.reg 5 none [0,2,7,8,9,13,14] [
 qm 16 14,
 qm 9 16])
 (.seq
 (.reg 6 none [0,2,7,8,9,13,14,31] [
 qm 17 8,
 qm 18 9,
 qx 19 1 17 18,
 ql 20 19,
 qm 21 2,
 qb 22 .neq 20 21,
 qm 23 22,
 qmt 24 23 7,
 .rt 25 23 (.lenL (.t 24)),
 .rt 26 23 (.bin .eql false (.t 25) (qI 0)),
 qmt 27 23 26,
 qmf 28 27 0,
 .rf 29 27 (.call (.k (.clo F_draw_Codes_One [])) [.t 28,qI 2]),
 .rt 30 23 (.pick (.t 27) (.k (.v (.bool true))) (.t 29)),
 qp 31 23 30])
 (qq 31
 (.reg 7 none [0,2,7,8,13,14] [
 qm 32 7,
 qm 33 8,
 qm 34 9,
 qx 35 1 33 34,
 ql 36 35,
 .r 37 (.bsl 1 1 [.t 36]),
 .r 38 (.app 1 8 false (.t 32) (.t 37)),
 qm 7 38])
 .skip))))
 (.reg 8 none [0,2,7,8,13,14] [
 qa 39 14,
 qm 14 39])))))))
 (.seq
 (.reg 9 none [6] [
 qm 40 7,
 qm 6 40])
 .ret)))))
def ks_draw_Codes_Terms:List (Nat×List Nat):=kssOf ir_draw_Codes_Terms
theorem fn_draw_Codes_Terms:FnIR Tryz.prog F_draw_Codes_Terms 41 ks_draw_Codes_Terms ir_draw_Codes_Terms [(.tmp 6)]:=
 qF Tryz.func91
def ir_draw_Codes_Dims:RC:=
 (.seq
 (.reg 0 none [0,3] [
 .r 3 (.box (.t 1)),
 .r 4 (.mv (qN))])
 (.seq
 (.reg 1 none [0,3,5] [
 .r 5 (.mv (qN))])
 (.seq
 (.reg 2 none [0,3,5,6] [
 qL 8 2 3,
 qC 9 F_draw_columns [.t 8,qI 2],
 qm 6 9])
 (.seq
 (.seq
 (.reg 3 none [0,3,5,6,11] [
 qm 10 0,
 qC 11 F_draw_Codes_One [.t 10,qI 2]])
 (qq 11
 (.reg 4 none [0,3,5,6] [
 qm 12 6,
 qm 13 0,
 qm 14 6,
 qn 15 14,
 qC 16 F_draw_Codes_Next [.t 13,.t 15],
 .r 17 (.slL 1 (.t 12) (some (.t 16)) none),
 qm 6 17])
 .skip))
 (.seq
 (.seq
 (.reg 5 none [0,3,5,6,19,20] [
 qm 18 6,
 qn 19 18,
 qi 20 0])
 (.block 0
 (.loop
 (.seq
 (.reg 6 none [0,3,5,6,19,20,21] [
 qb 21 .lss 20 19])
 (.seq
 (qq 21
 .skip
 (.exit 0))
 (.seq
 (.block 1
 (.seq
 (.reg 7 none [0,3,5,6,7,19,20] [
 qm 22 20,
 qm 7 22])
 (.reg 8 (some [0,0,0,6,14,0,0,0,0,384,896,1984,4032,8160,16382,32766,65535,131071]) [0,3,5,6,19,20] [
 qm 23 5,
 qm 24 6,
 qm 25 7,
 qx 26 1 24 25,
 ql 27 26,
 qm 28 0,
 qL 29 2 3,
 qm 30 6,
 qm 31 7,
 qx 32 1 30 31,
 ql 33 32,
 qC 34 F_ref02_Finest [.t 29,.t 33],
 qa 35 34,
 qC 36 F_draw_Codes_Next [.t 28,.t 35],
 .r 37 (.build [.v (.int .i64 0),.v (.int .i64 0)] [((0,1),.t 27),((1,1),.t 36)]),
 .r 38 (.bsl 2 1 [.t 37]),
 .r 39 (.app 2 16 false (.t 23) (.t 38)),
 qm 5 39])))
 (.reg 9 none [0,3,5,6,19,20] [
 qa 40 20,
 qm 20 40])))))))
 (.seq
 (.reg 10 none [4] [
 qm 41 5,
 qm 4 41])
 .ret))))))
def ks_draw_Codes_Dims:List (Nat×List Nat):=kssOf ir_draw_Codes_Dims
theorem fn_draw_Codes_Dims:FnIR Tryz.prog F_draw_Codes_Dims 42 ks_draw_Codes_Dims ir_draw_Codes_Dims [(.tmp 4)]:=
 qF Tryz.func92
def ir_ref02_Check:RC:=
 (.seq
 (.reg 0 none [1] [
 .r 1 (.box (.t 0)),
 qi 2 0])
 (.seq
 (.seq
 (.reg 1 none [1,17] [
 qf 8 0 1,
 ql 9 8,
 qn 10 9,
 qB 11 .gtr 10 6,
 qm 12 11,
 qff 13 12 1 1,
 qlf 14 12 13,
 .rf 15 12 (.lenL (.t 14)),
 .rf 16 12 (.bin .gtr false (.t 15) (qI 8)),
 qP 17 12 16])
 (qq 17
 (.seq
 (.reg 2 none [2] [
 qi 2 1])
 .ret)
 .skip))
 (.seq
 (.seq
 (.reg 3 none [1,3] [
 qi 3 0])
 (.block 0
 (.loop
 (.seq
 (.seq
 (.reg 4 none [1,3,22] [
 qm 18 3,
 qf 19 0 1,
 ql 20 19,
 qn 21 20,
 qb 22 .lss 18 21])
 (qq 22
 .skip
 (.exit 0)))
 (.seq
 (.block 1
 (.seq
 (.seq
 (.reg 6 none [1,3,4] [
 qf 25 0 1,
 ql 26 25,
 qm 27 3,
 qx 28 2 26 27,
 qL 29 2 28,
 qC 30 F_ref01_Check [.t 29],
 qm 4 30])
 (.seq
 (.reg 7 none [1,3,4,32] [
 qm 31 4,
 qB 32 .neq 31 0])
 (qq 32
 (.seq
 (.reg 8 none [2] [
 qm 33 4,
 qm 2 33])
 .ret)
 .skip)))
 (.seq
 (.reg 9 none [1,3,5] [
 qi 5 0])
 (.block 2
 (.loop
 (.seq
 (.seq
 (.reg 10 none [1,3,5,36] [
 qm 34 5,
 qm 35 3,
 qb 36 .lss 34 35])
 (qq 36
 .skip
 (.exit 2)))
 (.seq
 (.block 3
 (.seq
 (.reg 12 (some [0,1,0,7,15,31,0,64,0,448,960,1984,4095]) [1,3,5,51] [
 qf 39 0 1,
 ql 40 39,
 qm 41 5,
 qx 42 2 40 41,
 qf 43 0 42,
 ql 44 43,
 qf 45 0 1,
 ql 46 45,
 qm 47 3,
 qx 48 2 46 47,
 qf 49 0 48,
 ql 50 49,
 qb 51 .eql 44 50])
 (qq 51
 (.seq
 (.reg 13 none [2] [
 qi 2 10])
 .ret)
 .skip)))
 (.reg 11 none [1,3,5] [
 qm 37 5,
 qa 38 37,
 qm 5 38]))))))))
 (.reg 5 none [1,3] [
 qm 23 3,
 qa 24 23,
 qm 3 24]))))))
 (.seq
 (.seq
 (.reg 14 none [1,63] [
 qf 52 1 1,
 ql 53 52,
 qn 54 53,
 qB 55 .eql 54 0,
 qm 56 55,
 qff 57 56 1 1,
 qlf 58 56 57,
 .rf 59 56 (.ixL 7 (.t 58) (qI 0)),
 qff 60 56 1 59,
 qlf 61 56 60,
 .rf 62 56 (.bin .neq false (.t 61) (qI 1)),
 qP 63 56 62])
 (qq 63
 (.seq
 (.reg 15 none [2] [
 qi 2 7])
 .ret)
 .skip))
 (.seq
 (.seq
 (.reg 16 none [1,6] [
 qi 6 0])
 (.block 4
 (.loop
 (.seq
 (.seq
 (.reg 17 none [1,6,68] [
 qm 64 6,
 qf 65 1 1,
 ql 66 65,
 qn 67 66,
 qb 68 .lss 64 67])
 (qq 68
 .skip
 (.exit 4)))
 (.seq
 (.block 5
 (.seq
 (.reg 19 none [1,6,7] [
 qL 71 2 1,
 qm 72 6,
 qC 73 F_ref02_column [.t 71,.t 72],
 qm 7 73])
 (.seq
 (.reg 20 none [1,6,7,75] [
 qm 74 7,
 qB 75 .neq 74 0])
 (qq 75
 (.seq
 (.reg 21 none [2] [
 qm 76 7,
 qm 2 76])
 .ret)
 .skip))))
 (.reg 18 none [1,6] [
 qm 69 6,
 qa 70 69,
 qm 6 70]))))))
 (.seq
 (.reg 22 none [2] [
 qi 2 0])
 .ret))))))
def ks_ref02_Check:List (Nat×List Nat):=kssOf ir_ref02_Check
theorem fn_ref02_Check:FnIR Tryz.prog F_ref02_Check 77 ks_ref02_Check ir_ref02_Check [(.tmp 2)]:=
 qF Tryz.func93
def ir_ref01_Name:RC:=
 (.seq
 (.reg 0 none [0] [
 qc 2 false])
 (.seq
 (.seq
 (.reg 1 none [0,21] [
 qm 4 0,
 .r 5 (.lenS (.t 4)),
 qB 6 .lss 5 1,
 qm 7 6,
 qmf 8 7 0,
 .rf 9 7 (.lenS (.t 8)),
 .rf 10 7 (.bin .gtr false (.t 9) (qI 16)),
 qP 11 7 10,
 qm 12 11,
 qmf 13 12 0,
 .rf 14 12 (.sx (.t 13) (qI 0)),
 .rf 15 12 (.bin .lss false (.t 14) (.k (.v (.int .u8 97)))),
 qP 16 12 15,
 qm 17 16,
 qmf 18 17 0,
 .rf 19 17 (.sx (.t 18) (qI 0)),
 .rf 20 17 (.bin .gtr false (.t 19) (.k (.v (.int .u8 122)))),
 qP 21 17 20])
 (qq 21
 (.seq
 (.reg 2 none [2] [
 qc 2 false])
 .ret)
 .skip))
 (.seq
 (.seq
 (.reg 3 none [0,3] [
 qi 3 0])
 (.block 0
 (.loop
 (.seq
 (.seq
 (.reg 4 none [0,3,25] [
 qm 22 3,
 qm 23 0,
 .r 24 (.lenS (.t 23)),
 qb 25 .lss 22 24])
 (qq 25
 .skip
 (.exit 0)))
 (.seq
 (.block 1
 (.seq
 (.reg 6 none [0,3,56] [
 qm 28 0,
 qm 29 3,
 .r 30 (.sx (.t 28) (.t 29)),
 .r 31 (.bin .geq false (.t 30) (.k (.v (.int .u8 97)))),
 qm 32 31,
 qmt 33 32 0,
 qmt 34 32 3,
 .rt 35 32 (.sx (.t 33) (.t 34)),
 .rt 36 32 (.bin .leq false (.t 35) (.k (.v (.int .u8 122)))),
 qp 37 32 36,
 qm 38 37,
 qmf 39 38 0,
 qmf 40 38 3,
 .rf 41 38 (.sx (.t 39) (.t 40)),
 .rf 42 38 (.bin .geq false (.t 41) (.k (.v (.int .u8 48)))),
 qmf 43 38 42,
 qmt 44 43 0,
 qmt 45 43 3,
 .rt 46 43 (.sx (.t 44) (.t 45)),
 .rt 47 43 (.bin .leq false (.t 46) (.k (.v (.int .u8 57)))),
 .rf 48 38 (.pick (.t 43) (.t 47) (.k (.v (.bool false)))),
 qP 49 38 48,
 qm 50 49,
 qmf 51 50 0,
 qmf 52 50 3,
 .rf 53 50 (.sx (.t 51) (.t 52)),
 .rf 54 50 (.bin .eql false (.t 53) (.k (.v (.int .u8 95)))),
 qP 55 50 54,
 .r 56 (.un .not (.t 55))])
 (qq 56
 (.seq
 (.reg 7 none [2] [
 qc 2 false])
 .ret)
 .skip)))
 (.reg 5 none [0,3] [
 qm 26 3,
 qa 27 26,
 qm 3 27]))))))
 (.seq
 (.seq
 (.reg 8 none [57] [
 qm 57 0])
 (.block 2
 (.seq
 (.seq
 (.reg 9 none [57,58] [
 .r 59 (.bin .eql false (.t 57) (.k (.v (.string ⟨#[97,108,108]⟩)))),
 qm 58 59])
 (qq 58
 .skip
 (.seq
 (.reg 10 none [57,58] [
 .r 60 (.bin .eql false (.t 57) (.k (.v (.string ⟨#[97,110,100]⟩)))),
 qm 58 60])
 (qq 58
 .skip
 (.seq
 (.reg 11 none [57,58] [
 .r 61 (.bin .eql false (.t 57) (.k (.v (.string ⟨#[101,118,101,110,116]⟩)))),
 qm 58 61])
 (qq 58
 .skip
 (.seq
 (.reg 12 none [57,58] [
 .r 62 (.bin .eql false (.t 57) (.k (.v (.string ⟨#[102,114,111,109]⟩)))),
 qm 58 62])
 (qq 58
 .skip
 (.seq
 (.reg 13 none [57,58] [
 .r 63 (.bin .eql false (.t 57) (.k (.v (.string ⟨#[109,105,115,115,105,110,103]⟩)))),
 qm 58 63])
 (qq 58
 .skip
 (.seq
 (.reg 14 none [57,58] [
 .r 64 (.bin .eql false (.t 57) (.k (.v (.string ⟨#[110,111,116]⟩)))),
 qm 58 64])
 (qq 58
 .skip
 (.seq
 (.reg 15 none [57,58] [
 .r 65 (.bin .eql false (.t 57) (.k (.v (.string ⟨#[111,110]⟩)))),
 qm 58 65])
 (qq 58
 .skip
 (.seq
 (.reg 16 none [57,58] [
 .r 66 (.bin .eql false (.t 57) (.k (.v (.string ⟨#[111,114]⟩)))),
 qm 58 66])
 (qq 58
 .skip
 (.seq
 (.reg 17 none [57,58] [
 .r 67 (.bin .eql false (.t 57) (.k (.v (.string ⟨#[116,111]⟩)))),
 qm 58 67])
 (qq 58
 .skip
 (.seq
 (.reg 18 none [57,58] [
 .r 68 (.bin .eql false (.t 57) (.k (.v (.string ⟨#[117,110,100,101,114]⟩)))),
 qm 58 68])
 (qq 58
 .skip
 (.reg 19 none [58] [
 .r 69 (.bin .eql false (.t 57) (.k (.v (.string ⟨#[119,104,101,114,101]⟩)))),
 qm 58 69])))))))))))))))))))))
 (qq 58
 (.seq
 (.reg 20 none [2] [
 qc 2 false])
 .ret)
 .skip))))
 (.seq
 (.reg 21 none [2] [
 qc 2 true])
 .ret)))))
def ks_ref01_Name:List (Nat×List Nat):=kssOf ir_ref01_Name
theorem fn_ref01_Name:FnIR Tryz.prog F_ref01_Name 70 ks_ref01_Name ir_ref01_Name [(.tmp 2)]:=
 qF Tryz.func94
def ir_ref05_Check:RC:=
 (.seq
 (.reg 0 none [2,3] [
 .r 2 (.box (.t 0)),
 .r 3 (.box (.t 1)),
 qi 4 0])
 (.seq
 (.seq
 (.reg 1 none [2,3,5] [
 qL 6 2 2,
 qC 7 F_ref02_Check [.t 6],
 qm 5 7])
 (.seq
 (.reg 2 none [2,3,5,9] [
 qm 8 5,
 qB 9 .neq 8 0])
 (qq 9
 (.seq
 (.reg 3 none [4] [
 qm 10 5,
 qm 4 10])
 .ret)
 .skip)))
 (.seq
 (.seq
 (.reg 4 none [2,3,13] [
 qL 11 6 3,
 qC 12 F_ref05_count [.t 11,qI 41],
 qB 13 .gtr 12 40])
 (qq 13
 (.seq
 (.reg 5 none [4] [
 qi 4 1])
 .ret)
 .skip))
 (.seq
 (.seq
 (.reg 6 none [2,3,16] [
 qL 14 6 3,
 qC 15 F_ref05_depth [.t 14],
 qB 16 .gtr 15 10])
 (qq 16
 (.seq
 (.reg 7 none [4] [
 qi 4 22])
 .ret)
 .skip))
 (.seq
 (.reg 8 none [4] [
 qL 17 2 2,
 qL 18 6 3,
 qC 19 F_ref05_node [.t 17,.t 18],
 qm 4 19])
 .ret)))))
def ks_ref05_Check:List (Nat×List Nat):=kssOf ir_ref05_Check
theorem fn_ref05_Check:FnIR Tryz.prog F_ref05_Check 20 ks_ref05_Check ir_ref05_Check [(.tmp 4)]:=
 qF Tryz.func95
def ir_ref08_Question:RC:=
 (.seq
 (.reg 0 none [2,3] [
 .r 2 (.box (.t 0)),
 .r 3 (.box (.t 1)),
 qi 4 0])
 (.seq
 (.seq
 (.reg 1 none [2,3,5] [
 qL 8 2 2,
 qC 9 F_ref02_Check [.t 8],
 qm 5 9])
 (.seq
 (.reg 2 none [2,3,5,11] [
 qm 10 5,
 qB 11 .neq 10 0])
 (qq 11
 (.seq
 (.reg 3 none [4] [
 qm 12 5,
 qm 4 12])
 .ret)
 .skip)))
 (.seq
 (.seq
 (.reg 4 none [2,3,16] [
 qf 13 0 3,
 ql 14 13,
 qC 15 F_ref01_Name [.t 14],
 .r 16 (.un .not (.t 15))])
 (qq 16
 (.seq
 (.reg 5 none [4] [
 qi 4 3])
 .ret)
 .skip))
 (.seq
 (.seq
 (.reg 6 none [2,3,24] [
 qf 17 1 3,
 ql 18 17,
 qB 19 .lss 18 1,
 qm 20 19,
 qff 21 20 1 3,
 qlf 22 20 21,
 .rf 23 20 (.bin .gtr false (.t 22) (qI 3)),
 qP 24 20 23])
 (qq 24
 (.seq
 (.reg 7 none [4] [
 qi 4 4])
 .ret)
 .skip))
 (.seq
 (.seq
 (.reg 8 none [2,3,6] [
 qL 25 2 2,
 qf 26 2 3,
 qL 27 6 26,
 qC 28 F_ref05_Check [.t 25,.t 27],
 qm 6 28])
 (.seq
 (.reg 9 none [2,3,6,30] [
 qm 29 6,
 qB 30 .neq 29 0])
 (qq 30
 (.seq
 (.reg 10 none [4] [
 qm 31 6,
 qm 4 31])
 .ret)
 .skip)))
 (.seq
 (.seq
 (.reg 11 none [3,7] [
 qL 32 2 2,
 qL 33 17 3,
 qC 34 F_ref08_parts [.t 32,.t 33],
 qm 7 34])
 (.seq
 (.reg 12 none [3,7,36] [
 qm 35 7,
 qB 36 .neq 35 0])
 (qq 36
 (.seq
 (.reg 13 none [4] [
 qm 37 7,
 qm 4 37])
 .ret)
 .skip)))
 (.seq
 (.seq
 (.reg 14 none [68] [
 qf 38 1 3,
 ql 39 38,
 qB 40 .neq 39 1,
 qm 41 40,
 qft 42 41 8 3,
 qlt 43 41 42,
 .rt 44 41 (.lenL (.t 43)),
 .rt 45 41 (.bin .gtr false (.t 44) (qI 0)),
 qp 46 41 45,
 qm 47 46,
 qff 48 47 1 3,
 qlf 49 47 48,
 .rf 50 47 (.bin .neq false (.t 49) (qI 2)),
 qmf 51 47 50,
 qft 52 51 10 3,
 qlt 53 51 52,
 .rt 54 51 (.lenL (.t 53)),
 .rt 55 51 (.bin .gtr false (.t 54) (qI 0)),
 .rf 56 47 (.pick (.t 51) (.t 55) (.k (.v (.bool false)))),
 qP 57 47 56,
 qm 58 57,
 qff 59 58 1 3,
 qlf 60 58 59,
 .rf 61 58 (.bin .neq false (.t 60) (qI 3)),
 qmf 62 58 61,
 qft 63 62 11 3,
 .rt 64 62 (.ld (some 6) (.t 63)),
 .rt 65 62 (.call (.k (.clo F_ref08_zero [])) [.t 64]),
 .rt 66 62 (.un .not (.t 65)),
 .rf 67 58 (.pick (.t 62) (.t 66) (.k (.v (.bool false)))),
 qP 68 58 67])
 (qq 68
 (.seq
 (.reg 15 none [4] [
 qi 4 11])
 .ret)
 .skip))
 (.seq
 (.reg 16 none [4] [
 qi 4 0])
 .ret))))))))
def ks_ref08_Question:List (Nat×List Nat):=kssOf ir_ref08_Question
theorem fn_ref08_Question:FnIR Tryz.prog F_ref08_Question 69 ks_ref08_Question ir_ref08_Question [(.tmp 4)]:=
 qF Tryz.func96
def ir_ref05_Needs:RC:=
 (.seq
 (.reg 0 none [2,3] [
 .r 2 (.box (.t 0)),
 .r 3 (.box (.t 1)),
 .r 4 (.mv (qN))])
 (.seq
 (.seq
 (.reg 1 none [2,3,12] [
 qL 9 2 2,
 qL 10 6 3,
 qC 11 F_ref05_Check [.t 9,.t 10],
 qB 12 .neq 11 0])
 (qq 12
 (.seq
 (.reg 2 none [4] [
 .r 4 (.mv (qN))])
 .ret)
 .skip))
 (.seq
 (.reg 3 none [2,3,5] [
 .r 5 (.mv (qN))])
 (.seq
 (.reg 4 none [2,5,6] [
 qL 13 6 3,
 qC 14 F_ref05_Atoms [.t 13],
 qm 6 14])
 (.seq
 (.seq
 (.reg 5 none [2,5,6,7] [
 qi 7 0])
 (.block 0
 (.loop
 (.seq
 (.seq
 (.reg 6 none [2,5,6,7,18] [
 qm 15 7,
 qm 16 6,
 qn 17 16,
 qb 18 .lss 15 17])
 (qq 18
 .skip
 (.exit 0)))
 (.seq
 (.block 1
 (.seq
 (.reg 8 none [2,5,6,7,8] [
 qi 8 0])
 (.seq
 (.block 2
 (.loop
 (.seq
 (.seq
 (.reg 9 (some [0,0,0,6,14,0,63,127]) [2,5,6,7,8,28] [
 qL 21 2 2,
 qm 22 6,
 qm 23 7,
 qx 24 6 22 23,
 qL 25 6 24,
 qm 26 8,
 qC 27 F_ref05_decides [.t 21,.t 25,.t 26],
 .r 28 (.un .not (.t 27))])
 (qq 28
 .skip
 (.exit 2)))
 (.block 3
 (.reg 10 none [2,5,6,7,8] [
 qm 29 8,
 qa 30 29,
 qm 8 30])))))
 (.reg 11 none [2,5,6,7] [
 qm 31 5,
 qm 32 6,
 qm 33 7,
 qx 34 6 32 33,
 qf 35 1 34,
 ql 36 35,
 qm 37 8,
 qC 38 F_ref05_Raise [.t 31,.t 36,.t 37],
 qm 5 38]))))
 (.reg 7 none [2,5,6,7] [
 qm 19 7,
 qa 20 19,
 qm 7 20]))))))
 (.seq
 (.reg 12 none [4] [
 qm 39 5,
 qm 4 39])
 .ret))))))
def ks_ref05_Needs:List (Nat×List Nat):=kssOf ir_ref05_Needs
theorem fn_ref05_Needs:FnIR Tryz.prog F_ref05_Needs 40 ks_ref05_Needs ir_ref05_Needs [(.tmp 4)]:=
 qF Tryz.func97
def ir_ref02_Least:RC:=
 (.seq
 (.reg 0 none [1,2,3] [
 .r 3 (.box (.t 0)),
 qi 6 0])
 (.seq
 (.seq
 (.reg 1 none [1,2,3,13] [
 qm 8 2,
 qL 9 2 3,
 qm 10 1,
 qC 11 F_ref02_Finest [.t 9,.t 10],
 qC 12 F_ref02_in [.t 8,qI 0,.t 11],
 .r 13 (.un .not (.t 12))])
 (qq 13
 (.seq
 (.reg 2 none [6] [
 .r 6 (.mv (.k (.v (.int .i64 (-1)))))])
 .ret)
 .skip))
 (.seq
 (.reg 3 none [1,2,3,7] [
 qi 7 0])
 (.seq
 (.block 0
 (.loop
 (.seq
 (.seq
 (.reg 4 none [1,2,3,7,19] [
 qL 14 2 3,
 qm 15 1,
 qm 16 7,
 qm 17 2,
 qC 18 F_ref02_divides [.t 14,.t 15,.t 16,.t 17],
 .r 19 (.un .not (.t 18))])
 (qq 19
 .skip
 (.exit 0)))
 (.block 1
 (.reg 5 none [1,2,3,7] [
 qm 20 7,
 qa 21 20,
 qm 7 21])))))
 (.seq
 (.reg 6 none [6] [
 qm 22 7,
 qm 6 22])
 .ret)))))
def ks_ref02_Least:List (Nat×List Nat):=kssOf ir_ref02_Least
theorem fn_ref02_Least:FnIR Tryz.prog F_ref02_Least 23 ks_ref02_Least ir_ref02_Least [(.tmp 6)]:=
 qF Tryz.func98
def ir_ref09_Uses:RC:=
 (.seq
 (.reg 0 none [1,2] [
 .r 2 (.box (.t 0)),
 qc 4 false])
 (.seq
 (.reg 1 none [4] [
 qf 5 9 2,
 ql 6 5,
 qm 7 1,
 qb 8 .eql 6 7,
 qm 9 8,
 qff 10 9 10 2,
 qlf 11 9 10,
 qmf 12 9 1,
 .rf 13 9 (.call (.k (.clo F_ref01_Has [])) [.t 11,.t 12]),
 qP 14 9 13,
 qm 4 14])
 .ret))
def ks_ref09_Uses:List (Nat×List Nat):=kssOf ir_ref09_Uses
theorem fn_ref09_Uses:FnIR Tryz.prog F_ref09_Uses 15 ks_ref09_Uses ir_ref09_Uses [(.tmp 4)]:=
 qF Tryz.func99
def ir_ref02_Finest:RC:=
 (.seq
 (.reg 0 none [1,2] [
 .r 2 (.box (.t 0)),
 qi 4 0])
 (.seq
 (.seq
 (.reg 1 none [1,2,19] [
 qL 6 2 2,
 qC 7 F_ref02_Check [.t 6],
 qB 8 .neq 7 0,
 qm 9 8,
 qmf 10 9 1,
 .rf 11 9 (.bin .lss false (.t 10) (qI 1)),
 qP 12 9 11,
 qm 13 12,
 qmf 14 13 1,
 qff 15 13 1 2,
 qlf 16 13 15,
 .rf 17 13 (.lenL (.t 16)),
 .rf 18 13 (.bin .geq false (.t 14) (.t 17)),
 qP 19 13 18])
 (qq 19
 (.seq
 (.reg 2 none [4] [
 .r 4 (.mv (.k (.v (.int .i64 (-1)))))])
 .ret)
 .skip))
 (.seq
 (.reg 3 none [2,5] [
 qf 20 1 2,
 ql 21 20,
 qm 22 1,
 qx 23 7 21 22,
 qL 24 7 23,
 .r 5 (.new (.agg [.v (.string ⟨#[]⟩),.v (.int .i64 0),.v (.int .i64 0),.v (.int .i64 0),.v (.int .i64 0),.v (.slice none 0 0),.v (.bool false)])),
 qs 7 5 24])
 (.seq
 (.seq
 (.reg 4 none [2,5,27] [
 qf 25 1 5,
 ql 26 25,
 qB 27 .eql 26 2])
 (qq 27
 (.seq
 (.reg 5 none [4] [
 qf 28 0 2,
 ql 29 28,
 qf 30 2 5,
 ql 31 30,
 qx 32 2 29 31,
 qL 33 2 32,
 qC 34 F_ref01_Levels [.t 33],
 qB 35 .sub 34 1,
 qm 4 35])
 .ret)
 .skip))
 (.seq
 (.reg 6 none [4] [
 qf 36 5 5,
 ql 37 36,
 qn 38 37,
 qm 4 38])
 .ret)))))
def ks_ref02_Finest:List (Nat×List Nat):=kssOf ir_ref02_Finest
theorem fn_ref02_Finest:FnIR Tryz.prog F_ref02_Finest 39 ks_ref02_Finest ir_ref02_Finest [(.tmp 4)]:=
 qF Tryz.func100
def ir_ref02_Row:RC:=
 (.seq
 (.reg 0 none [1,2] [
 .r 2 (.box (.t 0)),
 qi 4 0])
 (.seq
 (.seq
 (.reg 1 none [1,2,5] [
 qL 7 2 2,
 qC 8 F_ref02_Check [.t 7],
 qm 5 8])
 (.seq
 (.reg 2 none [1,2,5,10] [
 qm 9 5,
 qB 10 .neq 9 0])
 (qq 10
 (.seq
 (.reg 3 none [4] [
 qm 11 5,
 qm 4 11])
 .ret)
 .skip)))
 (.seq
 (.seq
 (.reg 4 none [1,2,17] [
 qm 12 1,
 qn 13 12,
 qf 14 1 2,
 ql 15 14,
 qn 16 15,
 qb 17 .neq 13 16])
 (qq 17
 (.seq
 (.reg 5 none [4] [
 qi 4 9])
 .ret)
 .skip))
 (.seq
 (.seq
 (.reg 6 none [1,2,6] [
 qi 6 0])
 (.block 0
 (.loop
 (.seq
 (.seq
 (.reg 7 none [1,2,6,21] [
 qm 18 6,
 qm 19 1,
 qn 20 19,
 qb 21 .lss 18 20])
 (qq 21
 .skip
 (.exit 0)))
 (.seq
 (.block 1
 (.seq
 (.reg 9 (some [0,0,0,0,12,28,63,127]) [1,2,6,31] [
 qL 24 2 2,
 qm 25 6,
 qm 26 1,
 qm 27 6,
 qx 28 1 26 27,
 ql 29 28,
 qC 30 F_ref02_Holds [.t 24,.t 25,.t 29],
 .r 31 (.un .not (.t 30))])
 (qq 31
 (.seq
 (.reg 10 none [4] [
 qi 4 9])
 .ret)
 .skip)))
 (.reg 8 none [1,2,6] [
 qm 22 6,
 qa 23 22,
 qm 6 23]))))))
 (.seq
 (.reg 11 none [4] [
 qi 4 0])
 .ret)))))
def ks_ref02_Row:List (Nat×List Nat):=kssOf ir_ref02_Row
theorem fn_ref02_Row:FnIR Tryz.prog F_ref02_Row 32 ks_ref02_Row ir_ref02_Row [(.tmp 4)]:=
 qF Tryz.func101
def ir_ref04_Drop:RC:=
 (.seq
 (.reg 0 none [0,1] [
 .r 4 (.mv (qN))])
 (.seq
 (.reg 1 none [0,1,5] [
 .r 5 (.mv (qN))])
 (.seq
 (.seq
 (.reg 2 none [0,1,5,6] [
 qi 6 0])
 (.block 0
 (.loop
 (.seq
 (.seq
 (.reg 3 none [0,1,5,6,10] [
 qm 7 6,
 qm 8 0,
 qn 9 8,
 qb 10 .lss 7 9])
 (qq 10
 .skip
 (.exit 0)))
 (.seq
 (.block 1
 (.seq
 (.reg 5 none [0,1,5,6,20] [
 qm 13 0,
 qm 14 6,
 qx 15 1 13 14,
 ql 16 15,
 .r 17 (.ixL 1 (.t 16) (qI 0)),
 ql 18 17,
 qm 19 1,
 qb 20 .neq 18 19])
 (qq 20
 (.reg 6 none [0,1,5,6] [
 qm 21 5,
 qm 22 0,
 qm 23 6,
 qx 24 1 22 23,
 ql 25 24,
 .r 26 (.bsl 1 1 [.t 25]),
 .r 27 (.app 1 24 false (.t 21) (.t 26)),
 qm 5 27])
 .skip)))
 (.reg 4 none [0,1,5,6] [
 qm 11 6,
 qa 12 11,
 qm 6 12]))))))
 (.seq
 (.reg 7 none [4] [
 qm 28 5,
 qm 4 28])
 .ret))))
def ks_ref04_Drop:List (Nat×List Nat):=kssOf ir_ref04_Drop
theorem fn_ref04_Drop:FnIR Tryz.prog F_ref04_Drop 29 ks_ref04_Drop ir_ref04_Drop [(.tmp 4)]:=
 qF Tryz.func102
def ir_ref02_Picks:RC:=
 (.seq
 (.reg 0 none [1,2] [
 .r 2 (.box (.t 0)),
 qi 4 0])
 (.seq
 (.seq
 (.reg 1 none [1,2,5] [
 qL 8 2 2,
 qC 9 F_ref02_Check [.t 8],
 qm 5 9])
 (.seq
 (.reg 2 none [1,2,5,11] [
 qm 10 5,
 qB 11 .neq 10 0])
 (qq 11
 (.seq
 (.reg 3 none [4] [
 qm 12 5,
 qm 4 12])
 .ret)
 .skip)))
 (.seq
 (.seq
 (.reg 4 none [1,2,6] [
 qi 6 0])
 (.block 0
 (.loop
 (.seq
 (.seq
 (.reg 5 none [1,2,6,16] [
 qm 13 6,
 qm 14 1,
 qn 15 14,
 qb 16 .lss 13 15])
 (qq 16
 .skip
 (.exit 0)))
 (.seq
 (.block 1
 (.seq
 (.seq
 (.reg 7 (some [0,0,0,6,14,31,63]) [1,2,6,7] [
 qL 19 2 2,
 qm 20 1,
 qm 21 6,
 qx 22 2 20 21,
 qL 23 2 22,
 qC 24 F_ref02_Pick [.t 19,.t 23],
 qm 7 24])
 (.seq
 (.reg 8 none [1,2,6,7,26] [
 qm 25 7,
 qB 26 .neq 25 0])
 (qq 26
 (.seq
 (.reg 9 none [4] [
 qm 27 7,
 qm 4 27])
 .ret)
 .skip)))
 (.seq
 (.reg 10 (some [0,1,3,7,7,31,63,127,7,7,519,1799,3847,7943,16383,32767]) [1,2,6,43] [
 qm 28 6,
 qB 29 .gtr 28 0,
 qm 30 29,
 qmt 31 30 1,
 qmt 32 30 6,
 .rt 33 30 (.ixL 2 (.t 31) (.t 32)),
 qft 34 30 0 33,
 qlt 35 30 34,
 qmt 36 30 1,
 qmt 37 30 6,
 .rt 38 30 (.bin .sub false (.t 37) (qI 1)),
 .rt 39 30 (.ixL 2 (.t 36) (.t 38)),
 qft 40 30 0 39,
 qlt 41 30 40,
 .rt 42 30 (.bin .leq false (.t 35) (.t 41)),
 qp 43 30 42])
 (qq 43
 (.seq
 (.reg 11 none [4] [
 qi 4 10])
 .ret)
 .skip))))
 (.reg 6 none [1,2,6] [
 qm 17 6,
 qa 18 17,
 qm 6 18]))))))
 (.seq
 (.reg 12 none [4] [
 qi 4 0])
 .ret))))
def ks_ref02_Picks:List (Nat×List Nat):=kssOf ir_ref02_Picks
theorem fn_ref02_Picks:FnIR Tryz.prog F_ref02_Picks 44 ks_ref02_Picks ir_ref02_Picks [(.tmp 4)]:=
 qF Tryz.func103
def ir_ref09_Suffice:RC:=
 (.seq
 (.reg 0 none [2,3,4] [
 .r 3 (.box (.t 0)),
 .r 4 (.box (.t 1)),
 qc 6 false])
 (.seq
 (.reg 1 none [6] [
 qL 7 2 3,
 qL 8 17 4,
 qC 9 F_ref08_Question [.t 7,.t 8],
 qB 10 .eql 9 0,
 qm 11 10,
 .rt 12 11 (.ld (some 2) (.t 3)),
 qmt 13 11 2,
 .rt 14 11 (.call (.k (.clo F_ref02_Picks [])) [.t 12,.t 13]),
 .rt 15 11 (.bin .eql false (.t 14) (qI 0)),
 qp 16 11 15,
 qm 17 16,
 .rt 18 17 (.ld (some 2) (.t 3)),
 .rt 19 17 (.ld (some 17) (.t 4)),
 .rt 20 17 (.call (.k (.clo F_ref09_Needs [])) [.t 18,.t 19]),
 qmt 21 17 2,
 .rt 22 17 (.call (.k (.clo F_ref05_Covers [])) [.t 20,.t 21]),
 qp 23 17 22,
 qm 6 23])
 .ret))
def ks_ref09_Suffice:List (Nat×List Nat):=kssOf ir_ref09_Suffice
theorem fn_ref09_Suffice:FnIR Tryz.prog F_ref09_Suffice 24 ks_ref09_Suffice ir_ref09_Suffice [(.tmp 6)]:=
 qF Tryz.func104
def ir_ref05_Eval:RC:=
 (.seq
 (.reg 0 none [2,3,4] [
 .r 3 (.box (.t 0)),
 .r 4 (.box (.t 1)),
 qi 6 0])
 (.seq
 (.seq
 (.reg 1 none [2,3,4,16] [
 qL 7 2 3,
 qL 8 6 4,
 qC 9 F_ref05_Check [.t 7,.t 8],
 qB 10 .neq 9 0,
 qm 11 10,
 .rf 12 11 (.ld (some 2) (.t 3)),
 qmf 13 11 2,
 .rf 14 11 (.call (.k (.clo F_ref02_Row [])) [.t 12,.t 13]),
 .rf 15 11 (.bin .neq false (.t 14) (qI 0)),
 qP 16 11 15])
 (qq 16
 (.seq
 (.reg 2 none [6] [
 qi 6 0])
 .ret)
 .skip))
 (.seq
 (.reg 3 none [6] [
 qL 17 2 3,
 qL 18 6 4,
 qm 19 2,
 qC 20 F_ref05_eval [.t 17,.t 18,.t 19],
 qm 6 20])
 .ret)))
def ks_ref05_Eval:List (Nat×List Nat):=kssOf ir_ref05_Eval
theorem fn_ref05_Eval:FnIR Tryz.prog F_ref05_Eval 21 ks_ref05_Eval ir_ref05_Eval [(.tmp 6)]:=
 qF Tryz.func105
def ir_ref11_In:RC:=
 (.seq
 (.reg 0 none [1,2] [
 .r 2 (.box (.t 0)),
 qc 4 false])
 (.seq
 (.reg 1 (some [0,1,3,7,15,31,63,127,255,511,1023,2047,4095,8191,4095,32767,4095,69631,262143,4095,528383,2097151,4194303,8388607]) [4] [
 qL 5 3 2,
 qC 6 F_ref11_Check [.t 5],
 qB 7 .eql 6 0,
 qm 8 7,
 qmt 9 8 1,
 .rt 10 8 (.bin .geq false (.t 9) (qI 1)),
 qp 11 8 10,
 qm 12 11,
 qmt 13 12 1,
 .rt 14 12 (.bin .leq false (.t 13) (qI 1048575)),
 qp 15 12 14,
 qm 16 15,
 qft 17 16 2 2,
 qlt 18 16 17,
 qmt 19 16 1,
 .rt 20 16 (.call (.k (.clo F_ref11_Draw [])) [.t 18,.t 19]),
 qft 21 16 1 2,
 qlt 22 16 21,
 .rt 23 16 (.bin .rem false (.t 20) (.t 22)),
 qft 24 16 0 2,
 qlt 25 16 24,
 .rt 26 16 (.bin .lss false (.t 23) (.t 25)),
 qp 27 16 26,
 qm 4 27])
 .ret))
def ks_ref11_In:List (Nat×List Nat):=kssOf ir_ref11_In
theorem fn_ref11_In:FnIR Tryz.prog F_ref11_In 28 ks_ref11_In ir_ref11_In [(.tmp 4)]:=
 qF Tryz.func106
def ir_ref02_in:RC:=
 (.seq
 (.reg 0 none [0,1,2] [
 qc 6 false])
 (.seq
 (.reg 1 none [6] [
 qm 7 1,
 qm 8 0,
 qb 9 .leq 7 8,
 qm 10 9,
 qmt 11 10 0,
 qmt 12 10 2,
 .rt 13 10 (.bin .leq false (.t 11) (.t 12)),
 qp 14 10 13,
 qm 6 14])
 .ret))
def ks_ref02_in:List (Nat×List Nat):=kssOf ir_ref02_in
theorem fn_ref02_in:FnIR Tryz.prog F_ref02_in 15 ks_ref02_in ir_ref02_in [(.tmp 6)]:=
 qF Tryz.func107
def ir_ref02_Holds:RC:=
 (.seq
 (.reg 0 none [1,2,3] [
 .r 3 (.box (.t 0)),
 qc 6 false])
 (.seq
 (.reg 1 none [2,3,7] [
 qf 9 1 3,
 ql 10 9,
 qm 11 1,
 qx 12 7 10 11,
 qL 13 7 12,
 .r 7 (.new (.agg [.v (.string ⟨#[]⟩),.v (.int .i64 0),.v (.int .i64 0),.v (.int .i64 0),.v (.int .i64 0),.v (.slice none 0 0),.v (.bool false)])),
 qs 7 7 13])
 (.seq
 (.seq
 (.reg 2 none [2,3,7,15] [
 qf 14 1 7,
 ql 15 14])
 (.block 0
 (.seq
 (.reg 3 none [2,3,7,15,16] [
 qB 17 .eql 15 1,
 qm 16 17])
 (qq 16
 (.seq
 (.reg 4 none [6] [
 qm 18 2,
 qC 19 F_ref02_in [.t 18,qI 1,qI 1048575],
 qm 6 19])
 .ret)
 (.seq
 (.reg 5 none [2,3,7,20] [
 qB 21 .eql 15 2,
 qm 20 21])
 (qq 20
 (.seq
 (.reg 6 none [2,8] [
 qf 22 0 3,
 ql 23 22,
 qf 24 2 7,
 ql 25 24,
 qx 26 2 23 25,
 qL 27 2 26,
 .r 8 (.new (.agg [.v (.string ⟨#[]⟩),.v (.slice none 0 0)])),
 qs 2 8 27])
 (.seq
 (.reg 7 (some [0,0,2,6,14,31,63,127,127,511,127,2047,4095,8191,16383,32767]) [6] [
 qm 28 2,
 qf 29 1 8,
 ql 30 29,
 qn 31 30,
 qB 32 .sub 31 1,
 qC 33 F_ref02_in [.t 28,qI 0,.t 32],
 qm 34 33,
 .rt 35 34 (.ld (some 2) (.t 8)),
 qmt 36 34 2,
 .rt 37 34 (.call (.k (.clo F_ref01_Level [])) [.t 35,.t 36]),
 .rt 38 34 (.ld (some 2) (.t 8)),
 .rt 39 34 (.call (.k (.clo F_ref01_Levels [])) [.t 38]),
 .rt 40 34 (.bin .sub false (.t 39) (qI 1)),
 .rt 41 34 (.bin .eql false (.t 37) (.t 40)),
 qp 42 34 41,
 qm 6 42])
 .ret))
 .skip))))))
 (.seq
 (.reg 8 none [6] [
 qf 43 6 7,
 ql 44 43,
 qm 45 44,
 qmt 46 45 2,
 .rt 47 45 (.bin .eql false (.t 46) (.k (.v (.int .i64 (-1099511627776))))),
 qp 48 45 47,
 qm 49 48,
 qmf 50 49 2,
 qff 51 49 3 7,
 qlf 52 49 51,
 qff 53 49 4 7,
 qlf 54 49 53,
 .rf 55 49 (.call (.k (.clo F_ref02_in [])) [.t 50,.t 52,.t 54]),
 qP 56 49 55,
 qm 6 56])
 .ret))))
def ks_ref02_Holds:List (Nat×List Nat):=kssOf ir_ref02_Holds
theorem fn_ref02_Holds:FnIR Tryz.prog F_ref02_Holds 57 ks_ref02_Holds ir_ref02_Holds [(.tmp 6)]:=
 qF Tryz.func108
def ir_ref01_Up:RC:=
 (.seq
 (.reg 0 none [1,2,3] [
 .r 3 (.box (.t 0)),
 qi 6 0])
 (.seq
 (.seq
 (.reg 1 none [1,2,3,31] [
 qL 7 2 3,
 qC 8 F_ref01_Check [.t 7],
 qB 9 .neq 8 0,
 qm 10 9,
 qmf 11 10 1,
 .rf 12 10 (.bin .lss false (.t 11) (qI 0)),
 qP 13 10 12,
 qm 14 13,
 qmf 15 14 1,
 qff 16 14 1 3,
 qlf 17 14 16,
 .rf 18 14 (.lenL (.t 17)),
 .rf 19 14 (.bin .geq false (.t 15) (.t 18)),
 qP 20 14 19,
 qm 21 20,
 qmf 22 21 2,
 .rf 23 21 (.bin .lss false (.t 22) (qI 0)),
 qP 24 21 23,
 qm 25 24,
 qmf 26 25 2,
 .rf 27 25 (.ld (some 2) (.t 3)),
 qmf 28 25 1,
 .rf 29 25 (.call (.k (.clo F_ref01_depth [])) [.t 27,.t 28]),
 .rf 30 25 (.bin .gtr false (.t 26) (.t 29)),
 qP 31 25 30])
 (qq 31
 (.seq
 (.reg 2 none [6] [
 .r 6 (.mv (.k (.v (.int .i64 (-1)))))])
 .ret)
 .skip))
 (.seq
 (.block 0
 (.loop
 (.seq
 (.seq
 (.reg 3 none [1,2,3,36] [
 qL 32 2 3,
 qm 33 1,
 qC 34 F_ref01_depth [.t 32,.t 33],
 qm 35 2,
 qb 36 .gtr 34 35])
 (qq 36
 .skip
 (.exit 0)))
 (.block 1
 (.reg 4 none [1,2,3] [
 qf 37 1 3,
 ql 38 37,
 qm 39 1,
 qx 40 2 38 39,
 qf 41 1 40,
 ql 42 41,
 qm 1 42])))))
 (.seq
 (.reg 5 none [6] [
 qm 43 1,
 qm 6 43])
 .ret))))
def ks_ref01_Up:List (Nat×List Nat):=kssOf ir_ref01_Up
theorem fn_ref01_Up:FnIR Tryz.prog F_ref01_Up 44 ks_ref01_Up ir_ref01_Up [(.tmp 6)]:=
 qF Tryz.func109
def ir_ref02_Width:RC:=
 (.seq
 (.reg 0 none [1,2] [
 .r 2 (.box (.t 0)),
 qi 4 0])
 (.seq
 (.reg 1 none [4] [
 qf 5 5 2,
 ql 6 5,
 qf 7 5 2,
 ql 8 7,
 qn 9 8,
 qm 10 1,
 qb 11 .sub 9 10,
 qx 12 1 6 11,
 ql 13 12,
 qm 4 13])
 .ret))
def ks_ref02_Width:List (Nat×List Nat):=kssOf ir_ref02_Width
theorem fn_ref02_Width:FnIR Tryz.prog F_ref02_Width 14 ks_ref02_Width ir_ref02_Width [(.tmp 4)]:=
 qF Tryz.func110
def ir_ref02_Floor:RC:=
 (.seq
 (.reg 0 none [0,1] [
 qi 4 0])
 (.seq
 (.reg 1 none [0,1,5] [
 qm 6 0,
 qm 7 1,
 qb 8 .quo 6 7,
 qm 5 8])
 (.seq
 (.seq
 (.reg 2 none [5,12] [
 qm 9 0,
 qm 10 1,
 qb 11 .rem 9 10,
 qB 12 .lss 11 0])
 (qq 12
 (.reg 3 none [5] [
 qm 13 5,
 qB 14 .sub 13 1,
 qm 5 14])
 .skip))
 (.seq
 (.reg 4 none [4] [
 qm 15 5,
 qm 4 15])
 .ret))))
def ks_ref02_Floor:List (Nat×List Nat):=kssOf ir_ref02_Floor
theorem fn_ref02_Floor:FnIR Tryz.prog F_ref02_Floor 16 ks_ref02_Floor ir_ref02_Floor [(.tmp 4)]:=
 qF Tryz.func111
def ir_slices_Sort_int:RC:=
 (.seq
 (.reg 0 none [0,2] [
 qm 3 0,
 qn 4 3,
 qm 2 4])
 (.reg 1 none [] [
 qm 5 0,
 qm 6 2,
 qm 7 2,
 .r 8 (.cvI .u64 (.t 7)),
 qC 9 F_math_bits_Len [.t 8],
 qC 10 F_slices_pdqsortOrdered_int [.t 5,qI 0,.t 6,.t 9]]))
def ks_slices_Sort_int:List (Nat×List Nat):=kssOf ir_slices_Sort_int
theorem fn_slices_Sort_int:FnIR Tryz.prog F_slices_Sort_int 11 ks_slices_Sort_int ir_slices_Sort_int []:=
 qF Tryz.func112
def ir_slices_Compact_int:RC:=
 (.seq
 (.reg 0 none [0] [
 .r 2 (.mv (qN))])
 (.seq
 (.seq
 (.reg 1 none [0,8] [
 qm 6 0,
 qn 7 6,
 qB 8 .lss 7 2])
 (qq 8
 (.seq
 (.reg 2 none [2] [
 qm 9 0,
 qm 2 9])
 .ret)
 .skip))
 (.seq
 (.seq
 (.reg 3 none [0,3] [
 qi 3 1])
 (.block 0
 (.loop
 (.seq
 (.seq
 (.reg 4 none [0,3,13] [
 qm 10 3,
 qm 11 0,
 qn 12 11,
 qb 13 .lss 10 12])
 (qq 13
 .skip
 (.exit 0)))
 (.seq
 (.block 1
 (.seq
 (.reg 6 (some [0,0,3,7,0,0,32,112,240,511]) [0,3,25] [
 qm 16 0,
 qm 17 3,
 qx 18 1 16 17,
 ql 19 18,
 qm 20 0,
 qm 21 3,
 qB 22 .sub 21 1,
 qx 23 1 20 22,
 ql 24 23,
 qb 25 .eql 19 24])
 (qq 25
 (.seq
 (.reg 7 none [0,3,4] [
 qm 26 0,
 qm 27 3,
 .r 28 (.slL 1 (.t 26) (some (.t 27)) none),
 qm 4 28])
 (.seq
 (.seq
 (.reg 8 none [0,3,4,5] [
 qi 5 1])
 (.block 2
 (.loop
 (.seq
 (.seq
 (.reg 9 none [0,3,4,5,32] [
 qm 29 5,
 qm 30 4,
 qn 31 30,
 qb 32 .lss 29 31])
 (qq 32
 .skip
 (.exit 2)))
 (.seq
 (.block 3
 (.seq
 (.reg 11 (some [0,0,3,7,0,0,32,112,240,511]) [0,3,4,5,44] [
 qm 35 4,
 qm 36 5,
 qx 37 1 35 36,
 ql 38 37,
 qm 39 4,
 qm 40 5,
 qB 41 .sub 40 1,
 qx 42 1 39 41,
 ql 43 42,
 qb 44 .neq 38 43])
 (qq 44
 (.seq
 (.reg 12 none [0,3,4,5] [
 qm 45 0,
 qm 46 3,
 qm 47 4,
 qm 48 5,
 qx 49 1 47 48,
 ql 50 49,
 qx 51 1 45 46,
 qs 1 51 50])
 (.reg 13 none [0,3,4,5] [
 qm 52 3,
 qa 53 52,
 qm 3 53]))
 .skip)))
 (.reg 10 none [0,3,4,5] [
 qm 33 5,
 qa 34 33,
 qm 5 34]))))))
 (.seq
 (.reg 14 none [0,3] [
 qm 54 0,
 qm 55 3,
 .r 56 (.slL 1 (.t 54) (some (.t 55)) none),
 .rn (.ext (.clr 1 (.v (.int .i64 0))) [.t 56])])
 (.seq
 (.reg 15 none [2] [
 qm 57 0,
 qm 58 3,
 .r 59 (.slL 1 (.t 57) none (some (.t 58))),
 qm 2 59])
 .ret))))
 .skip)))
 (.reg 5 none [0,3] [
 qm 14 3,
 qa 15 14,
 qm 3 15]))))))
 (.seq
 (.reg 16 none [2] [
 qm 60 0,
 qm 2 60])
 .ret))))
def ks_slices_Compact_int:List (Nat×List Nat):=kssOf ir_slices_Compact_int
theorem fn_slices_Compact_int:FnIR Tryz.prog F_slices_Compact_int 61 ks_slices_Compact_int ir_slices_Compact_int [(.tmp 2)]:=
 qF Tryz.func113
def ir_slices_IndexFunc_int:RC:=
 (.seq
 (.reg 0 none [0,1] [
 qi 4 0])
 (.seq
 (.seq
 (.reg 1 none [0,1,7,8] [
 qm 6 0,
 qn 7 6,
 qi 8 0])
 (.block 0
 (.loop
 (.seq
 (.reg 2 none [0,1,7,8,9] [
 qb 9 .lss 8 7])
 (.seq
 (qq 9
 .skip
 (.exit 0))
 (.seq
 (.block 1
 (.seq
 (.reg 3 none [0,1,5,7,8] [
 qm 10 8,
 qm 5 10])
 (.seq
 (.reg 4 none [0,1,5,7,8,16] [
 qm 11 1,
 qm 12 0,
 qm 13 5,
 qx 14 1 12 13,
 ql 15 14,
 .r 16 (.call (.t 11) [.t 15])])
 (qq 16
 (.seq
 (.reg 5 none [4] [
 qm 17 5,
 qm 4 17])
 .ret)
 .skip))))
 (.reg 6 none [0,1,7,8] [
 qa 18 8,
 qm 8 18])))))))
 (.seq
 (.reg 7 none [4] [
 .r 4 (.mv (.k (.v (.int .i64 (-1)))))])
 .ret)))
def ks_slices_IndexFunc_int:List (Nat×List Nat):=kssOf ir_slices_IndexFunc_int
theorem fn_slices_IndexFunc_int:FnIR Tryz.prog F_slices_IndexFunc_int 19 ks_slices_IndexFunc_int ir_slices_IndexFunc_int [(.tmp 4)]:=
 qF Tryz.func114
def ir_pseudonym_right:RC:=
 (.seq
 (.reg 0 none [0,1] [
 qc 4 false])
 (.seq
 (.reg 1 none [4] [
 qm 5 0,
 qB 6 .geq 5 0,
 qm 7 6,
 qmt 8 7 0,
 .rt 9 7 (.bin .lss false (.t 8) (qI 1152921504606846976)),
 qp 10 7 9,
 qm 11 10,
 qmt 12 11 1,
 .rt 13 11 (.bin .geq false (.t 12) (qI 0)),
 qp 14 11 13,
 qm 15 14,
 qmt 16 15 1,
 .rt 17 15 (.bin .lss false (.t 16) (qI 1048576)),
 qp 18 15 17,
 qm 4 18])
 .ret))
def ks_pseudonym_right:List (Nat×List Nat):=kssOf ir_pseudonym_right
theorem fn_pseudonym_right:FnIR Tryz.prog F_pseudonym_right 19 ks_pseudonym_right ir_pseudonym_right [(.tmp 4)]:=
 qF Tryz.func115
def ir_pseudonym_mix:RC:=
 (.seq
 (.reg 0 none [0,1,2] [
 qi 6 0])
 (.seq
 (.reg 1 none [7] [
 qm 8 0,
 .r 9 (.cvI .u64 (.t 8)),
 qm 10 1,
 .r 11 (.cvI .u64 (.t 10)),
 .r 12 (.bin .mul false (.t 11) (.k (.v (.int .u64 11400714819323198485)))),
 qb 13 .add 9 12,
 qm 14 2,
 .r 15 (.cvI .u64 (.t 14)),
 .r 16 (.bin .mul false (.t 15) (.k (.v (.int .u64 14029467366897019727)))),
 qb 17 .add 13 16,
 qm 7 17])
 (.seq
 (.seq
 (.reg 2 none [7,18] [
 qi 18 0])
 (.block 0
 (.loop
 (.seq
 (.reg 3 none [7,18,19] [
 qB 19 .lss 18 3])
 (.seq
 (qq 19
 .skip
 (.exit 0))
 (.seq
 (.block 1
 (.seq
 (.reg 4 none [7,18] [
 qm 20 7,
 qm 21 7,
 .r 22 (.bin .shr false (.t 21) (.k (.v (.int .u64 31)))),
 qb 23 .xor 20 22,
 qm 7 23])
 (.reg 5 none [7,18] [
 qm 24 7,
 .r 25 (.bin .mul false (.t 24) (.k (.v (.int .u64 13787848793156543929)))),
 qm 7 25])))
 (.reg 6 none [7,18] [
 qa 26 18,
 qm 18 26])))))))
 (.seq
 (.reg 7 none [6] [
 qm 27 7,
 .r 28 (.bin .shr false (.t 27) (.k (.v (.int .u64 54)))),
 .r 29 (.cvI .i64 (.t 28)),
 qm 6 29])
 .ret))))
def ks_pseudonym_mix:List (Nat×List Nat):=kssOf ir_pseudonym_mix
theorem fn_pseudonym_mix:FnIR Tryz.prog F_pseudonym_mix 30 ks_pseudonym_mix ir_pseudonym_mix [(.tmp 6)]:=
 qF Tryz.func116
def ir_ref02_Leaves:RC:=
 (.seq
 (.reg 0 none [1,2] [
 .r 2 (.box (.t 0)),
 .r 4 (.mv (qN))])
 (.seq
 (.reg 1 (some [0,1,0,4,0,28,60,124,255,511,0,2047]) [5] [
 qf 6 0 2,
 ql 7 6,
 qf 8 1 2,
 ql 9 8,
 qm 10 1,
 qx 11 7 9 10,
 qf 12 2 11,
 ql 13 12,
 qx 14 2 7 13,
 qL 15 2 14,
 .r 5 (.new (.agg [.v (.string ⟨#[]⟩),.v (.slice none 0 0)])),
 qs 2 5 15])
 (.seq
 (.reg 2 (some [0,0,2,6,15,31]) [4] [
 qL 16 2 5,
 qL 17 2 5,
 qC 18 F_ref01_Levels [.t 17],
 qB 19 .sub 18 1,
 qC 20 F_ref01_At [.t 16,.t 19],
 qm 4 20])
 .ret)))
def ks_ref02_Leaves:List (Nat×List Nat):=kssOf ir_ref02_Leaves
theorem fn_ref02_Leaves:FnIR Tryz.prog F_ref02_Leaves 21 ks_ref02_Leaves ir_ref02_Leaves [(.tmp 4)]:=
 qF Tryz.func118
def ir_internal_strconv_FormatInt:RC:=
 (.seq
 (.reg 0 none [0,1] [
 .r 4 (.mv (.k (.v (.string ⟨#[]⟩))))])
 (.seq
 (.seq
 (.reg 1 none [0,1,11] [
 qm 10 1,
 qB 11 .eql 10 10])
 (qq 11
 (.seq
 (.seq
 (.reg 2 none [0,17] [
 qm 12 0,
 .r 13 (.bin .leq false (qI 0) (.t 12)),
 qm 14 13,
 qmt 15 14 0,
 .rt 16 14 (.bin .lss false (.t 15) (qI 100)),
 qp 17 14 16])
 (qq 17
 (.seq
 (.reg 3 none [4] [
 qm 18 0,
 qC 19 F_internal_strconv_small [.t 18],
 qm 4 19])
 .ret)
 .skip))
 (.seq
 (.reg 4 none [0] [
 .r 5 (.new (.agg [.v (.int .u8 0),.v (.int .u8 0),.v (.int .u8 0),.v (.int .u8 0),.v (.int .u8 0),.v (.int .u8 0),.v (.int .u8 0),.v (.int .u8 0),.v (.int .u8 0),.v (.int .u8 0),.v (.int .u8 0),.v (.int .u8 0),.v (.int .u8 0),.v (.int .u8 0),.v (.int .u8 0),.v (.int .u8 0),.v (.int .u8 0),.v (.int .u8 0),.v (.int .u8 0),.v (.int .u8 0),.v (.int .u8 0),.v (.int .u8 0),.v (.int .u8 0),.v (.int .u8 0)]))])
 (.seq
 (.reg 5 none [0,6] [
 qm 20 0,
 .r 21 (.cvI .u64 (.t 20)),
 qm 6 21])
 (.seq
 (.seq
 (.reg 6 none [6,23] [
 qm 22 0,
 qB 23 .lss 22 0])
 (qq 23
 (.reg 7 none [6] [
 qm 24 6,
 .r 25 (.un .neg (.t 24)),
 qm 6 25])
 .skip))
 (.seq
 (.reg 8 none [] [
 qm 26 6,
 qC 27 F_internal_strconv_numDigits [.t 26],
 qm 7 27])
 (.seq
 .stuck
 (.seq
 (.seq
 (.reg 10 none [5,34] [
 qm 33 0,
 qB 34 .lss 33 0])
 (qq 34
 (.seq
 (.reg 11 none [] [
 .r 35 (.ixA 24 1 (.t 5) (qI 0)),
 .rn (.st 1 (.t 35) (.k (.v (.int .u8 45))))])
 (.seq
 .stuck
 .ret))
 .skip))
 (.seq
 .stuck
 .ret))))))))
 .skip))
 (.seq
 (.reg 14 none [9] [
 qm 45 0,
 .r 46 (.cvI .u64 (.t 45)),
 qm 47 1,
 qm 48 0,
 qB 49 .lss 48 0,
 qC 50 F_internal_strconv_formatBits [qN,.t 46,.t 47,.t 49,.k (.v (.bool false))],
 qm 44 50,
 .r 51 (.ex (.t 44) 0),
 .r 52 (.ex (.t 44) 1),
 qm 8 51,
 qm 9 52])
 (.seq
 (.reg 15 none [4] [
 qm 53 9,
 qm 4 53])
 .ret))))
def ks_internal_strconv_FormatInt:List (Nat×List Nat):=kssOf ir_internal_strconv_FormatInt
theorem fn_internal_strconv_FormatInt:FnIR Tryz.prog F_internal_strconv_FormatInt 54 ks_internal_strconv_FormatInt ir_internal_strconv_FormatInt [(.tmp 4)]:=
 qF Tryz.func119
def ir_draw_columns:RC:=
 (.seq
 (.reg 0 none [1,2] [
 .r 2 (.box (.t 0)),
 .r 4 (.mv (qN))])
 (.seq
 (.reg 1 none [1,2,5] [
 .r 5 (.mv (qN))])
 (.seq
 (.seq
 (.reg 2 none [1,2,5,9,10] [
 qf 7 1 2,
 ql 8 7,
 qn 9 8,
 qi 10 0])
 (.block 0
 (.loop
 (.seq
 (.reg 3 none [1,2,5,9,10,11] [
 qb 11 .lss 10 9])
 (.seq
 (qq 11
 .skip
 (.exit 0))
 (.seq
 (.block 1
 (.seq
 (.reg 4 none [1,2,5,6,9,10] [
 qm 12 10,
 qm 6 12])
 (.seq
 (.reg 5 none [1,2,5,6,9,10,20] [
 qf 13 1 2,
 ql 14 13,
 qm 15 6,
 qx 16 7 14 15,
 qf 17 1 16,
 ql 18 17,
 qm 19 1,
 qb 20 .eql 18 19])
 (qq 20
 (.reg 6 none [1,2,5,9,10] [
 qm 21 5,
 qm 22 6,
 .r 23 (.bsl 1 1 [.t 22]),
 .r 24 (.app 1 8 false (.t 21) (.t 23)),
 qm 5 24])
 .skip))))
 (.reg 7 none [1,2,5,9,10] [
 qa 25 10,
 qm 10 25])))))))
 (.seq
 (.reg 8 none [4] [
 qm 26 5,
 qm 4 26])
 .ret))))
def ks_draw_columns:List (Nat×List Nat):=kssOf ir_draw_columns
theorem fn_draw_columns:FnIR Tryz.prog F_draw_columns 27 ks_draw_columns ir_draw_columns [(.tmp 4)]:=
 qF Tryz.func120
def ir_ref01_Check:RC:=
 (.seq
 (.reg 0 none [1] [
 .r 1 (.box (.t 0)),
 qi 2 0])
 (.seq
 (.seq
 (.reg 1 none [1,11] [
 qf 8 0 1,
 ql 9 8,
 qC 10 F_ref01_Name [.t 9],
 .r 11 (.un .not (.t 10))])
 (qq 11
 (.seq
 (.reg 2 none [2] [
 qi 2 3])
 .ret)
 .skip))
 (.seq
 (.seq
 (.reg 3 none [1,15] [
 qf 12 1 1,
 ql 13 12,
 qn 14 13,
 qB 15 .eql 14 0])
 (qq 15
 (.seq
 (.reg 4 none [2] [
 qi 2 5])
 .ret)
 .skip))
 (.seq
 (.seq
 (.reg 5 none [1,19] [
 qf 16 1 1,
 ql 17 16,
 qn 18 17,
 qB 19 .gtr 18 60])
 (qq 19
 (.seq
 (.reg 6 none [2] [
 qi 2 1])
 .ret)
 .skip))
 (.seq
 (.seq
 (.reg 7 none [1,3] [
 qi 3 0])
 (.block 0
 (.loop
 (.seq
 (.seq
 (.reg 8 none [1,3,24] [
 qm 20 3,
 qf 21 1 1,
 ql 22 21,
 qn 23 22,
 qb 24 .lss 20 23])
 (qq 24
 .skip
 (.exit 0)))
 (.seq
 (.block 1
 (.seq
 (.seq
 (.reg 10 none [1,3,34] [
 qf 27 1 1,
 ql 28 27,
 qm 29 3,
 qx 30 2 28 29,
 qf 31 0 30,
 ql 32 31,
 qC 33 F_ref01_Name [.t 32],
 .r 34 (.un .not (.t 33))])
 (qq 34
 (.seq
 (.reg 11 none [2] [
 qi 2 3])
 .ret)
 .skip))
 (.seq
 (.seq
 (.reg 12 none [1,3,4] [
 qi 4 0])
 (.block 2
 (.loop
 (.seq
 (.seq
 (.reg 13 none [1,3,4,37] [
 qm 35 4,
 qm 36 3,
 qb 37 .lss 35 36])
 (qq 37
 .skip
 (.exit 2)))
 (.seq
 (.block 3
 (.seq
 (.reg 15 (some [0,1,0,7,15,31,0,64,0,448,960,1984,4095]) [1,3,4,52] [
 qf 40 1 1,
 ql 41 40,
 qm 42 4,
 qx 43 2 41 42,
 qf 44 0 43,
 ql 45 44,
 qf 46 1 1,
 ql 47 46,
 qm 48 3,
 qx 49 2 47 48,
 qf 50 0 49,
 ql 51 50,
 qb 52 .eql 45 51])
 (qq 52
 (.seq
 (.reg 16 none [2] [
 qi 2 10])
 .ret)
 .skip)))
 (.reg 14 none [1,3,4] [
 qm 38 4,
 qa 39 38,
 qm 4 39]))))))
 (.seq
 (.reg 17 none [1,3,5] [
 qf 53 1 1,
 ql 54 53,
 qm 55 3,
 qx 56 2 54 55,
 qf 57 1 56,
 ql 58 57,
 qm 5 58])
 (.seq
 (.reg 18 none [1,3,77] [
 qm 59 3,
 qB 60 .eql 59 0,
 qm 61 60,
 qmt 62 61 5,
 .rt 63 61 (.bin .neq false (.t 62) (.k (.v (.int .i64 (-1))))),
 qp 64 61 63,
 qm 65 64,
 qmf 66 65 3,
 .rf 67 65 (.bin .gtr false (.t 66) (qI 0)),
 qmf 68 65 67,
 qmt 69 68 5,
 .rt 70 68 (.bin .lss false (.t 69) (qI 0)),
 qmt 71 68 70,
 qmf 72 71 5,
 qmf 73 71 3,
 .rf 74 71 (.bin .geq false (.t 72) (.t 73)),
 .rt 75 68 (.pick (.t 71) (.k (.v (.bool true))) (.t 74)),
 .rf 76 65 (.pick (.t 68) (.t 75) (.k (.v (.bool false)))),
 qP 77 65 76])
 (qq 77
 (.seq
 (.reg 19 none [2] [
 qi 2 6])
 .ret)
 .skip))))))
 (.reg 9 none [1,3] [
 qm 25 3,
 qa 26 25,
 qm 3 26]))))))
 (.seq
 (.reg 20 none [1,6] [
 .r 6 (.mv (.k (.v (.int .i64 (-1)))))])
 (.seq
 (.seq
 (.reg 21 none [1,6,7] [
 qi 7 0])
 (.block 4
 (.loop
 (.seq
 (.seq
 (.reg 22 none [1,6,7,82] [
 qm 78 7,
 qf 79 1 1,
 ql 80 79,
 qn 81 80,
 qb 82 .lss 78 81])
 (qq 82
 .skip
 (.exit 4)))
 (.seq
 (.block 5
 (.seq
 (.reg 24 none [1,6,7,87] [
 qL 85 2 1,
 qm 86 7,
 qC 87 F_ref01_leaf [.t 85,.t 86]])
 (qq 87
 (.seq
 (.seq
 (.reg 25 none [1,7,96] [
 qm 88 6,
 qB 89 .geq 88 0,
 qm 90 89,
 .rt 91 90 (.ld (some 2) (.t 1)),
 qmt 92 90 7,
 .rt 93 90 (.call (.k (.clo F_ref01_depth [])) [.t 91,.t 92]),
 qmt 94 90 6,
 .rt 95 90 (.bin .neq false (.t 93) (.t 94)),
 qp 96 90 95])
 (qq 96
 (.seq
 (.reg 26 none [2] [
 qi 2 5])
 .ret)
 .skip))
 (.reg 27 none [1,6,7] [
 qL 97 2 1,
 qm 98 7,
 qC 99 F_ref01_depth [.t 97,.t 98],
 qm 6 99]))
 .skip)))
 (.reg 23 none [1,6,7] [
 qm 83 7,
 qa 84 83,
 qm 7 84]))))))
 (.seq
 (.reg 28 none [2] [
 qi 2 0])
 .ret))))))))
def ks_ref01_Check:List (Nat×List Nat):=kssOf ir_ref01_Check
theorem fn_ref01_Check:FnIR Tryz.prog F_ref01_Check 100 ks_ref01_Check ir_ref01_Check [(.tmp 2)]:=
 qF Tryz.func121
def ir_ref02_column:RC:=
 (.seq
 (.reg 0 none [1,2] [
 .r 2 (.box (.t 0)),
 qi 4 0])
 (.seq
 (.reg 1 none [1,2,5] [
 qf 8 1 2,
 ql 9 8,
 qm 10 1,
 qx 11 7 9 10,
 qL 12 7 11,
 .r 5 (.new (.agg [.v (.string ⟨#[]⟩),.v (.int .i64 0),.v (.int .i64 0),.v (.int .i64 0),.v (.int .i64 0),.v (.slice none 0 0),.v (.bool false)])),
 qs 7 5 12])
 (.seq
 (.seq
 (.reg 2 none [1,2,5,16] [
 qf 13 0 5,
 ql 14 13,
 qC 15 F_ref01_Name [.t 14],
 .r 16 (.un .not (.t 15))])
 (qq 16
 (.seq
 (.reg 3 none [4] [
 qi 4 3])
 .ret)
 .skip))
 (.seq
 (.seq
 (.reg 4 none [1,2,5,6] [
 qi 6 0])
 (.block 0
 (.loop
 (.seq
 (.seq
 (.reg 5 none [1,2,5,6,19] [
 qm 17 6,
 qm 18 1,
 qb 19 .lss 17 18])
 (qq 19
 .skip
 (.exit 0)))
 (.seq
 (.block 1
 (.seq
 (.reg 7 (some [0,1,0,7,15,31,0,64,255]) [1,2,5,6,30] [
 qf 22 1 2,
 ql 23 22,
 qm 24 6,
 qx 25 7 23 24,
 qf 26 0 25,
 ql 27 26,
 qf 28 0 5,
 ql 29 28,
 qb 30 .eql 27 29])
 (qq 30
 (.seq
 (.reg 8 none [4] [
 qi 4 10])
 .ret)
 .skip)))
 (.reg 6 none [1,2,5,6] [
 qm 20 6,
 qa 21 20,
 qm 6 21]))))))
 (.seq
 (.seq
 (.reg 9 none [2,5,43] [
 qf 31 1 5,
 ql 32 31,
 qC 33 F_ref02_in [.t 32,qI 1,qI 3],
 .r 34 (.un .not (.t 33)),
 qm 35 34,
 qmf 36 35 1,
 .rf 37 35 (.bin .gtr false (.t 36) (qI 0)),
 qmf 38 35 37,
 qft 39 38 1 5,
 qlt 40 38 39,
 .rt 41 38 (.bin .eql false (.t 40) (qI 1)),
 .rf 42 35 (.pick (.t 38) (.t 41) (.k (.v (.bool false)))),
 qP 43 35 42])
 (qq 43
 (.seq
 (.reg 10 none [4] [
 qi 4 4])
 .ret)
 .skip))
 (.seq
 (.seq
 (.reg 11 none [5,56] [
 qf 44 1 5,
 ql 45 44,
 qB 46 .eql 45 2,
 qm 47 46,
 qft 48 47 2 5,
 qlt 49 47 48,
 qft 50 47 0 2,
 qlt 51 47 50,
 .rt 52 47 (.lenL (.t 51)),
 .rt 53 47 (.bin .sub false (.t 52) (qI 1)),
 .rt 54 47 (.call (.k (.clo F_ref02_in [])) [.t 49,qI 0,.t 53]),
 .rt 55 47 (.un .not (.t 54)),
 qp 56 47 55])
 (qq 56
 (.seq
 (.reg 12 none [4] [
 qi 4 5])
 .ret)
 .skip))
 (.seq
 (.seq
 (.reg 13 none [5,59] [
 qf 57 1 5,
 ql 58 57,
 qB 59 .eql 58 3])
 (qq 59
 (.seq
 (.reg 14 none [5,7] [
 qL 60 7 5,
 qC 61 F_ref02_measure [.t 60],
 qm 7 61])
 (.seq
 (.reg 15 none [5,7,63] [
 qm 62 7,
 qB 63 .neq 62 0])
 (qq 63
 (.seq
 (.reg 16 none [4] [
 qm 64 7,
 qm 4 64])
 .ret)
 .skip)))
 .skip))
 (.seq
 (.seq
 (.reg 17 none [97] [
 qf 65 1 5,
 ql 66 65,
 qB 67 .neq 66 2,
 qm 68 67,
 qft 69 68 2 5,
 qlt 70 68 69,
 .rt 71 68 (.bin .neq false (.t 70) (qI 0)),
 qp 72 68 71,
 qm 73 72,
 qff 74 73 1 5,
 qlf 75 73 74,
 .rf 76 73 (.bin .neq false (.t 75) (qI 3)),
 qmf 77 73 76,
 qft 78 77 3 5,
 qlt 79 77 78,
 .rt 80 77 (.bin .neq false (.t 79) (qI 0)),
 qmt 81 77 80,
 qff 82 81 4 5,
 qlf 83 81 82,
 .rf 84 81 (.bin .neq false (.t 83) (qI 0)),
 .rt 85 77 (.pick (.t 81) (.k (.v (.bool true))) (.t 84)),
 qmt 86 77 85,
 qff 87 86 5 5,
 qlf 88 86 87,
 .rf 89 86 (.lenL (.t 88)),
 .rf 90 86 (.bin .gtr false (.t 89) (qI 0)),
 .rt 91 77 (.pick (.t 86) (.k (.v (.bool true))) (.t 90)),
 qmt 92 77 91,
 qff 93 92 6 5,
 qlf 94 92 93,
 .rt 95 77 (.pick (.t 92) (.k (.v (.bool true))) (.t 94)),
 .rf 96 73 (.pick (.t 77) (.t 95) (.k (.v (.bool false)))),
 qP 97 73 96])
 (qq 97
 (.seq
 (.reg 18 none [4] [
 qi 4 11])
 .ret)
 .skip))
 (.seq
 (.reg 19 none [4] [
 qi 4 0])
 .ret)))))))))
def ks_ref02_column:List (Nat×List Nat):=kssOf ir_ref02_column
theorem fn_ref02_column:FnIR Tryz.prog F_ref02_column 98 ks_ref02_column ir_ref02_column [(.tmp 4)]:=
 qF Tryz.func122
def ir_ref05_count:RC:=
 (.seq
 (.reg 0 none [1,2] [
 .r 2 (.box (.t 0)),
 qi 4 0])
 (.seq
 (.reg 1 none [1,2,5] [
 qi 5 1])
 (.seq
 (.seq
 (.reg 2 none [1,2,5,6] [
 qi 6 0])
 (.block 0
 (.loop
 (.seq
 (.seq
 (.reg 3 none [1,2,5,6,16] [
 qm 7 6,
 qf 8 5 2,
 ql 9 8,
 qn 10 9,
 qb 11 .lss 7 10,
 qm 12 11,
 qmt 13 12 5,
 qmt 14 12 1,
 .rt 15 12 (.bin .lss false (.t 13) (.t 14)),
 qp 16 12 15])
 (qq 16
 .skip
 (.exit 0)))
 (.seq
 (.block 1
 (.reg 5 none [1,2,5,6] [
 qm 19 5,
 qf 20 5 2,
 ql 21 20,
 qm 22 6,
 qx 23 6 21 22,
 qL 24 6 23,
 qm 25 1,
 qm 26 5,
 qb 27 .sub 25 26,
 qC 28 F_ref05_count [.t 24,.t 27],
 qb 29 .add 19 28,
 qm 5 29]))
 (.reg 4 none [1,2,5,6] [
 qm 17 6,
 qa 18 17,
 qm 6 18]))))))
 (.seq
 (.reg 6 none [4] [
 qm 30 5,
 qm 4 30])
 .ret))))
def ks_ref05_count:List (Nat×List Nat):=kssOf ir_ref05_count
theorem fn_ref05_count:FnIR Tryz.prog F_ref05_count 31 ks_ref05_count ir_ref05_count [(.tmp 4)]:=
 qF Tryz.func123
def ir_ref05_depth:RC:=
 (.seq
 (.reg 0 none [1] [
 .r 1 (.box (.t 0)),
 qi 2 0])
 (.seq
 (.reg 1 none [1,3] [
 qi 3 0])
 (.seq
 (.seq
 (.reg 2 none [1,3,4] [
 qi 4 0])
 (.block 0
 (.loop
 (.seq
 (.seq
 (.reg 3 none [1,3,4,9] [
 qm 5 4,
 qf 6 5 1,
 ql 7 6,
 qn 8 7,
 qb 9 .lss 5 8])
 (qq 9
 .skip
 (.exit 0)))
 (.seq
 (.block 1
 (.reg 5 none [1,3,4] [
 qm 12 3,
 qf 13 5 1,
 ql 14 13,
 qm 15 4,
 qx 16 6 14 15,
 qL 17 6 16,
 qC 18 F_ref05_depth [.t 17],
 .r 19 (.mx [.t 12,.t 18]),
 qm 3 19]))
 (.reg 4 none [1,3,4] [
 qm 10 4,
 qa 11 10,
 qm 4 11]))))))
 (.seq
 (.reg 6 none [2] [
 qm 20 3,
 qa 21 20,
 qm 2 21])
 .ret))))
def ks_ref05_depth:List (Nat×List Nat):=kssOf ir_ref05_depth
theorem fn_ref05_depth:FnIR Tryz.prog F_ref05_depth 22 ks_ref05_depth ir_ref05_depth [(.tmp 2)]:=
 qF Tryz.func124
def ir_ref05_node:RC:=
 (.seq
 (.reg 0 none [2,3] [
 .r 2 (.box (.t 0)),
 .r 3 (.box (.t 1)),
 qi 4 0])
 (.seq
 (.reg 1 (some [0,1,3,0,8,31]) [2,3,5,6] [
 qf 9 0 3,
 ql 10 9,
 .r 11 (.build [.v (.int .i64 0),.v (.int .i64 0),.v (.int .i64 0),.v (.int .i64 0),.v (.int .i64 0),.v (.slice none 0 0)] [((0,1),.t 10)]),
 .r 6 (.new (.agg [.v (.int .i64 0),.v (.int .i64 0),.v (.int .i64 0),.v (.int .i64 0),.v (.int .i64 0),.v (.slice none 0 0)])),
 qi 5 0,
 qs 6 6 11])
 (.seq
 (.seq
 (.reg 2 none [2,3,5,6,13] [
 qf 12 0 3,
 ql 13 12])
 (.block 0
 (.seq
 (.reg 4 none [2,3,5,6,13,14] [
 qB 15 .eql 13 1,
 qm 14 15])
 (qq 14
 .skip
 (.seq
 (.reg 5 none [2,3,5,6,13,16] [
 qB 17 .eql 13 2,
 qm 16 17])
 (qq 16
 (.reg 6 (some [0,1,0,4,3,19,63,127]) [2,3,5,6] [
 qf 18 1 3,
 ql 19 18,
 qf 20 2 3,
 ql 21 20,
 qf 22 1 6,
 qs 1 22 19,
 qf 23 2 6,
 qs 1 23 21])
 (.seq
 (.reg 7 none [2,3,5,6,13,24] [
 qB 25 .eql 13 3,
 qm 24 25])
 (qq 24
 (.reg 8 (some [0,1,0,4,0,16,3,67,207,463,1023,2047]) [2,3,5,6] [
 qf 26 1 3,
 ql 27 26,
 qf 28 3 3,
 ql 29 28,
 qf 30 4 3,
 ql 31 30,
 qf 32 1 6,
 qs 1 32 27,
 qf 33 3 6,
 qs 1 33 29,
 qf 34 4 6,
 qs 1 34 31])
 (.seq
 (.reg 9 none [2,3,5,6,13,35] [
 qB 36 .eql 13 4,
 qm 35 36])
 (qq 35
 (.reg 10 none [2,3,5,6] [
 qf 37 1 3,
 ql 38 37,
 qf 39 1 6,
 qs 1 39 38])
 (.seq
 (.seq
 (.reg 11 none [2,3,6,13,40] [
 qB 41 .eql 13 5,
 qm 40 41])
 (qq 40
 .skip
 (.reg 12 none [2,3,6,13,40] [
 qB 42 .eql 13 6,
 qm 40 42])))
 (qq 40
 (.reg 13 none [2,3,5,6] [
 qi 5 2])
 (.seq
 (.reg 14 none [2,3,6,43] [
 qB 44 .eql 13 7,
 qm 43 44])
 (qq 43
 (.reg 15 none [2,3,5,6] [
 qi 5 1])
 (.seq
 (.reg 3 none [4] [
 qi 4 4])
 .ret)))))))))))))))
 (.seq
 (.seq
 (.reg 16 none [2,3,77] [
 qf 45 5 3,
 ql 46 45,
 qn 47 46,
 qm 48 5,
 qb 49 .neq 47 48,
 qm 50 49,
 qff 51 50 1 6,
 qlf 52 50 51,
 qff 53 50 1 3,
 qlf 54 50 53,
 .rf 55 50 (.bin .neq false (.t 52) (.t 54)),
 qP 56 50 55,
 qm 57 56,
 qff 58 57 2 6,
 qlf 59 57 58,
 qff 60 57 2 3,
 qlf 61 57 60,
 .rf 62 57 (.bin .neq false (.t 59) (.t 61)),
 qP 63 57 62,
 qm 64 63,
 qff 65 64 3 6,
 qlf 66 64 65,
 qff 67 64 3 3,
 qlf 68 64 67,
 .rf 69 64 (.bin .neq false (.t 66) (.t 68)),
 qP 70 64 69,
 qm 71 70,
 qff 72 71 4 6,
 qlf 73 71 72,
 qff 74 71 4 3,
 qlf 75 71 74,
 .rf 76 71 (.bin .neq false (.t 73) (.t 75)),
 qP 77 71 76])
 (qq 77
 (.seq
 (.reg 17 none [4] [
 qi 4 11])
 .ret)
 .skip))
 (.seq
 (.seq
 (.reg 18 none [2,3,121] [
 qf 78 0 3,
 ql 79 78,
 qB 80 .eql 79 2,
 qm 81 80,
 .rt 82 81 (.ld (some 2) (.t 2)),
 qft 83 81 1 3,
 qlt 84 81 83,
 .rt 85 81 (.call (.k (.clo F_ref05_is [])) [.t 82,.t 84,qI 2]),
 .rt 86 81 (.un .not (.t 85)),
 qp 87 81 86,
 qm 88 87,
 qff 89 88 0 3,
 qlf 90 88 89,
 .rf 91 88 (.bin .eql false (.t 90) (qI 3)),
 qmf 92 88 91,
 .rt 93 92 (.ld (some 2) (.t 2)),
 qft 94 92 1 3,
 qlt 95 92 94,
 .rt 96 92 (.call (.k (.clo F_ref05_is [])) [.t 93,.t 95,qI 3]),
 .rt 97 92 (.un .not (.t 96)),
 .rf 98 88 (.pick (.t 92) (.t 97) (.k (.v (.bool false)))),
 qP 99 88 98,
 qm 100 99,
 qff 101 100 0 3,
 qlf 102 100 101,
 .rf 103 100 (.bin .eql false (.t 102) (qI 4)),
 qmf 104 100 103,
 .rt 105 104 (.ld (some 2) (.t 2)),
 qft 106 104 1 3,
 qlt 107 104 106,
 .rt 108 104 (.call (.k (.clo F_ref05_is [])) [.t 105,.t 107,qI 3]),
 .rt 109 104 (.un .not (.t 108)),
 qmt 110 104 109,
 qff 111 110 1 2,
 qlf 112 110 111,
 qff 113 110 1 3,
 qlf 114 110 113,
 .rf 115 110 (.ixL 7 (.t 112) (.t 114)),
 qff 116 110 6 115,
 qlf 117 110 116,
 .rf 118 110 (.un .not (.t 117)),
 .rt 119 104 (.pick (.t 110) (.k (.v (.bool true))) (.t 118)),
 .rf 120 100 (.pick (.t 104) (.t 119) (.k (.v (.bool false)))),
 qP 121 100 120])
 (qq 121
 (.seq
 (.reg 19 none [4] [
 qi 4 7])
 .ret)
 .skip))
 (.seq
 (.seq
 (.reg 20 (some [0,1,3,7,15,31,63,127,255,511,255,1279,255,4351,255,16639,61695,127231,258303,523519,1047807,2096383,4193535,8388607,16777215,33554431]) [2,3,147] [
 qf 122 0 3,
 ql 123 122,
 qB 124 .eql 123 2,
 qm 125 124,
 qft 126 125 2 3,
 qlt 127 125 126,
 .rt 128 125 (.bin .lss false (.t 127) (qI 0)),
 qmt 129 125 128,
 qff 130 129 2 3,
 qlf 131 129 130,
 qff 132 129 0 2,
 qlf 133 129 132,
 qff 134 129 1 2,
 qlf 135 129 134,
 qff 136 129 1 3,
 qlf 137 129 136,
 .rf 138 129 (.ixL 7 (.t 135) (.t 137)),
 qff 139 129 2 138,
 qlf 140 129 139,
 .rf 141 129 (.ixL 2 (.t 133) (.t 140)),
 qff 142 129 1 141,
 qlf 143 129 142,
 .rf 144 129 (.lenL (.t 143)),
 .rf 145 129 (.bin .geq false (.t 131) (.t 144)),
 .rt 146 125 (.pick (.t 129) (.k (.v (.bool true))) (.t 145)),
 qp 147 125 146])
 (qq 147
 (.seq
 (.reg 21 none [4] [
 qi 4 6])
 .ret)
 .skip))
 (.seq
 (.seq
 (.reg 22 none [2,3,167] [
 qf 148 0 3,
 ql 149 148,
 qB 150 .eql 149 3,
 qm 151 150,
 qft 152 151 3 3,
 qlt 153 151 152,
 .rt 154 151 (.bin .lss false (.t 153) (.k (.v (.int .i64 (-1000000))))),
 qmt 155 151 154,
 qff 156 155 4 3,
 qlf 157 155 156,
 .rf 158 155 (.bin .gtr false (.t 157) (qI 1000000)),
 .rt 159 151 (.pick (.t 155) (.k (.v (.bool true))) (.t 158)),
 qmt 160 151 159,
 qff 161 160 3 3,
 qlf 162 160 161,
 qff 163 160 4 3,
 qlf 164 160 163,
 .rf 165 160 (.bin .gtr false (.t 162) (.t 164)),
 .rt 166 151 (.pick (.t 160) (.k (.v (.bool true))) (.t 165)),
 qp 167 151 166])
 (qq 167
 (.seq
 (.reg 23 none [4] [
 qi 4 2])
 .ret)
 .skip))
 (.seq
 (.seq
 (.reg 24 none [2,3,7] [
 qi 7 0])
 (.block 1
 (.loop
 (.seq
 (.seq
 (.reg 25 none [2,3,7,172] [
 qm 168 7,
 qf 169 5 3,
 ql 170 169,
 qn 171 170,
 qb 172 .lss 168 171])
 (qq 172
 .skip
 (.exit 1)))
 (.seq
 (.block 2
 (.seq
 (.reg 27 (some [0,0,2,0,14,30,63,127]) [2,3,7,8] [
 qL 175 2 2,
 qf 176 5 3,
 ql 177 176,
 qm 178 7,
 qx 179 6 177 178,
 qL 180 6 179,
 qC 181 F_ref05_node [.t 175,.t 180],
 qm 8 181])
 (.seq
 (.reg 28 none [2,3,7,8,183] [
 qm 182 8,
 qB 183 .neq 182 0])
 (qq 183
 (.seq
 (.reg 29 none [4] [
 qm 184 8,
 qm 4 184])
 .ret)
 .skip))))
 (.reg 26 none [2,3,7] [
 qm 173 7,
 qa 174 173,
 qm 7 174]))))))
 (.seq
 (.reg 30 none [4] [
 qi 4 0])
 .ret)))))))))
def ks_ref05_node:List (Nat×List Nat):=kssOf ir_ref05_node
theorem fn_ref05_node:FnIR Tryz.prog F_ref05_node 185 ks_ref05_node ir_ref05_node [(.tmp 4)]:=
 qF Tryz.func125
def ir_ref08_parts:RC:=
 (.seq
 (.reg 0 none [2,3] [
 .r 2 (.box (.t 0)),
 .r 3 (.box (.t 1)),
 qi 4 0])
 (.seq
 (.reg 1 none [2,3,5] [
 qL 7 2 2,
 qf 8 9 3,
 ql 9 8,
 qC 10 F_ref08_Is [.t 7,.t 9,qI 3],
 qm 5 10])
 (.seq
 (.seq
 (.reg 2 none [2,3,5,12] [
 qf 11 1 3,
 ql 12 11])
 (.block 0
 (.seq
 (.reg 8 none [2,3,5,12,27] [
 qB 28 .eql 12 1,
 qm 27 28])
 (qq 27
 (.seq
 (.seq
 (.reg 9 none [3,5,6] [
 qL 29 2 2,
 qf 30 8 3,
 ql 31 30,
 qC 32 F_ref08_Dims [.t 29,.t 31],
 qm 6 32])
 (.seq
 (.reg 10 none [3,5,6,34] [
 qm 33 6,
 qB 34 .neq 33 0])
 (qq 34
 (.seq
 (.reg 11 none [4] [
 qm 35 6,
 qm 4 35])
 .ret)
 .skip)))
 (.seq
 (.reg 12 none [42] [
 qf 36 9 3,
 ql 37 36,
 .r 38 (.bin .neq false (.t 37) (.k (.v (.int .i64 (-1))))),
 qm 39 38,
 qmt 40 39 5,
 .rt 41 39 (.un .not (.t 40)),
 qp 42 39 41])
 (qq 42
 (.seq
 (.reg 13 none [4] [
 qi 4 7])
 .ret)
 .skip)))
 (.seq
 (.reg 14 none [2,3,5,43] [
 qB 44 .eql 12 2,
 qm 43 44])
 (qq 43
 (.seq
 (.seq
 (.reg 15 none [2,3,46] [
 qm 45 5,
 .r 46 (.un .not (.t 45))])
 (qq 46
 (.seq
 (.reg 16 none [4] [
 qi 4 7])
 .ret)
 .skip))
 (.seq
 (.reg 17 none [4] [
 qL 47 2 2,
 qf 48 9 3,
 ql 49 48,
 qf 50 10 3,
 ql 51 50,
 qC 52 F_ref08_Terms [.t 47,.t 49,.t 51],
 qm 4 52])
 .ret))
 (.seq
 (.seq
 (.reg 3 none [2,3,14] [
 qm 13 5,
 .r 14 (.un .not (.t 13))])
 (qq 14
 (.seq
 (.reg 4 none [4] [
 qi 4 7])
 .ret)
 .skip))
 (.seq
 (.seq
 (.reg 5 none [2,3,22] [
 qf 15 1 2,
 ql 16 15,
 qf 17 9 3,
 ql 18 17,
 qx 19 7 16 18,
 qf 20 3 19,
 ql 21 20,
 qB 22 .lss 21 0])
 (qq 22
 (.seq
 (.reg 6 none [4] [
 qi 4 2])
 .ret)
 .skip))
 (.seq
 (.reg 7 none [4] [
 qL 23 2 2,
 qf 24 11 3,
 qL 25 6 24,
 qC 26 F_ref05_Check [.t 23,.t 25],
 qm 4 26])
 .ret)))))))))
 (.seq
 (.reg 18 none [4] [
 qi 4 0])
 .ret))))
def ks_ref08_parts:List (Nat×List Nat):=kssOf ir_ref08_parts
theorem fn_ref08_parts:FnIR Tryz.prog F_ref08_parts 53 ks_ref08_parts ir_ref08_parts [(.tmp 4)]:=
 qF Tryz.func126
def ir_ref08_zero:RC:=
 (.seq
 (.reg 0 none [1] [
 .r 1 (.box (.t 0)),
 qc 2 false])
 (.seq
 (.reg 1 none [2] [
 qL 3 6 1,
 .r 4 (.build [.v (.int .i64 0),.v (.int .i64 0),.v (.int .i64 0),.v (.int .i64 0),.v (.int .i64 0),.v (.slice none 0 0)] []),
 qC 5 F_ref05_Same [.t 3,.t 4],
 qm 2 5])
 .ret))
def ks_ref08_zero:List (Nat×List Nat):=kssOf ir_ref08_zero
theorem fn_ref08_zero:FnIR Tryz.prog F_ref08_zero 6 ks_ref08_zero ir_ref08_zero [(.tmp 2)]:=
 qF Tryz.func127
def ir_ref05_Atoms:RC:=
 (.seq
 (.reg 0 none [1] [
 .r 1 (.box (.t 0)),
 .r 2 (.mv (qN))])
 (.seq
 (.seq
 (.reg 1 none [1,17] [
 qf 5 0 1,
 ql 6 5,
 qB 7 .eql 6 2,
 qm 8 7,
 qff 9 8 0 1,
 qlf 10 8 9,
 .rf 11 8 (.bin .eql false (.t 10) (qI 3)),
 qP 12 8 11,
 qm 13 12,
 qff 14 13 0 1,
 qlf 15 13 14,
 .rf 16 13 (.bin .eql false (.t 15) (qI 4)),
 qP 17 13 16])
 (qq 17
 (.seq
 (.reg 2 none [2] [
 qL 18 6 1,
 .r 19 (.bsl 6 1 [.t 18]),
 qm 2 19])
 .ret)
 .skip))
 (.seq
 (.reg 3 none [1,3] [
 .r 3 (.mv (qN))])
 (.seq
 (.seq
 (.reg 4 none [1,3,4] [
 qi 4 0])
 (.block 0
 (.loop
 (.seq
 (.seq
 (.reg 5 none [1,3,4,24] [
 qm 20 4,
 qf 21 5 1,
 ql 22 21,
 qn 23 22,
 qb 24 .lss 20 23])
 (qq 24
 .skip
 (.exit 0)))
 (.seq
 (.block 1
 (.reg 7 none [1,3,4] [
 qm 27 3,
 qf 28 5 1,
 ql 29 28,
 qm 30 4,
 qx 31 6 29 30,
 qL 32 6 31,
 qC 33 F_ref05_Atoms [.t 32],
 .r 34 (.app 6 64 false (.t 27) (.t 33)),
 qm 3 34]))
 (.reg 6 none [1,3,4] [
 qm 25 4,
 qa 26 25,
 qm 4 26]))))))
 (.seq
 (.reg 8 none [2] [
 qm 35 3,
 qm 2 35])
 .ret)))))
def ks_ref05_Atoms:List (Nat×List Nat):=kssOf ir_ref05_Atoms
theorem fn_ref05_Atoms:FnIR Tryz.prog F_ref05_Atoms 36 ks_ref05_Atoms ir_ref05_Atoms [(.tmp 2)]:=
 qF Tryz.func128
def ir_ref05_decides:RC:=
 (.seq
 (.reg 0 none [2,3,4] [
 .r 3 (.box (.t 0)),
 .r 4 (.box (.t 1)),
 qc 6 false])
 (.seq
 (.reg 1 none [2,3,4,7] [
 qf 14 1 3,
 ql 15 14,
 qf 16 1 4,
 ql 17 16,
 qx 18 7 15 17,
 qL 19 7 18,
 .r 7 (.new (.agg [.v (.string ⟨#[]⟩),.v (.int .i64 0),.v (.int .i64 0),.v (.int .i64 0),.v (.int .i64 0),.v (.slice none 0 0),.v (.bool false)])),
 qs 7 7 19])
 (.seq
 (.seq
 (.reg 2 none [2,3,4,7,22] [
 qf 20 0 4,
 ql 21 20,
 qB 22 .eql 21 2])
 (qq 22
 (.seq
 (.reg 3 none [2,3,4,8] [
 qL 23 2 3,
 qf 24 1 4,
 ql 25 24,
 qC 26 F_ref02_Leaves [.t 23,.t 25],
 qm 8 26])
 (.seq
 (.seq
 (.reg 4 none [2,3,4,8,9] [
 qi 9 0])
 (.block 0
 (.loop
 (.seq
 (.seq
 (.reg 5 none [2,3,4,8,9,30] [
 qm 27 9,
 qm 28 8,
 qn 29 28,
 qb 30 .lss 27 29])
 (qq 30
 .skip
 (.exit 0)))
 (.seq
 (.block 1
 (.seq
 (.reg 7 none [2,3,4,8,9,10] [
 qi 10 0])
 (.block 2
 (.loop
 (.seq
 (.seq
 (.reg 8 none [2,3,4,8,9,10,35] [
 qm 33 10,
 qm 34 9,
 qb 35 .lss 33 34])
 (qq 35
 .skip
 (.exit 2)))
 (.seq
 (.block 3
 (.seq
 (.reg 10 (some [0,0,2,0,0,0,48,112,255,0,0,1024,0,0,0,24576,57344,131071,262143,524287,1048575,1048575,1048575,1048575,13631487,30408703,67108863,1048575,1048575,1048575,1048575,1611661311,3759144959,8589934591,17179869183,34359738367]) [2,3,4,8,9,10,73] [
 qL 38 2 3,
 qf 39 1 4,
 ql 40 39,
 qm 41 2,
 qm 42 8,
 qm 43 9,
 qx 44 1 42 43,
 ql 45 44,
 qC 46 F_ref02_Coarse [.t 38,.t 40,.t 41,.t 45],
 qL 47 2 3,
 qf 48 1 4,
 ql 49 48,
 qm 50 2,
 qm 51 8,
 qm 52 10,
 qx 53 1 51 52,
 ql 54 53,
 qC 55 F_ref02_Coarse [.t 47,.t 49,.t 50,.t 54],
 qb 56 .eql 46 55,
 qm 57 56,
 .rt 58 57 (.ld (some 2) (.t 3)),
 .rt 59 57 (.ld (some 6) (.t 4)),
 qmt 60 57 8,
 qmt 61 57 9,
 .rt 62 57 (.ixL 1 (.t 60) (.t 61)),
 qlt 63 57 62,
 .rt 64 57 (.call (.k (.clo F_ref05_Atom [])) [.t 58,.t 59,.t 63]),
 .rt 65 57 (.ld (some 2) (.t 3)),
 .rt 66 57 (.ld (some 6) (.t 4)),
 qmt 67 57 8,
 qmt 68 57 10,
 .rt 69 57 (.ixL 1 (.t 67) (.t 68)),
 qlt 70 57 69,
 .rt 71 57 (.call (.k (.clo F_ref05_Atom [])) [.t 65,.t 66,.t 70]),
 .rt 72 57 (.bin .neq false (.t 64) (.t 71)),
 qp 73 57 72])
 (qq 73
 (.seq
 (.reg 11 none [6] [
 qc 6 false])
 .ret)
 .skip)))
 (.reg 9 none [2,3,4,8,9,10] [
 qm 36 10,
 qa 37 36,
 qm 10 37])))))))
 (.reg 6 none [2,3,4,8,9] [
 qm 31 9,
 qa 32 31,
 qm 9 32]))))))
 (.seq
 (.reg 12 none [6] [
 qc 6 true])
 .ret)))
 .skip))
 (.seq
 (.seq
 (.reg 13 none [2,4,7,76] [
 qf 74 0 4,
 ql 75 74,
 qB 76 .eql 75 4])
 (qq 76
 (.seq
 (.reg 14 none [6] [
 qm 77 2,
 qB 78 .gtr 77 0,
 qm 6 78])
 .ret)
 .skip))
 (.seq
 (.reg 15 (some [0,1,0,4,15,31,63,127,63,319,1023,2047,0,4096,0,16384,61440,127039,258111,520255,258111,1306687,4190271,8384575,262143,33554431]) [2,4,7,11,12] [
 qf 79 3 4,
 ql 80 79,
 qf 81 3 7,
 ql 82 81,
 qb 83 .gtr 80 82,
 qm 84 83,
 qft 85 84 3 4,
 qlt 86 84 85,
 qft 87 84 4 7,
 qlt 88 84 87,
 .rt 89 84 (.bin .leq false (.t 86) (.t 88)),
 qp 90 84 89,
 qf 91 4 4,
 ql 92 91,
 qf 93 3 7,
 ql 94 93,
 qb 95 .geq 92 94,
 qm 96 95,
 qft 97 96 4 4,
 qlt 98 96 97,
 qft 99 96 4 7,
 qlt 100 96 99,
 .rt 101 96 (.bin .lss false (.t 98) (.t 100)),
 qp 102 96 101,
 qm 11 90,
 qm 12 102])
 (.seq
 (.seq
 (.reg 16 none [2,4,7,11,12,104] [
 qm 103 2,
 qB 104 .eql 103 0])
 (qq 104
 (.seq
 (.reg 17 none [6] [
 qf 105 6 7,
 ql 106 105,
 .r 107 (.un .not (.t 106)),
 qm 108 107,
 qmt 109 108 11,
 .rt 110 108 (.un .not (.t 109)),
 qp 111 108 110,
 qm 112 111,
 qmt 113 112 12,
 .rt 114 112 (.un .not (.t 113)),
 qp 115 112 114,
 qm 6 115])
 .ret)
 .skip))
 (.seq
 (.reg 18 none [4,11,12,13] [
 qL 116 7 7,
 qm 117 2,
 qC 118 F_ref02_Width [.t 116,.t 117],
 qm 13 118])
 (.seq
 (.reg 19 none [6] [
 qm 119 11,
 .r 120 (.un .not (.t 119)),
 qm 121 120,
 qff 122 121 3 4,
 qlf 123 121 122,
 qmf 124 121 13,
 .rf 125 121 (.bin .rem false (.t 123) (.t 124)),
 .rf 126 121 (.bin .eql false (.t 125) (qI 0)),
 qP 127 121 126,
 qm 128 127,
 qmt 129 128 12,
 .rt 130 128 (.un .not (.t 129)),
 qmt 131 128 130,
 qff 132 131 4 4,
 qlf 133 131 132,
 .rf 134 131 (.bin .add false (.t 133) (qI 1)),
 qmf 135 131 13,
 .rf 136 131 (.bin .rem false (.t 134) (.t 135)),
 .rf 137 131 (.bin .eql false (.t 136) (qI 0)),
 .rt 138 128 (.pick (.t 131) (.k (.v (.bool true))) (.t 137)),
 qp 139 128 138,
 qm 6 139])
 .ret))))))))
def ks_ref05_decides:List (Nat×List Nat):=kssOf ir_ref05_decides
theorem fn_ref05_decides:FnIR Tryz.prog F_ref05_decides 140 ks_ref05_decides ir_ref05_decides [(.tmp 6)]:=
 qF Tryz.func129
def ir_ref02_divides:RC:=
 (.seq
 (.reg 0 none [1,2,3,4] [
 .r 4 (.box (.t 0)),
 qc 8 false])
 (.seq
 (.reg 1 none [1,2,3,4,9] [
 qf 16 1 4,
 ql 17 16,
 qm 18 1,
 qx 19 7 17 18,
 qL 20 7 19,
 .r 9 (.new (.agg [.v (.string ⟨#[]⟩),.v (.int .i64 0),.v (.int .i64 0),.v (.int .i64 0),.v (.int .i64 0),.v (.slice none 0 0),.v (.bool false)])),
 qs 7 9 20])
 (.seq
 (.seq
 (.reg 2 none [1,2,3,4,9,27] [
 qm 21 3,
 qB 22 .eql 21 0,
 qm 23 22,
 qmf 24 23 2,
 qmf 25 23 3,
 .rf 26 23 (.bin .geq false (.t 24) (.t 25)),
 qP 27 23 26])
 (qq 27
 (.seq
 (.reg 3 none [8] [
 qc 8 true])
 .ret)
 .skip))
 (.seq
 (.seq
 (.reg 4 none [1,2,3,4,9,30] [
 qf 28 1 9,
 ql 29 28,
 qB 30 .eql 29 2])
 (qq 30
 (.seq
 (.reg 5 none [1,2,3,4,10] [
 qL 31 2 4,
 qm 32 1,
 qC 33 F_ref02_Leaves [.t 31,.t 32],
 qm 10 33])
 (.seq
 (.seq
 (.reg 6 none [1,2,3,4,10,11] [
 qi 11 0])
 (.block 0
 (.loop
 (.seq
 (.seq
 (.reg 7 none [1,2,3,4,10,11,37] [
 qm 34 11,
 qm 35 10,
 qn 36 35,
 qb 37 .lss 34 36])
 (qq 37
 .skip
 (.exit 0)))
 (.seq
 (.block 1
 (.seq
 (.reg 9 none [1,2,3,4,10,11,12] [
 qi 12 0])
 (.block 2
 (.loop
 (.seq
 (.seq
 (.reg 10 none [1,2,3,4,10,11,12,42] [
 qm 40 12,
 qm 41 11,
 qb 42 .lss 40 41])
 (qq 42
 .skip
 (.exit 2)))
 (.seq
 (.block 3
 (.seq
 (.reg 12 (some [0,0,0,0,0,24,56,127,0,0,0,0,0,6144,14336,32767,65535,131071,262143,262143,262143,262143,262143,6553599,14942207,33554431,262143,262143,262143,262143,262143,1610874879,3758358527,8589934591,17179869183,34359738367]) [1,2,3,4,10,11,12,80] [
 qL 45 2 4,
 qm 46 1,
 qm 47 3,
 qm 48 10,
 qm 49 11,
 qx 50 1 48 49,
 ql 51 50,
 qC 52 F_ref02_Coarse [.t 45,.t 46,.t 47,.t 51],
 qL 53 2 4,
 qm 54 1,
 qm 55 3,
 qm 56 10,
 qm 57 12,
 qx 58 1 56 57,
 ql 59 58,
 qC 60 F_ref02_Coarse [.t 53,.t 54,.t 55,.t 59],
 qb 61 .neq 52 60,
 qm 62 61,
 .rt 63 62 (.ld (some 2) (.t 4)),
 qmt 64 62 1,
 qmt 65 62 2,
 qmt 66 62 10,
 qmt 67 62 11,
 .rt 68 62 (.ixL 1 (.t 66) (.t 67)),
 qlt 69 62 68,
 .rt 70 62 (.call (.k (.clo F_ref02_Coarse [])) [.t 63,.t 64,.t 65,.t 69]),
 .rt 71 62 (.ld (some 2) (.t 4)),
 qmt 72 62 1,
 qmt 73 62 2,
 qmt 74 62 10,
 qmt 75 62 12,
 .rt 76 62 (.ixL 1 (.t 74) (.t 75)),
 qlt 77 62 76,
 .rt 78 62 (.call (.k (.clo F_ref02_Coarse [])) [.t 71,.t 72,.t 73,.t 77]),
 .rt 79 62 (.bin .eql false (.t 70) (.t 78)),
 qp 80 62 79])
 (qq 80
 (.seq
 (.reg 13 none [8] [
 qc 8 false])
 .ret)
 .skip)))
 (.reg 11 none [1,2,3,4,10,11,12] [
 qm 43 12,
 qa 44 43,
 qm 12 44])))))))
 (.reg 8 none [1,2,3,4,10,11] [
 qm 38 11,
 qa 39 38,
 qm 11 39]))))))
 (.seq
 (.reg 14 none [8] [
 qc 8 true])
 .ret)))
 .skip))
 (.seq
 (.reg 15 none [2,9,13] [
 qL 81 7 9,
 qm 82 3,
 qC 83 F_ref02_Width [.t 81,.t 82],
 qm 13 83])
 (.seq
 (.reg 16 none [2,9,13,14] [
 qf 84 3 9,
 ql 85 84,
 qm 86 13,
 qC 87 F_ref02_Floor [.t 85,.t 86],
 qa 88 87,
 qm 89 13,
 qb 90 .mul 88 89,
 qm 14 90])
 (.seq
 (.seq
 (.reg 17 none [2,9,13,14,92] [
 qm 91 2,
 qB 92 .eql 91 0])
 (qq 92
 (.seq
 (.reg 18 none [8] [
 qf 93 6 9,
 ql 94 93,
 .r 95 (.un .not (.t 94)),
 qm 96 95,
 qmt 97 96 14,
 qft 98 96 4 9,
 qlt 99 96 98,
 .rt 100 96 (.bin .gtr false (.t 97) (.t 99)),
 qp 101 96 100,
 qm 8 101])
 .ret)
 .skip))
 (.seq
 (.seq
 (.reg 19 none [2,9,13,14,15] [
 qi 15 0])
 (.block 4
 (.loop
 (.seq
 (.seq
 (.reg 20 none [2,9,13,14,15,109] [
 qm 102 15,
 qB 103 .lss 102 2,
 qm 104 103,
 qmt 105 104 14,
 qft 106 104 4 9,
 qlt 107 104 106,
 .rt 108 104 (.bin .leq false (.t 105) (.t 107)),
 qp 109 104 108])
 (qq 109
 .skip
 (.exit 4)))
 (.seq
 (.block 5
 (.seq
 (.seq
 (.reg 22 none [2,9,13,14,15,117] [
 qm 112 14,
 qL 113 7 9,
 qm 114 2,
 qC 115 F_ref02_Width [.t 113,.t 114],
 qb 116 .rem 112 115,
 qB 117 .neq 116 0])
 (qq 117
 (.seq
 (.reg 23 none [8] [
 qc 8 false])
 .ret)
 .skip))
 (.reg 24 none [2,9,13,14,15] [
 qm 118 14,
 qm 119 13,
 qb 120 .add 118 119,
 qm 14 120])))
 (.reg 21 none [2,9,13,14,15] [
 qm 110 15,
 qa 111 110,
 qm 15 111]))))))
 (.seq
 (.reg 25 none [8] [
 qc 8 true])
 .ret)))))))))
def ks_ref02_divides:List (Nat×List Nat):=kssOf ir_ref02_divides
theorem fn_ref02_divides:FnIR Tryz.prog F_ref02_divides 121 ks_ref02_divides ir_ref02_divides [(.tmp 8)]:=
 qF Tryz.func130
def ir_ref01_Levels:RC:=
 (.seq
 (.reg 0 none [1] [
 .r 1 (.box (.t 0)),
 qi 2 0])
 (.seq
 (.seq
 (.reg 1 none [1,5] [
 qL 3 2 1,
 qC 4 F_ref01_Check [.t 3],
 qB 5 .neq 4 0])
 (qq 5
 (.seq
 (.reg 2 none [2] [
 .r 2 (.mv (.k (.v (.int .i64 (-1)))))])
 .ret)
 .skip))
 (.seq
 (.reg 3 none [2] [
 qL 6 2 1,
 qf 7 1 1,
 ql 8 7,
 qn 9 8,
 qB 10 .sub 9 1,
 qC 11 F_ref01_depth [.t 6,.t 10],
 qa 12 11,
 qm 2 12])
 .ret)))
def ks_ref01_Levels:List (Nat×List Nat):=kssOf ir_ref01_Levels
theorem fn_ref01_Levels:FnIR Tryz.prog F_ref01_Levels 13 ks_ref01_Levels ir_ref01_Levels [(.tmp 2)]:=
 qF Tryz.func131
def ir_ref02_Pick:RC:=
 (.seq
 (.reg 0 none [2,3] [
 .r 2 (.box (.t 0)),
 .r 3 (.box (.t 1)),
 qi 4 0])
 (.seq
 (.seq
 (.reg 1 none [2,3,5] [
 qL 6 2 2,
 qC 7 F_ref02_Check [.t 6],
 qm 5 7])
 (.seq
 (.reg 2 none [2,3,5,9] [
 qm 8 5,
 qB 9 .neq 8 0])
 (qq 9
 (.seq
 (.reg 3 none [4] [
 qm 10 5,
 qm 4 10])
 .ret)
 .skip)))
 (.seq
 (.seq
 (.reg 4 none [2,3,21] [
 qf 11 0 3,
 ql 12 11,
 qB 13 .lss 12 1,
 qm 14 13,
 qff 15 14 0 3,
 qlf 16 14 15,
 qff 17 14 1 2,
 qlf 18 14 17,
 .rf 19 14 (.lenL (.t 18)),
 .rf 20 14 (.bin .geq false (.t 16) (.t 19)),
 qP 21 14 20])
 (qq 21
 (.seq
 (.reg 5 none [4] [
 qi 4 7])
 .ret)
 .skip))
 (.seq
 (.seq
 (.reg 6 (some [0,1,0,0,8,28,63,127]) [29] [
 qf 22 1 3,
 ql 23 22,
 qL 24 2 2,
 qf 25 0 3,
 ql 26 25,
 qC 27 F_ref02_Finest [.t 24,.t 26],
 qC 28 F_ref02_in [.t 23,qI 0,.t 27],
 .r 29 (.un .not (.t 28))])
 (qq 29
 (.seq
 (.reg 7 none [4] [
 qi 4 8])
 .ret)
 .skip))
 (.seq
 (.reg 8 none [4] [
 qi 4 0])
 .ret)))))
def ks_ref02_Pick:List (Nat×List Nat):=kssOf ir_ref02_Pick
theorem fn_ref02_Pick:FnIR Tryz.prog F_ref02_Pick 30 ks_ref02_Pick ir_ref02_Pick [(.tmp 4)]:=
 qF Tryz.func132
def ir_ref05_Covers:RC:=
 (.seq
 (.reg 0 none [0,1] [
 qc 4 false])
 (.seq
 (.seq
 (.reg 1 none [0,1,5] [
 qi 5 0])
 (.block 0
 (.loop
 (.seq
 (.seq
 (.reg 2 none [0,1,5,11] [
 qm 8 5,
 qm 9 0,
 qn 10 9,
 qb 11 .lss 8 10])
 (qq 11
 .skip
 (.exit 0)))
 (.seq
 (.block 1
 (.seq
 (.reg 4 none [0,1,5,6] [
 qc 6 false])
 (.seq
 (.seq
 (.reg 5 none [0,1,5,6,7] [
 qi 7 0])
 (.block 2
 (.loop
 (.seq
 (.seq
 (.reg 6 none [0,1,5,6,7,17] [
 qm 14 7,
 qm 15 1,
 qn 16 15,
 qb 17 .lss 14 16])
 (qq 17
 .skip
 (.exit 2)))
 (.seq
 (.block 3
 (.reg 8 (some [0,1,3,3,15,31,63,3,3,387,899,1923,4095,8191,16383,16383,65535,131071,262143,16383,16383,1589247,3686399,7880703,16777215,33554431,67108863,134217727]) [0,1,5,6,7] [
 qm 20 6,
 qm 21 20,
 qmf 22 21 1,
 qmf 23 21 7,
 .rf 24 21 (.ixL 2 (.t 22) (.t 23)),
 qff 25 21 0 24,
 qlf 26 21 25,
 qmf 27 21 0,
 qmf 28 21 5,
 .rf 29 21 (.ixL 2 (.t 27) (.t 28)),
 qff 30 21 0 29,
 qlf 31 21 30,
 .rf 32 21 (.bin .eql false (.t 26) (.t 31)),
 qmf 33 21 32,
 qmt 34 33 1,
 qmt 35 33 7,
 .rt 36 33 (.ixL 2 (.t 34) (.t 35)),
 qft 37 33 1 36,
 qlt 38 33 37,
 qmt 39 33 0,
 qmt 40 33 5,
 .rt 41 33 (.ixL 2 (.t 39) (.t 40)),
 qft 42 33 1 41,
 qlt 43 33 42,
 .rt 44 33 (.bin .geq false (.t 38) (.t 43)),
 .rf 45 21 (.pick (.t 33) (.t 44) (.k (.v (.bool false)))),
 qP 46 21 45,
 qm 6 46]))
 (.reg 7 none [0,1,5,6,7] [
 qm 18 7,
 qa 19 18,
 qm 7 19]))))))
 (.seq
 (.reg 9 none [0,1,5,48] [
 qm 47 6,
 .r 48 (.un .not (.t 47))])
 (qq 48
 (.seq
 (.reg 10 none [4] [
 qc 4 false])
 .ret)
 .skip)))))
 (.reg 3 none [0,1,5] [
 qm 12 5,
 qa 13 12,
 qm 5 13]))))))
 (.seq
 (.reg 11 none [4] [
 qc 4 true])
 .ret)))
def ks_ref05_Covers:List (Nat×List Nat):=kssOf ir_ref05_Covers
theorem fn_ref05_Covers:FnIR Tryz.prog F_ref05_Covers 49 ks_ref05_Covers ir_ref05_Covers [(.tmp 4)]:=
 qF Tryz.func133
def ir_ref05_eval:RC:=
 (.seq
 (.reg 0 none [2,3,4] [
 .r 3 (.box (.t 0)),
 .r 4 (.box (.t 1)),
 qi 6 0])
 (.seq
 (.seq
 (.reg 1 none [2,3,4,21] [
 qf 9 0 4,
 ql 10 9,
 qB 11 .eql 10 2,
 qm 12 11,
 qff 13 12 0 4,
 qlf 14 12 13,
 .rf 15 12 (.bin .eql false (.t 14) (qI 3)),
 qP 16 12 15,
 qm 17 16,
 qff 18 17 0 4,
 qlf 19 17 18,
 .rf 20 17 (.bin .eql false (.t 19) (qI 4)),
 qP 21 17 20])
 (qq 21
 (.seq
 (.reg 2 (some [0,0,0,0,8,28,60,127,255]) [6] [
 qL 22 2 3,
 qL 23 6 4,
 qm 24 2,
 qf 25 1 4,
 ql 26 25,
 qx 27 1 24 26,
 ql 28 27,
 qC 29 F_ref05_Atom [.t 22,.t 23,.t 28],
 qm 6 29])
 .ret)
 .skip))
 (.seq
 (.reg 3 none [2,3,4,7] [
 .r 7 (.mv (qN))])
 (.seq
 (.seq
 (.reg 4 none [2,3,4,7,8] [
 qi 8 0])
 (.block 0
 (.loop
 (.seq
 (.seq
 (.reg 5 none [2,3,4,7,8,34] [
 qm 30 8,
 qf 31 5 4,
 ql 32 31,
 qn 33 32,
 qb 34 .lss 30 33])
 (qq 34
 .skip
 (.exit 0)))
 (.seq
 (.block 1
 (.reg 7 (some [0,0,0,4,0,28,60,0,254,510,1023,2047]) [2,3,4,7,8] [
 qm 37 7,
 qL 38 2 3,
 qf 39 5 4,
 ql 40 39,
 qm 41 8,
 qx 42 6 40 41,
 qL 43 6 42,
 qm 44 2,
 qC 45 F_ref05_eval [.t 38,.t 43,.t 44],
 .r 46 (.bsl 1 1 [.t 45]),
 .r 47 (.app 1 8 false (.t 37) (.t 46)),
 qm 7 47]))
 (.reg 6 none [2,3,4,7,8] [
 qm 35 8,
 qa 36 35,
 qm 8 36]))))))
 (.seq
 (.reg 8 none [6] [
 qf 48 0 4,
 ql 49 48,
 qm 50 7,
 qC 51 F_ref05_join [.t 49,.t 50],
 qm 6 51])
 .ret)))))
def ks_ref05_eval:List (Nat×List Nat):=kssOf ir_ref05_eval
theorem fn_ref05_eval:FnIR Tryz.prog F_ref05_eval 52 ks_ref05_eval ir_ref05_eval [(.tmp 6)]:=
 qF Tryz.func134
def ir_ref11_Check:RC:=
 (.seq
 (.reg 0 none [1] [
 .r 1 (.box (.t 0)),
 qi 2 0])
 (.seq
 (.seq
 (.reg 1 none [32] [
 qf 3 1 1,
 ql 4 3,
 qB 5 .lss 4 1,
 qm 6 5,
 qff 7 6 1 1,
 qlf 8 6 7,
 .rf 9 6 (.bin .gtr false (.t 8) (qI 1000)),
 qP 10 6 9,
 qm 11 10,
 qff 12 11 0 1,
 qlf 13 11 12,
 .rf 14 11 (.bin .lss false (.t 13) (qI 1)),
 qP 15 11 14,
 qm 16 15,
 qff 17 16 0 1,
 qlf 18 16 17,
 qff 19 16 1 1,
 qlf 20 16 19,
 .rf 21 16 (.bin .gtr false (.t 18) (.t 20)),
 qP 22 16 21,
 qm 23 22,
 qff 24 23 2 1,
 qlf 25 23 24,
 .rf 26 23 (.bin .lss false (.t 25) (qI 0)),
 qP 27 23 26,
 qm 28 27,
 qff 29 28 2 1,
 qlf 30 28 29,
 .rf 31 28 (.bin .gtr false (.t 30) (qI 1099511627776)),
 qP 32 28 31])
 (qq 32
 (.seq
 (.reg 2 none [2] [
 qi 2 2])
 .ret)
 .skip))
 (.seq
 (.reg 3 none [2] [
 qi 2 0])
 .ret)))
def ks_ref11_Check:List (Nat×List Nat):=kssOf ir_ref11_Check
theorem fn_ref11_Check:FnIR Tryz.prog F_ref11_Check 33 ks_ref11_Check ir_ref11_Check [(.tmp 2)]:=
 qF Tryz.func135
def ir_ref11_Draw:RC:=
 (.seq
 (.reg 0 none [0,1] [
 qi 4 0])
 (.seq
 (.reg 1 none [5] [
 qm 7 0,
 .r 8 (.cvI .u64 (.t 7)),
 .r 9 (.bin .mul false (.t 8) (.k (.v (.int .u64 2654435761)))),
 qm 10 1,
 .r 11 (.cvI .u64 (.t 10)),
 .r 12 (.bin .mul false (.t 11) (.k (.v (.int .u64 40503)))),
 qb 13 .add 9 12,
 .r 14 (.bin .add false (.t 13) (.k (.v (.int .u64 97)))),
 qm 5 14])
 (.seq
 (.seq
 (.reg 2 none [5,6] [
 qi 6 0])
 (.block 0
 (.loop
 (.seq
 (.seq
 (.reg 3 none [5,6,16] [
 qm 15 6,
 qB 16 .lss 15 3])
 (qq 16
 .skip
 (.exit 0)))
 (.seq
 (.block 1
 (.seq
 (.reg 5 none [5,6] [
 qm 19 5,
 .r 20 (.bin .mul false (.t 19) (.k (.v (.int .u64 6364136223846793005)))),
 .r 21 (.bin .add false (.t 20) (.k (.v (.int .u64 1442695040888963407)))),
 qm 5 21])
 (.reg 6 none [5,6] [
 qm 22 5,
 qm 23 5,
 .r 24 (.bin .shr false (.t 23) (.k (.v (.int .u64 29)))),
 qb 25 .xor 22 24,
 qm 5 25])))
 (.reg 4 none [5,6] [
 qm 17 6,
 qa 18 17,
 qm 6 18]))))))
 (.seq
 (.reg 7 none [4] [
 qm 26 5,
 .r 27 (.bin .shr false (.t 26) (.k (.v (.int .u64 32)))),
 .r 28 (.cvI .i64 (.t 27)),
 qm 4 28])
 .ret))))
def ks_ref11_Draw:List (Nat×List Nat):=kssOf ir_ref11_Draw
theorem fn_ref11_Draw:FnIR Tryz.prog F_ref11_Draw 29 ks_ref11_Draw ir_ref11_Draw [(.tmp 4)]:=
 qF Tryz.func136
def ir_ref01_Level:RC:=
 (.seq
 (.reg 0 none [1,2] [
 .r 2 (.box (.t 0)),
 qi 4 0])
 (.seq
 (.seq
 (.reg 1 none [1,2,18] [
 qL 5 2 2,
 qC 6 F_ref01_Check [.t 5],
 qB 7 .neq 6 0,
 qm 8 7,
 qmf 9 8 1,
 .rf 10 8 (.bin .lss false (.t 9) (qI 0)),
 qP 11 8 10,
 qm 12 11,
 qmf 13 12 1,
 qff 14 12 1 2,
 qlf 15 12 14,
 .rf 16 12 (.lenL (.t 15)),
 .rf 17 12 (.bin .geq false (.t 13) (.t 16)),
 qP 18 12 17])
 (qq 18
 (.seq
 (.reg 2 none [4] [
 .r 4 (.mv (.k (.v (.int .i64 (-1)))))])
 .ret)
 .skip))
 (.seq
 (.reg 3 none [4] [
 qL 19 2 2,
 qm 20 1,
 qC 21 F_ref01_depth [.t 19,.t 20],
 qm 4 21])
 .ret)))
def ks_ref01_Level:List (Nat×List Nat):=kssOf ir_ref01_Level
theorem fn_ref01_Level:FnIR Tryz.prog F_ref01_Level 22 ks_ref01_Level ir_ref01_Level [(.tmp 4)]:=
 qF Tryz.func137
def ir_ref01_depth:RC:=
 (.seq
 (.reg 0 none [1,2] [
 .r 2 (.box (.t 0)),
 qi 4 0])
 (.seq
 (.reg 1 none [1,2,5] [
 qi 5 0])
 (.seq
 (.block 0
 (.loop
 (.seq
 (.seq
 (.reg 2 none [1,2,5,12] [
 qf 6 1 2,
 ql 7 6,
 qm 8 1,
 qx 9 2 7 8,
 qf 10 1 9,
 ql 11 10,
 qB 12 .geq 11 0])
 (qq 12
 .skip
 (.exit 0)))
 (.block 1
 (.seq
 (.reg 3 none [1,2,5] [
 qf 13 1 2,
 ql 14 13,
 qm 15 1,
 qx 16 2 14 15,
 qf 17 1 16,
 ql 18 17,
 qm 1 18])
 (.reg 4 none [1,2,5] [
 qm 19 5,
 qa 20 19,
 qm 5 20]))))))
 (.seq
 (.reg 5 none [4] [
 qm 21 5,
 qm 4 21])
 .ret))))
def ks_ref01_depth:List (Nat×List Nat):=kssOf ir_ref01_depth
theorem fn_ref01_depth:FnIR Tryz.prog F_ref01_depth 22 ks_ref01_depth ir_ref01_depth [(.tmp 4)]:=
 qF Tryz.func138
def ir_slices_pdqsortOrdered_int:RC:=
 (.seq
 (.reg 0 none [0,1,2,3,8] [
 qc 8 true])
 (.seq
 (.reg 1 none [0,1,2,3,8,9] [
 qc 9 true])
 (.block 0
 (.loop
 (.block 1
 (.seq
 (.reg 2 none [0,1,2,3,8,9,10] [
 qm 19 2,
 qm 20 1,
 qb 21 .sub 19 20,
 qm 10 21])
 (.seq
 (.seq
 (.reg 3 none [0,1,2,3,8,9,10,23] [
 qm 22 10,
 qB 23 .leq 22 12])
 (qq 23
 (.seq
 (.reg 4 none [] [
 qm 24 0,
 qm 25 1,
 qm 26 2,
 qC 27 F_slices_insertionSortOrdered_int [.t 24,.t 25,.t 26]])
 .ret)
 .skip))
 (.seq
 (.seq
 (.reg 5 none [0,1,2,3,8,9,10,29] [
 qm 28 3,
 qB 29 .eql 28 0])
 (qq 29
 (.seq
 (.reg 6 none [] [
 qm 30 0,
 qm 31 1,
 qm 32 2,
 qC 33 F_slices_heapSortOrdered_int [.t 30,.t 31,.t 32]])
 .ret)
 .skip))
 (.seq
 (.seq
 (.reg 7 none [0,1,2,3,8,9,10,35] [
 qm 34 8,
 .r 35 (.un .not (.t 34))])
 (qq 35
 (.seq
 (.reg 8 none [0,1,2,3,8,9,10] [
 qm 36 0,
 qm 37 1,
 qm 38 2,
 qC 39 F_slices_breakPatternsOrdered_int [.t 36,.t 37,.t 38]])
 (.reg 9 none [0,1,2,3,8,9,10] [
 qm 40 3,
 qB 41 .sub 40 1,
 qm 3 41]))
 .skip))
 (.seq
 (.reg 10 none [0,1,2,3,8,9,10,11,12] [
 qm 43 0,
 qm 44 1,
 qm 45 2,
 qC 46 F_slices_choosePivotOrdered_int [.t 43,.t 44,.t 45],
 qm 42 46,
 .r 47 (.ex (.t 42) 0),
 .r 48 (.ex (.t 42) 1),
 qm 11 47,
 qm 12 48])
 (.seq
 (.seq
 (.reg 11 none [0,1,2,3,8,9,10,11,12,50] [
 qm 49 12,
 qB 50 .eql 49 2])
 (qq 50
 (.seq
 (.reg 12 none [0,1,2,3,8,9,10,11] [
 qm 51 0,
 qm 52 1,
 qm 53 2,
 qC 54 F_slices_reverseRangeOrdered_int [.t 51,.t 52,.t 53]])
 (.seq
 (.reg 13 none [0,1,2,3,8,9,10,11] [
 qm 55 2,
 qB 56 .sub 55 1,
 qm 57 11,
 qm 58 1,
 qb 59 .sub 57 58,
 qb 60 .sub 56 59,
 qm 11 60])
 (.reg 14 none [0,1,2,3,8,9,10,11,12] [
 qi 12 1])))
 .skip))
 (.seq
 (.seq
 (.reg 15 none [0,1,2,3,8,9,10,11,68] [
 qm 61 8,
 qm 62 61,
 qmt 63 62 9,
 qp 64 62 63,
 qm 65 64,
 qmt 66 65 12,
 .rt 67 65 (.bin .eql false (.t 66) (qI 1)),
 qp 68 65 67])
 (qq 68
 (.seq
 (.reg 16 none [0,1,2,3,8,9,10,11,72] [
 qm 69 0,
 qm 70 1,
 qm 71 2,
 qC 72 F_slices_partialInsertionSortOrdered_int [.t 69,.t 70,.t 71]])
 (qq 72
 .ret
 .skip))
 .skip))
 (.seq
 (.seq
 (.reg 17 (some [0,1,3,7,7,23,63,127,7,7,775,1799,4095,8191,16383]) [0,1,2,3,8,9,10,11,87] [
 qm 73 1,
 qB 74 .gtr 73 0,
 qm 75 74,
 qmt 76 75 0,
 qmt 77 75 1,
 .rt 78 75 (.bin .sub false (.t 77) (qI 1)),
 .rt 79 75 (.ixL 1 (.t 76) (.t 78)),
 qlt 80 75 79,
 qmt 81 75 0,
 qmt 82 75 11,
 .rt 83 75 (.ixL 1 (.t 81) (.t 82)),
 qlt 84 75 83,
 .rt 85 75 (.call (.k (.clo F_cmp_Less_int [])) [.t 80,.t 84]),
 .rt 86 75 (.un .not (.t 85)),
 qp 87 75 86])
 (qq 87
 (.seq
 (.reg 18 none [0,2,3,8,9,13] [
 qm 88 0,
 qm 89 1,
 qm 90 2,
 qm 91 11,
 qC 92 F_slices_partitionEqualOrdered_int [.t 88,.t 89,.t 90,.t 91],
 qm 13 92])
 (.seq
 (.reg 19 none [0,1,2,3,8,9] [
 qm 93 13,
 qm 1 93])
 (.exit 1)))
 .skip))
 (.seq
 (.reg 20 none [0,1,2,3,10,14,15] [
 qm 95 0,
 qm 96 1,
 qm 97 2,
 qm 98 11,
 qC 99 F_slices_partitionOrdered_int [.t 95,.t 96,.t 97,.t 98],
 qm 94 99,
 .r 100 (.ex (.t 94) 0),
 .r 101 (.ex (.t 94) 1),
 qm 14 100,
 qm 15 101])
 (.seq
 (.reg 21 none [0,1,2,3,9,10,14] [
 qm 102 15,
 qm 9 102])
 (.seq
 (.reg 22 none [0,1,2,3,9,10,14,16,17] [
 qm 103 14,
 qm 104 1,
 qb 105 .sub 103 104,
 qm 106 2,
 qm 107 14,
 qb 108 .sub 106 107,
 qm 16 105,
 qm 17 108])
 (.seq
 (.reg 23 none [0,1,2,3,9,14,16,17,18] [
 qm 109 10,
 qB 110 .quo 109 8,
 qm 18 110])
 (.seq
 (.reg 24 none [0,1,2,3,9,14,16,17,18,113] [
 qm 111 16,
 qm 112 17,
 qb 113 .lss 111 112])
 (qq 113
 (.seq
 (.reg 25 none [0,1,2,3,8,9,14] [
 qm 114 16,
 qm 115 18,
 qb 116 .geq 114 115,
 qm 8 116])
 (.seq
 (.reg 26 none [0,2,3,8,9,14] [
 qm 117 0,
 qm 118 1,
 qm 119 14,
 qm 120 3,
 qC 121 F_slices_pdqsortOrdered_int [.t 117,.t 118,.t 119,.t 120]])
 (.reg 27 none [0,1,2,3,8,9] [
 qm 122 14,
 qa 123 122,
 qm 1 123])))
 (.seq
 (.reg 28 none [0,1,2,3,8,9,14] [
 qm 124 17,
 qm 125 18,
 qb 126 .geq 124 125,
 qm 8 126])
 (.seq
 (.reg 29 none [0,1,3,8,9,14] [
 qm 127 0,
 qm 128 14,
 qa 129 128,
 qm 130 2,
 qm 131 3,
 qC 132 F_slices_pdqsortOrdered_int [.t 127,.t 129,.t 130,.t 131]])
 (.reg 30 none [0,1,2,3,8,9] [
 qm 133 14,
 qm 2 133]))))))))))))))))))))))
def ks_slices_pdqsortOrdered_int:List (Nat×List Nat):=kssOf ir_slices_pdqsortOrdered_int
theorem fn_slices_pdqsortOrdered_int:FnIR Tryz.prog F_slices_pdqsortOrdered_int 134 ks_slices_pdqsortOrdered_int ir_slices_pdqsortOrdered_int []:=
 qF Tryz.func139
def ir_math_bits_Len:RC:=
 (.seq
 (.reg 0 none [0] [
 qi 2 0])
 (.seq
 (.cond (.k (.v (.bool false)))
 (.seq
 (.reg 1 none [2] [
 qm 3 0,
 .r 4 (.cvI .u32 (.t 3)),
 qC 5 F_math_bits_Len32 [.t 4],
 qm 2 5])
 .ret)
 .skip)
 (.seq
 (.reg 2 none [2] [
 qm 6 0,
 qC 7 F_math_bits_Len64 [.t 6],
 qm 2 7])
 .ret)))
def ks_math_bits_Len:List (Nat×List Nat):=kssOf ir_math_bits_Len
theorem fn_math_bits_Len:FnIR Tryz.prog F_math_bits_Len 8 ks_math_bits_Len ir_math_bits_Len [(.tmp 2)]:=
 qF Tryz.func140
def ir_ref01_At:RC:=
 (.seq
 (.reg 0 none [1,2] [
 .r 2 (.box (.t 0)),
 .r 4 (.mv (qN))])
 (.seq
 (.reg 1 none [1,2,5] [
 .r 5 (.mv (qN))])
 (.seq
 (.seq
 (.reg 2 none [1,2,5,9] [
 qL 7 2 2,
 qC 8 F_ref01_Check [.t 7],
 qB 9 .neq 8 0])
 (qq 9
 (.seq
 (.reg 3 none [4] [
 .r 4 (.mv (qN))])
 .ret)
 .skip))
 (.seq
 (.seq
 (.reg 4 none [1,2,5,6] [
 qi 6 0])
 (.block 0
 (.loop
 (.seq
 (.seq
 (.reg 5 none [1,2,5,6,14] [
 qm 10 6,
 qf 11 1 2,
 ql 12 11,
 qn 13 12,
 qb 14 .lss 10 13])
 (qq 14
 .skip
 (.exit 0)))
 (.seq
 (.block 1
 (.seq
 (.reg 7 none [1,2,5,6,21] [
 qL 17 2 2,
 qm 18 6,
 qC 19 F_ref01_depth [.t 17,.t 18],
 qm 20 1,
 qb 21 .eql 19 20])
 (qq 21
 (.reg 8 none [1,2,5,6] [
 qm 22 5,
 qm 23 6,
 .r 24 (.bsl 1 1 [.t 23]),
 .r 25 (.app 1 8 false (.t 22) (.t 24)),
 qm 5 25])
 .skip)))
 (.reg 6 none [1,2,5,6] [
 qm 15 6,
 qa 16 15,
 qm 6 16]))))))
 (.seq
 (.reg 9 none [4] [
 qm 26 5,
 qm 4 26])
 .ret)))))
def ks_ref01_At:List (Nat×List Nat):=kssOf ir_ref01_At
theorem fn_ref01_At:FnIR Tryz.prog F_ref01_At 27 ks_ref01_At ir_ref01_At [(.tmp 4)]:=
 qF Tryz.func142
def ir_internal_strconv_small:RC:=
 (.seq
 (.reg 0 none [0] [
 .r 2 (.mv (.k (.v (.string ⟨#[]⟩))))])
 (.seq
 (.seq
 (.reg 1 none [0,4] [
 qm 3 0,
 qB 4 .lss 3 10])
 (qq 4
 (.seq
 (.reg 2 none [2] [
 qm 5 0,
 qm 6 0,
 qa 7 6,
 .r 8 (.slS (.k (.v (.string ⟨#[48,49,50,51,52,53,54,55,56,57,97,98,99,100,101,102,103,104,105,106,107,108,109,110,111,112,113,114,115,116,117,118,119,120,121,122]⟩))) (some (.t 5)) (some (.t 7))),
 qm 2 8])
 .ret)
 .skip))
 (.seq
 (.reg 3 none [2] [
 qm 9 0,
 qB 10 .mul 9 2,
 qm 11 0,
 qB 12 .mul 11 2,
 qB 13 .add 12 2,
 .r 14 (.slS (.k (.v (.string ⟨#[48,48,48,49,48,50,48,51,48,52,48,53,48,54,48,55,48,56,48,57,49,48,49,49,49,50,49,51,49,52,49,53,49,54,49,55,49,56,49,57,50,48,50,49,50,50,50,51,50,52,50,53,50,54,50,55,50,56,50,57,51,48,51,49,51,50,51,51,51,52,51,53,51,54,51,55,51,56,51,57,52,48,52,49,52,50,52,51,52,52,52,53,52,54,52,55,52,56,52,57,53,48,53,49,53,50,53,51,53,52,53,53,53,54,53,55,53,56,53,57,54,48,54,49,54,50,54,51,54,52,54,53,54,54,54,55,54,56,54,57,55,48,55,49,55,50,55,51,55,52,55,53,55,54,55,55,55,56,55,57,56,48,56,49,56,50,56,51,56,52,56,53,56,54,56,55,56,56,56,57,57,48,57,49,57,50,57,51,57,52,57,53,57,54,57,55,57,56,57,57]⟩))) (some (.t 10)) (some (.t 13))),
 qm 2 14])
 .ret)))
def ks_internal_strconv_small:List (Nat×List Nat):=kssOf ir_internal_strconv_small
theorem fn_internal_strconv_small:FnIR Tryz.prog F_internal_strconv_small 15 ks_internal_strconv_small ir_internal_strconv_small [(.tmp 2)]:=
 qF Tryz.func143
def ir_ref01_leaf:RC:=
 (.seq
 (.reg 0 none [1,2] [
 .r 2 (.box (.t 0)),
 qc 4 false])
 (.seq
 (.seq
 (.reg 1 none [1,2,5] [
 qi 5 0])
 (.block 0
 (.loop
 (.seq
 (.seq
 (.reg 2 none [1,2,5,10] [
 qm 6 5,
 qf 7 1 2,
 ql 8 7,
 qn 9 8,
 qb 10 .lss 6 9])
 (qq 10
 .skip
 (.exit 0)))
 (.seq
 (.block 1
 (.seq
 (.reg 4 none [1,2,5,20] [
 qf 13 1 2,
 ql 14 13,
 qm 15 5,
 qx 16 2 14 15,
 qf 17 1 16,
 ql 18 17,
 qm 19 1,
 qb 20 .eql 18 19])
 (qq 20
 (.seq
 (.reg 5 none [4] [
 qc 4 false])
 .ret)
 .skip)))
 (.reg 3 none [1,2,5] [
 qm 11 5,
 qa 12 11,
 qm 5 12]))))))
 (.seq
 (.reg 6 none [4] [
 qc 4 true])
 .ret)))
def ks_ref01_leaf:List (Nat×List Nat):=kssOf ir_ref01_leaf
theorem fn_ref01_leaf:FnIR Tryz.prog F_ref01_leaf 21 ks_ref01_leaf ir_ref01_leaf [(.tmp 4)]:=
 qF Tryz.func147
def ir_ref02_measure:RC:=
 (.seq
 (.reg 0 none [1] [
 .r 1 (.box (.t 0)),
 qi 2 0])
 (.seq
 (.seq
 (.reg 1 none [1,21] [
 qf 5 3 1,
 ql 6 5,
 qC 7 F_ref02_in [.t 6,.k (.v (.int .i64 (-1000000))),qI 1000000],
 .r 8 (.un .not (.t 7)),
 qm 9 8,
 qff 10 9 4 1,
 qlf 11 9 10,
 .rf 12 9 (.call (.k (.clo F_ref02_in [])) [.t 11,.k (.v (.int .i64 (-1000000))),qI 1000000]),
 .rf 13 9 (.un .not (.t 12)),
 qP 14 9 13,
 qm 15 14,
 qff 16 15 3 1,
 qlf 17 15 16,
 qff 18 15 4 1,
 qlf 19 15 18,
 .rf 20 15 (.bin .gtr false (.t 17) (.t 19)),
 qP 21 15 20])
 (qq 21
 (.seq
 (.reg 2 none [2] [
 qi 2 2])
 .ret)
 .skip))
 (.seq
 (.seq
 (.reg 3 none [1,31] [
 qf 22 5 1,
 ql 23 22,
 qn 24 23,
 qB 25 .lss 24 1,
 qm 26 25,
 qff 27 26 5 1,
 qlf 28 26 27,
 .rf 29 26 (.lenL (.t 28)),
 .rf 30 26 (.bin .gtr false (.t 29) (qI 4)),
 qP 31 26 30])
 (qq 31
 (.seq
 (.reg 4 none [2] [
 qi 2 1])
 .ret)
 .skip))
 (.seq
 (.seq
 (.reg 5 none [1,3] [
 qi 3 0])
 (.block 0
 (.loop
 (.seq
 (.seq
 (.reg 6 none [1,3,36] [
 qm 32 3,
 qf 33 5 1,
 ql 34 33,
 qn 35 34,
 qb 36 .lss 32 35])
 (qq 36
 .skip
 (.exit 0)))
 (.seq
 (.block 1
 (.seq
 (.reg 8 none [1,3,4] [
 qf 39 5 1,
 ql 40 39,
 qm 41 3,
 qx 42 1 40 41,
 ql 43 42,
 qm 4 43])
 (.seq
 (.reg 9 none [1,3,78] [
 qm 44 3,
 qB 45 .eql 44 0,
 qm 46 45,
 qmt 47 46 4,
 .rt 48 46 (.bin .neq false (.t 47) (qI 1)),
 qp 49 46 48,
 qm 50 49,
 qmf 51 50 3,
 .rf 52 50 (.bin .gtr false (.t 51) (qI 0)),
 qmf 53 50 52,
 qmt 54 53 4,
 qft 55 53 5 1,
 qlt 56 53 55,
 qmt 57 53 3,
 .rt 58 53 (.bin .sub false (.t 57) (qI 1)),
 .rt 59 53 (.ixL 1 (.t 56) (.t 58)),
 qlt 60 53 59,
 .rt 61 53 (.bin .leq false (.t 54) (.t 60)),
 qmt 62 53 61,
 qmf 63 62 4,
 .rf 64 62 (.bin .gtr false (.t 63) (qI 1000000)),
 .rt 65 53 (.pick (.t 62) (.k (.v (.bool true))) (.t 64)),
 qmt 66 53 65,
 qmf 67 66 4,
 qff 68 66 5 1,
 qlf 69 66 68,
 qmf 70 66 3,
 .rf 71 66 (.bin .sub false (.t 70) (qI 1)),
 .rf 72 66 (.ixL 1 (.t 69) (.t 71)),
 qlf 73 66 72,
 .rf 74 66 (.bin .rem false (.t 67) (.t 73)),
 .rf 75 66 (.bin .neq false (.t 74) (qI 0)),
 .rt 76 53 (.pick (.t 66) (.k (.v (.bool true))) (.t 75)),
 .rf 77 50 (.pick (.t 53) (.t 76) (.k (.v (.bool false)))),
 qP 78 50 77])
 (qq 78
 (.seq
 (.reg 10 none [2] [
 qi 2 2])
 .ret)
 .skip))))
 (.reg 7 none [1,3] [
 qm 37 3,
 qa 38 37,
 qm 3 38]))))))
 (.seq
 (.reg 11 none [2] [
 qi 2 0])
 .ret)))))
def ks_ref02_measure:List (Nat×List Nat):=kssOf ir_ref02_measure
theorem fn_ref02_measure:FnIR Tryz.prog F_ref02_measure 79 ks_ref02_measure ir_ref02_measure [(.tmp 2)]:=
 qF Tryz.func148
def ir_ref05_is:RC:=
 (.seq
 (.reg 0 none [1,2,3] [
 .r 3 (.box (.t 0)),
 qc 6 false])
 (.seq
 (.reg 1 none [6] [
 qm 7 1,
 qB 8 .geq 7 0,
 qm 9 8,
 qmt 10 9 1,
 qft 11 9 1 3,
 qlt 12 9 11,
 .rt 13 9 (.lenL (.t 12)),
 .rt 14 9 (.bin .lss false (.t 10) (.t 13)),
 qp 15 9 14,
 qm 16 15,
 qft 17 16 1 3,
 qlt 18 16 17,
 qmt 19 16 1,
 .rt 20 16 (.ixL 7 (.t 18) (.t 19)),
 qft 21 16 1 20,
 qlt 22 16 21,
 qmt 23 16 2,
 .rt 24 16 (.bin .eql false (.t 22) (.t 23)),
 qp 25 16 24,
 qm 6 25])
 .ret))
def ks_ref05_is:List (Nat×List Nat):=kssOf ir_ref05_is
theorem fn_ref05_is:FnIR Tryz.prog F_ref05_is 26 ks_ref05_is ir_ref05_is [(.tmp 6)]:=
 qF Tryz.func149
def ir_ref08_Is:RC:=
 (.seq
 (.reg 0 none [1,2,3] [
 .r 3 (.box (.t 0)),
 qc 6 false])
 (.seq
 (.reg 1 none [6] [
 qm 7 1,
 qB 8 .geq 7 0,
 qm 9 8,
 qmt 10 9 1,
 qft 11 9 1 3,
 qlt 12 9 11,
 .rt 13 9 (.lenL (.t 12)),
 .rt 14 9 (.bin .lss false (.t 10) (.t 13)),
 qp 15 9 14,
 qm 16 15,
 qft 17 16 1 3,
 qlt 18 16 17,
 qmt 19 16 1,
 .rt 20 16 (.ixL 7 (.t 18) (.t 19)),
 qft 21 16 1 20,
 qlt 22 16 21,
 qmt 23 16 2,
 .rt 24 16 (.bin .eql false (.t 22) (.t 23)),
 qp 25 16 24,
 qm 6 25])
 .ret))
def ks_ref08_Is:List (Nat×List Nat):=kssOf ir_ref08_Is
theorem fn_ref08_Is:FnIR Tryz.prog F_ref08_Is 26 ks_ref08_Is ir_ref08_Is [(.tmp 6)]:=
 qF Tryz.func150
def ir_ref08_Dims:RC:=
 (.seq
 (.reg 0 none [1,2] [
 .r 2 (.box (.t 0)),
 qi 4 0])
 (.seq
 (.seq
 (.reg 1 none [1,2,15] [
 qm 8 1,
 qn 9 8,
 qB 10 .lss 9 1,
 qm 11 10,
 qmf 12 11 1,
 .rf 13 11 (.lenL (.t 12)),
 .rf 14 11 (.bin .gtr false (.t 13) (qI 3)),
 qP 15 11 14])
 (qq 15
 (.seq
 (.reg 2 none [4] [
 qi 4 1])
 .ret)
 .skip))
 (.seq
 (.seq
 (.reg 3 none [1,2,5] [
 qi 5 0])
 (.block 0
 (.loop
 (.seq
 (.seq
 (.reg 4 none [1,2,5,19] [
 qm 16 5,
 qm 17 1,
 qn 18 17,
 qb 19 .lss 16 18])
 (qq 19
 .skip
 (.exit 0)))
 (.seq
 (.block 1
 (.seq
 (.seq
 (.reg 6 (some [0,0,0,6,14,31,63]) [1,2,5,6] [
 qL 22 2 2,
 qm 23 1,
 qm 24 5,
 qx 25 2 23 24,
 qL 26 2 25,
 qC 27 F_ref02_Pick [.t 22,.t 26],
 qm 6 27])
 (.seq
 (.reg 7 none [1,2,5,6,29] [
 qm 28 6,
 qB 29 .neq 28 0])
 (qq 29
 (.seq
 (.reg 8 none [4] [
 qm 30 6,
 qm 4 30])
 .ret)
 .skip)))
 (.seq
 (.seq
 (.reg 9 (some [0,0,0,6,14,30,63,127]) [1,2,5,38] [
 qL 31 2 2,
 qm 32 1,
 qm 33 5,
 qx 34 2 32 33,
 qf 35 0 34,
 ql 36 35,
 qC 37 F_ref08_Is [.t 31,.t 36,qI 2],
 .r 38 (.un .not (.t 37))])
 (qq 38
 (.seq
 (.reg 10 none [4] [
 qi 4 7])
 .ret)
 .skip))
 (.seq
 (.reg 11 none [1,2,5,7] [
 qi 7 0])
 (.block 2
 (.loop
 (.seq
 (.seq
 (.reg 12 none [1,2,5,7,41] [
 qm 39 7,
 qm 40 5,
 qb 41 .lss 39 40])
 (qq 41
 .skip
 (.exit 2)))
 (.seq
 (.block 3
 (.seq
 (.reg 14 (some [0,0,3,7,15,0,0,96,224,480,1023]) [1,2,5,7,54] [
 qm 44 1,
 qm 45 7,
 qx 46 2 44 45,
 qf 47 0 46,
 ql 48 47,
 qm 49 1,
 qm 50 5,
 qx 51 2 49 50,
 qf 52 0 51,
 ql 53 52,
 qb 54 .eql 48 53])
 (qq 54
 (.seq
 (.reg 15 none [4] [
 qi 4 10])
 .ret)
 .skip)))
 (.reg 13 none [1,2,5,7] [
 qm 42 7,
 qa 43 42,
 qm 7 43])))))))))
 (.reg 5 none [1,2,5] [
 qm 20 5,
 qa 21 20,
 qm 5 21]))))))
 (.seq
 (.reg 16 none [4] [
 qi 4 0])
 .ret))))
def ks_ref08_Dims:List (Nat×List Nat):=kssOf ir_ref08_Dims
theorem fn_ref08_Dims:FnIR Tryz.prog F_ref08_Dims 55 ks_ref08_Dims ir_ref08_Dims [(.tmp 4)]:=
 qF Tryz.func151
def ir_ref08_Terms:RC:=
 (.seq
 (.reg 0 none [1,2,3] [
 .r 3 (.box (.t 0)),
 qi 6 0])
 (.seq
 (.seq
 (.reg 1 none [1,2,3,15] [
 qm 8 2,
 qn 9 8,
 qB 10 .lss 9 1,
 qm 11 10,
 qmf 12 11 2,
 .rf 13 11 (.lenL (.t 12)),
 .rf 14 11 (.bin .gtr false (.t 13) (qI 3)),
 qP 15 11 14])
 (qq 15
 (.seq
 (.reg 2 none [6] [
 qi 6 1])
 .ret)
 .skip))
 (.seq
 (.seq
 (.reg 3 none [1,2,3,7] [
 qi 7 0])
 (.block 0
 (.loop
 (.seq
 (.seq
 (.reg 4 none [1,2,3,7,19] [
 qm 16 7,
 qm 17 2,
 qn 18 17,
 qb 19 .lss 16 18])
 (qq 19
 .skip
 (.exit 0)))
 (.seq
 (.block 1
 (.seq
 (.seq
 (.reg 6 (some [0,0,0,6,14,31,63]) [1,2,3,7,28] [
 qL 22 2 3,
 qm 23 2,
 qm 24 7,
 qx 25 1 23 24,
 ql 26 25,
 qC 27 F_ref08_Is [.t 22,.t 26,qI 3],
 .r 28 (.un .not (.t 27))])
 (qq 28
 (.seq
 (.reg 7 none [6] [
 qi 6 7])
 .ret)
 .skip))
 (.seq
 (.reg 8 (some [0,0,3,7,0,31,63,127,127,511,127,127,3199,7295,16383,32767]) [1,2,3,7,44] [
 qm 29 2,
 qm 30 7,
 qx 31 1 29 30,
 ql 32 31,
 qm 33 1,
 qb 34 .eql 32 33,
 qm 35 34,
 qmf 36 35 2,
 qmf 37 35 7,
 .rf 38 35 (.slL 1 (.t 36) none (some (.t 37))),
 qmf 39 35 2,
 qmf 40 35 7,
 .rf 41 35 (.ixL 1 (.t 39) (.t 40)),
 qlf 42 35 41,
 .rf 43 35 (.call (.k (.clo F_ref01_Has [])) [.t 38,.t 42]),
 qP 44 35 43])
 (qq 44
 (.seq
 (.reg 9 none [6] [
 qi 6 10])
 .ret)
 .skip))))
 (.reg 5 none [1,2,3,7] [
 qm 20 7,
 qa 21 20,
 qm 7 21]))))))
 (.seq
 (.reg 10 none [6] [
 qi 6 0])
 .ret))))
def ks_ref08_Terms:List (Nat×List Nat):=kssOf ir_ref08_Terms
theorem fn_ref08_Terms:FnIR Tryz.prog F_ref08_Terms 45 ks_ref08_Terms ir_ref08_Terms [(.tmp 6)]:=
 qF Tryz.func152
def ir_ref05_Same:RC:=
 (.seq
 (.reg 0 none [2,3] [
 .r 2 (.box (.t 0)),
 .r 3 (.box (.t 1)),
 qc 4 false])
 (.seq
 (.seq
 (.reg 1 none [2,3,47] [
 qf 6 0 2,
 ql 7 6,
 qf 8 0 3,
 ql 9 8,
 qb 10 .neq 7 9,
 qm 11 10,
 qff 12 11 1 2,
 qlf 13 11 12,
 qff 14 11 1 3,
 qlf 15 11 14,
 .rf 16 11 (.bin .neq false (.t 13) (.t 15)),
 qP 17 11 16,
 qm 18 17,
 qff 19 18 2 2,
 qlf 20 18 19,
 qff 21 18 2 3,
 qlf 22 18 21,
 .rf 23 18 (.bin .neq false (.t 20) (.t 22)),
 qP 24 18 23,
 qm 25 24,
 qff 26 25 3 2,
 qlf 27 25 26,
 qff 28 25 3 3,
 qlf 29 25 28,
 .rf 30 25 (.bin .neq false (.t 27) (.t 29)),
 qP 31 25 30,
 qm 32 31,
 qff 33 32 4 2,
 qlf 34 32 33,
 qff 35 32 4 3,
 qlf 36 32 35,
 .rf 37 32 (.bin .neq false (.t 34) (.t 36)),
 qP 38 32 37,
 qm 39 38,
 qff 40 39 5 2,
 qlf 41 39 40,
 .rf 42 39 (.lenL (.t 41)),
 qff 43 39 5 3,
 qlf 44 39 43,
 .rf 45 39 (.lenL (.t 44)),
 .rf 46 39 (.bin .neq false (.t 42) (.t 45)),
 qP 47 39 46])
 (qq 47
 (.seq
 (.reg 2 none [4] [
 qc 4 false])
 .ret)
 .skip))
 (.seq
 (.seq
 (.reg 3 none [2,3,5] [
 qi 5 0])
 (.block 0
 (.loop
 (.seq
 (.seq
 (.reg 4 none [2,3,5,52] [
 qm 48 5,
 qf 49 5 2,
 ql 50 49,
 qn 51 50,
 qb 52 .lss 48 51])
 (qq 52
 .skip
 (.exit 0)))
 (.seq
 (.block 1
 (.seq
 (.reg 6 (some [0,1,0,7,15,0,32,0,224,480,1023,2047]) [2,3,5,66] [
 qf 55 5 2,
 ql 56 55,
 qm 57 5,
 qx 58 6 56 57,
 qL 59 6 58,
 qf 60 5 3,
 ql 61 60,
 qm 62 5,
 qx 63 6 61 62,
 qL 64 6 63,
 qC 65 F_ref05_Same [.t 59,.t 64],
 .r 66 (.un .not (.t 65))])
 (qq 66
 (.seq
 (.reg 7 none [4] [
 qc 4 false])
 .ret)
 .skip)))
 (.reg 5 none [2,3,5] [
 qm 53 5,
 qa 54 53,
 qm 5 54]))))))
 (.seq
 (.reg 8 none [4] [
 qc 4 true])
 .ret))))
def ks_ref05_Same:List (Nat×List Nat):=kssOf ir_ref05_Same
theorem fn_ref05_Same:FnIR Tryz.prog F_ref05_Same 67 ks_ref05_Same ir_ref05_Same [(.tmp 4)]:=
 qF Tryz.func153
def ir_ref05_Atom:RC:=
 (.seq
 (.reg 0 none [2,3,4] [
 .r 3 (.box (.t 0)),
 .r 4 (.box (.t 1)),
 qi 6 0])
 (.seq
 (.reg 1 none [2,3,4,7] [
 qc 7 false])
 (.seq
 (.seq
 (.reg 2 none [2,3,4,7,9] [
 qf 8 0 4,
 ql 9 8])
 (.block 0
 (.seq
 (.reg 3 none [2,3,4,7,9,10] [
 qB 11 .eql 9 2,
 qm 10 11])
 (qq 10
 (.reg 4 (some [0,1,0,4,0,16,60,124,252,511,1023,0,0,4096,16383,32767]) [7] [
 qf 12 0 3,
 ql 13 12,
 qf 14 1 3,
 ql 15 14,
 qf 16 1 4,
 ql 17 16,
 qx 18 7 15 17,
 qf 19 2 18,
 ql 20 19,
 qx 21 2 13 20,
 qL 22 2 21,
 qm 23 2,
 qf 24 2 4,
 ql 25 24,
 qC 26 F_ref01_Under [.t 22,.t 23,.t 25],
 qm 7 26])
 (.seq
 (.reg 5 none [2,4,7,9,27] [
 qB 28 .eql 9 3,
 qm 27 28])
 (qq 27
 (.seq
 (.seq
 (.reg 6 none [2,4,30] [
 qm 29 2,
 .r 30 (.bin .eql false (.t 29) (.k (.v (.int .i64 (-1099511627776)))))])
 (qq 30
 (.seq
 (.reg 7 none [6] [
 qi 6 0])
 .ret)
 .skip))
 (.reg 8 none [7] [
 qf 31 3 4,
 ql 32 31,
 qm 33 2,
 qb 34 .leq 32 33,
 qm 35 34,
 qmt 36 35 2,
 qft 37 35 4 4,
 qlt 38 35 37,
 .rt 39 35 (.bin .leq false (.t 36) (.t 38)),
 qp 40 35 39,
 qm 7 40]))
 (.seq
 (.reg 9 none [2,7,41] [
 qB 42 .eql 9 4,
 qm 41 42])
 (qq 41
 (.reg 10 none [7] [
 qm 43 2,
 .r 44 (.bin .eql false (.t 43) (.k (.v (.int .i64 (-1099511627776))))),
 qm 7 44])
 .skip))))))))
 (.seq
 (.seq
 (.reg 11 none [45] [
 qm 45 7])
 (qq 45
 (.seq
 (.reg 12 none [6] [
 qi 6 1])
 .ret)
 .skip))
 (.seq
 (.reg 13 none [6] [
 .r 6 (.mv (.k (.v (.int .i64 (-1)))))])
 .ret)))))
def ks_ref05_Atom:List (Nat×List Nat):=kssOf ir_ref05_Atom
theorem fn_ref05_Atom:FnIR Tryz.prog F_ref05_Atom 46 ks_ref05_Atom ir_ref05_Atom [(.tmp 6)]:=
 qF Tryz.func154
def ir_ref05_join:RC:=
 (.seq
 (.reg 0 none [0,1] [
 qi 4 0])
 (.seq
 (.seq
 (.reg 1 none [1,5] [
 qm 5 0])
 (.block 0
 (.seq
 (.reg 2 none [1,5,6] [
 qB 7 .eql 5 7,
 qm 6 7])
 (qq 6
 (.seq
 (.reg 3 none [4] [
 qm 8 1,
 .r 9 (.ixL 1 (.t 8) (qI 0)),
 ql 10 9,
 .r 11 (.un .neg (.t 10)),
 qm 4 11])
 .ret)
 (.seq
 (.reg 4 none [1,5,12] [
 qB 13 .eql 5 5,
 qm 12 13])
 (qq 12
 (.seq
 (.reg 5 (some [0,1,3,0,8,24,63,127]) [4] [
 qm 14 1,
 .r 15 (.ixL 1 (.t 14) (qI 0)),
 ql 16 15,
 qm 17 1,
 .r 18 (.ixL 1 (.t 17) (qI 1)),
 ql 19 18,
 .r 20 (.mn [.t 16,.t 19]),
 qm 4 20])
 .ret)
 (.seq
 (.reg 6 none [1,21] [
 qB 22 .eql 5 6,
 qm 21 22])
 (qq 21
 (.seq
 (.reg 7 (some [0,1,3,0,8,24,63,127]) [4] [
 qm 23 1,
 .r 24 (.ixL 1 (.t 23) (qI 0)),
 ql 25 24,
 qm 26 1,
 .r 27 (.ixL 1 (.t 26) (qI 1)),
 ql 28 27,
 .r 29 (.mx [.t 25,.t 28]),
 qm 4 29])
 .ret)
 .skip))))))))
 (.seq
 (.reg 8 none [4] [
 qi 4 1])
 .ret)))
def ks_ref05_join:List (Nat×List Nat):=kssOf ir_ref05_join
theorem fn_ref05_join:FnIR Tryz.prog F_ref05_join 30 ks_ref05_join ir_ref05_join [(.tmp 4)]:=
 qF Tryz.func155
def ir_slices_insertionSortOrdered_int:RC:=
 (.seq
 (.reg 0 none [0,1,2,6] [
 qm 8 1,
 qa 9 8,
 qm 6 9])
 (.block 0
 (.loop
 (.seq
 (.seq
 (.reg 1 none [0,1,2,6,12] [
 qm 10 6,
 qm 11 2,
 qb 12 .lss 10 11])
 (qq 12
 .skip
 (.exit 0)))
 (.seq
 (.block 1
 (.seq
 (.reg 3 none [0,1,2,6,7] [
 qm 15 6,
 qm 7 15])
 (.block 2
 (.loop
 (.seq
 (.seq
 (.reg 4 (some [0,0,3,7,15,15,63,127,15,15,527,1807,3855,8191,16383]) [0,1,2,6,7,30] [
 qm 16 7,
 qm 17 1,
 qb 18 .gtr 16 17,
 qm 19 18,
 qmt 20 19 0,
 qmt 21 19 7,
 .rt 22 19 (.ixL 1 (.t 20) (.t 21)),
 qlt 23 19 22,
 qmt 24 19 0,
 qmt 25 19 7,
 .rt 26 19 (.bin .sub false (.t 25) (qI 1)),
 .rt 27 19 (.ixL 1 (.t 24) (.t 26)),
 qlt 28 19 27,
 .rt 29 19 (.call (.k (.clo F_cmp_Less_int [])) [.t 23,.t 28]),
 qp 30 19 29])
 (qq 30
 .skip
 (.exit 2)))
 (.seq
 (.block 3
 (.reg 6 (some [0,0,0,0,8,0,0,64,224,480,0,0,3072,7168,16355,32739,65535,131071]) [0,1,2,6,7] [
 qm 33 0,
 qm 34 7,
 qm 35 0,
 qm 36 7,
 qB 37 .sub 36 1,
 qm 38 0,
 qm 39 7,
 qB 40 .sub 39 1,
 qx 41 1 38 40,
 ql 42 41,
 qm 43 0,
 qm 44 7,
 qx 45 1 43 44,
 ql 46 45,
 qx 47 1 33 34,
 qs 1 47 42,
 qx 48 1 35 37,
 qs 1 48 46]))
 (.reg 5 none [0,1,2,6,7] [
 qm 31 7,
 qB 32 .sub 31 1,
 qm 7 32])))))))
 (.reg 2 none [0,1,2,6] [
 qm 13 6,
 qa 14 13,
 qm 6 14]))))))
def ks_slices_insertionSortOrdered_int:List (Nat×List Nat):=kssOf ir_slices_insertionSortOrdered_int
theorem fn_slices_insertionSortOrdered_int:FnIR Tryz.prog F_slices_insertionSortOrdered_int 49 ks_slices_insertionSortOrdered_int ir_slices_insertionSortOrdered_int []:=
 qF Tryz.func156
def ir_cmp_Less_int:RC:=
 (.seq
 (.reg 0 none [0,1] [
 qc 4 false])
 (.seq
 (.reg 1 none [4] [
 qm 5 0,
 qC 6 F_cmp_isNaN_int [.t 5],
 qm 7 6,
 qmt 8 7 1,
 .rt 9 7 (.call (.k (.clo F_cmp_isNaN_int [])) [.t 8]),
 .rt 10 7 (.un .not (.t 9)),
 qp 11 7 10,
 qm 12 11,
 qmf 13 12 0,
 qmf 14 12 1,
 .rf 15 12 (.bin .lss false (.t 13) (.t 14)),
 qP 16 12 15,
 qm 4 16])
 .ret))
def ks_cmp_Less_int:List (Nat×List Nat):=kssOf ir_cmp_Less_int
theorem fn_cmp_Less_int:FnIR Tryz.prog F_cmp_Less_int 17 ks_cmp_Less_int ir_cmp_Less_int [(.tmp 4)]:=
 qF Tryz.func162
def ir_math_bits_Len64:RC:=
 (.seq
 (.reg 0 none [0,2] [
 qi 2 0])
 (.seq
 (.seq
 (.reg 1 none [0,2,4] [
 qm 3 0,
 .r 4 (.bin .geq false (.t 3) (.k (.v (.int .u64 4294967296))))])
 (qq 4
 (.seq
 (.reg 2 none [0] [
 qm 5 0,
 .r 6 (.bin .shr false (.t 5) (.k (.v (.int .u64 32)))),
 qm 0 6])
 (.reg 3 none [0,2] [
 qi 2 32]))
 .skip))
 (.seq
 (.seq
 (.reg 4 none [0,2,8] [
 qm 7 0,
 .r 8 (.bin .geq false (.t 7) (.k (.v (.int .u64 65536))))])
 (qq 8
 (.seq
 (.reg 5 none [0,2] [
 qm 9 0,
 .r 10 (.bin .shr false (.t 9) (.k (.v (.int .u64 16)))),
 qm 0 10])
 (.reg 6 none [0,2] [
 qm 11 2,
 qB 12 .add 11 16,
 qm 2 12]))
 .skip))
 (.seq
 (.seq
 (.reg 7 none [0,2,14] [
 qm 13 0,
 .r 14 (.bin .geq false (.t 13) (.k (.v (.int .u64 256))))])
 (qq 14
 (.seq
 (.reg 8 none [0,2] [
 qm 15 0,
 .r 16 (.bin .shr false (.t 15) (.k (.v (.int .u64 8)))),
 qm 0 16])
 (.reg 9 none [0,2] [
 qm 17 2,
 qB 18 .add 17 8,
 qm 2 18]))
 .skip))
 (.seq
 (.reg 10 none [2] [
 qm 19 2,
 qm 20 0,
 .r 21 (.cvI .u8 (.t 20)),
 .r 22 (.sx (.k (.v (.string ⟨#[0,1,2,2,3,3,3,3,4,4,4,4,4,4,4,4,5,5,5,5,5,5,5,5,5,5,5,5,5,5,5,5,6,6,6,6,6,6,6,6,6,6,6,6,6,6,6,6,6,6,6,6,6,6,6,6,6,6,6,6,6,6,6,6,7,7,7,7,7,7,7,7,7,7,7,7,7,7,7,7,7,7,7,7,7,7,7,7,7,7,7,7,7,7,7,7,7,7,7,7,7,7,7,7,7,7,7,7,7,7,7,7,7,7,7,7,7,7,7,7,7,7,7,7,7,7,7,7,8,8,8,8,8,8,8,8,8,8,8,8,8,8,8,8,8,8,8,8,8,8,8,8,8,8,8,8,8,8,8,8,8,8,8,8,8,8,8,8,8,8,8,8,8,8,8,8,8,8,8,8,8,8,8,8,8,8,8,8,8,8,8,8,8,8,8,8,8,8,8,8,8,8,8,8,8,8,8,8,8,8,8,8,8,8,8,8,8,8,8,8,8,8,8,8,8,8,8,8,8,8,8,8,8,8,8,8,8,8,8,8,8,8,8,8,8,8,8,8,8,8,8,8,8,8,8,8]⟩))) (.t 21)),
 .r 23 (.cvI .i64 (.t 22)),
 qb 24 .add 19 23,
 qm 2 24])
 .ret)))))
def ks_math_bits_Len64:List (Nat×List Nat):=kssOf ir_math_bits_Len64
theorem fn_math_bits_Len64:FnIR Tryz.prog F_math_bits_Len64 25 ks_math_bits_Len64 ir_math_bits_Len64 [(.tmp 2)]:=
 qF Tryz.func166
def ir_ref01_Under:RC:=
 (.seq
 (.reg 0 none [1,2,3] [
 .r 3 (.box (.t 0)),
 qc 6 false])
 (.seq
 (.reg 1 none [1,2,3,7] [
 qL 8 2 3,
 qm 9 2,
 qC 10 F_ref01_Level [.t 8,.t 9],
 qm 7 10])
 (.seq
 (.reg 2 none [6] [
 qm 11 7,
 qB 12 .geq 11 0,
 qm 13 12,
 .rt 14 13 (.ld (some 2) (.t 3)),
 qmt 15 13 1,
 .rt 16 13 (.call (.k (.clo F_ref01_Level [])) [.t 14,.t 15]),
 qmt 17 13 7,
 .rt 18 13 (.bin .geq false (.t 16) (.t 17)),
 qp 19 13 18,
 qm 20 19,
 .rt 21 20 (.ld (some 2) (.t 3)),
 qmt 22 20 1,
 qmt 23 20 7,
 .rt 24 20 (.call (.k (.clo F_ref01_Up [])) [.t 21,.t 22,.t 23]),
 qmt 25 20 2,
 .rt 26 20 (.bin .eql false (.t 24) (.t 25)),
 qp 27 20 26,
 qm 6 27])
 .ret)))
def ks_ref01_Under:List (Nat×List Nat):=kssOf ir_ref01_Under
theorem fn_ref01_Under:FnIR Tryz.prog F_ref01_Under 28 ks_ref01_Under ir_ref01_Under [(.tmp 6)]:=
 qF Tryz.func171
def ir_cmp_isNaN_int:RC:=
 (.seq
 (.reg 0 none [0] [
 qc 2 false])
 (.seq
 (.reg 1 none [2] [
 qm 3 0,
 qm 4 0,
 qb 5 .neq 3 4,
 qm 2 5])
 .ret))
def ks_cmp_isNaN_int:List (Nat×List Nat):=kssOf ir_cmp_isNaN_int
theorem fn_cmp_isNaN_int:FnIR Tryz.prog F_cmp_isNaN_int 6 ks_cmp_isNaN_int ir_cmp_isNaN_int [(.tmp 2)]:=
 qF Tryz.func177
theorem ovl_slices_overlaps_Lint:OvlFn Tryz.prog F_slices_overlaps_Lint:=
 ⟨Tryz.f83,Tryz.func83,by kernel_rfl,by kernel_rfl,by kernel_rfl,by kernel_rfl,by kernel_rfl⟩
end Go.Proofs
