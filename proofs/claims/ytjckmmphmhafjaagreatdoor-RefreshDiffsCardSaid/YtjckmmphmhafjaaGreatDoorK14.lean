/- A part of the proof: Ir. -/
import Derived.WalkKit
import Derived.Still
import Derived.MapKept
import GoSem.Builtin.Cap
import Derived.Laws.Externs
import GoSem.Extern.SlicesOverlaps
import Derived.Carry
import Derived.ProofKit
import Derived.OpenShut
import Derived.HandedShaped
import Derived.Lay
import Derived.LaidLaws
import Derived.MakeChecks
import Derived.SevenTiedAt
import Derived.Test.YtjckmmphmhafjaaGreatDoorChecked
import Derived.Test.YtjckmmphmhafjaaGreatDoorK13
namespace Go.Proofs
open Go.TL
abbrev qm (d a:Nat):ROp:=.r d (.mv (.t a))
abbrev ql (d a:Nat):ROp:=.r d (.ld none (.t a))
abbrev qL (d l a:Nat):ROp:=.r d (.ld (some l) (.t a))
abbrev qf (d k a:Nat):ROp:=.r d (.fa k (.t a))
abbrev qx (d k a b:Nat):ROp:=.r d (.ixL k (.t a) (.t b))
abbrev qn (d a:Nat):ROp:=.r d (.lenL (.t a))
abbrev qi (d:Nat) (n:Int):ROp:=.r d (.mv (.k (.v (.int .i64 n))))
abbrev qa (d a:Nat):ROp:=.r d (.bin .add false (.t a) (.k (.v (.int .i64 1))))
abbrev qb (d:Nat) (o:BinOp) (a b:Nat):ROp:=.r d (.bin o false (.t a) (.t b))
abbrev qB (d:Nat) (o:BinOp) (a:Nat) (n:Int):ROp:=.r d (.bin o false (.t a) (.k (.v (.int .i64 n))))
abbrev qmt (d g a:Nat):ROp:=.rt d g (.mv (.t a))
abbrev qmf (d g a:Nat):ROp:=.rf d g (.mv (.t a))
abbrev qlt (d g a:Nat):ROp:=.rt d g (.ld none (.t a))
abbrev qlf (d g a:Nat):ROp:=.rf d g (.ld none (.t a))
abbrev qft (d g k a:Nat):ROp:=.rt d g (.fa k (.t a))
abbrev qff (d g k a:Nat):ROp:=.rf d g (.fa k (.t a))
abbrev qc (d:Nat) (b:Bool):ROp:=.r d (.mv (.k (.v (.bool b))))
abbrev qp (d a b:Nat):ROp:=.r d (.pick (.t a) (.t b) (.k (.v (.bool false))))
abbrev qP (d a b:Nat):ROp:=.r d (.pick (.t a) (.k (.v (.bool true))) (.t b))
abbrev qs (l a b:Nat):ROp:=.rn (.st l (.t a) (.t b))
abbrev qC (d:Nat) (f:FuncId) (l:List RV):ROp:=.r d (.call (.k (.clo f [])) l)
abbrev qq (t:Nat) (a b:RC):RC:=.cond (.t t) a b
abbrev qI (n:Int):RV:=.k (.v (.int .i64 n))
abbrev qN:RV:=.k (.v (.slice none 0 0))
theorem qF {P:Program} {f:FuncId} {n:Nat} {kss:List (Nat×List Nat)} {rc:RC} {rs:List RR} {fn:Func} {c:Code} (h:P.funcs[f]?=some fn) (h1:fn.body=some c:=by rfl) (h2:goFn P f=true:=by kernel_rfl) (h3:fn.ntmps=n:=by rfl) (h4:rsvC P n kss c=some rc:=by kernel_rfl) (h5:qn8 P fn.results.toList=some rs:=by kernel_rfl):FnIR P f n kss rc rs:=⟨fn,c,h,h1,h2,h3,h4,h5⟩
abbrev Qd:FuncId:=3
abbrev Qj:FuncId:=9
abbrev YR:FuncId:=10
abbrev yv:FuncId:=11
abbrev Wp:FuncId:=12
abbrev Zu:FuncId:=13
abbrev Yf:FuncId:=14
abbrev wu:FuncId:=15
abbrev Kc:FuncId:=16
abbrev yE:FuncId:=17
abbrev qk7:FuncId:=18
abbrev zD:FuncId:=19
abbrev jf:FuncId:=20
abbrev Wq:FuncId:=21
abbrev kM:FuncId:=22
abbrev zQ:FuncId:=23
abbrev qk8:FuncId:=24
abbrev Qk:FuncId:=25
abbrev yw:FuncId:=26
abbrev wv:FuncId:=27
abbrev jO:FuncId:=28
abbrev jP:FuncId:=33
abbrev zz:FuncId:=35
abbrev kN:FuncId:=36
abbrev zU:FuncId:=37
abbrev ww:FuncId:=38
abbrev qX:FuncId:=39
abbrev jg:FuncId:=40
abbrev jZ:FuncId:=41
abbrev wc:FuncId:=42
abbrev Zv:FuncId:=43
abbrev ka:FuncId:=44
abbrev yc:FuncId:=45
abbrev zI:FuncId:=46
abbrev zp:FuncId:=47
abbrev kO:FuncId:=48
abbrev kv:FuncId:=49
abbrev yd:FuncId:=50
abbrev kP:FuncId:=51
abbrev qo:FuncId:=52
abbrev zL:FuncId:=53
abbrev zV:FuncId:=54
abbrev qK:FuncId:=55
abbrev qG:FuncId:=56
abbrev qz:FuncId:=57
abbrev jQ:FuncId:=58
abbrev wx:FuncId:=59
abbrev Ql:FuncId:=60
abbrev jn:FuncId:=61
abbrev ye:FuncId:=62
abbrev Qm:FuncId:=63
abbrev wy:FuncId:=64
abbrev Kd:FuncId:=65
abbrev ZJ:FuncId:=66
abbrev wd:FuncId:=67
abbrev YS:FuncId:=68
abbrev zl:FuncId:=69
abbrev Ke:FuncId:=70
abbrev zW:FuncId:=71
abbrev ke:FuncId:=72
abbrev YT:FuncId:=73
abbrev Kf:FuncId:=77
abbrev Kg:FuncId:=78
abbrev qR:FuncId:=79
abbrev kK:FuncId:=80
abbrev jo:FuncId:=81
abbrev wz:FuncId:=82
abbrev ZK:FuncId:=84
abbrev kf:FuncId:=85
abbrev ky:FuncId:=86
abbrev wA:FuncId:=87
abbrev jp:FuncId:=88
abbrev wB:FuncId:=89
abbrev zq:FuncId:=90
abbrev wC:FuncId:=91
abbrev yf:FuncId:=92
abbrev zm:FuncId:=93
abbrev jl:FuncId:=94
abbrev jq:FuncId:=95
abbrev ju:FuncId:=96
abbrev Qn:FuncId:=97
abbrev Qo:FuncId:=98
abbrev Wr:FuncId:=99
abbrev zX:FuncId:=100
abbrev QN:FuncId:=101
abbrev Zw:FuncId:=102
abbrev Qp:FuncId:=103
abbrev QO:FuncId:=104
abbrev Ws:FuncId:=105
abbrev qk9:FuncId:=106
abbrev zA:FuncId:=107
abbrev Qq:FuncId:=108
abbrev Yg:FuncId:=109
abbrev kg:FuncId:=110
abbrev Qr:FuncId:=111
abbrev yg:FuncId:=112
abbrev kz:FuncId:=113
abbrev jA:FuncId:=114
abbrev kF:FuncId:=118
abbrev zx:FuncId:=119
abbrev jx:FuncId:=120
abbrev jr:FuncId:=121
abbrev ZL:FuncId:=122
abbrev Qs:FuncId:=123
abbrev Qt:FuncId:=124
abbrev Zx:FuncId:=125
abbrev Kh:FuncId:=126
abbrev Wt:FuncId:=127
abbrev Qu:FuncId:=128
abbrev QP:FuncId:=129
abbrev QQ:FuncId:=130
abbrev kG:FuncId:=131
abbrev Zy:FuncId:=132
abbrev ZM:FuncId:=133
abbrev Zz:FuncId:=134
abbrev Ki:FuncId:=135
abbrev Wu:FuncId:=136
abbrev wD:FuncId:=137
abbrev ze:FuncId:=138
abbrev qS:FuncId:=139
abbrev QR:FuncId:=140
abbrev ql0:FuncId:=142
abbrev jh:FuncId:=143
abbrev Qv:FuncId:=144
abbrev yL:FuncId:=146
abbrev Wv:FuncId:=147
abbrev QS:FuncId:=148
abbrev JE:FuncId:=149
abbrev JF:FuncId:=150
abbrev Ww:FuncId:=151
abbrev Kj:FuncId:=152
abbrev ZA:FuncId:=153
abbrev yF:FuncId:=154
abbrev Wx:FuncId:=155
abbrev zf:FuncId:=156
abbrev Qw:FuncId:=157
abbrev wE:FuncId:=158
abbrev yh:FuncId:=159
abbrev wV:FuncId:=160
abbrev jJ:FuncId:=161
abbrev yx:FuncId:=162
abbrev wi:FuncId:=163
abbrev yM:FuncId:=164
abbrev ql1:FuncId:=165
abbrev yi:FuncId:=166
abbrev Kk:FuncId:=171
abbrev wF:FuncId:=177
abbrev wW:FuncId:=83
def jR:RC:=
 (.seq
 (.reg 0 none [0,3,5,6] [
 .r 5 (.box (.t 1)),
 .r 6 (.box (.t 2)),
 qc 8 false])
 (.seq
 (.seq
 (.reg 1 none [0,3,5,6,41] [
 qf 26 3 5,
 ql 27 26,
 qn 28 27,
 qB 29 .gtr 28 20,
 qm 30 29,
 qff 31 30 2 6,
 qlf 32 30 31,
 .rf 33 30 (.lenL (.t 32)),
 .rf 34 30 (.bin .gtr false (.t 33) (qI 20)),
 qP 35 30 34,
 qm 36 35,
 qff 37 36 1 6,
 qlf 38 36 37,
 .rf 39 36 (.lenL (.t 38)),
 .rf 40 36 (.bin .gtr false (.t 39) (qI 20)),
 qP 41 36 40])
 (qq 41
 (.seq
 (.reg 2 none [8] [
 qC 42 Qj [],
 qm 8 42])
 .ret)
 .skip))
 (.seq
 (.reg 3 none [3,5,6,9,10] [
 qm 44 0,
 qC 45 YR [.t 44],
 qm 43 45,
 .r 46 (.ex (.t 43) 0),
 .r 47 (.ex (.t 43) 1),
 .r 48 (.ex (.t 43) 2),
 .r 49 (.ex (.t 43) 3),
 .r 9 (.new (.agg [.v (.string ⟨#[]⟩),.v (.int .i64 0),.v (.slice none 0 0),.v (.slice none 0 0)])),
 .r 10 (.new (.agg [.v (.string ⟨#[]⟩),.v (.int .i64 0),.v (.slice none 0 0),.v (.slice none 0 0)])),
 qs 4 9 46,
 qs 4 10 47,
 qm 11 48,
 qm 12 49])
 (.seq
 (.reg 4 none [3,5,6,9,10,13] [
 qf 50 0 9,
 ql 51 50,
 qf 52 2 9,
 ql 53 52,
 qf 54 3 5,
 ql 55 54,
 .r 56 (.build [.v (.string ⟨#[]⟩),.v (.int .i64 0),.v (.slice none 0 0),.v (.slice none 0 0)] [((0,1),.t 51),((1,1),qI 3),((2,1),.t 53),((3,1),.t 55)]),
 .r 13 (.new (.agg [.v (.string ⟨#[]⟩),.v (.int .i64 0),.v (.slice none 0 0),.v (.slice none 0 0)])),
 qs 4 13 56])
 (.seq
 (.seq
 (.reg 5 none [3,6,75,76,77] [
 qL 57 4 9,
 qL 58 4 10,
 .r 59 (.build [.v (.string ⟨#[]⟩),.v (.int .i64 0),.v (.slice none 0 0),.v (.slice none 0 0),.v (.string ⟨#[]⟩),.v (.int .i64 0),.v (.slice none 0 0),.v (.slice none 0 0)] [((0,4),.t 57),((4,4),.t 58)]),
 qL 60 4 10,
 qL 61 4 9,
 .r 62 (.build [.v (.string ⟨#[]⟩),.v (.int .i64 0),.v (.slice none 0 0),.v (.slice none 0 0),.v (.string ⟨#[]⟩),.v (.int .i64 0),.v (.slice none 0 0),.v (.slice none 0 0)] [((0,4),.t 60),((4,4),.t 61)]),
 qL 63 4 9,
 qL 64 4 5,
 .r 65 (.build [.v (.string ⟨#[]⟩),.v (.int .i64 0),.v (.slice none 0 0),.v (.slice none 0 0),.v (.string ⟨#[]⟩),.v (.int .i64 0),.v (.slice none 0 0),.v (.slice none 0 0)] [((0,4),.t 63),((4,4),.t 64)]),
 qL 66 4 5,
 qL 67 4 9,
 .r 68 (.build [.v (.string ⟨#[]⟩),.v (.int .i64 0),.v (.slice none 0 0),.v (.slice none 0 0),.v (.string ⟨#[]⟩),.v (.int .i64 0),.v (.slice none 0 0),.v (.slice none 0 0)] [((0,4),.t 66),((4,4),.t 67)]),
 qL 69 4 9,
 qL 70 4 13,
 .r 71 (.build [.v (.string ⟨#[]⟩),.v (.int .i64 0),.v (.slice none 0 0),.v (.slice none 0 0),.v (.string ⟨#[]⟩),.v (.int .i64 0),.v (.slice none 0 0),.v (.slice none 0 0)] [((0,4),.t 69),((4,4),.t 70)]),
 qL 72 4 13,
 qL 73 4 13,
 .r 74 (.build [.v (.string ⟨#[]⟩),.v (.int .i64 0),.v (.slice none 0 0),.v (.slice none 0 0),.v (.string ⟨#[]⟩),.v (.int .i64 0),.v (.slice none 0 0),.v (.slice none 0 0)] [((0,4),.t 72),((4,4),.t 73)]),
 .r 75 (.bsl 8 6 [.t 59,.t 62,.t 65,.t 68,.t 71,.t 74]),
 qn 76 75,
 qi 77 0])
 (.block 0
 (.loop
 (.seq
 (.reg 6 none [3,6,75,76,77,78] [
 qb 78 .lss 77 76])
 (.seq
 (qq 78
 .skip
 (.exit 0))
 (.seq
 (.block 1
 (.seq
 (.reg 7 none [3,6,15,75,76,77] [
 qx 79 8 75 77,
 qL 80 8 79,
 .r 15 (.new (.agg [.v (.string ⟨#[]⟩),.v (.int .i64 0),.v (.slice none 0 0),.v (.slice none 0 0),.v (.string ⟨#[]⟩),.v (.int .i64 0),.v (.slice none 0 0),.v (.slice none 0 0)])),
 qs 8 15 80])
 (.seq
 (.reg 8 none [3,6,15,16,17,75,76,77] [
 .r 82 (.ixA 2 4 (.t 15) (qI 0)),
 qL 83 4 82,
 .r 84 (.ixA 2 4 (.t 15) (qI 1)),
 qL 85 4 84,
 qC 86 yv [.t 83,.t 85],
 qm 81 86,
 .r 87 (.ex (.t 81) 0),
 .r 88 (.ex (.t 81) 1),
 .r 16 (.new (.agg [.v (.int .i64 0),.v (.slice none 0 0),.v (.slice none 0 0)])),
 qs 3 16 87,
 qm 17 88])
 (.seq
 (.reg 9 none [3,6,15,16,17,18,19,75,76,77] [
 .r 90 (.ixA 2 4 (.t 15) (qI 0)),
 qL 91 4 90,
 .r 92 (.ixA 2 4 (.t 15) (qI 1)),
 qL 93 4 92,
 qC 94 Wp [.t 91,.t 93],
 qm 89 94,
 .r 95 (.ex (.t 89) 0),
 .r 96 (.ex (.t 89) 1),
 .r 18 (.new (.agg [.v (.int .i64 0),.v (.slice none 0 0),.v (.slice none 0 0)])),
 qs 3 18 95,
 qm 19 96])
 (.seq
 (.seq
 (.reg 10 none [3,6,15,16,18,75,76,77,105] [
 qm 97 17,
 qm 98 19,
 qb 99 .neq 97 98,
 qm 100 99,
 .rf 101 100 (.ld (some 3) (.t 16)),
 .rf 102 100 (.ld (some 3) (.t 18)),
 .rf 103 100 (.call (.k (.clo Zu [])) [.t 101,.t 102]),
 .rf 104 100 (.un .not (.t 103)),
 qP 105 100 104])
 (qq 105
 (.seq
 (.reg 11 none [8] [
 qc 8 false])
 .ret)
 .skip))
 (.seq
 (.seq
 (.reg 12 none [3,6,15,16,18,75,76,77,109] [
 qf 106 1 18,
 ql 107 106,
 qn 108 107,
 qB 109 .gtr 108 0])
 (qq 109
 (.seq
 (.reg 13 none [3,6,15,16,18,75,76,77] [
 qf 110 1 18,
 ql 111 110,
 .r 112 (.app 1 8 false (qN) (.t 111)),
 qf 113 1 18,
 qs 1 113 112])
 (.reg 14 (some [0,1,0,0,8,24,60,127,255,0,636,1660,4095,8191,16383]) [3,6,15,16,18,75,76,77] [
 qf 114 1 18,
 ql 115 114,
 qm 116 3,
 qf 117 1 18,
 ql 118 117,
 qn 119 118,
 qC 120 Yf [.t 116,.t 119],
 qx 121 1 115 120,
 ql 122 121,
 qm 123 3,
 qC 124 Yf [.t 123,qI 3],
 qB 125 .sub 124 1,
 qb 126 .add 122 125,
 qx 127 1 115 120,
 qs 1 127 126]))
 .skip))
 (.seq
 (.reg 15 none [3,6,15,75,76,77,137,138,139] [
 qL 128 3 16,
 qL 129 3 18,
 qL 130 3 6,
 qf 131 2 6,
 ql 132 131,
 .r 133 (.build [.v (.int .i64 0),.v (.slice none 0 0),.v (.slice none 0 0)] [((0,1),qI 1),((2,1),.t 132)]),
 qf 134 1 6,
 ql 135 134,
 .r 136 (.build [.v (.int .i64 0),.v (.slice none 0 0),.v (.slice none 0 0)] [((1,1),.t 135)]),
 .r 137 (.bsl 3 5 [.t 128,.t 129,.t 130,.t 133,.t 136]),
 qn 138 137,
 qi 139 0])
 (.block 2
 (.loop
 (.seq
 (.reg 16 none [3,6,15,75,76,77,137,138,139,140] [
 qb 140 .lss 139 138])
 (.seq
 (qq 140
 .skip
 (.exit 2))
 (.seq
 (.block 3
 (.seq
 (.reg 17 none [3,6,15,21,75,76,77,137,138,139] [
 qx 141 3 137 139,
 qL 142 3 141,
 .r 21 (.new (.agg [.v (.int .i64 0),.v (.slice none 0 0),.v (.slice none 0 0)])),
 qs 3 21 142])
 (.seq
 (.reg 18 none [3,6,15,21,22,23,75,76,77,137,138,139] [
 .r 144 (.ixA 2 4 (.t 15) (qI 0)),
 qL 145 4 144,
 qL 146 3 21,
 qC 147 wu [.t 145,.t 146],
 qm 143 147,
 .r 148 (.ex (.t 143) 0),
 .r 149 (.ex (.t 143) 1),
 .r 22 (.new (.agg [.v (.string ⟨#[]⟩),.v (.int .i64 0),.v (.slice none 0 0),.v (.slice none 0 0)])),
 qs 4 22 148,
 qm 23 149])
 (.seq
 (.reg 19 none [3,6,15,22,23,24,25,75,76,77,137,138,139] [
 .r 151 (.ixA 2 4 (.t 15) (qI 0)),
 qL 152 4 151,
 qL 153 3 21,
 qC 154 Kc [.t 152,.t 153],
 qm 150 154,
 .r 155 (.ex (.t 150) 0),
 .r 156 (.ex (.t 150) 1),
 .r 24 (.new (.agg [.v (.string ⟨#[]⟩),.v (.int .i64 0),.v (.slice none 0 0),.v (.slice none 0 0)])),
 qs 4 24 155,
 qm 25 156])
 (.seq
 (.reg 20 none [3,6,15,75,76,77,137,138,139,165] [
 qm 157 23,
 qm 158 25,
 qb 159 .neq 157 158,
 qm 160 159,
 .rf 161 160 (.ld (some 4) (.t 22)),
 .rf 162 160 (.ld (some 4) (.t 24)),
 .rf 163 160 (.call (.k (.clo yE [])) [.t 161,.t 162]),
 .rf 164 160 (.un .not (.t 163)),
 qP 165 160 164])
 (qq 165
 (.seq
 (.reg 21 none [8] [
 qc 8 false])
 .ret)
 .skip))))))
 (.reg 22 none [3,6,15,75,76,77,137,138,139] [
 qa 166 139,
 qm 139 166])))))))))))))
 (.reg 23 none [3,6,75,76,77] [
 qa 167 77,
 qm 77 167])))))))
 (.seq
 (.reg 24 none [8] [
 qC 168 Qj [],
 qm 8 168])
 .ret))))))
def Wy:List (Nat×List Nat):=qy jR
theorem Wz:FnIR Tryz.prog Qd 169 Wy jR [(.tmp 8)]:=
 qF Tryz.func3
def ZN:RC:=
 (.seq
 (.reg 0 none [] [
 qc 0 false])
 (.seq
 (.reg 1 none [1] [
 .r 7 (.bsl 1 1 [qI 3]),
 .r 8 (.bsl 1 1 [qI 5]),
 .r 9 (.bsl 1 2 [.t 7,.t 8]),
 .r 10 (.build [.v (.string ⟨#[]⟩),.v (.int .i64 0),.v (.slice none 0 0),.v (.slice none 0 0)] [((0,1),.k (.v (.string ⟨#[112]⟩))),((3,1),.t 9)]),
 .r 1 (.new (.agg [.v (.string ⟨#[]⟩),.v (.int .i64 0),.v (.slice none 0 0),.v (.slice none 0 0)])),
 qs 4 1 10])
 (.seq
 (.reg 2 none [1,2] [
 .r 11 (.bsl 1 1 [qI 5]),
 .r 12 (.bsl 1 1 [qI 9]),
 .r 13 (.bsl 1 2 [.t 11,.t 12]),
 .r 14 (.build [.v (.string ⟨#[]⟩),.v (.int .i64 0),.v (.slice none 0 0),.v (.slice none 0 0)] [((0,1),.k (.v (.string ⟨#[112]⟩))),((1,1),qI 2),((3,1),.t 13)]),
 .r 2 (.new (.agg [.v (.string ⟨#[]⟩),.v (.int .i64 0),.v (.slice none 0 0),.v (.slice none 0 0)])),
 qs 4 2 14])
 (.seq
 (.reg 3 none [1,2,3,4] [
 qL 16 4 1,
 qL 17 4 2,
 qC 18 yv [.t 16,.t 17],
 qm 15 18,
 .r 19 (.ex (.t 15) 0),
 .r 20 (.ex (.t 15) 1),
 .r 3 (.new (.agg [.v (.int .i64 0),.v (.slice none 0 0),.v (.slice none 0 0)])),
 qs 3 3 19,
 qm 4 20])
 (.seq
 (.reg 4 none [2,3,4,5,6] [
 qL 22 4 1,
 qL 23 3 3,
 qC 24 wu [.t 22,.t 23],
 qm 21 24,
 .r 25 (.ex (.t 21) 0),
 .r 26 (.ex (.t 21) 1),
 .r 5 (.new (.agg [.v (.string ⟨#[]⟩),.v (.int .i64 0),.v (.slice none 0 0),.v (.slice none 0 0)])),
 qs 4 5 25,
 qm 6 26])
 (.seq
 (.reg 5 none [0] [
 qm 27 4,
 qB 28 .eql 27 0,
 qm 29 28,
 qmt 30 29 6,
 .rt 31 29 (.bin .eql false (.t 30) (qI 0)),
 qp 32 29 31,
 qm 33 32,
 .rt 34 33 (.ld (some 4) (.t 5)),
 .rt 35 33 (.ld (some 4) (.t 2)),
 .rt 36 33 (.call (.k (.clo yE [])) [.t 34,.t 35]),
 qp 37 33 36,
 qm 38 37,
 qft 39 38 1 3,
 qlt 40 38 39,
 .rt 41 38 (.bsl 1 1 [qI 3]),
 .rt 42 38 (.call (.k (.clo jO [])) [.t 40,.t 41]),
 qp 43 38 42,
 qm 44 43,
 .rt 45 44 (.ld (some 3) (.t 3)),
 .rt 46 44 (.call (.k (.clo yw [])) [.t 45]),
 .rt 47 44 (.bsl 1 2 [qI 3,qI 9]),
 .rt 48 44 (.call (.k (.clo jO [])) [.t 46,.t 47]),
 qp 49 44 48,
 qm 50 49,
 .rt 51 50 (.ld (some 3) (.t 3)),
 .rt 52 50 (.bsl 1 2 [qI 1,qI 9]),
 .rt 53 50 (.call (.k (.clo wv [])) [.t 51,.t 52]),
 qp 54 50 53,
 qm 55 54,
 .rt 56 55 (.ld (some 3) (.t 3)),
 .rt 57 55 (.bsl 1 1 [qI 5]),
 .rt 58 55 (.call (.k (.clo wv [])) [.t 56,.t 57]),
 .rt 59 55 (.un .not (.t 58)),
 qp 60 55 59,
 qm 0 60])
 .ret))))))
def qB8:List (Nat×List Nat):=qy ZN
theorem qB9:FnIR Tryz.prog Qj 61 qB8 ZN [(.tmp 0)]:=
 qF Tryz.func9
def WA:RC:=
 (.seq
 (.reg 0 none [0,2,3] [
 .r 2 (.new (.agg [.v (.string ⟨#[]⟩),.v (.int .i64 0),.v (.slice none 0 0),.v (.slice none 0 0)])),
 .r 3 (.new (.agg [.v (.string ⟨#[]⟩),.v (.int .i64 0),.v (.slice none 0 0),.v (.slice none 0 0)])),
 .r 4 (.mv (qN)),
 qi 5 0])
 (.seq
 (.reg 1 none [2,3,6] [
 qm 19 0,
 qC 20 qk7 [.t 19],
 qm 6 20])
 (.seq
 (.reg 2 none [2,3,6,7] [
 qm 21 6,
 qC 22 zD [.t 21,qI 8],
 .r 7 (.new (.agg [.v (.slice none 0 0),.v (.slice none 0 0),.v (.slice none 0 0),.v (.slice none 0 0),.v (.int .i64 0)])),
 qs 5 7 22])
 (.seq
 (.reg 3 none [2,3,6,7,8] [
 qm 23 6,
 qf 24 0 7,
 qL 25 2 24,
 qC 26 jf [.t 23,.t 25],
 .r 8 (.new (.agg [.v (.string ⟨#[]⟩),.v (.string ⟨#[]⟩),.v (.int .i64 0),.v (.int .i64 0),.v (.int .i64 0),.v (.int .i64 0),.v (.int .i64 0),.v (.slice none 0 0),.v (.int .i64 0),.v (.int .i64 0),.v (.int .i64 0),.v (.slice none 0 0)])),
 qs 12 8 26])
 (.seq
 (.reg 4 none [2,3,6,7,8,9] [
 qf 28 0 7,
 qL 29 2 28,
 qL 30 12 8,
 qC 31 Wq [.t 29,.t 30],
 qm 27 31,
 .r 32 (.ex (.t 27) 0),
 .r 33 (.ex (.t 27) 1),
 qm 9 32,
 qm 10 33])
 (.seq
 (.reg 5 none [2,3,6,7,8,9,11] [
 qm 34 6,
 qC 35 kM [.t 34],
 qm 11 35])
 (.seq
 (.reg 6 none [2,3,7,8,9,11,12] [
 qm 36 6,
 qL 37 5 7,
 qC 38 zQ [.t 36,.t 37,qI 6],
 qm 12 38])
 (.seq
 (.reg 7 none [2,3,7,8,9,11,12,13] [
 qL 40 5 7,
 qm 41 12,
 qm 42 12,
 qn 43 42,
 qC 44 qk8 [.t 40,.t 41,.t 43],
 qm 39 44,
 .r 45 (.ex (.t 39) 0),
 .r 46 (.ex (.t 39) 1),
 .r 13 (.new (.agg [.v (.slice none 0 0),.v (.slice none 0 0),.v (.slice none 0 0),.v (.slice none 0 0),.v (.int .i64 0)])),
 qs 5 13 45,
 qm 14 46])
 (.seq
 (.reg 8 none [2,3,8,9,11,12,13,15] [
 qL 48 5 7,
 qL 49 12 8,
 qm 50 9,
 qm 51 11,
 qC 52 Qk [.t 48,.t 49,.t 50,.t 51],
 qm 47 52,
 .r 53 (.ex (.t 47) 0),
 .r 54 (.ex (.t 47) 1),
 .r 15 (.new (.agg [.v (.string ⟨#[]⟩),.v (.int .i64 0),.v (.slice none 0 0),.v (.slice none 0 0)])),
 qs 4 15 53,
 qm 16 54])
 (.seq
 (.reg 9 none [2,3,11,12,15,17] [
 qL 56 5 13,
 qL 57 12 8,
 qm 58 9,
 qm 59 11,
 qC 60 Qk [.t 56,.t 57,.t 58,.t 59],
 qm 55 60,
 .r 61 (.ex (.t 55) 0),
 .r 62 (.ex (.t 55) 1),
 .r 17 (.new (.agg [.v (.string ⟨#[]⟩),.v (.int .i64 0),.v (.slice none 0 0),.v (.slice none 0 0)])),
 qs 4 17 61,
 qm 18 62])
 (.seq
 (.reg 10 (some [0,0,0,0,1,19,55,127]) [2,3,4,5] [
 qL 63 4 15,
 qL 64 4 17,
 qm 65 12,
 qm 66 11,
 qs 4 2 63,
 qs 4 3 64,
 qm 4 65,
 qm 5 66])
 .ret)))))))))))
def zf3:List (Nat×List Nat):=qy WA
theorem zf4:FnIR Tryz.prog YR 67 zf3 WA [(.cell 2 (some 4)),(.cell 3 (some 4)),(.tmp 4),(.tmp 5)]:=
 qF Tryz.func10
def QT:RC:=
 (.seq
 (.reg 0 none [2,3,4] [
 .r 2 (.box (.t 0)),
 .r 3 (.box (.t 1)),
 .r 4 (.new (.agg [.v (.int .i64 0),.v (.slice none 0 0),.v (.slice none 0 0)])),
 qi 5 0])
 (.seq
 (.block 0
 (.seq
 (.reg 1 none [2,3,4,15] [
 qf 16 3 2,
 ql 17 16,
 qC 18 zz [.t 17],
 .r 19 (.un .not (.t 18)),
 qm 20 19,
 qff 21 20 3 3,
 qlf 22 20 21,
 .rf 23 20 (.call (.k (.clo zz [])) [.t 22]),
 .rf 24 20 (.un .not (.t 23)),
 qP 25 20 24,
 qm 15 25])
 (qq 15
 (.seq
 (.reg 2 none [4,5] [
 .r 26 (.build [.v (.int .i64 0),.v (.slice none 0 0),.v (.slice none 0 0)] []),
 qs 3 4 26,
 qi 5 11])
 .ret)
 (.seq
 (.reg 3 none [2,3,4,27] [
 qf 28 0 2,
 ql 29 28,
 qf 30 0 3,
 ql 31 30,
 qb 32 .neq 29 31,
 qm 33 32,
 qff 34 33 2 2,
 qlf 35 33 34,
 qff 36 33 2 3,
 qlf 37 33 36,
 .rf 38 33 (.call (.k (.clo kN [])) [.t 35,.t 37]),
 .rf 39 33 (.un .not (.t 38)),
 qP 40 33 39,
 qm 27 40])
 (qq 27
 (.seq
 (.reg 4 none [4,5] [
 .r 41 (.build [.v (.int .i64 0),.v (.slice none 0 0),.v (.slice none 0 0)] []),
 qs 3 4 41,
 qi 5 23])
 .ret)
 .skip)))))
 (.seq
 (.reg 5 none [2,3,4,6] [
 qf 42 1 3,
 ql 43 42,
 .r 44 (.build [.v (.int .i64 0),.v (.slice none 0 0),.v (.slice none 0 0)] [((0,1),.t 43)]),
 .r 6 (.new (.agg [.v (.int .i64 0),.v (.slice none 0 0),.v (.slice none 0 0)])),
 qs 3 6 44])
 (.seq
 (.seq
 (.reg 6 none [2,3,4,6,46,47,48] [
 qf 45 3 2,
 ql 46 45,
 qn 47 46,
 qi 48 0])
 (.block 1
 (.loop
 (.seq
 (.reg 7 none [2,3,4,6,46,47,48,49] [
 qb 49 .lss 48 47])
 (.seq
 (qq 49
 .skip
 (.exit 1))
 (.seq
 (.block 2
 (.seq
 (.reg 8 none [2,3,4,6,8,46,47,48] [
 qx 50 1 46 48,
 ql 51 50,
 qm 8 51])
 (.seq
 (.reg 9 (some [0,1,0,4,12,31,63,127,127,255,1023]) [2,3,4,6,8,10,46,47,48] [
 qf 53 3 3,
 ql 54 53,
 qm 55 8,
 .r 56 (.ixL 1 (.t 55) (qI 0)),
 ql 57 56,
 qC 58 zU [.t 54,.t 57],
 qm 52 58,
 .r 59 (.ex (.t 52) 0),
 .r 60 (.ex (.t 52) 1),
 qm 9 59,
 qm 10 60])
 (.seq
 (.reg 10 none [2,3,4,6,8,46,47,48,62] [
 qm 61 10,
 .r 62 (.un .not (.t 61))])
 (qq 62
 (.reg 11 (some [0,1,0,4,12,28,63,127,255]) [2,3,4,6,46,47,48] [
 qf 63 1 6,
 ql 64 63,
 qm 65 8,
 .r 66 (.ixL 1 (.t 65) (qI 0)),
 ql 67 66,
 .r 68 (.bsl 1 1 [.t 67]),
 .r 69 (.app 1 8 false (.t 64) (.t 68)),
 qf 70 1 6,
 qs 1 70 69])
 .skip)))))
 (.reg 12 none [2,3,4,6,46,47,48] [
 qa 71 48,
 qm 48 71])))))))
 (.seq
 (.seq
 (.reg 13 none [2,4,6,73,74,75] [
 qf 72 3 3,
 ql 73 72,
 qn 74 73,
 qi 75 0])
 (.block 3
 (.loop
 (.seq
 (.reg 14 none [2,4,6,73,74,75,76] [
 qb 76 .lss 75 74])
 (.seq
 (qq 76
 .skip
 (.exit 3))
 (.seq
 (.block 4
 (.seq
 (.reg 15 none [2,4,6,12,73,74,75] [
 qx 77 1 73 75,
 ql 78 77,
 qm 12 78])
 (.seq
 (.reg 16 (some [0,1,0,4,12,31,63,127,127,255,1023]) [2,4,6,12,13,14,73,74,75] [
 qf 80 3 2,
 ql 81 80,
 qm 82 12,
 .r 83 (.ixL 1 (.t 82) (qI 0)),
 ql 84 83,
 qC 85 zU [.t 81,.t 84],
 qm 79 85,
 .r 86 (.ex (.t 79) 0),
 .r 87 (.ex (.t 79) 1),
 qm 13 86,
 qm 14 87])
 (.seq
 (.reg 17 none [2,4,6,12,73,74,75,99] [
 qm 88 14,
 .r 89 (.un .not (.t 88)),
 qm 90 89,
 qff 91 90 3 2,
 qlf 92 90 91,
 qmf 93 90 13,
 .rf 94 90 (.ixL 1 (.t 92) (.t 93)),
 qlf 95 90 94,
 qmf 96 90 12,
 .rf 97 90 (.call (.k (.clo ww [])) [.t 95,.t 96]),
 .rf 98 90 (.un .not (.t 97)),
 qP 99 90 98])
 (qq 99
 (.reg 18 (some [0,1,0,4,12,31,63,127]) [2,4,6,73,74,75] [
 qf 100 2 6,
 ql 101 100,
 qm 102 12,
 qC 103 qX [.t 102],
 .r 104 (.bsl 1 1 [.t 103]),
 .r 105 (.app 1 24 false (.t 101) (.t 104)),
 qf 106 2 6,
 qs 1 106 105])
 .skip)))))
 (.reg 19 none [2,4,6,73,74,75] [
 qa 107 75,
 qm 75 107])))))))
 (.seq
 (.reg 20 none [4,5] [
 qL 108 3 6,
 qs 3 4 108,
 qi 5 0])
 .ret))))))
def qv7:List (Nat×List Nat):=qy QT
theorem qv8:FnIR Tryz.prog yv 109 qv7 QT [(.cell 4 (some 3)),(.tmp 5)]:=
 qF Tryz.func11
def Kl:RC:=
 (.seq
 (.reg 0 none [2,3,4] [
 .r 2 (.box (.t 0)),
 .r 3 (.box (.t 1)),
 .r 4 (.new (.agg [.v (.int .i64 0),.v (.slice none 0 0),.v (.slice none 0 0)])),
 qi 5 0])
 (.seq
 (.seq
 (.reg 1 none [2,3,4,19] [
 qf 10 3 2,
 ql 11 10,
 qC 12 jg [.t 11],
 .r 13 (.un .not (.t 12)),
 qm 14 13,
 qff 15 14 3 3,
 qlf 16 14 15,
 .rf 17 14 (.call (.k (.clo jg [])) [.t 16]),
 .rf 18 14 (.un .not (.t 17)),
 qP 19 14 18])
 (qq 19
 (.seq
 (.reg 2 none [4,5] [
 .r 20 (.build [.v (.int .i64 0),.v (.slice none 0 0),.v (.slice none 0 0)] []),
 qs 3 4 20,
 qi 5 11])
 .ret)
 .skip))
 (.seq
 (.seq
 (.reg 3 none [2,3,4,33] [
 qf 21 0 2,
 ql 22 21,
 qf 23 0 3,
 ql 24 23,
 qb 25 .neq 22 24,
 qm 26 25,
 qff 27 26 2 2,
 qlf 28 26 27,
 qff 29 26 2 3,
 qlf 30 26 29,
 .rf 31 26 (.call (.k (.clo jZ [])) [.t 28,.t 30]),
 .rf 32 26 (.un .not (.t 31)),
 qP 33 26 32])
 (qq 33
 (.seq
 (.reg 4 none [4,5] [
 .r 34 (.build [.v (.int .i64 0),.v (.slice none 0 0),.v (.slice none 0 0)] []),
 qs 3 4 34,
 qi 5 23])
 .ret)
 .skip))
 (.seq
 (.reg 5 none [2,3,4,6] [
 qf 35 1 3,
 ql 36 35,
 .r 37 (.build [.v (.int .i64 0),.v (.slice none 0 0),.v (.slice none 0 0)] [((0,1),.t 36)]),
 .r 6 (.new (.agg [.v (.int .i64 0),.v (.slice none 0 0),.v (.slice none 0 0)])),
 qs 3 6 37])
 (.seq
 (.seq
 (.reg 6 none [2,3,4,6,7] [
 qi 7 0])
 (.block 0
 (.loop
 (.seq
 (.seq
 (.reg 7 none [2,3,4,6,7,42] [
 qm 38 7,
 qf 39 3 2,
 ql 40 39,
 qn 41 40,
 qb 42 .lss 38 41])
 (qq 42
 .skip
 (.exit 0)))
 (.seq
 (.block 1
 (.seq
 (.reg 9 (some [0,1,0,4,0,28,60,124,252,511,1023]) [2,3,4,6,7,55] [
 qf 45 3 3,
 ql 46 45,
 qf 47 3 2,
 ql 48 47,
 qm 49 7,
 qx 50 1 48 49,
 ql 51 50,
 .r 52 (.ixL 1 (.t 51) (qI 0)),
 ql 53 52,
 qC 54 wc [.t 46,.t 53],
 qB 55 .lss 54 0])
 (qq 55
 (.reg 10 (some [0,1,0,4,0,28,60,124,252,508,1023,2047,4095]) [2,3,4,6,7] [
 qf 56 1 6,
 ql 57 56,
 qf 58 3 2,
 ql 59 58,
 qm 60 7,
 qx 61 1 59 60,
 ql 62 61,
 .r 63 (.ixL 1 (.t 62) (qI 0)),
 ql 64 63,
 .r 65 (.bsl 1 1 [.t 64]),
 .r 66 (.app 1 8 false (.t 57) (.t 65)),
 qf 67 1 6,
 qs 1 67 66])
 .skip)))
 (.reg 8 none [2,3,4,6,7] [
 qm 43 7,
 qa 44 43,
 qm 7 44]))))))
 (.seq
 (.seq
 (.reg 11 none [2,3,4,6,8] [
 qi 8 0])
 (.block 2
 (.loop
 (.seq
 (.seq
 (.reg 12 none [2,3,4,6,8,72] [
 qm 68 8,
 qf 69 3 3,
 ql 70 69,
 qn 71 70,
 qb 72 .lss 68 71])
 (qq 72
 .skip
 (.exit 2)))
 (.seq
 (.block 3
 (.seq
 (.reg 14 (some [0,1,0,4,0,28,60,124,252,511,1023]) [2,3,4,6,8,9] [
 qf 75 3 2,
 ql 76 75,
 qf 77 3 3,
 ql 78 77,
 qm 79 8,
 qx 80 1 78 79,
 ql 81 80,
 .r 82 (.ixL 1 (.t 81) (qI 0)),
 ql 83 82,
 qC 84 wc [.t 76,.t 83],
 qm 9 84])
 (.seq
 (.reg 15 (some [0,1,3,7,15,7,63,127,7,263,7,1799,3847,8191,16383,32767]) [2,3,4,6,8,100] [
 qm 85 9,
 qB 86 .lss 85 0,
 qm 87 86,
 qff 88 87 3 2,
 qlf 89 87 88,
 qmf 90 87 9,
 .rf 91 87 (.ixL 1 (.t 89) (.t 90)),
 qlf 92 87 91,
 qff 93 87 3 3,
 qlf 94 87 93,
 qmf 95 87 8,
 .rf 96 87 (.ixL 1 (.t 94) (.t 95)),
 qlf 97 87 96,
 .rf 98 87 (.call (.k (.clo jO [])) [.t 92,.t 97]),
 .rf 99 87 (.un .not (.t 98)),
 qP 100 87 99])
 (qq 100
 (.reg 16 (some [0,1,0,4,0,28,60,124,255,511,1023]) [2,3,4,6,8] [
 qf 101 2 6,
 ql 102 101,
 qf 103 3 3,
 ql 104 103,
 qm 105 8,
 qx 106 1 104 105,
 ql 107 106,
 .r 108 (.bsl 1 1 [.t 107]),
 .r 109 (.app 1 24 false (.t 102) (.t 108)),
 qf 110 2 6,
 qs 1 110 109])
 .skip))))
 (.reg 13 none [2,3,4,6,8] [
 qm 73 8,
 qa 74 73,
 qm 8 74]))))))
 (.seq
 (.reg 17 none [4,5] [
 qL 111 3 6,
 qs 3 4 111,
 qi 5 0])
 .ret)))))))
def qQ1:List (Nat×List Nat):=qy Kl
theorem qQ2:FnIR Tryz.prog Wp 112 qQ1 Kl [(.cell 4 (some 3)),(.tmp 5)]:=
 qF Tryz.func12
def Km:RC:=
 (.seq
 (.reg 0 none [2,3] [
 .r 2 (.box (.t 0)),
 .r 3 (.box (.t 1)),
 qc 4 false])
 (.seq
 (.reg 1 none [4] [
 qf 5 0 2,
 ql 6 5,
 qf 7 0 3,
 ql 8 7,
 qb 9 .eql 6 8,
 qm 10 9,
 qft 11 10 1 2,
 qlt 12 10 11,
 qft 13 10 1 3,
 qlt 14 10 13,
 .rt 15 10 (.call (.k (.clo jO [])) [.t 12,.t 14]),
 qp 16 10 15,
 qm 17 16,
 qft 18 17 2 2,
 qlt 19 17 18,
 qft 20 17 2 3,
 qlt 21 17 20,
 .rt 22 17 (.call (.k (.clo Zv [])) [.t 19,.t 21]),
 qp 23 17 22,
 qm 4 23])
 .ret))
def qQ3:List (Nat×List Nat):=qy Km
theorem qQ4:FnIR Tryz.prog Zu 24 qQ3 Km [(.tmp 4)]:=
 qF Tryz.func13
def YU:RC:=
 (.seq
 (.reg 0 none [0,1] [
 qi 4 0])
 (.seq
 (.seq
 (.reg 1 none [0,1,6] [
 qm 5 1,
 qB 6 .lss 5 1])
 (qq 6
 (.seq
 (.reg 2 none [4] [
 qi 4 0])
 .ret)
 .skip))
 (.seq
 (.reg 3 none [0,1] [
 qm 7 0,
 qm 8 1,
 qb 9 .rem 7 8,
 qm 0 9])
 (.seq
 (.seq
 (.reg 4 none [0,1,11] [
 qm 10 0,
 qB 11 .lss 10 0])
 (qq 11
 (.reg 5 none [0] [
 qm 12 0,
 qm 13 1,
 qb 14 .add 12 13,
 qm 0 14])
 .skip))
 (.seq
 (.reg 6 none [4] [
 qm 15 0,
 qm 4 15])
 .ret)))))
def zn1:List (Nat×List Nat):=qy YU
theorem zn2:FnIR Tryz.prog Yf 16 zn1 YU [(.tmp 4)]:=
 qF Tryz.func14
def yN:RC:=
 (.seq
 (.reg 0 none [2,3,4] [
 .r 2 (.box (.t 0)),
 .r 3 (.box (.t 1)),
 .r 4 (.new (.agg [.v (.string ⟨#[]⟩),.v (.int .i64 0),.v (.slice none 0 0),.v (.slice none 0 0)])),
 qi 5 0])
 (.seq
 (.reg 1 none [2,3,4,6] [
 .r 22 (.mf ka [.t 2]),
 qm 6 22])
 (.seq
 (.seq
 (.reg 2 none [2,3,4,44] [
 qf 23 3 2,
 ql 24 23,
 qC 25 zz [.t 24],
 .r 26 (.un .not (.t 25)),
 qm 27 26,
 qff 28 27 1 3,
 qlf 29 27 28,
 .rf 30 27 (.call (.k (.clo yc [])) [.t 29]),
 .rf 31 27 (.un .not (.t 30)),
 qP 32 27 31,
 qm 33 32,
 qff 34 33 2 3,
 qlf 35 33 34,
 .rf 36 33 (.call (.k (.clo zz [])) [.t 35]),
 .rf 37 33 (.un .not (.t 36)),
 qP 38 33 37,
 qm 39 38,
 qff 40 39 2 3,
 qlf 41 39 40,
 qmf 42 39 6,
 .rf 43 39 (.call (.k (.clo zI [])) [.t 41,.t 42]),
 qP 44 39 43])
 (qq 44
 (.seq
 (.reg 3 none [4,5] [
 .r 45 (.build [.v (.string ⟨#[]⟩),.v (.int .i64 0),.v (.slice none 0 0),.v (.slice none 0 0)] []),
 qs 4 4 45,
 qi 5 11])
 .ret)
 .skip))
 (.seq
 (.seq
 (.reg 4 none [2,3,4,47,48,49] [
 qf 46 1 3,
 ql 47 46,
 qn 48 47,
 qi 49 0])
 (.block 0
 (.loop
 (.seq
 (.reg 5 none [2,3,4,47,48,49,50] [
 qb 50 .lss 49 48])
 (.seq
 (qq 50
 .skip
 (.exit 0))
 (.seq
 (.block 1
 (.seq
 (.reg 6 none [2,3,4,8,47,48,49] [
 qx 51 1 47 49,
 ql 52 51,
 qm 8 52])
 (.seq
 (.reg 7 none [2,3,4,10,47,48,49] [
 qf 54 3 2,
 ql 55 54,
 qm 56 8,
 qC 57 zU [.t 55,.t 56],
 qm 53 57,
 .r 58 (.ex (.t 53) 0),
 .r 59 (.ex (.t 53) 1),
 qm 9 58,
 qm 10 59])
 (.seq
 (.reg 8 none [2,3,4,47,48,49,61] [
 qm 60 10,
 .r 61 (.un .not (.t 60))])
 (qq 61
 (.seq
 (.reg 9 none [4,5] [
 .r 62 (.build [.v (.string ⟨#[]⟩),.v (.int .i64 0),.v (.slice none 0 0),.v (.slice none 0 0)] []),
 qs 4 4 62,
 qi 5 21])
 .ret)
 .skip)))))
 (.reg 10 none [2,3,4,47,48,49] [
 qa 63 49,
 qm 49 63])))))))
 (.seq
 (.seq
 (.reg 11 none [2,3,4,65,66,67] [
 qf 64 2 3,
 ql 65 64,
 qn 66 65,
 qi 67 0])
 (.block 2
 (.loop
 (.seq
 (.reg 12 none [2,3,4,65,66,67,68] [
 qb 68 .lss 67 66])
 (.seq
 (qq 68
 .skip
 (.exit 2))
 (.seq
 (.block 3
 (.seq
 (.reg 13 none [2,3,4,12,65,66,67] [
 qx 69 1 65 67,
 ql 70 69,
 qm 12 70])
 (.seq
 (.reg 14 (some [0,1,0,4,12,31]) [2,3,4,65,66,67,76] [
 qf 71 1 3,
 ql 72 71,
 qm 73 12,
 .r 74 (.ixL 1 (.t 73) (qI 0)),
 ql 75 74,
 qC 76 zp [.t 72,.t 75]])
 (qq 76
 (.seq
 (.reg 15 none [4,5] [
 .r 77 (.build [.v (.string ⟨#[]⟩),.v (.int .i64 0),.v (.slice none 0 0),.v (.slice none 0 0)] []),
 qs 4 4 77,
 qi 5 10])
 .ret)
 .skip))))
 (.reg 16 none [2,3,4,65,66,67] [
 qa 78 67,
 qm 67 78])))))))
 (.seq
 (.reg 17 (some [0,1,0,4,0,16,48,127,0,511]) [2,3,4,13] [
 qf 79 0 2,
 ql 80 79,
 qf 81 0 3,
 ql 82 81,
 qf 83 2 2,
 ql 84 83,
 qC 85 kO [.t 84],
 .r 86 (.build [.v (.string ⟨#[]⟩),.v (.int .i64 0),.v (.slice none 0 0),.v (.slice none 0 0)] [((0,1),.t 80),((1,1),.t 82),((2,1),.t 85)]),
 .r 13 (.new (.agg [.v (.string ⟨#[]⟩),.v (.int .i64 0),.v (.slice none 0 0),.v (.slice none 0 0)])),
 qs 4 13 86])
 (.seq
 (.seq
 (.reg 18 none [3,4,13,88,89,90] [
 qf 87 3 2,
 ql 88 87,
 qn 89 88,
 qi 90 0])
 (.block 4
 (.loop
 (.seq
 (.reg 19 none [3,4,13,88,89,90,91] [
 qb 91 .lss 90 89])
 (.seq
 (qq 91
 .skip
 (.exit 4))
 (.seq
 (.block 5
 (.seq
 (.reg 20 none [3,4,13,15,88,89,90] [
 qx 92 1 88 90,
 ql 93 92,
 qm 15 93])
 (.seq
 (.reg 21 (some [0,1,0,4,12,31,63,127,127,255,1023]) [3,4,13,15,16,17,88,89,90] [
 qf 95 2 3,
 ql 96 95,
 qm 97 15,
 .r 98 (.ixL 1 (.t 97) (qI 0)),
 ql 99 98,
 qC 100 zU [.t 96,.t 99],
 qm 94 100,
 .r 101 (.ex (.t 94) 0),
 .r 102 (.ex (.t 94) 1),
 qm 16 101,
 qm 17 102])
 (.seq
 (.reg 22 none [3,4,13,15,16,88,89,90,103] [
 qm 103 17])
 (qq 103
 (.reg 23 (some [0,1,0,4,0,28,60,124,252,511,1023,2047]) [3,4,13,88,89,90] [
 qf 104 3 13,
 ql 105 104,
 qf 106 2 3,
 ql 107 106,
 qm 108 16,
 qx 109 1 107 108,
 ql 110 109,
 qC 111 qX [.t 110],
 .r 112 (.bsl 1 1 [.t 111]),
 .r 113 (.app 1 24 false (.t 105) (.t 112)),
 qf 114 3 13,
 qs 1 114 113])
 (.seq
 (.reg 24 (some [0,1,0,4,12,31,63]) [3,4,13,15,88,89,90,121] [
 qf 115 1 3,
 ql 116 115,
 qm 117 15,
 .r 118 (.ixL 1 (.t 117) (qI 0)),
 ql 119 118,
 qC 120 zp [.t 116,.t 119],
 .r 121 (.un .not (.t 120))])
 (qq 121
 (.reg 25 (some [0,1,0,4,12,31,63,127]) [3,4,13,88,89,90] [
 qf 122 3 13,
 ql 123 122,
 qm 124 15,
 qC 125 qX [.t 124],
 .r 126 (.bsl 1 1 [.t 125]),
 .r 127 (.app 1 24 false (.t 123) (.t 126)),
 qf 128 3 13,
 qs 1 128 127])
 .skip)))))))
 (.reg 26 none [3,4,13,88,89,90] [
 qa 129 90,
 qm 90 129])))))))
 (.seq
 (.seq
 (.reg 27 none [4,13,131,132,133] [
 qf 130 2 3,
 ql 131 130,
 qn 132 131,
 qi 133 0])
 (.block 6
 (.loop
 (.seq
 (.reg 28 none [4,13,131,132,133,134] [
 qb 134 .lss 133 132])
 (.seq
 (qq 134
 .skip
 (.exit 6))
 (.seq
 (.block 7
 (.seq
 (.reg 29 none [4,13,19,131,132,133] [
 qx 135 1 131 133,
 ql 136 135,
 qm 19 136])
 (.seq
 (.reg 30 (some [0,1,0,4,12,31,63,127,127,255,1023]) [4,13,19,20,21,131,132,133] [
 qf 138 3 13,
 ql 139 138,
 qm 140 19,
 .r 141 (.ixL 1 (.t 140) (qI 0)),
 ql 142 141,
 qC 143 zU [.t 139,.t 142],
 qm 137 143,
 .r 144 (.ex (.t 137) 0),
 .r 145 (.ex (.t 137) 1),
 qm 20 144,
 qm 21 145])
 (.seq
 (.reg 31 none [4,13,19,20,131,132,133,147] [
 qm 146 21,
 .r 147 (.un .not (.t 146))])
 (qq 147
 (.reg 32 (some [0,1,0,0,8,24,63,127,255]) [4,13,131,132,133] [
 qf 148 3 13,
 ql 149 148,
 qm 150 20,
 qm 151 19,
 qC 152 qX [.t 151],
 .r 153 (.bsl 1 1 [.t 152]),
 qC 154 kv [.t 149,.t 150,.t 153],
 qf 155 3 13,
 qs 1 155 154])
 .skip)))))
 (.reg 33 none [4,13,131,132,133] [
 qa 156 133,
 qm 133 156])))))))
 (.seq
 (.reg 34 none [4,5] [
 qL 157 4 13,
 qs 4 4 157,
 qi 5 0])
 .ret)))))))))
def qp4:List (Nat×List Nat):=qy yN
theorem qp5:FnIR Tryz.prog wu 158 qp4 yN [(.cell 4 (some 4)),(.tmp 5)]:=
 qF Tryz.func15
def ZO:RC:=
 (.seq
 (.reg 0 none [2,3,4] [
 .r 2 (.box (.t 0)),
 .r 3 (.box (.t 1)),
 .r 4 (.new (.agg [.v (.string ⟨#[]⟩),.v (.int .i64 0),.v (.slice none 0 0),.v (.slice none 0 0)])),
 qi 5 0])
 (.seq
 (.seq
 (.reg 1 none [2,3,4,22] [
 qf 13 3 2,
 ql 14 13,
 qC 15 jg [.t 14],
 .r 16 (.un .not (.t 15)),
 qm 17 16,
 qff 18 17 2 3,
 qlf 19 17 18,
 .rf 20 17 (.call (.k (.clo jg [])) [.t 19]),
 .rf 21 17 (.un .not (.t 20)),
 qP 22 17 21])
 (qq 22
 (.seq
 (.reg 2 none [4,5] [
 .r 23 (.build [.v (.string ⟨#[]⟩),.v (.int .i64 0),.v (.slice none 0 0),.v (.slice none 0 0)] []),
 qs 4 4 23,
 qi 5 11])
 .ret)
 .skip))
 (.seq
 (.seq
 (.reg 3 none [2,3,4,6] [
 qi 6 1])
 (.block 0
 (.loop
 (.seq
 (.seq
 (.reg 4 none [2,3,4,6,28] [
 qm 24 6,
 qf 25 1 3,
 ql 26 25,
 qn 27 26,
 qb 28 .lss 24 27])
 (qq 28
 .skip
 (.exit 0)))
 (.seq
 (.block 1
 (.seq
 (.reg 6 (some [0,1,0,7,15,0,32,0,128,480,992,2047]) [2,3,4,6,42] [
 qf 31 1 3,
 ql 32 31,
 qm 33 6,
 qx 34 1 32 33,
 ql 35 34,
 qf 36 1 3,
 ql 37 36,
 qm 38 6,
 qB 39 .sub 38 1,
 qx 40 1 37 39,
 ql 41 40,
 qb 42 .leq 35 41])
 (qq 42
 (.seq
 (.reg 7 none [4,5] [
 .r 43 (.build [.v (.string ⟨#[]⟩),.v (.int .i64 0),.v (.slice none 0 0),.v (.slice none 0 0)] []),
 qs 4 4 43,
 qi 5 11])
 .ret)
 .skip)))
 (.reg 5 none [2,3,4,6] [
 qm 29 6,
 qa 30 29,
 qm 6 30]))))))
 (.seq
 (.seq
 (.reg 8 none [2,3,4,7] [
 qi 7 0])
 (.block 2
 (.loop
 (.seq
 (.seq
 (.reg 9 none [2,3,4,7,48] [
 qm 44 7,
 qf 45 2 3,
 ql 46 45,
 qn 47 46,
 qb 48 .lss 44 47])
 (qq 48
 .skip
 (.exit 2)))
 (.seq
 (.block 3
 (.seq
 (.reg 11 (some [0,1,0,7,15,31,0,64,192,448,1023]) [2,3,4,7,61] [
 qf 51 2 3,
 ql 52 51,
 qm 53 7,
 qx 54 1 52 53,
 ql 55 54,
 qn 56 55,
 qf 57 2 2,
 ql 58 57,
 qn 59 58,
 qa 60 59,
 qb 61 .neq 56 60])
 (qq 61
 (.seq
 (.reg 12 none [4,5] [
 .r 62 (.build [.v (.string ⟨#[]⟩),.v (.int .i64 0),.v (.slice none 0 0),.v (.slice none 0 0)] []),
 qs 4 4 62,
 qi 5 11])
 .ret)
 .skip)))
 (.reg 10 none [2,3,4,7] [
 qm 49 7,
 qa 50 49,
 qm 7 50]))))))
 (.seq
 (.seq
 (.reg 13 none [2,3,4,8] [
 qi 8 0])
 (.block 4
 (.loop
 (.seq
 (.seq
 (.reg 14 none [2,3,4,8,67] [
 qm 63 8,
 qf 64 1 3,
 ql 65 64,
 qn 66 65,
 qb 67 .lss 63 66])
 (qq 67
 .skip
 (.exit 4)))
 (.seq
 (.block 5
 (.seq
 (.reg 16 (some [0,1,0,4,0,28,60,127,255]) [2,3,4,8,78] [
 qf 70 3 2,
 ql 71 70,
 qf 72 1 3,
 ql 73 72,
 qm 74 8,
 qx 75 1 73 74,
 ql 76 75,
 qC 77 wc [.t 71,.t 76],
 qB 78 .lss 77 0])
 (qq 78
 (.seq
 (.reg 17 none [4,5] [
 .r 79 (.build [.v (.string ⟨#[]⟩),.v (.int .i64 0),.v (.slice none 0 0),.v (.slice none 0 0)] []),
 qs 4 4 79,
 qi 5 21])
 .ret)
 .skip)))
 (.reg 15 none [2,3,4,8] [
 qm 68 8,
 qa 69 68,
 qm 8 69]))))))
 (.seq
 (.seq
 (.reg 18 none [2,3,4,9] [
 qi 9 0])
 (.block 6
 (.loop
 (.seq
 (.seq
 (.reg 19 none [2,3,4,9,84] [
 qm 80 9,
 qf 81 1 3,
 ql 82 81,
 qn 83 82,
 qb 84 .lss 80 83])
 (qq 84
 .skip
 (.exit 6)))
 (.seq
 (.block 7
 (.seq
 (.reg 21 (some [0,1,0,4,0,28,60,127,255]) [2,3,4,9,95] [
 qf 87 2 3,
 ql 88 87,
 qf 89 1 3,
 ql 90 89,
 qm 91 9,
 qx 92 1 90 91,
 ql 93 92,
 qC 94 wc [.t 88,.t 93],
 qB 95 .geq 94 0])
 (qq 95
 (.seq
 (.reg 22 none [4,5] [
 .r 96 (.build [.v (.string ⟨#[]⟩),.v (.int .i64 0),.v (.slice none 0 0),.v (.slice none 0 0)] []),
 qs 4 4 96,
 qi 5 10])
 .ret)
 .skip)))
 (.reg 20 none [2,3,4,9] [
 qm 85 9,
 qa 86 85,
 qm 9 86]))))))
 (.seq
 (.reg 23 none [2,3,4,10] [
 qf 97 0 2,
 ql 98 97,
 qf 99 0 3,
 ql 100 99,
 qf 101 2 2,
 ql 102 101,
 .r 103 (.build [.v (.string ⟨#[]⟩),.v (.int .i64 0),.v (.slice none 0 0),.v (.slice none 0 0)] [((0,1),.t 98),((1,1),.t 100),((2,1),.t 102)]),
 .r 10 (.new (.agg [.v (.string ⟨#[]⟩),.v (.int .i64 0),.v (.slice none 0 0),.v (.slice none 0 0)])),
 qs 4 10 103])
 (.seq
 (.seq
 (.reg 24 none [2,3,4,10,11] [
 qi 11 0])
 (.block 8
 (.loop
 (.seq
 (.seq
 (.reg 25 none [2,3,4,10,11,108] [
 qm 104 11,
 qf 105 3 2,
 ql 106 105,
 qn 107 106,
 qb 108 .lss 104 107])
 (qq 108
 .skip
 (.exit 8)))
 (.seq
 (.block 9
 (.seq
 (.reg 27 (some [0,1,0,4,0,28,60,124,252,511,1023]) [2,3,4,10,11,121] [
 qf 111 1 3,
 ql 112 111,
 qf 113 3 2,
 ql 114 113,
 qm 115 11,
 qx 116 1 114 115,
 ql 117 116,
 .r 118 (.ixL 1 (.t 117) (qI 0)),
 ql 119 118,
 qC 120 jP [.t 112,.t 119],
 .r 121 (.un .not (.t 120))])
 (qq 121
 (.reg 28 (some [0,1,0,4,0,28,60,124,255,511,1023]) [2,3,4,10,11] [
 qf 122 3 10,
 ql 123 122,
 qf 124 3 2,
 ql 125 124,
 qm 126 11,
 qx 127 1 125 126,
 ql 128 127,
 .r 129 (.bsl 1 1 [.t 128]),
 .r 130 (.app 1 24 false (.t 123) (.t 129)),
 qf 131 3 10,
 qs 1 131 130])
 .skip)))
 (.reg 26 none [2,3,4,10,11] [
 qm 109 11,
 qa 110 109,
 qm 11 110]))))))
 (.seq
 (.seq
 (.reg 29 none [3,4,10,12] [
 qi 12 0])
 (.block 10
 (.loop
 (.seq
 (.seq
 (.reg 30 none [3,4,10,12,136] [
 qm 132 12,
 qf 133 2 3,
 ql 134 133,
 qn 135 134,
 qb 136 .lss 132 135])
 (qq 136
 .skip
 (.exit 10)))
 (.seq
 (.block 11
 (.reg 32 (some [0,1,0,4,0,28,60,127,255,511]) [3,4,10,12] [
 qf 139 3 10,
 ql 140 139,
 qf 141 2 3,
 ql 142 141,
 qm 143 12,
 qx 144 1 142 143,
 ql 145 144,
 qC 146 yd [.t 140,.t 145],
 qf 147 3 10,
 qs 1 147 146]))
 (.reg 31 none [3,4,10,12] [
 qm 137 12,
 qa 138 137,
 qm 12 138]))))))
 (.seq
 (.reg 33 none [4,5] [
 qL 148 4 10,
 qs 4 4 148,
 qi 5 0])
 .ret))))))))))
def qC0:List (Nat×List Nat):=qy ZO
theorem qC1:FnIR Tryz.prog Kc 149 qC0 ZO [(.cell 4 (some 4)),(.tmp 5)]:=
 qF Tryz.func16
def Kn:RC:=
 (.seq
 (.reg 0 none [2,3] [
 .r 2 (.box (.t 0)),
 .r 3 (.box (.t 1)),
 qc 4 false])
 (.seq
 (.reg 1 none [4] [
 qf 5 0 2,
 ql 6 5,
 qf 7 0 3,
 ql 8 7,
 qb 9 .eql 6 8,
 qm 10 9,
 qft 11 10 1 2,
 qlt 12 10 11,
 qft 13 10 1 3,
 qlt 14 10 13,
 .rt 15 10 (.bin .eql false (.t 12) (.t 14)),
 qp 16 10 15,
 qm 17 16,
 qft 18 17 2 2,
 qlt 19 17 18,
 qft 20 17 2 3,
 qlt 21 17 20,
 .rt 22 17 (.call (.k (.clo jZ [])) [.t 19,.t 21]),
 qp 23 17 22,
 qm 24 23,
 qft 25 24 3 2,
 qlt 26 24 25,
 qft 27 24 3 3,
 qlt 28 24 27,
 .rt 29 24 (.call (.k (.clo Zv [])) [.t 26,.t 28]),
 qp 30 24 29,
 qm 4 30])
 .ret))
def qQ5:List (Nat×List Nat):=qy Kn
theorem qQ6:FnIR Tryz.prog yE 31 qQ5 Kn [(.tmp 4)]:=
 qF Tryz.func17
def YV:RC:=
 (.seq
 (.reg 0 none [0] [
 .r 2 (.mv (.k (.v (.pointer none))))])
 (.seq
 (.reg 1 none [2] [
 qm 3 0,
 qm 4 0,
 qn 5 4,
 .r 6 (.mn [.t 5,qI 400]),
 .r 7 (.slL 1 (.t 3) none (some (.t 6))),
 .r 8 (.build [.v (.slice none 0 0),.v (.int .i64 0)] [((0,1),.t 7)]),
 .r 9 (.box (.t 8)),
 qm 2 9])
 .ret))
def zn3:List (Nat×List Nat):=qy YV
theorem zn4:FnIR Tryz.prog qk7 10 zn3 YV [(.tmp 2)]:=
 qF Tryz.func18
def kA:RC:=
 (.seq
 (.reg 0 none [0,1,4] [
 .r 4 (.new (.agg [.v (.slice none 0 0),.v (.slice none 0 0),.v (.slice none 0 0),.v (.slice none 0 0),.v (.int .i64 0)]))])
 (.seq
 (.reg 1 none [0,1,4,5] [
 qm 8 0,
 qC 9 kP [.t 8],
 .r 5 (.new (.agg [.v (.slice none 0 0),.v (.slice none 0 0)])),
 qs 2 5 9])
 (.seq
 (.reg 2 none [0,1,4,5,6] [
 qL 10 2 5,
 .r 11 (.build [.v (.slice none 0 0),.v (.slice none 0 0),.v (.slice none 0 0),.v (.slice none 0 0),.v (.int .i64 0)] [((0,2),.t 10)]),
 .r 6 (.new (.agg [.v (.slice none 0 0),.v (.slice none 0 0),.v (.slice none 0 0),.v (.slice none 0 0),.v (.int .i64 0)])),
 qs 5 6 11])
 (.seq
 (.seq
 (.reg 3 none [0,4,5,6,7] [
 qm 12 0,
 qm 13 1,
 qa 14 13,
 qC 15 qo [.t 12,.t 14],
 qm 7 15])
 (.block 0
 (.loop
 (.seq
 (.seq
 (.reg 4 none [0,4,5,6,7,17] [
 qm 16 7,
 qB 17 .gtr 16 0])
 (qq 17
 .skip
 (.exit 0)))
 (.seq
 (.block 1
 (.reg 6 (some [0,1,0,0,12,31,63,127]) [0,4,5,6,7] [
 qf 20 2 6,
 ql 21 20,
 qm 22 0,
 qL 23 2 5,
 qC 24 zL [.t 22,.t 23],
 qC 25 yd [.t 21,.t 24],
 qf 26 2 6,
 qs 1 26 25]))
 (.reg 5 none [0,4,5,6,7] [
 qm 18 7,
 qB 19 .sub 18 1,
 qm 7 19]))))))
 (.seq
 (.reg 7 none [4] [
 qL 27 5 6,
 qs 5 4 27])
 .ret)))))
def Ym:List (Nat×List Nat):=qy kA
theorem Yn:FnIR Tryz.prog zD 28 Ym kA [(.cell 4 (some 5))]:=
 qF Tryz.func19
def zY:RC:=
 (.seq
 (.reg 0 none [0,3,4] [
 .r 3 (.box (.t 1)),
 .r 4 (.new (.agg [.v (.string ⟨#[]⟩),.v (.string ⟨#[]⟩),.v (.int .i64 0),.v (.int .i64 0),.v (.int .i64 0),.v (.int .i64 0),.v (.int .i64 0),.v (.slice none 0 0),.v (.int .i64 0),.v (.int .i64 0),.v (.int .i64 0),.v (.slice none 0 0)]))])
 (.seq
 (.reg 1 (some [0,1,3,7,0,0,55,0,247,503,1023,0,4095]) [0,3,4,5] [
 qm 7 0,
 qC 8 qo [.t 7,qI 3],
 qC 9 zV [.t 8],
 .r 10 (.bin .add false (.k (.v (.string ⟨#[112]⟩))) (.t 9)),
 qm 11 0,
 qL 12 2 3,
 qC 13 qK [.t 11,.t 12,qI 1],
 qm 14 0,
 qC 15 qo [.t 14,qI 999],
 .r 16 (.build [.v (.int .i64 0),.v (.int .i64 0),.v (.int .i64 0)] [((0,1),qI 1),((1,1),qI 1),((2,1),.t 15)]),
 .r 17 (.build [.v (.string ⟨#[]⟩),.v (.string ⟨#[]⟩),.v (.int .i64 0),.v (.int .i64 0),.v (.int .i64 0),.v (.int .i64 0),.v (.int .i64 0),.v (.slice none 0 0),.v (.int .i64 0),.v (.int .i64 0),.v (.int .i64 0),.v (.slice none 0 0)] [((0,1),.t 10),((1,1),.k (.v (.string ⟨#[115,114,99]⟩))),((2,6),.t 13),((8,3),.t 16)]),
 .r 5 (.new (.agg [.v (.string ⟨#[]⟩),.v (.string ⟨#[]⟩),.v (.int .i64 0),.v (.int .i64 0),.v (.int .i64 0),.v (.int .i64 0),.v (.int .i64 0),.v (.slice none 0 0),.v (.int .i64 0),.v (.int .i64 0),.v (.int .i64 0),.v (.slice none 0 0)])),
 qs 12 5 17])
 (.seq
 (.seq
 (.reg 2 none [0,3,4,5,19] [
 qm 18 0,
 qC 19 qG [.t 18,qI 3]])
 (qq 19
 (.reg 3 none [0,3,4,5] [
 .r 20 (.build [.v (.int .i64 0),.v (.int .i64 0),.v (.int .i64 0),.v (.int .i64 0),.v (.int .i64 0),.v (.slice none 0 0)] [((0,1),qI 1)]),
 qf 21 2 5,
 qs 6 21 20])
 .skip))
 (.seq
 (.seq
 (.reg 4 none [0,3,4,5,23] [
 qm 22 0,
 qC 23 qG [.t 22,qI 3]])
 (qq 23
 (.seq
 (.reg 5 none [0,3,4,5] [
 qm 24 0,
 qC 25 qz [.t 24,qI 2,qI 5],
 qf 26 8 5,
 qf 27 1 26,
 qs 1 27 25])
 (.reg 6 none [0,3,4,5] [
 qm 28 0,
 qf 29 8 5,
 qf 30 1 29,
 ql 31 30,
 qC 32 qz [.t 28,qI 1,.t 31],
 qf 33 8 5,
 qf 34 0 33,
 qs 1 34 32]))
 .skip))
 (.seq
 (.seq
 (.reg 7 none [0,3,4,5,6] [
 qm 35 0,
 qC 36 qz [.t 35,qI 1,qI 3],
 qm 6 36])
 (.block 0
 (.loop
 (.seq
 (.seq
 (.reg 8 none [0,3,4,5,6,38] [
 qm 37 6,
 qB 38 .gtr 37 0])
 (qq 38
 .skip
 (.exit 0)))
 (.seq
 (.block 1
 (.reg 10 (some [0,1,0,0,0,16,48,124,252,511,1023,2047]) [0,3,4,5,6] [
 qf 41 11 5,
 ql 42 41,
 qm 43 0,
 qL 44 2 3,
 qm 45 6,
 qC 46 zV [.t 45],
 .r 47 (.bin .add false (.k (.v (.string ⟨#[113]⟩))) (.t 46)),
 qC 48 jQ [.t 43,.t 44,.t 47],
 .r 49 (.bsl 17 1 [.t 48]),
 .r 50 (.app 17 208 false (.t 42) (.t 49)),
 qf 51 11 5,
 qs 1 51 50]))
 (.reg 9 none [0,3,4,5,6] [
 qm 39 6,
 qB 40 .sub 39 1,
 qm 6 40]))))))
 (.seq
 (.reg 11 none [4] [
 qL 52 12 5,
 qs 12 4 52])
 .ret))))))
def ZP:List (Nat×List Nat):=qy zY
theorem ZQ:FnIR Tryz.prog jf 53 ZP zY [(.cell 4 (some 12))]:=
 qF Tryz.func20
def Ko:RC:=
 (.seq
 (.reg 0 none [2,3] [
 .r 2 (.box (.t 0)),
 .r 3 (.box (.t 1)),
 .r 4 (.mv (qN)),
 qi 5 0])
 (.seq
 (.seq
 (.reg 1 none [2,3,6] [
 qL 11 2 2,
 qL 12 12 3,
 qC 13 wx [.t 11,.t 12],
 qm 6 13])
 (.seq
 (.reg 2 none [2,3,6,15] [
 qm 14 6,
 qB 15 .neq 14 0])
 (qq 15
 (.seq
 (.reg 3 none [4,5] [
 qm 16 6,
 .r 4 (.mv (qN)),
 qm 5 16])
 .ret)
 .skip)))
 (.seq
 (.reg 4 none [2,3,7] [
 .r 7 (.mv (qN))])
 (.seq
 (.seq
 (.reg 5 none [2,3,7,8] [
 qi 8 0])
 (.block 0
 (.loop
 (.seq
 (.seq
 (.reg 6 none [2,3,7,8,21] [
 qm 17 8,
 qf 18 11 3,
 ql 19 18,
 qn 20 19,
 qb 21 .lss 17 20])
 (qq 21
 .skip
 (.exit 0)))
 (.seq
 (.block 1
 (.seq
 (.reg 8 (some [0,0,2,0,14,30,63,127]) [2,3,7,8,9] [
 qL 24 2 2,
 qf 25 11 3,
 ql 26 25,
 qm 27 8,
 qx 28 17 26 27,
 qL 29 17 28,
 qC 30 Ql [.t 24,.t 29],
 qm 9 30])
 (.seq
 (.reg 9 none [2,3,7,8,9,10] [
 qi 10 0])
 (.block 2
 (.loop
 (.seq
 (.seq
 (.reg 10 none [2,3,7,8,9,10,34] [
 qm 31 10,
 qm 32 9,
 qn 33 32,
 qb 34 .lss 31 33])
 (qq 34
 .skip
 (.exit 2)))
 (.seq
 (.block 3
 (.reg 12 (some [0,0,0,6,14,30,0,0,192,448,960,2047,4095]) [2,3,7,8,9,10] [
 qm 37 7,
 qm 38 9,
 qm 39 10,
 qx 40 2 38 39,
 qf 41 0 40,
 ql 42 41,
 qm 43 9,
 qm 44 10,
 qx 45 2 43 44,
 qf 46 1 45,
 ql 47 46,
 qC 48 jn [.t 37,.t 42,.t 47],
 qm 7 48]))
 (.reg 11 none [2,3,7,8,9,10] [
 qm 35 10,
 qa 36 35,
 qm 10 36]))))))))
 (.reg 7 none [2,3,7,8] [
 qm 22 8,
 qa 23 22,
 qm 8 23]))))))
 (.seq
 (.reg 13 none [4,5] [
 qm 49 7,
 qm 4 49,
 qi 5 0])
 .ret)))))
def qQ7:List (Nat×List Nat):=qy Ko
theorem qQ8:FnIR Tryz.prog Wq 50 qQ7 Ko [(.tmp 4),(.tmp 5)]:=
 qF Tryz.func21
def kB:RC:=
 (.seq
 (.reg 0 none [0] [
 qi 2 0])
 (.seq
 (.reg 1 none [2] [
 qm 3 0,
 qC 4 qo [.t 3,qI 60000],
 qm 5 0,
 qC 6 qo [.t 5,qI 60000],
 qb 7 .mul 4 6,
 qm 8 0,
 qC 9 qo [.t 8,qI 7],
 qb 10 .add 7 9,
 qm 2 10])
 .ret))
def Yo:List (Nat×List Nat):=qy kB
theorem Yp:FnIR Tryz.prog kM 11 Yo kB [(.tmp 2)]:=
 qF Tryz.func22
def kQ:RC:=
 (.seq
 (.reg 0 none [0,2,4] [
 .r 4 (.box (.t 1)),
 .r 6 (.mv (qN))])
 (.seq
 (.reg 1 none [0,2,4,7] [
 .r 7 (.mv (qN))])
 (.seq
 (.seq
 (.reg 2 none [0,4,7,8] [
 qm 12 0,
 qm 13 2,
 qa 14 13,
 qC 15 qo [.t 12,.t 14],
 qm 8 15])
 (.block 0
 (.loop
 (.seq
 (.seq
 (.reg 3 none [0,4,7,8,17] [
 qm 16 8,
 qB 17 .gtr 16 0])
 (qq 17
 .skip
 (.exit 0)))
 (.seq
 (.block 1
 (.seq
 (.reg 5 none [0,4,7,8,9] [
 qm 20 0,
 qL 21 5 4,
 qC 22 ye [.t 20,.t 21],
 .r 9 (.new (.agg [.v (.int .i64 0),.v (.slice none 0 0),.v (.int .i64 0)])),
 qs 3 9 22])
 (.seq
 (.reg 6 none [0,4,7,8,9,10,11] [
 qL 24 5 4,
 qL 25 3 9,
 qC 26 Qm [.t 24,.t 25],
 qm 23 26,
 .r 27 (.ex (.t 23) 0),
 .r 28 (.ex (.t 23) 1),
 .r 10 (.new (.agg [.v (.slice none 0 0),.v (.slice none 0 0),.v (.slice none 0 0),.v (.slice none 0 0),.v (.int .i64 0)])),
 qs 5 10 27,
 qm 11 28])
 (.seq
 (.reg 7 none [0,4,7,8,9,10,30] [
 qm 29 11,
 qB 30 .eql 29 0])
 (qq 30
 (.seq
 (.reg 8 none [0,4,7,8,9] [
 qL 31 5 10,
 qs 5 4 31])
 (.reg 9 none [0,4,7,8] [
 qm 32 7,
 qL 33 3 9,
 .r 34 (.bsl 3 1 [.t 33]),
 .r 35 (.app 3 40 false (.t 32) (.t 34)),
 qm 7 35]))
 .skip)))))
 (.reg 4 none [0,4,7,8] [
 qm 18 8,
 qB 19 .sub 18 1,
 qm 8 19]))))))
 (.seq
 (.reg 10 none [6] [
 qm 36 7,
 qm 6 36])
 .ret))))
def YW:List (Nat×List Nat):=qy kQ
theorem YX:FnIR Tryz.prog zQ 37 YW kQ [(.tmp 6)]:=
 qF Tryz.func23
def YY:RC:=
 (.seq
 (.reg 0 none [1,2,3,6] [
 .r 3 (.box (.t 0)),
 .r 6 (.new (.agg [.v (.slice none 0 0),.v (.slice none 0 0),.v (.slice none 0 0),.v (.slice none 0 0),.v (.int .i64 0)])),
 qi 7 0])
 (.seq
 (.seq
 (.reg 1 none [1,2,3,6,18] [
 qm 11 2,
 qB 12 .lss 11 0,
 qm 13 12,
 qmf 14 13 2,
 qmf 15 13 1,
 .rf 16 13 (.lenL (.t 15)),
 .rf 17 13 (.bin .gtr false (.t 14) (.t 16)),
 qP 18 13 17])
 (qq 18
 (.seq
 (.reg 2 none [6,7] [
 .r 19 (.build [.v (.slice none 0 0),.v (.slice none 0 0),.v (.slice none 0 0),.v (.slice none 0 0),.v (.int .i64 0)] []),
 qs 5 6 19,
 qi 7 13])
 .ret)
 .skip))
 (.seq
 (.seq
 (.reg 3 none [1,2,3,6,8] [
 qi 8 0])
 (.block 0
 (.loop
 (.seq
 (.seq
 (.reg 4 none [1,2,3,6,8,22] [
 qm 20 8,
 qm 21 2,
 qb 22 .lss 20 21])
 (qq 22
 .skip
 (.exit 0)))
 (.seq
 (.block 1
 (.seq
 (.reg 6 (some [0,0,0,6,14,31,63,127,127,0,767,2047]) [1,2,3,6,8,9,10] [
 qL 26 5 3,
 qm 27 1,
 qm 28 8,
 qx 29 3 27 28,
 qL 30 3 29,
 qC 31 Qm [.t 26,.t 30],
 qm 25 31,
 .r 32 (.ex (.t 25) 0),
 .r 33 (.ex (.t 25) 1),
 .r 9 (.new (.agg [.v (.slice none 0 0),.v (.slice none 0 0),.v (.slice none 0 0),.v (.slice none 0 0),.v (.int .i64 0)])),
 qs 5 9 32,
 qm 10 33])
 (.seq
 (.seq
 (.reg 7 none [1,2,3,6,8,9,10,35] [
 qm 34 10,
 qB 35 .neq 34 0])
 (qq 35
 (.seq
 (.reg 8 none [6,7] [
 .r 36 (.build [.v (.slice none 0 0),.v (.slice none 0 0),.v (.slice none 0 0),.v (.slice none 0 0),.v (.int .i64 0)] []),
 qm 37 10,
 qs 5 6 36,
 qm 7 37])
 .ret)
 .skip))
 (.reg 9 none [1,2,3,6,8] [
 qL 38 5 9,
 qs 5 3 38]))))
 (.reg 5 none [1,2,3,6,8] [
 qm 23 8,
 qa 24 23,
 qm 8 24]))))))
 (.seq
 (.reg 10 none [6,7] [
 qL 39 5 3,
 qs 5 6 39,
 qi 7 0])
 .ret))))
def zn5:List (Nat×List Nat):=qy YY
theorem zn6:FnIR Tryz.prog qk8 40 zn5 YY [(.cell 6 (some 5)),(.tmp 7)]:=
 qF Tryz.func24
def ZR:RC:=
 (.seq
 (.reg 0 none [2,3,4,5,8] [
 .r 4 (.box (.t 0)),
 .r 5 (.box (.t 1)),
 .r 8 (.new (.agg [.v (.string ⟨#[]⟩),.v (.int .i64 0),.v (.slice none 0 0),.v (.slice none 0 0)])),
 qi 9 0])
 (.seq
 (.seq
 (.reg 1 none [2,3,4,5,8,19] [
 qL 17 5 4,
 qC 18 wy [.t 17],
 .r 19 (.un .not (.t 18))])
 (qq 19
 (.seq
 (.reg 2 none [8,9] [
 .r 20 (.build [.v (.string ⟨#[]⟩),.v (.int .i64 0),.v (.slice none 0 0),.v (.slice none 0 0)] []),
 qs 4 8 20,
 qi 9 13])
 .ret)
 .skip))
 (.seq
 (.seq
 (.reg 3 none [2,3,4,5,8,10] [
 qf 21 0 4,
 qL 22 2 21,
 qL 23 12 5,
 qm 24 2,
 qC 25 Kd [.t 22,.t 23,.t 24],
 qm 10 25])
 (.seq
 (.reg 4 none [2,3,4,5,8,10,27] [
 qm 26 10,
 qB 27 .neq 26 0])
 (qq 27
 (.seq
 (.reg 5 none [8,9] [
 .r 28 (.build [.v (.string ⟨#[]⟩),.v (.int .i64 0),.v (.slice none 0 0),.v (.slice none 0 0)] []),
 qm 29 10,
 qs 4 8 28,
 qm 9 29])
 .ret)
 .skip)))
 (.seq
 (.seq
 (.reg 6 none [2,3,4,5,8,35] [
 qm 30 3,
 qB 31 .lss 30 0,
 qm 32 31,
 qmf 33 32 3,
 .rf 34 32 (.bin .geq false (.t 33) (qI 1152921504606846976)),
 qP 35 32 34])
 (qq 35
 (.seq
 (.reg 7 none [8,9] [
 .r 36 (.build [.v (.string ⟨#[]⟩),.v (.int .i64 0),.v (.slice none 0 0),.v (.slice none 0 0)] []),
 qs 4 8 36,
 qi 9 2])
 .ret)
 .skip))
 (.seq
 (.reg 8 (some [0,1,0,4,0,16,63,0,255]) [2,3,4,5,8,11] [
 qf 37 0 5,
 ql 38 37,
 qf 39 4 4,
 ql 40 39,
 qm 41 2,
 .r 42 (.app 2 16 false (qN) (.t 41)),
 .r 43 (.build [.v (.string ⟨#[]⟩),.v (.int .i64 0),.v (.slice none 0 0),.v (.slice none 0 0)] [((0,1),.t 38),((1,1),.t 40),((2,1),.t 42)]),
 .r 11 (.new (.agg [.v (.string ⟨#[]⟩),.v (.int .i64 0),.v (.slice none 0 0),.v (.slice none 0 0)])),
 qs 4 11 43])
 (.seq
 (.reg 9 none [2,3,4,8,11,12] [
 qL 44 5 4,
 qL 45 12 5,
 qC 46 ZJ [.t 44,.t 45],
 qm 12 46])
 (.seq
 (.seq
 (.reg 10 none [2,3,4,8,11,12,13] [
 qi 13 0])
 (.block 0
 (.loop
 (.seq
 (.seq
 (.reg 11 none [2,3,4,8,11,12,13,50] [
 qm 47 13,
 qm 48 12,
 qn 49 48,
 qb 50 .lss 47 49])
 (qq 50
 .skip
 (.exit 0)))
 (.seq
 (.block 1
 (.seq
 (.reg 13 (some [0,1,0,0,0,24,56,124,255,511,1023]) [2,3,4,8,11,12,13,14] [
 qf 53 2 4,
 ql 54 53,
 qL 55 5 4,
 qm 56 12,
 qm 57 13,
 qx 58 1 56 57,
 ql 59 58,
 qC 60 wd [.t 55,.t 59],
 qx 61 1 54 60,
 ql 62 61,
 qm 14 62])
 (.seq
 (.reg 14 none [2,3,4,8,11,12,13,14,15] [
 qm 63 3,
 qm 64 12,
 qm 65 13,
 qx 66 1 64 65,
 ql 67 66,
 qC 68 YS [.t 63,.t 67],
 .r 69 (.bsl 1 1 [.t 68]),
 qm 15 69])
 (.seq
 (.seq
 (.reg 15 none [2,3,4,8,11,12,13,14,15,16] [
 qi 16 0])
 (.block 2
 (.loop
 (.seq
 (.seq
 (.reg 16 none [2,3,4,8,11,12,13,14,15,16,73] [
 qm 70 16,
 qm 71 2,
 qn 72 71,
 qb 73 .lss 70 72])
 (qq 73
 .skip
 (.exit 2)))
 (.seq
 (.block 3
 (.reg 18 (some [0,0,2,0,0,24,56,120,0,0,768,1792,3840,0,0,0,49152,114688,245760,516096,1040384,2097150,4194302,8388607,16777215]) [2,3,4,8,11,12,13,14,15,16] [
 qm 76 15,
 qf 77 0 4,
 qL 78 2 77,
 qm 79 2,
 qm 80 16,
 qx 81 2 79 80,
 qf 82 0 81,
 ql 83 82,
 qm 84 2,
 qm 85 16,
 qx 86 2 84 85,
 qf 87 1 86,
 ql 88 87,
 qm 89 14,
 qm 90 2,
 qm 91 16,
 qx 92 2 90 91,
 qf 93 0 92,
 ql 94 93,
 qx 95 1 89 94,
 ql 96 95,
 qC 97 zl [.t 78,.t 83,.t 88,.t 96],
 .r 98 (.bsl 1 1 [.t 97]),
 .r 99 (.app 1 8 false (.t 76) (.t 98)),
 qm 15 99]))
 (.reg 17 none [2,3,4,8,11,12,13,14,15,16] [
 qm 74 16,
 qa 75 74,
 qm 16 75]))))))
 (.reg 19 none [2,3,4,8,11,12,13] [
 qf 100 3 11,
 ql 101 100,
 qm 102 15,
 qC 103 yd [.t 101,.t 102],
 qf 104 3 11,
 qs 1 104 103])))))
 (.reg 12 none [2,3,4,8,11,12,13] [
 qm 51 13,
 qa 52 51,
 qm 13 52]))))))
 (.seq
 (.reg 20 none [8,9] [
 qL 105 4 11,
 qs 4 8 105,
 qi 9 0])
 .ret))))))))
def qC2:List (Nat×List Nat):=qy ZR
theorem qC3:FnIR Tryz.prog Qk 106 qC2 ZR [(.cell 8 (some 4)),(.tmp 9)]:=
 qF Tryz.func25
def QU:RC:=
 (.seq
 (.reg 0 none [1] [
 .r 1 (.box (.t 0)),
 .r 2 (.mv (qN))])
 (.seq
 (.reg 1 none [1,3] [
 qf 6 1 1,
 ql 7 6,
 qC 8 qX [.t 7],
 qm 3 8])
 (.seq
 (.seq
 (.reg 2 none [3,10,11,12] [
 qf 9 2 1,
 ql 10 9,
 qn 11 10,
 qi 12 0])
 (.block 0
 (.loop
 (.seq
 (.reg 3 none [3,10,11,12,13] [
 qb 13 .lss 12 11])
 (.seq
 (qq 13
 .skip
 (.exit 0))
 (.seq
 (.block 1
 (.seq
 (.reg 4 none [3,5,10,11,12] [
 qx 14 1 10 12,
 ql 15 14,
 qm 5 15])
 (.seq
 (.reg 5 none [3,5,10,11,12,18] [
 qm 16 5,
 qn 17 16,
 qB 18 .gtr 17 0])
 (qq 18
 (.reg 6 none [3,10,11,12] [
 qm 19 3,
 qm 20 5,
 .r 21 (.ixL 1 (.t 20) (qI 0)),
 ql 22 21,
 .r 23 (.bsl 1 1 [.t 22]),
 .r 24 (.app 1 8 false (.t 19) (.t 23)),
 qm 3 24])
 .skip))))
 (.reg 7 none [3,10,11,12] [
 qa 25 12,
 qm 12 25])))))))
 (.seq
 (.reg 8 none [2] [
 qm 26 3,
 qC 27 Ke [.t 26],
 qm 2 27])
 .ret))))
def qv9:List (Nat×List Nat):=qy QU
theorem qw0:FnIR Tryz.prog yw 28 qv9 QU [(.tmp 2)]:=
 qF Tryz.func26
def yO:RC:=
 (.seq
 (.reg 0 none [1,2] [
 .r 2 (.box (.t 0)),
 qc 4 false])
 (.seq
 (.reg 1 none [1,5] [
 qL 6 3 2,
 qC 7 yw [.t 6],
 .r 5 (.new (.v (.slice none 0 0))),
 qs 1 5 7])
 (.seq
 (.reg 2 none [4] [
 qm 8 1,
 .r 9 (.mf ke [.t 5]),
 qC 10 zW [.t 8,.t 9],
 qm 4 10])
 .ret)))
def qp6:List (Nat×List Nat):=qy yO
theorem qp7:FnIR Tryz.prog wv 11 qp6 yO [(.tmp 4)]:=
 qF Tryz.func27
def Kp:RC:=
 (.seq
 (.reg 0 none [0,1] [
 qc 4 false])
 (.seq
 (.seq
 (.reg 1 none [0,1,10] [
 qm 6 0,
 qn 7 6,
 qm 8 1,
 qn 9 8,
 qb 10 .neq 7 9])
 (qq 10
 (.seq
 (.reg 2 none [4] [
 qc 4 false])
 .ret)
 .skip))
 (.seq
 (.seq
 (.reg 3 none [0,1,5] [
 qi 5 0])
 (.block 0
 (.loop
 (.seq
 (.seq
 (.reg 4 none [0,1,5,14] [
 qm 11 5,
 qm 12 0,
 qn 13 12,
 qb 14 .lss 11 13])
 (qq 14
 .skip
 (.exit 0)))
 (.seq
 (.block 1
 (.seq
 (.reg 6 (some [0,0,3,7,0,0,48,112,255]) [0,1,5,25] [
 qm 17 0,
 qm 18 5,
 qx 19 1 17 18,
 ql 20 19,
 qm 21 1,
 qm 22 5,
 qx 23 1 21 22,
 ql 24 23,
 qb 25 .neq 20 24])
 (qq 25
 (.seq
 (.reg 7 none [4] [
 qc 4 false])
 .ret)
 .skip)))
 (.reg 5 none [0,1,5] [
 qm 15 5,
 qa 16 15,
 qm 5 16]))))))
 (.seq
 (.reg 8 none [4] [
 qc 4 true])
 .ret))))
def qQ9:List (Nat×List Nat):=qy Kp
theorem qR0:FnIR Tryz.prog jO 26 qQ9 Kp [(.tmp 4)]:=
 qF Tryz.func28
def WB:RC:=
 (.seq
 (.reg 0 none [0,1] [
 qc 4 false])
 (.seq
 (.seq
 (.reg 1 none [0,1,5] [
 qi 5 0])
 (.block 0
 (.loop
 (.seq
 (.seq
 (.reg 2 none [0,1,5,9] [
 qm 6 5,
 qm 7 0,
 qn 8 7,
 qb 9 .lss 6 8])
 (qq 9
 .skip
 (.exit 0)))
 (.seq
 (.block 1
 (.seq
 (.reg 4 none [0,1,5,17] [
 qm 12 0,
 qm 13 5,
 qx 14 1 12 13,
 ql 15 14,
 qm 16 1,
 qb 17 .eql 15 16])
 (qq 17
 (.seq
 (.reg 5 none [4] [
 qc 4 true])
 .ret)
 .skip)))
 (.reg 3 none [0,1,5] [
 qm 10 5,
 qa 11 10,
 qm 5 11]))))))
 (.seq
 (.reg 6 none [4] [
 qc 4 false])
 .ret)))
def zf5:List (Nat×List Nat):=qy WB
theorem zf6:FnIR Tryz.prog jP 18 zf5 WB [(.tmp 4)]:=
 qF Tryz.func33
def wG:RC:=
 (.seq
 (.reg 0 none [0] [
 qc 2 false])
 (.seq
 (.seq
 (.reg 1 none [0,5,6,7] [
 qm 5 0,
 qn 6 5,
 qi 7 0])
 (.block 0
 (.loop
 (.seq
 (.reg 2 none [0,5,6,7,8] [
 qb 8 .lss 7 6])
 (.seq
 (qq 8
 .skip
 (.exit 0))
 (.seq
 (.block 1
 (.seq
 (.reg 3 none [0,3,4,5,6,7] [
 qm 9 7,
 qx 10 1 5 7,
 ql 11 10,
 qm 3 9,
 qm 4 11])
 (.seq
 (.reg 4 (some [0,1,3,7,15,31,63,127,255,511,127,127,2175,7295,15487,31871,64639,131071,262143,524287]) [0,5,6,7,31] [
 qm 12 4,
 qn 13 12,
 qB 14 .eql 13 0,
 qm 15 14,
 qmf 16 15 3,
 .rf 17 15 (.bin .gtr false (.t 16) (qI 0)),
 qmf 18 15 17,
 qmt 19 18 4,
 .rt 20 18 (.ixL 1 (.t 19) (qI 0)),
 qlt 21 18 20,
 qmt 22 18 0,
 qmt 23 18 3,
 .rt 24 18 (.bin .sub false (.t 23) (qI 1)),
 .rt 25 18 (.ixL 1 (.t 22) (.t 24)),
 qlt 26 18 25,
 .rt 27 18 (.ixL 1 (.t 26) (qI 0)),
 qlt 28 18 27,
 .rt 29 18 (.bin .leq false (.t 21) (.t 28)),
 .rf 30 15 (.pick (.t 18) (.t 29) (.k (.v (.bool false)))),
 qP 31 15 30])
 (qq 31
 (.seq
 (.reg 5 none [2] [
 qc 2 false])
 .ret)
 .skip))))
 (.reg 6 none [0,5,6,7] [
 qa 32 7,
 qm 7 32])))))))
 (.seq
 (.reg 7 none [2] [
 qc 2 true])
 .ret)))
def qe7:List (Nat×List Nat):=qy wG
theorem qe8:FnIR Tryz.prog zz 33 qe7 wG [(.tmp 2)]:=
 qF Tryz.func35
def kC:RC:=
 (.seq
 (.reg 0 none [0,1] [
 qc 4 false])
 (.seq
 (.seq
 (.reg 1 none [0,1,10] [
 qm 6 0,
 qn 7 6,
 qm 8 1,
 qn 9 8,
 qb 10 .neq 7 9])
 (qq 10
 (.seq
 (.reg 2 none [4] [
 qc 4 false])
 .ret)
 .skip))
 (.seq
 (.seq
 (.reg 3 none [0,1,12,13] [
 qm 11 0,
 qn 12 11,
 qi 13 0])
 (.block 0
 (.loop
 (.seq
 (.reg 4 none [0,1,12,13,14] [
 qb 14 .lss 13 12])
 (.seq
 (qq 14
 .skip
 (.exit 0))
 (.seq
 (.block 1
 (.seq
 (.reg 5 none [0,1,5,12,13] [
 qm 15 13,
 qm 5 15])
 (.seq
 (.reg 6 (some [0,0,3,7,0,0,48,112,255]) [0,1,12,13,24] [
 qm 16 0,
 qm 17 5,
 qx 18 2 16 17,
 qL 19 2 18,
 qm 20 1,
 qm 21 5,
 qx 22 2 20 21,
 qL 23 2 22,
 .r 24 (.ext (.eqS true [.i .i64,.i .i64]) [.t 19,.t 23])])
 (qq 24
 (.seq
 (.reg 7 none [4] [
 qc 4 false])
 .ret)
 .skip))))
 (.reg 8 none [0,1,12,13] [
 qa 25 13,
 qm 13 25])))))))
 (.seq
 (.reg 9 none [4] [
 qc 4 true])
 .ret))))
def Yq:List (Nat×List Nat):=qy kC
theorem Yr:FnIR Tryz.prog kN 26 Yq kC [(.tmp 4)]:=
 qF Tryz.func36
def QV:RC:=
 (.seq
 (.reg 0 none [0,1] [
 qi 4 0,
 qc 5 false])
 (.seq
 (.reg 1 none [4,5] [
 qm 6 0,
 qm 7 1,
 .r 8 (.call (.k (.clo qR [])) [.t 6,.t 7,.k (.clo kK [])]),
 .r 9 (.ex (.t 8) 0),
 .r 10 (.ex (.t 8) 1),
 qm 4 9,
 qm 5 10])
 .ret))
def qw1:List (Nat×List Nat):=qy QV
theorem qw2:FnIR Tryz.prog zU 11 qw1 QV [(.tmp 4),(.tmp 5)]:=
 qF Tryz.func37
def kR:RC:=
 (.seq
 (.reg 0 none [0,1] [
 qc 4 false])
 (.seq
 (.seq
 (.reg 1 none [0,1,10] [
 qm 6 0,
 qn 7 6,
 qm 8 1,
 qn 9 8,
 qb 10 .neq 7 9])
 (qq 10
 (.seq
 (.reg 2 none [4] [
 qc 4 false])
 .ret)
 .skip))
 (.seq
 (.seq
 (.reg 3 none [0,1,12,13] [
 qm 11 0,
 qn 12 11,
 qi 13 0])
 (.block 0
 (.loop
 (.seq
 (.reg 4 none [0,1,12,13,14] [
 qb 14 .lss 13 12])
 (.seq
 (qq 14
 .skip
 (.exit 0))
 (.seq
 (.block 1
 (.seq
 (.reg 5 none [0,1,5,12,13] [
 qm 15 13,
 qm 5 15])
 (.seq
 (.reg 6 (some [0,0,3,7,0,0,48,112,255]) [0,1,12,13,24] [
 qm 16 0,
 qm 17 5,
 qx 18 1 16 17,
 ql 19 18,
 qm 20 1,
 qm 21 5,
 qx 22 1 20 21,
 ql 23 22,
 qb 24 .neq 19 23])
 (qq 24
 (.seq
 (.reg 7 none [4] [
 qc 4 false])
 .ret)
 .skip))))
 (.reg 8 none [0,1,12,13] [
 qa 25 13,
 qm 13 25])))))))
 (.seq
 (.reg 9 none [4] [
 qc 4 true])
 .ret))))
def YZ:List (Nat×List Nat):=qy kR
theorem qa0:FnIR Tryz.prog ww 26 YZ kR [(.tmp 4)]:=
 qF Tryz.func38
def js:RC:=
 (.seq
 (.reg 0 none [0] [
 .r 2 (.mv (qN))])
 (.seq
 (.seq
 (.reg 1 none [0,4] [
 qm 3 0,
 .r 4 (.ext (.nilq false) [.t 3,qN])])
 (qq 4
 (.seq
 (.reg 2 none [2] [
 .r 2 (.mv (qN))])
 .ret)
 .skip))
 (.seq
 (.reg 3 none [2] [
 .r 5 (.bsl 1 0 []),
 qm 6 0,
 .r 7 (.app 1 8 false (.t 5) (.t 6)),
 qm 2 7])
 .ret)))
def qa1:List (Nat×List Nat):=qy js
theorem QW:FnIR Tryz.prog qX 8 qa1 js [(.tmp 2)]:=
 qF Tryz.func39
def yP:RC:=
 (.seq
 (.reg 0 none [0] [
 qc 2 false])
 (.seq
 (.seq
 (.reg 1 none [0,3] [
 qi 3 0])
 (.block 0
 (.loop
 (.seq
 (.seq
 (.reg 2 none [0,3,7] [
 qm 4 3,
 qm 5 0,
 qn 6 5,
 qb 7 .lss 4 6])
 (qq 7
 .skip
 (.exit 0)))
 (.seq
 (.block 1
 (.seq
 (.reg 4 (some [0,0,3,7,15,31,63,127,255,511,1023,1023,4095,8191,16383,32767,1023,1023,132095,459775,984063,2032639,4129791,8388607,16777215,33554431]) [0,3,35] [
 qm 10 0,
 qm 11 3,
 qx 12 1 10 11,
 ql 13 12,
 qn 14 13,
 qB 15 .eql 14 0,
 qm 16 15,
 qmf 17 16 3,
 .rf 18 16 (.bin .gtr false (.t 17) (qI 0)),
 qmf 19 16 18,
 qmt 20 19 0,
 qmt 21 19 3,
 .rt 22 19 (.ixL 1 (.t 20) (.t 21)),
 qlt 23 19 22,
 .rt 24 19 (.ixL 1 (.t 23) (qI 0)),
 qlt 25 19 24,
 qmt 26 19 0,
 qmt 27 19 3,
 .rt 28 19 (.bin .sub false (.t 27) (qI 1)),
 .rt 29 19 (.ixL 1 (.t 26) (.t 28)),
 qlt 30 19 29,
 .rt 31 19 (.ixL 1 (.t 30) (qI 0)),
 qlt 32 19 31,
 .rt 33 19 (.bin .leq false (.t 25) (.t 32)),
 .rf 34 16 (.pick (.t 19) (.t 33) (.k (.v (.bool false)))),
 qP 35 16 34])
 (qq 35
 (.seq
 (.reg 5 none [2] [
 qc 2 false])
 .ret)
 .skip)))
 (.reg 3 none [0,3] [
 qm 8 3,
 qa 9 8,
 qm 3 9]))))))
 (.seq
 (.reg 6 none [2] [
 qc 2 true])
 .ret)))
def qp8:List (Nat×List Nat):=qy yP
theorem qp9:FnIR Tryz.prog jg 36 qp8 yP [(.tmp 2)]:=
 qF Tryz.func40
def wH:RC:=
 (.seq
 (.reg 0 none [0,1] [
 qc 4 false])
 (.seq
 (.seq
 (.reg 1 none [0,1,10] [
 qm 6 0,
 qn 7 6,
 qm 8 1,
 qn 9 8,
 qb 10 .neq 7 9])
 (qq 10
 (.seq
 (.reg 2 none [4] [
 qc 4 false])
 .ret)
 .skip))
 (.seq
 (.seq
 (.reg 3 none [0,1,5] [
 qi 5 0])
 (.block 0
 (.loop
 (.seq
 (.seq
 (.reg 4 none [0,1,5,14] [
 qm 11 5,
 qm 12 0,
 qn 13 12,
 qb 14 .lss 11 13])
 (qq 14
 .skip
 (.exit 0)))
 (.seq
 (.block 1
 (.seq
 (.reg 6 (some [0,0,3,7,0,0,48,112,255]) [0,1,5,25] [
 qm 17 0,
 qm 18 5,
 qx 19 2 17 18,
 qL 20 2 19,
 qm 21 1,
 qm 22 5,
 qx 23 2 21 22,
 qL 24 2 23,
 .r 25 (.ext (.eqS true [.i .i64,.i .i64]) [.t 20,.t 24])])
 (qq 25
 (.seq
 (.reg 7 none [4] [
 qc 4 false])
 .ret)
 .skip)))
 (.reg 5 none [0,1,5] [
 qm 15 5,
 qa 16 15,
 qm 5 16]))))))
 (.seq
 (.reg 8 none [4] [
 qc 4 true])
 .ret))))
def qe9:List (Nat×List Nat):=qy wH
theorem qf0:FnIR Tryz.prog jZ 26 qe9 wH [(.tmp 4)]:=
 qF Tryz.func41
def Kq:RC:=
 (.seq
 (.reg 0 none [0,1] [
 qi 4 0])
 (.seq
 (.seq
 (.reg 1 none [0,1,5] [
 qi 5 0])
 (.block 0
 (.loop
 (.seq
 (.seq
 (.reg 2 none [0,1,5,9] [
 qm 6 5,
 qm 7 0,
 qn 8 7,
 qb 9 .lss 6 8])
 (qq 9
 .skip
 (.exit 0)))
 (.seq
 (.block 1
 (.seq
 (.reg 4 none [0,1,5,19] [
 qm 12 0,
 qm 13 5,
 qx 14 1 12 13,
 ql 15 14,
 .r 16 (.ixL 1 (.t 15) (qI 0)),
 ql 17 16,
 qm 18 1,
 qb 19 .eql 17 18])
 (qq 19
 (.seq
 (.reg 5 none [4] [
 qm 20 5,
 qm 4 20])
 .ret)
 .skip)))
 (.reg 3 none [0,1,5] [
 qm 10 5,
 qa 11 10,
 qm 5 11]))))))
 (.seq
 (.reg 6 none [4] [
 .r 4 (.mv (.k (.v (.int .i64 (-1)))))])
 .ret)))
def qR1:List (Nat×List Nat):=qy Kq
theorem qR2:FnIR Tryz.prog wc 21 qR1 Kq [(.tmp 4)]:=
 qF Tryz.func42
def Kr:RC:=
 (.seq
 (.reg 0 none [0,1] [
 qc 4 false])
 (.seq
 (.seq
 (.reg 1 none [0,1,10] [
 qm 6 0,
 qn 7 6,
 qm 8 1,
 qn 9 8,
 qb 10 .neq 7 9])
 (qq 10
 (.seq
 (.reg 2 none [4] [
 qc 4 false])
 .ret)
 .skip))
 (.seq
 (.seq
 (.reg 3 none [0,1,5] [
 qi 5 0])
 (.block 0
 (.loop
 (.seq
 (.seq
 (.reg 4 none [0,1,5,14] [
 qm 11 5,
 qm 12 0,
 qn 13 12,
 qb 14 .lss 11 13])
 (qq 14
 .skip
 (.exit 0)))
 (.seq
 (.block 1
 (.seq
 (.reg 6 (some [0,0,3,7,0,0,48,112,255,511]) [0,1,5,26] [
 qm 17 0,
 qm 18 5,
 qx 19 1 17 18,
 ql 20 19,
 qm 21 1,
 qm 22 5,
 qx 23 1 21 22,
 ql 24 23,
 qC 25 jO [.t 20,.t 24],
 .r 26 (.un .not (.t 25))])
 (qq 26
 (.seq
 (.reg 7 none [4] [
 qc 4 false])
 .ret)
 .skip)))
 (.reg 5 none [0,1,5] [
 qm 15 5,
 qa 16 15,
 qm 5 16]))))))
 (.seq
 (.reg 8 none [4] [
 qc 4 true])
 .ret))))
def qR3:List (Nat×List Nat):=qy Kr
theorem qR4:FnIR Tryz.prog Zv 27 qR3 Kr [(.tmp 4)]:=
 qF Tryz.func43
def wI:RC:=
 (.seq
 (.reg 0 none [0,1] [
 qc 3 false])
 (.seq
 (.reg 1 none [3] [
 qm 4 0,
 qn 5 4,
 qf 6 2 1,
 ql 7 6,
 qn 8 7,
 qa 9 8,
 qb 10 .neq 5 9,
 qm 3 10])
 .ret))
def qf1:List (Nat×List Nat):=qy wI
theorem qf2:FnIR Tryz.prog ka 11 qf1 wI [(.tmp 3)]:=
 qF Tryz.func44
def wJ:RC:=
 (.seq
 (.reg 0 none [0] [
 qc 2 false])
 (.seq
 (.seq
 (.reg 1 none [0,3] [
 qi 3 1])
 (.block 0
 (.loop
 (.seq
 (.seq
 (.reg 2 none [0,3,7] [
 qm 4 3,
 qm 5 0,
 qn 6 5,
 qb 7 .lss 4 6])
 (qq 7
 .skip
 (.exit 0)))
 (.seq
 (.block 1
 (.seq
 (.reg 4 (some [0,0,3,7,0,0,32,112,240,511]) [0,3,19] [
 qm 10 0,
 qm 11 3,
 qx 12 1 10 11,
 ql 13 12,
 qm 14 0,
 qm 15 3,
 qB 16 .sub 15 1,
 qx 17 1 14 16,
 ql 18 17,
 qb 19 .leq 13 18])
 (qq 19
 (.seq
 (.reg 5 none [2] [
 qc 2 false])
 .ret)
 .skip)))
 (.reg 3 none [0,3] [
 qm 8 3,
 qa 9 8,
 qm 3 9]))))))
 (.seq
 (.reg 6 none [2] [
 qc 2 true])
 .ret)))
def qf3:List (Nat×List Nat):=qy wJ
theorem qf4:FnIR Tryz.prog yc 20 qf3 wJ [(.tmp 2)]:=
 qF Tryz.func45
def zE:RC:=
 (.seq
 (.reg 0 none [0,1] [
 qc 4 false])
 (.seq
 (.reg 1 none [4] [
 qm 5 0,
 qm 6 1,
 qC 7 jo [.t 5,.t 6],
 qB 8 .geq 7 0,
 qm 4 8])
 .ret))
def QX:List (Nat×List Nat):=qy zE
theorem QY:FnIR Tryz.prog zI 9 QX zE [(.tmp 4)]:=
 qF Tryz.func46
def jB:RC:=
 (.seq
 (.reg 0 none [0,1] [
 qc 4 false])
 (.seq
 (.reg 1 none [4] [
 qm 5 0,
 qm 6 1,
 qC 7 wz [.t 5,.t 6],
 qB 8 .geq 7 0,
 qm 4 8])
 .ret))
def KU:List (Nat×List Nat):=qy jB
theorem KV:FnIR Tryz.prog zp 9 KU jB [(.tmp 4)]:=
 qF Tryz.func47
def kD:RC:=
 (.seq
 (.reg 0 none [0] [
 .r 2 (.mv (qN))])
 (.seq
 (.seq
 (.reg 1 none [0,4] [
 qm 3 0,
 .r 4 (.ext (.nilq false) [.t 3,qN])])
 (qq 4
 (.seq
 (.reg 2 none [2] [
 .r 2 (.mv (qN))])
 .ret)
 .skip))
 (.seq
 (.reg 3 none [2] [
 .r 5 (.bsl 2 0 []),
 qm 6 0,
 .r 7 (.app 2 16 false (.t 5) (.t 6)),
 qm 2 7])
 .ret)))
def Ys:List (Nat×List Nat):=qy kD
theorem Yt:FnIR Tryz.prog kO 8 Ys kD [(.tmp 2)]:=
 qF Tryz.func48
def jS:RC:=
 (.seq
 (.reg 0 none [0,1,2] [
 .r 6 (.mv (qN))])
 (.seq
 (.reg 1 none [0,1,2] [
 qm 10 0,
 qm 11 1,
 .r 12 (.slL 1 (.t 10) (some (.t 11)) none)])
 (.seq
 (.reg 2 none [0,1,2,7] [
 qm 13 2,
 qn 14 13,
 qm 7 14])
 (.seq
 (.seq
 (.reg 3 none [0,1,2,7,16] [
 qm 15 7,
 qB 16 .eql 15 0])
 (qq 16
 (.seq
 (.reg 4 none [6] [
 qm 17 0,
 qm 6 17])
 .ret)
 .skip))
 (.seq
 (.reg 5 none [0,1,2,7,8] [
 qm 18 0,
 qn 19 18,
 qm 8 19])
 (.seq
 (.seq
 (.reg 6 none [0,1,2,7,8,22] [
 qm 20 1,
 qm 21 8,
 qb 22 .eql 20 21])
 (qq 22
 (.seq
 (.reg 7 none [6] [
 qm 23 0,
 qm 24 2,
 .r 25 (.app 1 24 false (.t 23) (.t 24)),
 qm 6 25])
 .ret)
 .skip))
 (.seq
 (.seq
 (.reg 8 none [0,1,2,7,8,31] [
 qm 26 8,
 qm 27 7,
 qb 28 .add 26 27,
 qm 29 0,
 .r 30 (.ext .capq [.t 29]),
 qb 31 .gtr 28 30])
 (qq 31
 (.seq
 (.reg 9 none [0,1,2,7,9] [
 qm 32 0,
 qm 33 1,
 .r 34 (.slL 1 (.t 32) none (some (.t 33))),
 qm 35 8,
 qm 36 7,
 qb 37 .add 35 36,
 qm 38 1,
 qb 39 .sub 37 38,
 .r 40 (.ext (.appM 1 24 (.v (.slice none 0 0))) [.t 34,.t 39]),
 qm 9 40])
 (.seq
 (.reg 10 none [0,1,7,9] [
 qm 41 9,
 qm 42 1,
 .r 43 (.slL 1 (.t 41) (some (.t 42)) none),
 qm 44 2,
 .r 45 (.ext (.cpy 1) [.t 43,.t 44])])
 (.seq
 (.reg 11 (some [0,0,0,6,15,0,0,96,255]) [9] [
 qm 46 9,
 qm 47 1,
 qm 48 7,
 qb 49 .add 47 48,
 .r 50 (.slL 1 (.t 46) (some (.t 49)) none),
 qm 51 0,
 qm 52 1,
 .r 53 (.slL 1 (.t 51) (some (.t 52)) none),
 .r 54 (.ext (.cpy 1) [.t 50,.t 53])])
 (.seq
 (.reg 12 none [6] [
 qm 55 9,
 qm 6 55])
 .ret))))
 .skip))
 (.seq
 (.reg 13 none [0,1,2,7,8] [
 qm 56 0,
 qm 57 8,
 qm 58 7,
 qb 59 .add 57 58,
 .r 60 (.slL 1 (.t 56) none (some (.t 59))),
 qm 0 60])
 (.seq
 (.seq
 (.reg 14 none [0,1,2,7,8,68] [
 qm 61 2,
 qm 62 0,
 qm 63 1,
 qm 64 7,
 qb 65 .add 63 64,
 .r 66 (.slL 1 (.t 62) (some (.t 65)) none),
 qC 67 wW [.t 61,.t 66],
 .r 68 (.un .not (.t 67))])
 (qq 68
 (.seq
 (.reg 15 (some [0,0,0,6,15,0,0,96,255]) [0,1,2] [
 qm 69 0,
 qm 70 1,
 qm 71 7,
 qb 72 .add 70 71,
 .r 73 (.slL 1 (.t 69) (some (.t 72)) none),
 qm 74 0,
 qm 75 1,
 .r 76 (.slL 1 (.t 74) (some (.t 75)) none),
 .r 77 (.ext (.cpy 1) [.t 73,.t 76])])
 (.seq
 (.reg 16 none [0] [
 qm 78 0,
 qm 79 1,
 .r 80 (.slL 1 (.t 78) (some (.t 79)) none),
 qm 81 2,
 .r 82 (.ext (.cpy 1) [.t 80,.t 81])])
 (.seq
 (.reg 17 none [6] [
 qm 83 0,
 qm 6 83])
 .ret)))
 .skip))
 (.seq
 (.reg 18 none [0,1,7] [
 qm 84 0,
 qm 85 8,
 .r 86 (.slL 1 (.t 84) (some (.t 85)) none),
 qm 87 2,
 .r 88 (.ext (.cpy 1) [.t 86,.t 87])])
 (.seq
 (.reg 19 none [0] [
 qm 89 0,
 qm 90 1,
 .r 91 (.slL 1 (.t 89) (some (.t 90)) none),
 qm 92 7,
 qC 93 ZK [.t 91,.t 92]])
 (.seq
 (.reg 20 none [6] [
 qm 94 0,
 qm 6 94])
 .ret))))))))))))
def WC:List (Nat×List Nat):=qy jS
theorem WD:FnIR Tryz.prog kv 95 WC jS [(.tmp 6)]:=
 qF Tryz.func49
def WE:RC:=
 (.seq
 (.reg 0 none [0,1] [
 .r 4 (.mv (qN))])
 (.seq
 (.reg 1 none [0,1,5] [
 .r 5 (.mv (qN))])
 (.seq
 (.reg 2 none [0,1,5,6] [
 qc 6 false])
 (.seq
 (.seq
 (.reg 3 none [0,1,5,6,7] [
 qi 7 0])
 (.block 0
 (.loop
 (.seq
 (.seq
 (.reg 4 none [0,1,5,6,7,11] [
 qm 8 7,
 qm 9 0,
 qn 10 9,
 qb 11 .lss 8 10])
 (qq 11
 .skip
 (.exit 0)))
 (.seq
 (.block 1
 (.seq
 (.seq
 (.reg 6 (some [0,0,3,7,15,31,0,64,192,511]) [0,1,5,6,7,23] [
 qm 14 0,
 qm 15 7,
 qx 16 1 14 15,
 ql 17 16,
 .r 18 (.ixL 1 (.t 17) (qI 0)),
 ql 19 18,
 qm 20 1,
 .r 21 (.ixL 1 (.t 20) (qI 0)),
 ql 22 21,
 qb 23 .eql 19 22])
 (qq 23
 (.exit 1)
 .skip))
 (.seq
 (.seq
 (.reg 7 (some [0,0,3,7,15,31,0,64,192,511,1023,2047,4095,8191]) [0,1,5,6,7,37] [
 qm 24 0,
 qm 25 7,
 qx 26 1 24 25,
 ql 27 26,
 .r 28 (.ixL 1 (.t 27) (qI 0)),
 ql 29 28,
 qm 30 1,
 .r 31 (.ixL 1 (.t 30) (qI 0)),
 ql 32 31,
 qb 33 .gtr 29 32,
 qm 34 33,
 qmt 35 34 6,
 .rt 36 34 (.un .not (.t 35)),
 qp 37 34 36])
 (qq 37
 (.reg 8 none [0,1,5,6,7] [
 qm 38 5,
 qm 39 1,
 .r 40 (.bsl 1 1 [.t 39]),
 .r 41 (.app 1 24 false (.t 38) (.t 40)),
 qm 5 41,
 qc 6 true])
 .skip))
 (.reg 9 none [0,1,5,6,7] [
 qm 42 5,
 qm 43 0,
 qm 44 7,
 qx 45 1 43 44,
 ql 46 45,
 .r 47 (.bsl 1 1 [.t 46]),
 .r 48 (.app 1 24 false (.t 42) (.t 47)),
 qm 5 48]))))
 (.reg 5 none [0,1,5,6,7] [
 qm 12 7,
 qa 13 12,
 qm 7 13]))))))
 (.seq
 (.seq
 (.reg 10 none [1,5,50] [
 qm 49 6,
 .r 50 (.un .not (.t 49))])
 (qq 50
 (.reg 11 none [5] [
 qm 51 5,
 qm 52 1,
 .r 53 (.bsl 1 1 [.t 52]),
 .r 54 (.app 1 24 false (.t 51) (.t 53)),
 qm 5 54])
 .skip))
 (.seq
 (.reg 12 none [4] [
 qm 55 5,
 qm 4 55])
 .ret))))))
def zf7:List (Nat×List Nat):=qy WE
theorem zf8:FnIR Tryz.prog yd 56 zf7 WE [(.tmp 4)]:=
 qF Tryz.func50
def kE:RC:=
 (.seq
 (.reg 0 none [0,2] [
 .r 2 (.new (.agg [.v (.slice none 0 0),.v (.slice none 0 0)]))])
 (.seq
 (.reg 1 none [0,2,3] [
 qm 5 0,
 .r 6 (.call (.k (.clo kf [])) [.t 5,.k (.v (.string ⟨#[111,110,101]⟩))]),
 qm 7 0,
 .r 8 (.call (.k (.clo kf [])) [.t 7,.k (.v (.string ⟨#[116,119,111]⟩))]),
 .r 9 (.bsl 2 2 [.t 6,.t 8]),
 .r 10 (.build [.v (.string ⟨#[]⟩),.v (.int .i64 0),.v (.int .i64 0),.v (.int .i64 0),.v (.int .i64 0),.v (.slice none 0 0),.v (.bool false)] [((0,1),.k (.v (.string ⟨#[119,104,111]⟩))),((1,1),qI 1)]),
 .r 11 (.build [.v (.string ⟨#[]⟩),.v (.int .i64 0),.v (.int .i64 0),.v (.int .i64 0),.v (.int .i64 0),.v (.slice none 0 0),.v (.bool false)] [((0,1),.k (.v (.string ⟨#[115,101,120]⟩))),((1,1),qI 2)]),
 .r 12 (.bsl 7 2 [.t 10,.t 11]),
 .r 13 (.build [.v (.slice none 0 0),.v (.slice none 0 0)] [((0,1),.t 9),((1,1),.t 12)]),
 .r 3 (.new (.agg [.v (.slice none 0 0),.v (.slice none 0 0)])),
 qs 2 3 13])
 (.seq
 (.seq
 (.reg 2 none [0,2,3,15] [
 qm 14 0,
 qC 15 qG [.t 14,qI 2]])
 (qq 15
 (.reg 3 none [0,2,3] [
 qf 16 1 3,
 ql 17 16,
 .r 18 (.build [.v (.string ⟨#[]⟩),.v (.int .i64 0),.v (.int .i64 0),.v (.int .i64 0),.v (.int .i64 0),.v (.slice none 0 0),.v (.bool false)] [((0,1),.k (.v (.string ⟨#[106,111,98]⟩))),((1,1),qI 2),((2,1),qI 1)]),
 .r 19 (.bsl 7 1 [.t 18]),
 .r 20 (.app 7 80 false (.t 17) (.t 19)),
 qf 21 1 3,
 qs 1 21 20])
 .skip))
 (.seq
 (.seq
 (.reg 4 none [0,2,3,4] [
 qm 22 0,
 qC 23 qz [.t 22,qI 1,qI 3],
 qm 4 23])
 (.block 0
 (.loop
 (.seq
 (.seq
 (.reg 5 none [0,2,3,4,25] [
 qm 24 4,
 qB 25 .gtr 24 0])
 (qq 25
 .skip
 (.exit 0)))
 (.seq
 (.block 1
 (.reg 7 (some [0,1,0,0,8,24,56,120,252,508,1023,2047,4095]) [0,2,3,4] [
 qf 28 1 3,
 ql 29 28,
 qm 30 0,
 qf 31 1 3,
 ql 32 31,
 qn 33 32,
 qC 34 zV [.t 33],
 .r 35 (.bin .add false (.k (.v (.string ⟨#[109]⟩))) (.t 34)),
 qC 36 ky [.t 30,.t 35],
 .r 37 (.bsl 7 1 [.t 36]),
 .r 38 (.app 7 80 false (.t 29) (.t 37)),
 qf 39 1 3,
 qs 1 39 38]))
 (.reg 6 none [0,2,3,4] [
 qm 26 4,
 qB 27 .sub 26 1,
 qm 4 27]))))))
 (.seq
 (.reg 8 none [2] [
 qL 40 2 3,
 qs 2 2 40])
 .ret)))))
def Yu:List (Nat×List Nat):=qy kE
theorem Yv:FnIR Tryz.prog kP 41 Yu kE [(.cell 2 (some 2))]:=
 qF Tryz.func51
def wK:RC:=
 (.seq
 (.reg 0 none [0,1] [
 qi 4 0])
 (.seq
 (.seq
 (.reg 1 (some [0,1,3,7,15,31,63,7,135,391,903,1927,4095,8191]) [0,1,19] [
 qm 6 1,
 qB 7 .lss 6 1,
 qm 8 7,
 qmf 9 8 0,
 .rf 10 8 (.nc (.t 9)),
 qff 11 8 1 10,
 qlf 12 8 11,
 qmf 13 8 0,
 .rf 14 8 (.nc (.t 13)),
 qff 15 8 0 14,
 qlf 16 8 15,
 .rf 17 8 (.lenL (.t 16)),
 .rf 18 8 (.bin .geq false (.t 12) (.t 17)),
 qP 19 8 18])
 (qq 19
 (.seq
 (.reg 2 none [4] [
 qi 4 0])
 .ret)
 .skip))
 (.seq
 (.reg 3 none [0,1] [
 qm 20 0,
 .r 21 (.nc (.t 20)),
 qf 22 1 21,
 ql 23 22,
 qa 24 23,
 .r 25 (.nc (.t 20)),
 qf 26 1 25,
 qs 1 26 24])
 (.seq
 (.reg 4 (some [0,1,3,7,0,16,48,112,240,511,1023,2047,4095]) [0,1,5] [
 qm 27 0,
 .r 28 (.nc (.t 27)),
 qf 29 0 28,
 ql 30 29,
 qm 31 0,
 .r 32 (.nc (.t 31)),
 qf 33 1 32,
 ql 34 33,
 qB 35 .sub 34 1,
 qx 36 1 30 35,
 ql 37 36,
 .r 38 (.cvI .i64 (.t 37)),
 qm 5 38])
 (.seq
 (.seq
 (.reg 5 (some [0,1,3,7,15,31,63,7,135,391,903,1927,4095,8191]) [0,1,5,52] [
 qm 39 1,
 qB 40 .gtr 39 256,
 qm 41 40,
 qmt 42 41 0,
 .rt 43 41 (.nc (.t 42)),
 qft 44 41 1 43,
 qlt 45 41 44,
 qmt 46 41 0,
 .rt 47 41 (.nc (.t 46)),
 qft 48 41 0 47,
 qlt 49 41 48,
 .rt 50 41 (.lenL (.t 49)),
 .rt 51 41 (.bin .lss false (.t 45) (.t 50)),
 qp 52 41 51])
 (qq 52
 (.seq
 (.reg 6 (some [0,1,0,4,12,28,0,64,192,448,1020,2044,4092,8191,16383]) [0,1,5] [
 qm 53 5,
 qB 54 .mul 53 256,
 qm 55 0,
 .r 56 (.nc (.t 55)),
 qf 57 0 56,
 ql 58 57,
 qm 59 0,
 .r 60 (.nc (.t 59)),
 qf 61 1 60,
 ql 62 61,
 qx 63 1 58 62,
 ql 64 63,
 .r 65 (.cvI .i64 (.t 64)),
 qb 66 .add 54 65,
 qm 5 66])
 (.reg 7 none [1,5] [
 qm 67 0,
 .r 68 (.nc (.t 67)),
 qf 69 1 68,
 ql 70 69,
 qa 71 70,
 .r 72 (.nc (.t 67)),
 qf 73 1 72,
 qs 1 73 71]))
 .skip))
 (.seq
 (.reg 8 none [4] [
 qm 74 5,
 qm 75 1,
 qb 76 .rem 74 75,
 qm 4 76])
 .ret))))))
def qf5:List (Nat×List Nat):=qy wK
theorem qf6:FnIR Tryz.prog qo 77 qf5 wK [(.tmp 4)]:=
 qF Tryz.func52
def yj:RC:=
 (.seq
 (.reg 0 none [0,3] [
 .r 3 (.box (.t 1)),
 .r 4 (.mv (qN))])
 (.seq
 (.reg 1 none [0,3,5] [
 .r 5 (.mv (qN))])
 (.seq
 (.seq
 (.reg 2 none [0,3,5,9,10] [
 qf 7 1 3,
 ql 8 7,
 qn 9 8,
 qi 10 0])
 (.block 0
 (.loop
 (.seq
 (.reg 3 none [0,3,5,9,10,11] [
 qb 11 .lss 10 9])
 (.seq
 (qq 11
 .skip
 (.exit 0))
 (.seq
 (.block 1
 (.seq
 (.reg 4 none [0,3,5,6,9,10] [
 qm 12 10,
 qm 6 12])
 (.reg 5 none [0,3,5,9,10] [
 qm 13 5,
 qm 14 0,
 qL 15 2 3,
 qm 16 6,
 qC 17 wA [.t 14,.t 15,.t 16],
 .r 18 (.bsl 1 1 [.t 17]),
 .r 19 (.app 1 8 false (.t 13) (.t 18)),
 qm 5 19])))
 (.reg 6 none [0,3,5,9,10] [
 qa 20 10,
 qm 10 20])))))))
 (.seq
 (.reg 7 none [4] [
 qm 21 5,
 qm 4 21])
 .ret))))
def ql2:List (Nat×List Nat):=qy yj
theorem ql3:FnIR Tryz.prog zL 22 ql2 yj [(.tmp 4)]:=
 qF Tryz.func53
def QZ:RC:=
 (.seq
 (.reg 0 none [0] [
 .r 2 (.mv (.k (.v (.string ⟨#[]⟩))))])
 (.seq
 (.reg 1 none [2] [
 qm 3 0,
 qC 4 jp [.t 3],
 qm 2 4])
 .ret))
def qw3:List (Nat×List Nat):=qy QZ
theorem qw4:FnIR Tryz.prog zV 5 qw3 QZ [(.tmp 2)]:=
 qF Tryz.func54
def jG:RC:=
 (.seq
 (.reg 0 none [0,2,4,6] [
 .r 4 (.box (.t 1)),
 .r 6 (.new (.agg [.v (.int .i64 0),.v (.int .i64 0),.v (.int .i64 0),.v (.int .i64 0),.v (.int .i64 0),.v (.slice none 0 0)]))])
 (.seq
 (.seq
 (.reg 1 none [0,2,4,6,12] [
 qm 11 2,
 qB 12 .gtr 11 0])
 (qq 12
 (.seq
 (.reg 2 none [0,2,4,6,14] [
 qm 13 0,
 qC 14 qo [.t 13,qI 5]])
 (.block 0
 (.seq
 (.reg 3 none [0,2,4,6,14,15] [
 qB 16 .eql 14 2,
 qm 15 16])
 (qq 15
 (.seq
 (.reg 4 none [6] [
 qm 17 0,
 qL 18 2 4,
 qm 19 2,
 qB 20 .sub 19 1,
 qC 21 qK [.t 17,.t 18,.t 20],
 .r 22 (.bsl 6 1 [.t 21]),
 .r 23 (.build [.v (.int .i64 0),.v (.int .i64 0),.v (.int .i64 0),.v (.int .i64 0),.v (.int .i64 0),.v (.slice none 0 0)] [((0,1),qI 7),((5,1),.t 22)]),
 qs 6 6 23])
 .ret)
 (.seq
 (.reg 5 none [0,2,4,6,14,24] [
 qB 25 .eql 14 3,
 qm 24 25])
 (qq 24
 (.seq
 (.reg 6 (some [0,0,0,4,15,0,0,0,128,511,1023,2047,4095]) [6] [
 qm 26 0,
 qL 27 2 4,
 qm 28 2,
 qB 29 .sub 28 1,
 qC 30 qK [.t 26,.t 27,.t 29],
 qm 31 0,
 qL 32 2 4,
 qm 33 2,
 qB 34 .sub 33 1,
 qC 35 qK [.t 31,.t 32,.t 34],
 .r 36 (.bsl 6 2 [.t 30,.t 35]),
 .r 37 (.build [.v (.int .i64 0),.v (.int .i64 0),.v (.int .i64 0),.v (.int .i64 0),.v (.int .i64 0),.v (.slice none 0 0)] [((0,1),qI 5),((5,1),.t 36)]),
 qs 6 6 37])
 .ret)
 (.seq
 (.reg 7 none [0,2,4,6,38] [
 qB 39 .eql 14 4,
 qm 38 39])
 (qq 38
 (.seq
 (.reg 8 (some [0,0,0,4,15,0,0,0,128,511,1023,2047,4095]) [6] [
 qm 40 0,
 qL 41 2 4,
 qm 42 2,
 qB 43 .sub 42 1,
 qC 44 qK [.t 40,.t 41,.t 43],
 qm 45 0,
 qL 46 2 4,
 qm 47 2,
 qB 48 .sub 47 1,
 qC 49 qK [.t 45,.t 46,.t 48],
 .r 50 (.bsl 6 2 [.t 44,.t 49]),
 .r 51 (.build [.v (.int .i64 0),.v (.int .i64 0),.v (.int .i64 0),.v (.int .i64 0),.v (.int .i64 0),.v (.slice none 0 0)] [((0,1),qI 6),((5,1),.t 50)]),
 qs 6 6 51])
 .ret)
 .skip))))))))
 .skip))
 (.seq
 (.seq
 (.reg 9 none [0,4,6,53] [
 qm 52 0,
 qC 53 qo [.t 52,qI 5]])
 (.block 1
 (.seq
 (.reg 10 none [0,4,6,53,54] [
 qB 55 .eql 53 1,
 qm 54 55])
 (qq 54
 (.seq
 (.reg 11 none [0,4,6,7] [
 qm 56 0,
 qL 57 2 4,
 qC 58 wB [.t 56,.t 57],
 qm 7 58])
 (.seq
 (.reg 12 (some [0,0,0,4,0,16,0,112,240,496,1020,2044,4092,8188,16382,32767,65535]) [6] [
 qm 59 7,
 qm 60 0,
 qf 61 0 4,
 ql 62 61,
 qf 63 1 4,
 ql 64 63,
 qm 65 7,
 qx 66 7 64 65,
 qf 67 2 66,
 ql 68 67,
 qx 69 2 62 68,
 qf 70 1 69,
 ql 71 70,
 qn 72 71,
 qC 73 qo [.t 60,.t 72],
 .r 74 (.build [.v (.int .i64 0),.v (.int .i64 0),.v (.int .i64 0),.v (.int .i64 0),.v (.int .i64 0),.v (.slice none 0 0)] [((0,1),qI 2),((1,1),.t 59),((2,1),.t 73)]),
 qs 6 6 74])
 .ret))
 (.seq
 (.seq
 (.reg 13 none [0,4,6,53,75] [
 qB 76 .eql 53 2,
 qm 75 76])
 (qq 75
 .skip
 (.reg 14 none [0,4,6,53,75] [
 qB 77 .eql 53 3,
 qm 75 77])))
 (qq 75
 (.seq
 (.reg 15 none [0,4,6,8] [
 qm 78 0,
 qL 79 2 4,
 qC 80 zq [.t 78,.t 79],
 qm 8 80])
 (.seq
 (.reg 16 (some [0,1,0,7,15,31,0,64,255,511]) [0,6,8,9] [
 qf 81 1 4,
 ql 82 81,
 qm 83 8,
 qx 84 7 82 83,
 qf 85 3 84,
 ql 86 85,
 qm 87 0,
 qC 88 qz [.t 87,.k (.v (.int .i64 (-3))),qI 40],
 qb 89 .add 86 88,
 qm 9 89])
 (.seq
 (.reg 17 none [6] [
 qm 90 8,
 qm 91 9,
 qm 92 9,
 qm 93 0,
 qC 94 qo [.t 93,qI 30],
 qb 95 .add 92 94,
 .r 96 (.build [.v (.int .i64 0),.v (.int .i64 0),.v (.int .i64 0),.v (.int .i64 0),.v (.int .i64 0),.v (.slice none 0 0)] [((0,1),qI 3),((1,1),.t 90),((3,1),.t 91),((4,1),.t 95)]),
 qs 6 6 96])
 .ret)))
 (.seq
 (.reg 18 none [0,4,6,97] [
 qB 98 .eql 53 4,
 qm 97 98])
 (qq 97
 (.seq
 (.reg 19 none [4,6,10] [
 qm 99 0,
 qL 100 2 4,
 qC 101 zq [.t 99,.t 100],
 qm 10 101])
 (.seq
 (.reg 20 none [6,10,107] [
 qf 102 1 4,
 ql 103 102,
 qm 104 10,
 qx 105 7 103 104,
 qf 106 6 105,
 ql 107 106])
 (qq 107
 (.seq
 (.reg 21 none [6] [
 qm 108 10,
 .r 109 (.build [.v (.int .i64 0),.v (.int .i64 0),.v (.int .i64 0),.v (.int .i64 0),.v (.int .i64 0),.v (.slice none 0 0)] [((0,1),qI 4),((1,1),.t 108)]),
 qs 6 6 109])
 .ret)
 .skip)))
 .skip))))))))
 (.seq
 (.reg 22 none [6] [
 .r 110 (.build [.v (.int .i64 0),.v (.int .i64 0),.v (.int .i64 0),.v (.int .i64 0),.v (.int .i64 0),.v (.slice none 0 0)] [((0,1),qI 1)]),
 qs 6 6 110])
 .ret))))
def qf7:List (Nat×List Nat):=qy jG
theorem ZB:FnIR Tryz.prog qK 111 qf7 jG [(.cell 6 (some 6))]:=
 qF Tryz.func55
def yk:RC:=
 (.seq
 (.reg 0 none [0,1] [
 qc 4 false])
 (.seq
 (.reg 1 none [4] [
 qm 5 0,
 qm 6 1,
 qC 7 qo [.t 5,.t 6],
 qm 8 1,
 qB 9 .sub 8 1,
 qb 10 .eql 7 9,
 qm 4 10])
 .ret))
def ql4:List (Nat×List Nat):=qy yk
theorem ql5:FnIR Tryz.prog qG 11 ql4 yk [(.tmp 4)]:=
 qF Tryz.func56
def kS:RC:=
 (.seq
 (.reg 0 none [0,1,2] [
 qi 6 0])
 (.seq
 (.reg 1 none [6] [
 qm 7 1,
 qm 8 0,
 qm 9 2,
 qm 10 1,
 qb 11 .sub 9 10,
 qa 12 11,
 qC 13 qo [.t 8,.t 12],
 qb 14 .add 7 13,
 qm 6 14])
 .ret))
def qa2:List (Nat×List Nat):=qy kS
theorem qa3:FnIR Tryz.prog qz 15 qa2 kS [(.tmp 6)]:=
 qF Tryz.func57
def jC:RC:=
 (.seq
 (.reg 0 none [0,2,4,6] [
 .r 4 (.box (.t 1)),
 .r 6 (.new (.agg [.v (.string ⟨#[]⟩),.v (.int .i64 0),.v (.int .i64 0),.v (.int .i64 0),.v (.int .i64 0),.v (.int .i64 0),.v (.int .i64 0),.v (.slice none 0 0),.v (.slice none 0 0),.v (.int .i64 0),.v (.slice none 0 0),.v (.int .i64 0),.v (.int .i64 0),.v (.int .i64 0),.v (.int .i64 0),.v (.int .i64 0),.v (.slice none 0 0)]))])
 (.seq
 (.reg 1 (some [0,0,0,0,8,30,63,0,255]) [0,4,6,7] [
 qm 10 2,
 qm 11 0,
 qL 12 2 4,
 qm 13 0,
 qC 14 qo [.t 13,qI 3],
 qC 15 qK [.t 11,.t 12,.t 14],
 .r 16 (.build [.v (.string ⟨#[]⟩),.v (.int .i64 0),.v (.int .i64 0),.v (.int .i64 0),.v (.int .i64 0),.v (.int .i64 0),.v (.int .i64 0),.v (.slice none 0 0),.v (.slice none 0 0),.v (.int .i64 0),.v (.slice none 0 0),.v (.int .i64 0),.v (.int .i64 0),.v (.int .i64 0),.v (.int .i64 0),.v (.int .i64 0),.v (.slice none 0 0)] [((0,1),.t 10),((1,1),qI 1),((2,6),.t 15),((9,1),.k (.v (.int .i64 (-1))))]),
 .r 7 (.new (.agg [.v (.string ⟨#[]⟩),.v (.int .i64 0),.v (.int .i64 0),.v (.int .i64 0),.v (.int .i64 0),.v (.int .i64 0),.v (.int .i64 0),.v (.slice none 0 0),.v (.slice none 0 0),.v (.int .i64 0),.v (.slice none 0 0),.v (.int .i64 0),.v (.int .i64 0),.v (.int .i64 0),.v (.int .i64 0),.v (.int .i64 0),.v (.slice none 0 0)])),
 qs 17 7 16])
 (.seq
 (.reg 2 none [0,4,6,7,8] [
 qm 17 0,
 qL 18 2 4,
 qC 19 zq [.t 17,.t 18],
 qm 8 19])
 (.seq
 (.seq
 (.reg 3 none [0,4,6,7,8,21] [
 qm 20 0,
 qC 21 qo [.t 20,qI 4]])
 (.block 0
 (.seq
 (.reg 4 none [0,4,6,7,8,21,22] [
 qB 23 .eql 21 1,
 qm 22 23])
 (qq 22
 (.reg 5 none [0,4,6,7] [
 qm 24 8,
 qf 25 9 7,
 qs 1 25 24])
 (.seq
 (.reg 6 none [0,4,6,7,8,21,26] [
 qB 27 .eql 21 2,
 qm 26 27])
 (qq 26
 (.seq
 (.reg 7 none [0,4,6,7,8,9] [
 qm 28 0,
 qL 29 2 4,
 qm 30 8,
 qC 31 wC [.t 28,.t 29,.t 30],
 qm 9 31])
 (.seq
 (.reg 8 none [0,4,6,7,8,9,34] [
 qm 32 9,
 qn 33 32,
 qB 34 .gtr 33 0])
 (qq 34
 (.seq
 (.reg 9 none [6,7] [
 qm 35 8,
 qm 36 9,
 qf 37 1 7,
 .rn (.st 1 (.t 37) (qI 2)),
 qf 38 9 7,
 qs 1 38 35,
 qf 39 10 7,
 qs 1 39 36])
 (.seq
 (.reg 10 none [6] [
 qL 40 17 7,
 qs 17 6 40])
 .ret))
 .skip)))
 (.seq
 (.reg 11 none [0,4,6,7,8,41] [
 qB 42 .eql 21 3,
 qm 41 42])
 (qq 41
 (.seq
 (.reg 12 none [0,4,6,7,8,49] [
 qf 43 1 4,
 ql 44 43,
 qm 45 8,
 qx 46 7 44 45,
 qf 47 3 46,
 ql 48 47,
 qB 49 .geq 48 0])
 (qq 49
 (.seq
 (.reg 13 none [6,7] [
 qm 50 8,
 qm 51 0,
 qL 52 2 4,
 qC 53 qK [.t 51,.t 52,qI 1],
 qf 54 1 7,
 .rn (.st 1 (.t 54) (qI 3)),
 qf 55 9 7,
 qs 1 55 50,
 qf 56 11 7,
 qs 6 56 53])
 (.seq
 (.reg 14 none [6] [
 qL 57 17 7,
 qs 17 6 57])
 .ret))
 .skip))
 .skip))))))))
 (.seq
 (.reg 15 none [6,7] [
 qm 58 0,
 qL 59 2 4,
 qC 60 yf [.t 58,.t 59],
 qf 61 8 7,
 qs 1 61 60])
 (.seq
 (.reg 16 none [6] [
 qL 62 17 7,
 qs 17 6 62])
 .ret))))))
def KW:List (Nat×List Nat):=qy jC
theorem KX:FnIR Tryz.prog jQ 63 KW jC [(.cell 6 (some 17))]:=
 qF Tryz.func58
def ZS:RC:=
 (.seq
 (.reg 0 none [2,3] [
 .r 2 (.box (.t 0)),
 .r 3 (.box (.t 1)),
 qi 4 0])
 (.seq
 (.seq
 (.reg 1 none [2,3,5] [
 qL 11 2 2,
 qC 12 zm [.t 11],
 qm 5 12])
 (.seq
 (.reg 2 none [2,3,5,14] [
 qm 13 5,
 qB 14 .neq 13 0])
 (qq 14
 (.seq
 (.reg 3 none [4] [
 qm 15 5,
 qm 4 15])
 .ret)
 .skip)))
 (.seq
 (.seq
 (.reg 4 none [2,3,25] [
 qf 16 0 3,
 ql 17 16,
 qC 18 jl [.t 17],
 .r 19 (.un .not (.t 18)),
 qm 20 19,
 qff 21 20 1 3,
 qlf 22 20 21,
 .rf 23 20 (.call (.k (.clo jl [])) [.t 22]),
 .rf 24 20 (.un .not (.t 23)),
 qP 25 20 24])
 (qq 25
 (.seq
 (.reg 5 none [4] [
 qi 4 3])
 .ret)
 .skip))
 (.seq
 (.seq
 (.reg 6 none [2,3,6] [
 qL 26 2 2,
 qf 27 2 3,
 qL 28 6 27,
 qC 29 jq [.t 26,.t 28],
 qm 6 29])
 (.seq
 (.reg 7 none [2,3,6,31] [
 qm 30 6,
 qB 31 .neq 30 0])
 (qq 31
 (.seq
 (.reg 8 none [4] [
 qm 32 6,
 qm 4 32])
 .ret)
 .skip)))
 (.seq
 (.reg 9 none [2,3,7] [
 qf 33 8 3,
 qL 34 3 33,
 .r 7 (.new (.agg [.v (.int .i64 0),.v (.int .i64 0),.v (.int .i64 0)])),
 qs 3 7 34])
 (.seq
 (.seq
 (.reg 10 none [2,3,64] [
 qf 35 1 7,
 ql 36 35,
 qB 37 .lss 36 1,
 qm 38 37,
 qff 39 38 1 7,
 qlf 40 38 39,
 .rf 41 38 (.bin .gtr false (.t 40) (qI 1000)),
 qP 42 38 41,
 qm 43 42,
 qff 44 43 0 7,
 qlf 45 43 44,
 .rf 46 43 (.bin .lss false (.t 45) (qI 1)),
 qP 47 43 46,
 qm 48 47,
 qff 49 48 0 7,
 qlf 50 48 49,
 qff 51 48 1 7,
 qlf 52 48 51,
 .rf 53 48 (.bin .gtr false (.t 50) (.t 52)),
 qP 54 48 53,
 qm 55 54,
 qff 56 55 2 7,
 qlf 57 55 56,
 .rf 58 55 (.bin .lss false (.t 57) (qI 0)),
 qP 59 55 58,
 qm 60 59,
 qff 61 60 2 7,
 qlf 62 60 61,
 .rf 63 60 (.bin .gtr false (.t 62) (qI 1099511627776)),
 qP 64 60 63])
 (qq 64
 (.seq
 (.reg 11 none [4] [
 qi 4 2])
 .ret)
 .skip))
 (.seq
 (.seq
 (.reg 12 none [2,3,74] [
 qf 65 11 3,
 ql 66 65,
 qn 67 66,
 qB 68 .lss 67 1,
 qm 69 68,
 qff 70 69 11 3,
 qlf 71 69 70,
 .rf 72 69 (.lenL (.t 71)),
 .rf 73 69 (.bin .gtr false (.t 72) (qI 8)),
 qP 74 69 73])
 (qq 74
 (.seq
 (.reg 13 none [4] [
 qi 4 1])
 .ret)
 .skip))
 (.seq
 (.seq
 (.reg 14 none [2,3,8] [
 qi 8 0])
 (.block 0
 (.loop
 (.seq
 (.seq
 (.reg 15 none [2,3,8,79] [
 qm 75 8,
 qf 76 11 3,
 ql 77 76,
 qn 78 77,
 qb 79 .lss 75 78])
 (qq 79
 .skip
 (.exit 0)))
 (.seq
 (.block 1
 (.seq
 (.seq
 (.reg 17 (some [0,0,2,0,14,30,63,127]) [2,3,8,9] [
 qL 82 2 2,
 qf 83 11 3,
 ql 84 83,
 qm 85 8,
 qx 86 17 84 85,
 qL 87 17 86,
 qC 88 ju [.t 82,.t 87],
 qm 9 88])
 (.seq
 (.reg 18 none [2,3,8,9,90] [
 qm 89 9,
 qB 90 .neq 89 0])
 (qq 90
 (.seq
 (.reg 19 none [4] [
 qm 91 9,
 qm 4 91])
 .ret)
 .skip)))
 (.seq
 (.reg 20 none [2,3,8,10] [
 qi 10 0])
 (.block 2
 (.loop
 (.seq
 (.seq
 (.reg 21 none [2,3,8,10,94] [
 qm 92 10,
 qm 93 8,
 qb 94 .lss 92 93])
 (qq 94
 .skip
 (.exit 2)))
 (.seq
 (.block 3
 (.seq
 (.reg 23 (some [0,1,0,7,15,31,0,64,0,448,960,1984,4095]) [2,3,8,10,109] [
 qf 97 11 3,
 ql 98 97,
 qm 99 10,
 qx 100 17 98 99,
 qf 101 0 100,
 ql 102 101,
 qf 103 11 3,
 ql 104 103,
 qm 105 8,
 qx 106 17 104 105,
 qf 107 0 106,
 ql 108 107,
 qb 109 .eql 102 108])
 (qq 109
 (.seq
 (.reg 24 none [4] [
 qi 4 10])
 .ret)
 .skip)))
 (.reg 22 none [2,3,8,10] [
 qm 95 10,
 qa 96 95,
 qm 10 96]))))))))
 (.reg 16 none [2,3,8] [
 qm 80 8,
 qa 81 80,
 qm 8 81]))))))
 (.seq
 (.reg 25 none [4] [
 qi 4 0])
 .ret)))))))))
def qC4:List (Nat×List Nat):=qy ZS
theorem qC5:FnIR Tryz.prog wx 110 qC4 ZS [(.tmp 4)]:=
 qF Tryz.func59
def ZT:RC:=
 (.seq
 (.reg 0 none [2,3] [
 .r 2 (.box (.t 0)),
 .r 3 (.box (.t 1)),
 .r 4 (.mv (qN))])
 (.seq
 (.seq
 (.reg 1 none [2,3,13] [
 qL 10 2 2,
 qL 11 17 3,
 qC 12 ju [.t 10,.t 11],
 qB 13 .neq 12 0])
 (qq 13
 (.seq
 (.reg 2 none [4] [
 .r 4 (.mv (qN))])
 .ret)
 .skip))
 (.seq
 (.reg 3 none [2,3,5] [
 qL 14 2 2,
 qf 15 2 3,
 qL 16 6 15,
 qC 17 Qn [.t 14,.t 16],
 qm 5 17])
 (.seq
 (.seq
 (.reg 4 none [2,3,5,20] [
 qf 18 1 3,
 ql 19 18,
 qB 20 .eql 19 3])
 (qq 20
 (.seq
 (.reg 5 none [2,3,5,6] [
 qL 21 2 2,
 qf 22 11 3,
 qL 23 6 22,
 qC 24 Qn [.t 21,.t 23],
 qm 6 24])
 (.seq
 (.reg 6 none [2,3,5,6,7] [
 qi 7 0])
 (.block 0
 (.loop
 (.seq
 (.seq
 (.reg 7 none [2,3,5,6,7,28] [
 qm 25 7,
 qm 26 6,
 qn 27 26,
 qb 28 .lss 25 27])
 (qq 28
 .skip
 (.exit 0)))
 (.seq
 (.block 1
 (.reg 9 (some [0,0,0,6,14,30,0,0,192,448,960,2047,4095]) [2,3,5,6,7] [
 qm 31 5,
 qm 32 6,
 qm 33 7,
 qx 34 2 32 33,
 qf 35 0 34,
 ql 36 35,
 qm 37 6,
 qm 38 7,
 qx 39 2 37 38,
 qf 40 1 39,
 ql 41 40,
 qC 42 jn [.t 31,.t 36,.t 41],
 qm 5 42]))
 (.reg 8 none [2,3,5,6,7] [
 qm 29 7,
 qa 30 29,
 qm 7 30])))))))
 .skip))
 (.seq
 (.seq
 (.reg 10 none [2,3,5,8] [
 qi 8 0])
 (.block 2
 (.loop
 (.seq
 (.seq
 (.reg 11 none [2,3,5,8,47] [
 qm 43 8,
 qf 44 8 3,
 ql 45 44,
 qn 46 45,
 qb 47 .lss 43 46])
 (qq 47
 .skip
 (.exit 2)))
 (.seq
 (.block 3
 (.reg 13 (some [0,0,2,0,14,30,62,0,0,256,0,1792,3840,7936,0,16384,0,114688,245760,507904,1048448,2097151,4194303]) [2,3,5,8] [
 qm 50 5,
 qf 51 8 3,
 ql 52 51,
 qm 53 8,
 qx 54 2 52 53,
 qf 55 0 54,
 ql 56 55,
 qL 57 2 2,
 qf 58 8 3,
 ql 59 58,
 qm 60 8,
 qx 61 2 59 60,
 qf 62 0 61,
 ql 63 62,
 qf 64 8 3,
 ql 65 64,
 qm 66 8,
 qx 67 2 65 66,
 qf 68 1 67,
 ql 69 68,
 qC 70 Qo [.t 57,.t 63,.t 69],
 qC 71 jn [.t 50,.t 56,.t 70],
 qm 5 71]))
 (.reg 12 none [2,3,5,8] [
 qm 48 8,
 qa 49 48,
 qm 8 49]))))))
 (.seq
 (.seq
 (.reg 14 none [2,3,5,9] [
 qi 9 1])
 (.block 4
 (.loop
 (.seq
 (.seq
 (.reg 15 none [2,3,5,9,76] [
 qm 72 9,
 qf 73 1 2,
 ql 74 73,
 qn 75 74,
 qb 76 .lss 72 75])
 (qq 76
 .skip
 (.exit 4)))
 (.seq
 (.block 5
 (.seq
 (.reg 17 none [2,3,5,9,81] [
 qL 79 17 3,
 qm 80 9,
 qC 81 Wr [.t 79,.t 80]])
 (qq 81
 (.reg 18 (some [0,0,0,0,0,0,48,124,255,511]) [2,3,5,9] [
 qm 82 5,
 qm 83 9,
 qL 84 2 2,
 qm 85 9,
 qL 86 2 2,
 qm 87 9,
 qC 88 zX [.t 86,.t 87],
 qC 89 Qo [.t 84,.t 85,.t 88],
 qC 90 jn [.t 82,.t 83,.t 89],
 qm 5 90])
 .skip)))
 (.reg 16 none [2,3,5,9] [
 qm 77 9,
 qa 78 77,
 qm 9 78]))))))
 (.seq
 (.reg 19 none [4] [
 qm 91 5,
 qm 4 91])
 .ret)))))))
def qC6:List (Nat×List Nat):=qy ZT
theorem qC7:FnIR Tryz.prog Ql 92 qC6 ZT [(.tmp 4)]:=
 qF Tryz.func60
def ZU:RC:=
 (.seq
 (.reg 0 none [0,1,2] [
 .r 6 (.mv (qN))])
 (.seq
 (.reg 1 none [0,1,2,7] [
 .r 7 (.mv (qN))])
 (.seq
 (.reg 2 none [0,1,2,7,8] [
 qm 11 2,
 qB 12 .leq 11 0,
 qm 8 12])
 (.seq
 (.seq
 (.reg 3 none [0,1,2,7,8,9] [
 qi 9 0])
 (.block 0
 (.loop
 (.seq
 (.seq
 (.reg 4 none [0,1,2,7,8,9,16] [
 qm 13 9,
 qm 14 0,
 qn 15 14,
 qb 16 .lss 13 15])
 (qq 16
 .skip
 (.exit 0)))
 (.seq
 (.block 1
 (.seq
 (.reg 6 none [0,1,2,7,8,9,10] [
 qm 19 0,
 qm 20 9,
 qx 21 2 19 20,
 qL 22 2 21,
 .r 10 (.new (.agg [.v (.int .i64 0),.v (.int .i64 0)])),
 qs 2 10 22])
 (.seq
 (.seq
 (.reg 7 none [0,1,2,7,8,9,10,30] [
 qf 23 0 10,
 ql 24 23,
 qm 25 1,
 qb 26 .gtr 24 25,
 qm 27 26,
 qmt 28 27 8,
 .rt 29 27 (.un .not (.t 28)),
 qp 30 27 29])
 (qq 30
 (.reg 8 none [0,1,2,7,8,9,10] [
 qm 31 7,
 qm 32 1,
 qm 33 2,
 .r 34 (.build [.v (.int .i64 0),.v (.int .i64 0)] [((0,1),.t 32),((1,1),.t 33)]),
 .r 35 (.bsl 2 1 [.t 34]),
 .r 36 (.app 2 16 false (.t 31) (.t 35)),
 qm 7 36,
 qc 8 true])
 .skip))
 (.seq
 (.seq
 (.reg 9 none [0,1,2,7,8,9,10,40] [
 qf 37 0 10,
 ql 38 37,
 qm 39 1,
 qb 40 .eql 38 39])
 (qq 40
 (.reg 10 none [0,1,2,7,8,9,10] [
 qf 41 1 10,
 ql 42 41,
 qm 43 2,
 .r 44 (.mx [.t 42,.t 43]),
 qf 45 1 10,
 qs 1 45 44,
 qc 8 true])
 .skip))
 (.reg 11 none [0,1,2,7,8,9] [
 qm 46 7,
 qL 47 2 10,
 .r 48 (.bsl 2 1 [.t 47]),
 .r 49 (.app 2 16 false (.t 46) (.t 48)),
 qm 7 49])))))
 (.reg 5 none [0,1,2,7,8,9] [
 qm 17 9,
 qa 18 17,
 qm 9 18]))))))
 (.seq
 (.seq
 (.reg 12 none [1,2,7,51] [
 qm 50 8,
 .r 51 (.un .not (.t 50))])
 (qq 51
 (.reg 13 none [7] [
 qm 52 7,
 qm 53 1,
 qm 54 2,
 .r 55 (.build [.v (.int .i64 0),.v (.int .i64 0)] [((0,1),.t 53),((1,1),.t 54)]),
 .r 56 (.bsl 2 1 [.t 55]),
 .r 57 (.app 2 16 false (.t 52) (.t 56)),
 qm 7 57])
 .skip))
 (.seq
 (.reg 14 none [6] [
 qm 58 7,
 qm 6 58])
 .ret))))))
def qC8:List (Nat×List Nat):=qy ZU
theorem qC9:FnIR Tryz.prog jn 59 qC8 ZU [(.tmp 6)]:=
 qF Tryz.func61
def wL:RC:=
 (.seq
 (.reg 0 none [0,3,4] [
 .r 3 (.box (.t 1)),
 .r 4 (.new (.agg [.v (.int .i64 0),.v (.slice none 0 0),.v (.int .i64 0)]))])
 (.seq
 (.reg 1 none [0,3,4,5] [
 qm 6 0,
 qC 7 qz [.t 6,qI 1,qI 4],
 qm 8 0,
 qC 9 qz [.t 8,qI 1,qI 60],
 .r 10 (.build [.v (.int .i64 0),.v (.slice none 0 0),.v (.int .i64 0)] [((0,1),.t 7),((2,1),.t 9)]),
 .r 5 (.new (.agg [.v (.int .i64 0),.v (.slice none 0 0),.v (.int .i64 0)])),
 qs 3 5 10])
 (.seq
 (.seq
 (.reg 2 none [0,3,4,5,18] [
 qf 11 2 3,
 ql 12 11,
 qn 13 12,
 qB 14 .gtr 13 0,
 qm 15 14,
 qmt 16 15 0,
 .rt 17 15 (.call (.k (.clo qG [])) [.t 16,qI 2]),
 qp 18 15 17])
 (qq 18
 (.reg 3 (some [0,1,0,0,8,24,60,127,255,511,1023,2047,4095]) [0,3,4,5] [
 qf 19 2 3,
 ql 20 19,
 qm 21 0,
 qf 22 2 3,
 ql 23 22,
 qn 24 23,
 qC 25 qo [.t 21,.t 24],
 qx 26 1 20 25,
 ql 27 26,
 .r 28 (.ixL 1 (.t 27) (qI 0)),
 ql 29 28,
 qf 30 2 5,
 qs 1 30 29])
 .skip))
 (.seq
 (.seq
 (.reg 4 none [0,3,4,5,33] [
 qf 31 0 5,
 ql 32 31,
 qB 33 .leq 32 2])
 (qq 33
 (.seq
 (.reg 5 none [4,5] [
 qm 34 0,
 qf 35 0 3,
 qL 36 2 35,
 qC 37 zL [.t 34,.t 36],
 qf 38 1 5,
 qs 1 38 37])
 (.seq
 (.seq
 (.reg 6 none [4,5,41] [
 qf 39 0 5,
 ql 40 39,
 qB 41 .eql 40 2])
 (qq 41
 (.reg 7 none [4,5] [
 qf 42 1 5,
 ql 43 42,
 qf 44 2 5,
 ql 45 44,
 .r 46 (.ixL 1 (.t 43) (qI 0)),
 qs 1 46 45])
 .skip))
 (.reg 8 none [4,5] [
 qf 47 2 5,
 .rn (.st 1 (.t 47) (qI 0))])))
 .skip))
 (.seq
 (.reg 9 none [4] [
 qL 48 3 5,
 qs 3 4 48])
 .ret)))))
def qf8:List (Nat×List Nat):=qy wL
theorem qf9:FnIR Tryz.prog ye 49 qf8 wL [(.cell 4 (some 3))]:=
 qF Tryz.func62
def ZV:RC:=
 (.seq
 (.reg 0 none [2,3,4] [
 .r 2 (.box (.t 0)),
 .r 3 (.box (.t 1)),
 .r 4 (.new (.agg [.v (.slice none 0 0),.v (.slice none 0 0),.v (.slice none 0 0),.v (.slice none 0 0),.v (.int .i64 0)])),
 qi 5 0])
 (.seq
 (.seq
 (.reg 1 none [2,3,4,16] [
 qL 9 5 2,
 qC 10 wy [.t 9],
 .r 11 (.un .not (.t 10)),
 qm 12 11,
 qff 13 12 4 2,
 qlf 14 12 13,
 .rf 15 12 (.bin .eql false (.t 14) (qI 300)),
 qP 16 12 15])
 (qq 16
 (.seq
 (.reg 2 none [4,5] [
 .r 17 (.build [.v (.slice none 0 0),.v (.slice none 0 0),.v (.slice none 0 0),.v (.slice none 0 0),.v (.int .i64 0)] []),
 qs 5 4 17,
 qi 5 13])
 .ret)
 .skip))
 (.seq
 (.reg 3 none [2,3,4,6] [
 qf 18 0 2,
 qL 19 2 18,
 qf 20 2 2,
 ql 21 20,
 qf 22 3 2,
 ql 23 22,
 qf 24 4 2,
 ql 25 24,
 qa 26 25,
 .r 27 (.build [.v (.slice none 0 0),.v (.slice none 0 0),.v (.slice none 0 0),.v (.slice none 0 0),.v (.int .i64 0)] [((0,2),.t 19),((2,1),.t 21),((3,1),.t 23),((4,1),.t 26)]),
 .r 6 (.new (.agg [.v (.slice none 0 0),.v (.slice none 0 0),.v (.slice none 0 0),.v (.slice none 0 0),.v (.int .i64 0)])),
 qs 5 6 27])
 (.seq
 (.seq
 (.reg 4 none [2,3,4,6,29] [
 qf 28 0 3,
 ql 29 28])
 (.block 0
 (.seq
 (.seq
 (.reg 6 none [2,3,4,6,29,31] [
 qB 32 .eql 29 1,
 qm 31 32])
 (qq 31
 .skip
 (.reg 7 none [2,3,4,6,29,31] [
 qB 33 .eql 29 2,
 qm 31 33])))
 (qq 31
 (.seq
 (.seq
 (.reg 8 none [2,3,4,6,7] [
 qf 34 0 2,
 qL 35 2 34,
 qf 36 1 3,
 ql 37 36,
 qC 38 QN [.t 35,.t 37],
 qm 7 38])
 (.seq
 (.reg 9 none [2,3,4,6,7,40] [
 qm 39 7,
 qB 40 .neq 39 0])
 (qq 40
 (.seq
 (.reg 10 none [4,5] [
 .r 41 (.build [.v (.slice none 0 0),.v (.slice none 0 0),.v (.slice none 0 0),.v (.slice none 0 0),.v (.int .i64 0)] []),
 qm 42 7,
 qs 5 4 41,
 qm 5 42])
 .ret)
 .skip)))
 (.seq
 (.seq
 (.reg 11 (some [0,1,0,4,12,28,63]) [2,3,4,6,49] [
 qf 43 3 2,
 ql 44 43,
 qf 45 1 3,
 ql 46 45,
 .r 47 (.ixL 1 (.t 46) (qI 0)),
 ql 48 47,
 qC 49 jP [.t 44,.t 48]])
 (qq 49
 (.seq
 (.reg 12 none [4,5] [
 .r 50 (.build [.v (.slice none 0 0),.v (.slice none 0 0),.v (.slice none 0 0),.v (.slice none 0 0),.v (.int .i64 0)] []),
 qs 5 4 50,
 qi 5 20])
 .ret)
 .skip))
 (.seq
 (.reg 13 (some [0,0,2,6,14,31,63,127]) [2,3,4,6,8] [
 qL 51 5 2,
 qf 52 1 3,
 ql 53 52,
 .r 54 (.ixL 1 (.t 53) (qI 0)),
 ql 55 54,
 qC 56 wd [.t 51,.t 55],
 qB 57 .geq 56 0,
 qm 8 57])
 (.seq
 (.seq
 (.reg 14 none [2,3,4,6,8,63] [
 qf 58 0 3,
 ql 59 58,
 qB 60 .eql 59 1,
 qm 61 60,
 qmt 62 61 8,
 qp 63 61 62])
 (qq 63
 (.seq
 (.reg 15 none [4,5] [
 .r 64 (.build [.v (.slice none 0 0),.v (.slice none 0 0),.v (.slice none 0 0),.v (.slice none 0 0),.v (.int .i64 0)] []),
 qs 5 4 64,
 qi 5 10])
 .ret)
 .skip))
 (.seq
 (.seq
 (.reg 16 none [2,3,4,6,8,73] [
 qf 65 0 3,
 ql 66 65,
 qB 67 .eql 66 1,
 qm 68 67,
 qft 69 68 2 2,
 qlt 70 68 69,
 .rt 71 68 (.lenL (.t 70)),
 .rt 72 68 (.bin .eql false (.t 71) (qI 200)),
 qp 73 68 72])
 (qq 73
 (.seq
 (.reg 17 none [4,5] [
 .r 74 (.build [.v (.slice none 0 0),.v (.slice none 0 0),.v (.slice none 0 0),.v (.slice none 0 0),.v (.int .i64 0)] []),
 qs 5 4 74,
 qi 5 1])
 .ret)
 .skip))
 (.seq
 (.seq
 (.reg 18 none [2,3,4,6,81] [
 qf 75 0 3,
 ql 76 75,
 qB 77 .eql 76 2,
 qm 78 77,
 qmt 79 78 8,
 .rt 80 78 (.un .not (.t 79)),
 qp 81 78 80])
 (qq 81
 (.seq
 (.reg 19 none [4,5] [
 .r 82 (.build [.v (.slice none 0 0),.v (.slice none 0 0),.v (.slice none 0 0),.v (.slice none 0 0),.v (.int .i64 0)] []),
 qs 5 4 82,
 qi 5 19])
 .ret)
 .skip))
 (.reg 20 (some [0,1,0,4,12,31,63,127]) [4,6] [
 qf 83 2 2,
 ql 84 83,
 qf 85 1 3,
 ql 86 85,
 .r 87 (.app 1 8 false (qN) (.t 86)),
 qC 88 yd [.t 84,.t 87],
 qf 89 2 6,
 qs 1 89 88])))))))
 (.seq
 (.reg 21 none [2,3,4,6,29,90] [
 qB 91 .eql 29 3,
 qm 90 91])
 (qq 90
 (.seq
 (.seq
 (.reg 22 none [2,3,4,6,96] [
 qL 92 5 2,
 qf 93 2 3,
 ql 94 93,
 qC 95 wd [.t 92,.t 94],
 qB 96 .lss 95 0])
 (qq 96
 (.seq
 (.reg 23 none [4,5] [
 .r 97 (.build [.v (.slice none 0 0),.v (.slice none 0 0),.v (.slice none 0 0),.v (.slice none 0 0),.v (.int .i64 0)] []),
 qs 5 4 97,
 qi 5 19])
 .ret)
 .skip))
 (.reg 24 none [4,6] [
 qf 98 2 2,
 ql 99 98,
 qf 100 2 3,
 ql 101 100,
 qC 102 Zw [.t 99,.t 101],
 qf 103 2 6,
 qs 1 103 102]))
 (.seq
 (.reg 25 none [2,3,4,6,104] [
 qB 105 .eql 29 4,
 qm 104 105])
 (qq 104
 (.seq
 (.seq
 (.reg 26 none [2,3,4,6,113] [
 qf 106 2 3,
 ql 107 106,
 qB 108 .lss 107 1,
 qm 109 108,
 qff 110 109 2 3,
 qlf 111 109 110,
 .rf 112 109 (.bin .gtr false (.t 111) (qI 1048575)),
 qP 113 109 112])
 (qq 113
 (.seq
 (.reg 27 none [4,5] [
 .r 114 (.build [.v (.slice none 0 0),.v (.slice none 0 0),.v (.slice none 0 0),.v (.slice none 0 0),.v (.int .i64 0)] []),
 qs 5 4 114,
 qi 5 2])
 .ret)
 .skip))
 (.seq
 (.seq
 (.reg 28 none [2,3,4,6,119] [
 qf 115 3 2,
 ql 116 115,
 qf 117 2 3,
 ql 118 117,
 qC 119 jP [.t 116,.t 118]])
 (qq 119
 (.seq
 (.reg 29 none [4,5] [
 .r 120 (.build [.v (.slice none 0 0),.v (.slice none 0 0),.v (.slice none 0 0),.v (.slice none 0 0),.v (.int .i64 0)] []),
 qs 5 4 120,
 qi 5 20])
 .ret)
 .skip))
 (.seq
 (.reg 30 none [2,3,4,6] [
 qf 121 2 2,
 ql 122 121,
 qf 123 2 3,
 ql 124 123,
 qC 125 Zw [.t 122,.t 124],
 qf 126 2 6,
 qs 1 126 125])
 (.reg 31 none [4,6] [
 qf 127 3 2,
 ql 128 127,
 qf 129 2 3,
 ql 130 129,
 qC 131 YT [.t 128,.t 130],
 qf 132 3 6,
 qs 1 132 131]))))
 (.seq
 (.reg 5 none [4,5] [
 .r 30 (.build [.v (.slice none 0 0),.v (.slice none 0 0),.v (.slice none 0 0),.v (.slice none 0 0),.v (.int .i64 0)] []),
 qs 5 4 30,
 qi 5 4])
 .ret)))))))))
 (.seq
 (.reg 32 none [4,5] [
 qL 133 5 6,
 qs 5 4 133,
 qi 5 0])
 .ret)))))
def qD0:List (Nat×List Nat):=qy ZV
theorem qD1:FnIR Tryz.prog Qm 134 qD0 ZV [(.cell 4 (some 5)),(.tmp 5)]:=
 qF Tryz.func63
def ZW:RC:=
 (.seq
 (.reg 0 none [1] [
 .r 1 (.box (.t 0)),
 qc 2 false])
 (.seq
 (.seq
 (.reg 1 none [1,30] [
 qf 5 0 1,
 qL 6 2 5,
 qC 7 zm [.t 6],
 qB 8 .neq 7 0,
 qm 9 8,
 qff 10 9 2 1,
 qlf 11 9 10,
 .rf 12 9 (.lenL (.t 11)),
 .rf 13 9 (.bin .gtr false (.t 12) (qI 200)),
 qP 14 9 13,
 qm 15 14,
 qff 16 15 3 1,
 qlf 17 15 16,
 .rf 18 15 (.lenL (.t 17)),
 .rf 19 15 (.bin .gtr false (.t 18) (qI 300)),
 qP 20 15 19,
 qm 21 20,
 qff 22 21 4 1,
 qlf 23 21 22,
 .rf 24 21 (.bin .lss false (.t 23) (qI 0)),
 qP 25 21 24,
 qm 26 25,
 qff 27 26 4 1,
 qlf 28 26 27,
 .rf 29 26 (.bin .gtr false (.t 28) (qI 300)),
 qP 30 26 29])
 (qq 30
 (.seq
 (.reg 2 none [2] [
 qc 2 false])
 .ret)
 .skip))
 (.seq
 (.seq
 (.reg 3 none [1,3] [
 qi 3 0])
 (.block 0
 (.loop
 (.seq
 (.seq
 (.reg 4 none [1,3,35] [
 qm 31 3,
 qf 32 2 1,
 ql 33 32,
 qn 34 33,
 qb 35 .lss 31 34])
 (qq 35
 .skip
 (.exit 0)))
 (.seq
 (.block 1
 (.seq
 (.reg 6 (some [0,1,0,4,0,28,60,127,255,511,1023,2047,4095,8191,16383,8191,65535,131071,262143,524287,8191,1056767,8191,4202495,15736831,32514047,66068479,133177343,268435455,536870911,1073741823]) [1,3,68] [
 qf 38 0 1,
 qL 39 2 38,
 qf 40 2 1,
 ql 41 40,
 qm 42 3,
 qx 43 1 41 42,
 ql 44 43,
 qC 45 QN [.t 39,.t 44],
 qB 46 .neq 45 0,
 qm 47 46,
 qmf 48 47 3,
 .rf 49 47 (.bin .gtr false (.t 48) (qI 0)),
 qmf 50 47 49,
 qft 51 50 2 1,
 qlt 52 50 51,
 qmt 53 50 3,
 .rt 54 50 (.ixL 1 (.t 52) (.t 53)),
 qlt 55 50 54,
 .rt 56 50 (.ixL 1 (.t 55) (qI 0)),
 qlt 57 50 56,
 qft 58 50 2 1,
 qlt 59 50 58,
 qmt 60 50 3,
 .rt 61 50 (.bin .sub false (.t 60) (qI 1)),
 .rt 62 50 (.ixL 1 (.t 59) (.t 61)),
 qlt 63 50 62,
 .rt 64 50 (.ixL 1 (.t 63) (qI 0)),
 qlt 65 50 64,
 .rt 66 50 (.bin .leq false (.t 57) (.t 65)),
 .rf 67 47 (.pick (.t 50) (.t 66) (.k (.v (.bool false)))),
 qP 68 47 67])
 (qq 68
 (.seq
 (.reg 7 none [2] [
 qc 2 false])
 .ret)
 .skip)))
 (.reg 5 none [1,3] [
 qm 36 3,
 qa 37 36,
 qm 3 37]))))))
 (.seq
 (.seq
 (.reg 8 none [1,4] [
 qi 4 0])
 (.block 2
 (.loop
 (.seq
 (.seq
 (.reg 9 none [1,4,73] [
 qm 69 4,
 qf 70 3 1,
 ql 71 70,
 qn 72 71,
 qb 73 .lss 69 72])
 (qq 73
 .skip
 (.exit 2)))
 (.seq
 (.block 3
 (.seq
 (.reg 11 (some [0,1,0,7,15,31,63,127,255,127,1023,2047,4095,8191,16383,32767,65535,131071,262143,524287,262143,2097151,4194303,262143,8650751,262143,33816575,126091263,260308991,536870911,1073741823,2147483647,4294967295,8589934591,8589934591,25769803775,8589934591,128849018879,266287972351,549755813887,1099511627775,2199023255551]) [1,4,117] [
 qf 76 3 1,
 ql 77 76,
 qm 78 4,
 qx 79 1 77 78,
 ql 80 79,
 qB 81 .lss 80 1,
 qm 82 81,
 qff 83 82 3 1,
 qlf 84 82 83,
 qmf 85 82 4,
 .rf 86 82 (.ixL 1 (.t 84) (.t 85)),
 qlf 87 82 86,
 .rf 88 82 (.bin .gtr false (.t 87) (qI 1048575)),
 qP 89 82 88,
 qm 90 89,
 qmf 91 90 4,
 .rf 92 90 (.bin .gtr false (.t 91) (qI 0)),
 qmf 93 90 92,
 qft 94 93 3 1,
 qlt 95 93 94,
 qmt 96 93 4,
 .rt 97 93 (.ixL 1 (.t 95) (.t 96)),
 qlt 98 93 97,
 qft 99 93 3 1,
 qlt 100 93 99,
 qmt 101 93 4,
 .rt 102 93 (.bin .sub false (.t 101) (qI 1)),
 .rt 103 93 (.ixL 1 (.t 100) (.t 102)),
 qlt 104 93 103,
 .rt 105 93 (.bin .leq false (.t 98) (.t 104)),
 .rf 106 90 (.pick (.t 93) (.t 105) (.k (.v (.bool false)))),
 qP 107 90 106,
 qm 108 107,
 .rf 109 108 (.ld (some 5) (.t 1)),
 qff 110 108 3 1,
 qlf 111 108 110,
 qmf 112 108 4,
 .rf 113 108 (.ixL 1 (.t 111) (.t 112)),
 qlf 114 108 113,
 .rf 115 108 (.call (.k (.clo wd [])) [.t 109,.t 114]),
 .rf 116 108 (.bin .geq false (.t 115) (qI 0)),
 qP 117 108 116])
 (qq 117
 (.seq
 (.reg 12 none [2] [
 qc 2 false])
 .ret)
 .skip)))
 (.reg 10 none [1,4] [
 qm 74 4,
 qa 75 74,
 qm 4 75]))))))
 (.seq
 (.reg 13 none [2] [
 qc 2 true])
 .ret)))))
def qD2:List (Nat×List Nat):=qy ZW
theorem qD3:FnIR Tryz.prog wy 118 qD2 ZW [(.tmp 2)]:=
 qF Tryz.func64
def ZX:RC:=
 (.seq
 (.reg 0 none [2,3,4] [
 .r 3 (.box (.t 0)),
 .r 4 (.box (.t 1)),
 qi 6 0])
 (.seq
 (.seq
 (.reg 1 none [2,3,4,7] [
 qL 10 2 3,
 qL 11 12 4,
 qC 12 wx [.t 10,.t 11],
 qm 7 12])
 (.seq
 (.reg 2 none [2,3,4,7,14] [
 qm 13 7,
 qB 14 .neq 13 0])
 (qq 14
 (.seq
 (.reg 3 none [6] [
 qm 15 7,
 qm 6 15])
 .ret)
 .skip)))
 (.seq
 (.seq
 (.reg 4 none [2,3,4,8] [
 qL 16 2 3,
 qm 17 2,
 qC 18 Qp [.t 16,.t 17],
 qm 8 18])
 (.seq
 (.reg 5 none [2,3,4,8,20] [
 qm 19 8,
 qB 20 .neq 19 0])
 (qq 20
 (.seq
 (.reg 6 none [6] [
 qm 21 8,
 qm 6 21])
 .ret)
 .skip)))
 (.seq
 (.seq
 (.reg 7 none [2,3,4,9] [
 qi 9 0])
 (.block 0
 (.loop
 (.seq
 (.seq
 (.reg 8 none [2,3,4,9,26] [
 qm 22 9,
 qf 23 11 4,
 ql 24 23,
 qn 25 24,
 qb 26 .lss 22 25])
 (qq 26
 .skip
 (.exit 0)))
 (.seq
 (.block 1
 (.seq
 (.reg 10 (some [0,0,2,0,14,30,0,127,255]) [2,3,4,9,37] [
 qL 29 2 3,
 qf 30 11 4,
 ql 31 30,
 qm 32 9,
 qx 33 17 31 32,
 qL 34 17 33,
 qm 35 2,
 qC 36 QO [.t 29,.t 34,.t 35],
 .r 37 (.un .not (.t 36))])
 (qq 37
 (.seq
 (.reg 11 none [6] [
 qi 6 23])
 .ret)
 .skip)))
 (.reg 9 none [2,3,4,9] [
 qm 27 9,
 qa 28 27,
 qm 9 28]))))))
 (.seq
 (.reg 12 none [6] [
 qi 6 0])
 .ret)))))
def qD4:List (Nat×List Nat):=qy ZX
theorem qD5:FnIR Tryz.prog Kd 38 qD4 ZX [(.tmp 6)]:=
 qF Tryz.func65
def Za:RC:=
 (.seq
 (.reg 0 none [2,3] [
 .r 2 (.box (.t 0)),
 .r 3 (.box (.t 1)),
 .r 4 (.mv (qN))])
 (.seq
 (.seq
 (.reg 1 none [2,3,16] [
 qL 7 5 2,
 qC 8 wy [.t 7],
 .r 9 (.un .not (.t 8)),
 qm 10 9,
 qff 11 10 0 2,
 .rf 12 10 (.ld (some 2) (.t 11)),
 .rf 13 10 (.ld (some 12) (.t 3)),
 .rf 14 10 (.call (.k (.clo wx [])) [.t 12,.t 13]),
 .rf 15 10 (.bin .neq false (.t 14) (qI 0)),
 qP 16 10 15])
 (qq 16
 (.seq
 (.reg 2 none [4] [
 .r 4 (.mv (qN))])
 .ret)
 .skip))
 (.seq
 (.reg 3 none [2,3,5] [
 .r 5 (.mv (qN))])
 (.seq
 (.seq
 (.reg 4 none [2,3,5,6] [
 qi 6 0])
 (.block 0
 (.loop
 (.seq
 (.seq
 (.reg 5 none [2,3,5,6,21] [
 qm 17 6,
 qf 18 2 2,
 ql 19 18,
 qn 20 19,
 qb 21 .lss 17 20])
 (qq 21
 .skip
 (.exit 0)))
 (.seq
 (.block 1
 (.seq
 (.reg 7 (some [0,1,0,4,0,16,0,112,240,511,1023,2047,4095,8191,4095,20479,4095,118783,249855,511999,1036287,2097151,4194303]) [2,3,5,6,46] [
 qf 24 0 2,
 qL 25 2 24,
 qf 26 2 3,
 qL 27 6 26,
 qf 28 2 2,
 ql 29 28,
 qm 30 6,
 qx 31 1 29 30,
 ql 32 31,
 qC 33 Ws [.t 25,.t 27,.t 32],
 qB 34 .eql 33 1,
 qm 35 34,
 qft 36 35 8 3,
 .rt 37 35 (.ld (some 3) (.t 36)),
 qft 38 35 2 2,
 qlt 39 35 38,
 qmt 40 35 6,
 .rt 41 35 (.ixL 1 (.t 39) (.t 40)),
 qlt 42 35 41,
 .rt 43 35 (.ixL 1 (.t 42) (qI 0)),
 qlt 44 35 43,
 .rt 45 35 (.call (.k (.clo qk9 [])) [.t 37,.t 44]),
 qp 46 35 45])
 (qq 46
 (.reg 8 none [2,3,5,6] [
 qm 47 5,
 qf 48 2 2,
 ql 49 48,
 qm 50 6,
 qx 51 1 49 50,
 ql 52 51,
 .r 53 (.ixL 1 (.t 52) (qI 0)),
 ql 54 53,
 .r 55 (.bsl 1 1 [.t 54]),
 .r 56 (.app 1 8 false (.t 47) (.t 55)),
 qm 5 56])
 .skip)))
 (.reg 6 none [2,3,5,6] [
 qm 22 6,
 qa 23 22,
 qm 6 23]))))))
 (.seq
 (.reg 9 none [4] [
 qm 57 5,
 qm 4 57])
 .ret)))))
def qw5:List (Nat×List Nat):=qy Za
theorem qw6:FnIR Tryz.prog ZJ 58 qw5 Za [(.tmp 4)]:=
 qF Tryz.func66
def Ks:RC:=
 (.seq
 (.reg 0 none [1,2] [
 .r 2 (.box (.t 0)),
 qi 4 0])
 (.seq
 (.seq
 (.reg 1 none [1,2,5] [
 qi 5 0])
 (.block 0
 (.loop
 (.seq
 (.seq
 (.reg 2 none [1,2,5,10] [
 qm 6 5,
 qf 7 2 2,
 ql 8 7,
 qn 9 8,
 qb 10 .lss 6 9])
 (qq 10
 .skip
 (.exit 0)))
 (.seq
 (.block 1
 (.seq
 (.reg 4 none [1,2,5,30] [
 qf 13 2 2,
 ql 14 13,
 qm 15 5,
 qx 16 1 14 15,
 ql 17 16,
 qn 18 17,
 qB 19 .gtr 18 0,
 qm 20 19,
 qft 21 20 2 2,
 qlt 22 20 21,
 qmt 23 20 5,
 .rt 24 20 (.ixL 1 (.t 22) (.t 23)),
 qlt 25 20 24,
 .rt 26 20 (.ixL 1 (.t 25) (qI 0)),
 qlt 27 20 26,
 qmt 28 20 1,
 .rt 29 20 (.bin .eql false (.t 27) (.t 28)),
 qp 30 20 29])
 (qq 30
 (.seq
 (.reg 5 none [4] [
 qm 31 5,
 qm 4 31])
 .ret)
 .skip)))
 (.reg 3 none [1,2,5] [
 qm 11 5,
 qa 12 11,
 qm 5 12]))))))
 (.seq
 (.reg 6 none [4] [
 .r 4 (.mv (.k (.v (.int .i64 (-1)))))])
 .ret)))
def qR5:List (Nat×List Nat):=qy Ks
theorem qR6:FnIR Tryz.prog wd 32 qR5 Ks [(.tmp 4)]:=
 qF Tryz.func67
def WF:RC:=
 (.seq
 (.reg 0 none [0,1] [
 qi 4 0])
 (.seq
 (.seq
 (.reg 1 none [0,1,11] [
 qm 8 0,
 qm 9 1,
 qC 10 Kf [.t 8,.t 9],
 .r 11 (.un .not (.t 10))])
 (qq 11
 (.seq
 (.reg 2 none [4] [
 .r 4 (.mv (.k (.v (.int .i64 (-1)))))])
 .ret)
 .skip))
 (.seq
 (.reg 3 none [0,5,6] [
 qm 12 1,
 qB 13 .quo 12 1024,
 qm 14 1,
 qB 15 .rem 14 1024,
 qm 5 13,
 qm 6 15])
 (.seq
 (.seq
 (.reg 4 none [0,5,6,7] [
 qi 7 0])
 (.block 0
 (.loop
 (.seq
 (.seq
 (.reg 5 none [0,5,6,7,17] [
 qm 16 7,
 qB 17 .leq 16 7])
 (qq 17
 .skip
 (.exit 0)))
 (.seq
 (.block 1
 (.reg 7 none [0,5,6,7] [
 qm 20 6,
 qm 21 5,
 qm 22 0,
 qm 23 7,
 qm 24 6,
 qC 25 Kg [.t 22,.t 23,.t 24],
 qb 26 .xor 21 25,
 qm 5 20,
 qm 6 26]))
 (.reg 6 none [0,5,6,7] [
 qm 18 7,
 qa 19 18,
 qm 7 19]))))))
 (.seq
 (.reg 8 none [4] [
 qm 27 5,
 qB 28 .mul 27 1024,
 qm 29 6,
 qb 30 .add 28 29,
 qm 4 30])
 .ret)))))
def zf9:List (Nat×List Nat):=qy WF
theorem zg0:FnIR Tryz.prog YS 31 zf9 WF [(.tmp 4)]:=
 qF Tryz.func68
def Zb:RC:=
 (.seq
 (.reg 0 none [1,2,3,4] [
 .r 4 (.box (.t 0)),
 qi 8 0])
 (.seq
 (.seq
 (.reg 1 none [1,2,3,4,16] [
 qm 11 2,
 qL 12 2 4,
 qm 13 1,
 qC 14 zX [.t 12,.t 13],
 qC 15 zA [.t 11,qI 0,.t 14],
 .r 16 (.un .not (.t 15))])
 (qq 16
 (.seq
 (.reg 2 none [8] [
 .r 8 (.mv (.k (.v (.int .i64 (-1)))))])
 .ret)
 .skip))
 (.seq
 (.reg 3 none [1,2,3,4,9] [
 qf 17 1 4,
 ql 18 17,
 qm 19 1,
 qx 20 7 18 19,
 qL 21 7 20,
 .r 9 (.new (.agg [.v (.string ⟨#[]⟩),.v (.int .i64 0),.v (.int .i64 0),.v (.int .i64 0),.v (.int .i64 0),.v (.slice none 0 0),.v (.bool false)])),
 qs 7 9 21])
 (.seq
 (.seq
 (.reg 4 none [1,2,3,4,9,24] [
 qf 22 1 9,
 ql 23 22,
 qB 24 .eql 23 2])
 (qq 24
 (.seq
 (.seq
 (.reg 5 none [2,3,4,9,29] [
 qL 25 2 4,
 qm 26 1,
 qm 27 3,
 qC 28 Qq [.t 25,.t 26,.t 27],
 .r 29 (.un .not (.t 28))])
 (qq 29
 (.seq
 (.reg 6 none [8] [
 .r 8 (.mv (.k (.v (.int .i64 (-1)))))])
 .ret)
 .skip))
 (.seq
 (.reg 7 none [8] [
 qf 30 0 4,
 ql 31 30,
 qf 32 2 9,
 ql 33 32,
 qx 34 2 31 33,
 qL 35 2 34,
 qm 36 3,
 qm 37 2,
 qC 38 Yg [.t 35,.t 36,.t 37],
 qm 8 38])
 .ret))
 .skip))
 (.seq
 (.seq
 (.reg 8 none [2,3,9,45] [
 qm 39 3,
 .r 40 (.bin .neq false (.t 39) (.k (.v (.int .i64 (-1099511627776))))),
 qm 41 40,
 qmt 42 41 3,
 .rt 43 41 (.call (.k (.clo zA [])) [.t 42,.k (.v (.int .i64 (-1000000))),qI 1000000]),
 .rt 44 41 (.un .not (.t 43)),
 qp 45 41 44])
 (qq 45
 (.seq
 (.reg 9 none [8] [
 .r 8 (.mv (.k (.v (.int .i64 (-1)))))])
 .ret)
 .skip))
 (.seq
 (.seq
 (.reg 10 none [2,3,9,47] [
 qm 46 2,
 qB 47 .eql 46 0])
 (qq 47
 (.seq
 (.reg 11 none [8] [
 qi 8 0])
 .ret)
 .skip))
 (.seq
 (.seq
 (.reg 12 none [2,3,9,49] [
 qm 48 3,
 .r 49 (.bin .eql false (.t 48) (.k (.v (.int .i64 (-1099511627776)))))])
 (qq 49
 (.seq
 (.reg 13 none [8] [
 qm 50 3,
 qm 8 50])
 .ret)
 .skip))
 (.seq
 (.reg 14 none [3,10] [
 qL 51 7 9,
 qm 52 2,
 qC 53 kg [.t 51,.t 52],
 qm 10 53])
 (.seq
 (.reg 15 none [8] [
 qm 54 3,
 qm 55 10,
 qC 56 Qr [.t 54,.t 55],
 qm 57 10,
 qb 58 .mul 56 57,
 qm 8 58])
 .ret)))))))))
def qw7:List (Nat×List Nat):=qy Zb
theorem qw8:FnIR Tryz.prog zl 59 qw7 Zb [(.tmp 8)]:=
 qF Tryz.func69
def ZY:RC:=
 (.seq
 (.reg 0 none [0] [
 .r 2 (.mv (qN))])
 (.seq
 (.reg 1 none [0] [
 qm 3 0,
 qC 4 yg [.t 3]])
 (.seq
 (.reg 2 none [2] [
 qm 5 0,
 qC 6 kz [.t 5],
 qm 2 6])
 .ret)))
def qD6:List (Nat×List Nat):=qy ZY
theorem qD7:FnIR Tryz.prog Ke 7 qD6 ZY [(.tmp 2)]:=
 qF Tryz.func70
def zJ:RC:=
 (.seq
 (.reg 0 none [0,1] [
 qc 4 false])
 (.seq
 (.reg 1 none [4] [
 qm 5 0,
 qm 6 1,
 qC 7 jA [.t 5,.t 6],
 qB 8 .geq 7 0,
 qm 4 8])
 .ret))
def Zp:List (Nat×List Nat):=qy zJ
theorem Zq:FnIR Tryz.prog zW 9 Zp zJ [(.tmp 4)]:=
 qF Tryz.func71
def wM:RC:=
 (.seq
 (.reg 0 none [0,1] [
 qc 3 false])
 (.seq
 (.reg 1 none [3] [
 ql 4 1,
 qm 5 0,
 qC 6 zp [.t 4,.t 5],
 qm 3 6])
 .ret))
def qg0:List (Nat×List Nat):=qy wM
theorem qg1:FnIR Tryz.prog ke 7 qg0 wM [(.tmp 3)]:=
 qF Tryz.func72
def WG:RC:=
 (.seq
 (.reg 0 none [0,1] [
 .r 4 (.mv (qN))])
 (.seq
 (.seq
 (.reg 1 none [0,1,10] [
 qm 8 0,
 qm 9 1,
 qC 10 jP [.t 8,.t 9]])
 (qq 10
 (.seq
 (.reg 2 none [4] [
 qm 11 0,
 qm 4 11])
 .ret)
 .skip))
 (.seq
 (.reg 3 none [0,1,5] [
 .r 5 (.mv (qN))])
 (.seq
 (.reg 4 none [0,1,5,6] [
 qc 6 false])
 (.seq
 (.seq
 (.reg 5 none [0,1,5,6,7] [
 qi 7 0])
 (.block 0
 (.loop
 (.seq
 (.seq
 (.reg 6 none [0,1,5,6,7,15] [
 qm 12 7,
 qm 13 0,
 qn 14 13,
 qb 15 .lss 12 14])
 (qq 15
 .skip
 (.exit 0)))
 (.seq
 (.block 1
 (.seq
 (.seq
 (.reg 8 none [0,1,5,6,7,27] [
 qm 18 0,
 qm 19 7,
 qx 20 1 18 19,
 ql 21 20,
 qm 22 1,
 qb 23 .gtr 21 22,
 qm 24 23,
 qmt 25 24 6,
 .rt 26 24 (.un .not (.t 25)),
 qp 27 24 26])
 (qq 27
 (.reg 9 none [0,1,5,6,7] [
 qm 28 5,
 qm 29 1,
 .r 30 (.bsl 1 1 [.t 29]),
 .r 31 (.app 1 8 false (.t 28) (.t 30)),
 qm 5 31,
 qc 6 true])
 .skip))
 (.reg 10 none [0,1,5,6,7] [
 qm 32 5,
 qm 33 0,
 qm 34 7,
 qx 35 1 33 34,
 ql 36 35,
 .r 37 (.bsl 1 1 [.t 36]),
 .r 38 (.app 1 8 false (.t 32) (.t 37)),
 qm 5 38])))
 (.reg 7 none [0,1,5,6,7] [
 qm 16 7,
 qa 17 16,
 qm 7 17]))))))
 (.seq
 (.seq
 (.reg 11 none [1,5,40] [
 qm 39 6,
 .r 40 (.un .not (.t 39))])
 (qq 40
 (.reg 12 none [5] [
 qm 41 5,
 qm 42 1,
 .r 43 (.bsl 1 1 [.t 42]),
 .r 44 (.app 1 8 false (.t 41) (.t 43)),
 qm 5 44])
 .skip))
 (.seq
 (.reg 13 none [4] [
 qm 45 5,
 qm 4 45])
 .ret)))))))
def zg1:List (Nat×List Nat):=qy WG
theorem zg2:FnIR Tryz.prog YT 46 zg1 WG [(.tmp 4)]:=
 qF Tryz.func73
def ZZ:RC:=
 (.seq
 (.reg 0 none [0,1] [
 qc 4 false])
 (.seq
 (.reg 1 none [4] [
 qm 5 0,
 qB 6 .geq 5 0,
 qm 7 6,
 qmt 8 7 0,
 .rt 9 7 (.bin .lss false (.t 8) (qI 1152921504606846976)),
 qp 10 7 9,
 qm 11 10,
 qmt 12 11 1,
 .rt 13 11 (.bin .geq false (.t 12) (qI 0)),
 qp 14 11 13,
 qm 15 14,
 qmt 16 15 1,
 .rt 17 15 (.bin .lss false (.t 16) (qI 1048576)),
 qp 18 15 17,
 qm 4 18])
 .ret))
def qD8:List (Nat×List Nat):=qy ZZ
theorem qD9:FnIR Tryz.prog Kf 19 qD8 ZZ [(.tmp 4)]:=
 qF Tryz.func77
def Ja:RC:=
 (.seq
 (.reg 0 none [0,1,2] [
 qi 6 0])
 (.seq
 (.seq
 (.reg 1 none [0,1,2,30] [
 qm 9 0,
 qB 10 .lss 9 0,
 qm 11 10,
 qmf 12 11 0,
 .rf 13 11 (.bin .geq false (.t 12) (qI 1152921504606846976)),
 qP 14 11 13,
 qm 15 14,
 qmf 16 15 1,
 .rf 17 15 (.bin .lss false (.t 16) (qI 0)),
 qP 18 15 17,
 qm 19 18,
 qmf 20 19 1,
 .rf 21 19 (.bin .gtr false (.t 20) (qI 7)),
 qP 22 19 21,
 qm 23 22,
 qmf 24 23 2,
 .rf 25 23 (.bin .lss false (.t 24) (qI 0)),
 qP 26 23 25,
 qm 27 26,
 qmf 28 27 2,
 .rf 29 27 (.bin .gtr false (.t 28) (qI 1023)),
 qP 30 27 29])
 (qq 30
 (.seq
 (.reg 2 none [6] [
 qi 6 0])
 .ret)
 .skip))
 (.seq
 (.reg 3 none [7] [
 qm 31 0,
 .r 32 (.cvI .u64 (.t 31)),
 qm 33 1,
 .r 34 (.cvI .u64 (.t 33)),
 .r 35 (.bin .mul false (.t 34) (.k (.v (.int .u64 11400714819323198485)))),
 qb 36 .add 32 35,
 qm 37 2,
 .r 38 (.cvI .u64 (.t 37)),
 .r 39 (.bin .mul false (.t 38) (.k (.v (.int .u64 14029467366897019727)))),
 qb 40 .add 36 39,
 qm 7 40])
 (.seq
 (.seq
 (.reg 4 none [7,8] [
 qi 8 0])
 (.block 0
 (.loop
 (.seq
 (.seq
 (.reg 5 none [7,8,42] [
 qm 41 8,
 qB 42 .lss 41 3])
 (qq 42
 .skip
 (.exit 0)))
 (.seq
 (.block 1
 (.seq
 (.reg 7 none [7,8] [
 qm 45 7,
 qm 46 7,
 .r 47 (.bin .shr false (.t 46) (.k (.v (.int .u64 31)))),
 qb 48 .xor 45 47,
 qm 7 48])
 (.reg 8 none [7,8] [
 qm 49 7,
 .r 50 (.bin .mul false (.t 49) (.k (.v (.int .u64 13787848793156543929)))),
 qm 7 50])))
 (.reg 6 none [7,8] [
 qm 43 8,
 qa 44 43,
 qm 8 44]))))))
 (.seq
 (.reg 9 none [6] [
 qm 51 7,
 .r 52 (.bin .shr false (.t 51) (.k (.v (.int .u64 54)))),
 .r 53 (.cvI .i64 (.t 52)),
 qm 6 53])
 .ret)))))
def qE0:List (Nat×List Nat):=qy Ja
theorem qE1:FnIR Tryz.prog Kg 54 qE0 Ja [(.tmp 6)]:=
 qF Tryz.func78
def qQ:RC:=
 (.seq
 (.reg 0 none [0,1,2] [
 qi 6 0,
 qc 7 false])
 (.seq
 (.reg 1 none [0,1,2,8] [
 qm 12 0,
 qn 13 12,
 qm 8 13])
 (.seq
 (.reg 2 none [0,1,2,8,9,10] [
 qm 14 8,
 qi 9 0,
 qm 10 14])
 (.seq
 (.block 0
 (.loop
 (.seq
 (.seq
 (.reg 3 none [0,1,2,8,9,10,17] [
 qm 15 9,
 qm 16 10,
 qb 17 .lss 15 16])
 (qq 17
 .skip
 (.exit 0)))
 (.block 1
 (.seq
 (.reg 4 none [0,1,2,8,9,10,11] [
 qm 18 9,
 qm 19 10,
 qb 20 .add 18 19,
 .r 21 (.cvI .u64 (.t 20)),
 .r 22 (.bin .shr false (.t 21) (.k (.v (.int .u64 1)))),
 .r 23 (.cvI .i64 (.t 22)),
 qm 11 23])
 (.seq
 (.reg 5 none [0,1,2,8,9,10,11,31] [
 qm 24 2,
 qm 25 0,
 qm 26 11,
 qx 27 1 25 26,
 ql 28 27,
 qm 29 1,
 .r 30 (.call (.t 24) [.t 28,.t 29]),
 qB 31 .lss 30 0])
 (qq 31
 (.reg 6 none [0,1,2,8,9,10] [
 qm 32 11,
 qa 33 32,
 qm 9 33])
 (.reg 7 none [0,1,2,8,9,10] [
 qm 34 11,
 qm 10 34]))))))))
 (.seq
 (.reg 8 none [6,7] [
 qm 35 9,
 qm 36 9,
 qm 37 8,
 qb 38 .lss 36 37,
 qm 39 38,
 qmt 40 39 2,
 qmt 41 39 0,
 qmt 42 39 9,
 .rt 43 39 (.ixL 1 (.t 41) (.t 42)),
 qlt 44 39 43,
 qmt 45 39 1,
 .rt 46 39 (.call (.t 40) [.t 44,.t 45]),
 .rt 47 39 (.bin .eql false (.t 46) (qI 0)),
 qp 48 39 47,
 qm 6 35,
 qm 7 48])
 .ret)))))
def jD:List (Nat×List Nat):=qy qQ
theorem jE:FnIR Tryz.prog qR 49 jD qQ [(.tmp 6),(.tmp 7)]:=
 qF Tryz.func79
def yl:RC:=
 (.seq
 (.reg 0 none [0,1] [
 qi 4 0])
 (.seq
 (.block 0
 (.seq
 (.reg 1 none [0,1,5] [
 qm 6 0,
 .r 7 (.ixL 1 (.t 6) (qI 0)),
 ql 8 7,
 qm 9 1,
 qb 10 .lss 8 9,
 qm 5 10])
 (qq 5
 (.seq
 (.reg 2 none [4] [
 .r 4 (.mv (.k (.v (.int .i64 (-1)))))])
 .ret)
 (.seq
 (.reg 3 none [11] [
 qm 12 0,
 .r 13 (.ixL 1 (.t 12) (qI 0)),
 ql 14 13,
 qm 15 1,
 qb 16 .gtr 14 15,
 qm 11 16])
 (qq 11
 (.seq
 (.reg 4 none [4] [
 qi 4 1])
 .ret)
 .skip)))))
 (.seq
 (.reg 5 none [4] [
 qi 4 0])
 .ret)))
def ql6:List (Nat×List Nat):=qy yl
theorem ql7:FnIR Tryz.prog kK 17 ql6 yl [(.tmp 4)]:=
 qF Tryz.func80
def ji:RC:=
 (.seq
 (.reg 0 none [0,1] [
 qi 4 0])
 (.seq
 (.seq
 (.reg 1 none [0,1,7,8] [
 qm 6 0,
 qn 7 6,
 qi 8 0])
 (.block 0
 (.loop
 (.seq
 (.reg 2 none [0,1,7,8,9] [
 qb 9 .lss 8 7])
 (.seq
 (qq 9
 .skip
 (.exit 0))
 (.seq
 (.block 1
 (.seq
 (.reg 3 none [0,1,5,7,8] [
 qm 10 8,
 qm 5 10])
 (.seq
 (.reg 4 none [0,1,5,7,8,16] [
 qm 11 1,
 qm 12 0,
 qm 13 5,
 qx 14 1 12 13,
 ql 15 14,
 .r 16 (.call (.t 11) [.t 15])])
 (qq 16
 (.seq
 (.reg 5 none [4] [
 qm 17 5,
 qm 4 17])
 .ret)
 .skip))))
 (.reg 6 none [0,1,7,8] [
 qa 18 8,
 qm 8 18])))))))
 (.seq
 (.reg 7 none [4] [
 .r 4 (.mv (.k (.v (.int .i64 (-1)))))])
 .ret)))
def JG:List (Nat×List Nat):=qy ji
theorem JH:FnIR Tryz.prog jo 19 JG ji [(.tmp 4)]:=
 qF Tryz.func81
def kT:RC:=
 (.seq
 (.reg 0 none [0,1] [
 qi 4 0])
 (.seq
 (.seq
 (.reg 1 none [0,1,7,8] [
 qm 6 0,
 qn 7 6,
 qi 8 0])
 (.block 0
 (.loop
 (.seq
 (.reg 2 none [0,1,7,8,9] [
 qb 9 .lss 8 7])
 (.seq
 (qq 9
 .skip
 (.exit 0))
 (.seq
 (.block 1
 (.seq
 (.reg 3 none [0,1,5,7,8] [
 qm 10 8,
 qm 5 10])
 (.seq
 (.reg 4 none [0,1,5,7,8,16] [
 qm 11 1,
 qm 12 0,
 qm 13 5,
 qx 14 1 12 13,
 ql 15 14,
 qb 16 .eql 11 15])
 (qq 16
 (.seq
 (.reg 5 none [4] [
 qm 17 5,
 qm 4 17])
 .ret)
 .skip))))
 (.reg 6 none [0,1,7,8] [
 qa 18 8,
 qm 8 18])))))))
 (.seq
 (.reg 7 none [4] [
 .r 4 (.mv (.k (.v (.int .i64 (-1)))))])
 .ret)))
def qa4:List (Nat×List Nat):=qy kT
theorem qa5:FnIR Tryz.prog wz 19 qa4 kT [(.tmp 4)]:=
 qF Tryz.func82
def wN:RC:=
 (.seq
 (.reg 0 none [0,1,4] [
 .r 4 (.new (.agg [.v (.string ⟨#[]⟩),.v (.slice none 0 0)]))])
 (.seq
 (.reg 1 none [0,4,5] [
 qm 10 1,
 .r 11 (.build [.v (.string ⟨#[]⟩),.v (.int .i64 0)] [((0,1),.k (.v (.string ⟨#[116,111,112]⟩))),((1,1),.k (.v (.int .i64 (-1))))]),
 .r 12 (.bsl 2 1 [.t 11]),
 .r 13 (.build [.v (.string ⟨#[]⟩),.v (.slice none 0 0)] [((0,1),.t 10),((1,1),.t 12)]),
 .r 5 (.new (.agg [.v (.string ⟨#[]⟩),.v (.slice none 0 0)])),
 qs 2 5 13])
 (.seq
 (.reg 2 none [0,4,5,6] [
 qm 14 0,
 qC 15 qz [.t 14,qI 1,qI 3],
 qm 6 15])
 (.seq
 (.seq
 (.reg 3 none [0,4,5,6,7] [
 qi 7 0])
 (.block 0
 (.loop
 (.seq
 (.seq
 (.reg 4 none [0,4,5,6,7,18] [
 qm 16 7,
 qm 17 6,
 qb 18 .lss 16 17])
 (qq 18
 .skip
 (.exit 0)))
 (.seq
 (.block 1
 (.reg 6 (some [0,1,0,4,12,28,60,127,255,511]) [0,4,5,6,7] [
 qf 21 1 5,
 ql 22 21,
 qm 23 7,
 qC 24 zV [.t 23],
 .r 25 (.bin .add false (.k (.v (.string ⟨#[107]⟩))) (.t 24)),
 .r 26 (.build [.v (.string ⟨#[]⟩),.v (.int .i64 0)] [((0,1),.t 25)]),
 .r 27 (.bsl 2 1 [.t 26]),
 .r 28 (.app 2 24 false (.t 22) (.t 27)),
 qf 29 1 5,
 qs 1 29 28]))
 (.reg 5 none [0,4,5,6,7] [
 qm 19 7,
 qa 20 19,
 qm 7 20]))))))
 (.seq
 (.seq
 (.reg 7 none [0,4,5,6,31] [
 qm 30 0,
 qC 31 qG [.t 30,qI 2]])
 (qq 31
 (.seq
 (.reg 8 none [4] [
 qL 32 2 5,
 qs 2 4 32])
 .ret)
 .skip))
 (.seq
 (.seq
 (.reg 9 none [0,4,5,6,8] [
 qi 8 0])
 (.block 2
 (.loop
 (.seq
 (.seq
 (.reg 10 none [0,4,5,6,8,35] [
 qm 33 8,
 qm 34 6,
 qb 35 .lss 33 34])
 (qq 35
 .skip
 (.exit 2)))
 (.seq
 (.block 3
 (.seq
 (.reg 12 none [0,4,5,6,8,9] [
 qm 38 0,
 qC 39 qz [.t 38,qI 1,qI 2],
 qm 9 39])
 (.block 4
 (.loop
 (.seq
 (.seq
 (.reg 13 none [0,4,5,6,8,9,41] [
 qm 40 9,
 qB 41 .gtr 40 0])
 (qq 41
 .skip
 (.exit 4)))
 (.seq
 (.block 5
 (.reg 15 (some [0,1,0,4,12,28,60,0,128,508,1020,2047,4095,8191]) [0,4,5,6,8,9] [
 qf 44 1 5,
 ql 45 44,
 qf 46 1 5,
 ql 47 46,
 qn 48 47,
 qC 49 zV [.t 48],
 .r 50 (.bin .add false (.k (.v (.string ⟨#[108]⟩))) (.t 49)),
 qm 51 8,
 .r 52 (.bin .add false (qI 1) (.t 51)),
 .r 53 (.build [.v (.string ⟨#[]⟩),.v (.int .i64 0)] [((0,1),.t 50),((1,1),.t 52)]),
 .r 54 (.bsl 2 1 [.t 53]),
 .r 55 (.app 2 24 false (.t 45) (.t 54)),
 qf 56 1 5,
 qs 1 56 55]))
 (.reg 14 none [0,4,5,6,8,9] [
 qm 42 9,
 qB 43 .sub 42 1,
 qm 9 43])))))))
 (.reg 11 none [0,4,5,6,8] [
 qm 36 8,
 qa 37 36,
 qm 8 37]))))))
 (.seq
 (.reg 16 none [4] [
 qL 57 2 5,
 qs 2 4 57])
 .ret)))))))
def qg2:List (Nat×List Nat):=qy wN
theorem qg3:FnIR Tryz.prog kf 58 qg2 wN [(.cell 4 (some 2))]:=
 qF Tryz.func85
def jT:RC:=
 (.seq
 (.reg 0 none [0,1,4] [
 .r 4 (.new (.agg [.v (.string ⟨#[]⟩),.v (.int .i64 0),.v (.int .i64 0),.v (.int .i64 0),.v (.int .i64 0),.v (.slice none 0 0),.v (.bool false)]))])
 (.seq
 (.reg 1 (some [0,0,2,0,0,0,0,120,0,262,1022,2046,0,4870,16383,0,65535]) [0,4,5] [
 qm 6 1,
 qm 7 0,
 qC 8 qz [.t 7,.k (.v (.int .i64 (-4))),qI 2],
 .r 9 (.bsl 1 1 [qI 1]),
 .r 10 (.bsl 1 2 [qI 1,qI 5]),
 .r 11 (.bsl 1 3 [qI 1,qI 5,qI 20]),
 .r 12 (.bsl 1 4 [qI 1,qI 2,qI 4,qI 12]),
 .r 13 (.bsl 1 4 [.t 9,.t 10,.t 11,.t 12]),
 qm 14 0,
 qC 15 qo [.t 14,qI 4],
 qx 16 1 13 15,
 ql 17 16,
 qm 18 0,
 qC 19 qG [.t 18,qI 3],
 .r 20 (.build [.v (.string ⟨#[]⟩),.v (.int .i64 0),.v (.int .i64 0),.v (.int .i64 0),.v (.int .i64 0),.v (.slice none 0 0),.v (.bool false)] [((0,1),.t 6),((1,1),qI 3),((3,1),.t 8),((5,1),.t 17),((6,1),.t 19)]),
 .r 5 (.new (.agg [.v (.string ⟨#[]⟩),.v (.int .i64 0),.v (.int .i64 0),.v (.int .i64 0),.v (.int .i64 0),.v (.slice none 0 0),.v (.bool false)])),
 qs 7 5 20])
 (.seq
 (.reg 2 (some [0,1,0,4,15,31,63]) [4,5] [
 qf 21 3 5,
 ql 22 21,
 qm 23 0,
 qC 24 qo [.t 23,qI 45],
 qb 25 .add 22 24,
 qf 26 4 5,
 qs 1 26 25])
 (.seq
 (.reg 3 none [4] [
 qL 27 7 5,
 qs 7 4 27])
 .ret))))
def WH:List (Nat×List Nat):=qy jT
theorem WI:FnIR Tryz.prog ky 28 WH jT [(.cell 4 (some 7))]:=
 qF Tryz.func86
def zb:RC:=
 (.seq
 (.reg 0 none [0,2,4] [
 .r 4 (.box (.t 1)),
 qi 6 0])
 (.seq
 (.reg 1 none [0,2,4,7] [
 qf 9 1 4,
 ql 10 9,
 qm 11 2,
 qx 12 7 10 11,
 qL 13 7 12,
 .r 7 (.new (.agg [.v (.string ⟨#[]⟩),.v (.int .i64 0),.v (.int .i64 0),.v (.int .i64 0),.v (.int .i64 0),.v (.slice none 0 0),.v (.bool false)])),
 qs 7 7 13])
 (.seq
 (.seq
 (.reg 2 none [0,2,4,7,15] [
 qf 14 1 7,
 ql 15 14])
 (.block 0
 (.seq
 (.reg 3 none [0,2,4,7,15,16] [
 qB 17 .eql 15 1,
 qm 16 17])
 (qq 16
 (.seq
 (.reg 4 none [6] [
 qm 18 0,
 qC 19 qz [.t 18,qI 1,qI 60],
 qm 6 19])
 .ret)
 (.seq
 (.reg 5 none [0,2,4,7,20] [
 qB 21 .eql 15 2,
 qm 20 21])
 (qq 20
 (.seq
 (.reg 6 none [0,8] [
 qL 22 2 4,
 qm 23 2,
 qC 24 kF [.t 22,.t 23],
 qm 8 24])
 (.seq
 (.reg 7 none [6] [
 qm 25 8,
 qm 26 0,
 qm 27 8,
 qn 28 27,
 qC 29 qo [.t 26,.t 28],
 qx 30 1 25 29,
 ql 31 30,
 qm 6 31])
 .ret))
 .skip))))))
 (.seq
 (.seq
 (.reg 8 none [0,7,37] [
 qf 32 6 7,
 ql 33 32,
 qm 34 33,
 qmt 35 34 0,
 .rt 36 34 (.call (.k (.clo qG [])) [.t 35,qI 4]),
 qp 37 34 36])
 (qq 37
 (.seq
 (.reg 9 none [6] [
 .r 6 (.mv (.k (.v (.int .i64 (-1099511627776)))))])
 .ret)
 .skip))
 (.seq
 (.reg 10 none [6] [
 qm 38 0,
 qf 39 3 7,
 ql 40 39,
 qf 41 4 7,
 ql 42 41,
 qC 43 qz [.t 38,.t 40,.t 42],
 qm 6 43])
 .ret)))))
def qa6:List (Nat×List Nat):=qy zb
theorem zF:FnIR Tryz.prog wA 44 qa6 zb [(.tmp 6)]:=
 qF Tryz.func87
def jj:RC:=
 (.seq
 (.reg 0 none [0] [
 .r 2 (.mv (.k (.v (.string ⟨#[]⟩))))])
 (.seq
 (.reg 1 none [2] [
 qm 3 0,
 qC 4 zx [.t 3,qI 10],
 qm 2 4])
 .ret))
def JI:List (Nat×List Nat):=qy jj
theorem JJ:FnIR Tryz.prog jp 5 JI jj [(.tmp 2)]:=
 qF Tryz.func88
def kU:RC:=
 (.seq
 (.reg 0 none [0,3] [
 .r 3 (.box (.t 1)),
 qi 4 0])
 (.seq
 (.reg 1 none [0,5] [
 qL 6 2 3,
 qC 7 jx [.t 6,qI 2],
 qm 5 7])
 (.seq
 (.reg 2 none [4] [
 qm 8 5,
 qm 9 0,
 qm 10 5,
 qn 11 10,
 qC 12 qo [.t 9,.t 11],
 qx 13 1 8 12,
 ql 14 13,
 qm 4 14])
 .ret)))
def qa7:List (Nat×List Nat):=qy kU
theorem qa8:FnIR Tryz.prog wB 15 qa7 kU [(.tmp 4)]:=
 qF Tryz.func89
def jF:RC:=
 (.seq
 (.reg 0 none [0,3] [
 .r 3 (.box (.t 1)),
 qi 4 0])
 (.seq
 (.reg 1 none [0,5] [
 qL 6 2 3,
 qC 7 jx [.t 6,qI 3],
 qm 5 7])
 (.seq
 (.reg 2 none [4] [
 qm 8 5,
 qm 9 0,
 qm 10 5,
 qn 11 10,
 qC 12 qo [.t 9,.t 11],
 qx 13 1 8 12,
 ql 14 13,
 qm 4 14])
 .ret)))
def KY:List (Nat×List Nat):=qy jF
theorem KZ:FnIR Tryz.prog zq 15 KY jF [(.tmp 4)]:=
 qF Tryz.func90
def kV:RC:=
 (.seq
 (.reg 0 none [0,2,4] [
 .r 4 (.box (.t 1)),
 .r 6 (.mv (qN))])
 (.seq
 (.reg 1 none [0,2,4,7] [
 .r 7 (.mv (qN))])
 (.seq
 (.reg 2 none [0,2,7,8] [
 qL 10 2 4,
 qC 11 jx [.t 10,qI 3],
 qm 8 11])
 (.seq
 (.seq
 (.reg 3 none [0,2,7,8,13,14] [
 qm 12 8,
 qn 13 12,
 qi 14 0])
 (.block 0
 (.loop
 (.seq
 (.reg 4 none [0,2,7,8,13,14,15] [
 qb 15 .lss 14 13])
 (.seq
 (qq 15
 .skip
 (.exit 0))
 (.seq
 (.block 1
 (.seq
 (.reg 5 none [0,2,7,8,9,13,14] [
 qm 16 14,
 qm 9 16])
 (.seq
 (.reg 6 none [0,2,7,8,9,13,14,31] [
 qm 17 8,
 qm 18 9,
 qx 19 1 17 18,
 ql 20 19,
 qm 21 2,
 qb 22 .neq 20 21,
 qm 23 22,
 qmt 24 23 7,
 .rt 25 23 (.lenL (.t 24)),
 .rt 26 23 (.bin .eql false (.t 25) (qI 0)),
 qmt 27 23 26,
 qmf 28 27 0,
 .rf 29 27 (.call (.k (.clo qG [])) [.t 28,qI 2]),
 .rt 30 23 (.pick (.t 27) (.k (.v (.bool true))) (.t 29)),
 qp 31 23 30])
 (qq 31
 (.reg 7 none [0,2,7,8,13,14] [
 qm 32 7,
 qm 33 8,
 qm 34 9,
 qx 35 1 33 34,
 ql 36 35,
 .r 37 (.bsl 1 1 [.t 36]),
 .r 38 (.app 1 8 false (.t 32) (.t 37)),
 qm 7 38])
 .skip))))
 (.reg 8 none [0,2,7,8,13,14] [
 qa 39 14,
 qm 14 39])))))))
 (.seq
 (.reg 9 none [6] [
 qm 40 7,
 qm 6 40])
 .ret)))))
def qa9:List (Nat×List Nat):=qy kV
theorem qb0:FnIR Tryz.prog wC 41 qa9 kV [(.tmp 6)]:=
 qF Tryz.func91
def wO:RC:=
 (.seq
 (.reg 0 none [0,3] [
 .r 3 (.box (.t 1)),
 .r 4 (.mv (qN))])
 (.seq
 (.reg 1 none [0,3,5] [
 .r 5 (.mv (qN))])
 (.seq
 (.reg 2 none [0,3,5,6] [
 qL 8 2 3,
 qC 9 jx [.t 8,qI 2],
 qm 6 9])
 (.seq
 (.seq
 (.reg 3 none [0,3,5,6,11] [
 qm 10 0,
 qC 11 qG [.t 10,qI 2]])
 (qq 11
 (.reg 4 none [0,3,5,6] [
 qm 12 6,
 qm 13 0,
 qm 14 6,
 qn 15 14,
 qC 16 qo [.t 13,.t 15],
 .r 17 (.slL 1 (.t 12) (some (.t 16)) none),
 qm 6 17])
 .skip))
 (.seq
 (.seq
 (.reg 5 none [0,3,5,6,19,20] [
 qm 18 6,
 qn 19 18,
 qi 20 0])
 (.block 0
 (.loop
 (.seq
 (.reg 6 none [0,3,5,6,19,20,21] [
 qb 21 .lss 20 19])
 (.seq
 (qq 21
 .skip
 (.exit 0))
 (.seq
 (.block 1
 (.seq
 (.reg 7 none [0,3,5,6,7,19,20] [
 qm 22 20,
 qm 7 22])
 (.reg 8 (some [0,0,0,6,14,0,0,0,0,384,896,1984,4032,8160,16382,32766,65535,131071]) [0,3,5,6,19,20] [
 qm 23 5,
 qm 24 6,
 qm 25 7,
 qx 26 1 24 25,
 ql 27 26,
 qm 28 0,
 qL 29 2 3,
 qm 30 6,
 qm 31 7,
 qx 32 1 30 31,
 ql 33 32,
 qC 34 zX [.t 29,.t 33],
 qa 35 34,
 qC 36 qo [.t 28,.t 35],
 .r 37 (.build [.v (.int .i64 0),.v (.int .i64 0)] [((0,1),.t 27),((1,1),.t 36)]),
 .r 38 (.bsl 2 1 [.t 37]),
 .r 39 (.app 2 16 false (.t 23) (.t 38)),
 qm 5 39])))
 (.reg 9 none [0,3,5,6,19,20] [
 qa 40 20,
 qm 20 40])))))))
 (.seq
 (.reg 10 none [4] [
 qm 41 5,
 qm 4 41])
 .ret))))))
def qg4:List (Nat×List Nat):=qy wO
theorem qg5:FnIR Tryz.prog yf 42 qg4 wO [(.tmp 4)]:=
 qF Tryz.func92
def Jb:RC:=
 (.seq
 (.reg 0 none [1] [
 .r 1 (.box (.t 0)),
 qi 2 0])
 (.seq
 (.seq
 (.reg 1 none [1,17] [
 qf 8 0 1,
 ql 9 8,
 qn 10 9,
 qB 11 .gtr 10 6,
 qm 12 11,
 qff 13 12 1 1,
 qlf 14 12 13,
 .rf 15 12 (.lenL (.t 14)),
 .rf 16 12 (.bin .gtr false (.t 15) (qI 8)),
 qP 17 12 16])
 (qq 17
 (.seq
 (.reg 2 none [2] [
 qi 2 1])
 .ret)
 .skip))
 (.seq
 (.seq
 (.reg 3 none [1,3] [
 qi 3 0])
 (.block 0
 (.loop
 (.seq
 (.seq
 (.reg 4 none [1,3,22] [
 qm 18 3,
 qf 19 0 1,
 ql 20 19,
 qn 21 20,
 qb 22 .lss 18 21])
 (qq 22
 .skip
 (.exit 0)))
 (.seq
 (.block 1
 (.seq
 (.seq
 (.reg 6 none [1,3,4] [
 qf 25 0 1,
 ql 26 25,
 qm 27 3,
 qx 28 2 26 27,
 qL 29 2 28,
 qC 30 jr [.t 29],
 qm 4 30])
 (.seq
 (.reg 7 none [1,3,4,32] [
 qm 31 4,
 qB 32 .neq 31 0])
 (qq 32
 (.seq
 (.reg 8 none [2] [
 qm 33 4,
 qm 2 33])
 .ret)
 .skip)))
 (.seq
 (.reg 9 none [1,3,5] [
 qi 5 0])
 (.block 2
 (.loop
 (.seq
 (.seq
 (.reg 10 none [1,3,5,36] [
 qm 34 5,
 qm 35 3,
 qb 36 .lss 34 35])
 (qq 36
 .skip
 (.exit 2)))
 (.seq
 (.block 3
 (.seq
 (.reg 12 (some [0,1,0,7,15,31,0,64,0,448,960,1984,4095]) [1,3,5,51] [
 qf 39 0 1,
 ql 40 39,
 qm 41 5,
 qx 42 2 40 41,
 qf 43 0 42,
 ql 44 43,
 qf 45 0 1,
 ql 46 45,
 qm 47 3,
 qx 48 2 46 47,
 qf 49 0 48,
 ql 50 49,
 qb 51 .eql 44 50])
 (qq 51
 (.seq
 (.reg 13 none [2] [
 qi 2 10])
 .ret)
 .skip)))
 (.reg 11 none [1,3,5] [
 qm 37 5,
 qa 38 37,
 qm 5 38]))))))))
 (.reg 5 none [1,3] [
 qm 23 3,
 qa 24 23,
 qm 3 24]))))))
 (.seq
 (.seq
 (.reg 14 none [1,63] [
 qf 52 1 1,
 ql 53 52,
 qn 54 53,
 qB 55 .eql 54 0,
 qm 56 55,
 qff 57 56 1 1,
 qlf 58 56 57,
 .rf 59 56 (.ixL 7 (.t 58) (qI 0)),
 qff 60 56 1 59,
 qlf 61 56 60,
 .rf 62 56 (.bin .neq false (.t 61) (qI 1)),
 qP 63 56 62])
 (qq 63
 (.seq
 (.reg 15 none [2] [
 qi 2 7])
 .ret)
 .skip))
 (.seq
 (.seq
 (.reg 16 none [1,6] [
 qi 6 0])
 (.block 4
 (.loop
 (.seq
 (.seq
 (.reg 17 none [1,6,68] [
 qm 64 6,
 qf 65 1 1,
 ql 66 65,
 qn 67 66,
 qb 68 .lss 64 67])
 (qq 68
 .skip
 (.exit 4)))
 (.seq
 (.block 5
 (.seq
 (.reg 19 none [1,6,7] [
 qL 71 2 1,
 qm 72 6,
 qC 73 ZL [.t 71,.t 72],
 qm 7 73])
 (.seq
 (.reg 20 none [1,6,7,75] [
 qm 74 7,
 qB 75 .neq 74 0])
 (qq 75
 (.seq
 (.reg 21 none [2] [
 qm 76 7,
 qm 2 76])
 .ret)
 .skip))))
 (.reg 18 none [1,6] [
 qm 69 6,
 qa 70 69,
 qm 6 70]))))))
 (.seq
 (.reg 22 none [2] [
 qi 2 0])
 .ret))))))
def qE2:List (Nat×List Nat):=qy Jb
theorem qE3:FnIR Tryz.prog zm 77 qE2 Jb [(.tmp 2)]:=
 qF Tryz.func93
def Kt:RC:=
 (.seq
 (.reg 0 none [0] [
 qc 2 false])
 (.seq
 (.seq
 (.reg 1 none [0,21] [
 qm 4 0,
 .r 5 (.lenS (.t 4)),
 qB 6 .lss 5 1,
 qm 7 6,
 qmf 8 7 0,
 .rf 9 7 (.lenS (.t 8)),
 .rf 10 7 (.bin .gtr false (.t 9) (qI 16)),
 qP 11 7 10,
 qm 12 11,
 qmf 13 12 0,
 .rf 14 12 (.sx (.t 13) (qI 0)),
 .rf 15 12 (.bin .lss false (.t 14) (.k (.v (.int .u8 97)))),
 qP 16 12 15,
 qm 17 16,
 qmf 18 17 0,
 .rf 19 17 (.sx (.t 18) (qI 0)),
 .rf 20 17 (.bin .gtr false (.t 19) (.k (.v (.int .u8 122)))),
 qP 21 17 20])
 (qq 21
 (.seq
 (.reg 2 none [2] [
 qc 2 false])
 .ret)
 .skip))
 (.seq
 (.seq
 (.reg 3 none [0,3] [
 qi 3 0])
 (.block 0
 (.loop
 (.seq
 (.seq
 (.reg 4 none [0,3,25] [
 qm 22 3,
 qm 23 0,
 .r 24 (.lenS (.t 23)),
 qb 25 .lss 22 24])
 (qq 25
 .skip
 (.exit 0)))
 (.seq
 (.block 1
 (.seq
 (.reg 6 none [0,3,56] [
 qm 28 0,
 qm 29 3,
 .r 30 (.sx (.t 28) (.t 29)),
 .r 31 (.bin .geq false (.t 30) (.k (.v (.int .u8 97)))),
 qm 32 31,
 qmt 33 32 0,
 qmt 34 32 3,
 .rt 35 32 (.sx (.t 33) (.t 34)),
 .rt 36 32 (.bin .leq false (.t 35) (.k (.v (.int .u8 122)))),
 qp 37 32 36,
 qm 38 37,
 qmf 39 38 0,
 qmf 40 38 3,
 .rf 41 38 (.sx (.t 39) (.t 40)),
 .rf 42 38 (.bin .geq false (.t 41) (.k (.v (.int .u8 48)))),
 qmf 43 38 42,
 qmt 44 43 0,
 qmt 45 43 3,
 .rt 46 43 (.sx (.t 44) (.t 45)),
 .rt 47 43 (.bin .leq false (.t 46) (.k (.v (.int .u8 57)))),
 .rf 48 38 (.pick (.t 43) (.t 47) (.k (.v (.bool false)))),
 qP 49 38 48,
 qm 50 49,
 qmf 51 50 0,
 qmf 52 50 3,
 .rf 53 50 (.sx (.t 51) (.t 52)),
 .rf 54 50 (.bin .eql false (.t 53) (.k (.v (.int .u8 95)))),
 qP 55 50 54,
 .r 56 (.un .not (.t 55))])
 (qq 56
 (.seq
 (.reg 7 none [2] [
 qc 2 false])
 .ret)
 .skip)))
 (.reg 5 none [0,3] [
 qm 26 3,
 qa 27 26,
 qm 3 27]))))))
 (.seq
 (.seq
 (.reg 8 none [57] [
 qm 57 0])
 (.block 2
 (.seq
 (.seq
 (.reg 9 none [57,58] [
 .r 59 (.bin .eql false (.t 57) (.k (.v (.string ⟨#[97,108,108]⟩)))),
 qm 58 59])
 (qq 58
 .skip
 (.seq
 (.reg 10 none [57,58] [
 .r 60 (.bin .eql false (.t 57) (.k (.v (.string ⟨#[97,110,100]⟩)))),
 qm 58 60])
 (qq 58
 .skip
 (.seq
 (.reg 11 none [57,58] [
 .r 61 (.bin .eql false (.t 57) (.k (.v (.string ⟨#[101,118,101,110,116]⟩)))),
 qm 58 61])
 (qq 58
 .skip
 (.seq
 (.reg 12 none [57,58] [
 .r 62 (.bin .eql false (.t 57) (.k (.v (.string ⟨#[102,114,111,109]⟩)))),
 qm 58 62])
 (qq 58
 .skip
 (.seq
 (.reg 13 none [57,58] [
 .r 63 (.bin .eql false (.t 57) (.k (.v (.string ⟨#[109,105,115,115,105,110,103]⟩)))),
 qm 58 63])
 (qq 58
 .skip
 (.seq
 (.reg 14 none [57,58] [
 .r 64 (.bin .eql false (.t 57) (.k (.v (.string ⟨#[110,111,116]⟩)))),
 qm 58 64])
 (qq 58
 .skip
 (.seq
 (.reg 15 none [57,58] [
 .r 65 (.bin .eql false (.t 57) (.k (.v (.string ⟨#[111,110]⟩)))),
 qm 58 65])
 (qq 58
 .skip
 (.seq
 (.reg 16 none [57,58] [
 .r 66 (.bin .eql false (.t 57) (.k (.v (.string ⟨#[111,114]⟩)))),
 qm 58 66])
 (qq 58
 .skip
 (.seq
 (.reg 17 none [57,58] [
 .r 67 (.bin .eql false (.t 57) (.k (.v (.string ⟨#[116,111]⟩)))),
 qm 58 67])
 (qq 58
 .skip
 (.seq
 (.reg 18 none [57,58] [
 .r 68 (.bin .eql false (.t 57) (.k (.v (.string ⟨#[117,110,100,101,114]⟩)))),
 qm 58 68])
 (qq 58
 .skip
 (.reg 19 none [58] [
 .r 69 (.bin .eql false (.t 57) (.k (.v (.string ⟨#[119,104,101,114,101]⟩)))),
 qm 58 69])))))))))))))))))))))
 (qq 58
 (.seq
 (.reg 20 none [2] [
 qc 2 false])
 .ret)
 .skip))))
 (.seq
 (.reg 21 none [2] [
 qc 2 true])
 .ret)))))
def qR7:List (Nat×List Nat):=qy Kt
theorem qR8:FnIR Tryz.prog jl 70 qR7 Kt [(.tmp 2)]:=
 qF Tryz.func94
def Jc:RC:=
 (.seq
 (.reg 0 none [2,3] [
 .r 2 (.box (.t 0)),
 .r 3 (.box (.t 1)),
 qi 4 0])
 (.seq
 (.seq
 (.reg 1 none [2,3,5] [
 qL 6 2 2,
 qC 7 zm [.t 6],
 qm 5 7])
 (.seq
 (.reg 2 none [2,3,5,9] [
 qm 8 5,
 qB 9 .neq 8 0])
 (qq 9
 (.seq
 (.reg 3 none [4] [
 qm 10 5,
 qm 4 10])
 .ret)
 .skip)))
 (.seq
 (.seq
 (.reg 4 none [2,3,13] [
 qL 11 6 3,
 qC 12 Qs [.t 11,qI 41],
 qB 13 .gtr 12 40])
 (qq 13
 (.seq
 (.reg 5 none [4] [
 qi 4 1])
 .ret)
 .skip))
 (.seq
 (.seq
 (.reg 6 none [2,3,16] [
 qL 14 6 3,
 qC 15 Qt [.t 14],
 qB 16 .gtr 15 10])
 (qq 16
 (.seq
 (.reg 7 none [4] [
 qi 4 22])
 .ret)
 .skip))
 (.seq
 (.reg 8 none [4] [
 qL 17 2 2,
 qL 18 6 3,
 qC 19 Zx [.t 17,.t 18],
 qm 4 19])
 .ret)))))
def qE4:List (Nat×List Nat):=qy Jc
theorem qE5:FnIR Tryz.prog jq 20 qE4 Jc [(.tmp 4)]:=
 qF Tryz.func95
def ym:RC:=
 (.seq
 (.reg 0 none [2,3] [
 .r 2 (.box (.t 0)),
 .r 3 (.box (.t 1)),
 qi 4 0])
 (.seq
 (.seq
 (.reg 1 none [2,3,5] [
 qL 8 2 2,
 qC 9 zm [.t 8],
 qm 5 9])
 (.seq
 (.reg 2 none [2,3,5,11] [
 qm 10 5,
 qB 11 .neq 10 0])
 (qq 11
 (.seq
 (.reg 3 none [4] [
 qm 12 5,
 qm 4 12])
 .ret)
 .skip)))
 (.seq
 (.seq
 (.reg 4 none [2,3,16] [
 qf 13 0 3,
 ql 14 13,
 qC 15 jl [.t 14],
 .r 16 (.un .not (.t 15))])
 (qq 16
 (.seq
 (.reg 5 none [4] [
 qi 4 3])
 .ret)
 .skip))
 (.seq
 (.seq
 (.reg 6 none [2,3,24] [
 qf 17 1 3,
 ql 18 17,
 qB 19 .lss 18 1,
 qm 20 19,
 qff 21 20 1 3,
 qlf 22 20 21,
 .rf 23 20 (.bin .gtr false (.t 22) (qI 3)),
 qP 24 20 23])
 (qq 24
 (.seq
 (.reg 7 none [4] [
 qi 4 4])
 .ret)
 .skip))
 (.seq
 (.seq
 (.reg 8 none [2,3,6] [
 qL 25 2 2,
 qf 26 2 3,
 qL 27 6 26,
 qC 28 jq [.t 25,.t 27],
 qm 6 28])
 (.seq
 (.reg 9 none [2,3,6,30] [
 qm 29 6,
 qB 30 .neq 29 0])
 (qq 30
 (.seq
 (.reg 10 none [4] [
 qm 31 6,
 qm 4 31])
 .ret)
 .skip)))
 (.seq
 (.seq
 (.reg 11 none [3,7] [
 qL 32 2 2,
 qL 33 17 3,
 qC 34 Kh [.t 32,.t 33],
 qm 7 34])
 (.seq
 (.reg 12 none [3,7,36] [
 qm 35 7,
 qB 36 .neq 35 0])
 (qq 36
 (.seq
 (.reg 13 none [4] [
 qm 37 7,
 qm 4 37])
 .ret)
 .skip)))
 (.seq
 (.seq
 (.reg 14 none [68] [
 qf 38 1 3,
 ql 39 38,
 qB 40 .neq 39 1,
 qm 41 40,
 qft 42 41 8 3,
 qlt 43 41 42,
 .rt 44 41 (.lenL (.t 43)),
 .rt 45 41 (.bin .gtr false (.t 44) (qI 0)),
 qp 46 41 45,
 qm 47 46,
 qff 48 47 1 3,
 qlf 49 47 48,
 .rf 50 47 (.bin .neq false (.t 49) (qI 2)),
 qmf 51 47 50,
 qft 52 51 10 3,
 qlt 53 51 52,
 .rt 54 51 (.lenL (.t 53)),
 .rt 55 51 (.bin .gtr false (.t 54) (qI 0)),
 .rf 56 47 (.pick (.t 51) (.t 55) (.k (.v (.bool false)))),
 qP 57 47 56,
 qm 58 57,
 qff 59 58 1 3,
 qlf 60 58 59,
 .rf 61 58 (.bin .neq false (.t 60) (qI 3)),
 qmf 62 58 61,
 qft 63 62 11 3,
 .rt 64 62 (.ld (some 6) (.t 63)),
 .rt 65 62 (.call (.k (.clo Wt [])) [.t 64]),
 .rt 66 62 (.un .not (.t 65)),
 .rf 67 58 (.pick (.t 62) (.t 66) (.k (.v (.bool false)))),
 qP 68 58 67])
 (qq 68
 (.seq
 (.reg 15 none [4] [
 qi 4 11])
 .ret)
 .skip))
 (.seq
 (.reg 16 none [4] [
 qi 4 0])
 .ret))))))))
def ql8:List (Nat×List Nat):=qy ym
theorem ql9:FnIR Tryz.prog ju 69 ql8 ym [(.tmp 4)]:=
 qF Tryz.func96
def Jd:RC:=
 (.seq
 (.reg 0 none [2,3] [
 .r 2 (.box (.t 0)),
 .r 3 (.box (.t 1)),
 .r 4 (.mv (qN))])
 (.seq
 (.seq
 (.reg 1 none [2,3,12] [
 qL 9 2 2,
 qL 10 6 3,
 qC 11 jq [.t 9,.t 10],
 qB 12 .neq 11 0])
 (qq 12
 (.seq
 (.reg 2 none [4] [
 .r 4 (.mv (qN))])
 .ret)
 .skip))
 (.seq
 (.reg 3 none [2,3,5] [
 .r 5 (.mv (qN))])
 (.seq
 (.reg 4 none [2,5,6] [
 qL 13 6 3,
 qC 14 Qu [.t 13],
 qm 6 14])
 (.seq
 (.seq
 (.reg 5 none [2,5,6,7] [
 qi 7 0])
 (.block 0
 (.loop
 (.seq
 (.seq
 (.reg 6 none [2,5,6,7,18] [
 qm 15 7,
 qm 16 6,
 qn 17 16,
 qb 18 .lss 15 17])
 (qq 18
 .skip
 (.exit 0)))
 (.seq
 (.block 1
 (.seq
 (.reg 8 none [2,5,6,7,8] [
 qi 8 0])
 (.seq
 (.block 2
 (.loop
 (.seq
 (.seq
 (.reg 9 (some [0,0,0,6,14,0,63,127]) [2,5,6,7,8,28] [
 qL 21 2 2,
 qm 22 6,
 qm 23 7,
 qx 24 6 22 23,
 qL 25 6 24,
 qm 26 8,
 qC 27 QP [.t 21,.t 25,.t 26],
 .r 28 (.un .not (.t 27))])
 (qq 28
 .skip
 (.exit 2)))
 (.block 3
 (.reg 10 none [2,5,6,7,8] [
 qm 29 8,
 qa 30 29,
 qm 8 30])))))
 (.reg 11 none [2,5,6,7] [
 qm 31 5,
 qm 32 6,
 qm 33 7,
 qx 34 6 32 33,
 qf 35 1 34,
 ql 36 35,
 qm 37 8,
 qC 38 jn [.t 31,.t 36,.t 37],
 qm 5 38]))))
 (.reg 7 none [2,5,6,7] [
 qm 19 7,
 qa 20 19,
 qm 7 20]))))))
 (.seq
 (.reg 12 none [4] [
 qm 39 5,
 qm 4 39])
 .ret))))))
def qE6:List (Nat×List Nat):=qy Jd
theorem qE7:FnIR Tryz.prog Qn 40 qE6 Jd [(.tmp 4)]:=
 qF Tryz.func97
def Je:RC:=
 (.seq
 (.reg 0 none [1,2,3] [
 .r 3 (.box (.t 0)),
 qi 6 0])
 (.seq
 (.seq
 (.reg 1 none [1,2,3,13] [
 qm 8 2,
 qL 9 2 3,
 qm 10 1,
 qC 11 zX [.t 9,.t 10],
 qC 12 zA [.t 8,qI 0,.t 11],
 .r 13 (.un .not (.t 12))])
 (qq 13
 (.seq
 (.reg 2 none [6] [
 .r 6 (.mv (.k (.v (.int .i64 (-1)))))])
 .ret)
 .skip))
 (.seq
 (.reg 3 none [1,2,3,7] [
 qi 7 0])
 (.seq
 (.block 0
 (.loop
 (.seq
 (.seq
 (.reg 4 none [1,2,3,7,19] [
 qL 14 2 3,
 qm 15 1,
 qm 16 7,
 qm 17 2,
 qC 18 QQ [.t 14,.t 15,.t 16,.t 17],
 .r 19 (.un .not (.t 18))])
 (qq 19
 .skip
 (.exit 0)))
 (.block 1
 (.reg 5 none [1,2,3,7] [
 qm 20 7,
 qa 21 20,
 qm 7 21])))))
 (.seq
 (.reg 6 none [6] [
 qm 22 7,
 qm 6 22])
 .ret)))))
def qE8:List (Nat×List Nat):=qy Je
theorem qE9:FnIR Tryz.prog Qo 23 qE8 Je [(.tmp 6)]:=
 qF Tryz.func98
def Ku:RC:=
 (.seq
 (.reg 0 none [1,2] [
 .r 2 (.box (.t 0)),
 qc 4 false])
 (.seq
 (.reg 1 none [4] [
 qf 5 9 2,
 ql 6 5,
 qm 7 1,
 qb 8 .eql 6 7,
 qm 9 8,
 qff 10 9 10 2,
 qlf 11 9 10,
 qmf 12 9 1,
 .rf 13 9 (.call (.k (.clo jP [])) [.t 11,.t 12]),
 qP 14 9 13,
 qm 4 14])
 .ret))
def qR9:List (Nat×List Nat):=qy Ku
theorem qS0:FnIR Tryz.prog Wr 15 qR9 Ku [(.tmp 4)]:=
 qF Tryz.func99
def Zc:RC:=
 (.seq
 (.reg 0 none [1,2] [
 .r 2 (.box (.t 0)),
 qi 4 0])
 (.seq
 (.seq
 (.reg 1 none [1,2,19] [
 qL 6 2 2,
 qC 7 zm [.t 6],
 qB 8 .neq 7 0,
 qm 9 8,
 qmf 10 9 1,
 .rf 11 9 (.bin .lss false (.t 10) (qI 1)),
 qP 12 9 11,
 qm 13 12,
 qmf 14 13 1,
 qff 15 13 1 2,
 qlf 16 13 15,
 .rf 17 13 (.lenL (.t 16)),
 .rf 18 13 (.bin .geq false (.t 14) (.t 17)),
 qP 19 13 18])
 (qq 19
 (.seq
 (.reg 2 none [4] [
 .r 4 (.mv (.k (.v (.int .i64 (-1)))))])
 .ret)
 .skip))
 (.seq
 (.reg 3 none [2,5] [
 qf 20 1 2,
 ql 21 20,
 qm 22 1,
 qx 23 7 21 22,
 qL 24 7 23,
 .r 5 (.new (.agg [.v (.string ⟨#[]⟩),.v (.int .i64 0),.v (.int .i64 0),.v (.int .i64 0),.v (.int .i64 0),.v (.slice none 0 0),.v (.bool false)])),
 qs 7 5 24])
 (.seq
 (.seq
 (.reg 4 none [2,5,27] [
 qf 25 1 5,
 ql 26 25,
 qB 27 .eql 26 2])
 (qq 27
 (.seq
 (.reg 5 none [4] [
 qf 28 0 2,
 ql 29 28,
 qf 30 2 5,
 ql 31 30,
 qx 32 2 29 31,
 qL 33 2 32,
 qC 34 kG [.t 33],
 qB 35 .sub 34 1,
 qm 4 35])
 .ret)
 .skip))
 (.seq
 (.reg 6 none [4] [
 qf 36 5 5,
 ql 37 36,
 qn 38 37,
 qm 4 38])
 .ret)))))
def qw9:List (Nat×List Nat):=qy Zc
theorem qx0:FnIR Tryz.prog zX 39 qw9 Zc [(.tmp 4)]:=
 qF Tryz.func100
def WJ:RC:=
 (.seq
 (.reg 0 none [1,2] [
 .r 2 (.box (.t 0)),
 qi 4 0])
 (.seq
 (.seq
 (.reg 1 none [1,2,5] [
 qL 7 2 2,
 qC 8 zm [.t 7],
 qm 5 8])
 (.seq
 (.reg 2 none [1,2,5,10] [
 qm 9 5,
 qB 10 .neq 9 0])
 (qq 10
 (.seq
 (.reg 3 none [4] [
 qm 11 5,
 qm 4 11])
 .ret)
 .skip)))
 (.seq
 (.seq
 (.reg 4 none [1,2,17] [
 qm 12 1,
 qn 13 12,
 qf 14 1 2,
 ql 15 14,
 qn 16 15,
 qb 17 .neq 13 16])
 (qq 17
 (.seq
 (.reg 5 none [4] [
 qi 4 9])
 .ret)
 .skip))
 (.seq
 (.seq
 (.reg 6 none [1,2,6] [
 qi 6 0])
 (.block 0
 (.loop
 (.seq
 (.seq
 (.reg 7 none [1,2,6,21] [
 qm 18 6,
 qm 19 1,
 qn 20 19,
 qb 21 .lss 18 20])
 (qq 21
 .skip
 (.exit 0)))
 (.seq
 (.block 1
 (.seq
 (.reg 9 (some [0,0,0,0,12,28,63,127]) [1,2,6,31] [
 qL 24 2 2,
 qm 25 6,
 qm 26 1,
 qm 27 6,
 qx 28 1 26 27,
 ql 29 28,
 qC 30 Qq [.t 24,.t 25,.t 29],
 .r 31 (.un .not (.t 30))])
 (qq 31
 (.seq
 (.reg 10 none [4] [
 qi 4 9])
 .ret)
 .skip)))
 (.reg 8 none [1,2,6] [
 qm 22 6,
 qa 23 22,
 qm 6 23]))))))
 (.seq
 (.reg 11 none [4] [
 qi 4 0])
 .ret)))))
def zg3:List (Nat×List Nat):=qy WJ
theorem zg4:FnIR Tryz.prog QN 32 zg3 WJ [(.tmp 4)]:=
 qF Tryz.func101
def Kv:RC:=
 (.seq
 (.reg 0 none [0,1] [
 .r 4 (.mv (qN))])
 (.seq
 (.reg 1 none [0,1,5] [
 .r 5 (.mv (qN))])
 (.seq
 (.seq
 (.reg 2 none [0,1,5,6] [
 qi 6 0])
 (.block 0
 (.loop
 (.seq
 (.seq
 (.reg 3 none [0,1,5,6,10] [
 qm 7 6,
 qm 8 0,
 qn 9 8,
 qb 10 .lss 7 9])
 (qq 10
 .skip
 (.exit 0)))
 (.seq
 (.block 1
 (.seq
 (.reg 5 none [0,1,5,6,20] [
 qm 13 0,
 qm 14 6,
 qx 15 1 13 14,
 ql 16 15,
 .r 17 (.ixL 1 (.t 16) (qI 0)),
 ql 18 17,
 qm 19 1,
 qb 20 .neq 18 19])
 (qq 20
 (.reg 6 none [0,1,5,6] [
 qm 21 5,
 qm 22 0,
 qm 23 6,
 qx 24 1 22 23,
 ql 25 24,
 .r 26 (.bsl 1 1 [.t 25]),
 .r 27 (.app 1 24 false (.t 21) (.t 26)),
 qm 5 27])
 .skip)))
 (.reg 4 none [0,1,5,6] [
 qm 11 6,
 qa 12 11,
 qm 6 12]))))))
 (.seq
 (.reg 7 none [4] [
 qm 28 5,
 qm 4 28])
 .ret))))
def qS1:List (Nat×List Nat):=qy Kv
theorem qS2:FnIR Tryz.prog Zw 29 qS1 Kv [(.tmp 4)]:=
 qF Tryz.func102
def Jf:RC:=
 (.seq
 (.reg 0 none [1,2] [
 .r 2 (.box (.t 0)),
 qi 4 0])
 (.seq
 (.seq
 (.reg 1 none [1,2,5] [
 qL 8 2 2,
 qC 9 zm [.t 8],
 qm 5 9])
 (.seq
 (.reg 2 none [1,2,5,11] [
 qm 10 5,
 qB 11 .neq 10 0])
 (qq 11
 (.seq
 (.reg 3 none [4] [
 qm 12 5,
 qm 4 12])
 .ret)
 .skip)))
 (.seq
 (.seq
 (.reg 4 none [1,2,6] [
 qi 6 0])
 (.block 0
 (.loop
 (.seq
 (.seq
 (.reg 5 none [1,2,6,16] [
 qm 13 6,
 qm 14 1,
 qn 15 14,
 qb 16 .lss 13 15])
 (qq 16
 .skip
 (.exit 0)))
 (.seq
 (.block 1
 (.seq
 (.seq
 (.reg 7 (some [0,0,0,6,14,31,63]) [1,2,6,7] [
 qL 19 2 2,
 qm 20 1,
 qm 21 6,
 qx 22 2 20 21,
 qL 23 2 22,
 qC 24 Zy [.t 19,.t 23],
 qm 7 24])
 (.seq
 (.reg 8 none [1,2,6,7,26] [
 qm 25 7,
 qB 26 .neq 25 0])
 (qq 26
 (.seq
 (.reg 9 none [4] [
 qm 27 7,
 qm 4 27])
 .ret)
 .skip)))
 (.seq
 (.reg 10 (some [0,1,3,7,7,31,63,127,7,7,519,1799,3847,7943,16383,32767]) [1,2,6,43] [
 qm 28 6,
 qB 29 .gtr 28 0,
 qm 30 29,
 qmt 31 30 1,
 qmt 32 30 6,
 .rt 33 30 (.ixL 2 (.t 31) (.t 32)),
 qft 34 30 0 33,
 qlt 35 30 34,
 qmt 36 30 1,
 qmt 37 30 6,
 .rt 38 30 (.bin .sub false (.t 37) (qI 1)),
 .rt 39 30 (.ixL 2 (.t 36) (.t 38)),
 qft 40 30 0 39,
 qlt 41 30 40,
 .rt 42 30 (.bin .leq false (.t 35) (.t 41)),
 qp 43 30 42])
 (qq 43
 (.seq
 (.reg 11 none [4] [
 qi 4 10])
 .ret)
 .skip))))
 (.reg 6 none [1,2,6] [
 qm 17 6,
 qa 18 17,
 qm 6 18]))))))
 (.seq
 (.reg 12 none [4] [
 qi 4 0])
 .ret))))
def qF0:List (Nat×List Nat):=qy Jf
theorem qF1:FnIR Tryz.prog Qp 44 qF0 Jf [(.tmp 4)]:=
 qF Tryz.func103
def yQ:RC:=
 (.seq
 (.reg 0 none [2,3,4] [
 .r 3 (.box (.t 0)),
 .r 4 (.box (.t 1)),
 qc 6 false])
 (.seq
 (.reg 1 none [6] [
 qL 7 2 3,
 qL 8 17 4,
 qC 9 ju [.t 7,.t 8],
 qB 10 .eql 9 0,
 qm 11 10,
 .rt 12 11 (.ld (some 2) (.t 3)),
 qmt 13 11 2,
 .rt 14 11 (.call (.k (.clo Qp [])) [.t 12,.t 13]),
 .rt 15 11 (.bin .eql false (.t 14) (qI 0)),
 qp 16 11 15,
 qm 17 16,
 .rt 18 17 (.ld (some 2) (.t 3)),
 .rt 19 17 (.ld (some 17) (.t 4)),
 .rt 20 17 (.call (.k (.clo Ql [])) [.t 18,.t 19]),
 qmt 21 17 2,
 .rt 22 17 (.call (.k (.clo ZM [])) [.t 20,.t 21]),
 qp 23 17 22,
 qm 6 23])
 .ret))
def qq0:List (Nat×List Nat):=qy yQ
theorem qq1:FnIR Tryz.prog QO 24 qq0 yQ [(.tmp 6)]:=
 qF Tryz.func104
def Kw:RC:=
 (.seq
 (.reg 0 none [2,3,4] [
 .r 3 (.box (.t 0)),
 .r 4 (.box (.t 1)),
 qi 6 0])
 (.seq
 (.seq
 (.reg 1 none [2,3,4,16] [
 qL 7 2 3,
 qL 8 6 4,
 qC 9 jq [.t 7,.t 8],
 qB 10 .neq 9 0,
 qm 11 10,
 .rf 12 11 (.ld (some 2) (.t 3)),
 qmf 13 11 2,
 .rf 14 11 (.call (.k (.clo QN [])) [.t 12,.t 13]),
 .rf 15 11 (.bin .neq false (.t 14) (qI 0)),
 qP 16 11 15])
 (qq 16
 (.seq
 (.reg 2 none [6] [
 qi 6 0])
 .ret)
 .skip))
 (.seq
 (.reg 3 none [6] [
 qL 17 2 3,
 qL 18 6 4,
 qm 19 2,
 qC 20 Zz [.t 17,.t 18,.t 19],
 qm 6 20])
 .ret)))
def qS3:List (Nat×List Nat):=qy Kw
theorem qS4:FnIR Tryz.prog Ws 21 qS3 Kw [(.tmp 6)]:=
 qF Tryz.func105
def qb1:RC:=
 (.seq
 (.reg 0 none [1,2] [
 .r 2 (.box (.t 0)),
 qc 4 false])
 (.seq
 (.reg 1 (some [0,1,3,7,15,31,63,127,255,511,1023,2047,4095,8191,4095,32767,4095,69631,262143,4095,528383,2097151,4194303,8388607]) [4] [
 qL 5 3 2,
 qC 6 Ki [.t 5],
 qB 7 .eql 6 0,
 qm 8 7,
 qmt 9 8 1,
 .rt 10 8 (.bin .geq false (.t 9) (qI 1)),
 qp 11 8 10,
 qm 12 11,
 qmt 13 12 1,
 .rt 14 12 (.bin .leq false (.t 13) (qI 1048575)),
 qp 15 12 14,
 qm 16 15,
 qft 17 16 2 2,
 qlt 18 16 17,
 qmt 19 16 1,
 .rt 20 16 (.call (.k (.clo Wu [])) [.t 18,.t 19]),
 qft 21 16 1 2,
 qlt 22 16 21,
 .rt 23 16 (.bin .rem false (.t 20) (.t 22)),
 qft 24 16 0 2,
 qlt 25 16 24,
 .rt 26 16 (.bin .lss false (.t 23) (.t 25)),
 qp 27 16 26,
 qm 4 27])
 .ret))
def zn7:List (Nat×List Nat):=qy qb1
theorem zn8:FnIR Tryz.prog qk9 28 zn7 qb1 [(.tmp 4)]:=
 qF Tryz.func106
def qb2:RC:=
 (.seq
 (.reg 0 none [0,1,2] [
 qc 6 false])
 (.seq
 (.reg 1 none [6] [
 qm 7 1,
 qm 8 0,
 qb 9 .leq 7 8,
 qm 10 9,
 qmt 11 10 0,
 qmt 12 10 2,
 .rt 13 10 (.bin .leq false (.t 11) (.t 12)),
 qp 14 10 13,
 qm 6 14])
 .ret))
def zn9:List (Nat×List Nat):=qy qb2
theorem zo0:FnIR Tryz.prog zA 15 zn9 qb2 [(.tmp 6)]:=
 qF Tryz.func107
def Jg:RC:=
 (.seq
 (.reg 0 none [1,2,3] [
 .r 3 (.box (.t 0)),
 qc 6 false])
 (.seq
 (.reg 1 none [2,3,7] [
 qf 9 1 3,
 ql 10 9,
 qm 11 1,
 qx 12 7 10 11,
 qL 13 7 12,
 .r 7 (.new (.agg [.v (.string ⟨#[]⟩),.v (.int .i64 0),.v (.int .i64 0),.v (.int .i64 0),.v (.int .i64 0),.v (.slice none 0 0),.v (.bool false)])),
 qs 7 7 13])
 (.seq
 (.seq
 (.reg 2 none [2,3,7,15] [
 qf 14 1 7,
 ql 15 14])
 (.block 0
 (.seq
 (.reg 3 none [2,3,7,15,16] [
 qB 17 .eql 15 1,
 qm 16 17])
 (qq 16
 (.seq
 (.reg 4 none [6] [
 qm 18 2,
 qC 19 zA [.t 18,qI 1,qI 1048575],
 qm 6 19])
 .ret)
 (.seq
 (.reg 5 none [2,3,7,20] [
 qB 21 .eql 15 2,
 qm 20 21])
 (qq 20
 (.seq
 (.reg 6 none [2,8] [
 qf 22 0 3,
 ql 23 22,
 qf 24 2 7,
 ql 25 24,
 qx 26 2 23 25,
 qL 27 2 26,
 .r 8 (.new (.agg [.v (.string ⟨#[]⟩),.v (.slice none 0 0)])),
 qs 2 8 27])
 (.seq
 (.reg 7 (some [0,0,2,6,14,31,63,127,127,511,127,2047,4095,8191,16383,32767]) [6] [
 qm 28 2,
 qf 29 1 8,
 ql 30 29,
 qn 31 30,
 qB 32 .sub 31 1,
 qC 33 zA [.t 28,qI 0,.t 32],
 qm 34 33,
 .rt 35 34 (.ld (some 2) (.t 8)),
 qmt 36 34 2,
 .rt 37 34 (.call (.k (.clo wD [])) [.t 35,.t 36]),
 .rt 38 34 (.ld (some 2) (.t 8)),
 .rt 39 34 (.call (.k (.clo kG [])) [.t 38]),
 .rt 40 34 (.bin .sub false (.t 39) (qI 1)),
 .rt 41 34 (.bin .eql false (.t 37) (.t 40)),
 qp 42 34 41,
 qm 6 42])
 .ret))
 .skip))))))
 (.seq
 (.reg 8 none [6] [
 qf 43 6 7,
 ql 44 43,
 qm 45 44,
 qmt 46 45 2,
 .rt 47 45 (.bin .eql false (.t 46) (.k (.v (.int .i64 (-1099511627776))))),
 qp 48 45 47,
 qm 49 48,
 qmf 50 49 2,
 qff 51 49 3 7,
 qlf 52 49 51,
 qff 53 49 4 7,
 qlf 54 49 53,
 .rf 55 49 (.call (.k (.clo zA [])) [.t 50,.t 52,.t 54]),
 qP 56 49 55,
 qm 6 56])
 .ret))))
def qF2:List (Nat×List Nat):=qy Jg
theorem qF3:FnIR Tryz.prog Qq 57 qF2 Jg [(.tmp 6)]:=
 qF Tryz.func108
def qb3:RC:=
 (.seq
 (.reg 0 none [1,2,3] [
 .r 3 (.box (.t 0)),
 qi 6 0])
 (.seq
 (.seq
 (.reg 1 none [1,2,3,31] [
 qL 7 2 3,
 qC 8 jr [.t 7],
 qB 9 .neq 8 0,
 qm 10 9,
 qmf 11 10 1,
 .rf 12 10 (.bin .lss false (.t 11) (qI 0)),
 qP 13 10 12,
 qm 14 13,
 qmf 15 14 1,
 qff 16 14 1 3,
 qlf 17 14 16,
 .rf 18 14 (.lenL (.t 17)),
 .rf 19 14 (.bin .geq false (.t 15) (.t 18)),
 qP 20 14 19,
 qm 21 20,
 qmf 22 21 2,
 .rf 23 21 (.bin .lss false (.t 22) (qI 0)),
 qP 24 21 23,
 qm 25 24,
 qmf 26 25 2,
 .rf 27 25 (.ld (some 2) (.t 3)),
 qmf 28 25 1,
 .rf 29 25 (.call (.k (.clo ze [])) [.t 27,.t 28]),
 .rf 30 25 (.bin .gtr false (.t 26) (.t 29)),
 qP 31 25 30])
 (qq 31
 (.seq
 (.reg 2 none [6] [
 .r 6 (.mv (.k (.v (.int .i64 (-1)))))])
 .ret)
 .skip))
 (.seq
 (.block 0
 (.loop
 (.seq
 (.seq
 (.reg 3 none [1,2,3,36] [
 qL 32 2 3,
 qm 33 1,
 qC 34 ze [.t 32,.t 33],
 qm 35 2,
 qb 36 .gtr 34 35])
 (qq 36
 .skip
 (.exit 0)))
 (.block 1
 (.reg 4 none [1,2,3] [
 qf 37 1 3,
 ql 38 37,
 qm 39 1,
 qx 40 2 38 39,
 qf 41 1 40,
 ql 42 41,
 qm 1 42])))))
 (.seq
 (.reg 5 none [6] [
 qm 43 1,
 qm 6 43])
 .ret))))
def zo1:List (Nat×List Nat):=qy qb3
theorem zo2:FnIR Tryz.prog Yg 44 zo1 qb3 [(.tmp 6)]:=
 qF Tryz.func109
def Jh:RC:=
 (.seq
 (.reg 0 none [1,2] [
 .r 2 (.box (.t 0)),
 qi 4 0])
 (.seq
 (.reg 1 none [4] [
 qf 5 5 2,
 ql 6 5,
 qf 7 5 2,
 ql 8 7,
 qn 9 8,
 qm 10 1,
 qb 11 .sub 9 10,
 qx 12 1 6 11,
 ql 13 12,
 qm 4 13])
 .ret))
def qF4:List (Nat×List Nat):=qy Jh
theorem qF5:FnIR Tryz.prog kg 14 qF4 Jh [(.tmp 4)]:=
 qF Tryz.func110
def Ji:RC:=
 (.seq
 (.reg 0 none [0,1] [
 qi 4 0])
 (.seq
 (.reg 1 none [0,1,5] [
 qm 6 0,
 qm 7 1,
 qb 8 .quo 6 7,
 qm 5 8])
 (.seq
 (.seq
 (.reg 2 none [5,12] [
 qm 9 0,
 qm 10 1,
 qb 11 .rem 9 10,
 qB 12 .lss 11 0])
 (qq 12
 (.reg 3 none [5] [
 qm 13 5,
 qB 14 .sub 13 1,
 qm 5 14])
 .skip))
 (.seq
 (.reg 4 none [4] [
 qm 15 5,
 qm 4 15])
 .ret))))
def qF6:List (Nat×List Nat):=qy Ji
theorem qF7:FnIR Tryz.prog Qr 16 qF6 Ji [(.tmp 4)]:=
 qF Tryz.func111
def wP:RC:=
 (.seq
 (.reg 0 none [0,2] [
 qm 3 0,
 qn 4 3,
 qm 2 4])
 (.reg 1 none [] [
 qm 5 0,
 qm 6 2,
 qm 7 2,
 .r 8 (.cvI .u64 (.t 7)),
 qC 9 QR [.t 8],
 qC 10 qS [.t 5,qI 0,.t 6,.t 9]]))
def qg6:List (Nat×List Nat):=qy wP
theorem qg7:FnIR Tryz.prog yg 11 qg6 wP []:=
 qF Tryz.func112
def jU:RC:=
 (.seq
 (.reg 0 none [0] [
 .r 2 (.mv (qN))])
 (.seq
 (.seq
 (.reg 1 none [0,8] [
 qm 6 0,
 qn 7 6,
 qB 8 .lss 7 2])
 (qq 8
 (.seq
 (.reg 2 none [2] [
 qm 9 0,
 qm 2 9])
 .ret)
 .skip))
 (.seq
 (.seq
 (.reg 3 none [0,3] [
 qi 3 1])
 (.block 0
 (.loop
 (.seq
 (.seq
 (.reg 4 none [0,3,13] [
 qm 10 3,
 qm 11 0,
 qn 12 11,
 qb 13 .lss 10 12])
 (qq 13
 .skip
 (.exit 0)))
 (.seq
 (.block 1
 (.seq
 (.reg 6 (some [0,0,3,7,0,0,32,112,240,511]) [0,3,25] [
 qm 16 0,
 qm 17 3,
 qx 18 1 16 17,
 ql 19 18,
 qm 20 0,
 qm 21 3,
 qB 22 .sub 21 1,
 qx 23 1 20 22,
 ql 24 23,
 qb 25 .eql 19 24])
 (qq 25
 (.seq
 (.reg 7 none [0,3,4] [
 qm 26 0,
 qm 27 3,
 .r 28 (.slL 1 (.t 26) (some (.t 27)) none),
 qm 4 28])
 (.seq
 (.seq
 (.reg 8 none [0,3,4,5] [
 qi 5 1])
 (.block 2
 (.loop
 (.seq
 (.seq
 (.reg 9 none [0,3,4,5,32] [
 qm 29 5,
 qm 30 4,
 qn 31 30,
 qb 32 .lss 29 31])
 (qq 32
 .skip
 (.exit 2)))
 (.seq
 (.block 3
 (.seq
 (.reg 11 (some [0,0,3,7,0,0,32,112,240,511]) [0,3,4,5,44] [
 qm 35 4,
 qm 36 5,
 qx 37 1 35 36,
 ql 38 37,
 qm 39 4,
 qm 40 5,
 qB 41 .sub 40 1,
 qx 42 1 39 41,
 ql 43 42,
 qb 44 .neq 38 43])
 (qq 44
 (.seq
 (.reg 12 none [0,3,4,5] [
 qm 45 0,
 qm 46 3,
 qm 47 4,
 qm 48 5,
 qx 49 1 47 48,
 ql 50 49,
 qx 51 1 45 46,
 qs 1 51 50])
 (.reg 13 none [0,3,4,5] [
 qm 52 3,
 qa 53 52,
 qm 3 53]))
 .skip)))
 (.reg 10 none [0,3,4,5] [
 qm 33 5,
 qa 34 33,
 qm 5 34]))))))
 (.seq
 (.reg 14 none [0,3] [
 qm 54 0,
 qm 55 3,
 .r 56 (.slL 1 (.t 54) (some (.t 55)) none),
 .rn (.ext (.clr 1 (.v (.int .i64 0))) [.t 56])])
 (.seq
 (.reg 15 none [2] [
 qm 57 0,
 qm 58 3,
 .r 59 (.slL 1 (.t 57) none (some (.t 58))),
 qm 2 59])
 .ret))))
 .skip)))
 (.reg 5 none [0,3] [
 qm 14 3,
 qa 15 14,
 qm 3 15]))))))
 (.seq
 (.reg 16 none [2] [
 qm 60 0,
 qm 2 60])
 .ret))))
def WK:List (Nat×List Nat):=qy jU
theorem WL:FnIR Tryz.prog kz 61 WK jU [(.tmp 2)]:=
 qF Tryz.func113
def jt:RC:=
 (.seq
 (.reg 0 none [0,1] [
 qi 4 0])
 (.seq
 (.seq
 (.reg 1 none [0,1,7,8] [
 qm 6 0,
 qn 7 6,
 qi 8 0])
 (.block 0
 (.loop
 (.seq
 (.reg 2 none [0,1,7,8,9] [
 qb 9 .lss 8 7])
 (.seq
 (qq 9
 .skip
 (.exit 0))
 (.seq
 (.block 1
 (.seq
 (.reg 3 none [0,1,5,7,8] [
 qm 10 8,
 qm 5 10])
 (.seq
 (.reg 4 none [0,1,5,7,8,16] [
 qm 11 1,
 qm 12 0,
 qm 13 5,
 qx 14 1 12 13,
 ql 15 14,
 .r 16 (.call (.t 11) [.t 15])])
 (qq 16
 (.seq
 (.reg 5 none [4] [
 qm 17 5,
 qm 4 17])
 .ret)
 .skip))))
 (.reg 6 none [0,1,7,8] [
 qa 18 8,
 qm 8 18])))))))
 (.seq
 (.reg 7 none [4] [
 .r 4 (.mv (.k (.v (.int .i64 (-1)))))])
 .ret)))
def Kx:List (Nat×List Nat):=qy jt
theorem Ky:FnIR Tryz.prog jA 19 Kx jt [(.tmp 4)]:=
 qF Tryz.func114
def Zd:RC:=
 (.seq
 (.reg 0 none [1,2] [
 .r 2 (.box (.t 0)),
 .r 4 (.mv (qN))])
 (.seq
 (.reg 1 (some [0,1,0,4,0,28,60,124,255,511,0,2047]) [5] [
 qf 6 0 2,
 ql 7 6,
 qf 8 1 2,
 ql 9 8,
 qm 10 1,
 qx 11 7 9 10,
 qf 12 2 11,
 ql 13 12,
 qx 14 2 7 13,
 qL 15 2 14,
 .r 5 (.new (.agg [.v (.string ⟨#[]⟩),.v (.slice none 0 0)])),
 qs 2 5 15])
 (.seq
 (.reg 2 (some [0,0,2,6,15,31]) [4] [
 qL 16 2 5,
 qL 17 2 5,
 qC 18 kG [.t 17],
 qB 19 .sub 18 1,
 qC 20 ql0 [.t 16,.t 19],
 qm 4 20])
 .ret)))
def qx1:List (Nat×List Nat):=qy Zd
theorem qx2:FnIR Tryz.prog kF 21 qx1 Zd [(.tmp 4)]:=
 qF Tryz.func118
def zu:RC:=
 (.seq
 (.reg 0 none [0,1] [
 .r 4 (.mv (.k (.v (.string ⟨#[]⟩))))])
 (.seq
 (.seq
 (.reg 1 none [0,1,11] [
 qm 10 1,
 qB 11 .eql 10 10])
 (qq 11
 (.seq
 (.seq
 (.reg 2 none [0,17] [
 qm 12 0,
 .r 13 (.bin .leq false (qI 0) (.t 12)),
 qm 14 13,
 qmt 15 14 0,
 .rt 16 14 (.bin .lss false (.t 15) (qI 100)),
 qp 17 14 16])
 (qq 17
 (.seq
 (.reg 3 none [4] [
 qm 18 0,
 qC 19 jh [.t 18],
 qm 4 19])
 .ret)
 .skip))
 (.seq
 (.reg 4 none [0] [
 .r 5 (.new (.agg [.v (.int .u8 0),.v (.int .u8 0),.v (.int .u8 0),.v (.int .u8 0),.v (.int .u8 0),.v (.int .u8 0),.v (.int .u8 0),.v (.int .u8 0),.v (.int .u8 0),.v (.int .u8 0),.v (.int .u8 0),.v (.int .u8 0),.v (.int .u8 0),.v (.int .u8 0),.v (.int .u8 0),.v (.int .u8 0),.v (.int .u8 0),.v (.int .u8 0),.v (.int .u8 0),.v (.int .u8 0),.v (.int .u8 0),.v (.int .u8 0),.v (.int .u8 0),.v (.int .u8 0)]))])
 (.seq
 (.reg 5 none [0,6] [
 qm 20 0,
 .r 21 (.cvI .u64 (.t 20)),
 qm 6 21])
 (.seq
 (.seq
 (.reg 6 none [6,23] [
 qm 22 0,
 qB 23 .lss 22 0])
 (qq 23
 (.reg 7 none [6] [
 qm 24 6,
 .r 25 (.un .neg (.t 24)),
 qm 6 25])
 .skip))
 (.seq
 (.reg 8 none [] [
 qm 26 6,
 qC 27 Qv [.t 26],
 qm 7 27])
 (.seq
 .stuck
 (.seq
 (.seq
 (.reg 10 none [5,34] [
 qm 33 0,
 qB 34 .lss 33 0])
 (qq 34
 (.seq
 (.reg 11 none [] [
 .r 35 (.ixA 24 1 (.t 5) (qI 0)),
 .rn (.st 1 (.t 35) (.k (.v (.int .u8 45))))])
 (.seq
 .stuck
 .ret))
 .skip))
 (.seq
 .stuck
 .ret))))))))
 .skip))
 (.seq
 (.reg 14 none [9] [
 qm 45 0,
 .r 46 (.cvI .u64 (.t 45)),
 qm 47 1,
 qm 48 0,
 qB 49 .lss 48 0,
 qC 50 yL [qN,.t 46,.t 47,.t 49,.k (.v (.bool false))],
 qm 44 50,
 .r 51 (.ex (.t 44) 0),
 .r 52 (.ex (.t 44) 1),
 qm 8 51,
 qm 9 52])
 (.seq
 (.reg 15 none [4] [
 qm 53 9,
 qm 4 53])
 .ret))))
def yR:List (Nat×List Nat):=qy zu
theorem yS:FnIR Tryz.prog zx 54 yR zu [(.tmp 4)]:=
 qF Tryz.func119
def Ze:RC:=
 (.seq
 (.reg 0 none [1,2] [
 .r 2 (.box (.t 0)),
 .r 4 (.mv (qN))])
 (.seq
 (.reg 1 none [1,2,5] [
 .r 5 (.mv (qN))])
 (.seq
 (.seq
 (.reg 2 none [1,2,5,9,10] [
 qf 7 1 2,
 ql 8 7,
 qn 9 8,
 qi 10 0])
 (.block 0
 (.loop
 (.seq
 (.reg 3 none [1,2,5,9,10,11] [
 qb 11 .lss 10 9])
 (.seq
 (qq 11
 .skip
 (.exit 0))
 (.seq
 (.block 1
 (.seq
 (.reg 4 none [1,2,5,6,9,10] [
 qm 12 10,
 qm 6 12])
 (.seq
 (.reg 5 none [1,2,5,6,9,10,20] [
 qf 13 1 2,
 ql 14 13,
 qm 15 6,
 qx 16 7 14 15,
 qf 17 1 16,
 ql 18 17,
 qm 19 1,
 qb 20 .eql 18 19])
 (qq 20
 (.reg 6 none [1,2,5,9,10] [
 qm 21 5,
 qm 22 6,
 .r 23 (.bsl 1 1 [.t 22]),
 .r 24 (.app 1 8 false (.t 21) (.t 23)),
 qm 5 24])
 .skip))))
 (.reg 7 none [1,2,5,9,10] [
 qa 25 10,
 qm 10 25])))))))
 (.seq
 (.reg 8 none [4] [
 qm 26 5,
 qm 4 26])
 .ret))))
def qx3:List (Nat×List Nat):=qy Ze
theorem qx4:FnIR Tryz.prog jx 27 qx3 Ze [(.tmp 4)]:=
 qF Tryz.func120
def Jj:RC:=
 (.seq
 (.reg 0 none [1] [
 .r 1 (.box (.t 0)),
 qi 2 0])
 (.seq
 (.seq
 (.reg 1 none [1,11] [
 qf 8 0 1,
 ql 9 8,
 qC 10 jl [.t 9],
 .r 11 (.un .not (.t 10))])
 (qq 11
 (.seq
 (.reg 2 none [2] [
 qi 2 3])
 .ret)
 .skip))
 (.seq
 (.seq
 (.reg 3 none [1,15] [
 qf 12 1 1,
 ql 13 12,
 qn 14 13,
 qB 15 .eql 14 0])
 (qq 15
 (.seq
 (.reg 4 none [2] [
 qi 2 5])
 .ret)
 .skip))
 (.seq
 (.seq
 (.reg 5 none [1,19] [
 qf 16 1 1,
 ql 17 16,
 qn 18 17,
 qB 19 .gtr 18 60])
 (qq 19
 (.seq
 (.reg 6 none [2] [
 qi 2 1])
 .ret)
 .skip))
 (.seq
 (.seq
 (.reg 7 none [1,3] [
 qi 3 0])
 (.block 0
 (.loop
 (.seq
 (.seq
 (.reg 8 none [1,3,24] [
 qm 20 3,
 qf 21 1 1,
 ql 22 21,
 qn 23 22,
 qb 24 .lss 20 23])
 (qq 24
 .skip
 (.exit 0)))
 (.seq
 (.block 1
 (.seq
 (.seq
 (.reg 10 none [1,3,34] [
 qf 27 1 1,
 ql 28 27,
 qm 29 3,
 qx 30 2 28 29,
 qf 31 0 30,
 ql 32 31,
 qC 33 jl [.t 32],
 .r 34 (.un .not (.t 33))])
 (qq 34
 (.seq
 (.reg 11 none [2] [
 qi 2 3])
 .ret)
 .skip))
 (.seq
 (.seq
 (.reg 12 none [1,3,4] [
 qi 4 0])
 (.block 2
 (.loop
 (.seq
 (.seq
 (.reg 13 none [1,3,4,37] [
 qm 35 4,
 qm 36 3,
 qb 37 .lss 35 36])
 (qq 37
 .skip
 (.exit 2)))
 (.seq
 (.block 3
 (.seq
 (.reg 15 (some [0,1,0,7,15,31,0,64,0,448,960,1984,4095]) [1,3,4,52] [
 qf 40 1 1,
 ql 41 40,
 qm 42 4,
 qx 43 2 41 42,
 qf 44 0 43,
 ql 45 44,
 qf 46 1 1,
 ql 47 46,
 qm 48 3,
 qx 49 2 47 48,
 qf 50 0 49,
 ql 51 50,
 qb 52 .eql 45 51])
 (qq 52
 (.seq
 (.reg 16 none [2] [
 qi 2 10])
 .ret)
 .skip)))
 (.reg 14 none [1,3,4] [
 qm 38 4,
 qa 39 38,
 qm 4 39]))))))
 (.seq
 (.reg 17 none [1,3,5] [
 qf 53 1 1,
 ql 54 53,
 qm 55 3,
 qx 56 2 54 55,
 qf 57 1 56,
 ql 58 57,
 qm 5 58])
 (.seq
 (.reg 18 none [1,3,77] [
 qm 59 3,
 qB 60 .eql 59 0,
 qm 61 60,
 qmt 62 61 5,
 .rt 63 61 (.bin .neq false (.t 62) (.k (.v (.int .i64 (-1))))),
 qp 64 61 63,
 qm 65 64,
 qmf 66 65 3,
 .rf 67 65 (.bin .gtr false (.t 66) (qI 0)),
 qmf 68 65 67,
 qmt 69 68 5,
 .rt 70 68 (.bin .lss false (.t 69) (qI 0)),
 qmt 71 68 70,
 qmf 72 71 5,
 qmf 73 71 3,
 .rf 74 71 (.bin .geq false (.t 72) (.t 73)),
 .rt 75 68 (.pick (.t 71) (.k (.v (.bool true))) (.t 74)),
 .rf 76 65 (.pick (.t 68) (.t 75) (.k (.v (.bool false)))),
 qP 77 65 76])
 (qq 77
 (.seq
 (.reg 19 none [2] [
 qi 2 6])
 .ret)
 .skip))))))
 (.reg 9 none [1,3] [
 qm 25 3,
 qa 26 25,
 qm 3 26]))))))
 (.seq
 (.reg 20 none [1,6] [
 .r 6 (.mv (.k (.v (.int .i64 (-1)))))])
 (.seq
 (.seq
 (.reg 21 none [1,6,7] [
 qi 7 0])
 (.block 4
 (.loop
 (.seq
 (.seq
 (.reg 22 none [1,6,7,82] [
 qm 78 7,
 qf 79 1 1,
 ql 80 79,
 qn 81 80,
 qb 82 .lss 78 81])
 (qq 82
 .skip
 (.exit 4)))
 (.seq
 (.block 5
 (.seq
 (.reg 24 none [1,6,7,87] [
 qL 85 2 1,
 qm 86 7,
 qC 87 Wv [.t 85,.t 86]])
 (qq 87
 (.seq
 (.seq
 (.reg 25 none [1,7,96] [
 qm 88 6,
 qB 89 .geq 88 0,
 qm 90 89,
 .rt 91 90 (.ld (some 2) (.t 1)),
 qmt 92 90 7,
 .rt 93 90 (.call (.k (.clo ze [])) [.t 91,.t 92]),
 qmt 94 90 6,
 .rt 95 90 (.bin .neq false (.t 93) (.t 94)),
 qp 96 90 95])
 (qq 96
 (.seq
 (.reg 26 none [2] [
 qi 2 5])
 .ret)
 .skip))
 (.reg 27 none [1,6,7] [
 qL 97 2 1,
 qm 98 7,
 qC 99 ze [.t 97,.t 98],
 qm 6 99]))
 .skip)))
 (.reg 23 none [1,6,7] [
 qm 83 7,
 qa 84 83,
 qm 7 84]))))))
 (.seq
 (.reg 28 none [2] [
 qi 2 0])
 .ret))))))))
def qF8:List (Nat×List Nat):=qy Jj
theorem qF9:FnIR Tryz.prog jr 100 qF8 Jj [(.tmp 2)]:=
 qF Tryz.func121
def Zf:RC:=
 (.seq
 (.reg 0 none [1,2] [
 .r 2 (.box (.t 0)),
 qi 4 0])
 (.seq
 (.reg 1 none [1,2,5] [
 qf 8 1 2,
 ql 9 8,
 qm 10 1,
 qx 11 7 9 10,
 qL 12 7 11,
 .r 5 (.new (.agg [.v (.string ⟨#[]⟩),.v (.int .i64 0),.v (.int .i64 0),.v (.int .i64 0),.v (.int .i64 0),.v (.slice none 0 0),.v (.bool false)])),
 qs 7 5 12])
 (.seq
 (.seq
 (.reg 2 none [1,2,5,16] [
 qf 13 0 5,
 ql 14 13,
 qC 15 jl [.t 14],
 .r 16 (.un .not (.t 15))])
 (qq 16
 (.seq
 (.reg 3 none [4] [
 qi 4 3])
 .ret)
 .skip))
 (.seq
 (.seq
 (.reg 4 none [1,2,5,6] [
 qi 6 0])
 (.block 0
 (.loop
 (.seq
 (.seq
 (.reg 5 none [1,2,5,6,19] [
 qm 17 6,
 qm 18 1,
 qb 19 .lss 17 18])
 (qq 19
 .skip
 (.exit 0)))
 (.seq
 (.block 1
 (.seq
 (.reg 7 (some [0,1,0,7,15,31,0,64,255]) [1,2,5,6,30] [
 qf 22 1 2,
 ql 23 22,
 qm 24 6,
 qx 25 7 23 24,
 qf 26 0 25,
 ql 27 26,
 qf 28 0 5,
 ql 29 28,
 qb 30 .eql 27 29])
 (qq 30
 (.seq
 (.reg 8 none [4] [
 qi 4 10])
 .ret)
 .skip)))
 (.reg 6 none [1,2,5,6] [
 qm 20 6,
 qa 21 20,
 qm 6 21]))))))
 (.seq
 (.seq
 (.reg 9 none [2,5,43] [
 qf 31 1 5,
 ql 32 31,
 qC 33 zA [.t 32,qI 1,qI 3],
 .r 34 (.un .not (.t 33)),
 qm 35 34,
 qmf 36 35 1,
 .rf 37 35 (.bin .gtr false (.t 36) (qI 0)),
 qmf 38 35 37,
 qft 39 38 1 5,
 qlt 40 38 39,
 .rt 41 38 (.bin .eql false (.t 40) (qI 1)),
 .rf 42 35 (.pick (.t 38) (.t 41) (.k (.v (.bool false)))),
 qP 43 35 42])
 (qq 43
 (.seq
 (.reg 10 none [4] [
 qi 4 4])
 .ret)
 .skip))
 (.seq
 (.seq
 (.reg 11 none [5,56] [
 qf 44 1 5,
 ql 45 44,
 qB 46 .eql 45 2,
 qm 47 46,
 qft 48 47 2 5,
 qlt 49 47 48,
 qft 50 47 0 2,
 qlt 51 47 50,
 .rt 52 47 (.lenL (.t 51)),
 .rt 53 47 (.bin .sub false (.t 52) (qI 1)),
 .rt 54 47 (.call (.k (.clo zA [])) [.t 49,qI 0,.t 53]),
 .rt 55 47 (.un .not (.t 54)),
 qp 56 47 55])
 (qq 56
 (.seq
 (.reg 12 none [4] [
 qi 4 5])
 .ret)
 .skip))
 (.seq
 (.seq
 (.reg 13 none [5,59] [
 qf 57 1 5,
 ql 58 57,
 qB 59 .eql 58 3])
 (qq 59
 (.seq
 (.reg 14 none [5,7] [
 qL 60 7 5,
 qC 61 QS [.t 60],
 qm 7 61])
 (.seq
 (.reg 15 none [5,7,63] [
 qm 62 7,
 qB 63 .neq 62 0])
 (qq 63
 (.seq
 (.reg 16 none [4] [
 qm 64 7,
 qm 4 64])
 .ret)
 .skip)))
 .skip))
 (.seq
 (.seq
 (.reg 17 none [97] [
 qf 65 1 5,
 ql 66 65,
 qB 67 .neq 66 2,
 qm 68 67,
 qft 69 68 2 5,
 qlt 70 68 69,
 .rt 71 68 (.bin .neq false (.t 70) (qI 0)),
 qp 72 68 71,
 qm 73 72,
 qff 74 73 1 5,
 qlf 75 73 74,
 .rf 76 73 (.bin .neq false (.t 75) (qI 3)),
 qmf 77 73 76,
 qft 78 77 3 5,
 qlt 79 77 78,
 .rt 80 77 (.bin .neq false (.t 79) (qI 0)),
 qmt 81 77 80,
 qff 82 81 4 5,
 qlf 83 81 82,
 .rf 84 81 (.bin .neq false (.t 83) (qI 0)),
 .rt 85 77 (.pick (.t 81) (.k (.v (.bool true))) (.t 84)),
 qmt 86 77 85,
 qff 87 86 5 5,
 qlf 88 86 87,
 .rf 89 86 (.lenL (.t 88)),
 .rf 90 86 (.bin .gtr false (.t 89) (qI 0)),
 .rt 91 77 (.pick (.t 86) (.k (.v (.bool true))) (.t 90)),
 qmt 92 77 91,
 qff 93 92 6 5,
 qlf 94 92 93,
 .rt 95 77 (.pick (.t 92) (.k (.v (.bool true))) (.t 94)),
 .rf 96 73 (.pick (.t 77) (.t 95) (.k (.v (.bool false)))),
 qP 97 73 96])
 (qq 97
 (.seq
 (.reg 18 none [4] [
 qi 4 11])
 .ret)
 .skip))
 (.seq
 (.reg 19 none [4] [
 qi 4 0])
 .ret)))))))))
def qx5:List (Nat×List Nat):=qy Zf
theorem qx6:FnIR Tryz.prog ZL 98 qx5 Zf [(.tmp 4)]:=
 qF Tryz.func122
def Jk:RC:=
 (.seq
 (.reg 0 none [1,2] [
 .r 2 (.box (.t 0)),
 qi 4 0])
 (.seq
 (.reg 1 none [1,2,5] [
 qi 5 1])
 (.seq
 (.seq
 (.reg 2 none [1,2,5,6] [
 qi 6 0])
 (.block 0
 (.loop
 (.seq
 (.seq
 (.reg 3 none [1,2,5,6,16] [
 qm 7 6,
 qf 8 5 2,
 ql 9 8,
 qn 10 9,
 qb 11 .lss 7 10,
 qm 12 11,
 qmt 13 12 5,
 qmt 14 12 1,
 .rt 15 12 (.bin .lss false (.t 13) (.t 14)),
 qp 16 12 15])
 (qq 16
 .skip
 (.exit 0)))
 (.seq
 (.block 1
 (.reg 5 none [1,2,5,6] [
 qm 19 5,
 qf 20 5 2,
 ql 21 20,
 qm 22 6,
 qx 23 6 21 22,
 qL 24 6 23,
 qm 25 1,
 qm 26 5,
 qb 27 .sub 25 26,
 qC 28 Qs [.t 24,.t 27],
 qb 29 .add 19 28,
 qm 5 29]))
 (.reg 4 none [1,2,5,6] [
 qm 17 6,
 qa 18 17,
 qm 6 18]))))))
 (.seq
 (.reg 6 none [4] [
 qm 30 5,
 qm 4 30])
 .ret))))
def qG0:List (Nat×List Nat):=qy Jk
theorem qG1:FnIR Tryz.prog Qs 31 qG0 Jk [(.tmp 4)]:=
 qF Tryz.func123
def Jl:RC:=
 (.seq
 (.reg 0 none [1] [
 .r 1 (.box (.t 0)),
 qi 2 0])
 (.seq
 (.reg 1 none [1,3] [
 qi 3 0])
 (.seq
 (.seq
 (.reg 2 none [1,3,4] [
 qi 4 0])
 (.block 0
 (.loop
 (.seq
 (.seq
 (.reg 3 none [1,3,4,9] [
 qm 5 4,
 qf 6 5 1,
 ql 7 6,
 qn 8 7,
 qb 9 .lss 5 8])
 (qq 9
 .skip
 (.exit 0)))
 (.seq
 (.block 1
 (.reg 5 none [1,3,4] [
 qm 12 3,
 qf 13 5 1,
 ql 14 13,
 qm 15 4,
 qx 16 6 14 15,
 qL 17 6 16,
 qC 18 Qt [.t 17],
 .r 19 (.mx [.t 12,.t 18]),
 qm 3 19]))
 (.reg 4 none [1,3,4] [
 qm 10 4,
 qa 11 10,
 qm 4 11]))))))
 (.seq
 (.reg 6 none [2] [
 qm 20 3,
 qa 21 20,
 qm 2 21])
 .ret))))
def qG2:List (Nat×List Nat):=qy Jl
theorem qG3:FnIR Tryz.prog Qt 22 qG2 Jl [(.tmp 2)]:=
 qF Tryz.func124
def zn:RC:=
 (.seq
 (.reg 0 none [2,3] [
 .r 2 (.box (.t 0)),
 .r 3 (.box (.t 1)),
 qi 4 0])
 (.seq
 (.reg 1 (some [0,1,3,0,8,31]) [2,3,5,6] [
 qf 9 0 3,
 ql 10 9,
 .r 11 (.build [.v (.int .i64 0),.v (.int .i64 0),.v (.int .i64 0),.v (.int .i64 0),.v (.int .i64 0),.v (.slice none 0 0)] [((0,1),.t 10)]),
 .r 6 (.new (.agg [.v (.int .i64 0),.v (.int .i64 0),.v (.int .i64 0),.v (.int .i64 0),.v (.int .i64 0),.v (.slice none 0 0)])),
 qi 5 0,
 qs 6 6 11])
 (.seq
 (.seq
 (.reg 2 none [2,3,5,6,13] [
 qf 12 0 3,
 ql 13 12])
 (.block 0
 (.seq
 (.reg 4 none [2,3,5,6,13,14] [
 qB 15 .eql 13 1,
 qm 14 15])
 (qq 14
 .skip
 (.seq
 (.reg 5 none [2,3,5,6,13,16] [
 qB 17 .eql 13 2,
 qm 16 17])
 (qq 16
 (.reg 6 (some [0,1,0,4,3,19,63,127]) [2,3,5,6] [
 qf 18 1 3,
 ql 19 18,
 qf 20 2 3,
 ql 21 20,
 qf 22 1 6,
 qs 1 22 19,
 qf 23 2 6,
 qs 1 23 21])
 (.seq
 (.reg 7 none [2,3,5,6,13,24] [
 qB 25 .eql 13 3,
 qm 24 25])
 (qq 24
 (.reg 8 (some [0,1,0,4,0,16,3,67,207,463,1023,2047]) [2,3,5,6] [
 qf 26 1 3,
 ql 27 26,
 qf 28 3 3,
 ql 29 28,
 qf 30 4 3,
 ql 31 30,
 qf 32 1 6,
 qs 1 32 27,
 qf 33 3 6,
 qs 1 33 29,
 qf 34 4 6,
 qs 1 34 31])
 (.seq
 (.reg 9 none [2,3,5,6,13,35] [
 qB 36 .eql 13 4,
 qm 35 36])
 (qq 35
 (.reg 10 none [2,3,5,6] [
 qf 37 1 3,
 ql 38 37,
 qf 39 1 6,
 qs 1 39 38])
 (.seq
 (.seq
 (.reg 11 none [2,3,6,13,40] [
 qB 41 .eql 13 5,
 qm 40 41])
 (qq 40
 .skip
 (.reg 12 none [2,3,6,13,40] [
 qB 42 .eql 13 6,
 qm 40 42])))
 (qq 40
 (.reg 13 none [2,3,5,6] [
 qi 5 2])
 (.seq
 (.reg 14 none [2,3,6,43] [
 qB 44 .eql 13 7,
 qm 43 44])
 (qq 43
 (.reg 15 none [2,3,5,6] [
 qi 5 1])
 (.seq
 (.reg 3 none [4] [
 qi 4 4])
 .ret)))))))))))))))
 (.seq
 (.seq
 (.reg 16 none [2,3,77] [
 qf 45 5 3,
 ql 46 45,
 qn 47 46,
 qm 48 5,
 qb 49 .neq 47 48,
 qm 50 49,
 qff 51 50 1 6,
 qlf 52 50 51,
 qff 53 50 1 3,
 qlf 54 50 53,
 .rf 55 50 (.bin .neq false (.t 52) (.t 54)),
 qP 56 50 55,
 qm 57 56,
 qff 58 57 2 6,
 qlf 59 57 58,
 qff 60 57 2 3,
 qlf 61 57 60,
 .rf 62 57 (.bin .neq false (.t 59) (.t 61)),
 qP 63 57 62,
 qm 64 63,
 qff 65 64 3 6,
 qlf 66 64 65,
 qff 67 64 3 3,
 qlf 68 64 67,
 .rf 69 64 (.bin .neq false (.t 66) (.t 68)),
 qP 70 64 69,
 qm 71 70,
 qff 72 71 4 6,
 qlf 73 71 72,
 qff 74 71 4 3,
 qlf 75 71 74,
 .rf 76 71 (.bin .neq false (.t 73) (.t 75)),
 qP 77 71 76])
 (qq 77
 (.seq
 (.reg 17 none [4] [
 qi 4 11])
 .ret)
 .skip))
 (.seq
 (.seq
 (.reg 18 none [2,3,121] [
 qf 78 0 3,
 ql 79 78,
 qB 80 .eql 79 2,
 qm 81 80,
 .rt 82 81 (.ld (some 2) (.t 2)),
 qft 83 81 1 3,
 qlt 84 81 83,
 .rt 85 81 (.call (.k (.clo JE [])) [.t 82,.t 84,qI 2]),
 .rt 86 81 (.un .not (.t 85)),
 qp 87 81 86,
 qm 88 87,
 qff 89 88 0 3,
 qlf 90 88 89,
 .rf 91 88 (.bin .eql false (.t 90) (qI 3)),
 qmf 92 88 91,
 .rt 93 92 (.ld (some 2) (.t 2)),
 qft 94 92 1 3,
 qlt 95 92 94,
 .rt 96 92 (.call (.k (.clo JE [])) [.t 93,.t 95,qI 3]),
 .rt 97 92 (.un .not (.t 96)),
 .rf 98 88 (.pick (.t 92) (.t 97) (.k (.v (.bool false)))),
 qP 99 88 98,
 qm 100 99,
 qff 101 100 0 3,
 qlf 102 100 101,
 .rf 103 100 (.bin .eql false (.t 102) (qI 4)),
 qmf 104 100 103,
 .rt 105 104 (.ld (some 2) (.t 2)),
 qft 106 104 1 3,
 qlt 107 104 106,
 .rt 108 104 (.call (.k (.clo JE [])) [.t 105,.t 107,qI 3]),
 .rt 109 104 (.un .not (.t 108)),
 qmt 110 104 109,
 qff 111 110 1 2,
 qlf 112 110 111,
 qff 113 110 1 3,
 qlf 114 110 113,
 .rf 115 110 (.ixL 7 (.t 112) (.t 114)),
 qff 116 110 6 115,
 qlf 117 110 116,
 .rf 118 110 (.un .not (.t 117)),
 .rt 119 104 (.pick (.t 110) (.k (.v (.bool true))) (.t 118)),
 .rf 120 100 (.pick (.t 104) (.t 119) (.k (.v (.bool false)))),
 qP 121 100 120])
 (qq 121
 (.seq
 (.reg 19 none [4] [
 qi 4 7])
 .ret)
 .skip))
 (.seq
 (.seq
 (.reg 20 (some [0,1,3,7,15,31,63,127,255,511,255,1279,255,4351,255,16639,61695,127231,258303,523519,1047807,2096383,4193535,8388607,16777215,33554431]) [2,3,147] [
 qf 122 0 3,
 ql 123 122,
 qB 124 .eql 123 2,
 qm 125 124,
 qft 126 125 2 3,
 qlt 127 125 126,
 .rt 128 125 (.bin .lss false (.t 127) (qI 0)),
 qmt 129 125 128,
 qff 130 129 2 3,
 qlf 131 129 130,
 qff 132 129 0 2,
 qlf 133 129 132,
 qff 134 129 1 2,
 qlf 135 129 134,
 qff 136 129 1 3,
 qlf 137 129 136,
 .rf 138 129 (.ixL 7 (.t 135) (.t 137)),
 qff 139 129 2 138,
 qlf 140 129 139,
 .rf 141 129 (.ixL 2 (.t 133) (.t 140)),
 qff 142 129 1 141,
 qlf 143 129 142,
 .rf 144 129 (.lenL (.t 143)),
 .rf 145 129 (.bin .geq false (.t 131) (.t 144)),
 .rt 146 125 (.pick (.t 129) (.k (.v (.bool true))) (.t 145)),
 qp 147 125 146])
 (qq 147
 (.seq
 (.reg 21 none [4] [
 qi 4 6])
 .ret)
 .skip))
 (.seq
 (.seq
 (.reg 22 none [2,3,167] [
 qf 148 0 3,
 ql 149 148,
 qB 150 .eql 149 3,
 qm 151 150,
 qft 152 151 3 3,
 qlt 153 151 152,
 .rt 154 151 (.bin .lss false (.t 153) (.k (.v (.int .i64 (-1000000))))),
 qmt 155 151 154,
 qff 156 155 4 3,
 qlf 157 155 156,
 .rf 158 155 (.bin .gtr false (.t 157) (qI 1000000)),
 .rt 159 151 (.pick (.t 155) (.k (.v (.bool true))) (.t 158)),
 qmt 160 151 159,
 qff 161 160 3 3,
 qlf 162 160 161,
 qff 163 160 4 3,
 qlf 164 160 163,
 .rf 165 160 (.bin .gtr false (.t 162) (.t 164)),
 .rt 166 151 (.pick (.t 160) (.k (.v (.bool true))) (.t 165)),
 qp 167 151 166])
 (qq 167
 (.seq
 (.reg 23 none [4] [
 qi 4 2])
 .ret)
 .skip))
 (.seq
 (.seq
 (.reg 24 none [2,3,7] [
 qi 7 0])
 (.block 1
 (.loop
 (.seq
 (.seq
 (.reg 25 none [2,3,7,172] [
 qm 168 7,
 qf 169 5 3,
 ql 170 169,
 qn 171 170,
 qb 172 .lss 168 171])
 (qq 172
 .skip
 (.exit 1)))
 (.seq
 (.block 2
 (.seq
 (.reg 27 (some [0,0,2,0,14,30,63,127]) [2,3,7,8] [
 qL 175 2 2,
 qf 176 5 3,
 ql 177 176,
 qm 178 7,
 qx 179 6 177 178,
 qL 180 6 179,
 qC 181 Zx [.t 175,.t 180],
 qm 8 181])
 (.seq
 (.reg 28 none [2,3,7,8,183] [
 qm 182 8,
 qB 183 .neq 182 0])
 (qq 183
 (.seq
 (.reg 29 none [4] [
 qm 184 8,
 qm 4 184])
 .ret)
 .skip))))
 (.reg 26 none [2,3,7] [
 qm 173 7,
 qa 174 173,
 qm 7 174]))))))
 (.seq
 (.reg 30 none [4] [
 qi 4 0])
 .ret)))))))))
def qS5:List (Nat×List Nat):=qy zn
theorem zR:FnIR Tryz.prog Zx 185 qS5 zn [(.tmp 4)]:=
 qF Tryz.func125
def Jm:RC:=
 (.seq
 (.reg 0 none [2,3] [
 .r 2 (.box (.t 0)),
 .r 3 (.box (.t 1)),
 qi 4 0])
 (.seq
 (.reg 1 none [2,3,5] [
 qL 7 2 2,
 qf 8 9 3,
 ql 9 8,
 qC 10 JF [.t 7,.t 9,qI 3],
 qm 5 10])
 (.seq
 (.seq
 (.reg 2 none [2,3,5,12] [
 qf 11 1 3,
 ql 12 11])
 (.block 0
 (.seq
 (.reg 8 none [2,3,5,12,27] [
 qB 28 .eql 12 1,
 qm 27 28])
 (qq 27
 (.seq
 (.seq
 (.reg 9 none [3,5,6] [
 qL 29 2 2,
 qf 30 8 3,
 ql 31 30,
 qC 32 Ww [.t 29,.t 31],
 qm 6 32])
 (.seq
 (.reg 10 none [3,5,6,34] [
 qm 33 6,
 qB 34 .neq 33 0])
 (qq 34
 (.seq
 (.reg 11 none [4] [
 qm 35 6,
 qm 4 35])
 .ret)
 .skip)))
 (.seq
 (.reg 12 none [42] [
 qf 36 9 3,
 ql 37 36,
 .r 38 (.bin .neq false (.t 37) (.k (.v (.int .i64 (-1))))),
 qm 39 38,
 qmt 40 39 5,
 .rt 41 39 (.un .not (.t 40)),
 qp 42 39 41])
 (qq 42
 (.seq
 (.reg 13 none [4] [
 qi 4 7])
 .ret)
 .skip)))
 (.seq
 (.reg 14 none [2,3,5,43] [
 qB 44 .eql 12 2,
 qm 43 44])
 (qq 43
 (.seq
 (.seq
 (.reg 15 none [2,3,46] [
 qm 45 5,
 .r 46 (.un .not (.t 45))])
 (qq 46
 (.seq
 (.reg 16 none [4] [
 qi 4 7])
 .ret)
 .skip))
 (.seq
 (.reg 17 none [4] [
 qL 47 2 2,
 qf 48 9 3,
 ql 49 48,
 qf 50 10 3,
 ql 51 50,
 qC 52 Kj [.t 47,.t 49,.t 51],
 qm 4 52])
 .ret))
 (.seq
 (.seq
 (.reg 3 none [2,3,14] [
 qm 13 5,
 .r 14 (.un .not (.t 13))])
 (qq 14
 (.seq
 (.reg 4 none [4] [
 qi 4 7])
 .ret)
 .skip))
 (.seq
 (.seq
 (.reg 5 none [2,3,22] [
 qf 15 1 2,
 ql 16 15,
 qf 17 9 3,
 ql 18 17,
 qx 19 7 16 18,
 qf 20 3 19,
 ql 21 20,
 qB 22 .lss 21 0])
 (qq 22
 (.seq
 (.reg 6 none [4] [
 qi 4 2])
 .ret)
 .skip))
 (.seq
 (.reg 7 none [4] [
 qL 23 2 2,
 qf 24 11 3,
 qL 25 6 24,
 qC 26 jq [.t 23,.t 25],
 qm 4 26])
 .ret)))))))))
 (.seq
 (.reg 18 none [4] [
 qi 4 0])
 .ret))))
def qG4:List (Nat×List Nat):=qy Jm
theorem qG5:FnIR Tryz.prog Kh 53 qG4 Jm [(.tmp 4)]:=
 qF Tryz.func126
def Kz:RC:=
 (.seq
 (.reg 0 none [1] [
 .r 1 (.box (.t 0)),
 qc 2 false])
 (.seq
 (.reg 1 none [2] [
 qL 3 6 1,
 .r 4 (.build [.v (.int .i64 0),.v (.int .i64 0),.v (.int .i64 0),.v (.int .i64 0),.v (.int .i64 0),.v (.slice none 0 0)] []),
 qC 5 ZA [.t 3,.t 4],
 qm 2 5])
 .ret))
def qS6:List (Nat×List Nat):=qy Kz
theorem qS7:FnIR Tryz.prog Wt 6 qS6 Kz [(.tmp 2)]:=
 qF Tryz.func127
def Jn:RC:=
 (.seq
 (.reg 0 none [1] [
 .r 1 (.box (.t 0)),
 .r 2 (.mv (qN))])
 (.seq
 (.seq
 (.reg 1 none [1,17] [
 qf 5 0 1,
 ql 6 5,
 qB 7 .eql 6 2,
 qm 8 7,
 qff 9 8 0 1,
 qlf 10 8 9,
 .rf 11 8 (.bin .eql false (.t 10) (qI 3)),
 qP 12 8 11,
 qm 13 12,
 qff 14 13 0 1,
 qlf 15 13 14,
 .rf 16 13 (.bin .eql false (.t 15) (qI 4)),
 qP 17 13 16])
 (qq 17
 (.seq
 (.reg 2 none [2] [
 qL 18 6 1,
 .r 19 (.bsl 6 1 [.t 18]),
 qm 2 19])
 .ret)
 .skip))
 (.seq
 (.reg 3 none [1,3] [
 .r 3 (.mv (qN))])
 (.seq
 (.seq
 (.reg 4 none [1,3,4] [
 qi 4 0])
 (.block 0
 (.loop
 (.seq
 (.seq
 (.reg 5 none [1,3,4,24] [
 qm 20 4,
 qf 21 5 1,
 ql 22 21,
 qn 23 22,
 qb 24 .lss 20 23])
 (qq 24
 .skip
 (.exit 0)))
 (.seq
 (.block 1
 (.reg 7 none [1,3,4] [
 qm 27 3,
 qf 28 5 1,
 ql 29 28,
 qm 30 4,
 qx 31 6 29 30,
 qL 32 6 31,
 qC 33 Qu [.t 32],
 .r 34 (.app 6 64 false (.t 27) (.t 33)),
 qm 3 34]))
 (.reg 6 none [1,3,4] [
 qm 25 4,
 qa 26 25,
 qm 4 26]))))))
 (.seq
 (.reg 8 none [2] [
 qm 35 3,
 qm 2 35])
 .ret)))))
def qG6:List (Nat×List Nat):=qy Jn
theorem qG7:FnIR Tryz.prog Qu 36 qG6 Jn [(.tmp 2)]:=
 qF Tryz.func128
def yT:RC:=
 (.seq
 (.reg 0 none [2,3,4] [
 .r 3 (.box (.t 0)),
 .r 4 (.box (.t 1)),
 qc 6 false])
 (.seq
 (.reg 1 none [2,3,4,7] [
 qf 14 1 3,
 ql 15 14,
 qf 16 1 4,
 ql 17 16,
 qx 18 7 15 17,
 qL 19 7 18,
 .r 7 (.new (.agg [.v (.string ⟨#[]⟩),.v (.int .i64 0),.v (.int .i64 0),.v (.int .i64 0),.v (.int .i64 0),.v (.slice none 0 0),.v (.bool false)])),
 qs 7 7 19])
 (.seq
 (.seq
 (.reg 2 none [2,3,4,7,22] [
 qf 20 0 4,
 ql 21 20,
 qB 22 .eql 21 2])
 (qq 22
 (.seq
 (.reg 3 none [2,3,4,8] [
 qL 23 2 3,
 qf 24 1 4,
 ql 25 24,
 qC 26 kF [.t 23,.t 25],
 qm 8 26])
 (.seq
 (.seq
 (.reg 4 none [2,3,4,8,9] [
 qi 9 0])
 (.block 0
 (.loop
 (.seq
 (.seq
 (.reg 5 none [2,3,4,8,9,30] [
 qm 27 9,
 qm 28 8,
 qn 29 28,
 qb 30 .lss 27 29])
 (qq 30
 .skip
 (.exit 0)))
 (.seq
 (.block 1
 (.seq
 (.reg 7 none [2,3,4,8,9,10] [
 qi 10 0])
 (.block 2
 (.loop
 (.seq
 (.seq
 (.reg 8 none [2,3,4,8,9,10,35] [
 qm 33 10,
 qm 34 9,
 qb 35 .lss 33 34])
 (qq 35
 .skip
 (.exit 2)))
 (.seq
 (.block 3
 (.seq
 (.reg 10 (some [0,0,2,0,0,0,48,112,255,0,0,1024,0,0,0,24576,57344,131071,262143,524287,1048575,1048575,1048575,1048575,13631487,30408703,67108863,1048575,1048575,1048575,1048575,1611661311,3759144959,8589934591,17179869183,34359738367]) [2,3,4,8,9,10,73] [
 qL 38 2 3,
 qf 39 1 4,
 ql 40 39,
 qm 41 2,
 qm 42 8,
 qm 43 9,
 qx 44 1 42 43,
 ql 45 44,
 qC 46 zl [.t 38,.t 40,.t 41,.t 45],
 qL 47 2 3,
 qf 48 1 4,
 ql 49 48,
 qm 50 2,
 qm 51 8,
 qm 52 10,
 qx 53 1 51 52,
 ql 54 53,
 qC 55 zl [.t 47,.t 49,.t 50,.t 54],
 qb 56 .eql 46 55,
 qm 57 56,
 .rt 58 57 (.ld (some 2) (.t 3)),
 .rt 59 57 (.ld (some 6) (.t 4)),
 qmt 60 57 8,
 qmt 61 57 9,
 .rt 62 57 (.ixL 1 (.t 60) (.t 61)),
 qlt 63 57 62,
 .rt 64 57 (.call (.k (.clo yF [])) [.t 58,.t 59,.t 63]),
 .rt 65 57 (.ld (some 2) (.t 3)),
 .rt 66 57 (.ld (some 6) (.t 4)),
 qmt 67 57 8,
 qmt 68 57 10,
 .rt 69 57 (.ixL 1 (.t 67) (.t 68)),
 qlt 70 57 69,
 .rt 71 57 (.call (.k (.clo yF [])) [.t 65,.t 66,.t 70]),
 .rt 72 57 (.bin .neq false (.t 64) (.t 71)),
 qp 73 57 72])
 (qq 73
 (.seq
 (.reg 11 none [6] [
 qc 6 false])
 .ret)
 .skip)))
 (.reg 9 none [2,3,4,8,9,10] [
 qm 36 10,
 qa 37 36,
 qm 10 37])))))))
 (.reg 6 none [2,3,4,8,9] [
 qm 31 9,
 qa 32 31,
 qm 9 32]))))))
 (.seq
 (.reg 12 none [6] [
 qc 6 true])
 .ret)))
 .skip))
 (.seq
 (.seq
 (.reg 13 none [2,4,7,76] [
 qf 74 0 4,
 ql 75 74,
 qB 76 .eql 75 4])
 (qq 76
 (.seq
 (.reg 14 none [6] [
 qm 77 2,
 qB 78 .gtr 77 0,
 qm 6 78])
 .ret)
 .skip))
 (.seq
 (.reg 15 (some [0,1,0,4,15,31,63,127,63,319,1023,2047,0,4096,0,16384,61440,127039,258111,520255,258111,1306687,4190271,8384575,262143,33554431]) [2,4,7,11,12] [
 qf 79 3 4,
 ql 80 79,
 qf 81 3 7,
 ql 82 81,
 qb 83 .gtr 80 82,
 qm 84 83,
 qft 85 84 3 4,
 qlt 86 84 85,
 qft 87 84 4 7,
 qlt 88 84 87,
 .rt 89 84 (.bin .leq false (.t 86) (.t 88)),
 qp 90 84 89,
 qf 91 4 4,
 ql 92 91,
 qf 93 3 7,
 ql 94 93,
 qb 95 .geq 92 94,
 qm 96 95,
 qft 97 96 4 4,
 qlt 98 96 97,
 qft 99 96 4 7,
 qlt 100 96 99,
 .rt 101 96 (.bin .lss false (.t 98) (.t 100)),
 qp 102 96 101,
 qm 11 90,
 qm 12 102])
 (.seq
 (.seq
 (.reg 16 none [2,4,7,11,12,104] [
 qm 103 2,
 qB 104 .eql 103 0])
 (qq 104
 (.seq
 (.reg 17 none [6] [
 qf 105 6 7,
 ql 106 105,
 .r 107 (.un .not (.t 106)),
 qm 108 107,
 qmt 109 108 11,
 .rt 110 108 (.un .not (.t 109)),
 qp 111 108 110,
 qm 112 111,
 qmt 113 112 12,
 .rt 114 112 (.un .not (.t 113)),
 qp 115 112 114,
 qm 6 115])
 .ret)
 .skip))
 (.seq
 (.reg 18 none [4,11,12,13] [
 qL 116 7 7,
 qm 117 2,
 qC 118 kg [.t 116,.t 117],
 qm 13 118])
 (.seq
 (.reg 19 none [6] [
 qm 119 11,
 .r 120 (.un .not (.t 119)),
 qm 121 120,
 qff 122 121 3 4,
 qlf 123 121 122,
 qmf 124 121 13,
 .rf 125 121 (.bin .rem false (.t 123) (.t 124)),
 .rf 126 121 (.bin .eql false (.t 125) (qI 0)),
 qP 127 121 126,
 qm 128 127,
 qmt 129 128 12,
 .rt 130 128 (.un .not (.t 129)),
 qmt 131 128 130,
 qff 132 131 4 4,
 qlf 133 131 132,
 .rf 134 131 (.bin .add false (.t 133) (qI 1)),
 qmf 135 131 13,
 .rf 136 131 (.bin .rem false (.t 134) (.t 135)),
 .rf 137 131 (.bin .eql false (.t 136) (qI 0)),
 .rt 138 128 (.pick (.t 131) (.k (.v (.bool true))) (.t 137)),
 qp 139 128 138,
 qm 6 139])
 .ret))))))))
def qq2:List (Nat×List Nat):=qy yT
theorem qq3:FnIR Tryz.prog QP 140 qq2 yT [(.tmp 6)]:=
 qF Tryz.func129
def yU:RC:=
 (.seq
 (.reg 0 none [1,2,3,4] [
 .r 4 (.box (.t 0)),
 qc 8 false])
 (.seq
 (.reg 1 none [1,2,3,4,9] [
 qf 16 1 4,
 ql 17 16,
 qm 18 1,
 qx 19 7 17 18,
 qL 20 7 19,
 .r 9 (.new (.agg [.v (.string ⟨#[]⟩),.v (.int .i64 0),.v (.int .i64 0),.v (.int .i64 0),.v (.int .i64 0),.v (.slice none 0 0),.v (.bool false)])),
 qs 7 9 20])
 (.seq
 (.seq
 (.reg 2 none [1,2,3,4,9,27] [
 qm 21 3,
 qB 22 .eql 21 0,
 qm 23 22,
 qmf 24 23 2,
 qmf 25 23 3,
 .rf 26 23 (.bin .geq false (.t 24) (.t 25)),
 qP 27 23 26])
 (qq 27
 (.seq
 (.reg 3 none [8] [
 qc 8 true])
 .ret)
 .skip))
 (.seq
 (.seq
 (.reg 4 none [1,2,3,4,9,30] [
 qf 28 1 9,
 ql 29 28,
 qB 30 .eql 29 2])
 (qq 30
 (.seq
 (.reg 5 none [1,2,3,4,10] [
 qL 31 2 4,
 qm 32 1,
 qC 33 kF [.t 31,.t 32],
 qm 10 33])
 (.seq
 (.seq
 (.reg 6 none [1,2,3,4,10,11] [
 qi 11 0])
 (.block 0
 (.loop
 (.seq
 (.seq
 (.reg 7 none [1,2,3,4,10,11,37] [
 qm 34 11,
 qm 35 10,
 qn 36 35,
 qb 37 .lss 34 36])
 (qq 37
 .skip
 (.exit 0)))
 (.seq
 (.block 1
 (.seq
 (.reg 9 none [1,2,3,4,10,11,12] [
 qi 12 0])
 (.block 2
 (.loop
 (.seq
 (.seq
 (.reg 10 none [1,2,3,4,10,11,12,42] [
 qm 40 12,
 qm 41 11,
 qb 42 .lss 40 41])
 (qq 42
 .skip
 (.exit 2)))
 (.seq
 (.block 3
 (.seq
 (.reg 12 (some [0,0,0,0,0,24,56,127,0,0,0,0,0,6144,14336,32767,65535,131071,262143,262143,262143,262143,262143,6553599,14942207,33554431,262143,262143,262143,262143,262143,1610874879,3758358527,8589934591,17179869183,34359738367]) [1,2,3,4,10,11,12,80] [
 qL 45 2 4,
 qm 46 1,
 qm 47 3,
 qm 48 10,
 qm 49 11,
 qx 50 1 48 49,
 ql 51 50,
 qC 52 zl [.t 45,.t 46,.t 47,.t 51],
 qL 53 2 4,
 qm 54 1,
 qm 55 3,
 qm 56 10,
 qm 57 12,
 qx 58 1 56 57,
 ql 59 58,
 qC 60 zl [.t 53,.t 54,.t 55,.t 59],
 qb 61 .neq 52 60,
 qm 62 61,
 .rt 63 62 (.ld (some 2) (.t 4)),
 qmt 64 62 1,
 qmt 65 62 2,
 qmt 66 62 10,
 qmt 67 62 11,
 .rt 68 62 (.ixL 1 (.t 66) (.t 67)),
 qlt 69 62 68,
 .rt 70 62 (.call (.k (.clo zl [])) [.t 63,.t 64,.t 65,.t 69]),
 .rt 71 62 (.ld (some 2) (.t 4)),
 qmt 72 62 1,
 qmt 73 62 2,
 qmt 74 62 10,
 qmt 75 62 12,
 .rt 76 62 (.ixL 1 (.t 74) (.t 75)),
 qlt 77 62 76,
 .rt 78 62 (.call (.k (.clo zl [])) [.t 71,.t 72,.t 73,.t 77]),
 .rt 79 62 (.bin .eql false (.t 70) (.t 78)),
 qp 80 62 79])
 (qq 80
 (.seq
 (.reg 13 none [8] [
 qc 8 false])
 .ret)
 .skip)))
 (.reg 11 none [1,2,3,4,10,11,12] [
 qm 43 12,
 qa 44 43,
 qm 12 44])))))))
 (.reg 8 none [1,2,3,4,10,11] [
 qm 38 11,
 qa 39 38,
 qm 11 39]))))))
 (.seq
 (.reg 14 none [8] [
 qc 8 true])
 .ret)))
 .skip))
 (.seq
 (.reg 15 none [2,9,13] [
 qL 81 7 9,
 qm 82 3,
 qC 83 kg [.t 81,.t 82],
 qm 13 83])
 (.seq
 (.reg 16 none [2,9,13,14] [
 qf 84 3 9,
 ql 85 84,
 qm 86 13,
 qC 87 Qr [.t 85,.t 86],
 qa 88 87,
 qm 89 13,
 qb 90 .mul 88 89,
 qm 14 90])
 (.seq
 (.seq
 (.reg 17 none [2,9,13,14,92] [
 qm 91 2,
 qB 92 .eql 91 0])
 (qq 92
 (.seq
 (.reg 18 none [8] [
 qf 93 6 9,
 ql 94 93,
 .r 95 (.un .not (.t 94)),
 qm 96 95,
 qmt 97 96 14,
 qft 98 96 4 9,
 qlt 99 96 98,
 .rt 100 96 (.bin .gtr false (.t 97) (.t 99)),
 qp 101 96 100,
 qm 8 101])
 .ret)
 .skip))
 (.seq
 (.seq
 (.reg 19 none [2,9,13,14,15] [
 qi 15 0])
 (.block 4
 (.loop
 (.seq
 (.seq
 (.reg 20 none [2,9,13,14,15,109] [
 qm 102 15,
 qB 103 .lss 102 2,
 qm 104 103,
 qmt 105 104 14,
 qft 106 104 4 9,
 qlt 107 104 106,
 .rt 108 104 (.bin .leq false (.t 105) (.t 107)),
 qp 109 104 108])
 (qq 109
 .skip
 (.exit 4)))
 (.seq
 (.block 5
 (.seq
 (.seq
 (.reg 22 none [2,9,13,14,15,117] [
 qm 112 14,
 qL 113 7 9,
 qm 114 2,
 qC 115 kg [.t 113,.t 114],
 qb 116 .rem 112 115,
 qB 117 .neq 116 0])
 (qq 117
 (.seq
 (.reg 23 none [8] [
 qc 8 false])
 .ret)
 .skip))
 (.reg 24 none [2,9,13,14,15] [
 qm 118 14,
 qm 119 13,
 qb 120 .add 118 119,
 qm 14 120])))
 (.reg 21 none [2,9,13,14,15] [
 qm 110 15,
 qa 111 110,
 qm 15 111]))))))
 (.seq
 (.reg 25 none [8] [
 qc 8 true])
 .ret)))))))))
def qq4:List (Nat×List Nat):=qy yU
theorem qq5:FnIR Tryz.prog QQ 121 qq4 yU [(.tmp 8)]:=
 qF Tryz.func130
def Zg:RC:=
 (.seq
 (.reg 0 none [1] [
 .r 1 (.box (.t 0)),
 qi 2 0])
 (.seq
 (.seq
 (.reg 1 none [1,5] [
 qL 3 2 1,
 qC 4 jr [.t 3],
 qB 5 .neq 4 0])
 (qq 5
 (.seq
 (.reg 2 none [2] [
 .r 2 (.mv (.k (.v (.int .i64 (-1)))))])
 .ret)
 .skip))
 (.seq
 (.reg 3 none [2] [
 qL 6 2 1,
 qf 7 1 1,
 ql 8 7,
 qn 9 8,
 qB 10 .sub 9 1,
 qC 11 ze [.t 6,.t 10],
 qa 12 11,
 qm 2 12])
 .ret)))
def qx7:List (Nat×List Nat):=qy Zg
theorem qx8:FnIR Tryz.prog kG 13 qx7 Zg [(.tmp 2)]:=
 qF Tryz.func131
def KA:RC:=
 (.seq
 (.reg 0 none [2,3] [
 .r 2 (.box (.t 0)),
 .r 3 (.box (.t 1)),
 qi 4 0])
 (.seq
 (.seq
 (.reg 1 none [2,3,5] [
 qL 6 2 2,
 qC 7 zm [.t 6],
 qm 5 7])
 (.seq
 (.reg 2 none [2,3,5,9] [
 qm 8 5,
 qB 9 .neq 8 0])
 (qq 9
 (.seq
 (.reg 3 none [4] [
 qm 10 5,
 qm 4 10])
 .ret)
 .skip)))
 (.seq
 (.seq
 (.reg 4 none [2,3,21] [
 qf 11 0 3,
 ql 12 11,
 qB 13 .lss 12 1,
 qm 14 13,
 qff 15 14 0 3,
 qlf 16 14 15,
 qff 17 14 1 2,
 qlf 18 14 17,
 .rf 19 14 (.lenL (.t 18)),
 .rf 20 14 (.bin .geq false (.t 16) (.t 19)),
 qP 21 14 20])
 (qq 21
 (.seq
 (.reg 5 none [4] [
 qi 4 7])
 .ret)
 .skip))
 (.seq
 (.seq
 (.reg 6 (some [0,1,0,0,8,28,63,127]) [29] [
 qf 22 1 3,
 ql 23 22,
 qL 24 2 2,
 qf 25 0 3,
 ql 26 25,
 qC 27 zX [.t 24,.t 26],
 qC 28 zA [.t 23,qI 0,.t 27],
 .r 29 (.un .not (.t 28))])
 (qq 29
 (.seq
 (.reg 7 none [4] [
 qi 4 8])
 .ret)
 .skip))
 (.seq
 (.reg 8 none [4] [
 qi 4 0])
 .ret)))))
def qS8:List (Nat×List Nat):=qy KA
theorem qS9:FnIR Tryz.prog Zy 30 qS8 KA [(.tmp 4)]:=
 qF Tryz.func132
def Zh:RC:=
 (.seq
 (.reg 0 none [0,1] [
 qc 4 false])
 (.seq
 (.seq
 (.reg 1 none [0,1,5] [
 qi 5 0])
 (.block 0
 (.loop
 (.seq
 (.seq
 (.reg 2 none [0,1,5,11] [
 qm 8 5,
 qm 9 0,
 qn 10 9,
 qb 11 .lss 8 10])
 (qq 11
 .skip
 (.exit 0)))
 (.seq
 (.block 1
 (.seq
 (.reg 4 none [0,1,5,6] [
 qc 6 false])
 (.seq
 (.seq
 (.reg 5 none [0,1,5,6,7] [
 qi 7 0])
 (.block 2
 (.loop
 (.seq
 (.seq
 (.reg 6 none [0,1,5,6,7,17] [
 qm 14 7,
 qm 15 1,
 qn 16 15,
 qb 17 .lss 14 16])
 (qq 17
 .skip
 (.exit 2)))
 (.seq
 (.block 3
 (.reg 8 (some [0,1,3,3,15,31,63,3,3,387,899,1923,4095,8191,16383,16383,65535,131071,262143,16383,16383,1589247,3686399,7880703,16777215,33554431,67108863,134217727]) [0,1,5,6,7] [
 qm 20 6,
 qm 21 20,
 qmf 22 21 1,
 qmf 23 21 7,
 .rf 24 21 (.ixL 2 (.t 22) (.t 23)),
 qff 25 21 0 24,
 qlf 26 21 25,
 qmf 27 21 0,
 qmf 28 21 5,
 .rf 29 21 (.ixL 2 (.t 27) (.t 28)),
 qff 30 21 0 29,
 qlf 31 21 30,
 .rf 32 21 (.bin .eql false (.t 26) (.t 31)),
 qmf 33 21 32,
 qmt 34 33 1,
 qmt 35 33 7,
 .rt 36 33 (.ixL 2 (.t 34) (.t 35)),
 qft 37 33 1 36,
 qlt 38 33 37,
 qmt 39 33 0,
 qmt 40 33 5,
 .rt 41 33 (.ixL 2 (.t 39) (.t 40)),
 qft 42 33 1 41,
 qlt 43 33 42,
 .rt 44 33 (.bin .geq false (.t 38) (.t 43)),
 .rf 45 21 (.pick (.t 33) (.t 44) (.k (.v (.bool false)))),
 qP 46 21 45,
 qm 6 46]))
 (.reg 7 none [0,1,5,6,7] [
 qm 18 7,
 qa 19 18,
 qm 7 19]))))))
 (.seq
 (.reg 9 none [0,1,5,48] [
 qm 47 6,
 .r 48 (.un .not (.t 47))])
 (qq 48
 (.seq
 (.reg 10 none [4] [
 qc 4 false])
 .ret)
 .skip)))))
 (.reg 3 none [0,1,5] [
 qm 12 5,
 qa 13 12,
 qm 5 13]))))))
 (.seq
 (.reg 11 none [4] [
 qc 4 true])
 .ret)))
def qx9:List (Nat×List Nat):=qy Zh
theorem qy0:FnIR Tryz.prog ZM 49 qx9 Zh [(.tmp 4)]:=
 qF Tryz.func133
def KB:RC:=
 (.seq
 (.reg 0 none [2,3,4] [
 .r 3 (.box (.t 0)),
 .r 4 (.box (.t 1)),
 qi 6 0])
 (.seq
 (.seq
 (.reg 1 none [2,3,4,21] [
 qf 9 0 4,
 ql 10 9,
 qB 11 .eql 10 2,
 qm 12 11,
 qff 13 12 0 4,
 qlf 14 12 13,
 .rf 15 12 (.bin .eql false (.t 14) (qI 3)),
 qP 16 12 15,
 qm 17 16,
 qff 18 17 0 4,
 qlf 19 17 18,
 .rf 20 17 (.bin .eql false (.t 19) (qI 4)),
 qP 21 17 20])
 (qq 21
 (.seq
 (.reg 2 (some [0,0,0,0,8,28,60,127,255]) [6] [
 qL 22 2 3,
 qL 23 6 4,
 qm 24 2,
 qf 25 1 4,
 ql 26 25,
 qx 27 1 24 26,
 ql 28 27,
 qC 29 yF [.t 22,.t 23,.t 28],
 qm 6 29])
 .ret)
 .skip))
 (.seq
 (.reg 3 none [2,3,4,7] [
 .r 7 (.mv (qN))])
 (.seq
 (.seq
 (.reg 4 none [2,3,4,7,8] [
 qi 8 0])
 (.block 0
 (.loop
 (.seq
 (.seq
 (.reg 5 none [2,3,4,7,8,34] [
 qm 30 8,
 qf 31 5 4,
 ql 32 31,
 qn 33 32,
 qb 34 .lss 30 33])
 (qq 34
 .skip
 (.exit 0)))
 (.seq
 (.block 1
 (.reg 7 (some [0,0,0,4,0,28,60,0,254,510,1023,2047]) [2,3,4,7,8] [
 qm 37 7,
 qL 38 2 3,
 qf 39 5 4,
 ql 40 39,
 qm 41 8,
 qx 42 6 40 41,
 qL 43 6 42,
 qm 44 2,
 qC 45 Zz [.t 38,.t 43,.t 44],
 .r 46 (.bsl 1 1 [.t 45]),
 .r 47 (.app 1 8 false (.t 37) (.t 46)),
 qm 7 47]))
 (.reg 6 none [2,3,4,7,8] [
 qm 35 8,
 qa 36 35,
 qm 8 36]))))))
 (.seq
 (.reg 8 none [6] [
 qf 48 0 4,
 ql 49 48,
 qm 50 7,
 qC 51 Wx [.t 49,.t 50],
 qm 6 51])
 .ret)))))
def qT0:List (Nat×List Nat):=qy KB
theorem qT1:FnIR Tryz.prog Zz 52 qT0 KB [(.tmp 6)]:=
 qF Tryz.func134
def Jo:RC:=
 (.seq
 (.reg 0 none [1] [
 .r 1 (.box (.t 0)),
 qi 2 0])
 (.seq
 (.seq
 (.reg 1 none [32] [
 qf 3 1 1,
 ql 4 3,
 qB 5 .lss 4 1,
 qm 6 5,
 qff 7 6 1 1,
 qlf 8 6 7,
 .rf 9 6 (.bin .gtr false (.t 8) (qI 1000)),
 qP 10 6 9,
 qm 11 10,
 qff 12 11 0 1,
 qlf 13 11 12,
 .rf 14 11 (.bin .lss false (.t 13) (qI 1)),
 qP 15 11 14,
 qm 16 15,
 qff 17 16 0 1,
 qlf 18 16 17,
 qff 19 16 1 1,
 qlf 20 16 19,
 .rf 21 16 (.bin .gtr false (.t 18) (.t 20)),
 qP 22 16 21,
 qm 23 22,
 qff 24 23 2 1,
 qlf 25 23 24,
 .rf 26 23 (.bin .lss false (.t 25) (qI 0)),
 qP 27 23 26,
 qm 28 27,
 qff 29 28 2 1,
 qlf 30 28 29,
 .rf 31 28 (.bin .gtr false (.t 30) (qI 1099511627776)),
 qP 32 28 31])
 (qq 32
 (.seq
 (.reg 2 none [2] [
 qi 2 2])
 .ret)
 .skip))
 (.seq
 (.reg 3 none [2] [
 qi 2 0])
 .ret)))
def qG8:List (Nat×List Nat):=qy Jo
theorem qG9:FnIR Tryz.prog Ki 33 qG8 Jo [(.tmp 2)]:=
 qF Tryz.func135
def KC:RC:=
 (.seq
 (.reg 0 none [0,1] [
 qi 4 0])
 (.seq
 (.reg 1 none [5] [
 qm 7 0,
 .r 8 (.cvI .u64 (.t 7)),
 .r 9 (.bin .mul false (.t 8) (.k (.v (.int .u64 2654435761)))),
 qm 10 1,
 .r 11 (.cvI .u64 (.t 10)),
 .r 12 (.bin .mul false (.t 11) (.k (.v (.int .u64 40503)))),
 qb 13 .add 9 12,
 .r 14 (.bin .add false (.t 13) (.k (.v (.int .u64 97)))),
 qm 5 14])
 (.seq
 (.seq
 (.reg 2 none [5,6] [
 qi 6 0])
 (.block 0
 (.loop
 (.seq
 (.seq
 (.reg 3 none [5,6,16] [
 qm 15 6,
 qB 16 .lss 15 3])
 (qq 16
 .skip
 (.exit 0)))
 (.seq
 (.block 1
 (.seq
 (.reg 5 none [5,6] [
 qm 19 5,
 .r 20 (.bin .mul false (.t 19) (.k (.v (.int .u64 6364136223846793005)))),
 .r 21 (.bin .add false (.t 20) (.k (.v (.int .u64 1442695040888963407)))),
 qm 5 21])
 (.reg 6 none [5,6] [
 qm 22 5,
 qm 23 5,
 .r 24 (.bin .shr false (.t 23) (.k (.v (.int .u64 29)))),
 qb 25 .xor 22 24,
 qm 5 25])))
 (.reg 4 none [5,6] [
 qm 17 6,
 qa 18 17,
 qm 6 18]))))))
 (.seq
 (.reg 7 none [4] [
 qm 26 5,
 .r 27 (.bin .shr false (.t 26) (.k (.v (.int .u64 32)))),
 .r 28 (.cvI .i64 (.t 27)),
 qm 4 28])
 .ret))))
def qT2:List (Nat×List Nat):=qy KC
theorem qT3:FnIR Tryz.prog Wu 29 qT2 KC [(.tmp 4)]:=
 qF Tryz.func136
def Jp:RC:=
 (.seq
 (.reg 0 none [1,2] [
 .r 2 (.box (.t 0)),
 qi 4 0])
 (.seq
 (.seq
 (.reg 1 none [1,2,18] [
 qL 5 2 2,
 qC 6 jr [.t 5],
 qB 7 .neq 6 0,
 qm 8 7,
 qmf 9 8 1,
 .rf 10 8 (.bin .lss false (.t 9) (qI 0)),
 qP 11 8 10,
 qm 12 11,
 qmf 13 12 1,
 qff 14 12 1 2,
 qlf 15 12 14,
 .rf 16 12 (.lenL (.t 15)),
 .rf 17 12 (.bin .geq false (.t 13) (.t 16)),
 qP 18 12 17])
 (qq 18
 (.seq
 (.reg 2 none [4] [
 .r 4 (.mv (.k (.v (.int .i64 (-1)))))])
 .ret)
 .skip))
 (.seq
 (.reg 3 none [4] [
 qL 19 2 2,
 qm 20 1,
 qC 21 ze [.t 19,.t 20],
 qm 4 21])
 .ret)))
def qH0:List (Nat×List Nat):=qy Jp
theorem qH1:FnIR Tryz.prog wD 22 qH0 Jp [(.tmp 4)]:=
 qF Tryz.func137
def Jq:RC:=
 (.seq
 (.reg 0 none [1,2] [
 .r 2 (.box (.t 0)),
 qi 4 0])
 (.seq
 (.reg 1 none [1,2,5] [
 qi 5 0])
 (.seq
 (.block 0
 (.loop
 (.seq
 (.seq
 (.reg 2 none [1,2,5,12] [
 qf 6 1 2,
 ql 7 6,
 qm 8 1,
 qx 9 2 7 8,
 qf 10 1 9,
 ql 11 10,
 qB 12 .geq 11 0])
 (qq 12
 .skip
 (.exit 0)))
 (.block 1
 (.seq
 (.reg 3 none [1,2,5] [
 qf 13 1 2,
 ql 14 13,
 qm 15 1,
 qx 16 2 14 15,
 qf 17 1 16,
 ql 18 17,
 qm 1 18])
 (.reg 4 none [1,2,5] [
 qm 19 5,
 qa 20 19,
 qm 5 20]))))))
 (.seq
 (.reg 5 none [4] [
 qm 21 5,
 qm 4 21])
 .ret))))
def qH2:List (Nat×List Nat):=qy Jq
theorem qH3:FnIR Tryz.prog ze 22 qH2 Jq [(.tmp 4)]:=
 qF Tryz.func138
def zy:RC:=
 (.seq
 (.reg 0 none [0,1,2,3,8] [
 qc 8 true])
 (.seq
 (.reg 1 none [0,1,2,3,8,9] [
 qc 9 true])
 (.block 0
 (.loop
 (.block 1
 (.seq
 (.reg 2 none [0,1,2,3,8,9,10] [
 qm 19 2,
 qm 20 1,
 qb 21 .sub 19 20,
 qm 10 21])
 (.seq
 (.seq
 (.reg 3 none [0,1,2,3,8,9,10,23] [
 qm 22 10,
 qB 23 .leq 22 12])
 (qq 23
 (.seq
 (.reg 4 none [] [
 qm 24 0,
 qm 25 1,
 qm 26 2,
 qC 27 zf [.t 24,.t 25,.t 26]])
 .ret)
 .skip))
 (.seq
 (.seq
 (.reg 5 none [0,1,2,3,8,9,10,29] [
 qm 28 3,
 qB 29 .eql 28 0])
 (qq 29
 (.seq
 (.reg 6 none [] [
 qm 30 0,
 qm 31 1,
 qm 32 2,
 qC 33 Qw [.t 30,.t 31,.t 32]])
 .ret)
 .skip))
 (.seq
 (.seq
 (.reg 7 none [0,1,2,3,8,9,10,35] [
 qm 34 8,
 .r 35 (.un .not (.t 34))])
 (qq 35
 (.seq
 (.reg 8 none [0,1,2,3,8,9,10] [
 qm 36 0,
 qm 37 1,
 qm 38 2,
 qC 39 wE [.t 36,.t 37,.t 38]])
 (.reg 9 none [0,1,2,3,8,9,10] [
 qm 40 3,
 qB 41 .sub 40 1,
 qm 3 41]))
 .skip))
 (.seq
 (.reg 10 none [0,1,2,3,8,9,10,11,12] [
 qm 43 0,
 qm 44 1,
 qm 45 2,
 qC 46 yh [.t 43,.t 44,.t 45],
 qm 42 46,
 .r 47 (.ex (.t 42) 0),
 .r 48 (.ex (.t 42) 1),
 qm 11 47,
 qm 12 48])
 (.seq
 (.seq
 (.reg 11 none [0,1,2,3,8,9,10,11,12,50] [
 qm 49 12,
 qB 50 .eql 49 2])
 (qq 50
 (.seq
 (.reg 12 none [0,1,2,3,8,9,10,11] [
 qm 51 0,
 qm 52 1,
 qm 53 2,
 qC 54 wV [.t 51,.t 52,.t 53]])
 (.seq
 (.reg 13 none [0,1,2,3,8,9,10,11] [
 qm 55 2,
 qB 56 .sub 55 1,
 qm 57 11,
 qm 58 1,
 qb 59 .sub 57 58,
 qb 60 .sub 56 59,
 qm 11 60])
 (.reg 14 none [0,1,2,3,8,9,10,11,12] [
 qi 12 1])))
 .skip))
 (.seq
 (.seq
 (.reg 15 none [0,1,2,3,8,9,10,11,68] [
 qm 61 8,
 qm 62 61,
 qmt 63 62 9,
 qp 64 62 63,
 qm 65 64,
 qmt 66 65 12,
 .rt 67 65 (.bin .eql false (.t 66) (qI 1)),
 qp 68 65 67])
 (qq 68
 (.seq
 (.reg 16 none [0,1,2,3,8,9,10,11,72] [
 qm 69 0,
 qm 70 1,
 qm 71 2,
 qC 72 jJ [.t 69,.t 70,.t 71]])
 (qq 72
 .ret
 .skip))
 .skip))
 (.seq
 (.seq
 (.reg 17 (some [0,1,3,7,7,23,63,127,7,7,775,1799,4095,8191,16383]) [0,1,2,3,8,9,10,11,87] [
 qm 73 1,
 qB 74 .gtr 73 0,
 qm 75 74,
 qmt 76 75 0,
 qmt 77 75 1,
 .rt 78 75 (.bin .sub false (.t 77) (qI 1)),
 .rt 79 75 (.ixL 1 (.t 76) (.t 78)),
 qlt 80 75 79,
 qmt 81 75 0,
 qmt 82 75 11,
 .rt 83 75 (.ixL 1 (.t 81) (.t 82)),
 qlt 84 75 83,
 .rt 85 75 (.call (.k (.clo yx [])) [.t 80,.t 84]),
 .rt 86 75 (.un .not (.t 85)),
 qp 87 75 86])
 (qq 87
 (.seq
 (.reg 18 none [0,2,3,8,9,13] [
 qm 88 0,
 qm 89 1,
 qm 90 2,
 qm 91 11,
 qC 92 wi [.t 88,.t 89,.t 90,.t 91],
 qm 13 92])
 (.seq
 (.reg 19 none [0,1,2,3,8,9] [
 qm 93 13,
 qm 1 93])
 (.exit 1)))
 .skip))
 (.seq
 (.reg 20 none [0,1,2,3,10,14,15] [
 qm 95 0,
 qm 96 1,
 qm 97 2,
 qm 98 11,
 qC 99 yM [.t 95,.t 96,.t 97,.t 98],
 qm 94 99,
 .r 100 (.ex (.t 94) 0),
 .r 101 (.ex (.t 94) 1),
 qm 14 100,
 qm 15 101])
 (.seq
 (.reg 21 none [0,1,2,3,9,10,14] [
 qm 102 15,
 qm 9 102])
 (.seq
 (.reg 22 none [0,1,2,3,9,10,14,16,17] [
 qm 103 14,
 qm 104 1,
 qb 105 .sub 103 104,
 qm 106 2,
 qm 107 14,
 qb 108 .sub 106 107,
 qm 16 105,
 qm 17 108])
 (.seq
 (.reg 23 none [0,1,2,3,9,14,16,17,18] [
 qm 109 10,
 qB 110 .quo 109 8,
 qm 18 110])
 (.seq
 (.reg 24 none [0,1,2,3,9,14,16,17,18,113] [
 qm 111 16,
 qm 112 17,
 qb 113 .lss 111 112])
 (qq 113
 (.seq
 (.reg 25 none [0,1,2,3,8,9,14] [
 qm 114 16,
 qm 115 18,
 qb 116 .geq 114 115,
 qm 8 116])
 (.seq
 (.reg 26 none [0,2,3,8,9,14] [
 qm 117 0,
 qm 118 1,
 qm 119 14,
 qm 120 3,
 qC 121 qS [.t 117,.t 118,.t 119,.t 120]])
 (.reg 27 none [0,1,2,3,8,9] [
 qm 122 14,
 qa 123 122,
 qm 1 123])))
 (.seq
 (.reg 28 none [0,1,2,3,8,9,14] [
 qm 124 17,
 qm 125 18,
 qb 126 .geq 124 125,
 qm 8 126])
 (.seq
 (.reg 29 none [0,1,3,8,9,14] [
 qm 127 0,
 qm 128 14,
 qa 129 128,
 qm 130 2,
 qm 131 3,
 qC 132 qS [.t 127,.t 129,.t 130,.t 131]])
 (.reg 30 none [0,1,2,3,8,9] [
 qm 133 14,
 qm 2 133]))))))))))))))))))))))
def Qx:List (Nat×List Nat):=qy zy
theorem Qy:FnIR Tryz.prog qS 134 Qx zy []:=
 qF Tryz.func139
def yV:RC:=
 (.seq
 (.reg 0 none [0] [
 qi 2 0])
 (.seq
 (.cond (.k (.v (.bool false)))
 (.seq
 (.reg 1 none [2] [
 qm 3 0,
 .r 4 (.cvI .u32 (.t 3)),
 qC 5 ql1 [.t 4],
 qm 2 5])
 .ret)
 .skip)
 (.seq
 (.reg 2 none [2] [
 qm 6 0,
 qC 7 yi [.t 6],
 qm 2 7])
 .ret)))
def qq6:List (Nat×List Nat):=qy yV
theorem qq7:FnIR Tryz.prog QR 8 qq6 yV [(.tmp 2)]:=
 qF Tryz.func140
def qb4:RC:=
 (.seq
 (.reg 0 none [1,2] [
 .r 2 (.box (.t 0)),
 .r 4 (.mv (qN))])
 (.seq
 (.reg 1 none [1,2,5] [
 .r 5 (.mv (qN))])
 (.seq
 (.seq
 (.reg 2 none [1,2,5,9] [
 qL 7 2 2,
 qC 8 jr [.t 7],
 qB 9 .neq 8 0])
 (qq 9
 (.seq
 (.reg 3 none [4] [
 .r 4 (.mv (qN))])
 .ret)
 .skip))
 (.seq
 (.seq
 (.reg 4 none [1,2,5,6] [
 qi 6 0])
 (.block 0
 (.loop
 (.seq
 (.seq
 (.reg 5 none [1,2,5,6,14] [
 qm 10 6,
 qf 11 1 2,
 ql 12 11,
 qn 13 12,
 qb 14 .lss 10 13])
 (qq 14
 .skip
 (.exit 0)))
 (.seq
 (.block 1
 (.seq
 (.reg 7 none [1,2,5,6,21] [
 qL 17 2 2,
 qm 18 6,
 qC 19 ze [.t 17,.t 18],
 qm 20 1,
 qb 21 .eql 19 20])
 (qq 21
 (.reg 8 none [1,2,5,6] [
 qm 22 5,
 qm 23 6,
 .r 24 (.bsl 1 1 [.t 23]),
 .r 25 (.app 1 8 false (.t 22) (.t 24)),
 qm 5 25])
 .skip)))
 (.reg 6 none [1,2,5,6] [
 qm 15 6,
 qa 16 15,
 qm 6 16]))))))
 (.seq
 (.reg 9 none [4] [
 qm 26 5,
 qm 4 26])
 .ret)))))
def zo3:List (Nat×List Nat):=qy qb4
theorem zo4:FnIR Tryz.prog ql0 27 zo3 qb4 [(.tmp 4)]:=
 qF Tryz.func142
def zZ:RC:=
 (.seq
 (.reg 0 none [0] [
 .r 2 (.mv (.k (.v (.string ⟨#[]⟩))))])
 (.seq
 (.seq
 (.reg 1 none [0,4] [
 qm 3 0,
 qB 4 .lss 3 10])
 (qq 4
 (.seq
 (.reg 2 none [2] [
 qm 5 0,
 qm 6 0,
 qa 7 6,
 .r 8 (.slS (.k (.v (.string ⟨#[48,49,50,51,52,53,54,55,56,57,97,98,99,100,101,102,103,104,105,106,107,108,109,110,111,112,113,114,115,116,117,118,119,120,121,122]⟩))) (some (.t 5)) (some (.t 7))),
 qm 2 8])
 .ret)
 .skip))
 (.seq
 (.reg 3 none [2] [
 qm 9 0,
 qB 10 .mul 9 2,
 qm 11 0,
 qB 12 .mul 11 2,
 qB 13 .add 12 2,
 .r 14 (.slS (.k (.v (.string ⟨#[48,48,48,49,48,50,48,51,48,52,48,53,48,54,48,55,48,56,48,57,49,48,49,49,49,50,49,51,49,52,49,53,49,54,49,55,49,56,49,57,50,48,50,49,50,50,50,51,50,52,50,53,50,54,50,55,50,56,50,57,51,48,51,49,51,50,51,51,51,52,51,53,51,54,51,55,51,56,51,57,52,48,52,49,52,50,52,51,52,52,52,53,52,54,52,55,52,56,52,57,53,48,53,49,53,50,53,51,53,52,53,53,53,54,53,55,53,56,53,57,54,48,54,49,54,50,54,51,54,52,54,53,54,54,54,55,54,56,54,57,55,48,55,49,55,50,55,51,55,52,55,53,55,54,55,55,55,56,55,57,56,48,56,49,56,50,56,51,56,52,56,53,56,54,56,55,56,56,56,57,57,48,57,49,57,50,57,51,57,52,57,53,57,54,57,55,57,56,57,57]⟩))) (some (.t 10)) (some (.t 13))),
 qm 2 14])
 .ret)))
def Jr:List (Nat×List Nat):=qy zZ
theorem Js:FnIR Tryz.prog jh 15 Jr zZ [(.tmp 2)]:=
 qF Tryz.func143
def KD:RC:=
 (.seq
 (.reg 0 none [1,2] [
 .r 2 (.box (.t 0)),
 qc 4 false])
 (.seq
 (.seq
 (.reg 1 none [1,2,5] [
 qi 5 0])
 (.block 0
 (.loop
 (.seq
 (.seq
 (.reg 2 none [1,2,5,10] [
 qm 6 5,
 qf 7 1 2,
 ql 8 7,
 qn 9 8,
 qb 10 .lss 6 9])
 (qq 10
 .skip
 (.exit 0)))
 (.seq
 (.block 1
 (.seq
 (.reg 4 none [1,2,5,20] [
 qf 13 1 2,
 ql 14 13,
 qm 15 5,
 qx 16 2 14 15,
 qf 17 1 16,
 ql 18 17,
 qm 19 1,
 qb 20 .eql 18 19])
 (qq 20
 (.seq
 (.reg 5 none [4] [
 qc 4 false])
 .ret)
 .skip)))
 (.reg 3 none [1,2,5] [
 qm 11 5,
 qa 12 11,
 qm 5 12]))))))
 (.seq
 (.reg 6 none [4] [
 qc 4 true])
 .ret)))
def qT4:List (Nat×List Nat):=qy KD
theorem qT5:FnIR Tryz.prog Wv 21 qT4 KD [(.tmp 4)]:=
 qF Tryz.func147
def yW:RC:=
 (.seq
 (.reg 0 none [1] [
 .r 1 (.box (.t 0)),
 qi 2 0])
 (.seq
 (.seq
 (.reg 1 none [1,21] [
 qf 5 3 1,
 ql 6 5,
 qC 7 zA [.t 6,.k (.v (.int .i64 (-1000000))),qI 1000000],
 .r 8 (.un .not (.t 7)),
 qm 9 8,
 qff 10 9 4 1,
 qlf 11 9 10,
 .rf 12 9 (.call (.k (.clo zA [])) [.t 11,.k (.v (.int .i64 (-1000000))),qI 1000000]),
 .rf 13 9 (.un .not (.t 12)),
 qP 14 9 13,
 qm 15 14,
 qff 16 15 3 1,
 qlf 17 15 16,
 qff 18 15 4 1,
 qlf 19 15 18,
 .rf 20 15 (.bin .gtr false (.t 17) (.t 19)),
 qP 21 15 20])
 (qq 21
 (.seq
 (.reg 2 none [2] [
 qi 2 2])
 .ret)
 .skip))
 (.seq
 (.seq
 (.reg 3 none [1,31] [
 qf 22 5 1,
 ql 23 22,
 qn 24 23,
 qB 25 .lss 24 1,
 qm 26 25,
 qff 27 26 5 1,
 qlf 28 26 27,
 .rf 29 26 (.lenL (.t 28)),
 .rf 30 26 (.bin .gtr false (.t 29) (qI 4)),
 qP 31 26 30])
 (qq 31
 (.seq
 (.reg 4 none [2] [
 qi 2 1])
 .ret)
 .skip))
 (.seq
 (.seq
 (.reg 5 none [1,3] [
 qi 3 0])
 (.block 0
 (.loop
 (.seq
 (.seq
 (.reg 6 none [1,3,36] [
 qm 32 3,
 qf 33 5 1,
 ql 34 33,
 qn 35 34,
 qb 36 .lss 32 35])
 (qq 36
 .skip
 (.exit 0)))
 (.seq
 (.block 1
 (.seq
 (.reg 8 none [1,3,4] [
 qf 39 5 1,
 ql 40 39,
 qm 41 3,
 qx 42 1 40 41,
 ql 43 42,
 qm 4 43])
 (.seq
 (.reg 9 none [1,3,78] [
 qm 44 3,
 qB 45 .eql 44 0,
 qm 46 45,
 qmt 47 46 4,
 .rt 48 46 (.bin .neq false (.t 47) (qI 1)),
 qp 49 46 48,
 qm 50 49,
 qmf 51 50 3,
 .rf 52 50 (.bin .gtr false (.t 51) (qI 0)),
 qmf 53 50 52,
 qmt 54 53 4,
 qft 55 53 5 1,
 qlt 56 53 55,
 qmt 57 53 3,
 .rt 58 53 (.bin .sub false (.t 57) (qI 1)),
 .rt 59 53 (.ixL 1 (.t 56) (.t 58)),
 qlt 60 53 59,
 .rt 61 53 (.bin .leq false (.t 54) (.t 60)),
 qmt 62 53 61,
 qmf 63 62 4,
 .rf 64 62 (.bin .gtr false (.t 63) (qI 1000000)),
 .rt 65 53 (.pick (.t 62) (.k (.v (.bool true))) (.t 64)),
 qmt 66 53 65,
 qmf 67 66 4,
 qff 68 66 5 1,
 qlf 69 66 68,
 qmf 70 66 3,
 .rf 71 66 (.bin .sub false (.t 70) (qI 1)),
 .rf 72 66 (.ixL 1 (.t 69) (.t 71)),
 qlf 73 66 72,
 .rf 74 66 (.bin .rem false (.t 67) (.t 73)),
 .rf 75 66 (.bin .neq false (.t 74) (qI 0)),
 .rt 76 53 (.pick (.t 66) (.k (.v (.bool true))) (.t 75)),
 .rf 77 50 (.pick (.t 53) (.t 76) (.k (.v (.bool false)))),
 qP 78 50 77])
 (qq 78
 (.seq
 (.reg 10 none [2] [
 qi 2 2])
 .ret)
 .skip))))
 (.reg 7 none [1,3] [
 qm 37 3,
 qa 38 37,
 qm 3 38]))))))
 (.seq
 (.reg 11 none [2] [
 qi 2 0])
 .ret)))))
def qq8:List (Nat×List Nat):=qy yW
theorem qq9:FnIR Tryz.prog QS 79 qq8 yW [(.tmp 2)]:=
 qF Tryz.func148
def Zi:RC:=
 (.seq
 (.reg 0 none [1,2,3] [
 .r 3 (.box (.t 0)),
 qc 6 false])
 (.seq
 (.reg 1 none [6] [
 qm 7 1,
 qB 8 .geq 7 0,
 qm 9 8,
 qmt 10 9 1,
 qft 11 9 1 3,
 qlt 12 9 11,
 .rt 13 9 (.lenL (.t 12)),
 .rt 14 9 (.bin .lss false (.t 10) (.t 13)),
 qp 15 9 14,
 qm 16 15,
 qft 17 16 1 3,
 qlt 18 16 17,
 qmt 19 16 1,
 .rt 20 16 (.ixL 7 (.t 18) (.t 19)),
 qft 21 16 1 20,
 qlt 22 16 21,
 qmt 23 16 2,
 .rt 24 16 (.bin .eql false (.t 22) (.t 23)),
 qp 25 16 24,
 qm 6 25])
 .ret))
def zo5:List (Nat×List Nat):=qy Zi
theorem qb5:FnIR Tryz.prog JE 26 zo5 Zi [(.tmp 6)]:=
 qF Tryz.func149
def Zj:RC:=
 (.seq
 (.reg 0 none [1,2,3] [
 .r 3 (.box (.t 0)),
 qc 6 false])
 (.seq
 (.reg 1 none [6] [
 qm 7 1,
 qB 8 .geq 7 0,
 qm 9 8,
 qmt 10 9 1,
 qft 11 9 1 3,
 qlt 12 9 11,
 .rt 13 9 (.lenL (.t 12)),
 .rt 14 9 (.bin .lss false (.t 10) (.t 13)),
 qp 15 9 14,
 qm 16 15,
 qft 17 16 1 3,
 qlt 18 16 17,
 qmt 19 16 1,
 .rt 20 16 (.ixL 7 (.t 18) (.t 19)),
 qft 21 16 1 20,
 qlt 22 16 21,
 qmt 23 16 2,
 .rt 24 16 (.bin .eql false (.t 22) (.t 23)),
 qp 25 16 24,
 qm 6 25])
 .ret))
def zo6:List (Nat×List Nat):=qy Zj
theorem qb6:FnIR Tryz.prog JF 26 zo6 Zj [(.tmp 6)]:=
 qF Tryz.func150
def KE:RC:=
 (.seq
 (.reg 0 none [1,2] [
 .r 2 (.box (.t 0)),
 qi 4 0])
 (.seq
 (.seq
 (.reg 1 none [1,2,15] [
 qm 8 1,
 qn 9 8,
 qB 10 .lss 9 1,
 qm 11 10,
 qmf 12 11 1,
 .rf 13 11 (.lenL (.t 12)),
 .rf 14 11 (.bin .gtr false (.t 13) (qI 3)),
 qP 15 11 14])
 (qq 15
 (.seq
 (.reg 2 none [4] [
 qi 4 1])
 .ret)
 .skip))
 (.seq
 (.seq
 (.reg 3 none [1,2,5] [
 qi 5 0])
 (.block 0
 (.loop
 (.seq
 (.seq
 (.reg 4 none [1,2,5,19] [
 qm 16 5,
 qm 17 1,
 qn 18 17,
 qb 19 .lss 16 18])
 (qq 19
 .skip
 (.exit 0)))
 (.seq
 (.block 1
 (.seq
 (.seq
 (.reg 6 (some [0,0,0,6,14,31,63]) [1,2,5,6] [
 qL 22 2 2,
 qm 23 1,
 qm 24 5,
 qx 25 2 23 24,
 qL 26 2 25,
 qC 27 Zy [.t 22,.t 26],
 qm 6 27])
 (.seq
 (.reg 7 none [1,2,5,6,29] [
 qm 28 6,
 qB 29 .neq 28 0])
 (qq 29
 (.seq
 (.reg 8 none [4] [
 qm 30 6,
 qm 4 30])
 .ret)
 .skip)))
 (.seq
 (.seq
 (.reg 9 (some [0,0,0,6,14,30,63,127]) [1,2,5,38] [
 qL 31 2 2,
 qm 32 1,
 qm 33 5,
 qx 34 2 32 33,
 qf 35 0 34,
 ql 36 35,
 qC 37 JF [.t 31,.t 36,qI 2],
 .r 38 (.un .not (.t 37))])
 (qq 38
 (.seq
 (.reg 10 none [4] [
 qi 4 7])
 .ret)
 .skip))
 (.seq
 (.reg 11 none [1,2,5,7] [
 qi 7 0])
 (.block 2
 (.loop
 (.seq
 (.seq
 (.reg 12 none [1,2,5,7,41] [
 qm 39 7,
 qm 40 5,
 qb 41 .lss 39 40])
 (qq 41
 .skip
 (.exit 2)))
 (.seq
 (.block 3
 (.seq
 (.reg 14 (some [0,0,3,7,15,0,0,96,224,480,1023]) [1,2,5,7,54] [
 qm 44 1,
 qm 45 7,
 qx 46 2 44 45,
 qf 47 0 46,
 ql 48 47,
 qm 49 1,
 qm 50 5,
 qx 51 2 49 50,
 qf 52 0 51,
 ql 53 52,
 qb 54 .eql 48 53])
 (qq 54
 (.seq
 (.reg 15 none [4] [
 qi 4 10])
 .ret)
 .skip)))
 (.reg 13 none [1,2,5,7] [
 qm 42 7,
 qa 43 42,
 qm 7 43])))))))))
 (.reg 5 none [1,2,5] [
 qm 20 5,
 qa 21 20,
 qm 5 21]))))))
 (.seq
 (.reg 16 none [4] [
 qi 4 0])
 .ret))))
def qT6:List (Nat×List Nat):=qy KE
theorem qT7:FnIR Tryz.prog Ww 55 qT6 KE [(.tmp 4)]:=
 qF Tryz.func151
def Jt:RC:=
 (.seq
 (.reg 0 none [1,2,3] [
 .r 3 (.box (.t 0)),
 qi 6 0])
 (.seq
 (.seq
 (.reg 1 none [1,2,3,15] [
 qm 8 2,
 qn 9 8,
 qB 10 .lss 9 1,
 qm 11 10,
 qmf 12 11 2,
 .rf 13 11 (.lenL (.t 12)),
 .rf 14 11 (.bin .gtr false (.t 13) (qI 3)),
 qP 15 11 14])
 (qq 15
 (.seq
 (.reg 2 none [6] [
 qi 6 1])
 .ret)
 .skip))
 (.seq
 (.seq
 (.reg 3 none [1,2,3,7] [
 qi 7 0])
 (.block 0
 (.loop
 (.seq
 (.seq
 (.reg 4 none [1,2,3,7,19] [
 qm 16 7,
 qm 17 2,
 qn 18 17,
 qb 19 .lss 16 18])
 (qq 19
 .skip
 (.exit 0)))
 (.seq
 (.block 1
 (.seq
 (.seq
 (.reg 6 (some [0,0,0,6,14,31,63]) [1,2,3,7,28] [
 qL 22 2 3,
 qm 23 2,
 qm 24 7,
 qx 25 1 23 24,
 ql 26 25,
 qC 27 JF [.t 22,.t 26,qI 3],
 .r 28 (.un .not (.t 27))])
 (qq 28
 (.seq
 (.reg 7 none [6] [
 qi 6 7])
 .ret)
 .skip))
 (.seq
 (.reg 8 (some [0,0,3,7,0,31,63,127,127,511,127,127,3199,7295,16383,32767]) [1,2,3,7,44] [
 qm 29 2,
 qm 30 7,
 qx 31 1 29 30,
 ql 32 31,
 qm 33 1,
 qb 34 .eql 32 33,
 qm 35 34,
 qmf 36 35 2,
 qmf 37 35 7,
 .rf 38 35 (.slL 1 (.t 36) none (some (.t 37))),
 qmf 39 35 2,
 qmf 40 35 7,
 .rf 41 35 (.ixL 1 (.t 39) (.t 40)),
 qlf 42 35 41,
 .rf 43 35 (.call (.k (.clo jP [])) [.t 38,.t 42]),
 qP 44 35 43])
 (qq 44
 (.seq
 (.reg 9 none [6] [
 qi 6 10])
 .ret)
 .skip))))
 (.reg 5 none [1,2,3,7] [
 qm 20 7,
 qa 21 20,
 qm 7 21]))))))
 (.seq
 (.reg 10 none [6] [
 qi 6 0])
 .ret))))
def qH4:List (Nat×List Nat):=qy Jt
theorem qH5:FnIR Tryz.prog Kj 45 qH4 Jt [(.tmp 6)]:=
 qF Tryz.func152
def KG:RC:=
 (.seq
 (.reg 0 none [2,3] [
 .r 2 (.box (.t 0)),
 .r 3 (.box (.t 1)),
 qc 4 false])
 (.seq
 (.seq
 (.reg 1 none [2,3,47] [
 qf 6 0 2,
 ql 7 6,
 qf 8 0 3,
 ql 9 8,
 qb 10 .neq 7 9,
 qm 11 10,
 qff 12 11 1 2,
 qlf 13 11 12,
 qff 14 11 1 3,
 qlf 15 11 14,
 .rf 16 11 (.bin .neq false (.t 13) (.t 15)),
 qP 17 11 16,
 qm 18 17,
 qff 19 18 2 2,
 qlf 20 18 19,
 qff 21 18 2 3,
 qlf 22 18 21,
 .rf 23 18 (.bin .neq false (.t 20) (.t 22)),
 qP 24 18 23,
 qm 25 24,
 qff 26 25 3 2,
 qlf 27 25 26,
 qff 28 25 3 3,
 qlf 29 25 28,
 .rf 30 25 (.bin .neq false (.t 27) (.t 29)),
 qP 31 25 30,
 qm 32 31,
 qff 33 32 4 2,
 qlf 34 32 33,
 qff 35 32 4 3,
 qlf 36 32 35,
 .rf 37 32 (.bin .neq false (.t 34) (.t 36)),
 qP 38 32 37,
 qm 39 38,
 qff 40 39 5 2,
 qlf 41 39 40,
 .rf 42 39 (.lenL (.t 41)),
 qff 43 39 5 3,
 qlf 44 39 43,
 .rf 45 39 (.lenL (.t 44)),
 .rf 46 39 (.bin .neq false (.t 42) (.t 45)),
 qP 47 39 46])
 (qq 47
 (.seq
 (.reg 2 none [4] [
 qc 4 false])
 .ret)
 .skip))
 (.seq
 (.seq
 (.reg 3 none [2,3,5] [
 qi 5 0])
 (.block 0
 (.loop
 (.seq
 (.seq
 (.reg 4 none [2,3,5,52] [
 qm 48 5,
 qf 49 5 2,
 ql 50 49,
 qn 51 50,
 qb 52 .lss 48 51])
 (qq 52
 .skip
 (.exit 0)))
 (.seq
 (.block 1
 (.seq
 (.reg 6 (some [0,1,0,7,15,0,32,0,224,480,1023,2047]) [2,3,5,66] [
 qf 55 5 2,
 ql 56 55,
 qm 57 5,
 qx 58 6 56 57,
 qL 59 6 58,
 qf 60 5 3,
 ql 61 60,
 qm 62 5,
 qx 63 6 61 62,
 qL 64 6 63,
 qC 65 ZA [.t 59,.t 64],
 .r 66 (.un .not (.t 65))])
 (qq 66
 (.seq
 (.reg 7 none [4] [
 qc 4 false])
 .ret)
 .skip)))
 (.reg 5 none [2,3,5] [
 qm 53 5,
 qa 54 53,
 qm 5 54]))))))
 (.seq
 (.reg 8 none [4] [
 qc 4 true])
 .ret))))
def qT8:List (Nat×List Nat):=qy KG
theorem qT9:FnIR Tryz.prog ZA 67 qT8 KG [(.tmp 4)]:=
 qF Tryz.func153
def kh:RC:=
 (.seq
 (.reg 0 none [2,3,4] [
 .r 3 (.box (.t 0)),
 .r 4 (.box (.t 1)),
 qi 6 0])
 (.seq
 (.reg 1 none [2,3,4,7] [
 qc 7 false])
 (.seq
 (.seq
 (.reg 2 none [2,3,4,7,9] [
 qf 8 0 4,
 ql 9 8])
 (.block 0
 (.seq
 (.reg 3 none [2,3,4,7,9,10] [
 qB 11 .eql 9 2,
 qm 10 11])
 (qq 10
 (.reg 4 (some [0,1,0,4,0,16,60,124,252,511,1023,0,0,4096,16383,32767]) [7] [
 qf 12 0 3,
 ql 13 12,
 qf 14 1 3,
 ql 15 14,
 qf 16 1 4,
 ql 17 16,
 qx 18 7 15 17,
 qf 19 2 18,
 ql 20 19,
 qx 21 2 13 20,
 qL 22 2 21,
 qm 23 2,
 qf 24 2 4,
 ql 25 24,
 qC 26 Kk [.t 22,.t 23,.t 25],
 qm 7 26])
 (.seq
 (.reg 5 none [2,4,7,9,27] [
 qB 28 .eql 9 3,
 qm 27 28])
 (qq 27
 (.seq
 (.seq
 (.reg 6 none [2,4,30] [
 qm 29 2,
 .r 30 (.bin .eql false (.t 29) (.k (.v (.int .i64 (-1099511627776)))))])
 (qq 30
 (.seq
 (.reg 7 none [6] [
 qi 6 0])
 .ret)
 .skip))
 (.reg 8 none [7] [
 qf 31 3 4,
 ql 32 31,
 qm 33 2,
 qb 34 .leq 32 33,
 qm 35 34,
 qmt 36 35 2,
 qft 37 35 4 4,
 qlt 38 35 37,
 .rt 39 35 (.bin .leq false (.t 36) (.t 38)),
 qp 40 35 39,
 qm 7 40]))
 (.seq
 (.reg 9 none [2,7,41] [
 qB 42 .eql 9 4,
 qm 41 42])
 (qq 41
 (.reg 10 none [7] [
 qm 43 2,
 .r 44 (.bin .eql false (.t 43) (.k (.v (.int .i64 (-1099511627776))))),
 qm 7 44])
 .skip))))))))
 (.seq
 (.seq
 (.reg 11 none [45] [
 qm 45 7])
 (qq 45
 (.seq
 (.reg 12 none [6] [
 qi 6 1])
 .ret)
 .skip))
 (.seq
 (.reg 13 none [6] [
 .r 6 (.mv (.k (.v (.int .i64 (-1)))))])
 .ret)))))
def qU0:List (Nat×List Nat):=qy kh
theorem Qz:FnIR Tryz.prog yF 46 qU0 kh [(.tmp 6)]:=
 qF Tryz.func154
def KH:RC:=
 (.seq
 (.reg 0 none [0,1] [
 qi 4 0])
 (.seq
 (.seq
 (.reg 1 none [1,5] [
 qm 5 0])
 (.block 0
 (.seq
 (.reg 2 none [1,5,6] [
 qB 7 .eql 5 7,
 qm 6 7])
 (qq 6
 (.seq
 (.reg 3 none [4] [
 qm 8 1,
 .r 9 (.ixL 1 (.t 8) (qI 0)),
 ql 10 9,
 .r 11 (.un .neg (.t 10)),
 qm 4 11])
 .ret)
 (.seq
 (.reg 4 none [1,5,12] [
 qB 13 .eql 5 5,
 qm 12 13])
 (qq 12
 (.seq
 (.reg 5 (some [0,1,3,0,8,24,63,127]) [4] [
 qm 14 1,
 .r 15 (.ixL 1 (.t 14) (qI 0)),
 ql 16 15,
 qm 17 1,
 .r 18 (.ixL 1 (.t 17) (qI 1)),
 ql 19 18,
 .r 20 (.mn [.t 16,.t 19]),
 qm 4 20])
 .ret)
 (.seq
 (.reg 6 none [1,21] [
 qB 22 .eql 5 6,
 qm 21 22])
 (qq 21
 (.seq
 (.reg 7 (some [0,1,3,0,8,24,63,127]) [4] [
 qm 23 1,
 .r 24 (.ixL 1 (.t 23) (qI 0)),
 ql 25 24,
 qm 26 1,
 .r 27 (.ixL 1 (.t 26) (qI 1)),
 ql 28 27,
 .r 29 (.mx [.t 25,.t 28]),
 qm 4 29])
 .ret)
 .skip))))))))
 (.seq
 (.reg 8 none [4] [
 qi 4 1])
 .ret)))
def qU1:List (Nat×List Nat):=qy KH
theorem qU2:FnIR Tryz.prog Wx 30 qU1 KH [(.tmp 4)]:=
 qF Tryz.func155
def zc:RC:=
 (.seq
 (.reg 0 none [0,1,2,6] [
 qm 8 1,
 qa 9 8,
 qm 6 9])
 (.block 0
 (.loop
 (.seq
 (.seq
 (.reg 1 none [0,1,2,6,12] [
 qm 10 6,
 qm 11 2,
 qb 12 .lss 10 11])
 (qq 12
 .skip
 (.exit 0)))
 (.seq
 (.block 1
 (.seq
 (.reg 3 none [0,1,2,6,7] [
 qm 15 6,
 qm 7 15])
 (.block 2
 (.loop
 (.seq
 (.seq
 (.reg 4 (some [0,0,3,7,15,15,63,127,15,15,527,1807,3855,8191,16383]) [0,1,2,6,7,30] [
 qm 16 7,
 qm 17 1,
 qb 18 .gtr 16 17,
 qm 19 18,
 qmt 20 19 0,
 qmt 21 19 7,
 .rt 22 19 (.ixL 1 (.t 20) (.t 21)),
 qlt 23 19 22,
 qmt 24 19 0,
 qmt 25 19 7,
 .rt 26 19 (.bin .sub false (.t 25) (qI 1)),
 .rt 27 19 (.ixL 1 (.t 24) (.t 26)),
 qlt 28 19 27,
 .rt 29 19 (.call (.k (.clo yx [])) [.t 23,.t 28]),
 qp 30 19 29])
 (qq 30
 .skip
 (.exit 2)))
 (.seq
 (.block 3
 (.reg 6 (some [0,0,0,0,8,0,0,64,224,480,0,0,3072,7168,16355,32739,65535,131071]) [0,1,2,6,7] [
 qm 33 0,
 qm 34 7,
 qm 35 0,
 qm 36 7,
 qB 37 .sub 36 1,
 qm 38 0,
 qm 39 7,
 qB 40 .sub 39 1,
 qx 41 1 38 40,
 ql 42 41,
 qm 43 0,
 qm 44 7,
 qx 45 1 43 44,
 ql 46 45,
 qx 47 1 33 34,
 qs 1 47 42,
 qx 48 1 35 37,
 qs 1 48 46]))
 (.reg 5 none [0,1,2,6,7] [
 qm 31 7,
 qB 32 .sub 31 1,
 qm 7 32])))))))
 (.reg 2 none [0,1,2,6] [
 qm 13 6,
 qa 14 13,
 qm 6 14]))))))
def wj:List (Nat×List Nat):=qy zc
theorem wl:FnIR Tryz.prog zf 49 wj zc []:=
 qF Tryz.func156
def Zk:RC:=
 (.seq
 (.reg 0 none [0,1] [
 qc 4 false])
 (.seq
 (.reg 1 none [4] [
 qm 5 0,
 qC 6 wF [.t 5],
 qm 7 6,
 qmt 8 7 1,
 .rt 9 7 (.call (.k (.clo wF [])) [.t 8]),
 .rt 10 7 (.un .not (.t 9)),
 qp 11 7 10,
 qm 12 11,
 qmf 13 12 0,
 qmf 14 12 1,
 .rf 15 12 (.bin .lss false (.t 13) (.t 14)),
 qP 16 12 15,
 qm 4 16])
 .ret))
def qy1:List (Nat×List Nat):=qy Zk
theorem qy2:FnIR Tryz.prog yx 17 qy1 Zk [(.tmp 4)]:=
 qF Tryz.func162
def jH:RC:=
 (.seq
 (.reg 0 none [0,2] [
 qi 2 0])
 (.seq
 (.seq
 (.reg 1 none [0,2,4] [
 qm 3 0,
 .r 4 (.bin .geq false (.t 3) (.k (.v (.int .u64 4294967296))))])
 (qq 4
 (.seq
 (.reg 2 none [0] [
 qm 5 0,
 .r 6 (.bin .shr false (.t 5) (.k (.v (.int .u64 32)))),
 qm 0 6])
 (.reg 3 none [0,2] [
 qi 2 32]))
 .skip))
 (.seq
 (.seq
 (.reg 4 none [0,2,8] [
 qm 7 0,
 .r 8 (.bin .geq false (.t 7) (.k (.v (.int .u64 65536))))])
 (qq 8
 (.seq
 (.reg 5 none [0,2] [
 qm 9 0,
 .r 10 (.bin .shr false (.t 9) (.k (.v (.int .u64 16)))),
 qm 0 10])
 (.reg 6 none [0,2] [
 qm 11 2,
 qB 12 .add 11 16,
 qm 2 12]))
 .skip))
 (.seq
 (.seq
 (.reg 7 none [0,2,14] [
 qm 13 0,
 .r 14 (.bin .geq false (.t 13) (.k (.v (.int .u64 256))))])
 (qq 14
 (.seq
 (.reg 8 none [0,2] [
 qm 15 0,
 .r 16 (.bin .shr false (.t 15) (.k (.v (.int .u64 8)))),
 qm 0 16])
 (.reg 9 none [0,2] [
 qm 17 2,
 qB 18 .add 17 8,
 qm 2 18]))
 .skip))
 (.seq
 (.reg 10 none [2] [
 qm 19 2,
 qm 20 0,
 .r 21 (.cvI .u8 (.t 20)),
 .r 22 (.sx (.k (.v (.string ⟨#[0,1,2,2,3,3,3,3,4,4,4,4,4,4,4,4,5,5,5,5,5,5,5,5,5,5,5,5,5,5,5,5,6,6,6,6,6,6,6,6,6,6,6,6,6,6,6,6,6,6,6,6,6,6,6,6,6,6,6,6,6,6,6,6,7,7,7,7,7,7,7,7,7,7,7,7,7,7,7,7,7,7,7,7,7,7,7,7,7,7,7,7,7,7,7,7,7,7,7,7,7,7,7,7,7,7,7,7,7,7,7,7,7,7,7,7,7,7,7,7,7,7,7,7,7,7,7,7,8,8,8,8,8,8,8,8,8,8,8,8,8,8,8,8,8,8,8,8,8,8,8,8,8,8,8,8,8,8,8,8,8,8,8,8,8,8,8,8,8,8,8,8,8,8,8,8,8,8,8,8,8,8,8,8,8,8,8,8,8,8,8,8,8,8,8,8,8,8,8,8,8,8,8,8,8,8,8,8,8,8,8,8,8,8,8,8,8,8,8,8,8,8,8,8,8,8,8,8,8,8,8,8,8,8,8,8,8,8,8,8,8,8,8,8,8,8,8,8,8,8,8,8,8,8,8,8]⟩))) (.t 21)),
 .r 23 (.cvI .i64 (.t 22)),
 qb 24 .add 19 23,
 qm 2 24])
 .ret)))))
def qg8:List (Nat×List Nat):=qy jH
theorem ZC:FnIR Tryz.prog yi 25 qg8 jH [(.tmp 2)]:=
 qF Tryz.func166
def Ju:RC:=
 (.seq
 (.reg 0 none [1,2,3] [
 .r 3 (.box (.t 0)),
 qc 6 false])
 (.seq
 (.reg 1 none [1,2,3,7] [
 qL 8 2 3,
 qm 9 2,
 qC 10 wD [.t 8,.t 9],
 qm 7 10])
 (.seq
 (.reg 2 none [6] [
 qm 11 7,
 qB 12 .geq 11 0,
 qm 13 12,
 .rt 14 13 (.ld (some 2) (.t 3)),
 qmt 15 13 1,
 .rt 16 13 (.call (.k (.clo wD [])) [.t 14,.t 15]),
 qmt 17 13 7,
 .rt 18 13 (.bin .geq false (.t 16) (.t 17)),
 qp 19 13 18,
 qm 20 19,
 .rt 21 20 (.ld (some 2) (.t 3)),
 qmt 22 20 1,
 qmt 23 20 7,
 .rt 24 20 (.call (.k (.clo Yg [])) [.t 21,.t 22,.t 23]),
 qmt 25 20 2,
 .rt 26 20 (.bin .eql false (.t 24) (.t 25)),
 qp 27 20 26,
 qm 6 27])
 .ret)))
def qH6:List (Nat×List Nat):=qy Ju
theorem qH7:FnIR Tryz.prog Kk 28 qH6 Ju [(.tmp 6)]:=
 qF Tryz.func171
def yX:RC:=
 (.seq
 (.reg 0 none [0] [
 qc 2 false])
 (.seq
 (.reg 1 none [2] [
 qm 3 0,
 qm 4 0,
 qb 5 .neq 3 4,
 qm 2 5])
 .ret))
def qr0:List (Nat×List Nat):=qy yX
theorem qr1:FnIR Tryz.prog wF 6 qr0 yX [(.tmp 2)]:=
 qF Tryz.func177
theorem JK:jc8 Tryz.prog wW:=
 ⟨Tryz.f83,Tryz.func83,by kernel_rfl,by kernel_rfl,by kernel_rfl,by kernel_rfl,by kernel_rfl⟩
end Go.Proofs
