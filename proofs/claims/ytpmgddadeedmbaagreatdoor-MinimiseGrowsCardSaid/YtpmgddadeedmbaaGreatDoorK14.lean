/- A part of the proof: Ir. -/
import Derived.WalkKit
import Derived.Still
import Derived.MapKept
import GoSem.Builtin.Cap
import Derived.Laws.Externs
import GoSem.Extern.SlicesOverlaps
import Derived.Carry
import Derived.ProofKit
import Derived.OpenShut
import Derived.HandedShaped
import Derived.Lay
import Derived.LaidLaws
import Derived.MakeChecks
import Derived.SevenTiedAt
import Derived.Test.YtpmgddadeedmbaaGreatDoorChecked
import Derived.Test.YtpmgddadeedmbaaGreatDoorK13
namespace Go.Proofs
open Go.TL
abbrev qm (d a:Nat):ROp:=.r d (.mv (.t a))
abbrev ql (d a:Nat):ROp:=.r d (.ld none (.t a))
abbrev qL (d l a:Nat):ROp:=.r d (.ld (some l) (.t a))
abbrev qf (d k a:Nat):ROp:=.r d (.fa k (.t a))
abbrev qx (d k a b:Nat):ROp:=.r d (.ixL k (.t a) (.t b))
abbrev qn (d a:Nat):ROp:=.r d (.lenL (.t a))
abbrev qi (d:Nat) (n:Int):ROp:=.r d (.mv (.k (.v (.int .i64 n))))
abbrev qa (d a:Nat):ROp:=.r d (.bin .add false (.t a) (.k (.v (.int .i64 1))))
abbrev qb (d:Nat) (o:BinOp) (a b:Nat):ROp:=.r d (.bin o false (.t a) (.t b))
abbrev qB (d:Nat) (o:BinOp) (a:Nat) (n:Int):ROp:=.r d (.bin o false (.t a) (.k (.v (.int .i64 n))))
abbrev qmt (d g a:Nat):ROp:=.rt d g (.mv (.t a))
abbrev qmf (d g a:Nat):ROp:=.rf d g (.mv (.t a))
abbrev qlt (d g a:Nat):ROp:=.rt d g (.ld none (.t a))
abbrev qlf (d g a:Nat):ROp:=.rf d g (.ld none (.t a))
abbrev qft (d g k a:Nat):ROp:=.rt d g (.fa k (.t a))
abbrev qff (d g k a:Nat):ROp:=.rf d g (.fa k (.t a))
abbrev qc (d:Nat) (b:Bool):ROp:=.r d (.mv (.k (.v (.bool b))))
abbrev qp (d a b:Nat):ROp:=.r d (.pick (.t a) (.t b) (.k (.v (.bool false))))
abbrev qP (d a b:Nat):ROp:=.r d (.pick (.t a) (.k (.v (.bool true))) (.t b))
abbrev qs (l a b:Nat):ROp:=.rn (.st l (.t a) (.t b))
abbrev qC (d:Nat) (f:FuncId) (l:List RV):ROp:=.r d (.call (.k (.clo f [])) l)
abbrev qq (t:Nat) (a b:RC):RC:=.cond (.t t) a b
abbrev qI (n:Int):RV:=.k (.v (.int .i64 n))
abbrev qN:RV:=.k (.v (.slice none 0 0))
theorem qF {P:Program} {f:FuncId} {n:Nat} {kss:List (Nat×List Nat)} {rc:RC} {rs:List RR} {fn:Func} {c:Code} (h:P.funcs[f]?=some fn) (h1:fn.body=some c:=by rfl) (h2:goFn P f=true:=by kernel_rfl) (h3:fn.ntmps=n:=by rfl) (h4:rsvC P n kss c=some rc:=by kernel_rfl) (h5:qt0 P fn.results.toList=some rs:=by kernel_rfl):FnIR P f n kss rc rs:=⟨fn,c,h,h1,h2,h3,h4,h5⟩
abbrev QB:FuncId:=6
abbrev KB:FuncId:=13
abbrev qp1:FuncId:=14
abbrev wD:FuncId:=15
abbrev js:FuncId:=16
abbrev zK:FuncId:=18
abbrev kL:FuncId:=20
abbrev QK:FuncId:=21
abbrev jt:FuncId:=23
abbrev yc:FuncId:=26
abbrev zo:FuncId:=29
abbrev KC:FuncId:=30
abbrev Qu:FuncId:=48
abbrev qd3:FuncId:=53
abbrev za:FuncId:=55
abbrev qw:FuncId:=56
abbrev qV:FuncId:=59
abbrev kM:FuncId:=60
abbrev qQ:FuncId:=61
abbrev kX:FuncId:=62
abbrev ji:FuncId:=63
abbrev jI:FuncId:=64
abbrev yd:FuncId:=65
abbrev Jq:FuncId:=68
abbrev ye:FuncId:=71
abbrev zC:FuncId:=74
abbrev jo:FuncId:=75
abbrev ka:FuncId:=76
abbrev kN:FuncId:=77
abbrev ke:FuncId:=78
abbrev wu:FuncId:=79
abbrev yR:FuncId:=80
abbrev QL:FuncId:=85
abbrev zp:FuncId:=89
abbrev yf:FuncId:=90
abbrev yS:FuncId:=91
abbrev jJ:FuncId:=92
abbrev jG:FuncId:=93
abbrev yg:FuncId:=94
abbrev zI:FuncId:=96
abbrev ju:FuncId:=105
abbrev zH:FuncId:=109
abbrev jH:FuncId:=110
abbrev jb:FuncId:=113
abbrev Jr:FuncId:=115
abbrev yh:FuncId:=123
abbrev jK:FuncId:=124
abbrev zR:FuncId:=125
abbrev zq:FuncId:=126
abbrev jd:FuncId:=127
abbrev kO:FuncId:=128
abbrev Zj:FuncId:=131
abbrev Yb:FuncId:=132
abbrev zb:FuncId:=133
abbrev jp:FuncId:=134
abbrev zS:FuncId:=135
abbrev wE:FuncId:=137
abbrev Qv:FuncId:=138
abbrev wy:FuncId:=139
abbrev jv:FuncId:=140
abbrev kP:FuncId:=141
abbrev yT:FuncId:=142
abbrev jw:FuncId:=143
abbrev ZE:FuncId:=144
abbrev QM:FuncId:=145
abbrev Zk:FuncId:=148
abbrev yi:FuncId:=149
abbrev KD:FuncId:=150
abbrev Yc:FuncId:=151
abbrev jW:FuncId:=154
abbrev Js:FuncId:=155
abbrev Zl:FuncId:=156
abbrev Zm:FuncId:=157
abbrev Jn:FuncId:=158
abbrev kQ:FuncId:=159
abbrev wz:FuncId:=160
abbrev jq:FuncId:=161
abbrev KE:FuncId:=170
abbrev yU:FuncId:=171
abbrev yj:FuncId:=172
abbrev Qw:FuncId:=173
abbrev kR:FuncId:=176
abbrev zr:FuncId:=177
abbrev wA:FuncId:=178
abbrev kY:FuncId:=179
abbrev yk:FuncId:=182
abbrev zD:FuncId:=187
abbrev wF:FuncId:=188
abbrev wG:FuncId:=189
abbrev wH:FuncId:=190
abbrev zL:FuncId:=191
abbrev ky:FuncId:=194
abbrev yl:FuncId:=197
abbrev jx:FuncId:=198
abbrev kZ:FuncId:=199
abbrev yV:FuncId:=200
abbrev YU:FuncId:=201
abbrev jU:FuncId:=202
abbrev Yd:FuncId:=206
abbrev JY:FuncId:=207
abbrev Ye:FuncId:=208
abbrev KG:FuncId:=209
abbrev Jo:FuncId:=210
abbrev ZF:FuncId:=211
abbrev JZ:FuncId:=212
abbrev wg:FuncId:=213
abbrev zV:FuncId:=220
abbrev ym:FuncId:=221
abbrev ZG:FuncId:=222
abbrev jj:FuncId:=223
abbrev zM:FuncId:=234
abbrev zE:FuncId:=235
abbrev zT:FuncId:=236
abbrev kz:FuncId:=237
abbrev ZH:FuncId:=238
abbrev Ka:FuncId:=240
abbrev wv:FuncId:=241
abbrev jy:FuncId:=242
abbrev Zn:FuncId:=243
abbrev QN:FuncId:=245
abbrev KH:FuncId:=246
abbrev zc:FuncId:=247
abbrev je:FuncId:=248
abbrev jL:FuncId:=249
abbrev yW:FuncId:=250
abbrev wB:FuncId:=251
abbrev jz:FuncId:=252
abbrev KI:FuncId:=253
abbrev QO:FuncId:=256
abbrev yn:FuncId:=257
abbrev jM:FuncId:=259
abbrev jk:FuncId:=265
abbrev QP:FuncId:=266
def kf:RC:=
 (.seq
 (.reg 0 none [0] [
 qc 2 false])
 (.seq
 (.reg 1 none [3] [
 qm 15 0,
 qC 16 qp1 [.t 15],
 qm 3 16])
 (.seq
 (.reg 2 none [3,4] [
 qm 17 3,
 qC 18 wD [.t 17],
 .r 4 (.new (.agg [.v (.slice none 0 0),.v (.slice none 0 0)])),
 qs 2 4 18])
 (.seq
 (.reg 3 none [3,4,5] [
 qm 19 3,
 qL 20 2 4,
 qC 21 js [.t 19,.t 20],
 .r 5 (.new (.agg [.v (.string ⟨#[]⟩),.v (.string ⟨#[]⟩),.v (.int .i64 0),.v (.int .i64 0),.v (.int .i64 0),.v (.int .i64 0),.v (.int .i64 0),.v (.slice none 0 0),.v (.int .i64 0),.v (.int .i64 0),.v (.int .i64 0),.v (.slice none 0 0)])),
 qs 12 5 21])
 (.seq
 (.reg 4 none [3,4,5,6] [
 qL 22 12 5,
 .r 6 (.new (.agg [.v (.string ⟨#[]⟩),.v (.string ⟨#[]⟩),.v (.int .i64 0),.v (.int .i64 0),.v (.int .i64 0),.v (.int .i64 0),.v (.int .i64 0),.v (.slice none 0 0),.v (.int .i64 0),.v (.int .i64 0),.v (.int .i64 0),.v (.slice none 0 0)])),
 qs 12 6 22])
 (.seq
 (.reg 5 (some [0,1,3,0,0,31,63,127,255,511]) [4,5,6] [
 qf 23 11 5,
 ql 24 23,
 .r 25 (.app 17 208 false (qN) (.t 24)),
 qm 26 3,
 qL 27 2 4,
 .r 28 (.call (.k (.clo zo [])) [.t 26,.t 27,.k (.v (.string ⟨#[101,120,116,114,97]⟩))]),
 .r 29 (.bsl 17 1 [.t 28]),
 .r 30 (.app 17 208 false (.t 25) (.t 29)),
 qf 31 11 6,
 qs 1 31 30])
 (.seq
 (.reg 6 none [4,5,6,7] [
 qL 32 12 5,
 .r 7 (.new (.agg [.v (.string ⟨#[]⟩),.v (.string ⟨#[]⟩),.v (.int .i64 0),.v (.int .i64 0),.v (.int .i64 0),.v (.int .i64 0),.v (.int .i64 0),.v (.slice none 0 0),.v (.int .i64 0),.v (.int .i64 0),.v (.int .i64 0),.v (.slice none 0 0)])),
 qs 12 7 32])
 (.seq
 (.reg 7 none [4,5,6,7] [
 qf 33 11 7,
 .rn (.st 1 (.t 33) (qN))])
 (.seq
 (.seq
 (.reg 8 none [4,5,6,7,36,37] [
 qf 34 11 5,
 ql 35 34,
 qn 36 35,
 qi 37 0])
 (.block 0
 (.loop
 (.seq
 (.reg 9 none [4,5,6,7,36,37,38] [
 qb 38 .lss 37 36])
 (.seq
 (qq 38
 .skip
 (.exit 0))
 (.seq
 (.block 1
 (.seq
 (.reg 10 none [4,5,6,7,8,36,37] [
 qm 39 37,
 qm 8 39])
 (.reg 11 (some [0,1,0,7,15,31,0,64,255,511,1023]) [4,5,6,7,36,37] [
 qf 40 11 5,
 ql 41 40,
 qm 42 8,
 qx 43 17 41 42,
 qL 44 17 43,
 .r 45 (.bsl 17 1 [.t 44]),
 qf 46 11 7,
 ql 47 46,
 .r 48 (.app 17 208 false (.t 45) (.t 47)),
 qf 49 11 7,
 qs 1 49 48])))
 (.reg 12 none [4,5,6,7,36,37] [
 qa 50 37,
 qm 37 50])))))))
 (.seq
 (.reg 13 none [4,6,7,9,10] [
 qL 52 2 4,
 qL 53 12 5,
 qC 54 zK [.t 52,.t 53],
 qm 51 54,
 .r 55 (.ex (.t 51) 0),
 .r 56 (.ex (.t 51) 1),
 qm 9 55,
 qm 10 56])
 (.seq
 (.reg 14 none [4,6,7,9,10,11,12] [
 qL 58 2 4,
 qL 59 12 6,
 qC 60 zK [.t 58,.t 59],
 qm 57 60,
 .r 61 (.ex (.t 57) 0),
 .r 62 (.ex (.t 57) 1),
 qm 11 61,
 qm 12 62])
 (.seq
 (.reg 15 none [4,6,9,10,11,12,13,14] [
 qL 64 2 4,
 qL 65 12 7,
 qC 66 zK [.t 64,.t 65],
 qm 63 66,
 .r 67 (.ex (.t 63) 0),
 .r 68 (.ex (.t 63) 1),
 qm 13 67,
 qm 14 68])
 (.seq
 (.reg 16 none [2] [
 qm 69 10,
 qB 70 .eql 69 0,
 qm 71 70,
 qmt 72 71 12,
 .rt 73 71 (.bin .eql false (.t 72) (qI 0)),
 qp 74 71 73,
 qm 75 74,
 qmt 76 75 14,
 .rt 77 75 (.bin .eql false (.t 76) (qI 0)),
 qp 78 75 77,
 qm 79 78,
 qmt 80 79 9,
 qmt 81 79 11,
 .rt 82 79 (.call (.k (.clo jt [])) [.t 80,.t 81]),
 qp 83 79 82,
 qm 84 83,
 qmt 85 84 9,
 qmt 86 84 13,
 .rt 87 84 (.call (.k (.clo kL [])) [.t 85,.t 86]),
 qp 88 84 87,
 qm 89 88,
 .rt 90 89 (.ld (some 2) (.t 4)),
 .rt 91 89 (.ld (some 12) (.t 6)),
 .rt 92 89 (.call (.k (.clo KC [])) [.t 90,.t 91]),
 .rt 93 89 (.bin .eql false (.t 92) (qI 0)),
 qp 94 89 93,
 qm 95 94,
 .rt 96 95 (.call (.k (.clo KB [])) []),
 qp 97 95 96,
 qm 2 97])
 .ret)))))))))))))
def Ws:List (Nat×List Nat):=qy kf
theorem Wt:FnIR Tryz.prog QB 98 Ws kf [(.tmp 2)]:=
 qF Tryz.func6
def Jt:RC:=
 (.seq
 (.reg 0 none [] [
 qc 0 false])
 (.seq
 (.reg 1 none [1] [
 .r 10 (.build [.v (.string ⟨#[]⟩),.v (.int .i64 0)] [((0,1),.k (.v (.string ⟨#[97]⟩))),((1,1),.k (.v (.int .i64 (-1))))]),
 .r 11 (.build [.v (.string ⟨#[]⟩),.v (.int .i64 0)] [((0,1),.k (.v (.string ⟨#[98]⟩)))]),
 .r 12 (.build [.v (.string ⟨#[]⟩),.v (.int .i64 0)] [((0,1),.k (.v (.string ⟨#[99]⟩)))]),
 .r 13 (.bsl 2 3 [.t 10,.t 11,.t 12]),
 .r 14 (.build [.v (.string ⟨#[]⟩),.v (.slice none 0 0)] [((0,1),.k (.v (.string ⟨#[108]⟩))),((1,1),.t 13)]),
 .r 15 (.bsl 2 1 [.t 14]),
 .r 16 (.build [.v (.string ⟨#[]⟩),.v (.int .i64 0),.v (.int .i64 0),.v (.int .i64 0),.v (.int .i64 0),.v (.slice none 0 0),.v (.bool false)] [((0,1),.k (.v (.string ⟨#[119,104,111]⟩))),((1,1),qI 1)]),
 .r 17 (.build [.v (.string ⟨#[]⟩),.v (.int .i64 0),.v (.int .i64 0),.v (.int .i64 0),.v (.int .i64 0),.v (.slice none 0 0),.v (.bool false)] [((0,1),.k (.v (.string ⟨#[115,101,120]⟩))),((1,1),qI 2)]),
 .r 18 (.bsl 7 2 [.t 16,.t 17]),
 .r 19 (.build [.v (.slice none 0 0),.v (.slice none 0 0)] [((0,1),.t 15),((1,1),.t 18)]),
 .r 1 (.new (.agg [.v (.slice none 0 0),.v (.slice none 0 0)])),
 qs 2 1 19])
 (.seq
 (.reg 2 none [1,2] [
 .r 20 (.build [.v (.int .i64 0),.v (.int .i64 0),.v (.int .i64 0),.v (.int .i64 0),.v (.int .i64 0),.v (.slice none 0 0)] [((0,1),qI 1)]),
 .r 2 (.new (.agg [.v (.int .i64 0),.v (.int .i64 0),.v (.int .i64 0),.v (.int .i64 0),.v (.int .i64 0),.v (.slice none 0 0)])),
 qs 6 2 20])
 (.seq
 (.reg 3 none [1,3] [
 qL 21 6 2,
 .r 22 (.build [.v (.int .i64 0),.v (.int .i64 0),.v (.int .i64 0)] [((0,1),qI 1),((1,1),qI 1)]),
 qL 23 6 2,
 .r 24 (.build [.v (.int .i64 0),.v (.int .i64 0)] [((0,1),qI 1),((1,1),qI 1)]),
 .r 25 (.bsl 2 1 [.t 24]),
 .r 26 (.build [.v (.string ⟨#[]⟩),.v (.int .i64 0),.v (.int .i64 0),.v (.int .i64 0),.v (.int .i64 0),.v (.int .i64 0),.v (.int .i64 0),.v (.slice none 0 0),.v (.slice none 0 0),.v (.int .i64 0),.v (.slice none 0 0),.v (.int .i64 0),.v (.int .i64 0),.v (.int .i64 0),.v (.int .i64 0),.v (.int .i64 0),.v (.slice none 0 0)] [((0,1),.k (.v (.string ⟨#[113]⟩))),((1,1),qI 1),((2,6),.t 23),((8,1),.t 25),((9,1),.k (.v (.int .i64 (-1))))]),
 .r 27 (.bsl 17 1 [.t 26]),
 .r 28 (.build [.v (.string ⟨#[]⟩),.v (.string ⟨#[]⟩),.v (.int .i64 0),.v (.int .i64 0),.v (.int .i64 0),.v (.int .i64 0),.v (.int .i64 0),.v (.slice none 0 0),.v (.int .i64 0),.v (.int .i64 0),.v (.int .i64 0),.v (.slice none 0 0)] [((0,1),.k (.v (.string ⟨#[112]⟩))),((1,1),.k (.v (.string ⟨#[115]⟩))),((2,6),.t 21),((8,3),.t 22),((11,1),.t 27)]),
 .r 3 (.new (.agg [.v (.string ⟨#[]⟩),.v (.string ⟨#[]⟩),.v (.int .i64 0),.v (.int .i64 0),.v (.int .i64 0),.v (.int .i64 0),.v (.int .i64 0),.v (.slice none 0 0),.v (.int .i64 0),.v (.int .i64 0),.v (.int .i64 0),.v (.slice none 0 0)])),
 qs 12 3 28])
 (.seq
 (.reg 4 none [1,3,4,5] [
 qL 30 2 1,
 qL 31 12 3,
 qC 32 zK [.t 30,.t 31],
 qm 29 32,
 .r 33 (.ex (.t 29) 0),
 .r 34 (.ex (.t 29) 1),
 qm 4 33,
 qm 5 34])
 (.seq
 (.reg 5 none [1,3,4,5,6,7,8,9] [
 qL 36 2 1,
 qL 37 12 3,
 qC 38 yc [.t 36,.t 37,qI 1],
 qm 35 38,
 .r 39 (.ex (.t 35) 0),
 .r 40 (.ex (.t 35) 1),
 .r 41 (.ex (.t 35) 2),
 .r 42 (.ex (.t 35) 3),
 qm 6 39,
 qm 7 40,
 qm 8 41,
 qm 9 42])
 (.seq
 (.reg 6 none [0] [
 qm 43 5,
 qB 44 .eql 43 0,
 qm 45 44,
 qmt 46 45 4,
 .rt 47 45 (.build [.v (.int .i64 0),.v (.int .i64 0)] [((0,1),qI 1),((1,1),qI 1)]),
 .rt 48 45 (.bsl 2 1 [.t 47]),
 .rt 49 45 (.call (.k (.clo kL [])) [.t 46,.t 48]),
 qp 50 45 49,
 qm 51 50,
 qmt 52 51 9,
 qp 53 51 52,
 qm 54 53,
 qmt 55 54 6,
 .rt 56 54 (.bin .eql false (.t 55) (qI 1)),
 qp 57 54 56,
 qm 58 57,
 qmt 59 58 7,
 .rt 60 58 (.bin .eql false (.t 59) (qI 2)),
 qp 61 58 60,
 qm 62 61,
 qmt 63 62 8,
 .rt 64 62 (.bin .eql false (.t 63) (qI 0)),
 qp 65 62 64,
 qm 66 65,
 .rt 67 66 (.ld (some 2) (.t 1)),
 .rt 68 66 (.ld (some 12) (.t 3)),
 .rt 69 66 (.call (.k (.clo QK [])) [.t 67,.t 68,qN]),
 .rt 70 66 (.bin .eql false (.t 69) (qI 23)),
 qp 71 66 70,
 qm 72 71,
 qmt 73 72 4,
 qmt 74 72 4,
 .rt 75 72 (.call (.k (.clo jt [])) [.t 73,.t 74]),
 qp 76 72 75,
 qm 0 76])
 .ret)))))))
def qH9:List (Nat×List Nat):=qy Jt
theorem qI0:FnIR Tryz.prog KB 77 qH9 Jt [(.tmp 0)]:=
 qF Tryz.func13
def qd4:RC:=
 (.seq
 (.reg 0 none [0] [
 .r 2 (.mv (.k (.v (.pointer none))))])
 (.seq
 (.reg 1 none [2] [
 qm 3 0,
 qm 4 0,
 qn 5 4,
 .r 6 (.mn [.t 5,qI 400]),
 .r 7 (.slL 1 (.t 3) none (some (.t 6))),
 .r 8 (.build [.v (.slice none 0 0),.v (.int .i64 0)] [((0,1),.t 7)]),
 .r 9 (.box (.t 8)),
 qm 2 9])
 .ret))
def zl3:List (Nat×List Nat):=qy qd4
theorem zl4:FnIR Tryz.prog qp1 10 zl3 qd4 [(.tmp 2)]:=
 qF Tryz.func14
def wh:RC:=
 (.seq
 (.reg 0 none [0,2] [
 .r 2 (.new (.agg [.v (.slice none 0 0),.v (.slice none 0 0)]))])
 (.seq
 (.reg 1 none [0,2,3] [
 qm 5 0,
 .r 6 (.call (.k (.clo kM [])) [.t 5,.k (.v (.string ⟨#[111,110,101]⟩))]),
 qm 7 0,
 .r 8 (.call (.k (.clo kM [])) [.t 7,.k (.v (.string ⟨#[116,119,111]⟩))]),
 .r 9 (.bsl 2 2 [.t 6,.t 8]),
 .r 10 (.build [.v (.string ⟨#[]⟩),.v (.int .i64 0),.v (.int .i64 0),.v (.int .i64 0),.v (.int .i64 0),.v (.slice none 0 0),.v (.bool false)] [((0,1),.k (.v (.string ⟨#[119,104,111]⟩))),((1,1),qI 1)]),
 .r 11 (.build [.v (.string ⟨#[]⟩),.v (.int .i64 0),.v (.int .i64 0),.v (.int .i64 0),.v (.int .i64 0),.v (.slice none 0 0),.v (.bool false)] [((0,1),.k (.v (.string ⟨#[115,101,120]⟩))),((1,1),qI 2)]),
 .r 12 (.bsl 7 2 [.t 10,.t 11]),
 .r 13 (.build [.v (.slice none 0 0),.v (.slice none 0 0)] [((0,1),.t 9),((1,1),.t 12)]),
 .r 3 (.new (.agg [.v (.slice none 0 0),.v (.slice none 0 0)])),
 qs 2 3 13])
 (.seq
 (.seq
 (.reg 2 none [0,2,3,15] [
 qm 14 0,
 qC 15 za [.t 14,qI 2]])
 (qq 15
 (.reg 3 none [0,2,3] [
 qf 16 1 3,
 ql 17 16,
 .r 18 (.build [.v (.string ⟨#[]⟩),.v (.int .i64 0),.v (.int .i64 0),.v (.int .i64 0),.v (.int .i64 0),.v (.slice none 0 0),.v (.bool false)] [((0,1),.k (.v (.string ⟨#[106,111,98]⟩))),((1,1),qI 2),((2,1),qI 1)]),
 .r 19 (.bsl 7 1 [.t 18]),
 .r 20 (.app 7 80 false (.t 17) (.t 19)),
 qf 21 1 3,
 qs 1 21 20])
 .skip))
 (.seq
 (.seq
 (.reg 4 none [0,2,3,4] [
 qm 22 0,
 qC 23 qQ [.t 22,qI 1,qI 3],
 qm 4 23])
 (.block 0
 (.loop
 (.seq
 (.seq
 (.reg 5 none [0,2,3,4,25] [
 qm 24 4,
 qB 25 .gtr 24 0])
 (qq 25
 .skip
 (.exit 0)))
 (.seq
 (.block 1
 (.reg 7 (some [0,1,0,0,8,24,56,120,252,508,1023,2047,4095]) [0,2,3,4] [
 qf 28 1 3,
 ql 29 28,
 qm 30 0,
 qf 31 1 3,
 ql 32 31,
 qn 33 32,
 qC 34 ji [.t 33],
 .r 35 (.bin .add false (.k (.v (.string ⟨#[109]⟩))) (.t 34)),
 qC 36 kX [.t 30,.t 35],
 .r 37 (.bsl 7 1 [.t 36]),
 .r 38 (.app 7 80 false (.t 29) (.t 37)),
 qf 39 1 3,
 qs 1 39 38]))
 (.reg 6 none [0,2,3,4] [
 qm 26 4,
 qB 27 .sub 26 1,
 qm 4 27]))))))
 (.seq
 (.reg 8 none [2] [
 qL 40 2 3,
 qs 2 2 40])
 .ret)))))
def YV:List (Nat×List Nat):=qy wh
theorem YW:FnIR Tryz.prog wD 41 YV wh [(.cell 2 (some 2))]:=
 qF Tryz.func15
def jl:RC:=
 (.seq
 (.reg 0 none [0,3,4] [
 .r 3 (.box (.t 1)),
 .r 4 (.new (.agg [.v (.string ⟨#[]⟩),.v (.string ⟨#[]⟩),.v (.int .i64 0),.v (.int .i64 0),.v (.int .i64 0),.v (.int .i64 0),.v (.int .i64 0),.v (.slice none 0 0),.v (.int .i64 0),.v (.int .i64 0),.v (.int .i64 0),.v (.slice none 0 0)]))])
 (.seq
 (.reg 1 (some [0,1,3,7,0,0,55,0,247,503,1023,0,4095]) [0,3,4,5] [
 qm 7 0,
 qC 8 qw [.t 7,qI 3],
 qC 9 ji [.t 8],
 .r 10 (.bin .add false (.k (.v (.string ⟨#[112]⟩))) (.t 9)),
 qm 11 0,
 qL 12 2 3,
 qC 13 qV [.t 11,.t 12,qI 1],
 qm 14 0,
 qC 15 qw [.t 14,qI 999],
 .r 16 (.build [.v (.int .i64 0),.v (.int .i64 0),.v (.int .i64 0)] [((0,1),qI 1),((1,1),qI 1),((2,1),.t 15)]),
 .r 17 (.build [.v (.string ⟨#[]⟩),.v (.string ⟨#[]⟩),.v (.int .i64 0),.v (.int .i64 0),.v (.int .i64 0),.v (.int .i64 0),.v (.int .i64 0),.v (.slice none 0 0),.v (.int .i64 0),.v (.int .i64 0),.v (.int .i64 0),.v (.slice none 0 0)] [((0,1),.t 10),((1,1),.k (.v (.string ⟨#[115,114,99]⟩))),((2,6),.t 13),((8,3),.t 16)]),
 .r 5 (.new (.agg [.v (.string ⟨#[]⟩),.v (.string ⟨#[]⟩),.v (.int .i64 0),.v (.int .i64 0),.v (.int .i64 0),.v (.int .i64 0),.v (.int .i64 0),.v (.slice none 0 0),.v (.int .i64 0),.v (.int .i64 0),.v (.int .i64 0),.v (.slice none 0 0)])),
 qs 12 5 17])
 (.seq
 (.seq
 (.reg 2 none [0,3,4,5,19] [
 qm 18 0,
 qC 19 za [.t 18,qI 3]])
 (qq 19
 (.reg 3 none [0,3,4,5] [
 .r 20 (.build [.v (.int .i64 0),.v (.int .i64 0),.v (.int .i64 0),.v (.int .i64 0),.v (.int .i64 0),.v (.slice none 0 0)] [((0,1),qI 1)]),
 qf 21 2 5,
 qs 6 21 20])
 .skip))
 (.seq
 (.seq
 (.reg 4 none [0,3,4,5,23] [
 qm 22 0,
 qC 23 za [.t 22,qI 3]])
 (qq 23
 (.seq
 (.reg 5 none [0,3,4,5] [
 qm 24 0,
 qC 25 qQ [.t 24,qI 2,qI 5],
 qf 26 8 5,
 qf 27 1 26,
 qs 1 27 25])
 (.reg 6 none [0,3,4,5] [
 qm 28 0,
 qf 29 8 5,
 qf 30 1 29,
 ql 31 30,
 qC 32 qQ [.t 28,qI 1,.t 31],
 qf 33 8 5,
 qf 34 0 33,
 qs 1 34 32]))
 .skip))
 (.seq
 (.seq
 (.reg 7 none [0,3,4,5,6] [
 qm 35 0,
 qC 36 qQ [.t 35,qI 1,qI 3],
 qm 6 36])
 (.block 0
 (.loop
 (.seq
 (.seq
 (.reg 8 none [0,3,4,5,6,38] [
 qm 37 6,
 qB 38 .gtr 37 0])
 (qq 38
 .skip
 (.exit 0)))
 (.seq
 (.block 1
 (.reg 10 (some [0,1,0,0,0,16,48,124,252,511,1023,2047]) [0,3,4,5,6] [
 qf 41 11 5,
 ql 42 41,
 qm 43 0,
 qL 44 2 3,
 qm 45 6,
 qC 46 ji [.t 45],
 .r 47 (.bin .add false (.k (.v (.string ⟨#[113]⟩))) (.t 46)),
 qC 48 zo [.t 43,.t 44,.t 47],
 .r 49 (.bsl 17 1 [.t 48]),
 .r 50 (.app 17 208 false (.t 42) (.t 49)),
 qf 51 11 5,
 qs 1 51 50]))
 (.reg 9 none [0,3,4,5,6] [
 qm 39 6,
 qB 40 .sub 39 1,
 qm 6 40]))))))
 (.seq
 (.reg 11 none [4] [
 qL 52 12 5,
 qs 12 4 52])
 .ret))))))
def Ju:List (Nat×List Nat):=qy jl
theorem Jv:FnIR Tryz.prog js 53 Ju jl [(.cell 4 (some 12))]:=
 qF Tryz.func16
def QQ:RC:=
 (.seq
 (.reg 0 none [2,3] [
 .r 2 (.box (.t 0)),
 .r 3 (.box (.t 1)),
 .r 4 (.mv (qN)),
 qi 5 0])
 (.seq
 (.seq
 (.reg 1 none [2,3,6] [
 qL 7 2 2,
 qL 8 12 3,
 qC 9 jI [.t 7,.t 8],
 qm 6 9])
 (.seq
 (.reg 2 none [2,3,6,11] [
 qm 10 6,
 qB 11 .neq 10 0])
 (qq 11
 (.seq
 (.reg 3 none [4,5] [
 qm 12 6,
 .r 4 (.mv (qN)),
 qm 5 12])
 .ret)
 .skip)))
 (.seq
 (.reg 4 none [4,5] [
 qL 13 2 2,
 qL 14 12 3,
 qC 15 yd [.t 13,.t 14],
 qm 4 15,
 qi 5 0])
 .ret)))
def qu9:List (Nat×List Nat):=qy QQ
theorem qv0:FnIR Tryz.prog zK 16 qu9 QQ [(.tmp 4),(.tmp 5)]:=
 qF Tryz.func18
def yo:RC:=
 (.seq
 (.reg 0 none [0,1] [
 qc 4 false])
 (.seq
 (.seq
 (.reg 1 none [0,1,10] [
 qm 6 0,
 qn 7 6,
 qm 8 1,
 qn 9 8,
 qb 10 .neq 7 9])
 (qq 10
 (.seq
 (.reg 2 none [4] [
 qc 4 false])
 .ret)
 .skip))
 (.seq
 (.seq
 (.reg 3 none [0,1,5] [
 qi 5 0])
 (.block 0
 (.loop
 (.seq
 (.seq
 (.reg 4 none [0,1,5,14] [
 qm 11 5,
 qm 12 0,
 qn 13 12,
 qb 14 .lss 11 13])
 (qq 14
 .skip
 (.exit 0)))
 (.seq
 (.block 1
 (.seq
 (.reg 6 (some [0,0,3,7,0,0,48,112,255]) [0,1,5,25] [
 qm 17 0,
 qm 18 5,
 qx 19 2 17 18,
 qL 20 2 19,
 qm 21 1,
 qm 22 5,
 qx 23 2 21 22,
 qL 24 2 23,
 .r 25 (.ext (.eqS true [.i .i64,.i .i64]) [.t 20,.t 24])])
 (qq 25
 (.seq
 (.reg 7 none [4] [
 qc 4 false])
 .ret)
 .skip)))
 (.reg 5 none [0,1,5] [
 qm 15 5,
 qa 16 15,
 qm 5 16]))))))
 (.seq
 (.reg 8 none [4] [
 qc 4 true])
 .ret))))
def qi5:List (Nat×List Nat):=qy yo
theorem qi6:FnIR Tryz.prog kL 26 qi5 yo [(.tmp 4)]:=
 qF Tryz.func20
def yX:RC:=
 (.seq
 (.reg 0 none [2,3,4] [
 .r 3 (.box (.t 0)),
 .r 4 (.box (.t 1)),
 qi 6 0])
 (.seq
 (.seq
 (.reg 1 none [2,3,4,7] [
 qL 9 2 3,
 qL 10 12 4,
 qC 11 jI [.t 9,.t 10],
 qm 7 11])
 (.seq
 (.reg 2 none [2,3,4,7,13] [
 qm 12 7,
 qB 13 .neq 12 0])
 (qq 13
 (.seq
 (.reg 3 none [6] [
 qm 14 7,
 qm 6 14])
 .ret)
 .skip)))
 (.seq
 (.seq
 (.reg 4 none [2,3,4,8] [
 qL 15 2 3,
 qm 16 2,
 qC 17 Jq [.t 15,.t 16],
 qm 8 17])
 (.seq
 (.reg 5 none [2,3,4,8,19] [
 qm 18 8,
 qB 19 .neq 18 0])
 (qq 19
 (.seq
 (.reg 6 none [6] [
 qm 20 8,
 qm 6 20])
 .ret)
 .skip)))
 (.seq
 (.seq
 (.reg 7 none [26] [
 qL 21 2 3,
 qL 22 12 4,
 qC 23 yd [.t 21,.t 22],
 qm 24 2,
 qC 25 jt [.t 23,.t 24],
 .r 26 (.un .not (.t 25))])
 (qq 26
 (.seq
 (.reg 8 none [6] [
 qi 6 23])
 .ret)
 .skip))
 (.seq
 (.reg 9 none [6] [
 qi 6 0])
 .ret)))))
def qp2:List (Nat×List Nat):=qy yX
theorem qp3:FnIR Tryz.prog QK 27 qp2 yX [(.tmp 6)]:=
 qF Tryz.func21
def yp:RC:=
 (.seq
 (.reg 0 none [0,1] [
 qc 4 false])
 (.seq
 (.reg 1 none [4] [
 qm 5 1,
 qm 6 0,
 qC 7 ye [.t 5,.t 6],
 qm 4 7])
 .ret))
def qi7:List (Nat×List Nat):=qy yp
theorem qi8:FnIR Tryz.prog jt 8 qi7 yp [(.tmp 4)]:=
 qF Tryz.func23
def wI:RC:=
 (.seq
 (.reg 0 none [3,4,5] [
 .r 3 (.box (.t 0)),
 .r 4 (.box (.t 1)),
 .r 5 (.box (.t 2)),
 qi 6 0,
 qi 7 0,
 qi 8 0,
 qc 9 false])
 (.seq
 (.reg 1 none [3,4,5,10,11] [
 qL 20 2 3,
 qL 21 12 4,
 qC 22 zK [.t 20,.t 21],
 qm 19 22,
 .r 23 (.ex (.t 19) 0),
 .r 24 (.ex (.t 19) 1),
 qm 10 23,
 qm 11 24])
 (.seq
 (.reg 2 none [3,4,5,10,11,12] [
 qm 25 10,
 .r 26 (.mf jo [.t 5]),
 qC 27 zC [.t 25,.t 26],
 qm 12 27])
 (.seq
 (.seq
 (.reg 3 none [3,4,5,10,12,33] [
 qm 28 11,
 qB 29 .neq 28 0,
 qm 30 29,
 qmf 31 30 12,
 .rf 32 30 (.bin .lss false (.t 31) (qI 0)),
 qP 33 30 32])
 (qq 33
 (.seq
 (.reg 4 none [6,7,8,9] [
 qi 6 0,
 qi 7 0,
 qi 8 0,
 qc 9 false])
 .ret)
 .skip))
 (.seq
 (.seq
 (.reg 5 none [3,5,10,12,35,36,37] [
 qf 34 11 4,
 ql 35 34,
 qn 36 35,
 qi 37 0])
 (.block 0
 (.loop
 (.seq
 (.reg 6 none [3,5,10,12,35,36,37,38] [
 qb 38 .lss 37 36])
 (.seq
 (qq 38
 .skip
 (.exit 0))
 (.seq
 (.block 1
 (.seq
 (.reg 7 none [3,5,10,12,13,14,35,36,37] [
 qm 39 37,
 qx 40 17 35 37,
 qL 41 17 40,
 .r 14 (.new (.agg [.v (.string ⟨#[]⟩),.v (.int .i64 0),.v (.int .i64 0),.v (.int .i64 0),.v (.int .i64 0),.v (.int .i64 0),.v (.int .i64 0),.v (.slice none 0 0),.v (.slice none 0 0),.v (.int .i64 0),.v (.slice none 0 0),.v (.int .i64 0),.v (.int .i64 0),.v (.int .i64 0),.v (.int .i64 0),.v (.int .i64 0),.v (.slice none 0 0)])),
 qm 13 39,
 qs 17 14 41])
 (.seq
 (.seq
 (.reg 8 (some [0,0,3,0,0,24,56,127,255]) [3,5,10,12,13,14,35,36,37,50] [
 qL 42 2 3,
 qL 43 17 14,
 qC 44 kN [.t 42,.t 43],
 qm 45 10,
 qm 46 12,
 qx 47 2 45 46,
 qL 48 2 47,
 qC 49 ka [.t 44,.t 48],
 .r 50 (.un .not (.t 49))])
 (qq 50
 (.exit 1)
 .skip))
 (.seq
 (.seq
 (.reg 9 none [3,5,10,12,13,14,57] [
 qf 51 1 3,
 ql 52 51,
 ql 53 5,
 qx 54 7 52 53,
 qf 55 1 54,
 ql 56 55,
 qB 57 .eql 56 2])
 (qq 57
 (.seq
 (.reg 10 (some [0,0,0,0,0,24,56,120,248,511,1023,2047,2047,4095,16383]) [13,15,16] [
 qL 59 2 3,
 qL 60 17 14,
 ql 61 5,
 qm 62 10,
 qm 63 12,
 qx 64 2 62 63,
 qf 65 1 64,
 ql 66 65,
 qB 67 .sub 66 1,
 qC 68 ke [.t 59,.t 60,.t 61,.t 67],
 qm 58 68,
 .r 69 (.ex (.t 58) 0),
 .r 70 (.ex (.t 58) 1),
 qm 15 69,
 qm 16 70])
 (.seq
 (.reg 11 none [6,7,8,9] [
 qm 71 15,
 qm 72 16,
 qm 73 13,
 qm 6 71,
 qm 7 72,
 qm 8 73,
 qc 9 true])
 .ret))
 .skip))
 (.seq
 (.reg 12 (some [0,0,0,0,0,24,56,120,248,511,1023,2047,2047,4095,16383]) [13,17,18] [
 qL 75 2 3,
 qL 76 17 14,
 ql 77 5,
 qm 78 10,
 qm 79 12,
 qx 80 2 78 79,
 qf 81 1 80,
 ql 82 81,
 qB 83 .sub 82 1,
 qC 84 wu [.t 75,.t 76,.t 77,.t 83],
 qm 74 84,
 .r 85 (.ex (.t 74) 0),
 .r 86 (.ex (.t 74) 1),
 qm 17 85,
 qm 18 86])
 (.seq
 (.reg 13 none [6,7,8,9] [
 qm 87 17,
 qm 88 18,
 qm 89 13,
 qm 6 87,
 qm 7 88,
 qm 8 89,
 qc 9 true])
 .ret))))))
 (.reg 14 none [3,5,10,12,35,36,37] [
 qa 90 37,
 qm 37 90])))))))
 (.seq
 (.reg 15 none [6,7,8,9] [
 qi 6 0,
 qi 7 0,
 qi 8 0,
 qc 9 false])
 .ret))))))
def qd5:List (Nat×List Nat):=qy wI
theorem qd6:FnIR Tryz.prog yc 91 qd5 wI [(.tmp 6),(.tmp 7),(.tmp 8),(.tmp 9)]:=
 qF Tryz.func26
def kg:RC:=
 (.seq
 (.reg 0 none [0,2,4,6] [
 .r 4 (.box (.t 1)),
 .r 6 (.new (.agg [.v (.string ⟨#[]⟩),.v (.int .i64 0),.v (.int .i64 0),.v (.int .i64 0),.v (.int .i64 0),.v (.int .i64 0),.v (.int .i64 0),.v (.slice none 0 0),.v (.slice none 0 0),.v (.int .i64 0),.v (.slice none 0 0),.v (.int .i64 0),.v (.int .i64 0),.v (.int .i64 0),.v (.int .i64 0),.v (.int .i64 0),.v (.slice none 0 0)]))])
 (.seq
 (.reg 1 (some [0,0,0,0,8,30,63,0,255]) [0,4,6,7] [
 qm 10 2,
 qm 11 0,
 qL 12 2 4,
 qm 13 0,
 qC 14 qw [.t 13,qI 3],
 qC 15 qV [.t 11,.t 12,.t 14],
 .r 16 (.build [.v (.string ⟨#[]⟩),.v (.int .i64 0),.v (.int .i64 0),.v (.int .i64 0),.v (.int .i64 0),.v (.int .i64 0),.v (.int .i64 0),.v (.slice none 0 0),.v (.slice none 0 0),.v (.int .i64 0),.v (.slice none 0 0),.v (.int .i64 0),.v (.int .i64 0),.v (.int .i64 0),.v (.int .i64 0),.v (.int .i64 0),.v (.slice none 0 0)] [((0,1),.t 10),((1,1),qI 1),((2,6),.t 15),((9,1),.k (.v (.int .i64 (-1))))]),
 .r 7 (.new (.agg [.v (.string ⟨#[]⟩),.v (.int .i64 0),.v (.int .i64 0),.v (.int .i64 0),.v (.int .i64 0),.v (.int .i64 0),.v (.int .i64 0),.v (.slice none 0 0),.v (.slice none 0 0),.v (.int .i64 0),.v (.slice none 0 0),.v (.int .i64 0),.v (.int .i64 0),.v (.int .i64 0),.v (.int .i64 0),.v (.int .i64 0),.v (.slice none 0 0)])),
 qs 17 7 16])
 (.seq
 (.reg 2 none [0,4,6,7,8] [
 qm 17 0,
 qL 18 2 4,
 qC 19 zp [.t 17,.t 18],
 qm 8 19])
 (.seq
 (.seq
 (.reg 3 none [0,4,6,7,8,21] [
 qm 20 0,
 qC 21 qw [.t 20,qI 4]])
 (.block 0
 (.seq
 (.reg 4 none [0,4,6,7,8,21,22] [
 qB 23 .eql 21 1,
 qm 22 23])
 (qq 22
 (.reg 5 none [0,4,6,7] [
 qm 24 8,
 qf 25 9 7,
 qs 1 25 24])
 (.seq
 (.reg 6 none [0,4,6,7,8,21,26] [
 qB 27 .eql 21 2,
 qm 26 27])
 (qq 26
 (.seq
 (.reg 7 none [0,4,6,7,8,9] [
 qm 28 0,
 qL 29 2 4,
 qm 30 8,
 qC 31 yf [.t 28,.t 29,.t 30],
 qm 9 31])
 (.seq
 (.reg 8 none [0,4,6,7,8,9,34] [
 qm 32 9,
 qn 33 32,
 qB 34 .gtr 33 0])
 (qq 34
 (.seq
 (.reg 9 none [6,7] [
 qm 35 8,
 qm 36 9,
 qf 37 1 7,
 .rn (.st 1 (.t 37) (qI 2)),
 qf 38 9 7,
 qs 1 38 35,
 qf 39 10 7,
 qs 1 39 36])
 (.seq
 (.reg 10 none [6] [
 qL 40 17 7,
 qs 17 6 40])
 .ret))
 .skip)))
 (.seq
 (.reg 11 none [0,4,6,7,8,41] [
 qB 42 .eql 21 3,
 qm 41 42])
 (qq 41
 (.seq
 (.reg 12 none [0,4,6,7,8,49] [
 qf 43 1 4,
 ql 44 43,
 qm 45 8,
 qx 46 7 44 45,
 qf 47 3 46,
 ql 48 47,
 qB 49 .geq 48 0])
 (qq 49
 (.seq
 (.reg 13 none [6,7] [
 qm 50 8,
 qm 51 0,
 qL 52 2 4,
 qC 53 qV [.t 51,.t 52,qI 1],
 qf 54 1 7,
 .rn (.st 1 (.t 54) (qI 3)),
 qf 55 9 7,
 qs 1 55 50,
 qf 56 11 7,
 qs 6 56 53])
 (.seq
 (.reg 14 none [6] [
 qL 57 17 7,
 qs 17 6 57])
 .ret))
 .skip))
 .skip))))))))
 (.seq
 (.reg 15 none [6,7] [
 qm 58 0,
 qL 59 2 4,
 qC 60 yS [.t 58,.t 59],
 qf 61 8 7,
 qs 1 61 60])
 (.seq
 (.reg 16 none [6] [
 qL 62 17 7,
 qs 17 6 62])
 .ret))))))
def Wu:List (Nat×List Nat):=qy kg
theorem Wv:FnIR Tryz.prog zo 63 Wu kg [(.cell 6 (some 17))]:=
 qF Tryz.func29
def Jw:RC:=
 (.seq
 (.reg 0 none [2,3] [
 .r 2 (.box (.t 0)),
 .r 3 (.box (.t 1)),
 qi 4 0])
 (.seq
 (.seq
 (.reg 1 none [2,3,5] [
 qL 11 2 2,
 qC 12 jJ [.t 11],
 qm 5 12])
 (.seq
 (.reg 2 none [2,3,5,14] [
 qm 13 5,
 qB 14 .neq 13 0])
 (qq 14
 (.seq
 (.reg 3 none [4] [
 qm 15 5,
 qm 4 15])
 .ret)
 .skip)))
 (.seq
 (.seq
 (.reg 4 none [2,3,25] [
 qf 16 0 3,
 ql 17 16,
 qC 18 jG [.t 17],
 .r 19 (.un .not (.t 18)),
 qm 20 19,
 qff 21 20 1 3,
 qlf 22 20 21,
 .rf 23 20 (.call (.k (.clo jG [])) [.t 22]),
 .rf 24 20 (.un .not (.t 23)),
 qP 25 20 24])
 (qq 25
 (.seq
 (.reg 5 none [4] [
 qi 4 3])
 .ret)
 .skip))
 (.seq
 (.seq
 (.reg 6 none [2,3,6] [
 qL 26 2 2,
 qf 27 2 3,
 qL 28 6 27,
 qC 29 yg [.t 26,.t 28],
 qm 6 29])
 (.seq
 (.reg 7 none [2,3,6,31] [
 qm 30 6,
 qB 31 .neq 30 0])
 (qq 31
 (.seq
 (.reg 8 none [4] [
 qm 32 6,
 qm 4 32])
 .ret)
 .skip)))
 (.seq
 (.reg 9 none [2,3,7] [
 qf 33 8 3,
 qL 34 3 33,
 .r 7 (.new (.agg [.v (.int .i64 0),.v (.int .i64 0),.v (.int .i64 0)])),
 qs 3 7 34])
 (.seq
 (.seq
 (.reg 10 none [2,3,64] [
 qf 35 1 7,
 ql 36 35,
 qB 37 .lss 36 1,
 qm 38 37,
 qff 39 38 1 7,
 qlf 40 38 39,
 .rf 41 38 (.bin .gtr false (.t 40) (qI 1000)),
 qP 42 38 41,
 qm 43 42,
 qff 44 43 0 7,
 qlf 45 43 44,
 .rf 46 43 (.bin .lss false (.t 45) (qI 1)),
 qP 47 43 46,
 qm 48 47,
 qff 49 48 0 7,
 qlf 50 48 49,
 qff 51 48 1 7,
 qlf 52 48 51,
 .rf 53 48 (.bin .gtr false (.t 50) (.t 52)),
 qP 54 48 53,
 qm 55 54,
 qff 56 55 2 7,
 qlf 57 55 56,
 .rf 58 55 (.bin .lss false (.t 57) (qI 0)),
 qP 59 55 58,
 qm 60 59,
 qff 61 60 2 7,
 qlf 62 60 61,
 .rf 63 60 (.bin .gtr false (.t 62) (qI 1099511627776)),
 qP 64 60 63])
 (qq 64
 (.seq
 (.reg 11 none [4] [
 qi 4 2])
 .ret)
 .skip))
 (.seq
 (.seq
 (.reg 12 none [2,3,74] [
 qf 65 11 3,
 ql 66 65,
 qn 67 66,
 qB 68 .lss 67 1,
 qm 69 68,
 qff 70 69 11 3,
 qlf 71 69 70,
 .rf 72 69 (.lenL (.t 71)),
 .rf 73 69 (.bin .gtr false (.t 72) (qI 8)),
 qP 74 69 73])
 (qq 74
 (.seq
 (.reg 13 none [4] [
 qi 4 1])
 .ret)
 .skip))
 (.seq
 (.seq
 (.reg 14 none [2,3,8] [
 qi 8 0])
 (.block 0
 (.loop
 (.seq
 (.seq
 (.reg 15 none [2,3,8,79] [
 qm 75 8,
 qf 76 11 3,
 ql 77 76,
 qn 78 77,
 qb 79 .lss 75 78])
 (qq 79
 .skip
 (.exit 0)))
 (.seq
 (.block 1
 (.seq
 (.seq
 (.reg 17 (some [0,0,2,0,14,30,63,127]) [2,3,8,9] [
 qL 82 2 2,
 qf 83 11 3,
 ql 84 83,
 qm 85 8,
 qx 86 17 84 85,
 qL 87 17 86,
 qC 88 QL [.t 82,.t 87],
 qm 9 88])
 (.seq
 (.reg 18 none [2,3,8,9,90] [
 qm 89 9,
 qB 90 .neq 89 0])
 (qq 90
 (.seq
 (.reg 19 none [4] [
 qm 91 9,
 qm 4 91])
 .ret)
 .skip)))
 (.seq
 (.reg 20 none [2,3,8,10] [
 qi 10 0])
 (.block 2
 (.loop
 (.seq
 (.seq
 (.reg 21 none [2,3,8,10,94] [
 qm 92 10,
 qm 93 8,
 qb 94 .lss 92 93])
 (qq 94
 .skip
 (.exit 2)))
 (.seq
 (.block 3
 (.seq
 (.reg 23 (some [0,1,0,7,15,31,0,64,0,448,960,1984,4095]) [2,3,8,10,109] [
 qf 97 11 3,
 ql 98 97,
 qm 99 10,
 qx 100 17 98 99,
 qf 101 0 100,
 ql 102 101,
 qf 103 11 3,
 ql 104 103,
 qm 105 8,
 qx 106 17 104 105,
 qf 107 0 106,
 ql 108 107,
 qb 109 .eql 102 108])
 (qq 109
 (.seq
 (.reg 24 none [4] [
 qi 4 10])
 .ret)
 .skip)))
 (.reg 22 none [2,3,8,10] [
 qm 95 10,
 qa 96 95,
 qm 10 96]))))))))
 (.reg 16 none [2,3,8] [
 qm 80 8,
 qa 81 80,
 qm 8 81]))))))
 (.seq
 (.reg 25 none [4] [
 qi 4 0])
 .ret)))))))))
def qI1:List (Nat×List Nat):=qy Jw
theorem qI2:FnIR Tryz.prog KC 110 qI1 Jw [(.tmp 4)]:=
 qF Tryz.func30
def ZI:RC:=
 (.seq
 (.reg 0 none [1,2] [
 .r 2 (.box (.t 0)),
 qi 4 0])
 (.seq
 (.seq
 (.reg 1 none [1,2,19] [
 qL 6 2 2,
 qC 7 jJ [.t 6],
 qB 8 .neq 7 0,
 qm 9 8,
 qmf 10 9 1,
 .rf 11 9 (.bin .lss false (.t 10) (qI 1)),
 qP 12 9 11,
 qm 13 12,
 qmf 14 13 1,
 qff 15 13 1 2,
 qlf 16 13 15,
 .rf 17 13 (.lenL (.t 16)),
 .rf 18 13 (.bin .geq false (.t 14) (.t 17)),
 qP 19 13 18])
 (qq 19
 (.seq
 (.reg 2 none [4] [
 .r 4 (.mv (.k (.v (.int .i64 (-1)))))])
 .ret)
 .skip))
 (.seq
 (.reg 3 none [2,5] [
 qf 20 1 2,
 ql 21 20,
 qm 22 1,
 qx 23 7 21 22,
 qL 24 7 23,
 .r 5 (.new (.agg [.v (.string ⟨#[]⟩),.v (.int .i64 0),.v (.int .i64 0),.v (.int .i64 0),.v (.int .i64 0),.v (.slice none 0 0),.v (.bool false)])),
 qs 7 5 24])
 (.seq
 (.seq
 (.reg 4 none [2,5,27] [
 qf 25 1 5,
 ql 26 25,
 qB 27 .eql 26 2])
 (qq 27
 (.seq
 (.reg 5 none [4] [
 qf 28 0 2,
 ql 29 28,
 qf 30 2 5,
 ql 31 30,
 qx 32 2 29 31,
 qL 33 2 32,
 qC 34 Jr [.t 33],
 qB 35 .sub 34 1,
 qm 4 35])
 .ret)
 .skip))
 (.seq
 (.reg 6 none [4] [
 qf 36 5 5,
 ql 37 36,
 qn 38 37,
 qm 4 38])
 .ret)))))
def qC4:List (Nat×List Nat):=qy ZI
theorem qC5:FnIR Tryz.prog Qu 39 qC4 ZI [(.tmp 4)]:=
 qF Tryz.func48
def Yf:RC:=
 (.seq
 (.reg 0 none [0,1] [
 qc 4 false])
 (.seq
 (.seq
 (.reg 1 none [0,1,5] [
 qi 5 0])
 (.block 0
 (.loop
 (.seq
 (.seq
 (.reg 2 none [0,1,5,9] [
 qm 6 5,
 qm 7 0,
 qn 8 7,
 qb 9 .lss 6 8])
 (qq 9
 .skip
 (.exit 0)))
 (.seq
 (.block 1
 (.seq
 (.reg 4 none [0,1,5,17] [
 qm 12 0,
 qm 13 5,
 qx 14 1 12 13,
 ql 15 14,
 qm 16 1,
 qb 17 .eql 15 16])
 (qq 17
 (.seq
 (.reg 5 none [4] [
 qc 4 true])
 .ret)
 .skip)))
 (.reg 3 none [0,1,5] [
 qm 10 5,
 qa 11 10,
 qm 5 11]))))))
 (.seq
 (.reg 6 none [4] [
 qc 4 false])
 .ret)))
def ze5:List (Nat×List Nat):=qy Yf
theorem ze6:FnIR Tryz.prog qd3 18 ze5 Yf [(.tmp 4)]:=
 qF Tryz.func53
def yY:RC:=
 (.seq
 (.reg 0 none [0,1] [
 qc 4 false])
 (.seq
 (.reg 1 none [4] [
 qm 5 0,
 qm 6 1,
 qC 7 qw [.t 5,.t 6],
 qm 8 1,
 qB 9 .sub 8 1,
 qb 10 .eql 7 9,
 qm 4 10])
 .ret))
def qp4:List (Nat×List Nat):=qy yY
theorem qp5:FnIR Tryz.prog za 11 qp4 yY [(.tmp 4)]:=
 qF Tryz.func55
def yq:RC:=
 (.seq
 (.reg 0 none [0,1] [
 qi 4 0])
 (.seq
 (.seq
 (.reg 1 (some [0,1,3,7,15,31,63,7,135,391,903,1927,4095,8191]) [0,1,19] [
 qm 6 1,
 qB 7 .lss 6 1,
 qm 8 7,
 qmf 9 8 0,
 .rf 10 8 (.nc (.t 9)),
 qff 11 8 1 10,
 qlf 12 8 11,
 qmf 13 8 0,
 .rf 14 8 (.nc (.t 13)),
 qff 15 8 0 14,
 qlf 16 8 15,
 .rf 17 8 (.lenL (.t 16)),
 .rf 18 8 (.bin .geq false (.t 12) (.t 17)),
 qP 19 8 18])
 (qq 19
 (.seq
 (.reg 2 none [4] [
 qi 4 0])
 .ret)
 .skip))
 (.seq
 (.reg 3 none [0,1] [
 qm 20 0,
 .r 21 (.nc (.t 20)),
 qf 22 1 21,
 ql 23 22,
 qa 24 23,
 .r 25 (.nc (.t 20)),
 qf 26 1 25,
 qs 1 26 24])
 (.seq
 (.reg 4 (some [0,1,3,7,0,16,48,112,240,511,1023,2047,4095]) [0,1,5] [
 qm 27 0,
 .r 28 (.nc (.t 27)),
 qf 29 0 28,
 ql 30 29,
 qm 31 0,
 .r 32 (.nc (.t 31)),
 qf 33 1 32,
 ql 34 33,
 qB 35 .sub 34 1,
 qx 36 1 30 35,
 ql 37 36,
 .r 38 (.cvI .i64 (.t 37)),
 qm 5 38])
 (.seq
 (.seq
 (.reg 5 (some [0,1,3,7,15,31,63,7,135,391,903,1927,4095,8191]) [0,1,5,52] [
 qm 39 1,
 qB 40 .gtr 39 256,
 qm 41 40,
 qmt 42 41 0,
 .rt 43 41 (.nc (.t 42)),
 qft 44 41 1 43,
 qlt 45 41 44,
 qmt 46 41 0,
 .rt 47 41 (.nc (.t 46)),
 qft 48 41 0 47,
 qlt 49 41 48,
 .rt 50 41 (.lenL (.t 49)),
 .rt 51 41 (.bin .lss false (.t 45) (.t 50)),
 qp 52 41 51])
 (qq 52
 (.seq
 (.reg 6 (some [0,1,0,4,12,28,0,64,192,448,1020,2044,4092,8191,16383]) [0,1,5] [
 qm 53 5,
 qB 54 .mul 53 256,
 qm 55 0,
 .r 56 (.nc (.t 55)),
 qf 57 0 56,
 ql 58 57,
 qm 59 0,
 .r 60 (.nc (.t 59)),
 qf 61 1 60,
 ql 62 61,
 qx 63 1 58 62,
 ql 64 63,
 .r 65 (.cvI .i64 (.t 64)),
 qb 66 .add 54 65,
 qm 5 66])
 (.reg 7 none [1,5] [
 qm 67 0,
 .r 68 (.nc (.t 67)),
 qf 69 1 68,
 ql 70 69,
 qa 71 70,
 .r 72 (.nc (.t 67)),
 qf 73 1 72,
 qs 1 73 71]))
 .skip))
 (.seq
 (.reg 8 none [4] [
 qm 74 5,
 qm 75 1,
 qb 76 .rem 74 75,
 qm 4 76])
 .ret))))))
def qi9:List (Nat×List Nat):=qy yq
theorem qj0:FnIR Tryz.prog qw 77 qi9 yq [(.tmp 4)]:=
 qF Tryz.func56
def kr:RC:=
 (.seq
 (.reg 0 none [0,2,4,6] [
 .r 4 (.box (.t 1)),
 .r 6 (.new (.agg [.v (.int .i64 0),.v (.int .i64 0),.v (.int .i64 0),.v (.int .i64 0),.v (.int .i64 0),.v (.slice none 0 0)]))])
 (.seq
 (.seq
 (.reg 1 none [0,2,4,6,12] [
 qm 11 2,
 qB 12 .gtr 11 0])
 (qq 12
 (.seq
 (.reg 2 none [0,2,4,6,14] [
 qm 13 0,
 qC 14 qw [.t 13,qI 5]])
 (.block 0
 (.seq
 (.reg 3 none [0,2,4,6,14,15] [
 qB 16 .eql 14 2,
 qm 15 16])
 (qq 15
 (.seq
 (.reg 4 none [6] [
 qm 17 0,
 qL 18 2 4,
 qm 19 2,
 qB 20 .sub 19 1,
 qC 21 qV [.t 17,.t 18,.t 20],
 .r 22 (.bsl 6 1 [.t 21]),
 .r 23 (.build [.v (.int .i64 0),.v (.int .i64 0),.v (.int .i64 0),.v (.int .i64 0),.v (.int .i64 0),.v (.slice none 0 0)] [((0,1),qI 7),((5,1),.t 22)]),
 qs 6 6 23])
 .ret)
 (.seq
 (.reg 5 none [0,2,4,6,14,24] [
 qB 25 .eql 14 3,
 qm 24 25])
 (qq 24
 (.seq
 (.reg 6 (some [0,0,0,4,15,0,0,0,128,511,1023,2047,4095]) [6] [
 qm 26 0,
 qL 27 2 4,
 qm 28 2,
 qB 29 .sub 28 1,
 qC 30 qV [.t 26,.t 27,.t 29],
 qm 31 0,
 qL 32 2 4,
 qm 33 2,
 qB 34 .sub 33 1,
 qC 35 qV [.t 31,.t 32,.t 34],
 .r 36 (.bsl 6 2 [.t 30,.t 35]),
 .r 37 (.build [.v (.int .i64 0),.v (.int .i64 0),.v (.int .i64 0),.v (.int .i64 0),.v (.int .i64 0),.v (.slice none 0 0)] [((0,1),qI 5),((5,1),.t 36)]),
 qs 6 6 37])
 .ret)
 (.seq
 (.reg 7 none [0,2,4,6,38] [
 qB 39 .eql 14 4,
 qm 38 39])
 (qq 38
 (.seq
 (.reg 8 (some [0,0,0,4,15,0,0,0,128,511,1023,2047,4095]) [6] [
 qm 40 0,
 qL 41 2 4,
 qm 42 2,
 qB 43 .sub 42 1,
 qC 44 qV [.t 40,.t 41,.t 43],
 qm 45 0,
 qL 46 2 4,
 qm 47 2,
 qB 48 .sub 47 1,
 qC 49 qV [.t 45,.t 46,.t 48],
 .r 50 (.bsl 6 2 [.t 44,.t 49]),
 .r 51 (.build [.v (.int .i64 0),.v (.int .i64 0),.v (.int .i64 0),.v (.int .i64 0),.v (.int .i64 0),.v (.slice none 0 0)] [((0,1),qI 6),((5,1),.t 50)]),
 qs 6 6 51])
 .ret)
 .skip))))))))
 .skip))
 (.seq
 (.seq
 (.reg 9 none [0,4,6,53] [
 qm 52 0,
 qC 53 qw [.t 52,qI 5]])
 (.block 1
 (.seq
 (.reg 10 none [0,4,6,53,54] [
 qB 55 .eql 53 1,
 qm 54 55])
 (qq 54
 (.seq
 (.reg 11 none [0,4,6,7] [
 qm 56 0,
 qL 57 2 4,
 qC 58 yh [.t 56,.t 57],
 qm 7 58])
 (.seq
 (.reg 12 (some [0,0,0,4,0,16,0,112,240,496,1020,2044,4092,8188,16382,32767,65535]) [6] [
 qm 59 7,
 qm 60 0,
 qf 61 0 4,
 ql 62 61,
 qf 63 1 4,
 ql 64 63,
 qm 65 7,
 qx 66 7 64 65,
 qf 67 2 66,
 ql 68 67,
 qx 69 2 62 68,
 qf 70 1 69,
 ql 71 70,
 qn 72 71,
 qC 73 qw [.t 60,.t 72],
 .r 74 (.build [.v (.int .i64 0),.v (.int .i64 0),.v (.int .i64 0),.v (.int .i64 0),.v (.int .i64 0),.v (.slice none 0 0)] [((0,1),qI 2),((1,1),.t 59),((2,1),.t 73)]),
 qs 6 6 74])
 .ret))
 (.seq
 (.seq
 (.reg 13 none [0,4,6,53,75] [
 qB 76 .eql 53 2,
 qm 75 76])
 (qq 75
 .skip
 (.reg 14 none [0,4,6,53,75] [
 qB 77 .eql 53 3,
 qm 75 77])))
 (qq 75
 (.seq
 (.reg 15 none [0,4,6,8] [
 qm 78 0,
 qL 79 2 4,
 qC 80 zp [.t 78,.t 79],
 qm 8 80])
 (.seq
 (.reg 16 (some [0,1,0,7,15,31,0,64,255,511]) [0,6,8,9] [
 qf 81 1 4,
 ql 82 81,
 qm 83 8,
 qx 84 7 82 83,
 qf 85 3 84,
 ql 86 85,
 qm 87 0,
 qC 88 qQ [.t 87,.k (.v (.int .i64 (-3))),qI 40],
 qb 89 .add 86 88,
 qm 9 89])
 (.seq
 (.reg 17 none [6] [
 qm 90 8,
 qm 91 9,
 qm 92 9,
 qm 93 0,
 qC 94 qw [.t 93,qI 30],
 qb 95 .add 92 94,
 .r 96 (.build [.v (.int .i64 0),.v (.int .i64 0),.v (.int .i64 0),.v (.int .i64 0),.v (.int .i64 0),.v (.slice none 0 0)] [((0,1),qI 3),((1,1),.t 90),((3,1),.t 91),((4,1),.t 95)]),
 qs 6 6 96])
 .ret)))
 (.seq
 (.reg 18 none [0,4,6,97] [
 qB 98 .eql 53 4,
 qm 97 98])
 (qq 97
 (.seq
 (.reg 19 none [4,6,10] [
 qm 99 0,
 qL 100 2 4,
 qC 101 zp [.t 99,.t 100],
 qm 10 101])
 (.seq
 (.reg 20 none [6,10,107] [
 qf 102 1 4,
 ql 103 102,
 qm 104 10,
 qx 105 7 103 104,
 qf 106 6 105,
 ql 107 106])
 (qq 107
 (.seq
 (.reg 21 none [6] [
 qm 108 10,
 .r 109 (.build [.v (.int .i64 0),.v (.int .i64 0),.v (.int .i64 0),.v (.int .i64 0),.v (.int .i64 0),.v (.slice none 0 0)] [((0,1),qI 4),((1,1),.t 108)]),
 qs 6 6 109])
 .ret)
 .skip)))
 .skip))))))))
 (.seq
 (.reg 22 none [6] [
 .r 110 (.build [.v (.int .i64 0),.v (.int .i64 0),.v (.int .i64 0),.v (.int .i64 0),.v (.int .i64 0),.v (.slice none 0 0)] [((0,1),qI 1)]),
 qs 6 6 110])
 .ret))))
def qj1:List (Nat×List Nat):=qy kr
theorem Jp:FnIR Tryz.prog qV 111 qj1 kr [(.cell 6 (some 6))]:=
 qF Tryz.func59
def yr:RC:=
 (.seq
 (.reg 0 none [0,1,4] [
 .r 4 (.new (.agg [.v (.string ⟨#[]⟩),.v (.slice none 0 0)]))])
 (.seq
 (.reg 1 none [0,4,5] [
 qm 10 1,
 .r 11 (.build [.v (.string ⟨#[]⟩),.v (.int .i64 0)] [((0,1),.k (.v (.string ⟨#[116,111,112]⟩))),((1,1),.k (.v (.int .i64 (-1))))]),
 .r 12 (.bsl 2 1 [.t 11]),
 .r 13 (.build [.v (.string ⟨#[]⟩),.v (.slice none 0 0)] [((0,1),.t 10),((1,1),.t 12)]),
 .r 5 (.new (.agg [.v (.string ⟨#[]⟩),.v (.slice none 0 0)])),
 qs 2 5 13])
 (.seq
 (.reg 2 none [0,4,5,6] [
 qm 14 0,
 qC 15 qQ [.t 14,qI 1,qI 3],
 qm 6 15])
 (.seq
 (.seq
 (.reg 3 none [0,4,5,6,7] [
 qi 7 0])
 (.block 0
 (.loop
 (.seq
 (.seq
 (.reg 4 none [0,4,5,6,7,18] [
 qm 16 7,
 qm 17 6,
 qb 18 .lss 16 17])
 (qq 18
 .skip
 (.exit 0)))
 (.seq
 (.block 1
 (.reg 6 (some [0,1,0,4,12,28,60,127,255,511]) [0,4,5,6,7] [
 qf 21 1 5,
 ql 22 21,
 qm 23 7,
 qC 24 ji [.t 23],
 .r 25 (.bin .add false (.k (.v (.string ⟨#[107]⟩))) (.t 24)),
 .r 26 (.build [.v (.string ⟨#[]⟩),.v (.int .i64 0)] [((0,1),.t 25)]),
 .r 27 (.bsl 2 1 [.t 26]),
 .r 28 (.app 2 24 false (.t 22) (.t 27)),
 qf 29 1 5,
 qs 1 29 28]))
 (.reg 5 none [0,4,5,6,7] [
 qm 19 7,
 qa 20 19,
 qm 7 20]))))))
 (.seq
 (.seq
 (.reg 7 none [0,4,5,6,31] [
 qm 30 0,
 qC 31 za [.t 30,qI 2]])
 (qq 31
 (.seq
 (.reg 8 none [4] [
 qL 32 2 5,
 qs 2 4 32])
 .ret)
 .skip))
 (.seq
 (.seq
 (.reg 9 none [0,4,5,6,8] [
 qi 8 0])
 (.block 2
 (.loop
 (.seq
 (.seq
 (.reg 10 none [0,4,5,6,8,35] [
 qm 33 8,
 qm 34 6,
 qb 35 .lss 33 34])
 (qq 35
 .skip
 (.exit 2)))
 (.seq
 (.block 3
 (.seq
 (.reg 12 none [0,4,5,6,8,9] [
 qm 38 0,
 qC 39 qQ [.t 38,qI 1,qI 2],
 qm 9 39])
 (.block 4
 (.loop
 (.seq
 (.seq
 (.reg 13 none [0,4,5,6,8,9,41] [
 qm 40 9,
 qB 41 .gtr 40 0])
 (qq 41
 .skip
 (.exit 4)))
 (.seq
 (.block 5
 (.reg 15 (some [0,1,0,4,12,28,60,0,128,508,1020,2047,4095,8191]) [0,4,5,6,8,9] [
 qf 44 1 5,
 ql 45 44,
 qf 46 1 5,
 ql 47 46,
 qn 48 47,
 qC 49 ji [.t 48],
 .r 50 (.bin .add false (.k (.v (.string ⟨#[108]⟩))) (.t 49)),
 qm 51 8,
 .r 52 (.bin .add false (qI 1) (.t 51)),
 .r 53 (.build [.v (.string ⟨#[]⟩),.v (.int .i64 0)] [((0,1),.t 50),((1,1),.t 52)]),
 .r 54 (.bsl 2 1 [.t 53]),
 .r 55 (.app 2 24 false (.t 45) (.t 54)),
 qf 56 1 5,
 qs 1 56 55]))
 (.reg 14 none [0,4,5,6,8,9] [
 qm 42 9,
 qB 43 .sub 42 1,
 qm 9 43])))))))
 (.reg 11 none [0,4,5,6,8] [
 qm 36 8,
 qa 37 36,
 qm 8 37]))))))
 (.seq
 (.reg 16 none [4] [
 qL 57 2 5,
 qs 2 4 57])
 .ret)))))))
def qj2:List (Nat×List Nat):=qy yr
theorem qj3:FnIR Tryz.prog kM 58 qj2 yr [(.cell 4 (some 2))]:=
 qF Tryz.func60
def wJ:RC:=
 (.seq
 (.reg 0 none [0,1,2] [
 qi 6 0])
 (.seq
 (.reg 1 none [6] [
 qm 7 1,
 qm 8 0,
 qm 9 2,
 qm 10 1,
 qb 11 .sub 9 10,
 qa 12 11,
 qC 13 qw [.t 8,.t 12],
 qb 14 .add 7 13,
 qm 6 14])
 .ret))
def qd7:List (Nat×List Nat):=qy wJ
theorem qd8:FnIR Tryz.prog qQ 15 qd7 wJ [(.tmp 6)]:=
 qF Tryz.func61
def kA:RC:=
 (.seq
 (.reg 0 none [0,1,4] [
 .r 4 (.new (.agg [.v (.string ⟨#[]⟩),.v (.int .i64 0),.v (.int .i64 0),.v (.int .i64 0),.v (.int .i64 0),.v (.slice none 0 0),.v (.bool false)]))])
 (.seq
 (.reg 1 (some [0,0,2,0,0,0,0,120,0,262,1022,2046,0,4870,16383,0,65535]) [0,4,5] [
 qm 6 1,
 qm 7 0,
 qC 8 qQ [.t 7,.k (.v (.int .i64 (-4))),qI 2],
 .r 9 (.bsl 1 1 [qI 1]),
 .r 10 (.bsl 1 2 [qI 1,qI 5]),
 .r 11 (.bsl 1 3 [qI 1,qI 5,qI 20]),
 .r 12 (.bsl 1 4 [qI 1,qI 2,qI 4,qI 12]),
 .r 13 (.bsl 1 4 [.t 9,.t 10,.t 11,.t 12]),
 qm 14 0,
 qC 15 qw [.t 14,qI 4],
 qx 16 1 13 15,
 ql 17 16,
 qm 18 0,
 qC 19 za [.t 18,qI 3],
 .r 20 (.build [.v (.string ⟨#[]⟩),.v (.int .i64 0),.v (.int .i64 0),.v (.int .i64 0),.v (.int .i64 0),.v (.slice none 0 0),.v (.bool false)] [((0,1),.t 6),((1,1),qI 3),((3,1),.t 8),((5,1),.t 17),((6,1),.t 19)]),
 .r 5 (.new (.agg [.v (.string ⟨#[]⟩),.v (.int .i64 0),.v (.int .i64 0),.v (.int .i64 0),.v (.int .i64 0),.v (.slice none 0 0),.v (.bool false)])),
 qs 7 5 20])
 (.seq
 (.reg 2 (some [0,1,0,4,15,31,63]) [4,5] [
 qf 21 3 5,
 ql 22 21,
 qm 23 0,
 qC 24 qw [.t 23,qI 45],
 qb 25 .add 22 24,
 qf 26 4 5,
 qs 1 26 25])
 (.seq
 (.reg 3 none [4] [
 qL 27 7 5,
 qs 7 4 27])
 .ret))))
def Yg:List (Nat×List Nat):=qy kA
theorem Yh:FnIR Tryz.prog kX 28 Yg kA [(.cell 4 (some 7))]:=
 qF Tryz.func62
def ZJ:RC:=
 (.seq
 (.reg 0 none [0] [
 .r 2 (.mv (.k (.v (.string ⟨#[]⟩))))])
 (.seq
 (.reg 1 none [2] [
 qm 3 0,
 qC 4 jK [.t 3],
 qm 2 4])
 .ret))
def qC6:List (Nat×List Nat):=qy ZJ
theorem qC7:FnIR Tryz.prog ji 5 qC6 ZJ [(.tmp 2)]:=
 qF Tryz.func63
def wi:RC:=
 (.seq
 (.reg 0 none [2,3] [
 .r 2 (.box (.t 0)),
 .r 3 (.box (.t 1)),
 qi 4 0])
 (.seq
 (.seq
 (.reg 1 none [2,3,5] [
 qL 11 2 2,
 qC 12 zH [.t 11],
 qm 5 12])
 (.seq
 (.reg 2 none [2,3,5,14] [
 qm 13 5,
 qB 14 .neq 13 0])
 (qq 14
 (.seq
 (.reg 3 none [4] [
 qm 15 5,
 qm 4 15])
 .ret)
 .skip)))
 (.seq
 (.seq
 (.reg 4 none [2,3,25] [
 qf 16 0 3,
 ql 17 16,
 qC 18 jH [.t 17],
 .r 19 (.un .not (.t 18)),
 qm 20 19,
 qff 21 20 1 3,
 qlf 22 20 21,
 .rf 23 20 (.call (.k (.clo jH [])) [.t 22]),
 .rf 24 20 (.un .not (.t 23)),
 qP 25 20 24])
 (qq 25
 (.seq
 (.reg 5 none [4] [
 qi 4 3])
 .ret)
 .skip))
 (.seq
 (.seq
 (.reg 6 none [2,3,6] [
 qL 26 2 2,
 qf 27 2 3,
 qL 28 6 27,
 qC 29 zI [.t 26,.t 28],
 qm 6 29])
 (.seq
 (.reg 7 none [2,3,6,31] [
 qm 30 6,
 qB 31 .neq 30 0])
 (qq 31
 (.seq
 (.reg 8 none [4] [
 qm 32 6,
 qm 4 32])
 .ret)
 .skip)))
 (.seq
 (.seq
 (.reg 9 none [2,3,7] [
 qf 33 8 3,
 qL 34 3 33,
 .r 7 (.new (.agg [.v (.int .i64 0),.v (.int .i64 0),.v (.int .i64 0)])),
 qs 3 7 34])
 (.block 0
 (.seq
 (.reg 10 none [2,3,35] [
 qf 36 1 7,
 ql 37 36,
 qB 38 .lss 37 1,
 qm 39 38,
 qff 40 39 1 7,
 qlf 41 39 40,
 .rf 42 39 (.bin .gtr false (.t 41) (qI 1000)),
 qP 43 39 42,
 qm 44 43,
 qff 45 44 0 7,
 qlf 46 44 45,
 .rf 47 44 (.bin .lss false (.t 46) (qI 1)),
 qP 48 44 47,
 qm 49 48,
 qff 50 49 0 7,
 qlf 51 49 50,
 qff 52 49 1 7,
 qlf 53 49 52,
 .rf 54 49 (.bin .gtr false (.t 51) (.t 53)),
 qP 55 49 54,
 qm 56 55,
 qff 57 56 2 7,
 qlf 58 56 57,
 .rf 59 56 (.bin .lss false (.t 58) (qI 0)),
 qP 60 56 59,
 qm 61 60,
 qff 62 61 2 7,
 qlf 63 61 62,
 .rf 64 61 (.bin .gtr false (.t 63) (qI 1099511627776)),
 qP 65 61 64,
 qm 35 65])
 (qq 35
 (.seq
 (.reg 11 none [4] [
 qi 4 2])
 .ret)
 (.seq
 (.reg 12 none [2,3,66] [
 qf 67 11 3,
 ql 68 67,
 qn 69 68,
 qB 70 .eql 69 0,
 qm 71 70,
 qff 72 71 11 3,
 qlf 73 71 72,
 .rf 74 71 (.lenL (.t 73)),
 .rf 75 71 (.bin .gtr false (.t 74) (qI 8)),
 qP 76 71 75,
 qm 66 76])
 (qq 66
 (.seq
 (.reg 13 none [4] [
 qi 4 1])
 .ret)
 .skip))))))
 (.seq
 (.seq
 (.reg 14 none [2,3,78,79,80] [
 qf 77 11 3,
 ql 78 77,
 qn 79 78,
 qi 80 0])
 (.block 1
 (.loop
 (.seq
 (.reg 15 none [2,3,78,79,80,81] [
 qb 81 .lss 80 79])
 (.seq
 (qq 81
 .skip
 (.exit 1))
 (.seq
 (.block 2
 (.seq
 (.reg 16 none [2,3,8,9,78,79,80] [
 qm 82 80,
 qx 83 17 78 80,
 qL 84 17 83,
 .r 9 (.new (.agg [.v (.string ⟨#[]⟩),.v (.int .i64 0),.v (.int .i64 0),.v (.int .i64 0),.v (.int .i64 0),.v (.int .i64 0),.v (.int .i64 0),.v (.slice none 0 0),.v (.slice none 0 0),.v (.int .i64 0),.v (.slice none 0 0),.v (.int .i64 0),.v (.int .i64 0),.v (.int .i64 0),.v (.int .i64 0),.v (.int .i64 0),.v (.slice none 0 0)])),
 qm 8 82,
 qs 17 9 84])
 (.seq
 (.seq
 (.reg 17 none [2,3,8,9,10,78,79,80] [
 qL 85 2 2,
 qL 86 17 9,
 qC 87 zR [.t 85,.t 86],
 qm 10 87])
 (.seq
 (.reg 18 none [2,3,8,9,10,78,79,80,89] [
 qm 88 10,
 qB 89 .neq 88 0])
 (qq 89
 (.seq
 (.reg 19 none [4] [
 qm 90 10,
 qm 4 90])
 .ret)
 .skip)))
 (.seq
 (.reg 20 none [2,3,78,79,80,96] [
 qf 91 11 3,
 ql 92 91,
 qm 93 8,
 .r 94 (.slL 17 (.t 92) none (some (.t 93))),
 .r 95 (.mf jd [.t 9]),
 qC 96 zq [.t 94,.t 95]])
 (qq 96
 (.seq
 (.reg 21 none [4] [
 qi 4 10])
 .ret)
 .skip)))))
 (.reg 22 none [2,3,78,79,80] [
 qa 97 80,
 qm 80 97])))))))
 (.seq
 (.reg 23 none [4] [
 qi 4 0])
 .ret)))))))
def YX:List (Nat×List Nat):=qy wi
theorem YY:FnIR Tryz.prog jI 98 YX wi [(.tmp 4)]:=
 qF Tryz.func64
def QR:RC:=
 (.seq
 (.reg 0 none [2,3] [
 .r 2 (.box (.t 0)),
 .r 3 (.box (.t 1)),
 .r 4 (.mv (qN))])
 (.seq
 (.reg 1 none [2,3,5] [
 .r 5 (.mv (qN))])
 (.seq
 (.seq
 (.reg 2 none [2,5,9,10,11] [
 qf 8 11 3,
 ql 9 8,
 qn 10 9,
 qi 11 0])
 (.block 0
 (.loop
 (.seq
 (.reg 3 none [2,5,9,10,11,12] [
 qb 12 .lss 11 10])
 (.seq
 (qq 12
 .skip
 (.exit 0))
 (.seq
 (.block 1
 (.seq
 (.reg 4 none [2,5,7,9,10,11] [
 qx 13 17 9 11,
 qL 14 17 13,
 .r 7 (.new (.agg [.v (.string ⟨#[]⟩),.v (.int .i64 0),.v (.int .i64 0),.v (.int .i64 0),.v (.int .i64 0),.v (.int .i64 0),.v (.int .i64 0),.v (.slice none 0 0),.v (.slice none 0 0),.v (.int .i64 0),.v (.slice none 0 0),.v (.int .i64 0),.v (.int .i64 0),.v (.int .i64 0),.v (.int .i64 0),.v (.int .i64 0),.v (.slice none 0 0)])),
 qs 17 7 14])
 (.reg 5 none [2,5,9,10,11] [
 qm 15 5,
 qL 16 2 2,
 qL 17 17 7,
 qC 18 kN [.t 16,.t 17],
 .r 19 (.bsl 1 1 [.t 18]),
 .r 20 (.app 1 24 false (.t 15) (.t 19)),
 qm 5 20])))
 (.reg 6 none [2,5,9,10,11] [
 qa 21 11,
 qm 11 21])))))))
 (.seq
 (.reg 7 none [4] [
 qm 22 5,
 qC 23 kO [.t 22],
 qm 4 23])
 .ret))))
def qv1:List (Nat×List Nat):=qy QR
theorem qv2:FnIR Tryz.prog yd 24 qv1 QR [(.tmp 4)]:=
 qF Tryz.func65
def ZK:RC:=
 (.seq
 (.reg 0 none [1,2] [
 .r 2 (.box (.t 0)),
 qi 4 0])
 (.seq
 (.seq
 (.reg 1 none [1,2,5] [
 qL 9 2 2,
 qC 10 zH [.t 9],
 qm 5 10])
 (.seq
 (.reg 2 none [1,2,5,12] [
 qm 11 5,
 qB 12 .neq 11 0])
 (qq 12
 (.seq
 (.reg 3 none [4] [
 qm 13 5,
 qm 4 13])
 .ret)
 .skip)))
 (.seq
 (.seq
 (.reg 4 none [1,2,14,15,16] [
 qm 14 1,
 qn 15 14,
 qi 16 0])
 (.block 0
 (.loop
 (.seq
 (.reg 5 none [1,2,14,15,16,17] [
 qb 17 .lss 16 15])
 (.seq
 (qq 17
 .skip
 (.exit 0))
 (.seq
 (.block 1
 (.seq
 (.reg 6 none [1,2,6,7,14,15,16] [
 qm 18 16,
 qx 19 2 14 16,
 qL 20 2 19,
 .r 7 (.new (.agg [.v (.int .i64 0),.v (.int .i64 0)])),
 qm 6 18,
 qs 2 7 20])
 (.seq
 (.seq
 (.reg 7 none [1,2,6,7,8,14,15,16] [
 qL 21 2 2,
 qL 22 2 7,
 qC 23 Zj [.t 21,.t 22],
 qm 8 23])
 (.seq
 (.reg 8 none [1,2,6,7,8,14,15,16,25] [
 qm 24 8,
 qB 25 .neq 24 0])
 (qq 25
 (.seq
 (.reg 9 none [4] [
 qm 26 8,
 qm 4 26])
 .ret)
 .skip)))
 (.seq
 (.reg 10 (some [0,1,3,7,15,7,7,71,231,487,999,2047,4095]) [1,2,14,15,16,39] [
 qm 27 6,
 qB 28 .gtr 27 0,
 qm 29 28,
 qft 30 29 0 7,
 qlt 31 29 30,
 qmt 32 29 1,
 qmt 33 29 6,
 .rt 34 29 (.bin .sub false (.t 33) (qI 1)),
 .rt 35 29 (.ixL 2 (.t 32) (.t 34)),
 qft 36 29 0 35,
 qlt 37 29 36,
 .rt 38 29 (.bin .leq false (.t 31) (.t 37)),
 qp 39 29 38])
 (qq 39
 (.seq
 (.reg 11 none [4] [
 qi 4 10])
 .ret)
 .skip)))))
 (.reg 12 none [1,2,14,15,16] [
 qa 40 16,
 qm 16 40])))))))
 (.seq
 (.reg 13 none [4] [
 qi 4 0])
 .ret))))
def qC8:List (Nat×List Nat):=qy ZK
theorem qC9:FnIR Tryz.prog Jq 41 qC8 ZK [(.tmp 4)]:=
 qF Tryz.func68
def wK:RC:=
 (.seq
 (.reg 0 none [1,2] [
 .r 2 (.box (.t 0)),
 qc 4 false])
 (.seq
 (.reg 1 none [4] [
 qm 5 1,
 .r 6 (.mf jp [.t 2]),
 qC 7 zb [.t 5,.t 6],
 .r 8 (.un .not (.t 7)),
 qm 4 8])
 .ret))
def qd9:List (Nat×List Nat):=qy wK
theorem qe0:FnIR Tryz.prog ye 9 qd9 wK [(.tmp 4)]:=
 qF Tryz.func71
def jA:RC:=
 (.seq
 (.reg 0 none [0,1] [
 qi 4 0])
 (.seq
 (.seq
 (.reg 1 none [0,1,7,8] [
 qm 6 0,
 qn 7 6,
 qi 8 0])
 (.block 0
 (.loop
 (.seq
 (.reg 2 none [0,1,7,8,9] [
 qb 9 .lss 8 7])
 (.seq
 (qq 9
 .skip
 (.exit 0))
 (.seq
 (.block 1
 (.seq
 (.reg 3 none [0,1,5,7,8] [
 qm 10 8,
 qm 5 10])
 (.seq
 (.reg 4 none [0,1,5,7,8,16] [
 qm 11 1,
 qm 12 0,
 qm 13 5,
 qx 14 2 12 13,
 qL 15 2 14,
 .r 16 (.call (.t 11) [.t 15])])
 (qq 16
 (.seq
 (.reg 5 none [4] [
 qm 17 5,
 qm 4 17])
 .ret)
 .skip))))
 (.reg 6 none [0,1,7,8] [
 qa 18 8,
 qm 8 18])))))))
 (.seq
 (.reg 7 none [4] [
 .r 4 (.mv (.k (.v (.int .i64 (-1)))))])
 .ret)))
def Kb:List (Nat×List Nat):=qy jA
theorem Kc:FnIR Tryz.prog zC 19 Kb jA [(.tmp 4)]:=
 qF Tryz.func74
def kB:RC:=
 (.seq
 (.reg 0 none [1,2] [
 .r 2 (.box (.t 0)),
 qc 3 false])
 (.seq
 (.reg 1 none [3] [
 qf 4 0 2,
 ql 5 4,
 ql 6 1,
 qb 7 .eql 5 6,
 qm 3 7])
 .ret))
def Yi:List (Nat×List Nat):=qy kB
theorem Yj:FnIR Tryz.prog jo 8 Yi kB [(.tmp 3)]:=
 qF Tryz.func75
def jN:RC:=
 (.seq
 (.reg 0 none [0,3] [
 .r 3 (.box (.t 1)),
 qc 4 false])
 (.seq
 (.reg 1 none [4] [
 qm 5 0,
 qL 6 2 3,
 qC 7 wE [.t 5,.t 6],
 qB 8 .geq 7 0,
 qm 4 8])
 .ret))
def KJ:List (Nat×List Nat):=qy jN
theorem KK:FnIR Tryz.prog ka 9 KJ jN [(.tmp 4)]:=
 qF Tryz.func76
def yu:RC:=
 (.seq
 (.reg 0 none [2,3] [
 .r 2 (.box (.t 0)),
 .r 3 (.box (.t 1)),
 .r 4 (.mv (qN))])
 (.seq
 (.seq
 (.reg 1 none [2,3,15] [
 qL 12 2 2,
 qL 13 17 3,
 qC 14 zR [.t 12,.t 13],
 qB 15 .neq 14 0])
 (qq 15
 (.seq
 (.reg 2 none [4] [
 .r 4 (.mv (qN))])
 .ret)
 .skip))
 (.seq
 (.reg 3 none [2,3,5] [
 .r 5 (.mv (qN))])
 (.seq
 (.seq
 (.reg 4 none [2,3,5,17,18,19] [
 qf 16 8 3,
 ql 17 16,
 qn 18 17,
 qi 19 0])
 (.block 0
 (.loop
 (.seq
 (.reg 5 none [2,3,5,17,18,19,20] [
 qb 20 .lss 19 18])
 (.seq
 (qq 20
 .skip
 (.exit 0))
 (.seq
 (.block 1
 (.seq
 (.reg 6 none [2,3,5,7,17,18,19] [
 qx 21 2 17 19,
 qL 22 2 21,
 .r 7 (.new (.agg [.v (.int .i64 0),.v (.int .i64 0)])),
 qs 2 7 22])
 (.reg 7 (some [0,0,2,0,0,16,0,64,248,510,1022,2047,4095]) [2,3,5,17,18,19] [
 qm 23 5,
 qf 24 0 7,
 ql 25 24,
 qL 26 2 2,
 qf 27 0 7,
 ql 28 27,
 qf 29 1 7,
 ql 30 29,
 qC 31 Qv [.t 26,.t 28,.t 30],
 .r 32 (.build [.v (.int .i64 0),.v (.int .i64 0)] [((0,1),.t 25),((1,1),.t 31)]),
 .r 33 (.bsl 2 1 [.t 32]),
 .r 34 (.app 2 16 false (.t 23) (.t 33)),
 qm 5 34])))
 (.reg 8 none [2,3,5,17,18,19] [
 qa 35 19,
 qm 19 35])))))))
 (.seq
 (.seq
 (.reg 9 none [2,3,5,38,39] [
 qf 36 1 2,
 ql 37 36,
 qn 38 37,
 qi 39 0])
 (.block 2
 (.loop
 (.seq
 (.reg 10 none [2,3,5,38,39,40] [
 qb 40 .lss 39 38])
 (.seq
 (qq 40
 .skip
 (.exit 2))
 (.seq
 (.block 3
 (.seq
 (.reg 11 none [2,3,5,8,38,39] [
 qm 41 39,
 qm 8 41])
 (.seq
 (.reg 12 none [2,3,5,8,38,39,44] [
 qL 42 17 3,
 qm 43 8,
 qC 44 wy [.t 42,.t 43]])
 (qq 44
 (.reg 13 (some [0,0,0,0,0,0,48,124,254,510,1023,2047]) [2,3,5,38,39] [
 qm 45 5,
 qm 46 8,
 qL 47 2 2,
 qm 48 8,
 qL 49 2 2,
 qm 50 8,
 qC 51 jv [.t 49,.t 50],
 qC 52 Qv [.t 47,.t 48,.t 51],
 .r 53 (.build [.v (.int .i64 0),.v (.int .i64 0)] [((0,1),.t 46),((1,1),.t 52)]),
 .r 54 (.bsl 2 1 [.t 53]),
 .r 55 (.app 2 16 false (.t 45) (.t 54)),
 qm 5 55])
 .skip))))
 (.reg 14 none [2,3,5,38,39] [
 qa 56 39,
 qm 39 56])))))))
 (.seq
 (.reg 15 none [2,3,9] [
 qm 57 5,
 .r 58 (.bsl 1 1 [.t 57]),
 qm 9 58])
 (.seq
 (.seq
 (.reg 16 none [2,9,60,61,62] [
 qL 59 17 3,
 qC 60 kP [.t 59],
 qn 61 60,
 qi 62 0])
 (.block 4
 (.loop
 (.seq
 (.reg 17 none [2,9,60,61,62,63] [
 qb 63 .lss 62 61])
 (.seq
 (qq 63
 .skip
 (.exit 4))
 (.seq
 (.block 5
 (.seq
 (.reg 18 none [2,9,11,60,61,62] [
 qx 64 6 60 62,
 qL 65 6 64,
 .r 11 (.new (.agg [.v (.int .i64 0),.v (.int .i64 0),.v (.int .i64 0),.v (.int .i64 0),.v (.int .i64 0),.v (.slice none 0 0)])),
 qs 6 11 65])
 (.reg 19 none [2,9,60,61,62] [
 qm 66 9,
 qL 67 2 2,
 qL 68 6 11,
 qC 69 yT [.t 67,.t 68],
 .r 70 (.bsl 1 1 [.t 69]),
 .r 71 (.app 1 24 false (.t 66) (.t 70)),
 qm 9 71])))
 (.reg 20 none [2,9,60,61,62] [
 qa 72 62,
 qm 62 72])))))))
 (.seq
 (.reg 21 none [4] [
 qm 73 9,
 qC 74 kO [.t 73],
 qm 4 74])
 .ret))))))))
def qj4:List (Nat×List Nat):=qy yu
theorem qj5:FnIR Tryz.prog kN 75 qj4 yu [(.tmp 4)]:=
 qF Tryz.func77
def jO:RC:=
 (.seq
 (.reg 0 none [3,4,5,6] [
 .r 4 (.box (.t 0)),
 .r 5 (.box (.t 1)),
 .r 6 (.box (.t 2)),
 qi 8 0,
 qi 9 0])
 (.seq
 (.reg 1 (some [0,1,0,4,0,28,60,124,255,511,1023,2047,4095]) [3,4,5,6,10] [
 qf 15 0 4,
 ql 16 15,
 qf 17 1 4,
 ql 18 17,
 ql 19 6,
 qx 20 7 18 19,
 qf 21 2 20,
 ql 22 21,
 qx 23 2 16 22,
 qf 24 1 23,
 ql 25 24,
 qn 26 25,
 qm 10 26])
 (.seq
 (.reg 2 none [3,4,5,6,10,11] [
 qL 27 2 4,
 ql 28 6,
 qC 29 jv [.t 27,.t 28],
 .r 11 (.new (.v (.int .i64 0))),
 qs 1 11 29])
 (.seq
 (.reg 3 none [3,4,5,6,10,12] [
 .r 30 (.mf jw [.t 4,.t 6,.t 11]),
 qm 12 30])
 (.seq
 (.seq
 (.reg 4 none [3,4,5,6,10,12,31,32] [
 qm 31 10,
 qi 32 0])
 (.block 0
 (.loop
 (.seq
 (.reg 5 none [3,4,5,6,10,12,31,32,33] [
 qb 33 .lss 32 31])
 (.seq
 (qq 33
 .skip
 (.exit 0))
 (.seq
 (.block 1
 (.seq
 (.reg 6 none [3,4,5,6,10,12,13,31,32] [
 qm 34 32,
 qm 13 34])
 (.seq
 (.reg 7 none [3,4,5,6,10,12,13,14,31,32] [
 qm 35 13,
 qa 36 35,
 qm 14 36])
 (.block 2
 (.loop
 (.seq
 (.seq
 (.reg 8 none [3,4,5,6,10,12,13,14,31,32,44] [
 qm 37 14,
 qm 38 10,
 qb 39 .lss 37 38,
 qm 40 39,
 qmt 41 40 12,
 qmt 42 40 13,
 .rt 43 40 (.call (.t 41) [.t 42]),
 qp 44 40 43])
 (qq 44
 .skip
 (.exit 2)))
 (.seq
 (.block 3
 (.seq
 (.reg 10 (some [0,0,3,7,15,15,15,15,255,15,15,15,15,8191,16383,32767,65535,131071,131071,131071,131071,131071,4194303,8388607]) [3,4,5,6,10,12,13,14,31,32,70] [
 qm 47 12,
 qm 48 14,
 .r 49 (.call (.t 47) [.t 48]),
 qm 50 49,
 .rt 51 50 (.ld (some 2) (.t 4)),
 qlt 52 50 6,
 qmt 53 50 3,
 qmt 54 50 13,
 .rt 55 50 (.call (.k (.clo ju [])) [.t 51,.t 52,.t 53,.t 54]),
 .rt 56 50 (.ld (some 2) (.t 4)),
 qlt 57 50 6,
 qmt 58 50 3,
 qmt 59 50 14,
 .rt 60 50 (.call (.k (.clo ju [])) [.t 56,.t 57,.t 58,.t 59]),
 .rt 61 50 (.bin .eql false (.t 55) (.t 60)),
 qp 62 50 61,
 qm 63 62,
 .rt 64 63 (.ld (some 2) (.t 4)),
 .rt 65 63 (.ld (some 17) (.t 5)),
 qlt 66 63 6,
 qmt 67 63 13,
 qmt 68 63 14,
 .rt 69 63 (.call (.k (.clo QM [])) [.t 64,.t 65,.t 66,.t 67,.t 68]),
 qp 70 63 69])
 (qq 70
 (.seq
 (.reg 11 none [8,9] [
 qm 71 13,
 qm 72 14,
 qm 8 71,
 qm 9 72])
 .ret)
 .skip)))
 (.reg 9 none [3,4,5,6,10,12,13,14,31,32] [
 qm 45 14,
 qa 46 45,
 qm 14 46]))))))))
 (.reg 12 none [3,4,5,6,10,12,31,32] [
 qa 73 32,
 qm 32 73])))))))
 (.seq
 (.reg 13 none [8,9] [
 qi 8 0,
 qi 9 0])
 .ret))))))
def KL:List (Nat×List Nat):=qy jO
theorem KM:FnIR Tryz.prog ke 74 KL jO [(.tmp 8),(.tmp 9)]:=
 qF Tryz.func78
def qe1:RC:=
 (.seq
 (.reg 0 none [0,1,2] [
 qc 6 false])
 (.seq
 (.reg 1 none [6] [
 qm 7 1,
 qm 8 0,
 qb 9 .leq 7 8,
 qm 10 9,
 qmt 11 10 0,
 qmt 12 10 2,
 .rt 13 10 (.bin .leq false (.t 11) (.t 12)),
 qp 14 10 13,
 qm 6 14])
 .ret))
def zl5:List (Nat×List Nat):=qy qe1
theorem zl6:FnIR Tryz.prog yR 15 zl5 qe1 [(.tmp 6)]:=
 qF Tryz.func80
def yZ:RC:=
 (.seq
 (.reg 0 none [2,3] [
 .r 2 (.box (.t 0)),
 .r 3 (.box (.t 1)),
 qi 4 0])
 (.seq
 (.seq
 (.reg 1 none [2,3,5] [
 qL 8 2 2,
 qC 9 jJ [.t 8],
 qm 5 9])
 (.seq
 (.reg 2 none [2,3,5,11] [
 qm 10 5,
 qB 11 .neq 10 0])
 (qq 11
 (.seq
 (.reg 3 none [4] [
 qm 12 5,
 qm 4 12])
 .ret)
 .skip)))
 (.seq
 (.seq
 (.reg 4 none [2,3,16] [
 qf 13 0 3,
 ql 14 13,
 qC 15 jG [.t 14],
 .r 16 (.un .not (.t 15))])
 (qq 16
 (.seq
 (.reg 5 none [4] [
 qi 4 3])
 .ret)
 .skip))
 (.seq
 (.seq
 (.reg 6 none [2,3,24] [
 qf 17 1 3,
 ql 18 17,
 qB 19 .lss 18 1,
 qm 20 19,
 qff 21 20 1 3,
 qlf 22 20 21,
 .rf 23 20 (.bin .gtr false (.t 22) (qI 3)),
 qP 24 20 23])
 (qq 24
 (.seq
 (.reg 7 none [4] [
 qi 4 4])
 .ret)
 .skip))
 (.seq
 (.seq
 (.reg 8 none [2,3,6] [
 qL 25 2 2,
 qf 26 2 3,
 qL 27 6 26,
 qC 28 yg [.t 25,.t 27],
 qm 6 28])
 (.seq
 (.reg 9 none [2,3,6,30] [
 qm 29 6,
 qB 30 .neq 29 0])
 (qq 30
 (.seq
 (.reg 10 none [4] [
 qm 31 6,
 qm 4 31])
 .ret)
 .skip)))
 (.seq
 (.seq
 (.reg 11 none [3,7] [
 qL 32 2 2,
 qL 33 17 3,
 qC 34 KD [.t 32,.t 33],
 qm 7 34])
 (.seq
 (.reg 12 none [3,7,36] [
 qm 35 7,
 qB 36 .neq 35 0])
 (qq 36
 (.seq
 (.reg 13 none [4] [
 qm 37 7,
 qm 4 37])
 .ret)
 .skip)))
 (.seq
 (.seq
 (.reg 14 none [68] [
 qf 38 1 3,
 ql 39 38,
 qB 40 .neq 39 1,
 qm 41 40,
 qft 42 41 8 3,
 qlt 43 41 42,
 .rt 44 41 (.lenL (.t 43)),
 .rt 45 41 (.bin .gtr false (.t 44) (qI 0)),
 qp 46 41 45,
 qm 47 46,
 qff 48 47 1 3,
 qlf 49 47 48,
 .rf 50 47 (.bin .neq false (.t 49) (qI 2)),
 qmf 51 47 50,
 qft 52 51 10 3,
 qlt 53 51 52,
 .rt 54 51 (.lenL (.t 53)),
 .rt 55 51 (.bin .gtr false (.t 54) (qI 0)),
 .rf 56 47 (.pick (.t 51) (.t 55) (.k (.v (.bool false)))),
 qP 57 47 56,
 qm 58 57,
 qff 59 58 1 3,
 qlf 60 58 59,
 .rf 61 58 (.bin .neq false (.t 60) (qI 3)),
 qmf 62 58 61,
 qft 63 62 11 3,
 .rt 64 62 (.ld (some 6) (.t 63)),
 .rt 65 62 (.call (.k (.clo Yc [])) [.t 64]),
 .rt 66 62 (.un .not (.t 65)),
 .rf 67 58 (.pick (.t 62) (.t 66) (.k (.v (.bool false)))),
 qP 68 58 67])
 (qq 68
 (.seq
 (.reg 15 none [4] [
 qi 4 11])
 .ret)
 .skip))
 (.seq
 (.reg 16 none [4] [
 qi 4 0])
 .ret))))))))
def qp6:List (Nat×List Nat):=qy yZ
theorem qp7:FnIR Tryz.prog QL 69 qp6 yZ [(.tmp 4)]:=
 qF Tryz.func85
def kh:RC:=
 (.seq
 (.reg 0 none [0,3] [
 .r 3 (.box (.t 1)),
 qi 4 0])
 (.seq
 (.reg 1 none [0,5] [
 qL 6 2 3,
 qC 7 jW [.t 6,qI 3],
 qm 5 7])
 (.seq
 (.reg 2 none [4] [
 qm 8 5,
 qm 9 0,
 qm 10 5,
 qn 11 10,
 qC 12 qw [.t 9,.t 11],
 qx 13 1 8 12,
 ql 14 13,
 qm 4 14])
 .ret)))
def Ww:List (Nat×List Nat):=qy kh
theorem Wx:FnIR Tryz.prog zp 15 Ww kh [(.tmp 4)]:=
 qF Tryz.func89
def wL:RC:=
 (.seq
 (.reg 0 none [0,2,4] [
 .r 4 (.box (.t 1)),
 .r 6 (.mv (qN))])
 (.seq
 (.reg 1 none [0,2,4,7] [
 .r 7 (.mv (qN))])
 (.seq
 (.reg 2 none [0,2,7,8] [
 qL 10 2 4,
 qC 11 jW [.t 10,qI 3],
 qm 8 11])
 (.seq
 (.seq
 (.reg 3 none [0,2,7,8,13,14] [
 qm 12 8,
 qn 13 12,
 qi 14 0])
 (.block 0
 (.loop
 (.seq
 (.reg 4 none [0,2,7,8,13,14,15] [
 qb 15 .lss 14 13])
 (.seq
 (qq 15
 .skip
 (.exit 0))
 (.seq
 (.block 1
 (.seq
 (.reg 5 none [0,2,7,8,9,13,14] [
 qm 16 14,
 qm 9 16])
 (.seq
 (.reg 6 none [0,2,7,8,9,13,14,31] [
 qm 17 8,
 qm 18 9,
 qx 19 1 17 18,
 ql 20 19,
 qm 21 2,
 qb 22 .neq 20 21,
 qm 23 22,
 qmt 24 23 7,
 .rt 25 23 (.lenL (.t 24)),
 .rt 26 23 (.bin .eql false (.t 25) (qI 0)),
 qmt 27 23 26,
 qmf 28 27 0,
 .rf 29 27 (.call (.k (.clo za [])) [.t 28,qI 2]),
 .rt 30 23 (.pick (.t 27) (.k (.v (.bool true))) (.t 29)),
 qp 31 23 30])
 (qq 31
 (.reg 7 none [0,2,7,8,13,14] [
 qm 32 7,
 qm 33 8,
 qm 34 9,
 qx 35 1 33 34,
 ql 36 35,
 .r 37 (.bsl 1 1 [.t 36]),
 .r 38 (.app 1 8 false (.t 32) (.t 37)),
 qm 7 38])
 .skip))))
 (.reg 8 none [0,2,7,8,13,14] [
 qa 39 14,
 qm 14 39])))))))
 (.seq
 (.reg 9 none [6] [
 qm 40 7,
 qm 6 40])
 .ret)))))
def qe2:List (Nat×List Nat):=qy wL
theorem qe3:FnIR Tryz.prog yf 41 qe2 wL [(.tmp 6)]:=
 qF Tryz.func90
def yv:RC:=
 (.seq
 (.reg 0 none [0,3] [
 .r 3 (.box (.t 1)),
 .r 4 (.mv (qN))])
 (.seq
 (.reg 1 none [0,3,5] [
 .r 5 (.mv (qN))])
 (.seq
 (.reg 2 none [0,3,5,6] [
 qL 8 2 3,
 qC 9 jW [.t 8,qI 2],
 qm 6 9])
 (.seq
 (.seq
 (.reg 3 none [0,3,5,6,11] [
 qm 10 0,
 qC 11 za [.t 10,qI 2]])
 (qq 11
 (.reg 4 none [0,3,5,6] [
 qm 12 6,
 qm 13 0,
 qm 14 6,
 qn 15 14,
 qC 16 qw [.t 13,.t 15],
 .r 17 (.slL 1 (.t 12) (some (.t 16)) none),
 qm 6 17])
 .skip))
 (.seq
 (.seq
 (.reg 5 none [0,3,5,6,19,20] [
 qm 18 6,
 qn 19 18,
 qi 20 0])
 (.block 0
 (.loop
 (.seq
 (.reg 6 none [0,3,5,6,19,20,21] [
 qb 21 .lss 20 19])
 (.seq
 (qq 21
 .skip
 (.exit 0))
 (.seq
 (.block 1
 (.seq
 (.reg 7 none [0,3,5,6,7,19,20] [
 qm 22 20,
 qm 7 22])
 (.reg 8 (some [0,0,0,6,14,0,0,0,0,384,896,1984,4032,8160,16382,32766,65535,131071]) [0,3,5,6,19,20] [
 qm 23 5,
 qm 24 6,
 qm 25 7,
 qx 26 1 24 25,
 ql 27 26,
 qm 28 0,
 qL 29 2 3,
 qm 30 6,
 qm 31 7,
 qx 32 1 30 31,
 ql 33 32,
 qC 34 Qu [.t 29,.t 33],
 qa 35 34,
 qC 36 qw [.t 28,.t 35],
 .r 37 (.build [.v (.int .i64 0),.v (.int .i64 0)] [((0,1),.t 27),((1,1),.t 36)]),
 .r 38 (.bsl 2 1 [.t 37]),
 .r 39 (.app 2 16 false (.t 23) (.t 38)),
 qm 5 39])))
 (.reg 9 none [0,3,5,6,19,20] [
 qa 40 20,
 qm 20 40])))))))
 (.seq
 (.reg 10 none [4] [
 qm 41 5,
 qm 4 41])
 .ret))))))
def qj6:List (Nat×List Nat):=qy yv
theorem qj7:FnIR Tryz.prog yS 42 qj6 yv [(.tmp 4)]:=
 qF Tryz.func91
def Jx:RC:=
 (.seq
 (.reg 0 none [1] [
 .r 1 (.box (.t 0)),
 qi 2 0])
 (.seq
 (.seq
 (.reg 1 none [1,17] [
 qf 8 0 1,
 ql 9 8,
 qn 10 9,
 qB 11 .gtr 10 6,
 qm 12 11,
 qff 13 12 1 1,
 qlf 14 12 13,
 .rf 15 12 (.lenL (.t 14)),
 .rf 16 12 (.bin .gtr false (.t 15) (qI 8)),
 qP 17 12 16])
 (qq 17
 (.seq
 (.reg 2 none [2] [
 qi 2 1])
 .ret)
 .skip))
 (.seq
 (.seq
 (.reg 3 none [1,3] [
 qi 3 0])
 (.block 0
 (.loop
 (.seq
 (.seq
 (.reg 4 none [1,3,22] [
 qm 18 3,
 qf 19 0 1,
 ql 20 19,
 qn 21 20,
 qb 22 .lss 18 21])
 (qq 22
 .skip
 (.exit 0)))
 (.seq
 (.block 1
 (.seq
 (.seq
 (.reg 6 none [1,3,4] [
 qf 25 0 1,
 ql 26 25,
 qm 27 3,
 qx 28 2 26 27,
 qL 29 2 28,
 qC 30 Zk [.t 29],
 qm 4 30])
 (.seq
 (.reg 7 none [1,3,4,32] [
 qm 31 4,
 qB 32 .neq 31 0])
 (qq 32
 (.seq
 (.reg 8 none [2] [
 qm 33 4,
 qm 2 33])
 .ret)
 .skip)))
 (.seq
 (.reg 9 none [1,3,5] [
 qi 5 0])
 (.block 2
 (.loop
 (.seq
 (.seq
 (.reg 10 none [1,3,5,36] [
 qm 34 5,
 qm 35 3,
 qb 36 .lss 34 35])
 (qq 36
 .skip
 (.exit 2)))
 (.seq
 (.block 3
 (.seq
 (.reg 12 (some [0,1,0,7,15,31,0,64,0,448,960,1984,4095]) [1,3,5,51] [
 qf 39 0 1,
 ql 40 39,
 qm 41 5,
 qx 42 2 40 41,
 qf 43 0 42,
 ql 44 43,
 qf 45 0 1,
 ql 46 45,
 qm 47 3,
 qx 48 2 46 47,
 qf 49 0 48,
 ql 50 49,
 qb 51 .eql 44 50])
 (qq 51
 (.seq
 (.reg 13 none [2] [
 qi 2 10])
 .ret)
 .skip)))
 (.reg 11 none [1,3,5] [
 qm 37 5,
 qa 38 37,
 qm 5 38]))))))))
 (.reg 5 none [1,3] [
 qm 23 3,
 qa 24 23,
 qm 3 24]))))))
 (.seq
 (.seq
 (.reg 14 none [1,63] [
 qf 52 1 1,
 ql 53 52,
 qn 54 53,
 qB 55 .eql 54 0,
 qm 56 55,
 qff 57 56 1 1,
 qlf 58 56 57,
 .rf 59 56 (.ixL 7 (.t 58) (qI 0)),
 qff 60 56 1 59,
 qlf 61 56 60,
 .rf 62 56 (.bin .neq false (.t 61) (qI 1)),
 qP 63 56 62])
 (qq 63
 (.seq
 (.reg 15 none [2] [
 qi 2 7])
 .ret)
 .skip))
 (.seq
 (.seq
 (.reg 16 none [1,6] [
 qi 6 0])
 (.block 4
 (.loop
 (.seq
 (.seq
 (.reg 17 none [1,6,68] [
 qm 64 6,
 qf 65 1 1,
 ql 66 65,
 qn 67 66,
 qb 68 .lss 64 67])
 (qq 68
 .skip
 (.exit 4)))
 (.seq
 (.block 5
 (.seq
 (.reg 19 none [1,6,7] [
 qL 71 2 1,
 qm 72 6,
 qC 73 Js [.t 71,.t 72],
 qm 7 73])
 (.seq
 (.reg 20 none [1,6,7,75] [
 qm 74 7,
 qB 75 .neq 74 0])
 (qq 75
 (.seq
 (.reg 21 none [2] [
 qm 76 7,
 qm 2 76])
 .ret)
 .skip))))
 (.reg 18 none [1,6] [
 qm 69 6,
 qa 70 69,
 qm 6 70]))))))
 (.seq
 (.reg 22 none [2] [
 qi 2 0])
 .ret))))))
def qI3:List (Nat×List Nat):=qy Jx
theorem qI4:FnIR Tryz.prog jJ 77 qI3 Jx [(.tmp 2)]:=
 qF Tryz.func92
def KN:RC:=
 (.seq
 (.reg 0 none [0] [
 qc 2 false])
 (.seq
 (.seq
 (.reg 1 none [0,21] [
 qm 4 0,
 .r 5 (.lenS (.t 4)),
 qB 6 .lss 5 1,
 qm 7 6,
 qmf 8 7 0,
 .rf 9 7 (.lenS (.t 8)),
 .rf 10 7 (.bin .gtr false (.t 9) (qI 16)),
 qP 11 7 10,
 qm 12 11,
 qmf 13 12 0,
 .rf 14 12 (.sx (.t 13) (qI 0)),
 .rf 15 12 (.bin .lss false (.t 14) (.k (.v (.int .u8 97)))),
 qP 16 12 15,
 qm 17 16,
 qmf 18 17 0,
 .rf 19 17 (.sx (.t 18) (qI 0)),
 .rf 20 17 (.bin .gtr false (.t 19) (.k (.v (.int .u8 122)))),
 qP 21 17 20])
 (qq 21
 (.seq
 (.reg 2 none [2] [
 qc 2 false])
 .ret)
 .skip))
 (.seq
 (.seq
 (.reg 3 none [0,3] [
 qi 3 0])
 (.block 0
 (.loop
 (.seq
 (.seq
 (.reg 4 none [0,3,25] [
 qm 22 3,
 qm 23 0,
 .r 24 (.lenS (.t 23)),
 qb 25 .lss 22 24])
 (qq 25
 .skip
 (.exit 0)))
 (.seq
 (.block 1
 (.seq
 (.reg 6 none [0,3,56] [
 qm 28 0,
 qm 29 3,
 .r 30 (.sx (.t 28) (.t 29)),
 .r 31 (.bin .geq false (.t 30) (.k (.v (.int .u8 97)))),
 qm 32 31,
 qmt 33 32 0,
 qmt 34 32 3,
 .rt 35 32 (.sx (.t 33) (.t 34)),
 .rt 36 32 (.bin .leq false (.t 35) (.k (.v (.int .u8 122)))),
 qp 37 32 36,
 qm 38 37,
 qmf 39 38 0,
 qmf 40 38 3,
 .rf 41 38 (.sx (.t 39) (.t 40)),
 .rf 42 38 (.bin .geq false (.t 41) (.k (.v (.int .u8 48)))),
 qmf 43 38 42,
 qmt 44 43 0,
 qmt 45 43 3,
 .rt 46 43 (.sx (.t 44) (.t 45)),
 .rt 47 43 (.bin .leq false (.t 46) (.k (.v (.int .u8 57)))),
 .rf 48 38 (.pick (.t 43) (.t 47) (.k (.v (.bool false)))),
 qP 49 38 48,
 qm 50 49,
 qmf 51 50 0,
 qmf 52 50 3,
 .rf 53 50 (.sx (.t 51) (.t 52)),
 .rf 54 50 (.bin .eql false (.t 53) (.k (.v (.int .u8 95)))),
 qP 55 50 54,
 .r 56 (.un .not (.t 55))])
 (qq 56
 (.seq
 (.reg 7 none [2] [
 qc 2 false])
 .ret)
 .skip)))
 (.reg 5 none [0,3] [
 qm 26 3,
 qa 27 26,
 qm 3 27]))))))
 (.seq
 (.seq
 (.reg 8 none [57] [
 qm 57 0])
 (.block 2
 (.seq
 (.seq
 (.reg 9 none [57,58] [
 .r 59 (.bin .eql false (.t 57) (.k (.v (.string ⟨#[97,108,108]⟩)))),
 qm 58 59])
 (qq 58
 .skip
 (.seq
 (.reg 10 none [57,58] [
 .r 60 (.bin .eql false (.t 57) (.k (.v (.string ⟨#[97,110,100]⟩)))),
 qm 58 60])
 (qq 58
 .skip
 (.seq
 (.reg 11 none [57,58] [
 .r 61 (.bin .eql false (.t 57) (.k (.v (.string ⟨#[101,118,101,110,116]⟩)))),
 qm 58 61])
 (qq 58
 .skip
 (.seq
 (.reg 12 none [57,58] [
 .r 62 (.bin .eql false (.t 57) (.k (.v (.string ⟨#[102,114,111,109]⟩)))),
 qm 58 62])
 (qq 58
 .skip
 (.seq
 (.reg 13 none [57,58] [
 .r 63 (.bin .eql false (.t 57) (.k (.v (.string ⟨#[109,105,115,115,105,110,103]⟩)))),
 qm 58 63])
 (qq 58
 .skip
 (.seq
 (.reg 14 none [57,58] [
 .r 64 (.bin .eql false (.t 57) (.k (.v (.string ⟨#[110,111,116]⟩)))),
 qm 58 64])
 (qq 58
 .skip
 (.seq
 (.reg 15 none [57,58] [
 .r 65 (.bin .eql false (.t 57) (.k (.v (.string ⟨#[111,110]⟩)))),
 qm 58 65])
 (qq 58
 .skip
 (.seq
 (.reg 16 none [57,58] [
 .r 66 (.bin .eql false (.t 57) (.k (.v (.string ⟨#[111,114]⟩)))),
 qm 58 66])
 (qq 58
 .skip
 (.seq
 (.reg 17 none [57,58] [
 .r 67 (.bin .eql false (.t 57) (.k (.v (.string ⟨#[116,111]⟩)))),
 qm 58 67])
 (qq 58
 .skip
 (.seq
 (.reg 18 none [57,58] [
 .r 68 (.bin .eql false (.t 57) (.k (.v (.string ⟨#[117,110,100,101,114]⟩)))),
 qm 58 68])
 (qq 58
 .skip
 (.reg 19 none [58] [
 .r 69 (.bin .eql false (.t 57) (.k (.v (.string ⟨#[119,104,101,114,101]⟩)))),
 qm 58 69])))))))))))))))))))))
 (qq 58
 (.seq
 (.reg 20 none [2] [
 qc 2 false])
 .ret)
 .skip))))
 (.seq
 (.reg 21 none [2] [
 qc 2 true])
 .ret)))))
def qS0:List (Nat×List Nat):=qy KN
theorem qS1:FnIR Tryz.prog jG 70 qS0 KN [(.tmp 2)]:=
 qF Tryz.func93
def Jy:RC:=
 (.seq
 (.reg 0 none [2,3] [
 .r 2 (.box (.t 0)),
 .r 3 (.box (.t 1)),
 qi 4 0])
 (.seq
 (.seq
 (.reg 1 none [2,3,5] [
 qL 6 2 2,
 qC 7 jJ [.t 6],
 qm 5 7])
 (.seq
 (.reg 2 none [2,3,5,9] [
 qm 8 5,
 qB 9 .neq 8 0])
 (qq 9
 (.seq
 (.reg 3 none [4] [
 qm 10 5,
 qm 4 10])
 .ret)
 .skip)))
 (.seq
 (.seq
 (.reg 4 none [2,3,13] [
 qL 11 6 3,
 qC 12 Zl [.t 11,qI 41],
 qB 13 .gtr 12 40])
 (qq 13
 (.seq
 (.reg 5 none [4] [
 qi 4 1])
 .ret)
 .skip))
 (.seq
 (.seq
 (.reg 6 none [2,3,16] [
 qL 14 6 3,
 qC 15 Zm [.t 14],
 qB 16 .gtr 15 10])
 (qq 16
 (.seq
 (.reg 7 none [4] [
 qi 4 22])
 .ret)
 .skip))
 (.seq
 (.reg 8 none [4] [
 qL 17 2 2,
 qL 18 6 3,
 qC 19 Jn [.t 17,.t 18],
 qm 4 19])
 .ret)))))
def qI5:List (Nat×List Nat):=qy Jy
theorem qI6:FnIR Tryz.prog yg 20 qI5 Jy [(.tmp 4)]:=
 qF Tryz.func94
def yw:RC:=
 (.seq
 (.reg 0 none [2,3] [
 .r 2 (.box (.t 0)),
 .r 3 (.box (.t 1)),
 qi 4 0])
 (.seq
 (.seq
 (.reg 1 none [2,3,5] [
 qL 6 2 2,
 qC 7 zH [.t 6],
 qm 5 7])
 (.block 0
 (.seq
 (.reg 2 none [2,3,5,8] [
 qm 9 5,
 qB 10 .neq 9 0,
 qm 8 10])
 (qq 8
 (.seq
 (.reg 3 none [4] [
 qm 11 5,
 qm 4 11])
 .ret)
 (.seq
 (.reg 4 none [2,3,12] [
 qL 13 6 3,
 qC 14 kQ [.t 13,qI 40],
 qB 15 .gtr 14 40,
 qm 12 15])
 (qq 12
 (.seq
 (.reg 5 none [4] [
 qi 4 1])
 .ret)
 (.seq
 (.reg 6 none [2,3,16] [
 qL 17 6 3,
 qC 18 wz [.t 17],
 qB 19 .gtr 18 10,
 qm 16 19])
 (qq 16
 (.seq
 (.reg 7 none [4] [
 qi 4 22])
 .ret)
 .skip))))))))
 (.seq
 (.reg 8 none [4] [
 qL 20 2 2,
 qL 21 6 3,
 qC 22 jq [.t 20,.t 21],
 qm 4 22])
 .ret)))
def qj8:List (Nat×List Nat):=qy yw
theorem qj9:FnIR Tryz.prog zI 23 qj8 yw [(.tmp 4)]:=
 qF Tryz.func96
def QS:RC:=
 (.seq
 (.reg 0 none [1,2,3,4] [
 .r 4 (.box (.t 0)),
 qi 8 0])
 (.seq
 (.seq
 (.reg 1 none [1,2,3,4,9] [
 qL 11 2 4,
 qm 12 1,
 qC 13 jv [.t 11,.t 12],
 qm 9 13])
 (.seq
 (.reg 2 none [1,2,3,4,20] [
 qm 14 2,
 qB 15 .lss 14 0,
 qm 16 15,
 qmf 17 16 2,
 qmf 18 16 9,
 .rf 19 16 (.bin .gtr false (.t 17) (.t 18)),
 qP 20 16 19])
 (qq 20
 (.seq
 (.reg 3 none [8] [
 .r 8 (.mv (.k (.v (.int .i64 (-1)))))])
 .ret)
 .skip)))
 (.seq
 (.reg 4 none [2,3,4,10] [
 qf 21 1 4,
 ql 22 21,
 qm 23 1,
 qx 24 7 22 23,
 qL 25 7 24,
 .r 10 (.new (.agg [.v (.string ⟨#[]⟩),.v (.int .i64 0),.v (.int .i64 0),.v (.int .i64 0),.v (.int .i64 0),.v (.slice none 0 0),.v (.bool false)])),
 qs 7 10 25])
 (.seq
 (.block 0
 (.seq
 (.reg 5 none [2,3,4,10,26] [
 qf 27 1 10,
 ql 28 27,
 qB 29 .eql 28 2,
 qm 30 29,
 .rt 31 30 (.ld (some 2) (.t 4)),
 .rt 32 30 (.ld (some 7) (.t 10)),
 qmt 33 30 3,
 .rt 34 30 (.call (.k (.clo KE [])) [.t 31,.t 32,.t 33]),
 .rt 35 30 (.un .not (.t 34)),
 qp 36 30 35,
 qm 26 36])
 (qq 26
 (.seq
 (.reg 6 none [8] [
 .r 8 (.mv (.k (.v (.int .i64 (-1)))))])
 .ret)
 (.seq
 (.reg 7 none [2,3,4,10,37] [
 qf 38 1 10,
 ql 39 38,
 qB 40 .eql 39 2,
 qm 37 40])
 (qq 37
 (.seq
 (.reg 8 none [8] [
 qf 41 0 4,
 ql 42 41,
 qf 43 2 10,
 ql 44 43,
 qx 45 2 42 44,
 qL 46 2 45,
 qm 47 3,
 qm 48 2,
 qC 49 yU [.t 46,.t 47,.t 48],
 qm 8 49])
 .ret)
 (.seq
 (.reg 9 none [2,3,10,50] [
 qm 51 3,
 .r 52 (.bin .neq false (.t 51) (.k (.v (.int .i64 (-1099511627776))))),
 qm 53 52,
 qmt 54 53 3,
 .rt 55 53 (.bin .lss false (.t 54) (.k (.v (.int .i64 (-1000000))))),
 qmt 56 53 55,
 qmf 57 56 3,
 .rf 58 56 (.bin .gtr false (.t 57) (qI 1000000)),
 .rt 59 53 (.pick (.t 56) (.k (.v (.bool true))) (.t 58)),
 qp 60 53 59,
 qm 50 60])
 (qq 50
 (.seq
 (.reg 10 none [8] [
 .r 8 (.mv (.k (.v (.int .i64 (-1)))))])
 .ret)
 (.seq
 (.reg 11 none [2,3,10,61] [
 qm 62 2,
 qB 63 .eql 62 0,
 qm 61 63])
 (qq 61
 (.seq
 (.reg 12 none [8] [
 qi 8 0])
 .ret)
 (.seq
 (.reg 13 none [2,3,10,64] [
 qm 65 3,
 .r 66 (.bin .eql false (.t 65) (.k (.v (.int .i64 (-1099511627776))))),
 qm 64 66])
 (qq 64
 (.seq
 (.reg 14 none [8] [
 .r 8 (.mv (.k (.v (.int .i64 (-1099511627776)))))])
 .ret)
 .skip)))))))))))
 (.seq
 (.reg 15 none [8] [
 qm 67 3,
 qL 68 7 10,
 qm 69 2,
 qC 70 Qw [.t 68,.t 69],
 qC 71 yj [.t 67,.t 70],
 qm 8 71])
 .ret)))))
def qv3:List (Nat×List Nat):=qy QS
theorem qv4:FnIR Tryz.prog ju 72 qv3 QS [(.tmp 8)]:=
 qF Tryz.func105
def ZL:RC:=
 (.seq
 (.reg 0 none [1] [
 .r 1 (.box (.t 0)),
 qi 2 0])
 (.seq
 (.seq
 (.reg 1 none [1,17] [
 qf 8 0 1,
 ql 9 8,
 qn 10 9,
 qB 11 .gtr 10 6,
 qm 12 11,
 qff 13 12 1 1,
 qlf 14 12 13,
 .rf 15 12 (.lenL (.t 14)),
 .rf 16 12 (.bin .gtr false (.t 15) (qI 8)),
 qP 17 12 16])
 (qq 17
 (.seq
 (.reg 2 none [2] [
 qi 2 1])
 .ret)
 .skip))
 (.seq
 (.seq
 (.reg 3 none [1,19,20,21] [
 qf 18 0 1,
 ql 19 18,
 qn 20 19,
 qi 21 0])
 (.block 0
 (.loop
 (.seq
 (.reg 4 none [1,19,20,21,22] [
 qb 22 .lss 21 20])
 (.seq
 (qq 22
 .skip
 (.exit 0))
 (.seq
 (.block 1
 (.seq
 (.reg 5 none [1,3,4,19,20,21] [
 qm 23 21,
 qx 24 2 19 21,
 qL 25 2 24,
 .r 4 (.new (.agg [.v (.string ⟨#[]⟩),.v (.slice none 0 0)])),
 qm 3 23,
 qs 2 4 25])
 (.seq
 (.seq
 (.reg 6 none [1,3,4,5,19,20,21] [
 qL 26 2 4,
 qC 27 kR [.t 26],
 qm 5 27])
 (.seq
 (.reg 7 none [1,3,4,5,19,20,21,29] [
 qm 28 5,
 qB 29 .neq 28 0])
 (qq 29
 (.seq
 (.reg 8 none [2] [
 qm 30 5,
 qm 2 30])
 .ret)
 .skip)))
 (.seq
 (.reg 9 none [1,19,20,21,36] [
 qf 31 0 1,
 ql 32 31,
 qm 33 3,
 .r 34 (.slL 2 (.t 32) none (some (.t 33))),
 .r 35 (.mf wA [.t 4]),
 qC 36 zr [.t 34,.t 35]])
 (qq 36
 (.seq
 (.reg 10 none [2] [
 qi 2 10])
 .ret)
 .skip)))))
 (.reg 11 none [1,19,20,21] [
 qa 37 21,
 qm 21 37])))))))
 (.seq
 (.seq
 (.reg 12 none [1,49] [
 qf 38 1 1,
 ql 39 38,
 qn 40 39,
 qB 41 .eql 40 0,
 qm 42 41,
 qff 43 42 1 1,
 qlf 44 42 43,
 .rf 45 42 (.ixL 7 (.t 44) (qI 0)),
 qff 46 42 1 45,
 qlf 47 42 46,
 .rf 48 42 (.bin .neq false (.t 47) (qI 1)),
 qP 49 42 48])
 (qq 49
 (.seq
 (.reg 13 none [2] [
 qi 2 7])
 .ret)
 .skip))
 (.seq
 (.seq
 (.reg 14 none [1,52,53] [
 qf 50 1 1,
 ql 51 50,
 qn 52 51,
 qi 53 0])
 (.block 2
 (.loop
 (.seq
 (.reg 15 none [1,52,53,54] [
 qb 54 .lss 53 52])
 (.seq
 (qq 54
 .skip
 (.exit 2))
 (.seq
 (.block 3
 (.seq
 (.reg 16 none [1,6,52,53] [
 qm 55 53,
 qm 6 55])
 (.seq
 (.reg 17 none [1,7,52,53] [
 qL 56 2 1,
 qm 57 6,
 qC 58 kY [.t 56,.t 57],
 qm 7 58])
 (.seq
 (.reg 18 none [1,7,52,53,60] [
 qm 59 7,
 qB 60 .neq 59 0])
 (qq 60
 (.seq
 (.reg 19 none [2] [
 qm 61 7,
 qm 2 61])
 .ret)
 .skip)))))
 (.reg 20 none [1,52,53] [
 qa 62 53,
 qm 53 62])))))))
 (.seq
 (.reg 21 none [2] [
 qi 2 0])
 .ret))))))
def qD0:List (Nat×List Nat):=qy ZL
theorem qD1:FnIR Tryz.prog zH 63 qD0 ZL [(.tmp 2)]:=
 qF Tryz.func109
def KO:RC:=
 (.seq
 (.reg 0 none [0] [
 qc 2 false])
 (.seq
 (.seq
 (.reg 1 none [0,22] [
 qm 5 0,
 .r 6 (.lenS (.t 5)),
 qB 7 .lss 6 1,
 qm 8 7,
 qmf 9 8 0,
 .rf 10 8 (.lenS (.t 9)),
 .rf 11 8 (.bin .gtr false (.t 10) (qI 16)),
 qP 12 8 11,
 qm 13 12,
 qmf 14 13 0,
 .rf 15 13 (.sx (.t 14) (qI 0)),
 .rf 16 13 (.bin .lss false (.t 15) (.k (.v (.int .u8 97)))),
 qP 17 13 16,
 qm 18 17,
 qmf 19 18 0,
 .rf 20 18 (.sx (.t 19) (qI 0)),
 .rf 21 18 (.bin .gtr false (.t 20) (.k (.v (.int .u8 122)))),
 qP 22 18 21])
 (qq 22
 (.seq
 (.reg 2 none [2] [
 qc 2 false])
 .ret)
 .skip))
 (.seq
 (.seq
 (.reg 3 none [0,24,25,26] [
 qm 23 0,
 .r 24 (.cvSB (.t 23)),
 qn 25 24,
 qi 26 0])
 (.block 0
 (.loop
 (.seq
 (.reg 4 none [0,24,25,26,27] [
 qb 27 .lss 26 25])
 (.seq
 (qq 27
 .skip
 (.exit 0))
 (.seq
 (.block 1
 (.seq
 (.reg 5 none [0,4,24,25,26] [
 qx 28 1 24 26,
 ql 29 28,
 qm 4 29])
 (.seq
 (.reg 6 none [0,24,25,26,47] [
 qm 30 4,
 .r 31 (.bin .lss false (.t 30) (.k (.v (.int .u8 97)))),
 qm 32 31,
 qmf 33 32 4,
 .rf 34 32 (.bin .gtr false (.t 33) (.k (.v (.int .u8 122)))),
 qP 35 32 34,
 qm 36 35,
 qmt 37 36 4,
 .rt 38 36 (.bin .lss false (.t 37) (.k (.v (.int .u8 48)))),
 qmt 39 36 38,
 qmf 40 39 4,
 .rf 41 39 (.bin .gtr false (.t 40) (.k (.v (.int .u8 57)))),
 .rt 42 36 (.pick (.t 39) (.k (.v (.bool true))) (.t 41)),
 qp 43 36 42,
 qm 44 43,
 qmt 45 44 4,
 .rt 46 44 (.bin .neq false (.t 45) (.k (.v (.int .u8 95)))),
 qp 47 44 46])
 (qq 47
 (.seq
 (.reg 7 none [2] [
 qc 2 false])
 .ret)
 .skip))))
 (.reg 8 none [0,24,25,26] [
 qa 48 26,
 qm 26 48])))))))
 (.seq
 (.seq
 (.reg 9 none [49] [
 qm 49 0])
 (.block 2
 (.seq
 (.seq
 (.reg 10 none [49,50] [
 .r 51 (.bin .eql false (.t 49) (.k (.v (.string ⟨#[97,108,108]⟩)))),
 qm 50 51])
 (qq 50
 .skip
 (.seq
 (.reg 11 none [49,50] [
 .r 52 (.bin .eql false (.t 49) (.k (.v (.string ⟨#[97,110,100]⟩)))),
 qm 50 52])
 (qq 50
 .skip
 (.seq
 (.reg 12 none [49,50] [
 .r 53 (.bin .eql false (.t 49) (.k (.v (.string ⟨#[101,118,101,110,116]⟩)))),
 qm 50 53])
 (qq 50
 .skip
 (.seq
 (.reg 13 none [49,50] [
 .r 54 (.bin .eql false (.t 49) (.k (.v (.string ⟨#[102,114,111,109]⟩)))),
 qm 50 54])
 (qq 50
 .skip
 (.seq
 (.reg 14 none [49,50] [
 .r 55 (.bin .eql false (.t 49) (.k (.v (.string ⟨#[109,105,115,115,105,110,103]⟩)))),
 qm 50 55])
 (qq 50
 .skip
 (.seq
 (.reg 15 none [49,50] [
 .r 56 (.bin .eql false (.t 49) (.k (.v (.string ⟨#[110,111,116]⟩)))),
 qm 50 56])
 (qq 50
 .skip
 (.seq
 (.reg 16 none [49,50] [
 .r 57 (.bin .eql false (.t 49) (.k (.v (.string ⟨#[111,110]⟩)))),
 qm 50 57])
 (qq 50
 .skip
 (.seq
 (.reg 17 none [49,50] [
 .r 58 (.bin .eql false (.t 49) (.k (.v (.string ⟨#[111,114]⟩)))),
 qm 50 58])
 (qq 50
 .skip
 (.seq
 (.reg 18 none [49,50] [
 .r 59 (.bin .eql false (.t 49) (.k (.v (.string ⟨#[116,111]⟩)))),
 qm 50 59])
 (qq 50
 .skip
 (.seq
 (.reg 19 none [49,50] [
 .r 60 (.bin .eql false (.t 49) (.k (.v (.string ⟨#[117,110,100,101,114]⟩)))),
 qm 50 60])
 (qq 50
 .skip
 (.reg 20 none [50] [
 .r 61 (.bin .eql false (.t 49) (.k (.v (.string ⟨#[119,104,101,114,101]⟩)))),
 qm 50 61])))))))))))))))))))))
 (qq 50
 (.seq
 (.reg 21 none [2] [
 qc 2 false])
 .ret)
 .skip))))
 (.seq
 (.reg 22 none [2] [
 qc 2 true])
 .ret)))))
def qS2:List (Nat×List Nat):=qy KO
theorem qS3:FnIR Tryz.prog jH 62 qS2 KO [(.tmp 2)]:=
 qF Tryz.func110
def ki:RC:=
 (.seq
 (.reg 0 none [0,1] [
 qc 4 false])
 (.seq
 (.reg 1 none [4] [
 qm 5 0,
 qm 6 1,
 qC 7 yk [.t 5,.t 6],
 qB 8 .geq 7 0,
 qm 4 8])
 .ret))
def Wy:List (Nat×List Nat):=qy ki
theorem Wz:FnIR Tryz.prog jb 9 Wy ki [(.tmp 4)]:=
 qF Tryz.func113
def ZM:RC:=
 (.seq
 (.reg 0 none [1] [
 .r 1 (.box (.t 0)),
 qi 2 0])
 (.seq
 (.seq
 (.reg 1 none [1,5] [
 qL 3 2 1,
 qC 4 Zk [.t 3],
 qB 5 .neq 4 0])
 (qq 5
 (.seq
 (.reg 2 none [2] [
 .r 2 (.mv (.k (.v (.int .i64 (-1)))))])
 .ret)
 .skip))
 (.seq
 (.reg 3 none [2] [
 qL 6 2 1,
 qf 7 1 1,
 ql 8 7,
 qn 9 8,
 qB 10 .sub 9 1,
 qC 11 yi [.t 6,.t 10],
 qa 12 11,
 qm 2 12])
 .ret)))
def qD2:List (Nat×List Nat):=qy ZM
theorem qD3:FnIR Tryz.prog Jr 13 qD2 ZM [(.tmp 2)]:=
 qF Tryz.func115
def wM:RC:=
 (.seq
 (.reg 0 none [0,3] [
 .r 3 (.box (.t 1)),
 qi 4 0])
 (.seq
 (.reg 1 none [0,5] [
 qL 6 2 3,
 qC 7 jW [.t 6,qI 2],
 qm 5 7])
 (.seq
 (.reg 2 none [4] [
 qm 8 5,
 qm 9 0,
 qm 10 5,
 qn 11 10,
 qC 12 qw [.t 9,.t 11],
 qx 13 1 8 12,
 ql 14 13,
 qm 4 14])
 .ret)))
def qe4:List (Nat×List Nat):=qy wM
theorem qe5:FnIR Tryz.prog yh 15 qe4 wM [(.tmp 4)]:=
 qF Tryz.func123
def jB:RC:=
 (.seq
 (.reg 0 none [0] [
 .r 2 (.mv (.k (.v (.string ⟨#[]⟩))))])
 (.seq
 (.reg 1 none [2] [
 qm 3 0,
 qC 4 zD [.t 3,qI 10],
 qm 2 4])
 .ret))
def Kd:List (Nat×List Nat):=qy jB
theorem Ke:FnIR Tryz.prog jK 5 Kd jB [(.tmp 2)]:=
 qF Tryz.func124
def jP:RC:=
 (.seq
 (.reg 0 none [2,3] [
 .r 2 (.box (.t 0)),
 .r 3 (.box (.t 1)),
 qi 4 0])
 (.seq
 (.seq
 (.reg 1 none [2,3,5] [
 qL 7 2 2,
 qC 8 zH [.t 7],
 qm 5 8])
 (.block 0
 (.seq
 (.reg 2 none [2,3,5,9] [
 qm 10 5,
 qB 11 .neq 10 0,
 qm 9 11])
 (qq 9
 (.seq
 (.reg 3 none [4] [
 qm 12 5,
 qm 4 12])
 .ret)
 (.seq
 (.reg 4 none [2,3,13] [
 qf 14 0 3,
 ql 15 14,
 qC 16 jH [.t 15],
 .r 17 (.un .not (.t 16)),
 qm 13 17])
 (qq 13
 (.seq
 (.reg 5 none [4] [
 qi 4 3])
 .ret)
 (.seq
 (.reg 6 none [2,3,18] [
 qf 19 1 3,
 ql 20 19,
 qB 21 .lss 20 1,
 qm 22 21,
 qff 23 22 1 3,
 qlf 24 22 23,
 .rf 25 22 (.bin .gtr false (.t 24) (qI 3)),
 qP 26 22 25,
 qm 18 26])
 (qq 18
 (.seq
 (.reg 7 none [4] [
 qi 4 4])
 .ret)
 .skip))))))))
 (.seq
 (.seq
 (.reg 8 none [2,3,6] [
 qL 27 2 2,
 qf 28 2 3,
 qL 29 6 28,
 qC 30 zI [.t 27,.t 29],
 qm 6 30])
 (.seq
 (.reg 9 none [2,3,6,32] [
 qm 31 6,
 qB 32 .neq 31 0])
 (qq 32
 (.seq
 (.reg 10 none [4] [
 qm 33 6,
 qm 4 33])
 .ret)
 .skip)))
 (.seq
 (.seq
 (.reg 11 none [2,3,35] [
 qf 34 1 3,
 ql 35 34])
 (.block 1
 (.seq
 (.reg 12 none [2,3,35,36] [
 qB 37 .eql 35 1,
 qm 36 37])
 (qq 36
 (.seq
 (.reg 13 none [4] [
 qL 38 2 2,
 qL 39 17 3,
 qC 40 wF [.t 38,.t 39],
 qm 4 40])
 .ret)
 (.seq
 (.reg 14 none [2,3,41] [
 qB 42 .eql 35 2,
 qm 41 42])
 (qq 41
 (.seq
 (.reg 15 none [4] [
 qL 43 2 2,
 qL 44 17 3,
 qC 45 wG [.t 43,.t 44],
 qm 4 45])
 .ret)
 .skip))))))
 (.seq
 (.reg 16 none [4] [
 qL 46 2 2,
 qL 47 17 3,
 qC 48 wH [.t 46,.t 47],
 qm 4 48])
 .ret)))))
def KP:List (Nat×List Nat):=qy jP
theorem KQ:FnIR Tryz.prog zR 49 KP jP [(.tmp 4)]:=
 qF Tryz.func125
def zk:RC:=
 (.seq
 (.reg 0 none [0,1] [
 qc 4 false])
 (.seq
 (.reg 1 none [4] [
 qm 5 0,
 qm 6 1,
 qC 7 zL [.t 5,.t 6],
 qB 8 .geq 7 0,
 qm 4 8])
 .ret))
def Qa:List (Nat×List Nat):=qy zk
theorem Qc:FnIR Tryz.prog zq 9 Qa zk [(.tmp 4)]:=
 qF Tryz.func126
def kj:RC:=
 (.seq
 (.reg 0 none [1,2] [
 .r 2 (.box (.t 0)),
 qc 3 false])
 (.seq
 (.reg 1 none [3] [
 qf 4 0 2,
 ql 5 4,
 qf 6 0 1,
 ql 7 6,
 qb 8 .eql 5 7,
 qm 3 8])
 .ret))
def WA:List (Nat×List Nat):=qy kj
theorem WB:FnIR Tryz.prog jd 9 WA kj [(.tmp 3)]:=
 qF Tryz.func127
def yx:RC:=
 (.seq
 (.reg 0 none [0] [
 .r 2 (.mv (qN))])
 (.seq
 (.reg 1 none [0,3,4] [
 .r 11 (.ext (.mkm .ii) []),
 qm 3 11,
 qi 4 0])
 (.seq
 (.seq
 (.reg 2 none [3,4,12,13,14] [
 qm 12 0,
 qn 13 12,
 qi 14 0])
 (.block 0
 (.loop
 (.seq
 (.reg 3 none [3,4,12,13,14,15] [
 qb 15 .lss 14 13])
 (.seq
 (qq 15
 .skip
 (.exit 0))
 (.seq
 (.block 1
 (.seq
 (.reg 4 none [3,4,6,12,13,14] [
 qx 16 1 12 14,
 ql 17 16,
 qm 6 17])
 (.seq
 (.reg 5 none [3,4,12,13,14,18,19,20] [
 qm 18 6,
 qn 19 18,
 qi 20 0])
 (.block 2
 (.loop
 (.seq
 (.reg 6 none [3,4,12,13,14,18,19,20,21] [
 qb 21 .lss 20 19])
 (.seq
 (qq 21
 .skip
 (.exit 2))
 (.seq
 (.block 3
 (.seq
 (.reg 7 none [3,4,8,12,13,14,18,19,20] [
 qx 22 2 18 20,
 qL 23 2 22,
 .r 8 (.new (.agg [.v (.int .i64 0),.v (.int .i64 0)])),
 qs 2 8 23])
 (.reg 8 (some [0,0,2,0,0,16,56,0,128,504,0,0,2048,7168,1023,32767]) [3,4,12,13,14,18,19,20] [
 qm 24 3,
 qf 25 0 8,
 ql 26 25,
 qm 27 3,
 qf 28 0 8,
 ql 29 28,
 .r 30 (.ext (.mget .ii false) [.t 27,.t 29]),
 qf 31 1 8,
 ql 32 31,
 .r 33 (.mx [.t 30,.t 32]),
 qm 34 4,
 qf 35 0 8,
 ql 36 35,
 .r 37 (.mx [.t 34,.t 36]),
 .rn (.ext (.mput .ii) [.t 24,.t 26,.t 33]),
 qm 4 37])))
 (.reg 9 none [3,4,12,13,14,18,19,20] [
 qa 38 20,
 qm 20 38])))))))))
 (.reg 10 none [3,4,12,13,14] [
 qa 39 14,
 qm 14 39])))))))
 (.seq
 (.reg 11 none [3,4,9] [
 .r 9 (.mv (qN))])
 (.seq
 (.seq
 (.reg 12 none [3,9,41,42] [
 qm 40 4,
 qa 41 40,
 qi 42 0])
 (.block 4
 (.loop
 (.seq
 (.reg 13 none [3,9,41,42,43] [
 qb 43 .lss 42 41])
 (.seq
 (qq 43
 .skip
 (.exit 4))
 (.seq
 (.block 5
 (.seq
 (.reg 14 none [3,9,10,41,42] [
 qm 44 42,
 qm 10 44])
 (.seq
 (.reg 15 none [3,9,10,41,42,48] [
 qm 45 3,
 qm 46 10,
 .r 47 (.ext (.mget .ii false) [.t 45,.t 46]),
 qB 48 .gtr 47 0])
 (qq 48
 (.reg 16 none [3,9,41,42] [
 qm 49 9,
 qm 50 10,
 qm 51 3,
 qm 52 10,
 .r 53 (.ext (.mget .ii false) [.t 51,.t 52]),
 .r 54 (.build [.v (.int .i64 0),.v (.int .i64 0)] [((0,1),.t 50),((1,1),.t 53)]),
 .r 55 (.bsl 2 1 [.t 54]),
 .r 56 (.app 2 16 false (.t 49) (.t 55)),
 qm 9 56])
 .skip))))
 (.reg 17 none [3,9,41,42] [
 qa 57 42,
 qm 42 57])))))))
 (.seq
 (.reg 18 none [2] [
 qm 58 9,
 qm 2 58])
 .ret))))))
def qk0:List (Nat×List Nat):=qy yx
theorem qk1:FnIR Tryz.prog kO 59 qk0 yx [(.tmp 2)]:=
 qF Tryz.func128
def Jz:RC:=
 (.seq
 (.reg 0 none [2,3] [
 .r 2 (.box (.t 0)),
 .r 3 (.box (.t 1)),
 qi 4 0])
 (.seq
 (.reg 1 none [3,5] [
 qL 6 2 2,
 qf 7 0 3,
 ql 8 7,
 qC 9 ky [.t 6,.t 8],
 qm 5 9])
 (.seq
 (.block 0
 (.seq
 (.reg 2 none [3,5,10] [
 qm 11 5,
 qB 12 .lss 11 0,
 qm 10 12])
 (qq 10
 (.seq
 (.reg 3 none [4] [
 qi 4 7])
 .ret)
 (.seq
 (.reg 4 none [13] [
 qf 14 1 3,
 ql 15 14,
 qB 16 .lss 15 0,
 qm 17 16,
 qff 18 17 1 3,
 qlf 19 17 18,
 qmf 20 17 5,
 .rf 21 17 (.bin .gtr false (.t 19) (.t 20)),
 qP 22 17 21,
 qm 13 22])
 (qq 13
 (.seq
 (.reg 5 none [4] [
 qi 4 8])
 .ret)
 .skip)))))
 (.seq
 (.reg 6 none [4] [
 qi 4 0])
 .ret))))
def qI7:List (Nat×List Nat):=qy Jz
theorem qI8:FnIR Tryz.prog Zj 23 qI7 Jz [(.tmp 4)]:=
 qF Tryz.func131
def KR:RC:=
 (.seq
 (.reg 0 none [2,3] [
 .r 2 (.box (.t 0)),
 .r 3 (.box (.t 1)),
 qi 4 0])
 (.seq
 (.seq
 (.reg 1 none [2,3,5] [
 qL 6 2 2,
 qC 7 jJ [.t 6],
 qm 5 7])
 (.seq
 (.reg 2 none [2,3,5,9] [
 qm 8 5,
 qB 9 .neq 8 0])
 (qq 9
 (.seq
 (.reg 3 none [4] [
 qm 10 5,
 qm 4 10])
 .ret)
 .skip)))
 (.seq
 (.seq
 (.reg 4 none [2,3,21] [
 qf 11 0 3,
 ql 12 11,
 qB 13 .lss 12 1,
 qm 14 13,
 qff 15 14 0 3,
 qlf 16 14 15,
 qff 17 14 1 2,
 qlf 18 14 17,
 .rf 19 14 (.lenL (.t 18)),
 .rf 20 14 (.bin .geq false (.t 16) (.t 19)),
 qP 21 14 20])
 (qq 21
 (.seq
 (.reg 5 none [4] [
 qi 4 7])
 .ret)
 .skip))
 (.seq
 (.seq
 (.reg 6 (some [0,1,0,0,8,28,63,127]) [29] [
 qf 22 1 3,
 ql 23 22,
 qL 24 2 2,
 qf 25 0 3,
 ql 26 25,
 qC 27 Qu [.t 24,.t 26],
 qC 28 yR [.t 23,qI 0,.t 27],
 .r 29 (.un .not (.t 28))])
 (qq 29
 (.seq
 (.reg 7 none [4] [
 qi 4 8])
 .ret)
 .skip))
 (.seq
 (.reg 8 none [4] [
 qi 4 0])
 .ret)))))
def qS4:List (Nat×List Nat):=qy KR
theorem qS5:FnIR Tryz.prog Yb 30 qS4 KR [(.tmp 4)]:=
 qF Tryz.func132
def zN:RC:=
 (.seq
 (.reg 0 none [0,1] [
 qc 4 false])
 (.seq
 (.reg 1 none [4] [
 qm 5 0,
 qm 6 1,
 qC 7 zC [.t 5,.t 6],
 qB 8 .geq 7 0,
 qm 4 8])
 .ret))
def ZN:List (Nat×List Nat):=qy zN
theorem ZO:FnIR Tryz.prog zb 9 ZN zN [(.tmp 4)]:=
 qF Tryz.func133
def kC:RC:=
 (.seq
 (.reg 0 none [1,2] [
 .r 2 (.box (.t 0)),
 qc 3 false])
 (.seq
 (.reg 1 none [3] [
 ql 4 1,
 .r 5 (.mf zS [.t 2]),
 qC 6 zb [.t 4,.t 5],
 .r 7 (.un .not (.t 6)),
 qm 3 7])
 .ret))
def Yk:List (Nat×List Nat):=qy kC
theorem Yl:FnIR Tryz.prog jp 8 Yk kC [(.tmp 3)]:=
 qF Tryz.func134
def jQ:RC:=
 (.seq
 (.reg 0 none [1,2] [
 .r 2 (.box (.t 0)),
 qc 3 false])
 (.seq
 (.reg 1 none [3] [
 qf 4 0 2,
 ql 5 4,
 qf 6 0 1,
 ql 7 6,
 qb 8 .eql 5 7,
 qm 9 8,
 qft 10 9 1 2,
 qlt 11 9 10,
 qft 12 9 1 1,
 qlt 13 9 12,
 .rt 14 9 (.bin .geq false (.t 11) (.t 13)),
 qp 15 9 14,
 qm 3 15])
 .ret))
def KS:List (Nat×List Nat):=qy jQ
theorem KT:FnIR Tryz.prog zS 16 KS jQ [(.tmp 3)]:=
 qF Tryz.func135
def wj:RC:=
 (.seq
 (.reg 0 none [0,3] [
 .r 3 (.box (.t 1)),
 qi 4 0])
 (.seq
 (.seq
 (.reg 1 none [0,3,7,8] [
 qm 6 0,
 qn 7 6,
 qi 8 0])
 (.block 0
 (.loop
 (.seq
 (.reg 2 none [0,3,7,8,9] [
 qb 9 .lss 8 7])
 (.seq
 (qq 9
 .skip
 (.exit 0))
 (.seq
 (.block 1
 (.seq
 (.reg 3 none [0,3,5,7,8] [
 qm 10 8,
 qm 5 10])
 (.seq
 (.reg 4 (some [0,0,0,6,14,31]) [0,3,5,7,8,16] [
 qL 11 2 3,
 qm 12 0,
 qm 13 5,
 qx 14 2 12 13,
 qL 15 2 14,
 .r 16 (.ext (.eqS false [.i .i64,.i .i64]) [.t 11,.t 15])])
 (qq 16
 (.seq
 (.reg 5 none [4] [
 qm 17 5,
 qm 4 17])
 .ret)
 .skip))))
 (.reg 6 none [0,3,7,8] [
 qa 18 8,
 qm 8 18])))))))
 (.seq
 (.reg 7 none [4] [
 .r 4 (.mv (.k (.v (.int .i64 (-1)))))])
 .ret)))
def YZ:List (Nat×List Nat):=qy wj
theorem qa0:FnIR Tryz.prog wE 19 YZ wj [(.tmp 4)]:=
 qF Tryz.func137
def ZP:RC:=
 (.seq
 (.reg 0 none [1,2,3] [
 .r 3 (.box (.t 0)),
 qi 6 0])
 (.seq
 (.seq
 (.reg 1 none [1,2,3,7] [
 qL 8 2 3,
 qm 9 1,
 qC 10 jv [.t 8,.t 9],
 qm 7 10])
 (.seq
 (.reg 2 none [1,2,3,17] [
 qm 11 2,
 qB 12 .lss 11 0,
 qm 13 12,
 qmf 14 13 2,
 qmf 15 13 7,
 .rf 16 13 (.bin .gtr false (.t 14) (.t 15)),
 qP 17 13 16])
 (qq 17
 (.seq
 (.reg 3 none [6] [
 .r 6 (.mv (.k (.v (.int .i64 (-1)))))])
 .ret)
 .skip)))
 (.seq
 (.block 0
 (.loop
 (.seq
 (.seq
 (.reg 4 (some [0,1,3,7,7,7,39,127,7,7,7,2047,4095,8191]) [1,2,3,31] [
 qm 18 2,
 qB 19 .gtr 18 0,
 qm 20 19,
 .rt 21 20 (.ld (some 2) (.t 3)),
 qmt 22 20 1,
 qmt 23 20 2,
 .rt 24 20 (.bin .sub false (.t 23) (qI 1)),
 .rt 25 20 (.call (.k (.clo yl [])) [.t 21,.t 22,.t 24]),
 .rt 26 20 (.ld (some 2) (.t 3)),
 qmt 27 20 1,
 qmt 28 20 2,
 .rt 29 20 (.call (.k (.clo yl [])) [.t 26,.t 27,.t 28]),
 .rt 30 20 (.bin .eql false (.t 25) (.t 29)),
 qp 31 20 30])
 (qq 31
 .skip
 (.exit 0)))
 (.block 1
 (.reg 5 none [1,2,3] [
 qm 32 2,
 qB 33 .sub 32 1,
 qm 2 33])))))
 (.seq
 (.reg 6 none [6] [
 qm 34 2,
 qm 6 34])
 .ret))))
def qD4:List (Nat×List Nat):=qy ZP
theorem qD5:FnIR Tryz.prog Qv 35 qD4 ZP [(.tmp 6)]:=
 qF Tryz.func138
def Qd:RC:=
 (.seq
 (.reg 0 none [1,2] [
 .r 2 (.box (.t 0)),
 qc 4 false])
 (.seq
 (.reg 1 none [4] [
 qm 5 1,
 qB 6 .gtr 5 0,
 qm 7 6,
 qft 8 7 9 2,
 qlt 9 7 8,
 qmt 10 7 1,
 .rt 11 7 (.bin .eql false (.t 9) (.t 10)),
 qmt 12 7 11,
 qff 13 12 10 2,
 qlf 14 12 13,
 qmf 15 12 1,
 .rf 16 12 (.call (.k (.clo jb [])) [.t 14,.t 15]),
 .rt 17 7 (.pick (.t 12) (.k (.v (.bool true))) (.t 16)),
 qp 18 7 17,
 qm 4 18])
 .ret))
def qp8:List (Nat×List Nat):=qy Qd
theorem qp9:FnIR Tryz.prog wy 19 qp8 Qd [(.tmp 4)]:=
 qF Tryz.func139
def QT:RC:=
 (.seq
 (.reg 0 none [1,2] [
 .r 2 (.box (.t 0)),
 qi 4 0])
 (.seq
 (.seq
 (.reg 1 none [1,2,7] [
 qL 5 2 2,
 qC 6 zH [.t 5],
 qB 7 .neq 6 0])
 (qq 7
 (.seq
 (.reg 2 none [4] [
 .r 4 (.mv (.k (.v (.int .i64 (-1)))))])
 .ret)
 .skip))
 (.seq
 (.reg 3 none [4] [
 qL 8 2 2,
 qm 9 1,
 qC 10 ky [.t 8,.t 9],
 qm 4 10])
 .ret)))
def qv5:List (Nat×List Nat):=qy QT
theorem qv6:FnIR Tryz.prog jv 11 qv5 QT [(.tmp 4)]:=
 qF Tryz.func140
def yz:RC:=
 (.seq
 (.reg 0 none [1] [
 .r 1 (.box (.t 0)),
 .r 2 (.mv (qN))])
 (.seq
 (.seq
 (.reg 1 none [1,5] [
 qf 3 1 1,
 ql 4 3,
 qB 5 .eql 4 3])
 (qq 5
 (.seq
 (.reg 2 none [2] [
 qf 6 2 1,
 qL 7 6 6,
 qf 8 11 1,
 qL 9 6 8,
 .r 10 (.bsl 6 2 [.t 7,.t 9]),
 qm 2 10])
 .ret)
 .skip))
 (.seq
 (.reg 3 none [2] [
 qf 11 2 1,
 qL 12 6 11,
 .r 13 (.bsl 6 1 [.t 12]),
 qm 2 13])
 .ret)))
def qk2:List (Nat×List Nat):=qy yz
theorem qk3:FnIR Tryz.prog kP 14 qk2 yz [(.tmp 2)]:=
 qF Tryz.func141
def yA:RC:=
 (.seq
 (.reg 0 none [2,3] [
 .r 2 (.box (.t 0)),
 .r 3 (.box (.t 1)),
 .r 4 (.mv (qN))])
 (.seq
 (.seq
 (.reg 1 none [2,3,15] [
 qL 12 2 2,
 qL 13 6 3,
 qC 14 zI [.t 12,.t 13],
 qB 15 .neq 14 0])
 (qq 15
 (.seq
 (.reg 2 none [4] [
 .r 4 (.mv (qN))])
 .ret)
 .skip))
 (.seq
 (.reg 3 none [2,3,5] [
 qf 16 1 2,
 ql 17 16,
 qn 18 17,
 .r 19 (.mk 1 8 (.v (.int .i64 0)) (.t 18) (.t 18)),
 qm 5 19])
 (.seq
 (.seq
 (.reg 4 none [2,5,21,22,23] [
 qL 20 6 3,
 qC 21 jx [.t 20],
 qn 22 21,
 qi 23 0])
 (.block 0
 (.loop
 (.seq
 (.reg 5 none [2,5,21,22,23,24] [
 qb 24 .lss 23 22])
 (.seq
 (qq 24
 .skip
 (.exit 0))
 (.seq
 (.block 1
 (.seq
 (.reg 6 none [2,5,7,21,22,23] [
 qx 25 6 21 23,
 qL 26 6 25,
 .r 7 (.new (.agg [.v (.int .i64 0),.v (.int .i64 0),.v (.int .i64 0),.v (.int .i64 0),.v (.int .i64 0),.v (.slice none 0 0)])),
 qs 6 7 26])
 (.seq
 (.reg 7 none [2,5,7,8,21,22,23] [
 qi 8 0])
 (.seq
 (.block 2
 (.loop
 (.seq
 (.seq
 (.reg 8 none [2,5,7,8,21,22,23,31] [
 qL 27 2 2,
 qL 28 6 7,
 qm 29 8,
 qC 30 kZ [.t 27,.t 28,.t 29],
 .r 31 (.un .not (.t 30))])
 (qq 31
 .skip
 (.exit 2)))
 (.block 3
 (.reg 9 none [2,5,7,8,21,22,23] [
 qm 32 8,
 qa 33 32,
 qm 8 33])))))
 (.reg 10 (some [0,0,2,0,0,16,56,120,0,504,1023,2047]) [2,5,21,22,23] [
 qm 34 5,
 qf 35 1 7,
 ql 36 35,
 qm 37 5,
 qf 38 1 7,
 ql 39 38,
 qx 40 1 37 39,
 ql 41 40,
 qm 42 8,
 .r 43 (.mx [.t 41,.t 42]),
 qx 44 1 34 36,
 qs 1 44 43])))))
 (.reg 11 none [2,5,21,22,23] [
 qa 45 23,
 qm 23 45])))))))
 (.seq
 (.reg 12 none [5,9] [
 .r 9 (.mv (qN))])
 (.seq
 (.seq
 (.reg 13 none [9,46,47,48] [
 qm 46 5,
 qn 47 46,
 qi 48 0])
 (.block 4
 (.loop
 (.seq
 (.reg 14 none [9,46,47,48,49] [
 qb 49 .lss 48 47])
 (.seq
 (qq 49
 .skip
 (.exit 4))
 (.seq
 (.block 5
 (.seq
 (.reg 15 none [9,10,11,46,47,48] [
 qm 50 48,
 qx 51 1 46 48,
 ql 52 51,
 qm 10 50,
 qm 11 52])
 (.seq
 (.reg 16 none [9,10,11,46,47,48,54] [
 qm 53 11,
 qB 54 .gtr 53 0])
 (qq 54
 (.reg 17 none [9,46,47,48] [
 qm 55 9,
 qm 56 10,
 qm 57 11,
 .r 58 (.build [.v (.int .i64 0),.v (.int .i64 0)] [((0,1),.t 56),((1,1),.t 57)]),
 .r 59 (.bsl 2 1 [.t 58]),
 .r 60 (.app 2 16 false (.t 55) (.t 59)),
 qm 9 60])
 .skip))))
 (.reg 18 none [9,46,47,48] [
 qa 61 48,
 qm 48 61])))))))
 (.seq
 (.reg 19 none [4] [
 qm 62 9,
 qm 4 62])
 .ret)))))))
def qk4:List (Nat×List Nat):=qy yA
theorem qk5:FnIR Tryz.prog yT 63 qk4 yA [(.tmp 4)]:=
 qF Tryz.func142
def jm:RC:=
 (.seq
 (.reg 0 none [0,1,2,3] [
 qc 5 false])
 (.seq
 (.reg 1 none [7] [
 qL 9 2 1,
 ql 10 2,
 ql 11 3,
 qm 12 0,
 ql 13 3,
 qC 14 ZE [.t 9,.t 10,.t 11,.t 12,.t 13],
 qm 8 14,
 .r 15 (.ex (.t 8) 0),
 .r 16 (.ex (.t 8) 1),
 qm 6 15,
 qm 7 16])
 (.seq
 (.reg 2 none [5] [
 qm 17 7,
 qm 5 17])
 .ret)))
def JA:List (Nat×List Nat):=qy jm
theorem JB:FnIR Tryz.prog jw 18 JA jm [(.tmp 5)]:=
 qF Tryz.func143
def QU:RC:=
 (.seq
 (.reg 0 none [1,2,3,4,5] [
 .r 5 (.box (.t 0)),
 qi 10 0,
 qc 11 false])
 (.seq
 (.reg 1 none [1,2,3,4,5,12] [
 qL 16 2 5,
 qm 17 1,
 qC 18 ky [.t 16,.t 17],
 qm 12 18])
 (.seq
 (.seq
 (.reg 2 none [1,2,3,4,5,34] [
 qm 19 2,
 qB 20 .lss 19 0,
 qm 21 20,
 qmf 22 21 2,
 qmf 23 21 12,
 .rf 24 21 (.bin .gtr false (.t 22) (.t 23)),
 qP 25 21 24,
 qm 26 25,
 qmf 27 26 4,
 .rf 28 26 (.bin .lss false (.t 27) (qI 0)),
 qP 29 26 28,
 qm 30 29,
 qmf 31 30 4,
 qmf 32 30 12,
 .rf 33 30 (.bin .gtr false (.t 31) (.t 32)),
 qP 34 30 33])
 (qq 34
 (.seq
 (.reg 3 none [10,11] [
 qi 10 0,
 qc 11 false])
 .ret)
 .skip))
 (.seq
 (.reg 4 none [1,2,3,4,5] [
 qi 13 0,
 qc 14 false])
 (.seq
 (.seq
 (.reg 5 none [2,3,4,5,15] [
 qf 35 1 5,
 ql 36 35,
 qm 37 1,
 qx 38 7 36 37,
 qL 39 7 38,
 .r 15 (.new (.agg [.v (.string ⟨#[]⟩),.v (.int .i64 0),.v (.int .i64 0),.v (.int .i64 0),.v (.int .i64 0),.v (.slice none 0 0),.v (.bool false)])),
 qs 7 15 39])
 (.seq
 (.reg 6 none [2,3,4,5,15,42] [
 qf 40 1 15,
 ql 41 40,
 qB 42 .eql 41 2])
 (qq 42
 (.reg 7 none [13,14] [
 qf 44 0 5,
 ql 45 44,
 qf 46 2 15,
 ql 47 46,
 qx 48 2 45 47,
 qL 49 2 48,
 qm 50 2,
 qm 51 3,
 qm 52 4,
 qC 53 yV [.t 49,.t 50,.t 51,.t 52],
 qm 43 53,
 .r 54 (.ex (.t 43) 0),
 .r 55 (.ex (.t 43) 1),
 qm 13 54,
 qm 14 55])
 (.reg 8 none [13,14] [
 qL 57 7 15,
 qm 58 2,
 qm 59 3,
 qm 60 4,
 qC 61 YU [.t 57,.t 58,.t 59,.t 60],
 qm 56 61,
 .r 62 (.ex (.t 56) 0),
 .r 63 (.ex (.t 56) 1),
 qm 13 62,
 qm 14 63]))))
 (.seq
 (.seq
 (.reg 9 none [13,65] [
 qm 64 14,
 .r 65 (.un .not (.t 64))])
 (qq 65
 (.seq
 (.reg 10 none [10,11] [
 qi 10 0,
 qc 11 false])
 .ret)
 .skip))
 (.seq
 (.reg 11 none [10,11] [
 qm 66 13,
 qm 10 66,
 qc 11 true])
 .ret)))))))
def qv7:List (Nat×List Nat):=qy QU
theorem qv8:FnIR Tryz.prog ZE 67 qv7 QU [(.tmp 10),(.tmp 11)]:=
 qF Tryz.func144
def Qe:RC:=
 (.seq
 (.reg 0 none [2,3,4,5,6] [
 .r 5 (.box (.t 0)),
 .r 6 (.box (.t 1)),
 qc 10 false])
 (.seq
 (.seq
 (.reg 1 none [2,3,4,5,6,24] [
 qL 17 17 6,
 qm 18 2,
 qC 19 wy [.t 17,.t 18],
 qm 20 19,
 qmt 21 20 3,
 qmt 22 20 4,
 .rt 23 20 (.bin .neq false (.t 21) (.t 22)),
 qp 24 20 23])
 (qq 24
 (.seq
 (.reg 2 none [10] [
 qc 10 true])
 .ret)
 .skip))
 (.seq
 (.seq
 (.reg 3 none [2,3,4,5,6,26,27,28] [
 qf 25 8 6,
 ql 26 25,
 qn 27 26,
 qi 28 0])
 (.block 0
 (.loop
 (.seq
 (.reg 4 none [2,3,4,5,6,26,27,28,29] [
 qb 29 .lss 28 27])
 (.seq
 (qq 29
 .skip
 (.exit 0))
 (.seq
 (.block 1
 (.seq
 (.reg 5 none [2,3,4,5,6,12,26,27,28] [
 qx 30 2 26 28,
 qL 31 2 30,
 .r 12 (.new (.agg [.v (.int .i64 0),.v (.int .i64 0)])),
 qs 2 12 31])
 (.seq
 (.reg 6 (some [0,1,0,7,15,31,31,31,159,31,1023,31,31,31,8223,31,65535,131071,262143]) [2,3,4,5,6,26,27,28,50] [
 qf 32 0 12,
 ql 33 32,
 qm 34 2,
 qb 35 .eql 33 34,
 qm 36 35,
 .rt 37 36 (.ld (some 2) (.t 5)),
 qmt 38 36 2,
 qft 39 36 1 12,
 qlt 40 36 39,
 qmt 41 36 3,
 .rt 42 36 (.call (.k (.clo ju [])) [.t 37,.t 38,.t 40,.t 41]),
 .rt 43 36 (.ld (some 2) (.t 5)),
 qmt 44 36 2,
 qft 45 36 1 12,
 qlt 46 36 45,
 qmt 47 36 4,
 .rt 48 36 (.call (.k (.clo ju [])) [.t 43,.t 44,.t 46,.t 47]),
 .rt 49 36 (.bin .neq false (.t 42) (.t 48)),
 qp 50 36 49])
 (qq 50
 (.seq
 (.reg 7 none [10] [
 qc 10 true])
 .ret)
 .skip))))
 (.reg 8 none [2,3,4,5,6,26,27,28] [
 qa 51 28,
 qm 28 51])))))))
 (.seq
 (.seq
 (.reg 9 none [2,3,4,5,53,54,55] [
 qL 52 17 6,
 qC 53 kP [.t 52],
 qn 54 53,
 qi 55 0])
 (.block 2
 (.loop
 (.seq
 (.reg 10 none [2,3,4,5,53,54,55,56] [
 qb 56 .lss 55 54])
 (.seq
 (qq 56
 .skip
 (.exit 2))
 (.seq
 (.block 3
 (.seq
 (.reg 11 none [2,3,4,5,14,53,54,55] [
 qx 57 6 53 55,
 qL 58 6 57,
 .r 14 (.new (.agg [.v (.int .i64 0),.v (.int .i64 0),.v (.int .i64 0),.v (.int .i64 0),.v (.int .i64 0),.v (.slice none 0 0)])),
 qs 6 14 58])
 (.seq
 (.reg 12 none [2,3,4,5,53,54,55,60,61,62] [
 qL 59 6 14,
 qC 60 jx [.t 59],
 qn 61 60,
 qi 62 0])
 (.block 4
 (.loop
 (.seq
 (.reg 13 none [2,3,4,5,53,54,55,60,61,62,63] [
 qb 63 .lss 62 61])
 (.seq
 (qq 63
 .skip
 (.exit 4))
 (.seq
 (.block 5
 (.seq
 (.reg 14 none [2,3,4,5,16,53,54,55,60,61,62] [
 qx 64 6 60 62,
 qL 65 6 64,
 .r 16 (.new (.agg [.v (.int .i64 0),.v (.int .i64 0),.v (.int .i64 0),.v (.int .i64 0),.v (.int .i64 0),.v (.slice none 0 0)])),
 qs 6 16 65])
 (.seq
 (.reg 15 (some [0,1,0,7,15,31,31,31,255,31,31,31,4095,8191,16383]) [2,3,4,5,53,54,55,60,61,62,80] [
 qf 66 1 16,
 ql 67 66,
 qm 68 2,
 qb 69 .eql 67 68,
 qm 70 69,
 .rt 71 70 (.ld (some 2) (.t 5)),
 .rt 72 70 (.ld (some 6) (.t 16)),
 qmt 73 70 3,
 .rt 74 70 (.call (.k (.clo jU [])) [.t 71,.t 72,.t 73]),
 .rt 75 70 (.ld (some 2) (.t 5)),
 .rt 76 70 (.ld (some 6) (.t 16)),
 qmt 77 70 4,
 .rt 78 70 (.call (.k (.clo jU [])) [.t 75,.t 76,.t 77]),
 .rt 79 70 (.bin .neq false (.t 74) (.t 78)),
 qp 80 70 79])
 (qq 80
 (.seq
 (.reg 16 none [10] [
 qc 10 true])
 .ret)
 .skip))))
 (.reg 17 none [2,3,4,5,53,54,55,60,61,62] [
 qa 81 62,
 qm 62 81])))))))))
 (.reg 18 none [2,3,4,5,53,54,55] [
 qa 82 55,
 qm 55 82])))))))
 (.seq
 (.reg 19 none [10] [
 qc 10 false])
 .ret)))))
def qq0:List (Nat×List Nat):=qy Qe
theorem qq1:FnIR Tryz.prog QM 83 qq0 Qe [(.tmp 10)]:=
 qF Tryz.func145
def JC:RC:=
 (.seq
 (.reg 0 none [1] [
 .r 1 (.box (.t 0)),
 qi 2 0])
 (.seq
 (.seq
 (.reg 1 none [1,11] [
 qf 8 0 1,
 ql 9 8,
 qC 10 jG [.t 9],
 .r 11 (.un .not (.t 10))])
 (qq 11
 (.seq
 (.reg 2 none [2] [
 qi 2 3])
 .ret)
 .skip))
 (.seq
 (.seq
 (.reg 3 none [1,15] [
 qf 12 1 1,
 ql 13 12,
 qn 14 13,
 qB 15 .eql 14 0])
 (qq 15
 (.seq
 (.reg 4 none [2] [
 qi 2 5])
 .ret)
 .skip))
 (.seq
 (.seq
 (.reg 5 none [1,19] [
 qf 16 1 1,
 ql 17 16,
 qn 18 17,
 qB 19 .gtr 18 60])
 (qq 19
 (.seq
 (.reg 6 none [2] [
 qi 2 1])
 .ret)
 .skip))
 (.seq
 (.seq
 (.reg 7 none [1,3] [
 qi 3 0])
 (.block 0
 (.loop
 (.seq
 (.seq
 (.reg 8 none [1,3,24] [
 qm 20 3,
 qf 21 1 1,
 ql 22 21,
 qn 23 22,
 qb 24 .lss 20 23])
 (qq 24
 .skip
 (.exit 0)))
 (.seq
 (.block 1
 (.seq
 (.seq
 (.reg 10 none [1,3,34] [
 qf 27 1 1,
 ql 28 27,
 qm 29 3,
 qx 30 2 28 29,
 qf 31 0 30,
 ql 32 31,
 qC 33 jG [.t 32],
 .r 34 (.un .not (.t 33))])
 (qq 34
 (.seq
 (.reg 11 none [2] [
 qi 2 3])
 .ret)
 .skip))
 (.seq
 (.seq
 (.reg 12 none [1,3,4] [
 qi 4 0])
 (.block 2
 (.loop
 (.seq
 (.seq
 (.reg 13 none [1,3,4,37] [
 qm 35 4,
 qm 36 3,
 qb 37 .lss 35 36])
 (qq 37
 .skip
 (.exit 2)))
 (.seq
 (.block 3
 (.seq
 (.reg 15 (some [0,1,0,7,15,31,0,64,0,448,960,1984,4095]) [1,3,4,52] [
 qf 40 1 1,
 ql 41 40,
 qm 42 4,
 qx 43 2 41 42,
 qf 44 0 43,
 ql 45 44,
 qf 46 1 1,
 ql 47 46,
 qm 48 3,
 qx 49 2 47 48,
 qf 50 0 49,
 ql 51 50,
 qb 52 .eql 45 51])
 (qq 52
 (.seq
 (.reg 16 none [2] [
 qi 2 10])
 .ret)
 .skip)))
 (.reg 14 none [1,3,4] [
 qm 38 4,
 qa 39 38,
 qm 4 39]))))))
 (.seq
 (.reg 17 none [1,3,5] [
 qf 53 1 1,
 ql 54 53,
 qm 55 3,
 qx 56 2 54 55,
 qf 57 1 56,
 ql 58 57,
 qm 5 58])
 (.seq
 (.reg 18 none [1,3,77] [
 qm 59 3,
 qB 60 .eql 59 0,
 qm 61 60,
 qmt 62 61 5,
 .rt 63 61 (.bin .neq false (.t 62) (.k (.v (.int .i64 (-1))))),
 qp 64 61 63,
 qm 65 64,
 qmf 66 65 3,
 .rf 67 65 (.bin .gtr false (.t 66) (qI 0)),
 qmf 68 65 67,
 qmt 69 68 5,
 .rt 70 68 (.bin .lss false (.t 69) (qI 0)),
 qmt 71 68 70,
 qmf 72 71 5,
 qmf 73 71 3,
 .rf 74 71 (.bin .geq false (.t 72) (.t 73)),
 .rt 75 68 (.pick (.t 71) (.k (.v (.bool true))) (.t 74)),
 .rf 76 65 (.pick (.t 68) (.t 75) (.k (.v (.bool false)))),
 qP 77 65 76])
 (qq 77
 (.seq
 (.reg 19 none [2] [
 qi 2 6])
 .ret)
 .skip))))))
 (.reg 9 none [1,3] [
 qm 25 3,
 qa 26 25,
 qm 3 26]))))))
 (.seq
 (.reg 20 none [1,6] [
 .r 6 (.mv (.k (.v (.int .i64 (-1)))))])
 (.seq
 (.seq
 (.reg 21 none [1,6,7] [
 qi 7 0])
 (.block 4
 (.loop
 (.seq
 (.seq
 (.reg 22 none [1,6,7,82] [
 qm 78 7,
 qf 79 1 1,
 ql 80 79,
 qn 81 80,
 qb 82 .lss 78 81])
 (qq 82
 .skip
 (.exit 4)))
 (.seq
 (.block 5
 (.seq
 (.reg 24 none [1,6,7,87] [
 qL 85 2 1,
 qm 86 7,
 qC 87 Yd [.t 85,.t 86]])
 (qq 87
 (.seq
 (.seq
 (.reg 25 none [1,7,96] [
 qm 88 6,
 qB 89 .geq 88 0,
 qm 90 89,
 .rt 91 90 (.ld (some 2) (.t 1)),
 qmt 92 90 7,
 .rt 93 90 (.call (.k (.clo yi [])) [.t 91,.t 92]),
 qmt 94 90 6,
 .rt 95 90 (.bin .neq false (.t 93) (.t 94)),
 qp 96 90 95])
 (qq 96
 (.seq
 (.reg 26 none [2] [
 qi 2 5])
 .ret)
 .skip))
 (.reg 27 none [1,6,7] [
 qL 97 2 1,
 qm 98 7,
 qC 99 yi [.t 97,.t 98],
 qm 6 99]))
 .skip)))
 (.reg 23 none [1,6,7] [
 qm 83 7,
 qa 84 83,
 qm 7 84]))))))
 (.seq
 (.reg 28 none [2] [
 qi 2 0])
 .ret))))))))
def qI9:List (Nat×List Nat):=qy JC
theorem qJ0:FnIR Tryz.prog Zk 100 qI9 JC [(.tmp 2)]:=
 qF Tryz.func148
def JD:RC:=
 (.seq
 (.reg 0 none [1,2] [
 .r 2 (.box (.t 0)),
 qi 4 0])
 (.seq
 (.reg 1 none [1,2,5] [
 qi 5 0])
 (.seq
 (.block 0
 (.loop
 (.seq
 (.seq
 (.reg 2 none [1,2,5,12] [
 qf 6 1 2,
 ql 7 6,
 qm 8 1,
 qx 9 2 7 8,
 qf 10 1 9,
 ql 11 10,
 qB 12 .geq 11 0])
 (qq 12
 .skip
 (.exit 0)))
 (.block 1
 (.seq
 (.reg 3 none [1,2,5] [
 qf 13 1 2,
 ql 14 13,
 qm 15 1,
 qx 16 2 14 15,
 qf 17 1 16,
 ql 18 17,
 qm 1 18])
 (.reg 4 none [1,2,5] [
 qm 19 5,
 qa 20 19,
 qm 5 20]))))))
 (.seq
 (.reg 5 none [4] [
 qm 21 5,
 qm 4 21])
 .ret))))
def qJ1:List (Nat×List Nat):=qy JD
theorem qJ2:FnIR Tryz.prog yi 22 qJ1 JD [(.tmp 4)]:=
 qF Tryz.func149
def JE:RC:=
 (.seq
 (.reg 0 none [2,3] [
 .r 2 (.box (.t 0)),
 .r 3 (.box (.t 1)),
 qi 4 0])
 (.seq
 (.reg 1 none [2,3,5] [
 qL 7 2 2,
 qf 8 9 3,
 ql 9 8,
 qC 10 JY [.t 7,.t 9,qI 3],
 qm 5 10])
 (.seq
 (.seq
 (.reg 2 none [2,3,5,12] [
 qf 11 1 3,
 ql 12 11])
 (.block 0
 (.seq
 (.reg 8 none [2,3,5,12,27] [
 qB 28 .eql 12 1,
 qm 27 28])
 (qq 27
 (.seq
 (.seq
 (.reg 9 none [3,5,6] [
 qL 29 2 2,
 qf 30 8 3,
 ql 31 30,
 qC 32 Ye [.t 29,.t 31],
 qm 6 32])
 (.seq
 (.reg 10 none [3,5,6,34] [
 qm 33 6,
 qB 34 .neq 33 0])
 (qq 34
 (.seq
 (.reg 11 none [4] [
 qm 35 6,
 qm 4 35])
 .ret)
 .skip)))
 (.seq
 (.reg 12 none [42] [
 qf 36 9 3,
 ql 37 36,
 .r 38 (.bin .neq false (.t 37) (.k (.v (.int .i64 (-1))))),
 qm 39 38,
 qmt 40 39 5,
 .rt 41 39 (.un .not (.t 40)),
 qp 42 39 41])
 (qq 42
 (.seq
 (.reg 13 none [4] [
 qi 4 7])
 .ret)
 .skip)))
 (.seq
 (.reg 14 none [2,3,5,43] [
 qB 44 .eql 12 2,
 qm 43 44])
 (qq 43
 (.seq
 (.seq
 (.reg 15 none [2,3,46] [
 qm 45 5,
 .r 46 (.un .not (.t 45))])
 (qq 46
 (.seq
 (.reg 16 none [4] [
 qi 4 7])
 .ret)
 .skip))
 (.seq
 (.reg 17 none [4] [
 qL 47 2 2,
 qf 48 9 3,
 ql 49 48,
 qf 50 10 3,
 ql 51 50,
 qC 52 KG [.t 47,.t 49,.t 51],
 qm 4 52])
 .ret))
 (.seq
 (.seq
 (.reg 3 none [2,3,14] [
 qm 13 5,
 .r 14 (.un .not (.t 13))])
 (qq 14
 (.seq
 (.reg 4 none [4] [
 qi 4 7])
 .ret)
 .skip))
 (.seq
 (.seq
 (.reg 5 none [2,3,22] [
 qf 15 1 2,
 ql 16 15,
 qf 17 9 3,
 ql 18 17,
 qx 19 7 16 18,
 qf 20 3 19,
 ql 21 20,
 qB 22 .lss 21 0])
 (qq 22
 (.seq
 (.reg 6 none [4] [
 qi 4 2])
 .ret)
 .skip))
 (.seq
 (.reg 7 none [4] [
 qL 23 2 2,
 qf 24 11 3,
 qL 25 6 24,
 qC 26 yg [.t 23,.t 25],
 qm 4 26])
 .ret)))))))))
 (.seq
 (.reg 18 none [4] [
 qi 4 0])
 .ret))))
def qJ3:List (Nat×List Nat):=qy JE
theorem qJ4:FnIR Tryz.prog KD 53 qJ3 JE [(.tmp 4)]:=
 qF Tryz.func150
def KU:RC:=
 (.seq
 (.reg 0 none [1] [
 .r 1 (.box (.t 0)),
 qc 2 false])
 (.seq
 (.reg 1 none [2] [
 qL 3 6 1,
 .r 4 (.build [.v (.int .i64 0),.v (.int .i64 0),.v (.int .i64 0),.v (.int .i64 0),.v (.int .i64 0),.v (.slice none 0 0)] []),
 qC 5 Jo [.t 3,.t 4],
 qm 2 5])
 .ret))
def qS6:List (Nat×List Nat):=qy KU
theorem qS7:FnIR Tryz.prog Yc 6 qS6 KU [(.tmp 2)]:=
 qF Tryz.func151
def ZQ:RC:=
 (.seq
 (.reg 0 none [1,2] [
 .r 2 (.box (.t 0)),
 .r 4 (.mv (qN))])
 (.seq
 (.reg 1 none [1,2,5] [
 .r 5 (.mv (qN))])
 (.seq
 (.seq
 (.reg 2 none [1,2,5,9,10] [
 qf 7 1 2,
 ql 8 7,
 qn 9 8,
 qi 10 0])
 (.block 0
 (.loop
 (.seq
 (.reg 3 none [1,2,5,9,10,11] [
 qb 11 .lss 10 9])
 (.seq
 (qq 11
 .skip
 (.exit 0))
 (.seq
 (.block 1
 (.seq
 (.reg 4 none [1,2,5,6,9,10] [
 qm 12 10,
 qm 6 12])
 (.seq
 (.reg 5 none [1,2,5,6,9,10,20] [
 qf 13 1 2,
 ql 14 13,
 qm 15 6,
 qx 16 7 14 15,
 qf 17 1 16,
 ql 18 17,
 qm 19 1,
 qb 20 .eql 18 19])
 (qq 20
 (.reg 6 none [1,2,5,9,10] [
 qm 21 5,
 qm 22 6,
 .r 23 (.bsl 1 1 [.t 22]),
 .r 24 (.app 1 8 false (.t 21) (.t 23)),
 qm 5 24])
 .skip))))
 (.reg 7 none [1,2,5,9,10] [
 qa 25 10,
 qm 10 25])))))))
 (.seq
 (.reg 8 none [4] [
 qm 26 5,
 qm 4 26])
 .ret))))
def qD6:List (Nat×List Nat):=qy ZQ
theorem qD7:FnIR Tryz.prog jW 27 qD6 ZQ [(.tmp 4)]:=
 qF Tryz.func154
def ZR:RC:=
 (.seq
 (.reg 0 none [1,2] [
 .r 2 (.box (.t 0)),
 qi 4 0])
 (.seq
 (.reg 1 none [1,2,5] [
 qf 8 1 2,
 ql 9 8,
 qm 10 1,
 qx 11 7 9 10,
 qL 12 7 11,
 .r 5 (.new (.agg [.v (.string ⟨#[]⟩),.v (.int .i64 0),.v (.int .i64 0),.v (.int .i64 0),.v (.int .i64 0),.v (.slice none 0 0),.v (.bool false)])),
 qs 7 5 12])
 (.seq
 (.seq
 (.reg 2 none [1,2,5,16] [
 qf 13 0 5,
 ql 14 13,
 qC 15 jG [.t 14],
 .r 16 (.un .not (.t 15))])
 (qq 16
 (.seq
 (.reg 3 none [4] [
 qi 4 3])
 .ret)
 .skip))
 (.seq
 (.seq
 (.reg 4 none [1,2,5,6] [
 qi 6 0])
 (.block 0
 (.loop
 (.seq
 (.seq
 (.reg 5 none [1,2,5,6,19] [
 qm 17 6,
 qm 18 1,
 qb 19 .lss 17 18])
 (qq 19
 .skip
 (.exit 0)))
 (.seq
 (.block 1
 (.seq
 (.reg 7 (some [0,1,0,7,15,31,0,64,255]) [1,2,5,6,30] [
 qf 22 1 2,
 ql 23 22,
 qm 24 6,
 qx 25 7 23 24,
 qf 26 0 25,
 ql 27 26,
 qf 28 0 5,
 ql 29 28,
 qb 30 .eql 27 29])
 (qq 30
 (.seq
 (.reg 8 none [4] [
 qi 4 10])
 .ret)
 .skip)))
 (.reg 6 none [1,2,5,6] [
 qm 20 6,
 qa 21 20,
 qm 6 21]))))))
 (.seq
 (.seq
 (.reg 9 none [2,5,43] [
 qf 31 1 5,
 ql 32 31,
 qC 33 yR [.t 32,qI 1,qI 3],
 .r 34 (.un .not (.t 33)),
 qm 35 34,
 qmf 36 35 1,
 .rf 37 35 (.bin .gtr false (.t 36) (qI 0)),
 qmf 38 35 37,
 qft 39 38 1 5,
 qlt 40 38 39,
 .rt 41 38 (.bin .eql false (.t 40) (qI 1)),
 .rf 42 35 (.pick (.t 38) (.t 41) (.k (.v (.bool false)))),
 qP 43 35 42])
 (qq 43
 (.seq
 (.reg 10 none [4] [
 qi 4 4])
 .ret)
 .skip))
 (.seq
 (.seq
 (.reg 11 none [5,56] [
 qf 44 1 5,
 ql 45 44,
 qB 46 .eql 45 2,
 qm 47 46,
 qft 48 47 2 5,
 qlt 49 47 48,
 qft 50 47 0 2,
 qlt 51 47 50,
 .rt 52 47 (.lenL (.t 51)),
 .rt 53 47 (.bin .sub false (.t 52) (qI 1)),
 .rt 54 47 (.call (.k (.clo yR [])) [.t 49,qI 0,.t 53]),
 .rt 55 47 (.un .not (.t 54)),
 qp 56 47 55])
 (qq 56
 (.seq
 (.reg 12 none [4] [
 qi 4 5])
 .ret)
 .skip))
 (.seq
 (.seq
 (.reg 13 none [5,59] [
 qf 57 1 5,
 ql 58 57,
 qB 59 .eql 58 3])
 (qq 59
 (.seq
 (.reg 14 none [5,7] [
 qL 60 7 5,
 qC 61 ZF [.t 60],
 qm 7 61])
 (.seq
 (.reg 15 none [5,7,63] [
 qm 62 7,
 qB 63 .neq 62 0])
 (qq 63
 (.seq
 (.reg 16 none [4] [
 qm 64 7,
 qm 4 64])
 .ret)
 .skip)))
 .skip))
 (.seq
 (.seq
 (.reg 17 none [97] [
 qf 65 1 5,
 ql 66 65,
 qB 67 .neq 66 2,
 qm 68 67,
 qft 69 68 2 5,
 qlt 70 68 69,
 .rt 71 68 (.bin .neq false (.t 70) (qI 0)),
 qp 72 68 71,
 qm 73 72,
 qff 74 73 1 5,
 qlf 75 73 74,
 .rf 76 73 (.bin .neq false (.t 75) (qI 3)),
 qmf 77 73 76,
 qft 78 77 3 5,
 qlt 79 77 78,
 .rt 80 77 (.bin .neq false (.t 79) (qI 0)),
 qmt 81 77 80,
 qff 82 81 4 5,
 qlf 83 81 82,
 .rf 84 81 (.bin .neq false (.t 83) (qI 0)),
 .rt 85 77 (.pick (.t 81) (.k (.v (.bool true))) (.t 84)),
 qmt 86 77 85,
 qff 87 86 5 5,
 qlf 88 86 87,
 .rf 89 86 (.lenL (.t 88)),
 .rf 90 86 (.bin .gtr false (.t 89) (qI 0)),
 .rt 91 77 (.pick (.t 86) (.k (.v (.bool true))) (.t 90)),
 qmt 92 77 91,
 qff 93 92 6 5,
 qlf 94 92 93,
 .rt 95 77 (.pick (.t 92) (.k (.v (.bool true))) (.t 94)),
 .rf 96 73 (.pick (.t 77) (.t 95) (.k (.v (.bool false)))),
 qP 97 73 96])
 (qq 97
 (.seq
 (.reg 18 none [4] [
 qi 4 11])
 .ret)
 .skip))
 (.seq
 (.reg 19 none [4] [
 qi 4 0])
 .ret)))))))))
def qD8:List (Nat×List Nat):=qy ZR
theorem qD9:FnIR Tryz.prog Js 98 qD8 ZR [(.tmp 4)]:=
 qF Tryz.func155
def JF:RC:=
 (.seq
 (.reg 0 none [1,2] [
 .r 2 (.box (.t 0)),
 qi 4 0])
 (.seq
 (.reg 1 none [1,2,5] [
 qi 5 1])
 (.seq
 (.seq
 (.reg 2 none [1,2,5,6] [
 qi 6 0])
 (.block 0
 (.loop
 (.seq
 (.seq
 (.reg 3 none [1,2,5,6,16] [
 qm 7 6,
 qf 8 5 2,
 ql 9 8,
 qn 10 9,
 qb 11 .lss 7 10,
 qm 12 11,
 qmt 13 12 5,
 qmt 14 12 1,
 .rt 15 12 (.bin .lss false (.t 13) (.t 14)),
 qp 16 12 15])
 (qq 16
 .skip
 (.exit 0)))
 (.seq
 (.block 1
 (.reg 5 none [1,2,5,6] [
 qm 19 5,
 qf 20 5 2,
 ql 21 20,
 qm 22 6,
 qx 23 6 21 22,
 qL 24 6 23,
 qm 25 1,
 qm 26 5,
 qb 27 .sub 25 26,
 qC 28 Zl [.t 24,.t 27],
 qb 29 .add 19 28,
 qm 5 29]))
 (.reg 4 none [1,2,5,6] [
 qm 17 6,
 qa 18 17,
 qm 6 18]))))))
 (.seq
 (.reg 6 none [4] [
 qm 30 5,
 qm 4 30])
 .ret))))
def qJ5:List (Nat×List Nat):=qy JF
theorem qJ6:FnIR Tryz.prog Zl 31 qJ5 JF [(.tmp 4)]:=
 qF Tryz.func156
def JG:RC:=
 (.seq
 (.reg 0 none [1] [
 .r 1 (.box (.t 0)),
 qi 2 0])
 (.seq
 (.reg 1 none [1,3] [
 qi 3 0])
 (.seq
 (.seq
 (.reg 2 none [1,3,4] [
 qi 4 0])
 (.block 0
 (.loop
 (.seq
 (.seq
 (.reg 3 none [1,3,4,9] [
 qm 5 4,
 qf 6 5 1,
 ql 7 6,
 qn 8 7,
 qb 9 .lss 5 8])
 (qq 9
 .skip
 (.exit 0)))
 (.seq
 (.block 1
 (.reg 5 none [1,3,4] [
 qm 12 3,
 qf 13 5 1,
 ql 14 13,
 qm 15 4,
 qx 16 6 14 15,
 qL 17 6 16,
 qC 18 Zm [.t 17],
 .r 19 (.mx [.t 12,.t 18]),
 qm 3 19]))
 (.reg 4 none [1,3,4] [
 qm 10 4,
 qa 11 10,
 qm 4 11]))))))
 (.seq
 (.reg 6 none [2] [
 qm 20 3,
 qa 21 20,
 qm 2 21])
 .ret))))
def qJ7:List (Nat×List Nat):=qy JG
theorem qJ8:FnIR Tryz.prog Zm 22 qJ7 JG [(.tmp 2)]:=
 qF Tryz.func157
def zn:RC:=
 (.seq
 (.reg 0 none [2,3] [
 .r 2 (.box (.t 0)),
 .r 3 (.box (.t 1)),
 qi 4 0])
 (.seq
 (.reg 1 (some [0,1,3,0,8,31]) [2,3,5,6] [
 qf 9 0 3,
 ql 10 9,
 .r 11 (.build [.v (.int .i64 0),.v (.int .i64 0),.v (.int .i64 0),.v (.int .i64 0),.v (.int .i64 0),.v (.slice none 0 0)] [((0,1),.t 10)]),
 .r 6 (.new (.agg [.v (.int .i64 0),.v (.int .i64 0),.v (.int .i64 0),.v (.int .i64 0),.v (.int .i64 0),.v (.slice none 0 0)])),
 qi 5 0,
 qs 6 6 11])
 (.seq
 (.seq
 (.reg 2 none [2,3,5,6,13] [
 qf 12 0 3,
 ql 13 12])
 (.block 0
 (.seq
 (.reg 4 none [2,3,5,6,13,14] [
 qB 15 .eql 13 1,
 qm 14 15])
 (qq 14
 .skip
 (.seq
 (.reg 5 none [2,3,5,6,13,16] [
 qB 17 .eql 13 2,
 qm 16 17])
 (qq 16
 (.reg 6 (some [0,1,0,4,3,19,63,127]) [2,3,5,6] [
 qf 18 1 3,
 ql 19 18,
 qf 20 2 3,
 ql 21 20,
 qf 22 1 6,
 qs 1 22 19,
 qf 23 2 6,
 qs 1 23 21])
 (.seq
 (.reg 7 none [2,3,5,6,13,24] [
 qB 25 .eql 13 3,
 qm 24 25])
 (qq 24
 (.reg 8 (some [0,1,0,4,0,16,3,67,207,463,1023,2047]) [2,3,5,6] [
 qf 26 1 3,
 ql 27 26,
 qf 28 3 3,
 ql 29 28,
 qf 30 4 3,
 ql 31 30,
 qf 32 1 6,
 qs 1 32 27,
 qf 33 3 6,
 qs 1 33 29,
 qf 34 4 6,
 qs 1 34 31])
 (.seq
 (.reg 9 none [2,3,5,6,13,35] [
 qB 36 .eql 13 4,
 qm 35 36])
 (qq 35
 (.reg 10 none [2,3,5,6] [
 qf 37 1 3,
 ql 38 37,
 qf 39 1 6,
 qs 1 39 38])
 (.seq
 (.seq
 (.reg 11 none [2,3,6,13,40] [
 qB 41 .eql 13 5,
 qm 40 41])
 (qq 40
 .skip
 (.reg 12 none [2,3,6,13,40] [
 qB 42 .eql 13 6,
 qm 40 42])))
 (qq 40
 (.reg 13 none [2,3,5,6] [
 qi 5 2])
 (.seq
 (.reg 14 none [2,3,6,43] [
 qB 44 .eql 13 7,
 qm 43 44])
 (qq 43
 (.reg 15 none [2,3,5,6] [
 qi 5 1])
 (.seq
 (.reg 3 none [4] [
 qi 4 4])
 .ret)))))))))))))))
 (.seq
 (.seq
 (.reg 16 none [2,3,77] [
 qf 45 5 3,
 ql 46 45,
 qn 47 46,
 qm 48 5,
 qb 49 .neq 47 48,
 qm 50 49,
 qff 51 50 1 6,
 qlf 52 50 51,
 qff 53 50 1 3,
 qlf 54 50 53,
 .rf 55 50 (.bin .neq false (.t 52) (.t 54)),
 qP 56 50 55,
 qm 57 56,
 qff 58 57 2 6,
 qlf 59 57 58,
 qff 60 57 2 3,
 qlf 61 57 60,
 .rf 62 57 (.bin .neq false (.t 59) (.t 61)),
 qP 63 57 62,
 qm 64 63,
 qff 65 64 3 6,
 qlf 66 64 65,
 qff 67 64 3 3,
 qlf 68 64 67,
 .rf 69 64 (.bin .neq false (.t 66) (.t 68)),
 qP 70 64 69,
 qm 71 70,
 qff 72 71 4 6,
 qlf 73 71 72,
 qff 74 71 4 3,
 qlf 75 71 74,
 .rf 76 71 (.bin .neq false (.t 73) (.t 75)),
 qP 77 71 76])
 (qq 77
 (.seq
 (.reg 17 none [4] [
 qi 4 11])
 .ret)
 .skip))
 (.seq
 (.seq
 (.reg 18 none [2,3,121] [
 qf 78 0 3,
 ql 79 78,
 qB 80 .eql 79 2,
 qm 81 80,
 .rt 82 81 (.ld (some 2) (.t 2)),
 qft 83 81 1 3,
 qlt 84 81 83,
 .rt 85 81 (.call (.k (.clo JZ [])) [.t 82,.t 84,qI 2]),
 .rt 86 81 (.un .not (.t 85)),
 qp 87 81 86,
 qm 88 87,
 qff 89 88 0 3,
 qlf 90 88 89,
 .rf 91 88 (.bin .eql false (.t 90) (qI 3)),
 qmf 92 88 91,
 .rt 93 92 (.ld (some 2) (.t 2)),
 qft 94 92 1 3,
 qlt 95 92 94,
 .rt 96 92 (.call (.k (.clo JZ [])) [.t 93,.t 95,qI 3]),
 .rt 97 92 (.un .not (.t 96)),
 .rf 98 88 (.pick (.t 92) (.t 97) (.k (.v (.bool false)))),
 qP 99 88 98,
 qm 100 99,
 qff 101 100 0 3,
 qlf 102 100 101,
 .rf 103 100 (.bin .eql false (.t 102) (qI 4)),
 qmf 104 100 103,
 .rt 105 104 (.ld (some 2) (.t 2)),
 qft 106 104 1 3,
 qlt 107 104 106,
 .rt 108 104 (.call (.k (.clo JZ [])) [.t 105,.t 107,qI 3]),
 .rt 109 104 (.un .not (.t 108)),
 qmt 110 104 109,
 qff 111 110 1 2,
 qlf 112 110 111,
 qff 113 110 1 3,
 qlf 114 110 113,
 .rf 115 110 (.ixL 7 (.t 112) (.t 114)),
 qff 116 110 6 115,
 qlf 117 110 116,
 .rf 118 110 (.un .not (.t 117)),
 .rt 119 104 (.pick (.t 110) (.k (.v (.bool true))) (.t 118)),
 .rf 120 100 (.pick (.t 104) (.t 119) (.k (.v (.bool false)))),
 qP 121 100 120])
 (qq 121
 (.seq
 (.reg 19 none [4] [
 qi 4 7])
 .ret)
 .skip))
 (.seq
 (.seq
 (.reg 20 (some [0,1,3,7,15,31,63,127,255,511,255,1279,255,4351,255,16639,61695,127231,258303,523519,1047807,2096383,4193535,8388607,16777215,33554431]) [2,3,147] [
 qf 122 0 3,
 ql 123 122,
 qB 124 .eql 123 2,
 qm 125 124,
 qft 126 125 2 3,
 qlt 127 125 126,
 .rt 128 125 (.bin .lss false (.t 127) (qI 0)),
 qmt 129 125 128,
 qff 130 129 2 3,
 qlf 131 129 130,
 qff 132 129 0 2,
 qlf 133 129 132,
 qff 134 129 1 2,
 qlf 135 129 134,
 qff 136 129 1 3,
 qlf 137 129 136,
 .rf 138 129 (.ixL 7 (.t 135) (.t 137)),
 qff 139 129 2 138,
 qlf 140 129 139,
 .rf 141 129 (.ixL 2 (.t 133) (.t 140)),
 qff 142 129 1 141,
 qlf 143 129 142,
 .rf 144 129 (.lenL (.t 143)),
 .rf 145 129 (.bin .geq false (.t 131) (.t 144)),
 .rt 146 125 (.pick (.t 129) (.k (.v (.bool true))) (.t 145)),
 qp 147 125 146])
 (qq 147
 (.seq
 (.reg 21 none [4] [
 qi 4 6])
 .ret)
 .skip))
 (.seq
 (.seq
 (.reg 22 none [2,3,167] [
 qf 148 0 3,
 ql 149 148,
 qB 150 .eql 149 3,
 qm 151 150,
 qft 152 151 3 3,
 qlt 153 151 152,
 .rt 154 151 (.bin .lss false (.t 153) (.k (.v (.int .i64 (-1000000))))),
 qmt 155 151 154,
 qff 156 155 4 3,
 qlf 157 155 156,
 .rf 158 155 (.bin .gtr false (.t 157) (qI 1000000)),
 .rt 159 151 (.pick (.t 155) (.k (.v (.bool true))) (.t 158)),
 qmt 160 151 159,
 qff 161 160 3 3,
 qlf 162 160 161,
 qff 163 160 4 3,
 qlf 164 160 163,
 .rf 165 160 (.bin .gtr false (.t 162) (.t 164)),
 .rt 166 151 (.pick (.t 160) (.k (.v (.bool true))) (.t 165)),
 qp 167 151 166])
 (qq 167
 (.seq
 (.reg 23 none [4] [
 qi 4 2])
 .ret)
 .skip))
 (.seq
 (.seq
 (.reg 24 none [2,3,7] [
 qi 7 0])
 (.block 1
 (.loop
 (.seq
 (.seq
 (.reg 25 none [2,3,7,172] [
 qm 168 7,
 qf 169 5 3,
 ql 170 169,
 qn 171 170,
 qb 172 .lss 168 171])
 (qq 172
 .skip
 (.exit 1)))
 (.seq
 (.block 2
 (.seq
 (.reg 27 (some [0,0,2,0,14,30,63,127]) [2,3,7,8] [
 qL 175 2 2,
 qf 176 5 3,
 ql 177 176,
 qm 178 7,
 qx 179 6 177 178,
 qL 180 6 179,
 qC 181 Jn [.t 175,.t 180],
 qm 8 181])
 (.seq
 (.reg 28 none [2,3,7,8,183] [
 qm 182 8,
 qB 183 .neq 182 0])
 (qq 183
 (.seq
 (.reg 29 none [4] [
 qm 184 8,
 qm 4 184])
 .ret)
 .skip))))
 (.reg 26 none [2,3,7] [
 qm 173 7,
 qa 174 173,
 qm 7 174]))))))
 (.seq
 (.reg 30 none [4] [
 qi 4 0])
 .ret)))))))))
def qS8:List (Nat×List Nat):=qy zn
theorem jf:FnIR Tryz.prog Jn 185 qS8 zn [(.tmp 4)]:=
 qF Tryz.func158
def yB:RC:=
 (.seq
 (.reg 0 none [1,2] [
 .r 2 (.box (.t 0)),
 qi 4 0])
 (.seq
 (.reg 1 none [1,2,5] [
 qi 5 1])
 (.seq
 (.seq
 (.reg 2 none [1,5,9,10,11] [
 qf 8 5 2,
 ql 9 8,
 qn 10 9,
 qi 11 0])
 (.block 0
 (.loop
 (.seq
 (.reg 3 none [1,5,9,10,11,12] [
 qb 12 .lss 11 10])
 (.seq
 (qq 12
 .skip
 (.exit 0))
 (.seq
 (.block 1
 (.seq
 (.reg 4 none [1,5,7,9,10,11] [
 qx 13 6 9 11,
 qL 14 6 13,
 .r 7 (.new (.agg [.v (.int .i64 0),.v (.int .i64 0),.v (.int .i64 0),.v (.int .i64 0),.v (.int .i64 0),.v (.slice none 0 0)])),
 qs 6 7 14])
 (.seq
 (.seq
 (.reg 5 none [1,5,7,9,10,11,17] [
 qm 15 5,
 qm 16 1,
 qb 17 .gtr 15 16])
 (qq 17
 (.exit 0)
 .skip))
 (.reg 6 none [1,5,9,10,11] [
 qm 18 5,
 qL 19 6 7,
 qm 20 1,
 qm 21 5,
 qb 22 .sub 20 21,
 qC 23 kQ [.t 19,.t 22],
 qb 24 .add 18 23,
 qm 5 24]))))
 (.reg 7 none [1,5,9,10,11] [
 qa 25 11,
 qm 11 25])))))))
 (.seq
 (.reg 8 none [4] [
 qm 26 5,
 qm 4 26])
 .ret))))
def qk6:List (Nat×List Nat):=qy yB
theorem qk7:FnIR Tryz.prog kQ 27 qk6 yB [(.tmp 4)]:=
 qF Tryz.func159
def Qf:RC:=
 (.seq
 (.reg 0 none [1] [
 .r 1 (.box (.t 0)),
 qi 2 0])
 (.seq
 (.reg 1 none [1,3] [
 qi 3 0])
 (.seq
 (.seq
 (.reg 2 none [3,7,8,9] [
 qf 6 5 1,
 ql 7 6,
 qn 8 7,
 qi 9 0])
 (.block 0
 (.loop
 (.seq
 (.reg 3 none [3,7,8,9,10] [
 qb 10 .lss 9 8])
 (.seq
 (qq 10
 .skip
 (.exit 0))
 (.seq
 (.block 1
 (.seq
 (.reg 4 none [3,5,7,8,9] [
 qx 11 6 7 9,
 qL 12 6 11,
 .r 5 (.new (.agg [.v (.int .i64 0),.v (.int .i64 0),.v (.int .i64 0),.v (.int .i64 0),.v (.int .i64 0),.v (.slice none 0 0)])),
 qs 6 5 12])
 (.reg 5 none [3,7,8,9] [
 qm 13 3,
 qL 14 6 5,
 qC 15 wz [.t 14],
 .r 16 (.mx [.t 13,.t 15]),
 qm 3 16])))
 (.reg 6 none [3,7,8,9] [
 qa 17 9,
 qm 9 17])))))))
 (.seq
 (.reg 7 none [2] [
 qm 18 3,
 qa 19 18,
 qm 2 19])
 .ret))))
def qq2:List (Nat×List Nat):=qy Qf
theorem qq3:FnIR Tryz.prog wz 20 qq2 Qf [(.tmp 2)]:=
 qF Tryz.func160
def kD:RC:=
 (.seq
 (.reg 0 none [2,3] [
 .r 2 (.box (.t 0)),
 .r 3 (.box (.t 1)),
 qi 4 0])
 (.seq
 (.seq
 (.reg 1 none [2,3,5] [
 qL 9 2 2,
 qL 10 6 3,
 qC 11 wg [.t 9,.t 10],
 qm 5 11])
 (.seq
 (.reg 2 none [2,3,5,13] [
 qm 12 5,
 qB 13 .neq 12 0])
 (qq 13
 (.seq
 (.reg 3 none [4] [
 qm 14 5,
 qm 4 14])
 .ret)
 .skip)))
 (.seq
 (.seq
 (.reg 4 none [2,16,17,18] [
 qf 15 5 3,
 ql 16 15,
 qn 17 16,
 qi 18 0])
 (.block 0
 (.loop
 (.seq
 (.reg 5 none [2,16,17,18,19] [
 qb 19 .lss 18 17])
 (.seq
 (qq 19
 .skip
 (.exit 0))
 (.seq
 (.block 1
 (.seq
 (.reg 6 none [2,7,16,17,18] [
 qx 20 6 16 18,
 qL 21 6 20,
 .r 7 (.new (.agg [.v (.int .i64 0),.v (.int .i64 0),.v (.int .i64 0),.v (.int .i64 0),.v (.int .i64 0),.v (.slice none 0 0)])),
 qs 6 7 21])
 (.seq
 (.reg 7 none [2,8,16,17,18] [
 qL 22 2 2,
 qL 23 6 7,
 qC 24 jq [.t 22,.t 23],
 qm 8 24])
 (.seq
 (.reg 8 none [2,8,16,17,18,26] [
 qm 25 8,
 qB 26 .neq 25 0])
 (qq 26
 (.seq
 (.reg 9 none [4] [
 qm 27 8,
 qm 4 27])
 .ret)
 .skip)))))
 (.reg 10 none [2,16,17,18] [
 qa 28 18,
 qm 18 28])))))))
 (.seq
 (.reg 11 none [4] [
 qi 4 0])
 .ret))))
def Ym:List (Nat×List Nat):=qy kD
theorem Yn:FnIR Tryz.prog jq 29 Ym kD [(.tmp 4)]:=
 qF Tryz.func161
def JH:RC:=
 (.seq
 (.reg 0 none [3,4,5] [
 .r 3 (.box (.t 0)),
 .r 4 (.box (.t 1)),
 .r 5 (.box (.t 2)),
 qc 6 false])
 (.seq
 (.seq
 (.reg 1 none [3,4,5,9] [
 qf 8 1 4,
 ql 9 8])
 (.block 0
 (.seq
 (.reg 2 none [3,4,5,9,10] [
 qB 11 .eql 9 1,
 qm 10 11])
 (qq 10
 (.seq
 (.reg 3 none [6] [
 ql 12 5,
 qB 13 .geq 12 1,
 qm 14 13,
 qlt 15 14 5,
 .rt 16 14 (.bin .leq false (.t 15) (qI 1048575)),
 qp 17 14 16,
 qm 6 17])
 .ret)
 (.seq
 (.reg 4 none [3,4,5,18] [
 qB 19 .eql 9 2,
 qm 18 19])
 (qq 18
 (.seq
 (.reg 5 none [5,7] [
 qf 20 0 3,
 ql 21 20,
 qf 22 2 4,
 ql 23 22,
 qx 24 2 21 23,
 qf 25 1 24,
 ql 26 25,
 qm 7 26])
 (.seq
 (.reg 6 none [6] [
 ql 27 5,
 qB 28 .geq 27 0,
 qm 29 28,
 qlt 30 29 5,
 qmt 31 29 7,
 .rt 32 29 (.lenL (.t 31)),
 .rt 33 29 (.bin .lss false (.t 30) (.t 32)),
 qp 34 29 33,
 qm 35 34,
 qmt 36 35 7,
 .rt 37 35 (.mf ym [.t 5]),
 .rt 38 35 (.call (.k (.clo zV [])) [.t 36,.t 37]),
 .rt 39 35 (.un .not (.t 38)),
 qp 40 35 39,
 qm 6 40])
 .ret))
 .skip))))))
 (.seq
 (.reg 7 none [6] [
 ql 41 5,
 qf 42 3 4,
 ql 43 42,
 qb 44 .geq 41 43,
 qm 45 44,
 qlt 46 45 5,
 qft 47 45 4 4,
 qlt 48 45 47,
 .rt 49 45 (.bin .leq false (.t 46) (.t 48)),
 qp 50 45 49,
 qm 51 50,
 qff 52 51 6 4,
 qlf 53 51 52,
 qmf 54 51 53,
 qlt 55 54 5,
 .rt 56 54 (.bin .eql false (.t 55) (.k (.v (.int .i64 (-1099511627776))))),
 .rf 57 51 (.pick (.t 54) (.t 56) (.k (.v (.bool false)))),
 qP 58 51 57,
 qm 6 58])
 .ret)))
def qJ9:List (Nat×List Nat):=qy JH
theorem qK0:FnIR Tryz.prog KE 59 qJ9 JH [(.tmp 6)]:=
 qF Tryz.func170
def qe6:RC:=
 (.seq
 (.reg 0 none [1,2,3] [
 .r 3 (.box (.t 0)),
 qi 6 0])
 (.seq
 (.seq
 (.reg 1 none [1,2,3,15] [
 qL 8 2 3,
 qm 9 1,
 qC 10 ZG [.t 8,.t 9],
 .r 11 (.un .not (.t 10)),
 qm 12 11,
 qmf 13 12 2,
 .rf 14 12 (.bin .lss false (.t 13) (qI 0)),
 qP 15 12 14])
 (qq 15
 (.seq
 (.reg 2 none [6] [
 .r 6 (.mv (.k (.v (.int .i64 (-1)))))])
 .ret)
 .skip))
 (.seq
 (.seq
 (.reg 3 none [1,2,3,7] [
 qL 16 2 3,
 qC 17 jj [.t 16],
 qm 18 1,
 qx 19 1 17 18,
 ql 20 19,
 qm 7 20])
 (.block 0
 (.loop
 (.seq
 (.seq
 (.reg 4 none [1,2,3,7,23] [
 qm 21 7,
 qm 22 2,
 qb 23 .geq 21 22])
 (qq 23
 .skip
 (.exit 0)))
 (.seq
 (.block 1
 (.seq
 (.seq
 (.reg 6 none [1,2,3,7,28] [
 qm 26 7,
 qm 27 2,
 qb 28 .eql 26 27])
 (qq 28
 (.seq
 (.reg 7 none [6] [
 qm 29 1,
 qm 6 29])
 .ret)
 .skip))
 (.reg 8 none [1,2,3,7] [
 qf 30 1 3,
 ql 31 30,
 qm 32 1,
 qx 33 2 31 32,
 qf 34 1 33,
 ql 35 34,
 qm 1 35])))
 (.reg 5 none [1,2,3,7] [
 qm 24 7,
 qB 25 .sub 24 1,
 qm 7 25]))))))
 (.seq
 (.reg 9 none [6] [
 .r 6 (.mv (.k (.v (.int .i64 (-1)))))])
 .ret))))
def zl7:List (Nat×List Nat):=qy qe6
theorem zl8:FnIR Tryz.prog yU 36 zl7 qe6 [(.tmp 6)]:=
 qF Tryz.func171
def JI:RC:=
 (.seq
 (.reg 0 none [0,1] [
 qi 4 0])
 (.seq
 (.reg 1 none [0,1,5] [
 qm 6 0,
 qm 7 1,
 qb 8 .rem 6 7,
 qm 5 8])
 (.seq
 (.seq
 (.reg 2 none [0,1,5,10] [
 qm 9 5,
 qB 10 .lss 9 0])
 (qq 10
 (.reg 3 none [0,5] [
 qm 11 5,
 qm 12 1,
 qb 13 .add 11 12,
 qm 5 13])
 .skip))
 (.seq
 (.reg 4 none [4] [
 qm 14 0,
 qm 15 5,
 qb 16 .sub 14 15,
 qm 4 16])
 .ret))))
def qK1:List (Nat×List Nat):=qy JI
theorem qK2:FnIR Tryz.prog yj 17 qK1 JI [(.tmp 4)]:=
 qF Tryz.func172
def ZS:RC:=
 (.seq
 (.reg 0 none [1,2] [
 .r 2 (.box (.t 0)),
 qi 4 0])
 (.seq
 (.reg 1 none [4] [
 qf 5 5 2,
 ql 6 5,
 qf 7 5 2,
 ql 8 7,
 qn 9 8,
 qm 10 1,
 qb 11 .sub 9 10,
 qx 12 1 6 11,
 ql 13 12,
 qm 4 13])
 .ret))
def qE0:List (Nat×List Nat):=qy ZS
theorem qE1:FnIR Tryz.prog Qw 14 qE0 ZS [(.tmp 4)]:=
 qF Tryz.func173
def JJ:RC:=
 (.seq
 (.reg 0 none [1] [
 .r 1 (.box (.t 0)),
 qi 2 0])
 (.seq
 (.block 0
 (.seq
 (.reg 1 none [1,10] [
 qf 11 0 1,
 ql 12 11,
 qC 13 jH [.t 12],
 .r 14 (.un .not (.t 13)),
 qm 10 14])
 (qq 10
 (.seq
 (.reg 2 none [2] [
 qi 2 3])
 .ret)
 (.seq
 (.reg 3 none [1,15] [
 qf 16 1 1,
 ql 17 16,
 qn 18 17,
 qB 19 .eql 18 0,
 qm 15 19])
 (qq 15
 (.seq
 (.reg 4 none [2] [
 qi 2 5])
 .ret)
 (.seq
 (.reg 5 none [1,20] [
 qf 21 1 1,
 ql 22 21,
 qn 23 22,
 qB 24 .gtr 23 60,
 qm 20 24])
 (qq 20
 (.seq
 (.reg 6 none [2] [
 qi 2 1])
 .ret)
 .skip)))))))
 (.seq
 (.reg 7 (some [0,0,2,6,14,1,63]) [1,3,4] [
 .r 25 (.ext (.mkm .sb) []),
 qf 26 1 1,
 ql 27 26,
 qn 28 27,
 .r 29 (.mk 1 1 (.v (.bool false)) (.t 28) (.t 28)),
 qm 3 25,
 qm 4 29])
 (.seq
 (.seq
 (.reg 8 none [1,3,4,31,32,33] [
 qf 30 1 1,
 ql 31 30,
 qn 32 31,
 qi 33 0])
 (.block 1
 (.loop
 (.seq
 (.reg 9 none [1,3,4,31,32,33,34] [
 qb 34 .lss 33 32])
 (.seq
 (qq 34
 .skip
 (.exit 1))
 (.seq
 (.block 2
 (.seq
 (.reg 10 none [1,3,4,5,6,31,32,33] [
 qm 35 33,
 qx 36 2 31 33,
 qL 37 2 36,
 .r 6 (.new (.agg [.v (.string ⟨#[]⟩),.v (.int .i64 0)])),
 qm 5 35,
 qs 2 6 37])
 (.seq
 (.block 3
 (.seq
 (.reg 11 none [1,3,4,5,6,31,32,33,38] [
 qf 39 0 6,
 ql 40 39,
 qC 41 jH [.t 40],
 .r 42 (.un .not (.t 41)),
 qm 38 42])
 (qq 38
 (.seq
 (.reg 12 none [2] [
 qi 2 3])
 .ret)
 (.seq
 (.reg 13 none [1,3,4,5,6,31,32,33,43] [
 qm 44 3,
 qf 45 0 6,
 ql 46 45,
 .r 47 (.ext (.mget .sb false) [.t 44,.t 46]),
 qm 43 47])
 (qq 43
 (.seq
 (.reg 14 none [2] [
 qi 2 10])
 .ret)
 (.seq
 (.reg 15 none [1,3,4,5,6,31,32,33,48] [
 qm 49 5,
 qB 50 .eql 49 0,
 qm 51 50,
 qft 52 51 1 6,
 qlt 53 51 52,
 .rt 54 51 (.bin .neq false (.t 53) (.k (.v (.int .i64 (-1))))),
 qp 55 51 54,
 qm 56 55,
 qmf 57 56 5,
 .rf 58 56 (.bin .gtr false (.t 57) (qI 0)),
 qmf 59 56 58,
 qft 60 59 1 6,
 qlt 61 59 60,
 .rt 62 59 (.bin .lss false (.t 61) (qI 0)),
 qmt 63 59 62,
 qff 64 63 1 6,
 qlf 65 63 64,
 qmf 66 63 5,
 .rf 67 63 (.bin .geq false (.t 65) (.t 66)),
 .rt 68 59 (.pick (.t 63) (.k (.v (.bool true))) (.t 67)),
 .rf 69 56 (.pick (.t 59) (.t 68) (.k (.v (.bool false)))),
 qP 70 56 69,
 qm 48 70])
 (qq 48
 (.seq
 (.reg 16 none [2] [
 qi 2 6])
 .ret)
 .skip)))))))
 (.seq
 (.reg 17 none [1,3,4,5,6,31,32,33] [
 qm 71 3,
 qf 72 0 6,
 ql 73 72,
 .rn (.ext (.mput .sb) [.t 71,.t 73,.k (.v (.bool true))])])
 (.seq
 (.reg 18 none [1,3,4,6,31,32,33,75] [
 qm 74 5,
 qB 75 .gtr 74 0])
 (qq 75
 (.reg 19 none [1,3,4,31,32,33] [
 qm 76 4,
 qf 77 1 6,
 ql 78 77,
 qx 79 1 76 78,
 .rn (.st 1 (.t 79) (.k (.v (.bool true))))])
 .skip))))))
 (.reg 20 none [1,3,4,31,32,33] [
 qa 80 33,
 qm 33 80])))))))
 (.seq
 (.reg 21 none [1,4,7] [
 .r 7 (.mv (.k (.v (.int .i64 (-1)))))])
 (.seq
 (.seq
 (.reg 22 none [4,7,82,83,84] [
 qL 81 2 1,
 qC 82 jj [.t 81],
 qn 83 82,
 qi 84 0])
 (.block 4
 (.loop
 (.seq
 (.reg 23 none [4,7,82,83,84,85] [
 qb 85 .lss 84 83])
 (.seq
 (qq 85
 .skip
 (.exit 4))
 (.seq
 (.block 5
 (.seq
 (.reg 24 none [4,7,8,9,82,83,84] [
 qm 86 84,
 qx 87 1 82 84,
 ql 88 87,
 qm 8 86,
 qm 9 88])
 (.seq
 (.seq
 (.reg 25 none [4,7,9,82,83,84,92] [
 qm 89 4,
 qm 90 8,
 qx 91 1 89 90,
 ql 92 91])
 (qq 92
 (.exit 5)
 .skip))
 (.seq
 (.seq
 (.reg 26 none [4,9,82,83,84,99] [
 qm 93 7,
 qB 94 .geq 93 0,
 qm 95 94,
 qmt 96 95 9,
 qmt 97 95 7,
 .rt 98 95 (.bin .neq false (.t 96) (.t 97)),
 qp 99 95 98])
 (qq 99
 (.seq
 (.reg 27 none [2] [
 qi 2 5])
 .ret)
 .skip))
 (.reg 28 none [4,7,82,83,84] [
 qm 100 9,
 qm 7 100])))))
 (.reg 29 none [4,7,82,83,84] [
 qa 101 84,
 qm 84 101])))))))
 (.seq
 (.reg 30 none [2] [
 qi 2 0])
 .ret)))))))
def qK3:List (Nat×List Nat):=qy JJ
theorem qK4:FnIR Tryz.prog kR 102 qK3 JJ [(.tmp 2)]:=
 qF Tryz.func176
def zl:RC:=
 (.seq
 (.reg 0 none [0,1] [
 qc 4 false])
 (.seq
 (.reg 1 none [4] [
 qm 5 0,
 qm 6 1,
 qC 7 zM [.t 5,.t 6],
 qB 8 .geq 7 0,
 qm 4 8])
 .ret))
def Qg:List (Nat×List Nat):=qy zl
theorem Qh:FnIR Tryz.prog zr 9 Qg zl [(.tmp 4)]:=
 qF Tryz.func177
def Qi:RC:=
 (.seq
 (.reg 0 none [1,2] [
 .r 2 (.box (.t 0)),
 qc 3 false])
 (.seq
 (.reg 1 none [3] [
 qf 4 0 2,
 ql 5 4,
 qf 6 0 1,
 ql 7 6,
 qb 8 .eql 5 7,
 qm 3 8])
 .ret))
def qq4:List (Nat×List Nat):=qy Qi
theorem qq5:FnIR Tryz.prog wA 9 qq4 Qi [(.tmp 3)]:=
 qF Tryz.func178
def kE:RC:=
 (.seq
 (.reg 0 none [1,2] [
 .r 2 (.box (.t 0)),
 qi 4 0])
 (.seq
 (.reg 1 none [1,2,5] [
 qf 7 1 2,
 ql 8 7,
 qm 9 1,
 qx 10 7 8 9,
 qL 11 7 10,
 .r 5 (.new (.agg [.v (.string ⟨#[]⟩),.v (.int .i64 0),.v (.int .i64 0),.v (.int .i64 0),.v (.int .i64 0),.v (.slice none 0 0),.v (.bool false)])),
 qs 7 5 11])
 (.seq
 (.seq
 (.reg 2 none [1,2,5,15] [
 qf 12 0 5,
 ql 13 12,
 qC 14 jH [.t 13],
 .r 15 (.un .not (.t 14))])
 (qq 15
 (.seq
 (.reg 3 none [4] [
 qi 4 3])
 .ret)
 .skip))
 (.seq
 (.seq
 (.reg 4 none [1,2,5,21] [
 qf 16 1 2,
 ql 17 16,
 qm 18 1,
 .r 19 (.slL 7 (.t 17) none (some (.t 18))),
 .r 20 (.mf zT [.t 5]),
 qC 21 zE [.t 19,.t 20]])
 (qq 21
 (.seq
 (.reg 5 none [4] [
 qi 4 10])
 .ret)
 .skip))
 (.seq
 (.seq
 (.reg 6 none [1,2,5,23] [
 qf 22 1 5,
 ql 23 22])
 (.block 0
 (.seq
 (.reg 8 none [1,2,5,23,24] [
 qB 25 .eql 23 1,
 qm 24 25])
 (qq 24
 (.seq
 (.reg 9 none [5,27] [
 qm 26 1,
 qB 27 .gtr 26 0])
 (qq 27
 (.seq
 (.reg 10 none [4] [
 qi 4 4])
 .ret)
 .skip))
 (.seq
 (.reg 11 none [2,5,23,28] [
 qB 29 .eql 23 2,
 qm 28 29])
 (qq 28
 (.seq
 (.reg 12 none [5,40] [
 qf 30 2 5,
 ql 31 30,
 qB 32 .lss 31 0,
 qm 33 32,
 qff 34 33 2 5,
 qlf 35 33 34,
 qff 36 33 0 2,
 qlf 37 33 36,
 .rf 38 33 (.lenL (.t 37)),
 .rf 39 33 (.bin .geq false (.t 35) (.t 38)),
 qP 40 33 39])
 (qq 40
 (.seq
 (.reg 13 none [4] [
 qi 4 5])
 .ret)
 .skip))
 (.seq
 (.reg 14 none [5,41] [
 qB 42 .eql 23 3,
 qm 41 42])
 (qq 41
 (.seq
 (.reg 15 none [5,6] [
 qL 43 7 5,
 qC 44 kz [.t 43],
 qm 6 44])
 (.seq
 (.reg 16 none [5,6,46] [
 qm 45 6,
 qB 46 .neq 45 0])
 (qq 46
 (.seq
 (.reg 17 none [4] [
 qm 47 6,
 qm 4 47])
 .ret)
 .skip)))
 (.seq
 (.reg 7 none [4] [
 qi 4 4])
 .ret)))))))))
 (.seq
 (.seq
 (.reg 18 none [50] [
 qL 48 7 5,
 qC 49 ZH [.t 48],
 .r 50 (.un .not (.t 49))])
 (qq 50
 (.seq
 (.reg 19 none [4] [
 qi 4 11])
 .ret)
 .skip))
 (.seq
 (.reg 20 none [4] [
 qi 4 0])
 .ret)))))))
def Yo:List (Nat×List Nat):=qy kE
theorem Yp:FnIR Tryz.prog kY 51 Yo kE [(.tmp 4)]:=
 qF Tryz.func179
def wN:RC:=
 (.seq
 (.reg 0 none [0,1] [
 qi 4 0])
 (.seq
 (.seq
 (.reg 1 none [0,1,7,8] [
 qm 6 0,
 qn 7 6,
 qi 8 0])
 (.block 0
 (.loop
 (.seq
 (.reg 2 none [0,1,7,8,9] [
 qb 9 .lss 8 7])
 (.seq
 (qq 9
 .skip
 (.exit 0))
 (.seq
 (.block 1
 (.seq
 (.reg 3 none [0,1,5,7,8] [
 qm 10 8,
 qm 5 10])
 (.seq
 (.reg 4 none [0,1,5,7,8,16] [
 qm 11 1,
 qm 12 0,
 qm 13 5,
 qx 14 1 12 13,
 ql 15 14,
 qb 16 .eql 11 15])
 (qq 16
 (.seq
 (.reg 5 none [4] [
 qm 17 5,
 qm 4 17])
 .ret)
 .skip))))
 (.reg 6 none [0,1,7,8] [
 qa 18 8,
 qm 8 18])))))))
 (.seq
 (.reg 7 none [4] [
 .r 4 (.mv (.k (.v (.int .i64 (-1)))))])
 .ret)))
def qe7:List (Nat×List Nat):=qy wN
theorem qe8:FnIR Tryz.prog yk 19 qe7 wN [(.tmp 4)]:=
 qF Tryz.func182
def zy:RC:=
 (.seq
 (.reg 0 none [0,1] [
 .r 4 (.mv (.k (.v (.string ⟨#[]⟩))))])
 (.seq
 (.seq
 (.reg 1 none [0,1,11] [
 qm 10 1,
 qB 11 .eql 10 10])
 (qq 11
 (.seq
 (.seq
 (.reg 2 none [0,17] [
 qm 12 0,
 .r 13 (.bin .leq false (qI 0) (.t 12)),
 qm 14 13,
 qmt 15 14 0,
 .rt 16 14 (.bin .lss false (.t 15) (qI 100)),
 qp 17 14 16])
 (qq 17
 (.seq
 (.reg 3 none [4] [
 qm 18 0,
 qC 19 jy [.t 18],
 qm 4 19])
 .ret)
 .skip))
 (.seq
 (.reg 4 none [0] [
 .r 5 (.new (.agg [.v (.int .u8 0),.v (.int .u8 0),.v (.int .u8 0),.v (.int .u8 0),.v (.int .u8 0),.v (.int .u8 0),.v (.int .u8 0),.v (.int .u8 0),.v (.int .u8 0),.v (.int .u8 0),.v (.int .u8 0),.v (.int .u8 0),.v (.int .u8 0),.v (.int .u8 0),.v (.int .u8 0),.v (.int .u8 0),.v (.int .u8 0),.v (.int .u8 0),.v (.int .u8 0),.v (.int .u8 0),.v (.int .u8 0),.v (.int .u8 0),.v (.int .u8 0),.v (.int .u8 0)]))])
 (.seq
 (.reg 5 none [0,6] [
 qm 20 0,
 .r 21 (.cvI .u64 (.t 20)),
 qm 6 21])
 (.seq
 (.seq
 (.reg 6 none [6,23] [
 qm 22 0,
 qB 23 .lss 22 0])
 (qq 23
 (.reg 7 none [6] [
 qm 24 6,
 .r 25 (.un .neg (.t 24)),
 qm 6 25])
 .skip))
 (.seq
 (.reg 8 none [] [
 qm 26 6,
 qC 27 Zn [.t 26],
 qm 7 27])
 (.seq
 .stuck
 (.seq
 (.seq
 (.reg 10 none [5,34] [
 qm 33 0,
 qB 34 .lss 33 0])
 (qq 34
 (.seq
 (.reg 11 none [] [
 .r 35 (.ixA 24 1 (.t 5) (qI 0)),
 .rn (.st 1 (.t 35) (.k (.v (.int .u8 45))))])
 (.seq
 .stuck
 .ret))
 .skip))
 (.seq
 .stuck
 .ret))))))))
 .skip))
 (.seq
 (.reg 14 none [9] [
 qm 45 0,
 .r 46 (.cvI .u64 (.t 45)),
 qm 47 1,
 qm 48 0,
 qB 49 .lss 48 0,
 qC 50 QN [qN,.t 46,.t 47,.t 49,.k (.v (.bool false))],
 qm 44 50,
 .r 51 (.ex (.t 44) 0),
 .r 52 (.ex (.t 44) 1),
 qm 8 51,
 qm 9 52])
 (.seq
 (.reg 15 none [4] [
 qm 53 9,
 qm 4 53])
 .ret))))
def QV:List (Nat×List Nat):=qy zy
theorem QW:FnIR Tryz.prog zD 54 QV zy [(.tmp 4)]:=
 qF Tryz.func187
def wl:RC:=
 (.seq
 (.reg 0 none [2,3] [
 .r 2 (.box (.t 0)),
 .r 3 (.box (.t 1)),
 qi 4 0])
 (.seq
 (.seq
 (.reg 1 none [2,3,17] [
 qf 8 8 3,
 ql 9 8,
 qn 10 9,
 qB 11 .lss 10 1,
 qm 12 11,
 qff 13 12 8 3,
 qlf 14 12 13,
 .rf 15 12 (.lenL (.t 14)),
 .rf 16 12 (.bin .gtr false (.t 15) (qI 3)),
 qP 17 12 16])
 (qq 17
 (.seq
 (.reg 2 none [4] [
 qi 4 1])
 .ret)
 .skip))
 (.seq
 (.seq
 (.reg 3 none [2,3,19,20,21] [
 qf 18 8 3,
 ql 19 18,
 qn 20 19,
 qi 21 0])
 (.block 0
 (.loop
 (.seq
 (.reg 4 none [2,3,19,20,21,22] [
 qb 22 .lss 21 20])
 (.seq
 (qq 22
 .skip
 (.exit 0))
 (.seq
 (.block 1
 (.seq
 (.reg 5 none [2,3,5,6,19,20,21] [
 qm 23 21,
 qx 24 2 19 21,
 qL 25 2 24,
 .r 6 (.new (.agg [.v (.int .i64 0),.v (.int .i64 0)])),
 qm 5 23,
 qs 2 6 25])
 (.seq
 (.seq
 (.reg 6 none [2,3,5,6,7,19,20,21] [
 qL 26 2 2,
 qL 27 2 6,
 qC 28 KH [.t 26,.t 27],
 qm 7 28])
 (.seq
 (.reg 7 none [2,3,5,6,7,19,20,21,30] [
 qm 29 7,
 qB 30 .neq 29 0])
 (qq 30
 (.seq
 (.reg 8 none [4] [
 qm 31 7,
 qm 4 31])
 .ret)
 .skip)))
 (.seq
 (.seq
 (.reg 9 none [2,3,5,6,19,20,21,36] [
 qL 32 2 2,
 qf 33 0 6,
 ql 34 33,
 qC 35 zc [.t 32,.t 34],
 qB 36 .neq 35 2])
 (qq 36
 (.seq
 (.reg 10 none [4] [
 qi 4 7])
 .ret)
 .skip))
 (.seq
 (.reg 11 none [2,3,19,20,21,42] [
 qf 37 8 3,
 ql 38 37,
 qm 39 5,
 .r 40 (.slL 2 (.t 38) none (some (.t 39))),
 .r 41 (.mf je [.t 6]),
 qC 42 zb [.t 40,.t 41]])
 (qq 42
 (.seq
 (.reg 12 none [4] [
 qi 4 10])
 .ret)
 .skip))))))
 (.reg 13 none [2,3,19,20,21] [
 qa 43 21,
 qm 21 43])))))))
 (.seq
 (.seq
 (.reg 14 none [3,53] [
 qf 44 9 3,
 ql 45 44,
 .r 46 (.bin .neq false (.t 45) (.k (.v (.int .i64 (-1))))),
 qm 47 46,
 .rt 48 47 (.ld (some 2) (.t 2)),
 qft 49 47 9 3,
 qlt 50 47 49,
 .rt 51 47 (.call (.k (.clo zc [])) [.t 48,.t 50]),
 .rt 52 47 (.bin .neq false (.t 51) (qI 3)),
 qp 53 47 52])
 (qq 53
 (.seq
 (.reg 15 none [4] [
 qi 4 7])
 .ret)
 .skip))
 (.seq
 (.seq
 (.reg 16 none [63] [
 qf 54 10 3,
 ql 55 54,
 qn 56 55,
 qB 57 .gtr 56 0,
 qm 58 57,
 qff 59 58 11 3,
 .rf 60 58 (.ld (some 6) (.t 59)),
 .rf 61 58 (.call (.k (.clo jL [])) [.t 60]),
 .rf 62 58 (.un .not (.t 61)),
 qP 63 58 62])
 (qq 63
 (.seq
 (.reg 17 none [4] [
 qi 4 11])
 .ret)
 .skip))
 (.seq
 (.reg 18 none [4] [
 qi 4 0])
 .ret))))))
def qa1:List (Nat×List Nat):=qy wl
theorem qa2:FnIR Tryz.prog wF 64 qa1 wl [(.tmp 4)]:=
 qF Tryz.func188
def wm:RC:=
 (.seq
 (.reg 0 none [2,3] [
 .r 2 (.box (.t 0)),
 .r 3 (.box (.t 1)),
 qi 4 0])
 (.seq
 (.block 0
 (.seq
 (.reg 1 none [2,3,7] [
 qL 8 2 2,
 qf 9 9 3,
 ql 10 9,
 qC 11 zc [.t 8,.t 10],
 qB 12 .neq 11 3,
 qm 7 12])
 (qq 7
 (.seq
 (.reg 2 none [4] [
 qi 4 7])
 .ret)
 (.seq
 (.reg 3 none [2,3,13] [
 qf 14 10 3,
 ql 15 14,
 qn 16 15,
 qB 17 .lss 16 1,
 qm 18 17,
 qff 19 18 10 3,
 qlf 20 18 19,
 .rf 21 18 (.lenL (.t 20)),
 .rf 22 18 (.bin .gtr false (.t 21) (qI 3)),
 qP 23 18 22,
 qm 13 23])
 (qq 13
 (.seq
 (.reg 4 none [4] [
 qi 4 1])
 .ret)
 .skip)))))
 (.seq
 (.seq
 (.reg 5 none [2,3,25,26,27] [
 qf 24 10 3,
 ql 25 24,
 qn 26 25,
 qi 27 0])
 (.block 1
 (.loop
 (.seq
 (.reg 6 none [2,3,25,26,27,28] [
 qb 28 .lss 27 26])
 (.seq
 (qq 28
 .skip
 (.exit 1))
 (.seq
 (.block 2
 (.seq
 (.reg 7 none [2,3,5,6,25,26,27] [
 qm 29 27,
 qx 30 1 25 27,
 ql 31 30,
 qm 5 29,
 qm 6 31])
 (.seq
 (.seq
 (.reg 8 none [2,3,5,6,25,26,27,35] [
 qL 32 2 2,
 qm 33 6,
 qC 34 zc [.t 32,.t 33],
 qB 35 .neq 34 3])
 (qq 35
 (.seq
 (.reg 9 none [4] [
 qi 4 7])
 .ret)
 .skip))
 (.seq
 (.reg 10 none [2,3,25,26,27,47] [
 qm 36 6,
 qf 37 9 3,
 ql 38 37,
 qb 39 .eql 36 38,
 qm 40 39,
 qff 41 40 10 3,
 qlf 42 40 41,
 qmf 43 40 5,
 .rf 44 40 (.slL 1 (.t 42) none (some (.t 43))),
 qmf 45 40 6,
 .rf 46 40 (.call (.k (.clo jb [])) [.t 44,.t 45]),
 qP 47 40 46])
 (qq 47
 (.seq
 (.reg 11 none [4] [
 qi 4 10])
 .ret)
 .skip)))))
 (.reg 12 none [2,3,25,26,27] [
 qa 48 27,
 qm 27 48])))))))
 (.seq
 (.seq
 (.reg 13 none [58] [
 qf 49 8 3,
 ql 50 49,
 qn 51 50,
 qB 52 .gtr 51 0,
 qm 53 52,
 qff 54 53 11 3,
 .rf 55 53 (.ld (some 6) (.t 54)),
 .rf 56 53 (.call (.k (.clo jL [])) [.t 55]),
 .rf 57 53 (.un .not (.t 56)),
 qP 58 53 57])
 (qq 58
 (.seq
 (.reg 14 none [4] [
 qi 4 11])
 .ret)
 .skip))
 (.seq
 (.reg 15 none [4] [
 qi 4 0])
 .ret)))))
def qa3:List (Nat×List Nat):=qy wm
theorem qa4:FnIR Tryz.prog wG 59 qa3 wm [(.tmp 4)]:=
 qF Tryz.func189
def wn:RC:=
 (.seq
 (.reg 0 none [2,3] [
 .r 2 (.box (.t 0)),
 .r 3 (.box (.t 1)),
 qi 4 0])
 (.seq
 (.block 0
 (.seq
 (.reg 1 none [2,3,6] [
 qL 7 2 2,
 qf 8 9 3,
 ql 9 8,
 qC 10 zc [.t 7,.t 9],
 qB 11 .neq 10 3,
 qm 6 11])
 (qq 6
 (.seq
 (.reg 2 none [4] [
 qi 4 7])
 .ret)
 (.seq
 (.reg 3 none [2,3,12] [
 qf 13 1 2,
 ql 14 13,
 qf 15 9 3,
 ql 16 15,
 qx 17 7 14 16,
 qf 18 3 17,
 ql 19 18,
 qB 20 .lss 19 0,
 qm 12 20])
 (qq 12
 (.seq
 (.reg 4 none [4] [
 qi 4 2])
 .ret)
 .skip)))))
 (.seq
 (.seq
 (.reg 5 none [3,5] [
 qL 21 2 2,
 qf 22 11 3,
 qL 23 6 22,
 qC 24 zI [.t 21,.t 23],
 qm 5 24])
 (.seq
 (.reg 6 none [3,5,26] [
 qm 25 5,
 qB 26 .neq 25 0])
 (qq 26
 (.seq
 (.reg 7 none [4] [
 qm 27 5,
 qm 4 27])
 .ret)
 .skip)))
 (.seq
 (.seq
 (.reg 8 none [37] [
 qf 28 8 3,
 ql 29 28,
 qn 30 29,
 qB 31 .gtr 30 0,
 qm 32 31,
 qff 33 32 10 3,
 qlf 34 32 33,
 .rf 35 32 (.lenL (.t 34)),
 .rf 36 32 (.bin .gtr false (.t 35) (qI 0)),
 qP 37 32 36])
 (qq 37
 (.seq
 (.reg 9 none [4] [
 qi 4 11])
 .ret)
 .skip))
 (.seq
 (.reg 10 none [4] [
 qi 4 0])
 .ret)))))
def qa5:List (Nat×List Nat):=qy wn
theorem qa6:FnIR Tryz.prog wH 38 qa5 wn [(.tmp 4)]:=
 qF Tryz.func190
def zF:RC:=
 (.seq
 (.reg 0 none [0,1] [
 qi 4 0])
 (.seq
 (.seq
 (.reg 1 none [0,1,7,8] [
 qm 6 0,
 qn 7 6,
 qi 8 0])
 (.block 0
 (.loop
 (.seq
 (.reg 2 none [0,1,7,8,9] [
 qb 9 .lss 8 7])
 (.seq
 (qq 9
 .skip
 (.exit 0))
 (.seq
 (.block 1
 (.seq
 (.reg 3 none [0,1,5,7,8] [
 qm 10 8,
 qm 5 10])
 (.seq
 (.reg 4 none [0,1,5,7,8,16] [
 qm 11 1,
 qm 12 0,
 qm 13 5,
 qx 14 17 12 13,
 qL 15 17 14,
 .r 16 (.call (.t 11) [.t 15])])
 (qq 16
 (.seq
 (.reg 5 none [4] [
 qm 17 5,
 qm 4 17])
 .ret)
 .skip))))
 (.reg 6 none [0,1,7,8] [
 qa 18 8,
 qm 8 18])))))))
 (.seq
 (.reg 7 none [4] [
 .r 4 (.mv (.k (.v (.int .i64 (-1)))))])
 .ret)))
def Zo:List (Nat×List Nat):=qy zF
theorem Zp:FnIR Tryz.prog zL 19 Zo zF [(.tmp 4)]:=
 qF Tryz.func191
def QX:RC:=
 (.seq
 (.reg 0 none [1,2] [
 .r 2 (.box (.t 0)),
 qi 4 0])
 (.seq
 (.seq
 (.reg 1 none [1,2,14] [
 qm 6 1,
 qB 7 .lss 6 1,
 qm 8 7,
 qmf 9 8 1,
 qff 10 8 1 2,
 qlf 11 8 10,
 .rf 12 8 (.lenL (.t 11)),
 .rf 13 8 (.bin .geq false (.t 9) (.t 12)),
 qP 14 8 13])
 (qq 14
 (.seq
 (.reg 2 none [4] [
 .r 4 (.mv (.k (.v (.int .i64 (-1)))))])
 .ret)
 .skip))
 (.seq
 (.reg 3 none [2,5] [
 qf 15 1 2,
 ql 16 15,
 qm 17 1,
 qx 18 7 16 17,
 qL 19 7 18,
 .r 5 (.new (.agg [.v (.string ⟨#[]⟩),.v (.int .i64 0),.v (.int .i64 0),.v (.int .i64 0),.v (.int .i64 0),.v (.slice none 0 0),.v (.bool false)])),
 qs 7 5 19])
 (.seq
 (.seq
 (.reg 4 none [2,5,22] [
 qf 20 1 5,
 ql 21 20,
 qB 22 .eql 21 2])
 (qq 22
 (.seq
 (.reg 5 none [4] [
 qf 23 0 2,
 ql 24 23,
 qf 25 2 5,
 ql 26 25,
 qx 27 2 24 26,
 qL 28 2 27,
 qC 29 wv [.t 28],
 qB 30 .sub 29 1,
 qm 4 30])
 .ret)
 .skip))
 (.seq
 (.reg 6 none [4] [
 qf 31 5 5,
 ql 32 31,
 qn 33 32,
 qm 4 33])
 .ret)))))
def qv9:List (Nat×List Nat):=qy QX
theorem qw0:FnIR Tryz.prog ky 34 qv9 QX [(.tmp 4)]:=
 qF Tryz.func194
def QY:RC:=
 (.seq
 (.reg 0 none [1,2,3] [
 .r 3 (.box (.t 0)),
 qi 6 0])
 (.seq
 (.reg 1 none [2,3,7] [
 qf 10 1 3,
 ql 11 10,
 qm 12 1,
 qx 13 7 11 12,
 qL 14 7 13,
 .r 7 (.new (.agg [.v (.string ⟨#[]⟩),.v (.int .i64 0),.v (.int .i64 0),.v (.int .i64 0),.v (.int .i64 0),.v (.slice none 0 0),.v (.bool false)])),
 qs 7 7 14])
 (.seq
 (.seq
 (.reg 2 none [2,3,7,17] [
 qf 15 1 7,
 ql 16 15,
 qB 17 .eql 16 2])
 (qq 17
 (.seq
 (.reg 3 none [6] [
 qf 18 0 3,
 ql 19 18,
 qf 20 2 7,
 ql 21 20,
 qx 22 2 19 21,
 qL 23 2 22,
 qm 24 2,
 qC 25 Ka [.t 23,.t 24],
 qn 26 25,
 qm 6 26])
 .ret)
 .skip))
 (.seq
 (.seq
 (.reg 4 none [2,7,28] [
 qm 27 2,
 qB 28 .eql 27 0])
 (qq 28
 (.seq
 (.reg 5 none [6] [
 qi 6 1])
 .ret)
 .skip))
 (.seq
 (.reg 6 none [7,8] [
 qL 29 7 7,
 qm 30 2,
 qC 31 Qw [.t 29,.t 30],
 qm 8 31])
 (.seq
 (.reg 7 (some [0,1,0,7,0,16,0,127,255,0,1023,2047,4095]) [7,9] [
 qf 32 4 7,
 ql 33 32,
 qm 34 8,
 qC 35 yj [.t 33,.t 34],
 qf 36 3 7,
 ql 37 36,
 qm 38 8,
 qC 39 yj [.t 37,.t 38],
 qb 40 .sub 35 39,
 qm 41 8,
 qb 42 .quo 40 41,
 qa 43 42,
 qm 9 43])
 (.seq
 (.seq
 (.reg 8 none [9,45] [
 qf 44 6 7,
 ql 45 44])
 (qq 45
 (.reg 9 none [9] [
 qm 46 9,
 qa 47 46,
 qm 9 47])
 .skip))
 (.seq
 (.reg 10 none [6] [
 qm 48 9,
 qm 6 48])
 .ret))))))))
def qw1:List (Nat×List Nat):=qy QY
theorem qw2:FnIR Tryz.prog yl 49 qw1 QY [(.tmp 6)]:=
 qF Tryz.func197
def yC:RC:=
 (.seq
 (.reg 0 none [1] [
 .r 1 (.box (.t 0)),
 .r 2 (.mv (qN))])
 (.seq
 (.seq
 (.reg 1 none [1,18] [
 qf 6 0 1,
 ql 7 6,
 qB 8 .eql 7 2,
 qm 9 8,
 qff 10 9 0 1,
 qlf 11 9 10,
 .rf 12 9 (.bin .eql false (.t 11) (qI 3)),
 qP 13 9 12,
 qm 14 13,
 qff 15 14 0 1,
 qlf 16 14 15,
 .rf 17 14 (.bin .eql false (.t 16) (qI 4)),
 qP 18 14 17])
 (qq 18
 (.seq
 (.reg 2 none [2] [
 qL 19 6 1,
 .r 20 (.bsl 6 1 [.t 19]),
 qm 2 20])
 .ret)
 .skip))
 (.seq
 (.reg 3 none [1,3] [
 .r 3 (.mv (qN))])
 (.seq
 (.seq
 (.reg 4 none [3,22,23,24] [
 qf 21 5 1,
 ql 22 21,
 qn 23 22,
 qi 24 0])
 (.block 0
 (.loop
 (.seq
 (.reg 5 none [3,22,23,24,25] [
 qb 25 .lss 24 23])
 (.seq
 (qq 25
 .skip
 (.exit 0))
 (.seq
 (.block 1
 (.seq
 (.reg 6 none [3,5,22,23,24] [
 qx 26 6 22 24,
 qL 27 6 26,
 .r 5 (.new (.agg [.v (.int .i64 0),.v (.int .i64 0),.v (.int .i64 0),.v (.int .i64 0),.v (.int .i64 0),.v (.slice none 0 0)])),
 qs 6 5 27])
 (.reg 7 none [3,22,23,24] [
 qm 28 3,
 qL 29 6 5,
 qC 30 jx [.t 29],
 .r 31 (.app 6 64 false (.t 28) (.t 30)),
 qm 3 31])))
 (.reg 8 none [3,22,23,24] [
 qa 32 24,
 qm 24 32])))))))
 (.seq
 (.reg 9 none [2] [
 qm 33 3,
 qm 2 33])
 .ret)))))
def qk8:List (Nat×List Nat):=qy yC
theorem qk9:FnIR Tryz.prog jx 34 qk8 yC [(.tmp 2)]:=
 qF Tryz.func198
def kF:RC:=
 (.seq
 (.reg 0 none [2,3,4] [
 .r 3 (.box (.t 0)),
 .r 4 (.box (.t 1)),
 qc 6 false])
 (.seq
 (.reg 1 none [2,3,4,7] [
 qf 19 1 3,
 ql 20 19,
 qf 21 1 4,
 ql 22 21,
 qx 23 7 20 22,
 qL 24 7 23,
 .r 7 (.new (.agg [.v (.string ⟨#[]⟩),.v (.int .i64 0),.v (.int .i64 0),.v (.int .i64 0),.v (.int .i64 0),.v (.slice none 0 0),.v (.bool false)])),
 qs 7 7 24])
 (.seq
 (.seq
 (.reg 2 none [2,3,4,7,27] [
 qf 25 0 4,
 ql 26 25,
 qB 27 .eql 26 2])
 (qq 27
 (.seq
 (.reg 3 none [2,3,4,8] [
 qf 28 0 3,
 ql 29 28,
 qf 30 2 7,
 ql 31 30,
 qx 32 2 29 31,
 qL 33 2 32,
 .r 8 (.new (.agg [.v (.string ⟨#[]⟩),.v (.slice none 0 0)])),
 qs 2 8 33])
 (.seq
 (.reg 4 none [2,3,4,8,9] [
 .r 34 (.ext (.mkm .ii) []),
 qm 9 34])
 (.seq
 (.seq
 (.reg 5 (some [0,0,2,6,15,31,0]) [2,3,4,8,9,39,40,41] [
 qL 35 2 8,
 qL 36 2 8,
 qC 37 wv [.t 36],
 qB 38 .sub 37 1,
 qC 39 Ka [.t 35,.t 38],
 qn 40 39,
 qi 41 0])
 (.block 0
 (.loop
 (.seq
 (.reg 6 none [2,3,4,8,9,39,40,41,42] [
 qb 42 .lss 41 40])
 (.seq
 (qq 42
 .skip
 (.exit 0))
 (.seq
 (.block 1
 (.seq
 (.reg 7 none [2,3,4,8,9,11,39,40,41] [
 qx 43 1 39 41,
 ql 44 43,
 qm 11 44])
 (.seq
 (.reg 8 (some [0,0,0,7,0,0,0,127,255,511]) [2,3,4,8,9,12,13,39,40,41] [
 qL 45 2 8,
 qm 46 11,
 qm 47 2,
 qC 48 yU [.t 45,.t 46,.t 47],
 qL 49 2 3,
 qL 50 6 4,
 qm 51 11,
 qC 52 jU [.t 49,.t 50,.t 51],
 qm 12 48,
 qm 13 52])
 (.seq
 (.seq
 (.reg 9 none [2,3,4,8,9,12,13,14,15,39,40,41] [
 qm 54 9,
 qm 55 12,
 .r 56 (.ext (.mget .ii true) [.t 54,.t 55]),
 qm 53 56,
 .r 57 (.ex (.t 53) 0),
 .r 58 (.ex (.t 53) 1),
 qm 14 57,
 qm 15 58])
 (.seq
 (.reg 10 none [2,3,4,8,9,12,13,39,40,41,64] [
 qm 59 15,
 qm 60 59,
 qmt 61 60 14,
 qmt 62 60 13,
 .rt 63 60 (.bin .neq false (.t 61) (.t 62)),
 qp 64 60 63])
 (qq 64
 (.seq
 (.reg 11 none [6] [
 qc 6 false])
 .ret)
 .skip)))
 (.reg 12 none [2,3,4,8,9,39,40,41] [
 qm 65 9,
 qm 66 12,
 qm 67 13,
 .rn (.ext (.mput .ii) [.t 65,.t 66,.t 67])])))))
 (.reg 13 none [2,3,4,8,9,39,40,41] [
 qa 68 41,
 qm 41 68])))))))
 (.seq
 (.reg 14 none [6] [
 qc 6 true])
 .ret))))
 .skip))
 (.seq
 (.seq
 (.reg 15 none [2,4,7,74] [
 qm 69 2,
 qB 70 .eql 69 0,
 qm 71 70,
 qft 72 71 6 7,
 qlt 73 71 72,
 qp 74 71 73])
 (qq 74
 (.seq
 (.reg 16 none [6] [
 qc 6 false])
 .ret)
 .skip))
 (.seq
 (.seq
 (.reg 17 none [2,4,7,77] [
 qf 75 0 4,
 ql 76 75,
 qB 77 .eql 76 4])
 (qq 77
 (.seq
 (.reg 18 none [6] [
 qc 6 true])
 .ret)
 .skip))
 (.seq
 (.reg 19 (some [0,1,0,4,15,0,32,0,128,480,31,2047]) [2,7,16,17] [
 qf 78 3 4,
 ql 79 78,
 qf 80 3 7,
 ql 81 80,
 .r 82 (.mx [.t 79,.t 81]),
 qf 83 4 4,
 ql 84 83,
 qf 85 4 7,
 ql 86 85,
 .r 87 (.mn [.t 84,.t 86]),
 qm 16 82,
 qm 17 87])
 (.seq
 (.block 2
 (.seq
 (.reg 20 none [2,7,16,17,88] [
 qm 89 16,
 qm 90 17,
 qb 91 .gtr 89 90,
 qm 88 91])
 (qq 88
 (.seq
 (.reg 21 none [6] [
 qc 6 true])
 .ret)
 (.seq
 (.reg 22 none [2,7,16,17,92] [
 qm 93 2,
 qB 94 .eql 93 0,
 qm 92 94])
 (qq 92
 (.seq
 (.reg 23 none [6] [
 qm 95 16,
 qf 96 3 7,
 ql 97 96,
 qb 98 .eql 95 97,
 qm 99 98,
 qmt 100 99 17,
 qft 101 99 4 7,
 qlt 102 99 101,
 .rt 103 99 (.bin .eql false (.t 100) (.t 102)),
 qp 104 99 103,
 qm 6 104])
 .ret)
 .skip)))))
 (.seq
 (.reg 24 none [7,16,17,18] [
 qL 105 7 7,
 qm 106 2,
 qC 107 yW [.t 105,.t 106],
 qm 18 107])
 (.seq
 (.reg 25 none [6] [
 qm 108 16,
 qf 109 3 7,
 ql 110 109,
 qb 111 .eql 108 110,
 qm 112 111,
 qmf 113 112 16,
 qmf 114 112 18,
 .rf 115 112 (.call (.k (.clo wB [])) [.t 113,.t 114]),
 qmf 116 112 16,
 .rf 117 112 (.bin .eql false (.t 115) (.t 116)),
 qP 118 112 117,
 qm 119 118,
 qmt 120 119 17,
 qft 121 119 4 7,
 qlt 122 119 121,
 .rt 123 119 (.bin .eql false (.t 120) (.t 122)),
 qmt 124 119 123,
 qmf 125 124 17,
 .rf 126 124 (.bin .add false (.t 125) (qI 1)),
 qmf 127 124 18,
 .rf 128 124 (.call (.k (.clo wB [])) [.t 126,.t 127]),
 qmf 129 124 17,
 .rf 130 124 (.bin .add false (.t 129) (qI 1)),
 .rf 131 124 (.bin .eql false (.t 128) (.t 130)),
 .rt 132 119 (.pick (.t 124) (.k (.v (.bool true))) (.t 131)),
 qp 133 119 132,
 qm 6 133])
 .ret)))))))))
def Yq:List (Nat×List Nat):=qy kF
theorem Yr:FnIR Tryz.prog kZ 134 Yq kF [(.tmp 6)]:=
 qF Tryz.func199
def yD:RC:=
 (.seq
 (.reg 0 none [1,2,3,4] [
 .r 4 (.box (.t 0)),
 qi 8 0,
 qc 9 false])
 (.seq
 (.reg 1 none [1,2,3,4,10,11] [
 qi 10 0,
 qc 11 false])
 (.seq
 (.seq
 (.reg 2 (some [0,0,2,6,15,31,0]) [1,2,3,4,10,11,19,20,21] [
 qL 15 2 4,
 qL 16 2 4,
 qC 17 wv [.t 16],
 qB 18 .sub 17 1,
 qC 19 Ka [.t 15,.t 18],
 qn 20 19,
 qi 21 0])
 (.block 0
 (.loop
 (.seq
 (.reg 3 none [1,2,3,4,10,11,19,20,21,22] [
 qb 22 .lss 21 20])
 (.seq
 (qq 22
 .skip
 (.exit 0))
 (.seq
 (.block 1
 (.seq
 (.reg 4 none [1,2,3,4,10,11,13,19,20,21] [
 qx 23 1 19 21,
 ql 24 23,
 qm 13 24])
 (.seq
 (.seq
 (.reg 5 none [1,2,3,4,10,11,13,19,20,21,30] [
 qL 25 2 4,
 qm 26 13,
 qm 27 1,
 qC 28 yU [.t 25,.t 26,.t 27],
 qm 29 2,
 qb 30 .neq 28 29])
 (qq 30
 (.exit 1)
 .skip))
 (.seq
 (.reg 6 none [1,2,3,4,10,11,14,19,20,21] [
 qL 31 2 4,
 qm 32 13,
 qm 33 3,
 qC 34 yU [.t 31,.t 32,.t 33],
 qm 14 34])
 (.seq
 (.seq
 (.reg 7 none [1,2,3,4,14,19,20,21,40] [
 qm 35 11,
 qm 36 35,
 qmt 37 36 14,
 qmt 38 36 10,
 .rt 39 36 (.bin .neq false (.t 37) (.t 38)),
 qp 40 36 39])
 (qq 40
 (.seq
 (.reg 8 none [8,9] [
 qi 8 0,
 qc 9 false])
 .ret)
 .skip))
 (.reg 9 none [1,2,3,4,10,11,19,20,21] [
 qm 41 14,
 qm 10 41,
 qc 11 true]))))))
 (.reg 10 none [1,2,3,4,10,11,19,20,21] [
 qa 42 21,
 qm 21 42])))))))
 (.seq
 (.reg 11 none [8,9] [
 qm 43 10,
 qm 44 11,
 qm 8 43,
 qm 9 44])
 .ret))))
def ql0:List (Nat×List Nat):=qy yD
theorem ql1:FnIR Tryz.prog yV 45 ql0 yD [(.tmp 8),(.tmp 9)]:=
 qF Tryz.func200
def jC:RC:=
 (.seq
 (.reg 0 none [2,3,4] [
 .r 3 (.box (.t 0)),
 .r 4 (.box (.t 1)),
 qi 6 0])
 (.seq
 (.block 0
 (.seq
 (.reg 1 none [2,3,4,7] [
 qf 8 0 4,
 ql 9 8,
 qB 10 .eql 9 2,
 qm 7 10])
 (qq 7
 (.seq
 (.reg 2 (some [0,1,0,4,0,16,60,124,252,511,1023,0,0,4096,16383,32767,65535]) [6] [
 qf 11 0 3,
 ql 12 11,
 qf 13 1 3,
 ql 14 13,
 qf 15 1 4,
 ql 16 15,
 qx 17 7 14 16,
 qf 18 2 17,
 ql 19 18,
 qx 20 2 12 19,
 qL 21 2 20,
 qm 22 2,
 qf 23 2 4,
 ql 24 23,
 qC 25 KI [.t 21,.t 22,.t 24],
 qC 26 jz [.t 25],
 qm 6 26])
 .ret)
 (.seq
 (.reg 3 none [2,4,27] [
 qf 28 0 4,
 ql 29 28,
 qB 30 .eql 29 4,
 qm 27 30])
 (qq 27
 (.seq
 (.reg 4 none [6] [
 qm 31 2,
 .r 32 (.bin .eql false (.t 31) (.k (.v (.int .i64 (-1099511627776))))),
 qC 33 jz [.t 32],
 qm 6 33])
 .ret)
 (.seq
 (.reg 5 none [2,4,34] [
 qm 35 2,
 .r 36 (.bin .eql false (.t 35) (.k (.v (.int .i64 (-1099511627776))))),
 qm 34 36])
 (qq 34
 (.seq
 (.reg 6 none [6] [
 qi 6 0])
 .ret)
 .skip)))))))
 (.seq
 (.reg 7 none [6] [
 qm 37 2,
 qf 38 3 4,
 ql 39 38,
 qb 40 .geq 37 39,
 qm 41 40,
 qmt 42 41 2,
 qft 43 41 4 4,
 qlt 44 41 43,
 .rt 45 41 (.bin .leq false (.t 42) (.t 44)),
 qp 46 41 45,
 qC 47 jz [.t 46],
 qm 6 47])
 .ret)))
def qq6:List (Nat×List Nat):=qy jC
theorem Qj:FnIR Tryz.prog jU 48 qq6 jC [(.tmp 6)]:=
 qF Tryz.func202
def KV:RC:=
 (.seq
 (.reg 0 none [1,2] [
 .r 2 (.box (.t 0)),
 qc 4 false])
 (.seq
 (.seq
 (.reg 1 none [1,2,5] [
 qi 5 0])
 (.block 0
 (.loop
 (.seq
 (.seq
 (.reg 2 none [1,2,5,10] [
 qm 6 5,
 qf 7 1 2,
 ql 8 7,
 qn 9 8,
 qb 10 .lss 6 9])
 (qq 10
 .skip
 (.exit 0)))
 (.seq
 (.block 1
 (.seq
 (.reg 4 none [1,2,5,20] [
 qf 13 1 2,
 ql 14 13,
 qm 15 5,
 qx 16 2 14 15,
 qf 17 1 16,
 ql 18 17,
 qm 19 1,
 qb 20 .eql 18 19])
 (qq 20
 (.seq
 (.reg 5 none [4] [
 qc 4 false])
 .ret)
 .skip)))
 (.reg 3 none [1,2,5] [
 qm 11 5,
 qa 12 11,
 qm 5 12]))))))
 (.seq
 (.reg 6 none [4] [
 qc 4 true])
 .ret)))
def qS9:List (Nat×List Nat):=qy KV
theorem qT0:FnIR Tryz.prog Yd 21 qS9 KV [(.tmp 4)]:=
 qF Tryz.func206
def ZT:RC:=
 (.seq
 (.reg 0 none [1,2,3] [
 .r 3 (.box (.t 0)),
 qc 6 false])
 (.seq
 (.reg 1 none [6] [
 qm 7 1,
 qB 8 .geq 7 0,
 qm 9 8,
 qmt 10 9 1,
 qft 11 9 1 3,
 qlt 12 9 11,
 .rt 13 9 (.lenL (.t 12)),
 .rt 14 9 (.bin .lss false (.t 10) (.t 13)),
 qp 15 9 14,
 qm 16 15,
 qft 17 16 1 3,
 qlt 18 16 17,
 qmt 19 16 1,
 .rt 20 16 (.ixL 7 (.t 18) (.t 19)),
 qft 21 16 1 20,
 qlt 22 16 21,
 qmt 23 16 2,
 .rt 24 16 (.bin .eql false (.t 22) (.t 23)),
 qp 25 16 24,
 qm 6 25])
 .ret))
def zl9:List (Nat×List Nat):=qy ZT
theorem qe9:FnIR Tryz.prog JY 26 zl9 ZT [(.tmp 6)]:=
 qF Tryz.func207
def KW:RC:=
 (.seq
 (.reg 0 none [1,2] [
 .r 2 (.box (.t 0)),
 qi 4 0])
 (.seq
 (.seq
 (.reg 1 none [1,2,15] [
 qm 8 1,
 qn 9 8,
 qB 10 .lss 9 1,
 qm 11 10,
 qmf 12 11 1,
 .rf 13 11 (.lenL (.t 12)),
 .rf 14 11 (.bin .gtr false (.t 13) (qI 3)),
 qP 15 11 14])
 (qq 15
 (.seq
 (.reg 2 none [4] [
 qi 4 1])
 .ret)
 .skip))
 (.seq
 (.seq
 (.reg 3 none [1,2,5] [
 qi 5 0])
 (.block 0
 (.loop
 (.seq
 (.seq
 (.reg 4 none [1,2,5,19] [
 qm 16 5,
 qm 17 1,
 qn 18 17,
 qb 19 .lss 16 18])
 (qq 19
 .skip
 (.exit 0)))
 (.seq
 (.block 1
 (.seq
 (.seq
 (.reg 6 (some [0,0,0,6,14,31,63]) [1,2,5,6] [
 qL 22 2 2,
 qm 23 1,
 qm 24 5,
 qx 25 2 23 24,
 qL 26 2 25,
 qC 27 Yb [.t 22,.t 26],
 qm 6 27])
 (.seq
 (.reg 7 none [1,2,5,6,29] [
 qm 28 6,
 qB 29 .neq 28 0])
 (qq 29
 (.seq
 (.reg 8 none [4] [
 qm 30 6,
 qm 4 30])
 .ret)
 .skip)))
 (.seq
 (.seq
 (.reg 9 (some [0,0,0,6,14,30,63,127]) [1,2,5,38] [
 qL 31 2 2,
 qm 32 1,
 qm 33 5,
 qx 34 2 32 33,
 qf 35 0 34,
 ql 36 35,
 qC 37 JY [.t 31,.t 36,qI 2],
 .r 38 (.un .not (.t 37))])
 (qq 38
 (.seq
 (.reg 10 none [4] [
 qi 4 7])
 .ret)
 .skip))
 (.seq
 (.reg 11 none [1,2,5,7] [
 qi 7 0])
 (.block 2
 (.loop
 (.seq
 (.seq
 (.reg 12 none [1,2,5,7,41] [
 qm 39 7,
 qm 40 5,
 qb 41 .lss 39 40])
 (qq 41
 .skip
 (.exit 2)))
 (.seq
 (.block 3
 (.seq
 (.reg 14 (some [0,0,3,7,15,0,0,96,224,480,1023]) [1,2,5,7,54] [
 qm 44 1,
 qm 45 7,
 qx 46 2 44 45,
 qf 47 0 46,
 ql 48 47,
 qm 49 1,
 qm 50 5,
 qx 51 2 49 50,
 qf 52 0 51,
 ql 53 52,
 qb 54 .eql 48 53])
 (qq 54
 (.seq
 (.reg 15 none [4] [
 qi 4 10])
 .ret)
 .skip)))
 (.reg 13 none [1,2,5,7] [
 qm 42 7,
 qa 43 42,
 qm 7 43])))))))))
 (.reg 5 none [1,2,5] [
 qm 20 5,
 qa 21 20,
 qm 5 21]))))))
 (.seq
 (.reg 16 none [4] [
 qi 4 0])
 .ret))))
def qT1:List (Nat×List Nat):=qy KW
theorem qT2:FnIR Tryz.prog Ye 55 qT1 KW [(.tmp 4)]:=
 qF Tryz.func208
def JK:RC:=
 (.seq
 (.reg 0 none [1,2,3] [
 .r 3 (.box (.t 0)),
 qi 6 0])
 (.seq
 (.seq
 (.reg 1 none [1,2,3,15] [
 qm 8 2,
 qn 9 8,
 qB 10 .lss 9 1,
 qm 11 10,
 qmf 12 11 2,
 .rf 13 11 (.lenL (.t 12)),
 .rf 14 11 (.bin .gtr false (.t 13) (qI 3)),
 qP 15 11 14])
 (qq 15
 (.seq
 (.reg 2 none [6] [
 qi 6 1])
 .ret)
 .skip))
 (.seq
 (.seq
 (.reg 3 none [1,2,3,7] [
 qi 7 0])
 (.block 0
 (.loop
 (.seq
 (.seq
 (.reg 4 none [1,2,3,7,19] [
 qm 16 7,
 qm 17 2,
 qn 18 17,
 qb 19 .lss 16 18])
 (qq 19
 .skip
 (.exit 0)))
 (.seq
 (.block 1
 (.seq
 (.seq
 (.reg 6 (some [0,0,0,6,14,31,63]) [1,2,3,7,28] [
 qL 22 2 3,
 qm 23 2,
 qm 24 7,
 qx 25 1 23 24,
 ql 26 25,
 qC 27 JY [.t 22,.t 26,qI 3],
 .r 28 (.un .not (.t 27))])
 (qq 28
 (.seq
 (.reg 7 none [6] [
 qi 6 7])
 .ret)
 .skip))
 (.seq
 (.reg 8 (some [0,0,3,7,0,31,63,127,127,511,127,127,3199,7295,16383,32767]) [1,2,3,7,44] [
 qm 29 2,
 qm 30 7,
 qx 31 1 29 30,
 ql 32 31,
 qm 33 1,
 qb 34 .eql 32 33,
 qm 35 34,
 qmf 36 35 2,
 qmf 37 35 7,
 .rf 38 35 (.slL 1 (.t 36) none (some (.t 37))),
 qmf 39 35 2,
 qmf 40 35 7,
 .rf 41 35 (.ixL 1 (.t 39) (.t 40)),
 qlf 42 35 41,
 .rf 43 35 (.call (.k (.clo qd3 [])) [.t 38,.t 42]),
 qP 44 35 43])
 (qq 44
 (.seq
 (.reg 9 none [6] [
 qi 6 10])
 .ret)
 .skip))))
 (.reg 5 none [1,2,3,7] [
 qm 20 7,
 qa 21 20,
 qm 7 21]))))))
 (.seq
 (.reg 10 none [6] [
 qi 6 0])
 .ret))))
def qK5:List (Nat×List Nat):=qy JK
theorem qK6:FnIR Tryz.prog KG 45 qK5 JK [(.tmp 6)]:=
 qF Tryz.func209
def KX:RC:=
 (.seq
 (.reg 0 none [2,3] [
 .r 2 (.box (.t 0)),
 .r 3 (.box (.t 1)),
 qc 4 false])
 (.seq
 (.seq
 (.reg 1 none [2,3,47] [
 qf 6 0 2,
 ql 7 6,
 qf 8 0 3,
 ql 9 8,
 qb 10 .neq 7 9,
 qm 11 10,
 qff 12 11 1 2,
 qlf 13 11 12,
 qff 14 11 1 3,
 qlf 15 11 14,
 .rf 16 11 (.bin .neq false (.t 13) (.t 15)),
 qP 17 11 16,
 qm 18 17,
 qff 19 18 2 2,
 qlf 20 18 19,
 qff 21 18 2 3,
 qlf 22 18 21,
 .rf 23 18 (.bin .neq false (.t 20) (.t 22)),
 qP 24 18 23,
 qm 25 24,
 qff 26 25 3 2,
 qlf 27 25 26,
 qff 28 25 3 3,
 qlf 29 25 28,
 .rf 30 25 (.bin .neq false (.t 27) (.t 29)),
 qP 31 25 30,
 qm 32 31,
 qff 33 32 4 2,
 qlf 34 32 33,
 qff 35 32 4 3,
 qlf 36 32 35,
 .rf 37 32 (.bin .neq false (.t 34) (.t 36)),
 qP 38 32 37,
 qm 39 38,
 qff 40 39 5 2,
 qlf 41 39 40,
 .rf 42 39 (.lenL (.t 41)),
 qff 43 39 5 3,
 qlf 44 39 43,
 .rf 45 39 (.lenL (.t 44)),
 .rf 46 39 (.bin .neq false (.t 42) (.t 45)),
 qP 47 39 46])
 (qq 47
 (.seq
 (.reg 2 none [4] [
 qc 4 false])
 .ret)
 .skip))
 (.seq
 (.seq
 (.reg 3 none [2,3,5] [
 qi 5 0])
 (.block 0
 (.loop
 (.seq
 (.seq
 (.reg 4 none [2,3,5,52] [
 qm 48 5,
 qf 49 5 2,
 ql 50 49,
 qn 51 50,
 qb 52 .lss 48 51])
 (qq 52
 .skip
 (.exit 0)))
 (.seq
 (.block 1
 (.seq
 (.reg 6 (some [0,1,0,7,15,0,32,0,224,480,1023,2047]) [2,3,5,66] [
 qf 55 5 2,
 ql 56 55,
 qm 57 5,
 qx 58 6 56 57,
 qL 59 6 58,
 qf 60 5 3,
 ql 61 60,
 qm 62 5,
 qx 63 6 61 62,
 qL 64 6 63,
 qC 65 Jo [.t 59,.t 64],
 .r 66 (.un .not (.t 65))])
 (qq 66
 (.seq
 (.reg 7 none [4] [
 qc 4 false])
 .ret)
 .skip)))
 (.reg 5 none [2,3,5] [
 qm 53 5,
 qa 54 53,
 qm 5 54]))))))
 (.seq
 (.reg 8 none [4] [
 qc 4 true])
 .ret))))
def qT3:List (Nat×List Nat):=qy KX
theorem qT4:FnIR Tryz.prog Jo 67 qT3 KX [(.tmp 4)]:=
 qF Tryz.func210
def QZ:RC:=
 (.seq
 (.reg 0 none [1] [
 .r 1 (.box (.t 0)),
 qi 2 0])
 (.seq
 (.seq
 (.reg 1 none [1,21] [
 qf 5 3 1,
 ql 6 5,
 qC 7 yR [.t 6,.k (.v (.int .i64 (-1000000))),qI 1000000],
 .r 8 (.un .not (.t 7)),
 qm 9 8,
 qff 10 9 4 1,
 qlf 11 9 10,
 .rf 12 9 (.call (.k (.clo yR [])) [.t 11,.k (.v (.int .i64 (-1000000))),qI 1000000]),
 .rf 13 9 (.un .not (.t 12)),
 qP 14 9 13,
 qm 15 14,
 qff 16 15 3 1,
 qlf 17 15 16,
 qff 18 15 4 1,
 qlf 19 15 18,
 .rf 20 15 (.bin .gtr false (.t 17) (.t 19)),
 qP 21 15 20])
 (qq 21
 (.seq
 (.reg 2 none [2] [
 qi 2 2])
 .ret)
 .skip))
 (.seq
 (.seq
 (.reg 3 none [1,31] [
 qf 22 5 1,
 ql 23 22,
 qn 24 23,
 qB 25 .lss 24 1,
 qm 26 25,
 qff 27 26 5 1,
 qlf 28 26 27,
 .rf 29 26 (.lenL (.t 28)),
 .rf 30 26 (.bin .gtr false (.t 29) (qI 4)),
 qP 31 26 30])
 (qq 31
 (.seq
 (.reg 4 none [2] [
 qi 2 1])
 .ret)
 .skip))
 (.seq
 (.seq
 (.reg 5 none [1,3] [
 qi 3 0])
 (.block 0
 (.loop
 (.seq
 (.seq
 (.reg 6 none [1,3,36] [
 qm 32 3,
 qf 33 5 1,
 ql 34 33,
 qn 35 34,
 qb 36 .lss 32 35])
 (qq 36
 .skip
 (.exit 0)))
 (.seq
 (.block 1
 (.seq
 (.reg 8 none [1,3,4] [
 qf 39 5 1,
 ql 40 39,
 qm 41 3,
 qx 42 1 40 41,
 ql 43 42,
 qm 4 43])
 (.seq
 (.reg 9 none [1,3,78] [
 qm 44 3,
 qB 45 .eql 44 0,
 qm 46 45,
 qmt 47 46 4,
 .rt 48 46 (.bin .neq false (.t 47) (qI 1)),
 qp 49 46 48,
 qm 50 49,
 qmf 51 50 3,
 .rf 52 50 (.bin .gtr false (.t 51) (qI 0)),
 qmf 53 50 52,
 qmt 54 53 4,
 qft 55 53 5 1,
 qlt 56 53 55,
 qmt 57 53 3,
 .rt 58 53 (.bin .sub false (.t 57) (qI 1)),
 .rt 59 53 (.ixL 1 (.t 56) (.t 58)),
 qlt 60 53 59,
 .rt 61 53 (.bin .leq false (.t 54) (.t 60)),
 qmt 62 53 61,
 qmf 63 62 4,
 .rf 64 62 (.bin .gtr false (.t 63) (qI 1000000)),
 .rt 65 53 (.pick (.t 62) (.k (.v (.bool true))) (.t 64)),
 qmt 66 53 65,
 qmf 67 66 4,
 qff 68 66 5 1,
 qlf 69 66 68,
 qmf 70 66 3,
 .rf 71 66 (.bin .sub false (.t 70) (qI 1)),
 .rf 72 66 (.ixL 1 (.t 69) (.t 71)),
 qlf 73 66 72,
 .rf 74 66 (.bin .rem false (.t 67) (.t 73)),
 .rf 75 66 (.bin .neq false (.t 74) (qI 0)),
 .rt 76 53 (.pick (.t 66) (.k (.v (.bool true))) (.t 75)),
 .rf 77 50 (.pick (.t 53) (.t 76) (.k (.v (.bool false)))),
 qP 78 50 77])
 (qq 78
 (.seq
 (.reg 10 none [2] [
 qi 2 2])
 .ret)
 .skip))))
 (.reg 7 none [1,3] [
 qm 37 3,
 qa 38 37,
 qm 3 38]))))))
 (.seq
 (.reg 11 none [2] [
 qi 2 0])
 .ret)))))
def qw3:List (Nat×List Nat):=qy QZ
theorem qw4:FnIR Tryz.prog ZF 79 qw3 QZ [(.tmp 2)]:=
 qF Tryz.func211
def ZU:RC:=
 (.seq
 (.reg 0 none [1,2,3] [
 .r 3 (.box (.t 0)),
 qc 6 false])
 (.seq
 (.reg 1 none [6] [
 qm 7 1,
 qB 8 .geq 7 0,
 qm 9 8,
 qmt 10 9 1,
 qft 11 9 1 3,
 qlt 12 9 11,
 .rt 13 9 (.lenL (.t 12)),
 .rt 14 9 (.bin .lss false (.t 10) (.t 13)),
 qp 15 9 14,
 qm 16 15,
 qft 17 16 1 3,
 qlt 18 16 17,
 qmt 19 16 1,
 .rt 20 16 (.ixL 7 (.t 18) (.t 19)),
 qft 21 16 1 20,
 qlt 22 16 21,
 qmt 23 16 2,
 .rt 24 16 (.bin .eql false (.t 22) (.t 23)),
 qp 25 16 24,
 qm 6 25])
 .ret))
def zm0:List (Nat×List Nat):=qy ZU
theorem qf0:FnIR Tryz.prog JZ 26 zm0 ZU [(.tmp 6)]:=
 qF Tryz.func212
def kG:RC:=
 (.seq
 (.reg 0 none [2,3] [
 .r 2 (.box (.t 0)),
 .r 3 (.box (.t 1)),
 qi 4 0])
 (.seq
 (.block 0
 (.seq
 (.reg 1 none [2,3,6] [
 qf 7 0 3,
 ql 8 7,
 qB 9 .lss 8 1,
 qm 10 9,
 qff 11 10 0 3,
 qlf 12 10 11,
 .rf 13 10 (.bin .gtr false (.t 12) (qI 7)),
 qP 14 10 13,
 qm 6 14])
 (qq 6
 (.seq
 (.reg 2 none [4] [
 qi 4 4])
 .ret)
 (.seq
 (.reg 3 (some [0,1,3,0,8,24,63,127,255,511,1023,2047,4095]) [2,3,15] [
 qf 16 5 3,
 ql 17 16,
 qn 18 17,
 qf 19 0 3,
 ql 20 19,
 qC 21 QO [.t 20],
 qb 22 .neq 18 21,
 qm 23 22,
 .rf 24 23 (.ld (some 6) (.t 3)),
 .rf 25 23 (.call (.k (.clo yn [])) [.t 24]),
 .rf 26 23 (.un .not (.t 25)),
 qP 27 23 26,
 qm 15 27])
 (qq 15
 (.seq
 (.reg 4 none [4] [
 qi 4 11])
 .ret)
 (.seq
 (.reg 5 none [2,3,28] [
 qf 29 0 3,
 ql 30 29,
 qB 31 .neq 30 2,
 qm 32 31,
 qft 33 32 0 3,
 qlt 34 32 33,
 .rt 35 32 (.bin .neq false (.t 34) (qI 3)),
 qp 36 32 35,
 qm 37 36,
 qft 38 37 0 3,
 qlt 39 37 38,
 .rt 40 37 (.bin .neq false (.t 39) (qI 4)),
 qp 41 37 40,
 qm 28 41])
 (qq 28
 (.seq
 (.reg 6 none [4] [
 qi 4 0])
 .ret)
 (.seq
 (.reg 7 none [2,3,42] [
 qf 43 1 3,
 ql 44 43,
 qB 45 .lss 44 0,
 qm 46 45,
 qff 47 46 1 3,
 qlf 48 46 47,
 qff 49 46 1 2,
 qlf 50 46 49,
 .rf 51 46 (.lenL (.t 50)),
 .rf 52 46 (.bin .geq false (.t 48) (.t 51)),
 qP 53 46 52,
 qm 42 53])
 (qq 42
 (.seq
 (.reg 8 none [4] [
 qi 4 7])
 .ret)
 .skip)))))))))
 (.seq
 (.reg 9 none [2,3,5] [
 qf 54 1 2,
 ql 55 54,
 qf 56 1 3,
 ql 57 56,
 qx 58 7 55 57,
 qL 59 7 58,
 .r 5 (.new (.agg [.v (.string ⟨#[]⟩),.v (.int .i64 0),.v (.int .i64 0),.v (.int .i64 0),.v (.int .i64 0),.v (.slice none 0 0),.v (.bool false)])),
 qs 7 5 59])
 (.seq
 (.seq
 (.reg 10 none [2,3,5,61] [
 qf 60 0 3,
 ql 61 60])
 (.block 1
 (.seq
 (.reg 11 none [2,3,5,61,62] [
 qB 63 .eql 61 2,
 qm 62 63])
 (qq 62
 (.seq
 (.seq
 (.reg 12 none [2,3,5,66] [
 qf 64 1 5,
 ql 65 64,
 qB 66 .neq 65 2])
 (qq 66
 (.seq
 (.reg 13 none [4] [
 qi 4 7])
 .ret)
 .skip))
 (.seq
 (.reg 14 (some [0,1,3,7,15,31,15,79,15,271,975,1999,4047,8143,16383,32767]) [82] [
 qf 67 2 3,
 ql 68 67,
 qB 69 .lss 68 0,
 qm 70 69,
 qff 71 70 2 3,
 qlf 72 70 71,
 qff 73 70 0 2,
 qlf 74 70 73,
 qff 75 70 2 5,
 qlf 76 70 75,
 .rf 77 70 (.ixL 2 (.t 74) (.t 76)),
 qff 78 70 1 77,
 qlf 79 70 78,
 .rf 80 70 (.lenL (.t 79)),
 .rf 81 70 (.bin .geq false (.t 72) (.t 80)),
 qP 82 70 81])
 (qq 82
 (.seq
 (.reg 15 none [4] [
 qi 4 6])
 .ret)
 .skip)))
 (.seq
 (.reg 16 none [3,5,61,83] [
 qB 84 .eql 61 3,
 qm 83 84])
 (qq 83
 (.seq
 (.seq
 (.reg 17 none [3,87] [
 qf 85 1 5,
 ql 86 85,
 qB 87 .neq 86 3])
 (qq 87
 (.seq
 (.reg 18 none [4] [
 qi 4 7])
 .ret)
 .skip))
 (.seq
 (.reg 19 none [102] [
 qf 88 3 3,
 ql 89 88,
 qf 90 4 3,
 ql 91 90,
 qb 92 .gtr 89 91,
 qm 93 92,
 qff 94 93 3 3,
 qlf 95 93 94,
 .rf 96 93 (.bin .lss false (.t 95) (.k (.v (.int .i64 (-1000000))))),
 qP 97 93 96,
 qm 98 97,
 qff 99 98 4 3,
 qlf 100 98 99,
 .rf 101 98 (.bin .gtr false (.t 100) (qI 1000000)),
 qP 102 98 101])
 (qq 102
 (.seq
 (.reg 20 none [4] [
 qi 4 2])
 .ret)
 .skip)))
 (.seq
 (.reg 21 none [5,103] [
 qB 104 .eql 61 4,
 qm 103 104])
 (qq 103
 (.seq
 (.reg 22 none [112] [
 qf 105 1 5,
 ql 106 105,
 qB 107 .neq 106 3,
 qm 108 107,
 qff 109 108 6 5,
 qlf 110 108 109,
 .rf 111 108 (.un .not (.t 110)),
 qP 112 108 111])
 (qq 112
 (.seq
 (.reg 23 none [4] [
 qi 4 7])
 .ret)
 .skip))
 .skip))))))))
 (.seq
 (.reg 24 none [4] [
 qi 4 0])
 .ret)))))
def Ys:List (Nat×List Nat):=qy kG
theorem Yt:FnIR Tryz.prog wg 113 Ys kG [(.tmp 4)]:=
 qF Tryz.func213
def zO:RC:=
 (.seq
 (.reg 0 none [0,1] [
 qc 4 false])
 (.seq
 (.reg 1 none [4] [
 qm 5 0,
 qm 6 1,
 qC 7 jM [.t 5,.t 6],
 qB 8 .geq 7 0,
 qm 4 8])
 .ret))
def ZV:List (Nat×List Nat):=qy zO
theorem ZW:FnIR Tryz.prog zV 9 ZV zO [(.tmp 4)]:=
 qF Tryz.func220
def Za:RC:=
 (.seq
 (.reg 0 none [1,2] [
 .r 2 (.box (.t 0)),
 qc 3 false])
 (.seq
 (.reg 1 none [3] [
 qf 4 1 2,
 ql 5 4,
 ql 6 1,
 qb 7 .eql 5 6,
 qm 3 7])
 .ret))
def qw5:List (Nat×List Nat):=qy Za
theorem qw6:FnIR Tryz.prog ym 8 qw5 Za [(.tmp 3)]:=
 qF Tryz.func221
def Yu:RC:=
 (.seq
 (.reg 0 none [1,2] [
 .r 2 (.box (.t 0)),
 qc 4 false])
 (.seq
 (.reg 1 none [4] [
 qm 5 1,
 qB 6 .geq 5 0,
 qm 7 6,
 qmt 8 7 1,
 qft 9 7 1 2,
 qlt 10 7 9,
 .rt 11 7 (.lenL (.t 10)),
 .rt 12 7 (.bin .lss false (.t 8) (.t 11)),
 qp 13 7 12,
 qm 14 13,
 .rt 15 14 (.ld (some 2) (.t 2)),
 .rt 16 14 (.call (.k (.clo kR [])) [.t 15]),
 .rt 17 14 (.bin .eql false (.t 16) (qI 0)),
 qp 18 14 17,
 qm 4 18])
 .ret))
def ze7:List (Nat×List Nat):=qy Yu
theorem ze8:FnIR Tryz.prog ZG 19 ze7 Yu [(.tmp 4)]:=
 qF Tryz.func222
def ZX:RC:=
 (.seq
 (.reg 0 none [1] [
 .r 1 (.box (.t 0)),
 .r 2 (.mv (qN))])
 (.seq
 (.reg 1 none [1,3] [
 qf 6 1 1,
 ql 7 6,
 qn 8 7,
 .r 9 (.mk 1 8 (.v (.int .i64 0)) (.t 8) (.t 8)),
 qm 3 9])
 (.seq
 (.seq
 (.reg 2 none [3,11,12,13] [
 qf 10 1 1,
 ql 11 10,
 qn 12 11,
 qi 13 0])
 (.block 0
 (.loop
 (.seq
 (.reg 3 none [3,11,12,13,14] [
 qb 14 .lss 13 12])
 (.seq
 (qq 14
 .skip
 (.exit 0))
 (.seq
 (.block 1
 (.seq
 (.reg 4 none [3,4,5,11,12,13] [
 qm 15 13,
 qx 16 2 11 13,
 qL 17 2 16,
 .r 5 (.new (.agg [.v (.string ⟨#[]⟩),.v (.int .i64 0)])),
 qm 4 15,
 qs 2 5 17])
 (.seq
 (.reg 5 none [3,4,5,11,12,13,19] [
 qm 18 4,
 qB 19 .gtr 18 0])
 (qq 19
 (.reg 6 none [3,11,12,13] [
 qm 20 3,
 qm 21 4,
 qm 22 3,
 qf 23 1 5,
 ql 24 23,
 qx 25 1 22 24,
 ql 26 25,
 qa 27 26,
 qx 28 1 20 21,
 qs 1 28 27])
 .skip))))
 (.reg 7 none [3,11,12,13] [
 qa 29 13,
 qm 13 29])))))))
 (.seq
 (.reg 8 none [2] [
 qm 30 3,
 qm 2 30])
 .ret))))
def qE2:List (Nat×List Nat):=qy ZX
theorem qE3:FnIR Tryz.prog jj 31 qE2 ZX [(.tmp 2)]:=
 qF Tryz.func223
def zG:RC:=
 (.seq
 (.reg 0 none [0,1] [
 qi 4 0])
 (.seq
 (.seq
 (.reg 1 none [0,1,7,8] [
 qm 6 0,
 qn 7 6,
 qi 8 0])
 (.block 0
 (.loop
 (.seq
 (.reg 2 none [0,1,7,8,9] [
 qb 9 .lss 8 7])
 (.seq
 (qq 9
 .skip
 (.exit 0))
 (.seq
 (.block 1
 (.seq
 (.reg 3 none [0,1,5,7,8] [
 qm 10 8,
 qm 5 10])
 (.seq
 (.reg 4 none [0,1,5,7,8,16] [
 qm 11 1,
 qm 12 0,
 qm 13 5,
 qx 14 2 12 13,
 qL 15 2 14,
 .r 16 (.call (.t 11) [.t 15])])
 (qq 16
 (.seq
 (.reg 5 none [4] [
 qm 17 5,
 qm 4 17])
 .ret)
 .skip))))
 (.reg 6 none [0,1,7,8] [
 qa 18 8,
 qm 8 18])))))))
 (.seq
 (.reg 7 none [4] [
 .r 4 (.mv (.k (.v (.int .i64 (-1)))))])
 .ret)))
def Zq:List (Nat×List Nat):=qy zG
theorem Zr:FnIR Tryz.prog zM 19 Zq zG [(.tmp 4)]:=
 qF Tryz.func234
def zz:RC:=
 (.seq
 (.reg 0 none [0,1] [
 qc 4 false])
 (.seq
 (.reg 1 none [4] [
 qm 5 0,
 qm 6 1,
 qC 7 jk [.t 5,.t 6],
 qB 8 .geq 7 0,
 qm 4 8])
 .ret))
def Zb:List (Nat×List Nat):=qy zz
theorem Zc:FnIR Tryz.prog zE 9 Zb zz [(.tmp 4)]:=
 qF Tryz.func235
def jR:RC:=
 (.seq
 (.reg 0 none [1,2] [
 .r 2 (.box (.t 0)),
 qc 3 false])
 (.seq
 (.reg 1 none [3] [
 qf 4 0 2,
 ql 5 4,
 qf 6 0 1,
 ql 7 6,
 qb 8 .eql 5 7,
 qm 3 8])
 .ret))
def KY:List (Nat×List Nat):=qy jR
theorem KZ:FnIR Tryz.prog zT 9 KY jR [(.tmp 3)]:=
 qF Tryz.func236
def ko:RC:=
 (.seq
 (.reg 0 none [1] [
 .r 1 (.box (.t 0)),
 qi 2 0])
 (.seq
 (.block 0
 (.seq
 (.reg 1 none [1,6] [
 qf 7 3 1,
 ql 8 7,
 .r 9 (.bin .lss false (.t 8) (.k (.v (.int .i64 (-1000000))))),
 qm 10 9,
 qff 11 10 4 1,
 qlf 12 10 11,
 .rf 13 10 (.bin .gtr false (.t 12) (qI 1000000)),
 qP 14 10 13,
 qm 15 14,
 qff 16 15 3 1,
 qlf 17 15 16,
 qff 18 15 4 1,
 qlf 19 15 18,
 .rf 20 15 (.bin .gtr false (.t 17) (.t 19)),
 qP 21 15 20,
 qm 6 21])
 (qq 6
 (.seq
 (.reg 2 none [2] [
 qi 2 2])
 .ret)
 (.seq
 (.reg 3 none [1,22] [
 qf 23 5 1,
 ql 24 23,
 qn 25 24,
 qB 26 .eql 25 0,
 qm 27 26,
 qff 28 27 5 1,
 qlf 29 27 28,
 .rf 30 27 (.lenL (.t 29)),
 .rf 31 27 (.bin .gtr false (.t 30) (qI 4)),
 qP 32 27 31,
 qm 22 32])
 (qq 22
 (.seq
 (.reg 4 none [2] [
 qi 2 1])
 .ret)
 .skip)))))
 (.seq
 (.reg 5 none [1,3] [
 qi 3 1])
 (.seq
 (.seq
 (.reg 6 none [3,34,35,36] [
 qf 33 5 1,
 ql 34 33,
 qn 35 34,
 qi 36 0])
 (.block 1
 (.loop
 (.seq
 (.reg 7 none [3,34,35,36,37] [
 qb 37 .lss 36 35])
 (.seq
 (qq 37
 .skip
 (.exit 1))
 (.seq
 (.block 2
 (.seq
 (.reg 8 none [3,4,5,34,35,36] [
 qm 38 36,
 qx 39 1 34 36,
 ql 40 39,
 qm 4 38,
 qm 5 40])
 (.seq
 (.seq
 (.reg 9 none [5,34,35,36,65] [
 qm 41 4,
 qB 42 .eql 41 0,
 qm 43 42,
 qmt 44 43 5,
 .rt 45 43 (.bin .neq false (.t 44) (qI 1)),
 qp 46 43 45,
 qm 47 46,
 qmf 48 47 4,
 .rf 49 47 (.bin .gtr false (.t 48) (qI 0)),
 qmf 50 47 49,
 qmt 51 50 5,
 qmt 52 50 3,
 .rt 53 50 (.bin .leq false (.t 51) (.t 52)),
 qmt 54 50 53,
 qmf 55 54 5,
 qmf 56 54 3,
 .rf 57 54 (.bin .rem false (.t 55) (.t 56)),
 .rf 58 54 (.bin .neq false (.t 57) (qI 0)),
 .rt 59 50 (.pick (.t 54) (.k (.v (.bool true))) (.t 58)),
 qmt 60 50 59,
 qmf 61 60 5,
 .rf 62 60 (.bin .gtr false (.t 61) (qI 1000000)),
 .rt 63 50 (.pick (.t 60) (.k (.v (.bool true))) (.t 62)),
 .rf 64 47 (.pick (.t 50) (.t 63) (.k (.v (.bool false)))),
 qP 65 47 64])
 (qq 65
 (.seq
 (.reg 10 none [2] [
 qi 2 2])
 .ret)
 .skip))
 (.reg 11 none [3,34,35,36] [
 qm 66 5,
 qm 3 66]))))
 (.reg 12 none [3,34,35,36] [
 qa 67 36,
 qm 36 67])))))))
 (.seq
 (.reg 13 none [2] [
 qi 2 0])
 .ret)))))
def WC:List (Nat×List Nat):=qy ko
theorem WD:FnIR Tryz.prog kz 68 WC ko [(.tmp 2)]:=
 qF Tryz.func237
def Zd:RC:=
 (.seq
 (.reg 0 none [1] [
 .r 1 (.box (.t 0)),
 qc 2 false])
 (.seq
 (.seq
 (.reg 1 none [1,10] [
 qf 3 1 1,
 ql 4 3,
 qB 5 .neq 4 2,
 qm 6 5,
 qft 7 6 2 1,
 qlt 8 6 7,
 .rt 9 6 (.bin .neq false (.t 8) (qI 0)),
 qp 10 6 9])
 (qq 10
 (.seq
 (.reg 2 none [2] [
 qc 2 false])
 .ret)
 .skip))
 (.seq
 (.reg 3 none [2] [
 qf 11 1 1,
 ql 12 11,
 qB 13 .eql 12 3,
 qm 14 13,
 qff 15 14 3 1,
 qlf 16 14 15,
 .rf 17 14 (.bin .eql false (.t 16) (qI 0)),
 qmf 18 14 17,
 qft 19 18 4 1,
 qlt 20 18 19,
 .rt 21 18 (.bin .eql false (.t 20) (qI 0)),
 .rf 22 14 (.pick (.t 18) (.t 21) (.k (.v (.bool false)))),
 qmf 23 14 22,
 qft 24 23 5 1,
 qlt 25 23 24,
 .rt 26 23 (.lenL (.t 25)),
 .rt 27 23 (.bin .eql false (.t 26) (qI 0)),
 .rf 28 14 (.pick (.t 23) (.t 27) (.k (.v (.bool false)))),
 qmf 29 14 28,
 qft 30 29 6 1,
 qlt 31 29 30,
 .rt 32 29 (.un .not (.t 31)),
 .rf 33 14 (.pick (.t 29) (.t 32) (.k (.v (.bool false)))),
 qP 34 14 33,
 qm 2 34])
 .ret)))
def qw7:List (Nat×List Nat):=qy Zd
theorem qw8:FnIR Tryz.prog ZH 35 qw7 Zd [(.tmp 2)]:=
 qF Tryz.func238
def qf1:RC:=
 (.seq
 (.reg 0 none [1,2] [
 .r 2 (.box (.t 0)),
 .r 4 (.mv (qN))])
 (.seq
 (.seq
 (.reg 1 none [1,2,10] [
 qL 8 2 2,
 qC 9 kR [.t 8],
 qB 10 .neq 9 0])
 (qq 10
 (.seq
 (.reg 2 none [4] [
 .r 4 (.mv (qN))])
 .ret)
 .skip))
 (.seq
 (.reg 3 none [1,2,5] [
 .r 5 (.mv (qN))])
 (.seq
 (.seq
 (.reg 4 none [1,5,12,13,14] [
 qL 11 2 2,
 qC 12 jj [.t 11],
 qn 13 12,
 qi 14 0])
 (.block 0
 (.loop
 (.seq
 (.reg 5 none [1,5,12,13,14,15] [
 qb 15 .lss 14 13])
 (.seq
 (qq 15
 .skip
 (.exit 0))
 (.seq
 (.block 1
 (.seq
 (.reg 6 none [1,5,6,7,12,13,14] [
 qm 16 14,
 qx 17 1 12 14,
 ql 18 17,
 qm 6 16,
 qm 7 18])
 (.seq
 (.reg 7 none [1,5,6,12,13,14,21] [
 qm 19 7,
 qm 20 1,
 qb 21 .eql 19 20])
 (qq 21
 (.reg 8 none [1,5,12,13,14] [
 qm 22 5,
 qm 23 6,
 .r 24 (.bsl 1 1 [.t 23]),
 .r 25 (.app 1 8 false (.t 22) (.t 24)),
 qm 5 25])
 .skip))))
 (.reg 9 none [1,5,12,13,14] [
 qa 26 14,
 qm 14 26])))))))
 (.seq
 (.reg 10 none [4] [
 qm 27 5,
 qm 4 27])
 .ret)))))
def zm1:List (Nat×List Nat):=qy qf1
theorem zm2:FnIR Tryz.prog Ka 28 zm1 qf1 [(.tmp 4)]:=
 qF Tryz.func240
def ZY:RC:=
 (.seq
 (.reg 0 none [1] [
 .r 1 (.box (.t 0)),
 qi 2 0])
 (.seq
 (.seq
 (.reg 1 none [1,5] [
 qL 3 2 1,
 qC 4 kR [.t 3],
 qB 5 .neq 4 0])
 (qq 5
 (.seq
 (.reg 2 none [2] [
 .r 2 (.mv (.k (.v (.int .i64 (-1)))))])
 .ret)
 .skip))
 (.seq
 (.reg 3 none [2] [
 qL 6 2 1,
 qC 7 jj [.t 6],
 qC 8 QP [.t 7],
 qa 9 8,
 qm 2 9])
 .ret)))
def qE4:List (Nat×List Nat):=qy ZY
theorem qE5:FnIR Tryz.prog wv 10 qE4 ZY [(.tmp 2)]:=
 qF Tryz.func241
def jn:RC:=
 (.seq
 (.reg 0 none [0] [
 .r 2 (.mv (.k (.v (.string ⟨#[]⟩))))])
 (.seq
 (.seq
 (.reg 1 none [0,4] [
 qm 3 0,
 qB 4 .lss 3 10])
 (qq 4
 (.seq
 (.reg 2 none [2] [
 qm 5 0,
 qm 6 0,
 qa 7 6,
 .r 8 (.slS (.k (.v (.string ⟨#[48,49,50,51,52,53,54,55,56,57,97,98,99,100,101,102,103,104,105,106,107,108,109,110,111,112,113,114,115,116,117,118,119,120,121,122]⟩))) (some (.t 5)) (some (.t 7))),
 qm 2 8])
 .ret)
 .skip))
 (.seq
 (.reg 3 none [2] [
 qm 9 0,
 qB 10 .mul 9 2,
 qm 11 0,
 qB 12 .mul 11 2,
 qB 13 .add 12 2,
 .r 14 (.slS (.k (.v (.string ⟨#[48,48,48,49,48,50,48,51,48,52,48,53,48,54,48,55,48,56,48,57,49,48,49,49,49,50,49,51,49,52,49,53,49,54,49,55,49,56,49,57,50,48,50,49,50,50,50,51,50,52,50,53,50,54,50,55,50,56,50,57,51,48,51,49,51,50,51,51,51,52,51,53,51,54,51,55,51,56,51,57,52,48,52,49,52,50,52,51,52,52,52,53,52,54,52,55,52,56,52,57,53,48,53,49,53,50,53,51,53,52,53,53,53,54,53,55,53,56,53,57,54,48,54,49,54,50,54,51,54,52,54,53,54,54,54,55,54,56,54,57,55,48,55,49,55,50,55,51,55,52,55,53,55,54,55,55,55,56,55,57,56,48,56,49,56,50,56,51,56,52,56,53,56,54,56,55,56,56,56,57,57,48,57,49,57,50,57,51,57,52,57,53,57,54,57,55,57,56,57,57]⟩))) (some (.t 10)) (some (.t 13))),
 qm 2 14])
 .ret)))
def JL:List (Nat×List Nat):=qy jn
theorem JM:FnIR Tryz.prog jy 15 JL jn [(.tmp 2)]:=
 qF Tryz.func242
def JN:RC:=
 (.seq
 (.reg 0 none [2,3] [
 .r 2 (.box (.t 0)),
 .r 3 (.box (.t 1)),
 qi 4 0])
 (.seq
 (.seq
 (.reg 1 none [2,3,5] [
 qL 6 2 2,
 qC 7 zH [.t 6],
 qm 5 7])
 (.seq
 (.reg 2 none [2,3,5,9] [
 qm 8 5,
 qB 9 .neq 8 0])
 (qq 9
 (.seq
 (.reg 3 none [4] [
 qm 10 5,
 qm 4 10])
 .ret)
 .skip)))
 (.seq
 (.reg 4 none [4] [
 qL 11 2 2,
 qL 12 2 3,
 qC 13 Zj [.t 11,.t 12],
 qm 4 13])
 .ret)))
def qK7:List (Nat×List Nat):=qy JN
theorem qK8:FnIR Tryz.prog KH 14 qK7 JN [(.tmp 4)]:=
 qF Tryz.func246
def kH:RC:=
 (.seq
 (.reg 0 none [1,2] [
 .r 2 (.box (.t 0)),
 qi 4 0])
 (.seq
 (.seq
 (.reg 1 none [1,2,13] [
 qm 5 1,
 qB 6 .lss 5 0,
 qm 7 6,
 qmf 8 7 1,
 qff 9 7 1 2,
 qlf 10 7 9,
 .rf 11 7 (.lenL (.t 10)),
 .rf 12 7 (.bin .geq false (.t 8) (.t 11)),
 qP 13 7 12])
 (qq 13
 (.seq
 (.reg 2 none [4] [
 qi 4 0])
 .ret)
 .skip))
 (.seq
 (.reg 3 none [4] [
 qf 14 1 2,
 ql 15 14,
 qm 16 1,
 qx 17 7 15 16,
 qf 18 1 17,
 ql 19 18,
 qm 4 19])
 .ret)))
def Yv:List (Nat×List Nat):=qy kH
theorem Yw:FnIR Tryz.prog zc 20 Yv kH [(.tmp 4)]:=
 qF Tryz.func247
def kp:RC:=
 (.seq
 (.reg 0 none [1,2] [
 .r 2 (.box (.t 0)),
 qc 3 false])
 (.seq
 (.reg 1 none [3] [
 qf 4 0 2,
 ql 5 4,
 qf 6 0 1,
 ql 7 6,
 qb 8 .eql 5 7,
 qm 3 8])
 .ret))
def WE:List (Nat×List Nat):=qy kp
theorem WF:FnIR Tryz.prog je 9 WE kp [(.tmp 3)]:=
 qF Tryz.func248
def wq:RC:=
 (.seq
 (.reg 0 none [1] [
 .r 1 (.box (.t 0)),
 qc 2 false])
 (.seq
 (.reg 1 none [2] [
 qf 3 0 1,
 ql 4 3,
 qB 5 .eql 4 0,
 qm 6 5,
 qft 7 6 1 1,
 qlt 8 6 7,
 .rt 9 6 (.bin .eql false (.t 8) (qI 0)),
 qp 10 6 9,
 qm 11 10,
 qft 12 11 2 1,
 qlt 13 11 12,
 .rt 14 11 (.bin .eql false (.t 13) (qI 0)),
 qp 15 11 14,
 qm 16 15,
 qft 17 16 3 1,
 qlt 18 16 17,
 .rt 19 16 (.bin .eql false (.t 18) (qI 0)),
 qp 20 16 19,
 qm 21 20,
 qft 22 21 4 1,
 qlt 23 21 22,
 .rt 24 21 (.bin .eql false (.t 23) (qI 0)),
 qp 25 21 24,
 qm 26 25,
 qft 27 26 5 1,
 qlt 28 26 27,
 .rt 29 26 (.lenL (.t 28)),
 .rt 30 26 (.bin .eql false (.t 29) (qI 0)),
 qp 31 26 30,
 qm 2 31])
 .ret))
def qa7:List (Nat×List Nat):=qy wq
theorem qa8:FnIR Tryz.prog jL 32 qa7 wq [(.tmp 2)]:=
 qF Tryz.func249
def yE:RC:=
 (.seq
 (.reg 0 none [1,2] [
 .r 2 (.box (.t 0)),
 qi 4 0])
 (.seq
 (.reg 1 none [4] [
 qf 5 5 2,
 ql 6 5,
 qf 7 5 2,
 ql 8 7,
 qn 9 8,
 qm 10 1,
 qb 11 .sub 9 10,
 qx 12 1 6 11,
 ql 13 12,
 qm 4 13])
 .ret))
def ql2:List (Nat×List Nat):=qy yE
theorem ql3:FnIR Tryz.prog yW 14 ql2 yE [(.tmp 4)]:=
 qF Tryz.func250
def Qk:RC:=
 (.seq
 (.reg 0 none [0,1] [
 qi 4 0])
 (.seq
 (.reg 1 none [0,1,5] [
 qm 6 0,
 qm 7 1,
 qb 8 .rem 6 7,
 qm 5 8])
 (.seq
 (.seq
 (.reg 2 none [0,1,5,10] [
 qm 9 5,
 qB 10 .lss 9 0])
 (qq 10
 (.reg 3 none [0,5] [
 qm 11 5,
 qm 12 1,
 qb 13 .add 11 12,
 qm 5 13])
 .skip))
 (.seq
 (.reg 4 none [4] [
 qm 14 0,
 qm 15 5,
 qb 16 .sub 14 15,
 qm 4 16])
 .ret))))
def qq7:List (Nat×List Nat):=qy Qk
theorem qq8:FnIR Tryz.prog wB 17 qq7 Qk [(.tmp 4)]:=
 qF Tryz.func251
def yF:RC:=
 (.seq
 (.reg 0 none [0] [
 qi 2 0])
 (.seq
 (.seq
 (.reg 1 none [3] [
 qm 3 0])
 (qq 3
 (.seq
 (.reg 2 none [2] [
 qi 2 1])
 .ret)
 .skip))
 (.seq
 (.reg 3 none [2] [
 .r 2 (.mv (.k (.v (.int .i64 (-1)))))])
 .ret)))
def ql4:List (Nat×List Nat):=qy yF
theorem ql5:FnIR Tryz.prog jz 4 ql4 yF [(.tmp 2)]:=
 qF Tryz.func252
def JO:RC:=
 (.seq
 (.reg 0 none [1,2,3] [
 .r 3 (.box (.t 0)),
 qc 6 false])
 (.seq
 (.seq
 (.reg 1 none [1,2,3,16] [
 qL 7 2 3,
 qm 8 1,
 qC 9 ZG [.t 7,.t 8],
 .r 10 (.un .not (.t 9)),
 qm 11 10,
 .rf 12 11 (.ld (some 2) (.t 3)),
 qmf 13 11 2,
 .rf 14 11 (.call (.k (.clo ZG [])) [.t 12,.t 13]),
 .rf 15 11 (.un .not (.t 14)),
 qP 16 11 15])
 (qq 16
 (.seq
 (.reg 2 none [6] [
 qc 6 false])
 .ret)
 .skip))
 (.seq
 (.reg 3 (some [0,0,0,4,0,28,60,127,0,511,1023]) [6] [
 qL 17 2 3,
 qm 18 1,
 qL 19 2 3,
 qC 20 jj [.t 19],
 qm 21 2,
 qx 22 1 20 21,
 ql 23 22,
 qC 24 yU [.t 17,.t 18,.t 23],
 qm 25 2,
 qb 26 .eql 24 25,
 qm 6 26])
 .ret)))
def qK9:List (Nat×List Nat):=qy JO
theorem qL0:FnIR Tryz.prog KI 27 qK9 JO [(.tmp 6)]:=
 qF Tryz.func253
def Ql:RC:=
 (.seq
 (.reg 0 none [0] [
 qi 2 0])
 (.seq
 (.seq
 (.reg 1 none [3] [
 qm 3 0])
 (.block 0
 (.seq
 (.seq
 (.reg 2 none [3,4] [
 qB 5 .eql 3 5,
 qm 4 5])
 (qq 4
 .skip
 (.reg 3 none [3,4] [
 qB 6 .eql 3 6,
 qm 4 6])))
 (qq 4
 (.seq
 (.reg 4 none [2] [
 qi 2 2])
 .ret)
 (.seq
 (.reg 5 none [7] [
 qB 8 .eql 3 7,
 qm 7 8])
 (qq 7
 (.seq
 (.reg 6 none [2] [
 qi 2 1])
 .ret)
 .skip))))))
 (.seq
 (.reg 7 none [2] [
 qi 2 0])
 .ret)))
def qq9:List (Nat×List Nat):=qy Ql
theorem qr0:FnIR Tryz.prog QO 9 qq9 Ql [(.tmp 2)]:=
 qF Tryz.func256
def wO:RC:=
 (.seq
 (.reg 0 none [1] [
 .r 1 (.box (.t 0)),
 qc 2 false])
 (.seq
 (.reg 1 none [1,3] [
 qf 4 0 1,
 ql 5 4,
 qB 6 .eql 5 2,
 qm 7 6,
 qff 8 7 0 1,
 qlf 9 7 8,
 .rf 10 7 (.bin .eql false (.t 9) (qI 3)),
 qP 11 7 10,
 qm 12 11,
 qff 13 12 0 1,
 qlf 14 12 13,
 .rf 15 12 (.bin .eql false (.t 14) (qI 4)),
 qP 16 12 15,
 qm 3 16])
 (.seq
 (.block 0
 (.seq
 (.seq
 (.reg 2 none [1,17] [
 qm 18 3,
 .r 19 (.un .not (.t 18)),
 qm 20 19,
 qft 21 20 1 1,
 qlt 22 20 21,
 .rt 23 20 (.bin .neq false (.t 22) (qI 0)),
 qp 24 20 23,
 qm 17 24])
 (qq 17
 .skip
 (.reg 3 none [1,17] [
 qf 25 0 1,
 ql 26 25,
 qB 27 .neq 26 2,
 qm 28 27,
 qft 29 28 2 1,
 qlt 30 28 29,
 .rt 31 28 (.bin .neq false (.t 30) (qI 0)),
 qp 32 28 31,
 qm 17 32])))
 (qq 17
 (.seq
 (.reg 4 none [2] [
 qc 2 false])
 .ret)
 .skip)))
 (.seq
 (.reg 5 none [2] [
 qf 33 0 1,
 ql 34 33,
 qB 35 .eql 34 3,
 qm 36 35,
 qff 37 36 3 1,
 qlf 38 36 37,
 .rf 39 36 (.bin .eql false (.t 38) (qI 0)),
 qmf 40 36 39,
 qft 41 40 4 1,
 qlt 42 40 41,
 .rt 43 40 (.bin .eql false (.t 42) (qI 0)),
 .rf 44 36 (.pick (.t 40) (.t 43) (.k (.v (.bool false)))),
 qP 45 36 44,
 qm 2 45])
 .ret))))
def qf2:List (Nat×List Nat):=qy wO
theorem qf3:FnIR Tryz.prog yn 46 qf2 wO [(.tmp 2)]:=
 qF Tryz.func257
def jD:RC:=
 (.seq
 (.reg 0 none [0,1] [
 qi 4 0])
 (.seq
 (.seq
 (.reg 1 none [0,1,7,8] [
 qm 6 0,
 qn 7 6,
 qi 8 0])
 (.block 0
 (.loop
 (.seq
 (.reg 2 none [0,1,7,8,9] [
 qb 9 .lss 8 7])
 (.seq
 (qq 9
 .skip
 (.exit 0))
 (.seq
 (.block 1
 (.seq
 (.reg 3 none [0,1,5,7,8] [
 qm 10 8,
 qm 5 10])
 (.seq
 (.reg 4 none [0,1,5,7,8,16] [
 qm 11 1,
 qm 12 0,
 qm 13 5,
 qx 14 2 12 13,
 qL 15 2 14,
 .r 16 (.call (.t 11) [.t 15])])
 (qq 16
 (.seq
 (.reg 5 none [4] [
 qm 17 5,
 qm 4 17])
 .ret)
 .skip))))
 (.reg 6 none [0,1,7,8] [
 qa 18 8,
 qm 8 18])))))))
 (.seq
 (.reg 7 none [4] [
 .r 4 (.mv (.k (.v (.int .i64 (-1)))))])
 .ret)))
def Kf:List (Nat×List Nat):=qy jD
theorem Kg:FnIR Tryz.prog jM 19 Kf jD [(.tmp 4)]:=
 qF Tryz.func259
def zW:RC:=
 (.seq
 (.reg 0 none [0,1] [
 qi 4 0])
 (.seq
 (.seq
 (.reg 1 none [0,1,7,8] [
 qm 6 0,
 qn 7 6,
 qi 8 0])
 (.block 0
 (.loop
 (.seq
 (.reg 2 none [0,1,7,8,9] [
 qb 9 .lss 8 7])
 (.seq
 (qq 9
 .skip
 (.exit 0))
 (.seq
 (.block 1
 (.seq
 (.reg 3 none [0,1,5,7,8] [
 qm 10 8,
 qm 5 10])
 (.seq
 (.reg 4 none [0,1,5,7,8,16] [
 qm 11 1,
 qm 12 0,
 qm 13 5,
 qx 14 7 12 13,
 qL 15 7 14,
 .r 16 (.call (.t 11) [.t 15])])
 (qq 16
 (.seq
 (.reg 5 none [4] [
 qm 17 5,
 qm 4 17])
 .ret)
 .skip))))
 (.reg 6 none [0,1,7,8] [
 qa 18 8,
 qm 8 18])))))))
 (.seq
 (.reg 7 none [4] [
 .r 4 (.mv (.k (.v (.int .i64 (-1)))))])
 .ret)))
def Jj:List (Nat×List Nat):=qy zW
theorem Jk:FnIR Tryz.prog jk 19 Jj zW [(.tmp 4)]:=
 qF Tryz.func265
def Qm:RC:=
 (.seq
 (.reg 0 none [0] [
 qi 2 0])
 (.seq
 (.seq
 (.reg 1 none [0,7] [
 qm 5 0,
 qn 6 5,
 qB 7 .lss 6 1])
 (qq 7
 .stuck
 .skip))
 (.seq
 (.reg 3 none [0,3] [
 qm 9 0,
 .r 10 (.ixL 1 (.t 9) (qI 0)),
 ql 11 10,
 qm 3 11])
 (.seq
 (.seq
 (.reg 4 none [0,3,4] [
 qi 4 1])
 (.block 0
 (.loop
 (.seq
 (.seq
 (.reg 5 none [0,3,4,15] [
 qm 12 4,
 qm 13 0,
 qn 14 13,
 qb 15 .lss 12 14])
 (qq 15
 .skip
 (.exit 0)))
 (.seq
 (.block 1
 (.reg 7 none [0,3,4] [
 qm 18 3,
 qm 19 0,
 qm 20 4,
 qx 21 1 19 20,
 ql 22 21,
 .r 23 (.mx [.t 18,.t 22]),
 qm 3 23]))
 (.reg 6 none [0,3,4] [
 qm 16 4,
 qa 17 16,
 qm 4 17]))))))
 (.seq
 (.reg 8 none [2] [
 qm 24 3,
 qm 2 24])
 .ret)))))
def qr1:List (Nat×List Nat):=qy Qm
theorem qr2:FnIR Tryz.prog QP 25 qr1 Qm [(.tmp 2)]:=
 qF Tryz.func266
end Go.Proofs
