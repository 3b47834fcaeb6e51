/- A part of the proof: Ir. -/
import Derived.WalkKit
import Derived.Still
import Derived.MapKept
import GoSem.Builtin.Cap
import Derived.Laws.Externs
import GoSem.Extern.SlicesOverlaps
import Derived.Carry
import Derived.ProofKit
import Derived.OpenShut
import Derived.HandedShaped
import Derived.Lay
import Derived.LaidLaws
import Derived.MakeChecks
import Derived.SevenTiedAt
import Derived.Test.YtlpllebfjgflaaaGreatDoorChecked
import Derived.Test.YtlpllebfjgflaaaGreatDoorK13
namespace Go.Proofs
open Go.TL
abbrev qm (d a:Nat):ROp:=.r d (.mv (.t a))
abbrev ql (d a:Nat):ROp:=.r d (.ld none (.t a))
abbrev qL (d l a:Nat):ROp:=.r d (.ld (some l) (.t a))
abbrev qf (d k a:Nat):ROp:=.r d (.fa k (.t a))
abbrev qx (d k a b:Nat):ROp:=.r d (.ixL k (.t a) (.t b))
abbrev qn (d a:Nat):ROp:=.r d (.lenL (.t a))
abbrev qi (d:Nat) (n:Int):ROp:=.r d (.mv (.k (.v (.int .i64 n))))
abbrev qa (d a:Nat):ROp:=.r d (.bin .add false (.t a) (.k (.v (.int .i64 1))))
abbrev qb (d:Nat) (o:BinOp) (a b:Nat):ROp:=.r d (.bin o false (.t a) (.t b))
abbrev qB (d:Nat) (o:BinOp) (a:Nat) (n:Int):ROp:=.r d (.bin o false (.t a) (.k (.v (.int .i64 n))))
abbrev qmt (d g a:Nat):ROp:=.rt d g (.mv (.t a))
abbrev qmf (d g a:Nat):ROp:=.rf d g (.mv (.t a))
abbrev qlt (d g a:Nat):ROp:=.rt d g (.ld none (.t a))
abbrev qlf (d g a:Nat):ROp:=.rf d g (.ld none (.t a))
abbrev qft (d g k a:Nat):ROp:=.rt d g (.fa k (.t a))
abbrev qff (d g k a:Nat):ROp:=.rf d g (.fa k (.t a))
abbrev qc (d:Nat) (b:Bool):ROp:=.r d (.mv (.k (.v (.bool b))))
abbrev qp (d a b:Nat):ROp:=.r d (.pick (.t a) (.t b) (.k (.v (.bool false))))
abbrev qP (d a b:Nat):ROp:=.r d (.pick (.t a) (.k (.v (.bool true))) (.t b))
abbrev qs (l a b:Nat):ROp:=.rn (.st l (.t a) (.t b))
abbrev qC (d:Nat) (f:FuncId) (l:List RV):ROp:=.r d (.call (.k (.clo f [])) l)
abbrev qq (t:Nat) (a b:RC):RC:=.cond (.t t) a b
abbrev qI (n:Int):RV:=.k (.v (.int .i64 n))
abbrev qN:RV:=.k (.v (.slice none 0 0))
theorem qF {P:Program} {f:FuncId} {n:Nat} {kss:List (Nat×List Nat)} {rc:RC} {rs:List RR} {fn:Func} {c:Code} (h:P.funcs[f]?=some fn) (h1:fn.body=some c:=by rfl) (h2:goFn P f=true:=by kernel_rfl) (h3:fn.ntmps=n:=by rfl) (h4:rsvC P n kss c=some rc:=by kernel_rfl) (h5:Yf P fn.results.toList=some rs:=by kernel_rfl):FnIR P f n kss rc rs:=⟨fn,c,h,h1,h2,h3,h4,h5⟩
abbrev yD:FuncId:=4
abbrev Zf:FuncId:=9
abbrev JL:FuncId:=10
abbrev zf:FuncId:=11
abbrev Jc:FuncId:=13
abbrev Jd:FuncId:=15
abbrev Ql:FuncId:=16
abbrev yx:FuncId:=17
abbrev wu:FuncId:=18
abbrev Zg:FuncId:=19
abbrev yj:FuncId:=20
abbrev wC:FuncId:=21
abbrev zw:FuncId:=22
abbrev jN:FuncId:=23
abbrev yk:FuncId:=24
abbrev zJ:FuncId:=25
abbrev yE:FuncId:=26
abbrev Je:FuncId:=27
abbrev wD:FuncId:=31
abbrev jZ:FuncId:=34
abbrev qE:FuncId:=35
abbrev Zh:FuncId:=36
abbrev wv:FuncId:=37
abbrev kL:FuncId:=38
abbrev zO:FuncId:=39
abbrev kM:FuncId:=40
abbrev jd:FuncId:=41
abbrev yl:FuncId:=42
abbrev ym:FuncId:=43
abbrev Zi:FuncId:=44
abbrev Jf:FuncId:=45
abbrev zj:FuncId:=46
abbrev zU:FuncId:=47
abbrev kN:FuncId:=48
abbrev qA:FuncId:=49
abbrev zb:FuncId:=50
abbrev qU:FuncId:=51
abbrev yF:FuncId:=52
abbrev Qg:FuncId:=53
abbrev Kq:FuncId:=54
abbrev kO:FuncId:=55
abbrev jA:FuncId:=58
abbrev jE:FuncId:=59
abbrev jO:FuncId:=60
abbrev Zj:FuncId:=61
abbrev zk:FuncId:=62
abbrev jT:FuncId:=63
abbrev jF:FuncId:=64
abbrev Zk:FuncId:=65
abbrev ka:FuncId:=66
abbrev qO:FuncId:=67
abbrev yG:FuncId:=68
abbrev jB:FuncId:=69
abbrev Qm:FuncId:=70
abbrev Zl:FuncId:=71
abbrev Qn:FuncId:=72
abbrev jk:FuncId:=73
abbrev ww:FuncId:=74
abbrev Jg:FuncId:=75
abbrev ke:FuncId:=76
abbrev jG:FuncId:=77
abbrev Qo:FuncId:=78
abbrev zV:FuncId:=80
abbrev wE:FuncId:=81
abbrev Qp:FuncId:=82
abbrev zA:FuncId:=83
abbrev zq:FuncId:=84
abbrev zE:FuncId:=85
abbrev jp:FuncId:=86
abbrev yH:FuncId:=87
abbrev zF:FuncId:=88
abbrev kP:FuncId:=89
abbrev qZ:FuncId:=90
abbrev wM:FuncId:=91
abbrev kA:FuncId:=92
abbrev kY:FuncId:=93
abbrev kQ:FuncId:=94
abbrev je:FuncId:=95
abbrev kf:FuncId:=96
abbrev wF:FuncId:=97
abbrev WK:FuncId:=98
abbrev wg:FuncId:=99
abbrev wG:FuncId:=100
abbrev Jh:FuncId:=101
abbrev zW:FuncId:=102
abbrev jC:FuncId:=103
abbrev yI:FuncId:=104
abbrev Zm:FuncId:=105
abbrev wx:FuncId:=106
abbrev kR:FuncId:=107
abbrev qR:FuncId:=108
abbrev jU:FuncId:=109
abbrev jq:FuncId:=110
abbrev jH:FuncId:=111
abbrev QN:FuncId:=113
abbrev WL:FuncId:=114
abbrev zr:FuncId:=123
abbrev zM:FuncId:=124
abbrev zX:FuncId:=125
abbrev kS:FuncId:=131
abbrev Qq:FuncId:=133
abbrev zQ:FuncId:=138
abbrev yn:FuncId:=139
abbrev wN:FuncId:=141
abbrev wH:FuncId:=112
abbrev wa:FuncId:=132
def jI:RC:=
 (.seq
 (.reg 0 none [0,2,3,5] [
 .r 5 (.box (.t 1)),
 qc 8 false])
 (.seq
 (.reg 1 none [0,2,3,5,9] [
 qm 23 0,
 qC 24 JL [.t 23],
 qm 9 24])
 (.seq
 (.reg 2 none [0,2,3,5,9,10] [
 qm 25 9,
 qC 26 zf [.t 25,qI 6],
 .r 10 (.new (.agg [.v (.slice none 0 0),.v (.slice none 0 0),.v (.slice none 0 0),.v (.slice none 0 0),.v (.int .i64 0)])),
 qs 5 10 26])
 (.seq
 (.reg 3 (some [0,0,0,6,0,0,62,0,0,510,0,0,4094,8191,16383]) [0,2,3,10,11] [
 qL 27 3 5,
 qm 28 9,
 qL 29 5 10,
 qC 30 zw [.t 28,.t 29],
 qm 31 9,
 qL 32 5 10,
 qC 33 zw [.t 31,.t 32],
 qm 34 9,
 qL 35 5 10,
 qC 36 zw [.t 34,.t 35],
 qm 37 9,
 qL 38 5 10,
 qC 39 zw [.t 37,.t 38],
 .r 40 (.bsl 3 5 [.t 27,.t 30,.t 33,.t 36,.t 39]),
 qm 11 40])
 (.seq
 (.reg 4 none [10,11,12] [
 qm 41 0,
 qm 42 2,
 qm 43 3,
 qC 44 Ql [.t 41,.t 42,.t 43],
 .r 12 (.new (.agg [.v (.slice none 0 0),.v (.slice none 0 0),.v (.slice none 0 0),.v (.slice none 0 0),.v (.int .i64 0)])),
 qs 5 12 44])
 (.seq
 (.seq
 (.reg 5 none [10,12,45,46,47] [
 qm 45 11,
 qn 46 45,
 qi 47 0])
 (.block 0
 (.loop
 (.seq
 (.reg 6 none [10,12,45,46,47,48] [
 qb 48 .lss 47 46])
 (.seq
 (qq 48
 .skip
 (.exit 0))
 (.seq
 (.block 1
 (.seq
 (.reg 7 none [10,12,14,45,46,47] [
 qx 49 3 45 47,
 qL 50 3 49,
 .r 14 (.new (.agg [.v (.int .i64 0),.v (.slice none 0 0),.v (.int .i64 0)])),
 qs 3 14 50])
 (.seq
 (.seq
 (.reg 8 none [10,12,14,45,46,47,53,54,55] [
 qL 51 5 10,
 qL 52 5 12,
 .r 53 (.bsl 5 2 [.t 51,.t 52]),
 qn 54 53,
 qi 55 0])
 (.block 2
 (.loop
 (.seq
 (.reg 9 none [10,12,14,45,46,47,53,54,55,56] [
 qb 56 .lss 55 54])
 (.seq
 (qq 56
 .skip
 (.exit 2))
 (.seq
 (.block 3
 (.seq
 (.reg 10 none [10,12,14,16,45,46,47,53,54,55] [
 qx 57 5 53 55,
 qL 58 5 57,
 .r 16 (.new (.agg [.v (.slice none 0 0),.v (.slice none 0 0),.v (.slice none 0 0),.v (.slice none 0 0),.v (.int .i64 0)])),
 qs 5 16 58])
 (.seq
 (.reg 11 none [10,12,14,16,17,18,45,46,47,53,54,55] [
 qL 60 5 16,
 qL 61 3 14,
 qC 62 jN [.t 60,.t 61],
 qm 59 62,
 .r 63 (.ex (.t 59) 0),
 .r 64 (.ex (.t 59) 1),
 .r 17 (.new (.agg [.v (.slice none 0 0),.v (.slice none 0 0),.v (.slice none 0 0),.v (.slice none 0 0),.v (.int .i64 0)])),
 qs 5 17 63,
 qm 18 64])
 (.seq
 (.reg 12 none [10,12,14,17,18,19,20,45,46,47,53,54,55] [
 qL 66 5 16,
 qL 67 3 14,
 qC 68 yk [.t 66,.t 67],
 qm 65 68,
 .r 69 (.ex (.t 65) 0),
 .r 70 (.ex (.t 65) 1),
 .r 19 (.new (.agg [.v (.slice none 0 0),.v (.slice none 0 0),.v (.slice none 0 0),.v (.slice none 0 0),.v (.int .i64 0)])),
 qs 5 19 69,
 qm 20 70])
 (.seq
 (.reg 13 none [10,12,14,45,46,47,53,54,55,79] [
 qm 71 18,
 qm 72 20,
 qb 73 .neq 71 72,
 qm 74 73,
 .rf 75 74 (.ld (some 5) (.t 17)),
 .rf 76 74 (.ld (some 5) (.t 19)),
 .rf 77 74 (.call (.k (.clo Jd [])) [.t 75,.t 76]),
 .rf 78 74 (.un .not (.t 77)),
 qP 79 74 78])
 (qq 79
 (.seq
 (.reg 14 none [8] [
 qc 8 false])
 .ret)
 .skip))))))
 (.reg 15 none [10,12,14,45,46,47,53,54,55] [
 qa 80 55,
 qm 55 80])))))))
 (.seq
 (.reg 16 none [10,12,21,22,45,46,47] [
 qL 82 5 10,
 qL 83 3 14,
 qC 84 yk [.t 82,.t 83],
 qm 81 84,
 .r 85 (.ex (.t 81) 0),
 .r 86 (.ex (.t 81) 1),
 .r 21 (.new (.agg [.v (.slice none 0 0),.v (.slice none 0 0),.v (.slice none 0 0),.v (.slice none 0 0),.v (.int .i64 0)])),
 qs 5 21 85,
 qm 22 86])
 (.seq
 (.reg 17 none [10,12,21,45,46,47,88] [
 qm 87 22,
 qB 88 .eql 87 0])
 (qq 88
 (.reg 18 none [10,12,45,46,47] [
 qL 89 5 21,
 qs 5 10 89])
 .skip))))))
 (.reg 19 none [10,12,45,46,47] [
 qa 90 47,
 qm 47 90])))))))
 (.seq
 (.reg 20 none [8] [
 qC 91 Zf [],
 qm 8 91])
 .ret)))))))
def JN:List (Nat×List Nat):=qz jI
theorem JO:FnIR Tryz.prog yD 92 JN jI [(.tmp 8)]:=
 qF Tryz.func4
def Qr:RC:=
 (.seq
 (.reg 0 none [] [
 qc 0 false])
 (.seq
 (.reg 1 none [1] [
 .r 8 (.build [.v (.string ⟨#[]⟩),.v (.int .i64 0),.v (.int .i64 0),.v (.int .i64 0),.v (.int .i64 0),.v (.slice none 0 0),.v (.bool false)] [((0,1),.k (.v (.string ⟨#[119,104,111]⟩))),((1,1),qI 1)]),
 .r 9 (.bsl 7 1 [.t 8]),
 .r 10 (.build [.v (.slice none 0 0),.v (.slice none 0 0)] [((1,1),.t 9)]),
 .r 1 (.new (.agg [.v (.slice none 0 0),.v (.slice none 0 0)])),
 qs 2 1 10])
 (.seq
 (.reg 2 none [2,3] [
 qL 12 2 1,
 .r 13 (.bsl 1 1 [qI 7]),
 .r 14 (.bsl 1 1 [qI 3]),
 .r 15 (.bsl 1 2 [.t 13,.t 14]),
 qC 16 Jc [.t 12,.t 15],
 qm 11 16,
 .r 17 (.ex (.t 11) 0),
 .r 18 (.ex (.t 11) 1),
 .r 2 (.new (.agg [.v (.slice none 0 0),.v (.slice none 0 0),.v (.slice none 0 0),.v (.slice none 0 0),.v (.int .i64 0)])),
 qs 5 2 17,
 qm 3 18])
 (.seq
 (.reg 3 none [2,3,4,5] [
 qL 20 5 2,
 .r 21 (.build [.v (.int .i64 0),.v (.slice none 0 0),.v (.int .i64 0)] [((0,1),qI 4),((2,1),qI 7)]),
 qC 22 jN [.t 20,.t 21],
 qm 19 22,
 .r 23 (.ex (.t 19) 0),
 .r 24 (.ex (.t 19) 1),
 .r 4 (.new (.agg [.v (.slice none 0 0),.v (.slice none 0 0),.v (.slice none 0 0),.v (.slice none 0 0),.v (.int .i64 0)])),
 qs 5 4 23,
 qm 5 24])
 (.seq
 (.reg 4 none [2,3,4,5,7] [
 qL 26 5 4,
 .r 27 (.bsl 1 1 [qI 7]),
 .r 28 (.build [.v (.int .i64 0),.v (.slice none 0 0),.v (.int .i64 0)] [((0,1),qI 1),((1,1),.t 27)]),
 qC 29 jN [.t 26,.t 28],
 qm 25 29,
 .r 30 (.ex (.t 25) 0),
 .r 31 (.ex (.t 25) 1),
 .r 6 (.new (.agg [.v (.slice none 0 0),.v (.slice none 0 0),.v (.slice none 0 0),.v (.slice none 0 0),.v (.int .i64 0)])),
 qs 5 6 30,
 qm 7 31])
 (.seq
 (.reg 5 none [0] [
 qm 32 3,
 qB 33 .eql 32 0,
 qm 34 33,
 .rt 35 34 (.ld (some 5) (.t 2)),
 .rt 36 34 (.call (.k (.clo wu [])) [.t 35]),
 qp 37 34 36,
 qm 38 37,
 qft 39 38 2 2,
 qlt 40 38 39,
 .rt 41 38 (.lenL (.t 40)),
 .rt 42 38 (.bin .eql false (.t 41) (qI 2)),
 qp 43 38 42,
 qm 44 43,
 qmt 45 44 5,
 .rt 46 44 (.bin .eql false (.t 45) (qI 0)),
 qp 47 44 46,
 qm 48 47,
 qft 49 48 4 4,
 qlt 50 48 49,
 .rt 51 48 (.bin .eql false (.t 50) (qI 1)),
 qp 52 48 51,
 qm 53 52,
 .rt 54 53 (.ld (some 5) (.t 4)),
 .rt 55 53 (.call (.k (.clo yj [])) [.t 54,qI 7]),
 .rt 56 53 (.bin .eql false (.t 55) (.k (.v (.int .i64 (-1))))),
 qp 57 53 56,
 qm 58 57,
 .rt 59 58 (.ld (some 5) (.t 4)),
 .rt 60 58 (.call (.k (.clo yj [])) [.t 59,qI 3]),
 .rt 61 58 (.bin .eql false (.t 60) (qI 0)),
 qp 62 58 61,
 qm 63 62,
 qmt 64 63 7,
 .rt 65 63 (.bin .eql false (.t 64) (qI 20)),
 qp 66 63 65,
 qm 0 66])
 .ret))))))
def qh2:List (Nat×List Nat):=qz Qr
theorem qh3:FnIR Tryz.prog Zf 67 qh2 Qr [(.tmp 0)]:=
 qF Tryz.func9
def Kr:RC:=
 (.seq
 (.reg 0 none [0] [
 .r 2 (.mv (.k (.v (.pointer none))))])
 (.seq
 (.reg 1 none [2] [
 qm 3 0,
 qm 4 0,
 qn 5 4,
 .r 6 (.mn [.t 5,qI 400]),
 .r 7 (.slL 1 (.t 3) none (some (.t 6))),
 .r 8 (.build [.v (.slice none 0 0),.v (.int .i64 0)] [((0,1),.t 7)]),
 .r 9 (.box (.t 8)),
 qm 2 9])
 .ret))
def qH7:List (Nat×List Nat):=qz Kr
theorem qH8:FnIR Tryz.prog JL 10 qH7 Kr [(.tmp 2)]:=
 qF Tryz.func10
def jJ:RC:=
 (.seq
 (.reg 0 none [0,1,4] [
 .r 4 (.new (.agg [.v (.slice none 0 0),.v (.slice none 0 0),.v (.slice none 0 0),.v (.slice none 0 0),.v (.int .i64 0)]))])
 (.seq
 (.reg 1 none [0,1,4,5] [
 qm 8 0,
 qC 9 jZ [.t 8],
 .r 5 (.new (.agg [.v (.slice none 0 0),.v (.slice none 0 0)])),
 qs 2 5 9])
 (.seq
 (.reg 2 none [0,1,4,5,6] [
 qL 10 2 5,
 .r 11 (.build [.v (.slice none 0 0),.v (.slice none 0 0),.v (.slice none 0 0),.v (.slice none 0 0),.v (.int .i64 0)] [((0,2),.t 10)]),
 .r 6 (.new (.agg [.v (.slice none 0 0),.v (.slice none 0 0),.v (.slice none 0 0),.v (.slice none 0 0),.v (.int .i64 0)])),
 qs 5 6 11])
 (.seq
 (.seq
 (.reg 3 none [0,4,5,6,7] [
 qm 12 0,
 qm 13 1,
 qa 14 13,
 qC 15 qE [.t 12,.t 14],
 qm 7 15])
 (.block 0
 (.loop
 (.seq
 (.seq
 (.reg 4 none [0,4,5,6,7,17] [
 qm 16 7,
 qB 17 .gtr 16 0])
 (qq 17
 .skip
 (.exit 0)))
 (.seq
 (.block 1
 (.reg 6 (some [0,1,0,0,12,31,63,127]) [0,4,5,6,7] [
 qf 20 2 6,
 ql 21 20,
 qm 22 0,
 qL 23 2 5,
 qC 24 zJ [.t 22,.t 23],
 qC 25 Zh [.t 21,.t 24],
 qf 26 2 6,
 qs 1 26 25]))
 (.reg 5 none [0,4,5,6,7] [
 qm 18 7,
 qB 19 .sub 18 1,
 qm 7 19]))))))
 (.seq
 (.reg 7 none [4] [
 qL 27 5 6,
 qs 5 4 27])
 .ret)))))
def JP:List (Nat×List Nat):=qz jJ
theorem JQ:FnIR Tryz.prog zf 28 JP jJ [(.cell 4 (some 5))]:=
 qF Tryz.func11
def Zn:RC:=
 (.seq
 (.reg 0 none [1,2,4] [
 .r 2 (.box (.t 0)),
 .r 4 (.new (.agg [.v (.slice none 0 0),.v (.slice none 0 0),.v (.slice none 0 0),.v (.slice none 0 0),.v (.int .i64 0)])),
 qi 5 0])
 (.seq
 (.seq
 (.reg 1 none [1,2,4,6] [
 qL 11 2 2,
 qC 12 wv [.t 11],
 qm 6 12])
 (.seq
 (.reg 2 none [1,2,4,6,14] [
 qm 13 6,
 qB 14 .neq 13 0])
 (qq 14
 (.seq
 (.reg 3 none [4,5] [
 .r 15 (.build [.v (.slice none 0 0),.v (.slice none 0 0),.v (.slice none 0 0),.v (.slice none 0 0),.v (.int .i64 0)] []),
 qm 16 6,
 qs 5 4 15,
 qm 5 16])
 .ret)
 .skip)))
 (.seq
 (.seq
 (.reg 4 none [1,2,4,19] [
 qm 17 1,
 qn 18 17,
 qB 19 .gtr 18 200])
 (qq 19
 (.seq
 (.reg 5 none [4,5] [
 .r 20 (.build [.v (.slice none 0 0),.v (.slice none 0 0),.v (.slice none 0 0),.v (.slice none 0 0),.v (.int .i64 0)] []),
 qs 5 4 20,
 qi 5 1])
 .ret)
 .skip))
 (.seq
 (.seq
 (.reg 6 none [1,2,4,21,22,23] [
 qm 21 1,
 qn 22 21,
 qi 23 0])
 (.block 0
 (.loop
 (.seq
 (.reg 7 none [1,2,4,21,22,23,24] [
 qb 24 .lss 23 22])
 (.seq
 (qq 24
 .skip
 (.exit 0))
 (.seq
 (.block 1
 (.seq
 (.reg 8 none [1,2,4,8,21,22,23] [
 qx 25 1 21 23,
 ql 26 25,
 qm 8 26])
 (.seq
 (.reg 9 none [1,2,4,21,22,23,30] [
 qL 27 2 2,
 qm 28 8,
 qC 29 kL [.t 27,.t 28],
 .r 30 (.un .not (.t 29))])
 (qq 30
 (.seq
 (.reg 10 none [4,5] [
 .r 31 (.build [.v (.slice none 0 0),.v (.slice none 0 0),.v (.slice none 0 0),.v (.slice none 0 0),.v (.int .i64 0)] []),
 qs 5 4 31,
 qi 5 9])
 .ret)
 .skip))))
 (.reg 11 none [1,2,4,21,22,23] [
 qa 32 23,
 qm 23 32])))))))
 (.seq
 (.reg 12 none [4,9] [
 qL 33 2 2,
 qC 34 zO [.t 33],
 qm 35 1,
 qC 36 kM [.t 35],
 .r 37 (.build [.v (.slice none 0 0),.v (.slice none 0 0),.v (.slice none 0 0),.v (.slice none 0 0),.v (.int .i64 0)] [((0,2),.t 34),((2,1),.t 36)]),
 .r 9 (.new (.agg [.v (.slice none 0 0),.v (.slice none 0 0),.v (.slice none 0 0),.v (.slice none 0 0),.v (.int .i64 0)])),
 qs 5 9 37])
 (.seq
 (.reg 13 none [4,9] [
 qf 38 2 9,
 ql 39 38,
 .r 40 (.call (.k (.clo jd [])) [.t 39,.k (.clo yl [])])])
 (.seq
 (.seq
 (.reg 14 none [4,9,43,44] [
 qf 41 2 9,
 ql 42 41,
 qn 43 42,
 qi 44 0])
 (.block 2
 (.loop
 (.seq
 (.reg 15 none [4,9,43,44,45] [
 qb 45 .lss 44 43])
 (.seq
 (qq 45
 .skip
 (.exit 2))
 (.seq
 (.block 3
 (.seq
 (.reg 16 none [4,9,10,43,44] [
 qm 46 44,
 qm 10 46])
 (.seq
 (.reg 17 (some [0,1,3,7,15,7,63,127,255,511,7,1031,7,4103,15367,31751,64519,130055,262143,524287]) [4,9,43,44,66] [
 qm 47 10,
 qB 48 .gtr 47 0,
 qm 49 48,
 qft 50 49 2 9,
 qlt 51 49 50,
 qmt 52 49 10,
 .rt 53 49 (.ixL 1 (.t 51) (.t 52)),
 qlt 54 49 53,
 .rt 55 49 (.ixL 1 (.t 54) (qI 0)),
 qlt 56 49 55,
 qft 57 49 2 9,
 qlt 58 49 57,
 qmt 59 49 10,
 .rt 60 49 (.bin .sub false (.t 59) (qI 1)),
 .rt 61 49 (.ixL 1 (.t 58) (.t 60)),
 qlt 62 49 61,
 .rt 63 49 (.ixL 1 (.t 62) (qI 0)),
 qlt 64 49 63,
 .rt 65 49 (.bin .eql false (.t 56) (.t 64)),
 qp 66 49 65])
 (qq 66
 (.seq
 (.reg 18 none [4,5] [
 .r 67 (.build [.v (.slice none 0 0),.v (.slice none 0 0),.v (.slice none 0 0),.v (.slice none 0 0),.v (.int .i64 0)] []),
 qs 5 4 67,
 qi 5 10])
 .ret)
 .skip))))
 (.reg 19 none [4,9,43,44] [
 qa 68 44,
 qm 44 68])))))))
 (.seq
 (.reg 20 none [4,5] [
 qL 69 5 9,
 qs 5 4 69,
 qi 5 0])
 .ret))))))))
def qq5:List (Nat×List Nat):=qz Zn
theorem qq6:FnIR Tryz.prog Jc 70 qq5 Zn [(.cell 4 (some 5)),(.tmp 5)]:=
 qF Tryz.func13
def Zo:RC:=
 (.seq
 (.reg 0 none [2,3] [
 .r 2 (.box (.t 0)),
 .r 3 (.box (.t 1)),
 qc 4 false])
 (.seq
 (.reg 1 none [4] [
 qf 5 0 2,
 qL 6 2 5,
 qf 7 0 3,
 qL 8 2 7,
 qC 9 Jf [.t 6,.t 8],
 qm 10 9,
 qft 11 10 2 2,
 qlt 12 10 11,
 qft 13 10 2 3,
 qlt 14 10 13,
 .rt 15 10 (.call (.k (.clo Je [])) [.t 12,.t 14]),
 qp 16 10 15,
 qm 17 16,
 qft 18 17 3 2,
 qlt 19 17 18,
 qft 20 17 3 3,
 qlt 21 17 20,
 .rt 22 17 (.call (.k (.clo wD [])) [.t 19,.t 21]),
 qp 23 17 22,
 qm 24 23,
 qft 25 24 4 2,
 qlt 26 24 25,
 qft 27 24 4 3,
 qlt 28 24 27,
 .rt 29 24 (.bin .eql false (.t 26) (.t 28)),
 qp 30 24 29,
 qm 4 30])
 .ret))
def qq7:List (Nat×List Nat):=qz Zo
theorem qq8:FnIR Tryz.prog Jd 31 qq7 Zo [(.tmp 4)]:=
 qF Tryz.func15
def za:RC:=
 (.seq
 (.reg 0 none [0,1,2,6] [
 .r 6 (.new (.agg [.v (.slice none 0 0),.v (.slice none 0 0),.v (.slice none 0 0),.v (.slice none 0 0),.v (.int .i64 0)]))])
 (.seq
 (.reg 1 none [1,2,6,7] [
 qm 11 0,
 qC 12 JL [.t 11],
 qm 7 12])
 (.seq
 (.reg 2 none [1,2,6,7,8] [
 qm 13 7,
 qC 14 zf [.t 13,qI 6],
 .r 8 (.new (.agg [.v (.slice none 0 0),.v (.slice none 0 0),.v (.slice none 0 0),.v (.slice none 0 0),.v (.int .i64 0)])),
 qs 5 8 14])
 (.seq
 (.seq
 (.reg 3 none [1,2,6,8,16] [
 qm 15 7,
 qC 16 qE [.t 15,qI 8]])
 (.block 0
 (.seq
 (.reg 4 none [1,2,6,8,16,17] [
 qB 18 .eql 16 1,
 qm 17 18])
 (qq 17
 (.reg 5 none [6,8] [
 qm 19 2,
 qf 20 4 8,
 qs 1 20 19])
 (.seq
 (.reg 6 none [1,2,6,8,16,21] [
 qB 22 .eql 16 2,
 qm 21 22])
 (qq 21
 (.reg 7 none [6,8] [
 qf 23 3 8,
 ql 24 23,
 qm 25 2,
 .r 26 (.bsl 1 1 [.t 25]),
 .r 27 (.app 1 8 false (.t 24) (.t 26)),
 qf 28 3 8,
 qs 1 28 27])
 (.seq
 (.reg 8 none [1,2,6,8,16,29] [
 qB 30 .eql 16 3,
 qm 29 30])
 (qq 29
 (.seq
 (.reg 9 none [1,2,6,8,34] [
 qf 31 2 8,
 ql 32 31,
 qn 33 32,
 qB 34 .gtr 33 0])
 (qq 34
 (.seq
 (.reg 10 none [1,2,6,8,9] [
 qm 35 1,
 qf 36 2 8,
 ql 37 36,
 qn 38 37,
 qC 39 yx [.t 35,.t 38],
 qm 9 39])
 (.seq
 (.reg 11 none [1,2,6,8,9,10] [
 qf 40 2 8,
 ql 41 40,
 qm 42 9,
 qx 43 1 41 42,
 ql 44 43,
 .r 45 (.app 1 8 false (qN) (.t 44)),
 qm 10 45])
 (.seq
 (.reg 12 none [6,8,9,10] [
 qm 46 10,
 qm 47 1,
 qB 48 .quo 47 7,
 qm 49 10,
 qn 50 49,
 qC 51 yx [.t 48,.t 50],
 qm 52 2,
 qx 53 1 46 51,
 qs 1 53 52])
 (.reg 13 (some [0,1,0,7,15,0,32,127,0,256,0,1024,3840,8191,16383,32767]) [6,8] [
 qf 54 2 8,
 ql 55 54,
 qm 56 9,
 .r 57 (.slL 1 (.t 55) none (some (.t 56))),
 .r 58 (.app 1 24 false (qN) (.t 57)),
 qm 59 10,
 .r 60 (.bsl 1 1 [.t 59]),
 .r 61 (.app 1 24 false (.t 58) (.t 60)),
 qf 62 2 8,
 ql 63 62,
 qm 64 9,
 qa 65 64,
 .r 66 (.slL 1 (.t 63) (some (.t 65)) none),
 .r 67 (.app 1 24 false (.t 61) (.t 66)),
 qf 68 2 8,
 qs 1 68 67]))))
 .skip))
 (.seq
 (.reg 14 none [1,2,6,8,16,69] [
 qB 70 .eql 16 4,
 qm 69 70])
 (qq 69
 (.reg 15 none [6,8] [
 qm 71 1,
 qC 72 yx [.t 71,qI 60],
 .r 73 (.bin .add false (qI 1) (.t 72)),
 qm 74 2,
 qC 75 yx [.t 74,qI 60],
 .r 76 (.bin .add false (qI 1) (.t 75)),
 .r 77 (.bsl 1 2 [.t 73,.t 76]),
 qf 78 3 8,
 qs 1 78 77])
 (.seq
 (.reg 16 none [6,8,79] [
 qB 80 .eql 16 5,
 qm 79 80])
 (qq 79
 (.reg 17 none [6,8] [
 qf 81 4 8,
 .rn (.st 1 (.t 81) (qI 300))])
 .skip))))))))))))
 (.seq
 (.reg 18 none [6] [
 qL 82 5 8,
 qs 5 6 82])
 .ret)))))
def qc8:List (Nat×List Nat):=qz za
theorem zB:FnIR Tryz.prog Ql 83 qc8 za [(.cell 6 (some 5))]:=
 qF Tryz.func16
def Ks:RC:=
 (.seq
 (.reg 0 none [0,1] [
 qi 4 0])
 (.seq
 (.seq
 (.reg 1 none [0,1,6] [
 qm 5 1,
 qB 6 .lss 5 1])
 (qq 6
 (.seq
 (.reg 2 none [4] [
 qi 4 0])
 .ret)
 .skip))
 (.seq
 (.reg 3 none [0,1] [
 qm 7 0,
 qm 8 1,
 qb 9 .rem 7 8,
 qm 0 9])
 (.seq
 (.seq
 (.reg 4 none [0,1,11] [
 qm 10 0,
 qB 11 .lss 10 0])
 (qq 11
 (.reg 5 none [0] [
 qm 12 0,
 qm 13 1,
 qb 14 .add 12 13,
 qm 0 14])
 .skip))
 (.seq
 (.reg 6 none [4] [
 qm 15 0,
 qm 4 15])
 .ret)))))
def qH9:List (Nat×List Nat):=qz Ks
theorem qI0:FnIR Tryz.prog yx 16 qH9 Ks [(.tmp 4)]:=
 qF Tryz.func17
def yJ:RC:=
 (.seq
 (.reg 0 none [1] [
 .r 1 (.box (.t 0)),
 qc 2 false])
 (.seq
 (.seq
 (.reg 1 none [1,34] [
 qf 9 0 1,
 qL 10 2 9,
 qC 11 wv [.t 10],
 qB 12 .neq 11 0,
 qm 13 12,
 qff 14 13 2 1,
 qlf 15 13 14,
 .rf 16 13 (.lenL (.t 15)),
 .rf 17 13 (.bin .gtr false (.t 16) (qI 200)),
 qP 18 13 17,
 qm 19 18,
 qff 20 19 3 1,
 qlf 21 19 20,
 .rf 22 19 (.lenL (.t 21)),
 .rf 23 19 (.bin .gtr false (.t 22) (qI 300)),
 qP 24 19 23,
 qm 25 24,
 qff 26 25 4 1,
 qlf 27 25 26,
 .rf 28 25 (.bin .lss false (.t 27) (qI 0)),
 qP 29 25 28,
 qm 30 29,
 qff 31 30 4 1,
 qlf 32 30 31,
 .rf 33 30 (.bin .gtr false (.t 32) (qI 300)),
 qP 34 30 33])
 (qq 34
 (.seq
 (.reg 2 none [2] [
 qc 2 false])
 .ret)
 .skip))
 (.seq
 (.seq
 (.reg 3 none [1,36,37,38] [
 qf 35 3 1,
 ql 36 35,
 qn 37 36,
 qi 38 0])
 (.block 0
 (.loop
 (.seq
 (.reg 4 none [1,36,37,38,39] [
 qb 39 .lss 38 37])
 (.seq
 (qq 39
 .skip
 (.exit 0))
 (.seq
 (.block 1
 (.seq
 (.reg 5 none [1,3,4,36,37,38] [
 qm 40 38,
 qx 41 1 36 38,
 ql 42 41,
 qm 3 40,
 qm 4 42])
 (.seq
 (.reg 6 none [1,36,37,38,62] [
 qm 43 4,
 qB 44 .lss 43 1,
 qm 45 44,
 qmf 46 45 4,
 .rf 47 45 (.bin .gtr false (.t 46) (qI 1048575)),
 qP 48 45 47,
 qm 49 48,
 qmf 50 49 3,
 .rf 51 49 (.bin .gtr false (.t 50) (qI 0)),
 qmf 52 49 51,
 qmt 53 52 4,
 qft 54 52 3 1,
 qlt 55 52 54,
 qmt 56 52 3,
 .rt 57 52 (.bin .sub false (.t 56) (qI 1)),
 .rt 58 52 (.ixL 1 (.t 55) (.t 57)),
 qlt 59 52 58,
 .rt 60 52 (.bin .leq false (.t 53) (.t 59)),
 .rf 61 49 (.pick (.t 52) (.t 60) (.k (.v (.bool false)))),
 qP 62 49 61])
 (qq 62
 (.seq
 (.reg 7 none [2] [
 qc 2 false])
 .ret)
 .skip))))
 (.reg 8 none [1,36,37,38] [
 qa 63 38,
 qm 38 63])))))))
 (.seq
 (.seq
 (.reg 9 none [1,65,66,67] [
 qf 64 2 1,
 ql 65 64,
 qn 66 65,
 qi 67 0])
 (.block 2
 (.loop
 (.seq
 (.reg 10 none [1,65,66,67,68] [
 qb 68 .lss 67 66])
 (.seq
 (qq 68
 .skip
 (.exit 2))
 (.seq
 (.block 3
 (.seq
 (.reg 11 none [1,5,6,65,66,67] [
 qm 69 67,
 qx 70 1 65 67,
 ql 71 70,
 qm 5 69,
 qm 6 71])
 (.seq
 (.seq
 (.reg 12 (some [0,1,0,7,15,31,63,127,255,511,1023,2047,511,4607,511,16895,61951,127487,258559,520703,1048575,2097151,4194303]) [1,6,65,66,67,94] [
 qf 72 0 1,
 qL 73 2 72,
 qm 74 6,
 qC 75 kL [.t 73,.t 74],
 .r 76 (.un .not (.t 75)),
 qm 77 76,
 qmf 78 77 5,
 .rf 79 77 (.bin .gtr false (.t 78) (qI 0)),
 qmf 80 77 79,
 qmt 81 80 6,
 .rt 82 80 (.ixL 1 (.t 81) (qI 0)),
 qlt 83 80 82,
 qft 84 80 2 1,
 qlt 85 80 84,
 qmt 86 80 5,
 .rt 87 80 (.bin .sub false (.t 86) (qI 1)),
 .rt 88 80 (.ixL 1 (.t 85) (.t 87)),
 qlt 89 80 88,
 .rt 90 80 (.ixL 1 (.t 89) (qI 0)),
 qlt 91 80 90,
 .rt 92 80 (.bin .leq false (.t 83) (.t 91)),
 .rf 93 77 (.pick (.t 80) (.t 92) (.k (.v (.bool false)))),
 qP 94 77 93])
 (qq 94
 (.seq
 (.reg 13 none [2] [
 qc 2 false])
 .ret)
 .skip))
 (.seq
 (.reg 14 (some [0,1,0,4,12,31,63,127,127,255,1023]) [1,8,65,66,67] [
 qf 96 3 1,
 ql 97 96,
 qm 98 6,
 .r 99 (.ixL 1 (.t 98) (qI 0)),
 ql 100 99,
 qC 101 zj [.t 97,.t 100],
 qm 95 101,
 .r 102 (.ex (.t 95) 0),
 .r 103 (.ex (.t 95) 1),
 qm 7 102,
 qm 8 103])
 (.seq
 (.reg 15 none [1,65,66,67,104] [
 qm 104 8])
 (qq 104
 (.seq
 (.reg 16 none [2] [
 qc 2 false])
 .ret)
 .skip))))))
 (.reg 17 none [1,65,66,67] [
 qa 105 67,
 qm 67 105])))))))
 (.seq
 (.reg 18 none [2] [
 qc 2 true])
 .ret)))))
def qc9:List (Nat×List Nat):=qz yJ
theorem qd0:FnIR Tryz.prog wu 106 qc9 yJ [(.tmp 2)]:=
 qF Tryz.func18
def Qs:RC:=
 (.seq
 (.reg 0 none [1] [
 .r 1 (.box (.t 0)),
 qc 2 false])
 (.seq
 (.seq
 (.reg 1 none [1,30] [
 qf 5 0 1,
 qL 6 2 5,
 qC 7 ym [.t 6],
 qB 8 .neq 7 0,
 qm 9 8,
 qff 10 9 2 1,
 qlf 11 9 10,
 .rf 12 9 (.lenL (.t 11)),
 .rf 13 9 (.bin .gtr false (.t 12) (qI 200)),
 qP 14 9 13,
 qm 15 14,
 qff 16 15 3 1,
 qlf 17 15 16,
 .rf 18 15 (.lenL (.t 17)),
 .rf 19 15 (.bin .gtr false (.t 18) (qI 300)),
 qP 20 15 19,
 qm 21 20,
 qff 22 21 4 1,
 qlf 23 21 22,
 .rf 24 21 (.bin .lss false (.t 23) (qI 0)),
 qP 25 21 24,
 qm 26 25,
 qff 27 26 4 1,
 qlf 28 26 27,
 .rf 29 26 (.bin .gtr false (.t 28) (qI 300)),
 qP 30 26 29])
 (qq 30
 (.seq
 (.reg 2 none [2] [
 qc 2 false])
 .ret)
 .skip))
 (.seq
 (.seq
 (.reg 3 none [1,3] [
 qi 3 0])
 (.block 0
 (.loop
 (.seq
 (.seq
 (.reg 4 none [1,3,35] [
 qm 31 3,
 qf 32 2 1,
 ql 33 32,
 qn 34 33,
 qb 35 .lss 31 34])
 (qq 35
 .skip
 (.exit 0)))
 (.seq
 (.block 1
 (.seq
 (.reg 6 (some [0,1,0,4,0,28,60,127,255,511,1023,2047,4095,8191,16383,8191,65535,131071,262143,524287,8191,1056767,8191,4202495,15736831,32514047,66068479,133177343,268435455,536870911,1073741823]) [1,3,68] [
 qf 38 0 1,
 qL 39 2 38,
 qf 40 2 1,
 ql 41 40,
 qm 42 3,
 qx 43 1 41 42,
 ql 44 43,
 qC 45 Zi [.t 39,.t 44],
 qB 46 .neq 45 0,
 qm 47 46,
 qmf 48 47 3,
 .rf 49 47 (.bin .gtr false (.t 48) (qI 0)),
 qmf 50 47 49,
 qft 51 50 2 1,
 qlt 52 50 51,
 qmt 53 50 3,
 .rt 54 50 (.ixL 1 (.t 52) (.t 53)),
 qlt 55 50 54,
 .rt 56 50 (.ixL 1 (.t 55) (qI 0)),
 qlt 57 50 56,
 qft 58 50 2 1,
 qlt 59 50 58,
 qmt 60 50 3,
 .rt 61 50 (.bin .sub false (.t 60) (qI 1)),
 .rt 62 50 (.ixL 1 (.t 59) (.t 61)),
 qlt 63 50 62,
 .rt 64 50 (.ixL 1 (.t 63) (qI 0)),
 qlt 65 50 64,
 .rt 66 50 (.bin .leq false (.t 57) (.t 65)),
 .rf 67 47 (.pick (.t 50) (.t 66) (.k (.v (.bool false)))),
 qP 68 47 67])
 (qq 68
 (.seq
 (.reg 7 none [2] [
 qc 2 false])
 .ret)
 .skip)))
 (.reg 5 none [1,3] [
 qm 36 3,
 qa 37 36,
 qm 3 37]))))))
 (.seq
 (.seq
 (.reg 8 none [1,4] [
 qi 4 0])
 (.block 2
 (.loop
 (.seq
 (.seq
 (.reg 9 none [1,4,73] [
 qm 69 4,
 qf 70 3 1,
 ql 71 70,
 qn 72 71,
 qb 73 .lss 69 72])
 (qq 73
 .skip
 (.exit 2)))
 (.seq
 (.block 3
 (.seq
 (.reg 11 (some [0,1,0,7,15,31,63,127,255,127,1023,2047,4095,8191,16383,32767,65535,131071,262143,524287,262143,2097151,4194303,262143,8650751,262143,33816575,126091263,260308991,536870911,1073741823,2147483647,4294967295,8589934591,8589934591,25769803775,8589934591,128849018879,266287972351,549755813887,1099511627775,2199023255551]) [1,4,117] [
 qf 76 3 1,
 ql 77 76,
 qm 78 4,
 qx 79 1 77 78,
 ql 80 79,
 qB 81 .lss 80 1,
 qm 82 81,
 qff 83 82 3 1,
 qlf 84 82 83,
 qmf 85 82 4,
 .rf 86 82 (.ixL 1 (.t 84) (.t 85)),
 qlf 87 82 86,
 .rf 88 82 (.bin .gtr false (.t 87) (qI 1048575)),
 qP 89 82 88,
 qm 90 89,
 qmf 91 90 4,
 .rf 92 90 (.bin .gtr false (.t 91) (qI 0)),
 qmf 93 90 92,
 qft 94 93 3 1,
 qlt 95 93 94,
 qmt 96 93 4,
 .rt 97 93 (.ixL 1 (.t 95) (.t 96)),
 qlt 98 93 97,
 qft 99 93 3 1,
 qlt 100 93 99,
 qmt 101 93 4,
 .rt 102 93 (.bin .sub false (.t 101) (qI 1)),
 .rt 103 93 (.ixL 1 (.t 100) (.t 102)),
 qlt 104 93 103,
 .rt 105 93 (.bin .leq false (.t 98) (.t 104)),
 .rf 106 90 (.pick (.t 93) (.t 105) (.k (.v (.bool false)))),
 qP 107 90 106,
 qm 108 107,
 .rf 109 108 (.ld (some 5) (.t 1)),
 qff 110 108 3 1,
 qlf 111 108 110,
 qmf 112 108 4,
 .rf 113 108 (.ixL 1 (.t 111) (.t 112)),
 qlf 114 108 113,
 .rf 115 108 (.call (.k (.clo wC [])) [.t 109,.t 114]),
 .rf 116 108 (.bin .geq false (.t 115) (qI 0)),
 qP 117 108 116])
 (qq 117
 (.seq
 (.reg 12 none [2] [
 qc 2 false])
 .ret)
 .skip)))
 (.reg 10 none [1,4] [
 qm 74 4,
 qa 75 74,
 qm 4 75]))))))
 (.seq
 (.reg 13 none [2] [
 qc 2 true])
 .ret)))))
def qh4:List (Nat×List Nat):=qz Qs
theorem qh5:FnIR Tryz.prog Zg 118 qh4 Qs [(.tmp 2)]:=
 qF Tryz.func19
def Qt:RC:=
 (.seq
 (.reg 0 none [2,3] [
 .r 2 (.box (.t 0)),
 .r 3 (.box (.t 1)),
 qi 4 0])
 (.seq
 (.reg 1 none [4] [
 qf 5 2 2,
 ql 6 5,
 .r 7 (.mf kN [.t 3]),
 qC 8 zU [.t 6,.t 7],
 qm 4 8])
 .ret))
def qh6:List (Nat×List Nat):=qz Qt
theorem qh7:FnIR Tryz.prog yj 9 qh6 Qt [(.tmp 4)]:=
 qF Tryz.func20
def Zp:RC:=
 (.seq
 (.reg 0 none [1,2] [
 .r 2 (.box (.t 0)),
 qi 4 0])
 (.seq
 (.seq
 (.reg 1 none [1,2,5] [
 qi 5 0])
 (.block 0
 (.loop
 (.seq
 (.seq
 (.reg 2 none [1,2,5,10] [
 qm 6 5,
 qf 7 2 2,
 ql 8 7,
 qn 9 8,
 qb 10 .lss 6 9])
 (qq 10
 .skip
 (.exit 0)))
 (.seq
 (.block 1
 (.seq
 (.reg 4 none [1,2,5,30] [
 qf 13 2 2,
 ql 14 13,
 qm 15 5,
 qx 16 1 14 15,
 ql 17 16,
 qn 18 17,
 qB 19 .gtr 18 0,
 qm 20 19,
 qft 21 20 2 2,
 qlt 22 20 21,
 qmt 23 20 5,
 .rt 24 20 (.ixL 1 (.t 22) (.t 23)),
 qlt 25 20 24,
 .rt 26 20 (.ixL 1 (.t 25) (qI 0)),
 qlt 27 20 26,
 qmt 28 20 1,
 .rt 29 20 (.bin .eql false (.t 27) (.t 28)),
 qp 30 20 29])
 (qq 30
 (.seq
 (.reg 5 none [4] [
 qm 31 5,
 qm 4 31])
 .ret)
 .skip)))
 (.reg 3 none [1,2,5] [
 qm 11 5,
 qa 12 11,
 qm 5 12]))))))
 (.seq
 (.reg 6 none [4] [
 .r 4 (.mv (.k (.v (.int .i64 (-1)))))])
 .ret)))
def qq9:List (Nat×List Nat):=qz Zp
theorem qr0:FnIR Tryz.prog wC 32 qq9 Zp [(.tmp 4)]:=
 qF Tryz.func21
def kT:RC:=
 (.seq
 (.reg 0 none [0,3,4] [
 .r 3 (.box (.t 1)),
 .r 4 (.new (.agg [.v (.int .i64 0),.v (.slice none 0 0),.v (.int .i64 0)]))])
 (.seq
 (.reg 1 none [0,3,4,5] [
 qm 6 0,
 qC 7 qA [.t 6,qI 1,qI 4],
 qm 8 0,
 qC 9 qA [.t 8,qI 1,qI 60],
 .r 10 (.build [.v (.int .i64 0),.v (.slice none 0 0),.v (.int .i64 0)] [((0,1),.t 7),((2,1),.t 9)]),
 .r 5 (.new (.agg [.v (.int .i64 0),.v (.slice none 0 0),.v (.int .i64 0)])),
 qs 3 5 10])
 (.seq
 (.seq
 (.reg 2 none [0,3,4,5,18] [
 qf 11 2 3,
 ql 12 11,
 qn 13 12,
 qB 14 .gtr 13 0,
 qm 15 14,
 qmt 16 15 0,
 .rt 17 15 (.call (.k (.clo zb [])) [.t 16,qI 2]),
 qp 18 15 17])
 (qq 18
 (.reg 3 (some [0,1,0,0,8,24,60,127,255,511,1023,2047,4095]) [0,3,4,5] [
 qf 19 2 3,
 ql 20 19,
 qm 21 0,
 qf 22 2 3,
 ql 23 22,
 qn 24 23,
 qC 25 qE [.t 21,.t 24],
 qx 26 1 20 25,
 ql 27 26,
 .r 28 (.ixL 1 (.t 27) (qI 0)),
 ql 29 28,
 qf 30 2 5,
 qs 1 30 29])
 .skip))
 (.seq
 (.seq
 (.reg 4 none [0,3,4,5,33] [
 qf 31 0 5,
 ql 32 31,
 qB 33 .leq 32 2])
 (qq 33
 (.seq
 (.reg 5 none [4,5] [
 qm 34 0,
 qf 35 0 3,
 qL 36 2 35,
 qC 37 zJ [.t 34,.t 36],
 qf 38 1 5,
 qs 1 38 37])
 (.seq
 (.seq
 (.reg 6 none [4,5,41] [
 qf 39 0 5,
 ql 40 39,
 qB 41 .eql 40 2])
 (qq 41
 (.reg 7 none [4,5] [
 qf 42 1 5,
 ql 43 42,
 qf 44 2 5,
 ql 45 44,
 .r 46 (.ixL 1 (.t 43) (qI 0)),
 qs 1 46 45])
 .skip))
 (.reg 8 none [4,5] [
 qf 47 2 5,
 .rn (.st 1 (.t 47) (qI 0))])))
 .skip))
 (.seq
 (.reg 9 none [4] [
 qL 48 3 5,
 qs 3 4 48])
 .ret)))))
def Wf:List (Nat×List Nat):=qz kT
theorem Wg:FnIR Tryz.prog zw 49 Wf kT [(.cell 4 (some 3))]:=
 qF Tryz.func22
def yK:RC:=
 (.seq
 (.reg 0 none [2,3,4] [
 .r 2 (.box (.t 0)),
 .r 3 (.box (.t 1)),
 .r 4 (.new (.agg [.v (.slice none 0 0),.v (.slice none 0 0),.v (.slice none 0 0),.v (.slice none 0 0),.v (.int .i64 0)])),
 qi 5 0])
 (.seq
 (.seq
 (.reg 1 none [2,3,4,15] [
 qL 8 5 2,
 qC 9 wu [.t 8],
 .r 10 (.un .not (.t 9)),
 qm 11 10,
 qff 12 11 4 2,
 qlf 13 11 12,
 .rf 14 11 (.bin .eql false (.t 13) (qI 300)),
 qP 15 11 14])
 (qq 15
 (.seq
 (.reg 2 none [4,5] [
 .r 16 (.build [.v (.slice none 0 0),.v (.slice none 0 0),.v (.slice none 0 0),.v (.slice none 0 0),.v (.int .i64 0)] []),
 qs 5 4 16,
 qi 5 13])
 .ret)
 .skip))
 (.seq
 (.reg 3 (some [0,1,3,0,8,31,0,64,255,0,512,1536,4095,0,16383]) [3,4,6] [
 qf 17 0 2,
 qL 18 2 17,
 qC 19 zO [.t 18],
 qf 20 2 2,
 ql 21 20,
 qC 22 kM [.t 21],
 qf 23 3 2,
 ql 24 23,
 qC 25 qU [.t 24],
 qf 26 4 2,
 ql 27 26,
 qa 28 27,
 .r 29 (.build [.v (.slice none 0 0),.v (.slice none 0 0),.v (.slice none 0 0),.v (.slice none 0 0),.v (.int .i64 0)] [((0,2),.t 19),((2,1),.t 22),((3,1),.t 25),((4,1),.t 28)]),
 .r 6 (.new (.agg [.v (.slice none 0 0),.v (.slice none 0 0),.v (.slice none 0 0),.v (.slice none 0 0),.v (.int .i64 0)])),
 qs 5 6 29])
 (.seq
 (.seq
 (.reg 4 none [4,6,7] [
 qL 30 3 3,
 qC 31 yF [.t 6,.t 30],
 qm 7 31])
 (.seq
 (.reg 5 none [4,6,7,33] [
 qm 32 7,
 qB 33 .neq 32 0])
 (qq 33
 (.seq
 (.reg 6 none [4,5] [
 .r 34 (.build [.v (.slice none 0 0),.v (.slice none 0 0),.v (.slice none 0 0),.v (.slice none 0 0),.v (.int .i64 0)] []),
 qm 35 7,
 qs 5 4 34,
 qm 5 35])
 .ret)
 .skip)))
 (.seq
 (.reg 7 none [4,5] [
 qL 36 5 6,
 qs 5 4 36,
 qi 5 0])
 .ret)))))
def qd1:List (Nat×List Nat):=qz yK
theorem qd2:FnIR Tryz.prog jN 37 qd1 yK [(.cell 4 (some 5)),(.tmp 5)]:=
 qF Tryz.func23
def Qu:RC:=
 (.seq
 (.reg 0 none [2,3,4] [
 .r 2 (.box (.t 0)),
 .r 3 (.box (.t 1)),
 .r 4 (.new (.agg [.v (.slice none 0 0),.v (.slice none 0 0),.v (.slice none 0 0),.v (.slice none 0 0),.v (.int .i64 0)])),
 qi 5 0])
 (.seq
 (.seq
 (.reg 1 none [2,3,4,16] [
 qL 9 5 2,
 qC 10 Zg [.t 9],
 .r 11 (.un .not (.t 10)),
 qm 12 11,
 qff 13 12 4 2,
 qlf 14 12 13,
 .rf 15 12 (.bin .eql false (.t 14) (qI 300)),
 qP 16 12 15])
 (qq 16
 (.seq
 (.reg 2 none [4,5] [
 .r 17 (.build [.v (.slice none 0 0),.v (.slice none 0 0),.v (.slice none 0 0),.v (.slice none 0 0),.v (.int .i64 0)] []),
 qs 5 4 17,
 qi 5 13])
 .ret)
 .skip))
 (.seq
 (.reg 3 none [2,3,4,6] [
 qf 18 0 2,
 qL 19 2 18,
 qf 20 2 2,
 ql 21 20,
 qf 22 3 2,
 ql 23 22,
 qf 24 4 2,
 ql 25 24,
 qa 26 25,
 .r 27 (.build [.v (.slice none 0 0),.v (.slice none 0 0),.v (.slice none 0 0),.v (.slice none 0 0),.v (.int .i64 0)] [((0,2),.t 19),((2,1),.t 21),((3,1),.t 23),((4,1),.t 26)]),
 .r 6 (.new (.agg [.v (.slice none 0 0),.v (.slice none 0 0),.v (.slice none 0 0),.v (.slice none 0 0),.v (.int .i64 0)])),
 qs 5 6 27])
 (.seq
 (.seq
 (.reg 4 none [2,3,4,6,29] [
 qf 28 0 3,
 ql 29 28])
 (.block 0
 (.seq
 (.seq
 (.reg 6 none [2,3,4,6,29,31] [
 qB 32 .eql 29 1,
 qm 31 32])
 (qq 31
 .skip
 (.reg 7 none [2,3,4,6,29,31] [
 qB 33 .eql 29 2,
 qm 31 33])))
 (qq 31
 (.seq
 (.seq
 (.reg 8 none [2,3,4,6,7] [
 qf 34 0 2,
 qL 35 2 34,
 qf 36 1 3,
 ql 37 36,
 qC 38 Zi [.t 35,.t 37],
 qm 7 38])
 (.seq
 (.reg 9 none [2,3,4,6,7,40] [
 qm 39 7,
 qB 40 .neq 39 0])
 (qq 40
 (.seq
 (.reg 10 none [4,5] [
 .r 41 (.build [.v (.slice none 0 0),.v (.slice none 0 0),.v (.slice none 0 0),.v (.slice none 0 0),.v (.int .i64 0)] []),
 qm 42 7,
 qs 5 4 41,
 qm 5 42])
 .ret)
 .skip)))
 (.seq
 (.seq
 (.reg 11 (some [0,1,0,4,12,28,63]) [2,3,4,6,49] [
 qf 43 3 2,
 ql 44 43,
 qf 45 1 3,
 ql 46 45,
 .r 47 (.ixL 1 (.t 46) (qI 0)),
 ql 48 47,
 qC 49 yE [.t 44,.t 48]])
 (qq 49
 (.seq
 (.reg 12 none [4,5] [
 .r 50 (.build [.v (.slice none 0 0),.v (.slice none 0 0),.v (.slice none 0 0),.v (.slice none 0 0),.v (.int .i64 0)] []),
 qs 5 4 50,
 qi 5 20])
 .ret)
 .skip))
 (.seq
 (.reg 13 (some [0,0,2,6,14,31,63,127]) [2,3,4,6,8] [
 qL 51 5 2,
 qf 52 1 3,
 ql 53 52,
 .r 54 (.ixL 1 (.t 53) (qI 0)),
 ql 55 54,
 qC 56 wC [.t 51,.t 55],
 qB 57 .geq 56 0,
 qm 8 57])
 (.seq
 (.seq
 (.reg 14 none [2,3,4,6,8,63] [
 qf 58 0 3,
 ql 59 58,
 qB 60 .eql 59 1,
 qm 61 60,
 qmt 62 61 8,
 qp 63 61 62])
 (qq 63
 (.seq
 (.reg 15 none [4,5] [
 .r 64 (.build [.v (.slice none 0 0),.v (.slice none 0 0),.v (.slice none 0 0),.v (.slice none 0 0),.v (.int .i64 0)] []),
 qs 5 4 64,
 qi 5 10])
 .ret)
 .skip))
 (.seq
 (.seq
 (.reg 16 none [2,3,4,6,8,73] [
 qf 65 0 3,
 ql 66 65,
 qB 67 .eql 66 1,
 qm 68 67,
 qft 69 68 2 2,
 qlt 70 68 69,
 .rt 71 68 (.lenL (.t 70)),
 .rt 72 68 (.bin .eql false (.t 71) (qI 200)),
 qp 73 68 72])
 (qq 73
 (.seq
 (.reg 17 none [4,5] [
 .r 74 (.build [.v (.slice none 0 0),.v (.slice none 0 0),.v (.slice none 0 0),.v (.slice none 0 0),.v (.int .i64 0)] []),
 qs 5 4 74,
 qi 5 1])
 .ret)
 .skip))
 (.seq
 (.seq
 (.reg 18 none [2,3,4,6,81] [
 qf 75 0 3,
 ql 76 75,
 qB 77 .eql 76 2,
 qm 78 77,
 qmt 79 78 8,
 .rt 80 78 (.un .not (.t 79)),
 qp 81 78 80])
 (qq 81
 (.seq
 (.reg 19 none [4,5] [
 .r 82 (.build [.v (.slice none 0 0),.v (.slice none 0 0),.v (.slice none 0 0),.v (.slice none 0 0),.v (.int .i64 0)] []),
 qs 5 4 82,
 qi 5 19])
 .ret)
 .skip))
 (.reg 20 (some [0,1,0,4,12,31,63,127]) [4,6] [
 qf 83 2 2,
 ql 84 83,
 qf 85 1 3,
 ql 86 85,
 .r 87 (.app 1 8 false (qN) (.t 86)),
 qC 88 Zh [.t 84,.t 87],
 qf 89 2 6,
 qs 1 89 88])))))))
 (.seq
 (.reg 21 none [2,3,4,6,29,90] [
 qB 91 .eql 29 3,
 qm 90 91])
 (qq 90
 (.seq
 (.seq
 (.reg 22 none [2,3,4,6,96] [
 qL 92 5 2,
 qf 93 2 3,
 ql 94 93,
 qC 95 wC [.t 92,.t 94],
 qB 96 .lss 95 0])
 (qq 96
 (.seq
 (.reg 23 none [4,5] [
 .r 97 (.build [.v (.slice none 0 0),.v (.slice none 0 0),.v (.slice none 0 0),.v (.slice none 0 0),.v (.int .i64 0)] []),
 qs 5 4 97,
 qi 5 19])
 .ret)
 .skip))
 (.reg 24 none [4,6] [
 qf 98 2 2,
 ql 99 98,
 qf 100 2 3,
 ql 101 100,
 qC 102 Qg [.t 99,.t 101],
 qf 103 2 6,
 qs 1 103 102]))
 (.seq
 (.reg 25 none [2,3,4,6,104] [
 qB 105 .eql 29 4,
 qm 104 105])
 (qq 104
 (.seq
 (.seq
 (.reg 26 none [2,3,4,6,113] [
 qf 106 2 3,
 ql 107 106,
 qB 108 .lss 107 1,
 qm 109 108,
 qff 110 109 2 3,
 qlf 111 109 110,
 .rf 112 109 (.bin .gtr false (.t 111) (qI 1048575)),
 qP 113 109 112])
 (qq 113
 (.seq
 (.reg 27 none [4,5] [
 .r 114 (.build [.v (.slice none 0 0),.v (.slice none 0 0),.v (.slice none 0 0),.v (.slice none 0 0),.v (.int .i64 0)] []),
 qs 5 4 114,
 qi 5 2])
 .ret)
 .skip))
 (.seq
 (.seq
 (.reg 28 none [2,3,4,6,119] [
 qf 115 3 2,
 ql 116 115,
 qf 117 2 3,
 ql 118 117,
 qC 119 yE [.t 116,.t 118]])
 (qq 119
 (.seq
 (.reg 29 none [4,5] [
 .r 120 (.build [.v (.slice none 0 0),.v (.slice none 0 0),.v (.slice none 0 0),.v (.slice none 0 0),.v (.int .i64 0)] []),
 qs 5 4 120,
 qi 5 20])
 .ret)
 .skip))
 (.seq
 (.reg 30 none [2,3,4,6] [
 qf 121 2 2,
 ql 122 121,
 qf 123 2 3,
 ql 124 123,
 qC 125 Qg [.t 122,.t 124],
 qf 126 2 6,
 qs 1 126 125])
 (.reg 31 none [4,6] [
 qf 127 3 2,
 ql 128 127,
 qf 129 2 3,
 ql 130 129,
 qC 131 Kq [.t 128,.t 130],
 qf 132 3 6,
 qs 1 132 131]))))
 (.seq
 (.reg 5 none [4,5] [
 .r 30 (.build [.v (.slice none 0 0),.v (.slice none 0 0),.v (.slice none 0 0),.v (.slice none 0 0),.v (.int .i64 0)] []),
 qs 5 4 30,
 qi 5 4])
 .ret)))))))))
 (.seq
 (.reg 32 none [4,5] [
 qL 133 5 6,
 qs 5 4 133,
 qi 5 0])
 .ret)))))
def qh8:List (Nat×List Nat):=qz Qu
theorem qh9:FnIR Tryz.prog yk 134 qh8 Qu [(.cell 4 (some 5)),(.tmp 5)]:=
 qF Tryz.func24
def wh:RC:=
 (.seq
 (.reg 0 none [0,3] [
 .r 3 (.box (.t 1)),
 .r 4 (.mv (qN))])
 (.seq
 (.reg 1 none [0,3,5] [
 .r 5 (.mv (qN))])
 (.seq
 (.seq
 (.reg 2 none [0,3,5,9,10] [
 qf 7 1 3,
 ql 8 7,
 qn 9 8,
 qi 10 0])
 (.block 0
 (.loop
 (.seq
 (.reg 3 none [0,3,5,9,10,11] [
 qb 11 .lss 10 9])
 (.seq
 (qq 11
 .skip
 (.exit 0))
 (.seq
 (.block 1
 (.seq
 (.reg 4 none [0,3,5,6,9,10] [
 qm 12 10,
 qm 6 12])
 (.reg 5 none [0,3,5,9,10] [
 qm 13 5,
 qm 14 0,
 qL 15 2 3,
 qm 16 6,
 qC 17 kO [.t 14,.t 15,.t 16],
 .r 18 (.bsl 1 1 [.t 17]),
 .r 19 (.app 1 8 false (.t 13) (.t 18)),
 qm 5 19])))
 (.reg 6 none [0,3,5,9,10] [
 qa 20 10,
 qm 10 20])))))))
 (.seq
 (.reg 7 none [4] [
 qm 21 5,
 qm 4 21])
 .ret))))
def WM:List (Nat×List Nat):=qz wh
theorem WN:FnIR Tryz.prog zJ 22 WM wh [(.tmp 4)]:=
 qF Tryz.func25
def Ji:RC:=
 (.seq
 (.reg 0 none [0,1] [
 qc 4 false])
 (.seq
 (.seq
 (.reg 1 none [0,1,5] [
 qi 5 0])
 (.block 0
 (.loop
 (.seq
 (.seq
 (.reg 2 none [0,1,5,9] [
 qm 6 5,
 qm 7 0,
 qn 8 7,
 qb 9 .lss 6 8])
 (qq 9
 .skip
 (.exit 0)))
 (.seq
 (.block 1
 (.seq
 (.reg 4 none [0,1,5,17] [
 qm 12 0,
 qm 13 5,
 qx 14 1 12 13,
 ql 15 14,
 qm 16 1,
 qb 17 .eql 15 16])
 (qq 17
 (.seq
 (.reg 5 none [4] [
 qc 4 true])
 .ret)
 .skip)))
 (.reg 3 none [0,1,5] [
 qm 10 5,
 qa 11 10,
 qm 5 11]))))))
 (.seq
 (.reg 6 none [4] [
 qc 4 false])
 .ret)))
def qC2:List (Nat×List Nat):=qz Ji
theorem qC3:FnIR Tryz.prog yE 18 qC2 Ji [(.tmp 4)]:=
 qF Tryz.func26
def Zq:RC:=
 (.seq
 (.reg 0 none [0,1] [
 qc 4 false])
 (.seq
 (.seq
 (.reg 1 none [0,1,10] [
 qm 6 0,
 qn 7 6,
 qm 8 1,
 qn 9 8,
 qb 10 .neq 7 9])
 (qq 10
 (.seq
 (.reg 2 none [4] [
 qc 4 false])
 .ret)
 .skip))
 (.seq
 (.seq
 (.reg 3 none [0,1,5] [
 qi 5 0])
 (.block 0
 (.loop
 (.seq
 (.seq
 (.reg 4 none [0,1,5,14] [
 qm 11 5,
 qm 12 0,
 qn 13 12,
 qb 14 .lss 11 13])
 (qq 14
 .skip
 (.exit 0)))
 (.seq
 (.block 1
 (.seq
 (.reg 6 (some [0,0,3,7,0,0,48,112,255,511]) [0,1,5,26] [
 qm 17 0,
 qm 18 5,
 qx 19 1 17 18,
 ql 20 19,
 qm 21 1,
 qm 22 5,
 qx 23 1 21 22,
 ql 24 23,
 qC 25 wD [.t 20,.t 24],
 .r 26 (.un .not (.t 25))])
 (qq 26
 (.seq
 (.reg 7 none [4] [
 qc 4 false])
 .ret)
 .skip)))
 (.reg 5 none [0,1,5] [
 qm 15 5,
 qa 16 15,
 qm 5 16]))))))
 (.seq
 (.reg 8 none [4] [
 qc 4 true])
 .ret))))
def qr1:List (Nat×List Nat):=qz Zq
theorem qr2:FnIR Tryz.prog Je 27 qr1 Zq [(.tmp 4)]:=
 qF Tryz.func27
def Zr:RC:=
 (.seq
 (.reg 0 none [0,1] [
 qc 4 false])
 (.seq
 (.seq
 (.reg 1 none [0,1,10] [
 qm 6 0,
 qn 7 6,
 qm 8 1,
 qn 9 8,
 qb 10 .neq 7 9])
 (qq 10
 (.seq
 (.reg 2 none [4] [
 qc 4 false])
 .ret)
 .skip))
 (.seq
 (.seq
 (.reg 3 none [0,1,5] [
 qi 5 0])
 (.block 0
 (.loop
 (.seq
 (.seq
 (.reg 4 none [0,1,5,14] [
 qm 11 5,
 qm 12 0,
 qn 13 12,
 qb 14 .lss 11 13])
 (qq 14
 .skip
 (.exit 0)))
 (.seq
 (.block 1
 (.seq
 (.reg 6 (some [0,0,3,7,0,0,48,112,255]) [0,1,5,25] [
 qm 17 0,
 qm 18 5,
 qx 19 1 17 18,
 ql 20 19,
 qm 21 1,
 qm 22 5,
 qx 23 1 21 22,
 ql 24 23,
 qb 25 .neq 20 24])
 (qq 25
 (.seq
 (.reg 7 none [4] [
 qc 4 false])
 .ret)
 .skip)))
 (.reg 5 none [0,1,5] [
 qm 15 5,
 qa 16 15,
 qm 5 16]))))))
 (.seq
 (.reg 8 none [4] [
 qc 4 true])
 .ret))))
def qr3:List (Nat×List Nat):=qz Zr
theorem qr4:FnIR Tryz.prog wD 26 qr3 Zr [(.tmp 4)]:=
 qF Tryz.func31
def jK:RC:=
 (.seq
 (.reg 0 none [0,2] [
 .r 2 (.new (.agg [.v (.slice none 0 0),.v (.slice none 0 0)]))])
 (.seq
 (.reg 1 none [0,2,3] [
 qm 5 0,
 .r 6 (.call (.k (.clo jA [])) [.t 5,.k (.v (.string ⟨#[111,110,101]⟩))]),
 qm 7 0,
 .r 8 (.call (.k (.clo jA [])) [.t 7,.k (.v (.string ⟨#[116,119,111]⟩))]),
 .r 9 (.bsl 2 2 [.t 6,.t 8]),
 .r 10 (.build [.v (.string ⟨#[]⟩),.v (.int .i64 0),.v (.int .i64 0),.v (.int .i64 0),.v (.int .i64 0),.v (.slice none 0 0),.v (.bool false)] [((0,1),.k (.v (.string ⟨#[119,104,111]⟩))),((1,1),qI 1)]),
 .r 11 (.build [.v (.string ⟨#[]⟩),.v (.int .i64 0),.v (.int .i64 0),.v (.int .i64 0),.v (.int .i64 0),.v (.slice none 0 0),.v (.bool false)] [((0,1),.k (.v (.string ⟨#[115,101,120]⟩))),((1,1),qI 2)]),
 .r 12 (.bsl 7 2 [.t 10,.t 11]),
 .r 13 (.build [.v (.slice none 0 0),.v (.slice none 0 0)] [((0,1),.t 9),((1,1),.t 12)]),
 .r 3 (.new (.agg [.v (.slice none 0 0),.v (.slice none 0 0)])),
 qs 2 3 13])
 (.seq
 (.seq
 (.reg 2 none [0,2,3,15] [
 qm 14 0,
 qC 15 zb [.t 14,qI 2]])
 (qq 15
 (.reg 3 none [0,2,3] [
 qf 16 1 3,
 ql 17 16,
 .r 18 (.build [.v (.string ⟨#[]⟩),.v (.int .i64 0),.v (.int .i64 0),.v (.int .i64 0),.v (.int .i64 0),.v (.slice none 0 0),.v (.bool false)] [((0,1),.k (.v (.string ⟨#[106,111,98]⟩))),((1,1),qI 2),((2,1),qI 1)]),
 .r 19 (.bsl 7 1 [.t 18]),
 .r 20 (.app 7 80 false (.t 17) (.t 19)),
 qf 21 1 3,
 qs 1 21 20])
 .skip))
 (.seq
 (.seq
 (.reg 4 none [0,2,3,4] [
 qm 22 0,
 qC 23 qA [.t 22,qI 1,qI 3],
 qm 4 23])
 (.block 0
 (.loop
 (.seq
 (.seq
 (.reg 5 none [0,2,3,4,25] [
 qm 24 4,
 qB 25 .gtr 24 0])
 (qq 25
 .skip
 (.exit 0)))
 (.seq
 (.block 1
 (.reg 7 (some [0,1,0,0,8,24,56,120,252,508,1023,2047,4095]) [0,2,3,4] [
 qf 28 1 3,
 ql 29 28,
 qm 30 0,
 qf 31 1 3,
 ql 32 31,
 qn 33 32,
 qC 34 jO [.t 33],
 .r 35 (.bin .add false (.k (.v (.string ⟨#[109]⟩))) (.t 34)),
 qC 36 jE [.t 30,.t 35],
 .r 37 (.bsl 7 1 [.t 36]),
 .r 38 (.app 7 80 false (.t 29) (.t 37)),
 qf 39 1 3,
 qs 1 39 38]))
 (.reg 6 none [0,2,3,4] [
 qm 26 4,
 qB 27 .sub 26 1,
 qm 4 27]))))))
 (.seq
 (.reg 8 none [2] [
 qL 40 2 3,
 qs 2 2 40])
 .ret)))))
def JR:List (Nat×List Nat):=qz jK
theorem JS:FnIR Tryz.prog jZ 41 JR jK [(.cell 2 (some 2))]:=
 qF Tryz.func34
def kU:RC:=
 (.seq
 (.reg 0 none [0,1] [
 qi 4 0])
 (.seq
 (.seq
 (.reg 1 (some [0,1,3,7,15,31,63,7,135,391,903,1927,4095,8191]) [0,1,19] [
 qm 6 1,
 qB 7 .lss 6 1,
 qm 8 7,
 qmf 9 8 0,
 .rf 10 8 (.nc (.t 9)),
 qff 11 8 1 10,
 qlf 12 8 11,
 qmf 13 8 0,
 .rf 14 8 (.nc (.t 13)),
 qff 15 8 0 14,
 qlf 16 8 15,
 .rf 17 8 (.lenL (.t 16)),
 .rf 18 8 (.bin .geq false (.t 12) (.t 17)),
 qP 19 8 18])
 (qq 19
 (.seq
 (.reg 2 none [4] [
 qi 4 0])
 .ret)
 .skip))
 (.seq
 (.reg 3 none [0,1] [
 qm 20 0,
 .r 21 (.nc (.t 20)),
 qf 22 1 21,
 ql 23 22,
 qa 24 23,
 .r 25 (.nc (.t 20)),
 qf 26 1 25,
 qs 1 26 24])
 (.seq
 (.reg 4 (some [0,1,3,7,0,16,48,112,240,511,1023,2047,4095]) [0,1,5] [
 qm 27 0,
 .r 28 (.nc (.t 27)),
 qf 29 0 28,
 ql 30 29,
 qm 31 0,
 .r 32 (.nc (.t 31)),
 qf 33 1 32,
 ql 34 33,
 qB 35 .sub 34 1,
 qx 36 1 30 35,
 ql 37 36,
 .r 38 (.cvI .i64 (.t 37)),
 qm 5 38])
 (.seq
 (.seq
 (.reg 5 (some [0,1,3,7,15,31,63,7,135,391,903,1927,4095,8191]) [0,1,5,52] [
 qm 39 1,
 qB 40 .gtr 39 256,
 qm 41 40,
 qmt 42 41 0,
 .rt 43 41 (.nc (.t 42)),
 qft 44 41 1 43,
 qlt 45 41 44,
 qmt 46 41 0,
 .rt 47 41 (.nc (.t 46)),
 qft 48 41 0 47,
 qlt 49 41 48,
 .rt 50 41 (.lenL (.t 49)),
 .rt 51 41 (.bin .lss false (.t 45) (.t 50)),
 qp 52 41 51])
 (qq 52
 (.seq
 (.reg 6 (some [0,1,0,4,12,28,0,64,192,448,1020,2044,4092,8191,16383]) [0,1,5] [
 qm 53 5,
 qB 54 .mul 53 256,
 qm 55 0,
 .r 56 (.nc (.t 55)),
 qf 57 0 56,
 ql 58 57,
 qm 59 0,
 .r 60 (.nc (.t 59)),
 qf 61 1 60,
 ql 62 61,
 qx 63 1 58 62,
 ql 64 63,
 .r 65 (.cvI .i64 (.t 64)),
 qb 66 .add 54 65,
 qm 5 66])
 (.reg 7 none [1,5] [
 qm 67 0,
 .r 68 (.nc (.t 67)),
 qf 69 1 68,
 ql 70 69,
 qa 71 70,
 .r 72 (.nc (.t 67)),
 qf 73 1 72,
 qs 1 73 71]))
 .skip))
 (.seq
 (.reg 8 none [4] [
 qm 74 5,
 qm 75 1,
 qb 76 .rem 74 75,
 qm 4 76])
 .ret))))))
def Wh:List (Nat×List Nat):=qz kU
theorem Wi:FnIR Tryz.prog qE 77 Wh kU [(.tmp 4)]:=
 qF Tryz.func35
def Jj:RC:=
 (.seq
 (.reg 0 none [0,1] [
 .r 4 (.mv (qN))])
 (.seq
 (.reg 1 none [0,1,5] [
 .r 5 (.mv (qN))])
 (.seq
 (.reg 2 none [0,1,5,6] [
 qc 6 false])
 (.seq
 (.seq
 (.reg 3 none [0,1,5,6,7] [
 qi 7 0])
 (.block 0
 (.loop
 (.seq
 (.seq
 (.reg 4 none [0,1,5,6,7,11] [
 qm 8 7,
 qm 9 0,
 qn 10 9,
 qb 11 .lss 8 10])
 (qq 11
 .skip
 (.exit 0)))
 (.seq
 (.block 1
 (.seq
 (.seq
 (.reg 6 (some [0,0,3,7,15,31,0,64,192,511]) [0,1,5,6,7,23] [
 qm 14 0,
 qm 15 7,
 qx 16 1 14 15,
 ql 17 16,
 .r 18 (.ixL 1 (.t 17) (qI 0)),
 ql 19 18,
 qm 20 1,
 .r 21 (.ixL 1 (.t 20) (qI 0)),
 ql 22 21,
 qb 23 .eql 19 22])
 (qq 23
 (.exit 1)
 .skip))
 (.seq
 (.seq
 (.reg 7 (some [0,0,3,7,15,31,0,64,192,511,1023,2047,4095,8191]) [0,1,5,6,7,37] [
 qm 24 0,
 qm 25 7,
 qx 26 1 24 25,
 ql 27 26,
 .r 28 (.ixL 1 (.t 27) (qI 0)),
 ql 29 28,
 qm 30 1,
 .r 31 (.ixL 1 (.t 30) (qI 0)),
 ql 32 31,
 qb 33 .gtr 29 32,
 qm 34 33,
 qmt 35 34 6,
 .rt 36 34 (.un .not (.t 35)),
 qp 37 34 36])
 (qq 37
 (.reg 8 none [0,1,5,6,7] [
 qm 38 5,
 qm 39 1,
 .r 40 (.bsl 1 1 [.t 39]),
 .r 41 (.app 1 24 false (.t 38) (.t 40)),
 qm 5 41,
 qc 6 true])
 .skip))
 (.reg 9 none [0,1,5,6,7] [
 qm 42 5,
 qm 43 0,
 qm 44 7,
 qx 45 1 43 44,
 ql 46 45,
 .r 47 (.bsl 1 1 [.t 46]),
 .r 48 (.app 1 24 false (.t 42) (.t 47)),
 qm 5 48]))))
 (.reg 5 none [0,1,5,6,7] [
 qm 12 7,
 qa 13 12,
 qm 7 13]))))))
 (.seq
 (.seq
 (.reg 10 none [1,5,50] [
 qm 49 6,
 .r 50 (.un .not (.t 49))])
 (qq 50
 (.reg 11 none [5] [
 qm 51 5,
 qm 52 1,
 .r 53 (.bsl 1 1 [.t 52]),
 .r 54 (.app 1 24 false (.t 51) (.t 53)),
 qm 5 54])
 .skip))
 (.seq
 (.reg 12 none [4] [
 qm 55 5,
 qm 4 55])
 .ret))))))
def qC4:List (Nat×List Nat):=qz Jj
theorem qC5:FnIR Tryz.prog Zh 56 qC4 Jj [(.tmp 4)]:=
 qF Tryz.func36
def yL:RC:=
 (.seq
 (.reg 0 none [1] [
 .r 1 (.box (.t 0)),
 qi 2 0])
 (.seq
 (.seq
 (.reg 1 none [1,17] [
 qf 8 0 1,
 ql 9 8,
 qn 10 9,
 qB 11 .gtr 10 6,
 qm 12 11,
 qff 13 12 1 1,
 qlf 14 12 13,
 .rf 15 12 (.lenL (.t 14)),
 .rf 16 12 (.bin .gtr false (.t 15) (qI 8)),
 qP 17 12 16])
 (qq 17
 (.seq
 (.reg 2 none [2] [
 qi 2 1])
 .ret)
 .skip))
 (.seq
 (.seq
 (.reg 3 none [1,19,20,21] [
 qf 18 0 1,
 ql 19 18,
 qn 20 19,
 qi 21 0])
 (.block 0
 (.loop
 (.seq
 (.reg 4 none [1,19,20,21,22] [
 qb 22 .lss 21 20])
 (.seq
 (qq 22
 .skip
 (.exit 0))
 (.seq
 (.block 1
 (.seq
 (.reg 5 none [1,3,4,19,20,21] [
 qm 23 21,
 qx 24 2 19 21,
 qL 25 2 24,
 .r 4 (.new (.agg [.v (.string ⟨#[]⟩),.v (.slice none 0 0)])),
 qm 3 23,
 qs 2 4 25])
 (.seq
 (.seq
 (.reg 6 none [1,3,4,5,19,20,21] [
 qL 26 2 4,
 qC 27 Zj [.t 26],
 qm 5 27])
 (.seq
 (.reg 7 none [1,3,4,5,19,20,21,29] [
 qm 28 5,
 qB 29 .neq 28 0])
 (qq 29
 (.seq
 (.reg 8 none [2] [
 qm 30 5,
 qm 2 30])
 .ret)
 .skip)))
 (.seq
 (.reg 9 none [1,19,20,21,36] [
 qf 31 0 1,
 ql 32 31,
 qm 33 3,
 .r 34 (.slL 2 (.t 32) none (some (.t 33))),
 .r 35 (.mf jT [.t 4]),
 qC 36 zk [.t 34,.t 35]])
 (qq 36
 (.seq
 (.reg 10 none [2] [
 qi 2 10])
 .ret)
 .skip)))))
 (.reg 11 none [1,19,20,21] [
 qa 37 21,
 qm 21 37])))))))
 (.seq
 (.seq
 (.reg 12 none [1,49] [
 qf 38 1 1,
 ql 39 38,
 qn 40 39,
 qB 41 .eql 40 0,
 qm 42 41,
 qff 43 42 1 1,
 qlf 44 42 43,
 .rf 45 42 (.ixL 7 (.t 44) (qI 0)),
 qff 46 42 1 45,
 qlf 47 42 46,
 .rf 48 42 (.bin .neq false (.t 47) (qI 1)),
 qP 49 42 48])
 (qq 49
 (.seq
 (.reg 13 none [2] [
 qi 2 7])
 .ret)
 .skip))
 (.seq
 (.seq
 (.reg 14 none [1,52,53] [
 qf 50 1 1,
 ql 51 50,
 qn 52 51,
 qi 53 0])
 (.block 2
 (.loop
 (.seq
 (.reg 15 none [1,52,53,54] [
 qb 54 .lss 53 52])
 (.seq
 (qq 54
 .skip
 (.exit 2))
 (.seq
 (.block 3
 (.seq
 (.reg 16 none [1,6,52,53] [
 qm 55 53,
 qm 6 55])
 (.seq
 (.reg 17 none [1,7,52,53] [
 qL 56 2 1,
 qm 57 6,
 qC 58 jF [.t 56,.t 57],
 qm 7 58])
 (.seq
 (.reg 18 none [1,7,52,53,60] [
 qm 59 7,
 qB 60 .neq 59 0])
 (qq 60
 (.seq
 (.reg 19 none [2] [
 qm 61 7,
 qm 2 61])
 .ret)
 .skip)))))
 (.reg 20 none [1,52,53] [
 qa 62 53,
 qm 53 62])))))))
 (.seq
 (.reg 21 none [2] [
 qi 2 0])
 .ret))))))
def qd3:List (Nat×List Nat):=qz yL
theorem qd4:FnIR Tryz.prog wv 63 qd3 yL [(.tmp 2)]:=
 qF Tryz.func37
def Qv:RC:=
 (.seq
 (.reg 0 none [1,2] [
 .r 2 (.box (.t 0)),
 qc 4 false])
 (.seq
 (.seq
 (.reg 1 none [1,2,12] [
 qm 7 1,
 qn 8 7,
 qf 9 1 2,
 ql 10 9,
 qn 11 10,
 qb 12 .neq 8 11])
 (qq 12
 (.seq
 (.reg 2 none [4] [
 qc 4 false])
 .ret)
 .skip))
 (.seq
 (.seq
 (.reg 3 none [1,2,14,15,16] [
 qf 13 1 2,
 ql 14 13,
 qn 15 14,
 qi 16 0])
 (.block 0
 (.loop
 (.seq
 (.reg 4 none [1,2,14,15,16,17] [
 qb 17 .lss 16 15])
 (.seq
 (qq 17
 .skip
 (.exit 0))
 (.seq
 (.block 1
 (.seq
 (.reg 5 none [1,2,5,6,14,15,16] [
 qm 18 16,
 qx 19 7 14 16,
 qL 20 7 19,
 .r 6 (.new (.agg [.v (.string ⟨#[]⟩),.v (.int .i64 0),.v (.int .i64 0),.v (.int .i64 0),.v (.int .i64 0),.v (.slice none 0 0),.v (.bool false)])),
 qm 5 18,
 qs 7 6 20])
 (.seq
 (.reg 6 (some [0,0,0,0,12,28,63,127]) [1,2,14,15,16,28] [
 qL 21 2 2,
 qL 22 7 6,
 qm 23 1,
 qm 24 5,
 qx 25 1 23 24,
 ql 26 25,
 qC 27 Zk [.t 21,.t 22,.t 26],
 .r 28 (.un .not (.t 27))])
 (qq 28
 (.seq
 (.reg 7 none [4] [
 qc 4 false])
 .ret)
 .skip))))
 (.reg 8 none [1,2,14,15,16] [
 qa 29 16,
 qm 16 29])))))))
 (.seq
 (.reg 9 none [4] [
 qc 4 true])
 .ret))))
def qi0:List (Nat×List Nat):=qz Qv
theorem qi1:FnIR Tryz.prog kL 30 qi0 Qv [(.tmp 4)]:=
 qF Tryz.func38
def jr:RC:=
 (.seq
 (.reg 0 none [1,2] [
 .r 1 (.box (.t 0)),
 .r 2 (.new (.agg [.v (.slice none 0 0),.v (.slice none 0 0)]))])
 (.seq
 (.reg 1 none [1,2,3] [
 .r 3 (.new (.agg [.v (.slice none 0 0),.v (.slice none 0 0)]))])
 (.seq
 (.seq
 (.reg 2 none [1,2,3,9,10,11] [
 qf 8 0 1,
 ql 9 8,
 qn 10 9,
 qi 11 0])
 (.block 0
 (.loop
 (.seq
 (.reg 3 none [1,2,3,9,10,11,12] [
 qb 12 .lss 11 10])
 (.seq
 (qq 12
 .skip
 (.exit 0))
 (.seq
 (.block 1
 (.seq
 (.reg 4 none [1,2,3,5,9,10,11] [
 qx 13 2 9 11,
 qL 14 2 13,
 .r 5 (.new (.agg [.v (.string ⟨#[]⟩),.v (.slice none 0 0)])),
 qs 2 5 14])
 (.seq
 (.reg 5 none [1,2,3,5,9,10,11] [
 qf 15 1 5,
 ql 16 15,
 qC 17 ka [.t 16],
 qf 18 1 5,
 qs 1 18 17])
 (.reg 6 none [1,2,3,9,10,11] [
 qf 19 0 3,
 ql 20 19,
 qL 21 2 5,
 .r 22 (.bsl 2 1 [.t 21]),
 .r 23 (.app 2 40 false (.t 20) (.t 22)),
 qf 24 0 3,
 qs 1 24 23]))))
 (.reg 7 none [1,2,3,9,10,11] [
 qa 25 11,
 qm 11 25])))))))
 (.seq
 (.seq
 (.reg 8 none [2,3,27,28,29] [
 qf 26 1 1,
 ql 27 26,
 qn 28 27,
 qi 29 0])
 (.block 2
 (.loop
 (.seq
 (.reg 9 none [2,3,27,28,29,30] [
 qb 30 .lss 29 28])
 (.seq
 (qq 30
 .skip
 (.exit 2))
 (.seq
 (.block 3
 (.seq
 (.reg 10 none [2,3,7,27,28,29] [
 qx 31 7 27 29,
 qL 32 7 31,
 .r 7 (.new (.agg [.v (.string ⟨#[]⟩),.v (.int .i64 0),.v (.int .i64 0),.v (.int .i64 0),.v (.int .i64 0),.v (.slice none 0 0),.v (.bool false)])),
 qs 7 7 32])
 (.seq
 (.reg 11 none [2,3,7,27,28,29] [
 qf 33 5 7,
 ql 34 33,
 qC 35 qU [.t 34],
 qf 36 5 7,
 qs 1 36 35])
 (.reg 12 none [2,3,27,28,29] [
 qf 37 1 3,
 ql 38 37,
 qL 39 7 7,
 .r 40 (.bsl 7 1 [.t 39]),
 .r 41 (.app 7 80 false (.t 38) (.t 40)),
 qf 42 1 3,
 qs 1 42 41]))))
 (.reg 13 none [2,3,27,28,29] [
 qa 43 29,
 qm 29 43])))))))
 (.seq
 (.reg 14 none [2] [
 qL 44 2 3,
 qs 2 2 44])
 .ret)))))
def Jk:List (Nat×List Nat):=qz jr
theorem Jl:FnIR Tryz.prog zO 45 Jk jr [(.cell 2 (some 2))]:=
 qF Tryz.func39
def wO:RC:=
 (.seq
 (.reg 0 none [0] [
 .r 2 (.mv (qN))])
 (.seq
 (.reg 1 none [0,3] [
 .r 3 (.mv (qN))])
 (.seq
 (.seq
 (.reg 2 none [3,6,7,8] [
 qm 6 0,
 qn 7 6,
 qi 8 0])
 (.block 0
 (.loop
 (.seq
 (.reg 3 none [3,6,7,8,9] [
 qb 9 .lss 8 7])
 (.seq
 (qq 9
 .skip
 (.exit 0))
 (.seq
 (.block 1
 (.seq
 (.reg 4 none [3,5,6,7,8] [
 qx 10 1 6 8,
 ql 11 10,
 qm 5 11])
 (.reg 5 none [3,6,7,8] [
 qm 12 3,
 qm 13 5,
 qC 14 qU [.t 13],
 .r 15 (.bsl 1 1 [.t 14]),
 .r 16 (.app 1 24 false (.t 12) (.t 15)),
 qm 3 16])))
 (.reg 6 none [3,6,7,8] [
 qa 17 8,
 qm 8 17])))))))
 (.seq
 (.reg 7 none [2] [
 qm 18 3,
 qm 2 18])
 .ret))))
def Ys:List (Nat×List Nat):=qz wO
theorem Yt:FnIR Tryz.prog kM 19 Ys wO [(.tmp 2)]:=
 qF Tryz.func40
def zY:RC:=
 (.seq
 (.reg 0 none [0,1,4] [
 qm 5 0,
 qn 6 5,
 qm 4 6])
 (.reg 1 none [] [
 qm 7 0,
 qm 8 4,
 qm 9 4,
 .r 10 (.cvI .u64 (.t 9)),
 qC 11 yG [.t 10],
 qm 12 1,
 qC 13 qO [.t 7,qI 0,.t 8,.t 11,.t 12]]))
def Zs:List (Nat×List Nat):=qz zY
theorem Zt:FnIR Tryz.prog jd 14 Zs zY []:=
 qF Tryz.func41
def Qw:RC:=
 (.seq
 (.reg 0 none [0,1] [
 qi 4 0])
 (.seq
 (.reg 1 (some [0,1,3,0,8,24,63,127]) [4] [
 qm 5 0,
 .r 6 (.ixL 1 (.t 5) (qI 0)),
 ql 7 6,
 qm 8 1,
 .r 9 (.ixL 1 (.t 8) (qI 0)),
 ql 10 9,
 qb 11 .sub 7 10,
 qm 4 11])
 .ret))
def qi2:List (Nat×List Nat):=qz Qw
theorem qi3:FnIR Tryz.prog yl 12 qi2 Qw [(.tmp 4)]:=
 qF Tryz.func42
def Qx:RC:=
 (.seq
 (.reg 0 none [1] [
 .r 1 (.box (.t 0)),
 qi 2 0])
 (.seq
 (.seq
 (.reg 1 none [1,17] [
 qf 8 0 1,
 ql 9 8,
 qn 10 9,
 qB 11 .gtr 10 6,
 qm 12 11,
 qff 13 12 1 1,
 qlf 14 12 13,
 .rf 15 12 (.lenL (.t 14)),
 .rf 16 12 (.bin .gtr false (.t 15) (qI 8)),
 qP 17 12 16])
 (qq 17
 (.seq
 (.reg 2 none [2] [
 qi 2 1])
 .ret)
 .skip))
 (.seq
 (.seq
 (.reg 3 none [1,3] [
 qi 3 0])
 (.block 0
 (.loop
 (.seq
 (.seq
 (.reg 4 none [1,3,22] [
 qm 18 3,
 qf 19 0 1,
 ql 20 19,
 qn 21 20,
 qb 22 .lss 18 21])
 (qq 22
 .skip
 (.exit 0)))
 (.seq
 (.block 1
 (.seq
 (.seq
 (.reg 6 none [1,3,4] [
 qf 25 0 1,
 ql 26 25,
 qm 27 3,
 qx 28 2 26 27,
 qL 29 2 28,
 qC 30 jB [.t 29],
 qm 4 30])
 (.seq
 (.reg 7 none [1,3,4,32] [
 qm 31 4,
 qB 32 .neq 31 0])
 (qq 32
 (.seq
 (.reg 8 none [2] [
 qm 33 4,
 qm 2 33])
 .ret)
 .skip)))
 (.seq
 (.reg 9 none [1,3,5] [
 qi 5 0])
 (.block 2
 (.loop
 (.seq
 (.seq
 (.reg 10 none [1,3,5,36] [
 qm 34 5,
 qm 35 3,
 qb 36 .lss 34 35])
 (qq 36
 .skip
 (.exit 2)))
 (.seq
 (.block 3
 (.seq
 (.reg 12 (some [0,1,0,7,15,31,0,64,0,448,960,1984,4095]) [1,3,5,51] [
 qf 39 0 1,
 ql 40 39,
 qm 41 5,
 qx 42 2 40 41,
 qf 43 0 42,
 ql 44 43,
 qf 45 0 1,
 ql 46 45,
 qm 47 3,
 qx 48 2 46 47,
 qf 49 0 48,
 ql 50 49,
 qb 51 .eql 44 50])
 (qq 51
 (.seq
 (.reg 13 none [2] [
 qi 2 10])
 .ret)
 .skip)))
 (.reg 11 none [1,3,5] [
 qm 37 5,
 qa 38 37,
 qm 5 38]))))))))
 (.reg 5 none [1,3] [
 qm 23 3,
 qa 24 23,
 qm 3 24]))))))
 (.seq
 (.seq
 (.reg 14 none [1,63] [
 qf 52 1 1,
 ql 53 52,
 qn 54 53,
 qB 55 .eql 54 0,
 qm 56 55,
 qff 57 56 1 1,
 qlf 58 56 57,
 .rf 59 56 (.ixL 7 (.t 58) (qI 0)),
 qff 60 56 1 59,
 qlf 61 56 60,
 .rf 62 56 (.bin .neq false (.t 61) (qI 1)),
 qP 63 56 62])
 (qq 63
 (.seq
 (.reg 15 none [2] [
 qi 2 7])
 .ret)
 .skip))
 (.seq
 (.seq
 (.reg 16 none [1,6] [
 qi 6 0])
 (.block 4
 (.loop
 (.seq
 (.seq
 (.reg 17 none [1,6,68] [
 qm 64 6,
 qf 65 1 1,
 ql 66 65,
 qn 67 66,
 qb 68 .lss 64 67])
 (qq 68
 .skip
 (.exit 4)))
 (.seq
 (.block 5
 (.seq
 (.reg 19 none [1,6,7] [
 qL 71 2 1,
 qm 72 6,
 qC 73 Qm [.t 71,.t 72],
 qm 7 73])
 (.seq
 (.reg 20 none [1,6,7,75] [
 qm 74 7,
 qB 75 .neq 74 0])
 (qq 75
 (.seq
 (.reg 21 none [2] [
 qm 76 7,
 qm 2 76])
 .ret)
 .skip))))
 (.reg 18 none [1,6] [
 qm 69 6,
 qa 70 69,
 qm 6 70]))))))
 (.seq
 (.reg 22 none [2] [
 qi 2 0])
 .ret))))))
def qi4:List (Nat×List Nat):=qz Qx
theorem qi5:FnIR Tryz.prog ym 77 qi4 Qx [(.tmp 2)]:=
 qF Tryz.func43
def Jm:RC:=
 (.seq
 (.reg 0 none [1,2] [
 .r 2 (.box (.t 0)),
 qi 4 0])
 (.seq
 (.seq
 (.reg 1 none [1,2,5] [
 qL 7 2 2,
 qC 8 ym [.t 7],
 qm 5 8])
 (.seq
 (.reg 2 none [1,2,5,10] [
 qm 9 5,
 qB 10 .neq 9 0])
 (qq 10
 (.seq
 (.reg 3 none [4] [
 qm 11 5,
 qm 4 11])
 .ret)
 .skip)))
 (.seq
 (.seq
 (.reg 4 none [1,2,17] [
 qm 12 1,
 qn 13 12,
 qf 14 1 2,
 ql 15 14,
 qn 16 15,
 qb 17 .neq 13 16])
 (qq 17
 (.seq
 (.reg 5 none [4] [
 qi 4 9])
 .ret)
 .skip))
 (.seq
 (.seq
 (.reg 6 none [1,2,6] [
 qi 6 0])
 (.block 0
 (.loop
 (.seq
 (.seq
 (.reg 7 none [1,2,6,21] [
 qm 18 6,
 qm 19 1,
 qn 20 19,
 qb 21 .lss 18 20])
 (qq 21
 .skip
 (.exit 0)))
 (.seq
 (.block 1
 (.seq
 (.reg 9 (some [0,0,0,0,12,28,63,127]) [1,2,6,31] [
 qL 24 2 2,
 qm 25 6,
 qm 26 1,
 qm 27 6,
 qx 28 1 26 27,
 ql 29 28,
 qC 30 Zl [.t 24,.t 25,.t 29],
 .r 31 (.un .not (.t 30))])
 (qq 31
 (.seq
 (.reg 10 none [4] [
 qi 4 9])
 .ret)
 .skip)))
 (.reg 8 none [1,2,6] [
 qm 22 6,
 qa 23 22,
 qm 6 23]))))))
 (.seq
 (.reg 11 none [4] [
 qi 4 0])
 .ret)))))
def qC6:List (Nat×List Nat):=qz Jm
theorem qC7:FnIR Tryz.prog Zi 32 qC6 Jm [(.tmp 4)]:=
 qF Tryz.func44
def Zu:RC:=
 (.seq
 (.reg 0 none [2,3] [
 .r 2 (.box (.t 0)),
 .r 3 (.box (.t 1)),
 qc 4 false])
 (.seq
 (.seq
 (.reg 1 none [2,3,25] [
 qf 10 0 2,
 ql 11 10,
 qn 12 11,
 qf 13 0 3,
 ql 14 13,
 qn 15 14,
 qb 16 .neq 12 15,
 qm 17 16,
 qff 18 17 1 2,
 qlf 19 17 18,
 .rf 20 17 (.lenL (.t 19)),
 qff 21 17 1 3,
 qlf 22 17 21,
 .rf 23 17 (.lenL (.t 22)),
 .rf 24 17 (.bin .neq false (.t 20) (.t 23)),
 qP 25 17 24])
 (qq 25
 (.seq
 (.reg 2 none [4] [
 qc 4 false])
 .ret)
 .skip))
 (.seq
 (.seq
 (.reg 3 none [2,3,5] [
 qi 5 0])
 (.block 0
 (.loop
 (.seq
 (.seq
 (.reg 4 none [2,3,5,30] [
 qm 26 5,
 qf 27 0 2,
 ql 28 27,
 qn 29 28,
 qb 30 .lss 26 29])
 (qq 30
 .skip
 (.exit 0)))
 (.seq
 (.block 1
 (.seq
 (.seq
 (.reg 6 (some [0,1,0,7,15,31,0,64,0,448,960,1984,4095,8191,16383,32767,16383,131071,262143,524287,1048575,16383,2113535,16383,14696447,31473663,65028095,132136959,268435455,536870911]) [2,3,5,62] [
 qf 33 0 2,
 ql 34 33,
 qm 35 5,
 qx 36 2 34 35,
 qf 37 0 36,
 ql 38 37,
 qf 39 0 3,
 ql 40 39,
 qm 41 5,
 qx 42 2 40 41,
 qf 43 0 42,
 ql 44 43,
 qb 45 .neq 38 44,
 qm 46 45,
 qff 47 46 0 2,
 qlf 48 46 47,
 qmf 49 46 5,
 .rf 50 46 (.ixL 2 (.t 48) (.t 49)),
 qff 51 46 1 50,
 qlf 52 46 51,
 .rf 53 46 (.lenL (.t 52)),
 qff 54 46 0 3,
 qlf 55 46 54,
 qmf 56 46 5,
 .rf 57 46 (.ixL 2 (.t 55) (.t 56)),
 qff 58 46 1 57,
 qlf 59 46 58,
 .rf 60 46 (.lenL (.t 59)),
 .rf 61 46 (.bin .neq false (.t 53) (.t 60)),
 qP 62 46 61])
 (qq 62
 (.seq
 (.reg 7 none [4] [
 qc 4 false])
 .ret)
 .skip))
 (.seq
 (.reg 8 none [2,3,5,6] [
 qi 6 0])
 (.block 2
 (.loop
 (.seq
 (.seq
 (.reg 9 none [2,3,5,6,71] [
 qm 63 6,
 qf 64 0 2,
 ql 65 64,
 qm 66 5,
 qx 67 2 65 66,
 qf 68 1 67,
 ql 69 68,
 qn 70 69,
 qb 71 .lss 63 70])
 (qq 71
 .skip
 (.exit 2)))
 (.seq
 (.block 3
 (.seq
 (.reg 11 (some [0,1,0,7,15,31,0,127,255,0,512,0,3584,7680,15872,0,65024,130560,262143]) [2,3,5,6,92] [
 qf 74 0 2,
 ql 75 74,
 qm 76 5,
 qx 77 2 75 76,
 qf 78 1 77,
 ql 79 78,
 qm 80 6,
 qx 81 2 79 80,
 qL 82 2 81,
 qf 83 0 3,
 ql 84 83,
 qm 85 5,
 qx 86 2 84 85,
 qf 87 1 86,
 ql 88 87,
 qm 89 6,
 qx 90 2 88 89,
 qL 91 2 90,
 .r 92 (.ext (.eqS true [.s,.i .i64]) [.t 82,.t 91])])
 (qq 92
 (.seq
 (.reg 12 none [4] [
 qc 4 false])
 .ret)
 .skip)))
 (.reg 10 none [2,3,5,6] [
 qm 72 6,
 qa 73 72,
 qm 6 73]))))))))
 (.reg 5 none [2,3,5] [
 qm 31 5,
 qa 32 31,
 qm 5 32]))))))
 (.seq
 (.seq
 (.reg 13 none [2,3,7] [
 qi 7 0])
 (.block 4
 (.loop
 (.seq
 (.seq
 (.reg 14 none [2,3,7,97] [
 qm 93 7,
 qf 94 1 2,
 ql 95 94,
 qn 96 95,
 qb 97 .lss 93 96])
 (qq 97
 .skip
 (.exit 4)))
 (.seq
 (.block 5
 (.seq
 (.reg 16 (some [0,1,0,7,15,0,32,0,224,480,0,0,3103,8191]) [2,3,7,8,9] [
 qf 100 1 2,
 ql 101 100,
 qm 102 7,
 qx 103 7 101 102,
 qL 104 7 103,
 qf 105 1 3,
 ql 106 105,
 qm 107 7,
 qx 108 7 106 107,
 qL 109 7 108,
 .r 8 (.new (.agg [.v (.string ⟨#[]⟩),.v (.int .i64 0),.v (.int .i64 0),.v (.int .i64 0),.v (.int .i64 0),.v (.slice none 0 0),.v (.bool false)])),
 .r 9 (.new (.agg [.v (.string ⟨#[]⟩),.v (.int .i64 0),.v (.int .i64 0),.v (.int .i64 0),.v (.int .i64 0),.v (.slice none 0 0),.v (.bool false)])),
 qs 7 8 104,
 qs 7 9 109])
 (.seq
 (.reg 17 none [2,3,7,157] [
 qf 110 0 8,
 ql 111 110,
 qf 112 0 9,
 ql 113 112,
 qb 114 .neq 111 113,
 qm 115 114,
 qff 116 115 1 8,
 qlf 117 115 116,
 qff 118 115 1 9,
 qlf 119 115 118,
 .rf 120 115 (.bin .neq false (.t 117) (.t 119)),
 qP 121 115 120,
 qm 122 121,
 qff 123 122 2 8,
 qlf 124 122 123,
 qff 125 122 2 9,
 qlf 126 122 125,
 .rf 127 122 (.bin .neq false (.t 124) (.t 126)),
 qP 128 122 127,
 qm 129 128,
 qff 130 129 3 8,
 qlf 131 129 130,
 qff 132 129 3 9,
 qlf 133 129 132,
 .rf 134 129 (.bin .neq false (.t 131) (.t 133)),
 qP 135 129 134,
 qm 136 135,
 qff 137 136 4 8,
 qlf 138 136 137,
 qff 139 136 4 9,
 qlf 140 136 139,
 .rf 141 136 (.bin .neq false (.t 138) (.t 140)),
 qP 142 136 141,
 qm 143 142,
 qff 144 143 6 8,
 qlf 145 143 144,
 qff 146 143 6 9,
 qlf 147 143 146,
 .rf 148 143 (.bin .neq true (.t 145) (.t 147)),
 qP 149 143 148,
 qm 150 149,
 qff 151 150 5 8,
 qlf 152 150 151,
 qff 153 150 5 9,
 qlf 154 150 153,
 .rf 155 150 (.call (.k (.clo wD [])) [.t 152,.t 154]),
 .rf 156 150 (.un .not (.t 155)),
 qP 157 150 156])
 (qq 157
 (.seq
 (.reg 18 none [4] [
 qc 4 false])
 .ret)
 .skip))))
 (.reg 15 none [2,3,7] [
 qm 98 7,
 qa 99 98,
 qm 7 99]))))))
 (.seq
 (.reg 19 none [4] [
 qc 4 true])
 .ret)))))
def qr5:List (Nat×List Nat):=qz Zu
theorem qr6:FnIR Tryz.prog Jf 158 qr5 Zu [(.tmp 4)]:=
 qF Tryz.func45
def zG:RC:=
 (.seq
 (.reg 0 none [0,1] [
 qi 4 0,
 qc 5 false])
 (.seq
 (.reg 1 none [0,1,6] [
 qm 10 0,
 qn 11 10,
 qm 6 11])
 (.seq
 (.reg 2 none [0,1,6,7,8] [
 qm 12 6,
 qi 7 0,
 qm 8 12])
 (.seq
 (.block 0
 (.loop
 (.seq
 (.seq
 (.reg 3 none [0,1,6,7,8,15] [
 qm 13 7,
 qm 14 8,
 qb 15 .lss 13 14])
 (qq 15
 .skip
 (.exit 0)))
 (.block 1
 (.seq
 (.reg 4 none [0,1,6,7,8,9] [
 qm 16 7,
 qm 17 8,
 qb 18 .add 16 17,
 .r 19 (.cvI .u64 (.t 18)),
 .r 20 (.bin .shr false (.t 19) (.k (.v (.int .u64 1)))),
 .r 21 (.cvI .i64 (.t 20)),
 qm 9 21])
 (.seq
 (.reg 5 none [0,1,6,7,8,9,27] [
 qm 22 0,
 qm 23 9,
 qx 24 1 22 23,
 ql 25 24,
 qm 26 1,
 qC 27 Qn [.t 25,.t 26]])
 (qq 27
 (.reg 6 none [0,1,6,7,8] [
 qm 28 9,
 qa 29 28,
 qm 7 29])
 (.reg 7 none [0,1,6,7,8] [
 qm 30 9,
 qm 8 30]))))))))
 (.seq
 (.reg 8 none [4,5] [
 qm 31 7,
 qm 32 7,
 qm 33 6,
 qb 34 .lss 32 33,
 qm 35 34,
 qmt 36 35 0,
 qmt 37 35 7,
 .rt 38 35 (.ixL 1 (.t 36) (.t 37)),
 qlt 39 35 38,
 qmt 40 35 1,
 .rt 41 35 (.bin .eql false (.t 39) (.t 40)),
 qmt 42 35 41,
 qmf 43 42 0,
 qmf 44 42 7,
 .rf 45 42 (.ixL 1 (.t 43) (.t 44)),
 qlf 46 42 45,
 .rf 47 42 (.call (.k (.clo jk [])) [.t 46]),
 qmf 48 42 47,
 qmt 49 48 1,
 .rt 50 48 (.call (.k (.clo jk [])) [.t 49]),
 .rf 51 42 (.pick (.t 48) (.t 50) (.k (.v (.bool false)))),
 .rt 52 35 (.pick (.t 42) (.k (.v (.bool true))) (.t 51)),
 qp 53 35 52,
 qm 4 31,
 qm 5 53])
 .ret)))))
def yZ:List (Nat×List Nat):=qz zG
theorem Qa:FnIR Tryz.prog zj 54 yZ zG [(.tmp 4),(.tmp 5)]:=
 qF Tryz.func46
def zR:RC:=
 (.seq
 (.reg 0 none [0,1] [
 qi 4 0])
 (.seq
 (.seq
 (.reg 1 none [0,1,7,8] [
 qm 6 0,
 qn 7 6,
 qi 8 0])
 (.block 0
 (.loop
 (.seq
 (.reg 2 none [0,1,7,8,9] [
 qb 9 .lss 8 7])
 (.seq
 (qq 9
 .skip
 (.exit 0))
 (.seq
 (.block 1
 (.seq
 (.reg 3 none [0,1,5,7,8] [
 qm 10 8,
 qm 5 10])
 (.seq
 (.reg 4 none [0,1,5,7,8,16] [
 qm 11 1,
 qm 12 0,
 qm 13 5,
 qx 14 1 12 13,
 ql 15 14,
 .r 16 (.call (.t 11) [.t 15])])
 (qq 16
 (.seq
 (.reg 5 none [4] [
 qm 17 5,
 qm 4 17])
 .ret)
 .skip))))
 (.reg 6 none [0,1,7,8] [
 qa 18 8,
 qm 8 18])))))))
 (.seq
 (.reg 7 none [4] [
 .r 4 (.mv (.k (.v (.int .i64 (-1)))))])
 .ret)))
def QO:List (Nat×List Nat):=qz zR
theorem QP:FnIR Tryz.prog zU 19 QO zR [(.tmp 4)]:=
 qF Tryz.func47
def jV:RC:=
 (.seq
 (.reg 0 none [0,1] [
 qc 3 false])
 (.seq
 (.reg 1 (some [0,1,3,7,15,31,63,15,255,511,1023]) [3] [
 qm 4 0,
 qn 5 4,
 qB 6 .gtr 5 0,
 qm 7 6,
 qmt 8 7 0,
 .rt 9 7 (.ixL 1 (.t 8) (qI 0)),
 qlt 10 7 9,
 qlt 11 7 1,
 .rt 12 7 (.bin .eql false (.t 10) (.t 11)),
 qp 13 7 12,
 qm 3 13])
 .ret))
def Yu:List (Nat×List Nat):=qz jV
theorem ZI:FnIR Tryz.prog kN 14 Yu jV [(.tmp 3)]:=
 qF Tryz.func48
def kg:RC:=
 (.seq
 (.reg 0 none [0,1,2] [
 qi 6 0])
 (.seq
 (.reg 1 none [6] [
 qm 7 1,
 qm 8 0,
 qm 9 2,
 qm 10 1,
 qb 11 .sub 9 10,
 qa 12 11,
 qC 13 qE [.t 8,.t 12],
 qb 14 .add 7 13,
 qm 6 14])
 .ret))
def Kt:List (Nat×List Nat):=qz kg
theorem Ku:FnIR Tryz.prog qA 15 Kt kg [(.tmp 6)]:=
 qF Tryz.func49
def wi:RC:=
 (.seq
 (.reg 0 none [0,1] [
 qc 4 false])
 (.seq
 (.reg 1 none [4] [
 qm 5 0,
 qm 6 1,
 qC 7 qE [.t 5,.t 6],
 qm 8 1,
 qB 9 .sub 8 1,
 qb 10 .eql 7 9,
 qm 4 10])
 .ret))
def WO:List (Nat×List Nat):=qz wi
theorem WQ:FnIR Tryz.prog zb 11 WO wi [(.tmp 4)]:=
 qF Tryz.func50
def zZ:RC:=
 (.seq
 (.reg 0 none [0] [
 .r 2 (.mv (qN))])
 (.seq
 (.seq
 (.reg 1 none [0,4] [
 qm 3 0,
 .r 4 (.ext (.nilq false) [.t 3,qN])])
 (qq 4
 (.seq
 (.reg 2 none [2] [
 .r 2 (.mv (qN))])
 .ret)
 .skip))
 (.seq
 (.reg 3 none [2] [
 .r 5 (.bsl 1 0 []),
 qm 6 0,
 .r 7 (.app 1 8 false (.t 5) (.t 6)),
 qm 2 7])
 .ret)))
def Kv:List (Nat×List Nat):=qz zZ
theorem yM:FnIR Tryz.prog qU 8 Kv zZ [(.tmp 2)]:=
 qF Tryz.func51
def wP:RC:=
 (.seq
 (.reg 0 none [0,3] [
 .r 3 (.box (.t 1)),
 qi 4 0])
 (.seq
 (.reg 1 (some [0,1,3,0,8,31,63,127,127,255,1023]) [0,3,5,6] [
 qm 10 0,
 .r 11 (.nc (.t 10)),
 qL 12 5 11,
 qf 13 2 3,
 ql 14 13,
 qC 15 ww [.t 12,.t 14],
 qm 9 15,
 .r 16 (.ex (.t 9) 0),
 .r 17 (.ex (.t 9) 1),
 qm 5 16,
 qm 6 17])
 (.seq
 (.seq
 (.reg 2 none [0,3,5,6,19] [
 qf 18 0 3,
 ql 19 18])
 (.block 0
 (.seq
 (.seq
 (.reg 4 none [0,3,5,6,19,20] [
 qB 21 .eql 19 1,
 qm 20 21])
 (qq 20
 .skip
 (.reg 5 none [0,3,5,6,19,20] [
 qB 22 .eql 19 2,
 qm 20 22])))
 (qq 20
 (.seq
 (.reg 6 none [4] [
 qm 23 0,
 qf 24 1 3,
 ql 25 24,
 qf 26 0 3,
 ql 27 26,
 qB 28 .eql 27 2,
 qC 29 Jg [.t 23,.t 25,.t 28],
 qm 4 29])
 .ret)
 (.seq
 (.reg 7 none [0,3,5,6,19,30] [
 qB 31 .eql 19 3,
 qm 30 31])
 (qq 30
 (.seq
 (.reg 8 none [0,5,6,33] [
 qm 32 6,
 .r 33 (.un .not (.t 32))])
 (qq 33
 (.seq
 (.reg 9 none [4] [
 qi 4 19])
 .ret)
 .skip))
 (.seq
 (.reg 10 none [0,3,5,6,34] [
 qB 35 .eql 19 4,
 qm 34 35])
 (qq 34
 (.seq
 (.seq
 (.reg 11 none [0,3,5,6,43] [
 qf 36 2 3,
 ql 37 36,
 qB 38 .lss 37 1,
 qm 39 38,
 qff 40 39 2 3,
 qlf 41 39 40,
 .rf 42 39 (.bin .gtr false (.t 41) (qI 1048575)),
 qP 43 39 42])
 (qq 43
 (.seq
 (.reg 12 none [4] [
 qi 4 2])
 .ret)
 .skip))
 (.seq
 (.reg 13 (some [0,1,3,7,0,16,63,127,255,255,511,2047]) [0,3,5,6,7,8] [
 qm 45 0,
 .r 46 (.nc (.t 45)),
 qf 47 3 46,
 ql 48 47,
 qf 49 2 3,
 ql 50 49,
 qC 51 zj [.t 48,.t 50],
 qm 44 51,
 .r 52 (.ex (.t 44) 0),
 .r 53 (.ex (.t 44) 1),
 qm 7 52,
 qm 8 53])
 (.seq
 (.seq
 (.reg 14 none [0,3,5,6,7,54] [
 qm 54 8])
 (qq 54
 (.seq
 (.reg 15 none [4] [
 qi 4 20])
 .ret)
 .skip))
 (.reg 16 (some [0,0,2,6,14,0,0,64,192,510,1023,2047,4095]) [0,5,6] [
 qm 55 0,
 qm 56 0,
 .r 57 (.nc (.t 56)),
 qf 58 3 57,
 ql 59 58,
 qm 60 7,
 qf 61 2 3,
 ql 62 61,
 .r 63 (.bsl 1 1 [.t 62]),
 qC 64 ke [.t 59,.t 60,.t 63],
 .r 65 (.nc (.t 55)),
 qf 66 3 65,
 qs 1 66 64]))))
 (.seq
 (.reg 3 none [4] [
 qi 4 4])
 .ret)))))))))
 (.seq
 (.seq
 (.reg 17 none [0,5,67] [
 qm 67 6])
 (qq 67
 (.reg 18 none [] [
 qm 68 0,
 qm 69 0,
 .r 70 (.nc (.t 69)),
 qf 71 2 70,
 ql 72 71,
 qm 73 5,
 qm 74 5,
 qa 75 74,
 qC 76 jG [.t 72,.t 73,.t 75],
 .r 77 (.nc (.t 68)),
 qf 78 2 77,
 qs 1 78 76])
 .skip))
 (.seq
 (.reg 19 none [4] [
 qi 4 0])
 .ret)))))
def Yv:List (Nat×List Nat):=qz wP
theorem Yw:FnIR Tryz.prog yF 79 Yv wP [(.tmp 4)]:=
 qF Tryz.func52
def Zv:RC:=
 (.seq
 (.reg 0 none [0,1] [
 .r 4 (.mv (qN))])
 (.seq
 (.reg 1 none [0,1,5] [
 .r 5 (.mv (qN))])
 (.seq
 (.seq
 (.reg 2 none [0,1,5,6] [
 qi 6 0])
 (.block 0
 (.loop
 (.seq
 (.seq
 (.reg 3 none [0,1,5,6,10] [
 qm 7 6,
 qm 8 0,
 qn 9 8,
 qb 10 .lss 7 9])
 (qq 10
 .skip
 (.exit 0)))
 (.seq
 (.block 1
 (.seq
 (.reg 5 none [0,1,5,6,20] [
 qm 13 0,
 qm 14 6,
 qx 15 1 13 14,
 ql 16 15,
 .r 17 (.ixL 1 (.t 16) (qI 0)),
 ql 18 17,
 qm 19 1,
 qb 20 .neq 18 19])
 (qq 20
 (.reg 6 none [0,1,5,6] [
 qm 21 5,
 qm 22 0,
 qm 23 6,
 qx 24 1 22 23,
 ql 25 24,
 .r 26 (.bsl 1 1 [.t 25]),
 .r 27 (.app 1 24 false (.t 21) (.t 26)),
 qm 5 27])
 .skip)))
 (.reg 4 none [0,1,5,6] [
 qm 11 6,
 qa 12 11,
 qm 6 12]))))))
 (.seq
 (.reg 7 none [4] [
 qm 28 5,
 qm 4 28])
 .ret))))
def qr7:List (Nat×List Nat):=qz Zv
theorem qr8:FnIR Tryz.prog Qg 29 qr7 Zv [(.tmp 4)]:=
 qF Tryz.func53
def Jn:RC:=
 (.seq
 (.reg 0 none [0,1] [
 .r 4 (.mv (qN))])
 (.seq
 (.seq
 (.reg 1 none [0,1,10] [
 qm 8 0,
 qm 9 1,
 qC 10 yE [.t 8,.t 9]])
 (qq 10
 (.seq
 (.reg 2 none [4] [
 qm 11 0,
 qm 4 11])
 .ret)
 .skip))
 (.seq
 (.reg 3 none [0,1,5] [
 .r 5 (.mv (qN))])
 (.seq
 (.reg 4 none [0,1,5,6] [
 qc 6 false])
 (.seq
 (.seq
 (.reg 5 none [0,1,5,6,7] [
 qi 7 0])
 (.block 0
 (.loop
 (.seq
 (.seq
 (.reg 6 none [0,1,5,6,7,15] [
 qm 12 7,
 qm 13 0,
 qn 14 13,
 qb 15 .lss 12 14])
 (qq 15
 .skip
 (.exit 0)))
 (.seq
 (.block 1
 (.seq
 (.seq
 (.reg 8 none [0,1,5,6,7,27] [
 qm 18 0,
 qm 19 7,
 qx 20 1 18 19,
 ql 21 20,
 qm 22 1,
 qb 23 .gtr 21 22,
 qm 24 23,
 qmt 25 24 6,
 .rt 26 24 (.un .not (.t 25)),
 qp 27 24 26])
 (qq 27
 (.reg 9 none [0,1,5,6,7] [
 qm 28 5,
 qm 29 1,
 .r 30 (.bsl 1 1 [.t 29]),
 .r 31 (.app 1 8 false (.t 28) (.t 30)),
 qm 5 31,
 qc 6 true])
 .skip))
 (.reg 10 none [0,1,5,6,7] [
 qm 32 5,
 qm 33 0,
 qm 34 7,
 qx 35 1 33 34,
 ql 36 35,
 .r 37 (.bsl 1 1 [.t 36]),
 .r 38 (.app 1 8 false (.t 32) (.t 37)),
 qm 5 38])))
 (.reg 7 none [0,1,5,6,7] [
 qm 16 7,
 qa 17 16,
 qm 7 17]))))))
 (.seq
 (.seq
 (.reg 11 none [1,5,40] [
 qm 39 6,
 .r 40 (.un .not (.t 39))])
 (qq 40
 (.reg 12 none [5] [
 qm 41 5,
 qm 42 1,
 .r 43 (.bsl 1 1 [.t 42]),
 .r 44 (.app 1 8 false (.t 41) (.t 43)),
 qm 5 44])
 .skip))
 (.seq
 (.reg 13 none [4] [
 qm 45 5,
 qm 4 45])
 .ret)))))))
def qC8:List (Nat×List Nat):=qz Jn
theorem qC9:FnIR Tryz.prog Kq 46 qC8 Jn [(.tmp 4)]:=
 qF Tryz.func54
def qX:RC:=
 (.seq
 (.reg 0 none [0,2,4] [
 .r 4 (.box (.t 1)),
 qi 6 0])
 (.seq
 (.reg 1 none [0,2,4,7] [
 qf 9 1 4,
 ql 10 9,
 qm 11 2,
 qx 12 7 10 11,
 qL 13 7 12,
 .r 7 (.new (.agg [.v (.string ⟨#[]⟩),.v (.int .i64 0),.v (.int .i64 0),.v (.int .i64 0),.v (.int .i64 0),.v (.slice none 0 0),.v (.bool false)])),
 qs 7 7 13])
 (.seq
 (.seq
 (.reg 2 none [0,2,4,7,15] [
 qf 14 1 7,
 ql 15 14])
 (.block 0
 (.seq
 (.reg 3 none [0,2,4,7,15,16] [
 qB 17 .eql 15 1,
 qm 16 17])
 (qq 16
 (.seq
 (.reg 4 none [6] [
 qm 18 0,
 qC 19 qA [.t 18,qI 1,qI 60],
 qm 6 19])
 .ret)
 (.seq
 (.reg 5 none [0,2,4,7,20] [
 qB 21 .eql 15 2,
 qm 20 21])
 (qq 20
 (.seq
 (.reg 6 none [0,8] [
 qL 22 2 4,
 qm 23 2,
 qC 24 Qo [.t 22,.t 23],
 qm 8 24])
 (.seq
 (.reg 7 none [6] [
 qm 25 8,
 qm 26 0,
 qm 27 8,
 qn 28 27,
 qC 29 qE [.t 26,.t 28],
 qx 30 1 25 29,
 ql 31 30,
 qm 6 31])
 .ret))
 .skip))))))
 (.seq
 (.seq
 (.reg 8 none [0,7,37] [
 qf 32 6 7,
 ql 33 32,
 qm 34 33,
 qmt 35 34 0,
 .rt 36 34 (.call (.k (.clo zb [])) [.t 35,qI 4]),
 qp 37 34 36])
 (qq 37
 (.seq
 (.reg 9 none [6] [
 .r 6 (.mv (.k (.v (.int .i64 (-1099511627776)))))])
 .ret)
 .skip))
 (.seq
 (.reg 10 none [6] [
 qm 38 0,
 qf 39 3 7,
 ql 40 39,
 qf 41 4 7,
 ql 42 41,
 qC 43 qA [.t 38,.t 40,.t 42],
 qm 6 43])
 .ret)))))
def Kw:List (Nat×List Nat):=qz qX
theorem zC:FnIR Tryz.prog kO 44 Kw qX [(.tmp 6)]:=
 qF Tryz.func55
def kV:RC:=
 (.seq
 (.reg 0 none [0,1,4] [
 .r 4 (.new (.agg [.v (.string ⟨#[]⟩),.v (.slice none 0 0)]))])
 (.seq
 (.reg 1 none [0,4,5] [
 qm 10 1,
 .r 11 (.build [.v (.string ⟨#[]⟩),.v (.int .i64 0)] [((0,1),.k (.v (.string ⟨#[116,111,112]⟩))),((1,1),.k (.v (.int .i64 (-1))))]),
 .r 12 (.bsl 2 1 [.t 11]),
 .r 13 (.build [.v (.string ⟨#[]⟩),.v (.slice none 0 0)] [((0,1),.t 10),((1,1),.t 12)]),
 .r 5 (.new (.agg [.v (.string ⟨#[]⟩),.v (.slice none 0 0)])),
 qs 2 5 13])
 (.seq
 (.reg 2 none [0,4,5,6] [
 qm 14 0,
 qC 15 qA [.t 14,qI 1,qI 3],
 qm 6 15])
 (.seq
 (.seq
 (.reg 3 none [0,4,5,6,7] [
 qi 7 0])
 (.block 0
 (.loop
 (.seq
 (.seq
 (.reg 4 none [0,4,5,6,7,18] [
 qm 16 7,
 qm 17 6,
 qb 18 .lss 16 17])
 (qq 18
 .skip
 (.exit 0)))
 (.seq
 (.block 1
 (.reg 6 (some [0,1,0,4,12,28,60,127,255,511]) [0,4,5,6,7] [
 qf 21 1 5,
 ql 22 21,
 qm 23 7,
 qC 24 jO [.t 23],
 .r 25 (.bin .add false (.k (.v (.string ⟨#[107]⟩))) (.t 24)),
 .r 26 (.build [.v (.string ⟨#[]⟩),.v (.int .i64 0)] [((0,1),.t 25)]),
 .r 27 (.bsl 2 1 [.t 26]),
 .r 28 (.app 2 24 false (.t 22) (.t 27)),
 qf 29 1 5,
 qs 1 29 28]))
 (.reg 5 none [0,4,5,6,7] [
 qm 19 7,
 qa 20 19,
 qm 7 20]))))))
 (.seq
 (.seq
 (.reg 7 none [0,4,5,6,31] [
 qm 30 0,
 qC 31 zb [.t 30,qI 2]])
 (qq 31
 (.seq
 (.reg 8 none [4] [
 qL 32 2 5,
 qs 2 4 32])
 .ret)
 .skip))
 (.seq
 (.seq
 (.reg 9 none [0,4,5,6,8] [
 qi 8 0])
 (.block 2
 (.loop
 (.seq
 (.seq
 (.reg 10 none [0,4,5,6,8,35] [
 qm 33 8,
 qm 34 6,
 qb 35 .lss 33 34])
 (qq 35
 .skip
 (.exit 2)))
 (.seq
 (.block 3
 (.seq
 (.reg 12 none [0,4,5,6,8,9] [
 qm 38 0,
 qC 39 qA [.t 38,qI 1,qI 2],
 qm 9 39])
 (.block 4
 (.loop
 (.seq
 (.seq
 (.reg 13 none [0,4,5,6,8,9,41] [
 qm 40 9,
 qB 41 .gtr 40 0])
 (qq 41
 .skip
 (.exit 4)))
 (.seq
 (.block 5
 (.reg 15 (some [0,1,0,4,12,28,60,0,128,508,1020,2047,4095,8191]) [0,4,5,6,8,9] [
 qf 44 1 5,
 ql 45 44,
 qf 46 1 5,
 ql 47 46,
 qn 48 47,
 qC 49 jO [.t 48],
 .r 50 (.bin .add false (.k (.v (.string ⟨#[108]⟩))) (.t 49)),
 qm 51 8,
 .r 52 (.bin .add false (qI 1) (.t 51)),
 .r 53 (.build [.v (.string ⟨#[]⟩),.v (.int .i64 0)] [((0,1),.t 50),((1,1),.t 52)]),
 .r 54 (.bsl 2 1 [.t 53]),
 .r 55 (.app 2 24 false (.t 45) (.t 54)),
 qf 56 1 5,
 qs 1 56 55]))
 (.reg 14 none [0,4,5,6,8,9] [
 qm 42 9,
 qB 43 .sub 42 1,
 qm 9 43])))))))
 (.reg 11 none [0,4,5,6,8] [
 qm 36 8,
 qa 37 36,
 qm 8 37]))))))
 (.seq
 (.reg 16 none [4] [
 qL 57 2 5,
 qs 2 4 57])
 .ret)))))))
def Wj:List (Nat×List Nat):=qz kV
theorem Wk:FnIR Tryz.prog jA 58 Wj kV [(.cell 4 (some 2))]:=
 qF Tryz.func58
def js:RC:=
 (.seq
 (.reg 0 none [0,1,4] [
 .r 4 (.new (.agg [.v (.string ⟨#[]⟩),.v (.int .i64 0),.v (.int .i64 0),.v (.int .i64 0),.v (.int .i64 0),.v (.slice none 0 0),.v (.bool false)]))])
 (.seq
 (.reg 1 (some [0,0,2,0,0,0,0,120,0,262,1022,2046,0,4870,16383,0,65535]) [0,4,5] [
 qm 6 1,
 qm 7 0,
 qC 8 qA [.t 7,.k (.v (.int .i64 (-4))),qI 2],
 .r 9 (.bsl 1 1 [qI 1]),
 .r 10 (.bsl 1 2 [qI 1,qI 5]),
 .r 11 (.bsl 1 3 [qI 1,qI 5,qI 20]),
 .r 12 (.bsl 1 4 [qI 1,qI 2,qI 4,qI 12]),
 .r 13 (.bsl 1 4 [.t 9,.t 10,.t 11,.t 12]),
 qm 14 0,
 qC 15 qE [.t 14,qI 4],
 qx 16 1 13 15,
 ql 17 16,
 qm 18 0,
 qC 19 zb [.t 18,qI 3],
 .r 20 (.build [.v (.string ⟨#[]⟩),.v (.int .i64 0),.v (.int .i64 0),.v (.int .i64 0),.v (.int .i64 0),.v (.slice none 0 0),.v (.bool false)] [((0,1),.t 6),((1,1),qI 3),((3,1),.t 8),((5,1),.t 17),((6,1),.t 19)]),
 .r 5 (.new (.agg [.v (.string ⟨#[]⟩),.v (.int .i64 0),.v (.int .i64 0),.v (.int .i64 0),.v (.int .i64 0),.v (.slice none 0 0),.v (.bool false)])),
 qs 7 5 20])
 (.seq
 (.reg 2 (some [0,1,0,4,15,31,63]) [4,5] [
 qf 21 3 5,
 ql 22 21,
 qm 23 0,
 qC 24 qE [.t 23,qI 45],
 qb 25 .add 22 24,
 qf 26 4 5,
 qs 1 26 25])
 (.seq
 (.reg 3 none [4] [
 qL 27 7 5,
 qs 7 4 27])
 .ret))))
def Jo:List (Nat×List Nat):=qz js
theorem Jp:FnIR Tryz.prog jE 28 Jo js [(.cell 4 (some 7))]:=
 qF Tryz.func59
def yN:RC:=
 (.seq
 (.reg 0 none [0] [
 .r 2 (.mv (.k (.v (.string ⟨#[]⟩))))])
 (.seq
 (.reg 1 none [2] [
 qm 3 0,
 qC 4 zV [.t 3],
 qm 2 4])
 .ret))
def qd5:List (Nat×List Nat):=qz yN
theorem qd6:FnIR Tryz.prog jO 5 qd5 yN [(.tmp 2)]:=
 qF Tryz.func60
def Qy:RC:=
 (.seq
 (.reg 0 none [1] [
 .r 1 (.box (.t 0)),
 qi 2 0])
 (.seq
 (.block 0
 (.seq
 (.reg 1 none [1,10] [
 qf 11 0 1,
 ql 12 11,
 qC 13 wE [.t 12],
 .r 14 (.un .not (.t 13)),
 qm 10 14])
 (qq 10
 (.seq
 (.reg 2 none [2] [
 qi 2 3])
 .ret)
 (.seq
 (.reg 3 none [1,15] [
 qf 16 1 1,
 ql 17 16,
 qn 18 17,
 qB 19 .eql 18 0,
 qm 15 19])
 (qq 15
 (.seq
 (.reg 4 none [2] [
 qi 2 5])
 .ret)
 (.seq
 (.reg 5 none [1,20] [
 qf 21 1 1,
 ql 22 21,
 qn 23 22,
 qB 24 .gtr 23 60,
 qm 20 24])
 (qq 20
 (.seq
 (.reg 6 none [2] [
 qi 2 1])
 .ret)
 .skip)))))))
 (.seq
 (.reg 7 (some [0,0,2,6,14,1,63]) [1,3,4] [
 .r 25 (.ext (.mkm .sb) []),
 qf 26 1 1,
 ql 27 26,
 qn 28 27,
 .r 29 (.mk 1 1 (.v (.bool false)) (.t 28) (.t 28)),
 qm 3 25,
 qm 4 29])
 (.seq
 (.seq
 (.reg 8 none [1,3,4,31,32,33] [
 qf 30 1 1,
 ql 31 30,
 qn 32 31,
 qi 33 0])
 (.block 1
 (.loop
 (.seq
 (.reg 9 none [1,3,4,31,32,33,34] [
 qb 34 .lss 33 32])
 (.seq
 (qq 34
 .skip
 (.exit 1))
 (.seq
 (.block 2
 (.seq
 (.reg 10 none [1,3,4,5,6,31,32,33] [
 qm 35 33,
 qx 36 2 31 33,
 qL 37 2 36,
 .r 6 (.new (.agg [.v (.string ⟨#[]⟩),.v (.int .i64 0)])),
 qm 5 35,
 qs 2 6 37])
 (.seq
 (.block 3
 (.seq
 (.reg 11 none [1,3,4,5,6,31,32,33,38] [
 qf 39 0 6,
 ql 40 39,
 qC 41 wE [.t 40],
 .r 42 (.un .not (.t 41)),
 qm 38 42])
 (qq 38
 (.seq
 (.reg 12 none [2] [
 qi 2 3])
 .ret)
 (.seq
 (.reg 13 none [1,3,4,5,6,31,32,33,43] [
 qm 44 3,
 qf 45 0 6,
 ql 46 45,
 .r 47 (.ext (.mget .sb false) [.t 44,.t 46]),
 qm 43 47])
 (qq 43
 (.seq
 (.reg 14 none [2] [
 qi 2 10])
 .ret)
 (.seq
 (.reg 15 none [1,3,4,5,6,31,32,33,48] [
 qm 49 5,
 qB 50 .eql 49 0,
 qm 51 50,
 qft 52 51 1 6,
 qlt 53 51 52,
 .rt 54 51 (.bin .neq false (.t 53) (.k (.v (.int .i64 (-1))))),
 qp 55 51 54,
 qm 56 55,
 qmf 57 56 5,
 .rf 58 56 (.bin .gtr false (.t 57) (qI 0)),
 qmf 59 56 58,
 qft 60 59 1 6,
 qlt 61 59 60,
 .rt 62 59 (.bin .lss false (.t 61) (qI 0)),
 qmt 63 59 62,
 qff 64 63 1 6,
 qlf 65 63 64,
 qmf 66 63 5,
 .rf 67 63 (.bin .geq false (.t 65) (.t 66)),
 .rt 68 59 (.pick (.t 63) (.k (.v (.bool true))) (.t 67)),
 .rf 69 56 (.pick (.t 59) (.t 68) (.k (.v (.bool false)))),
 qP 70 56 69,
 qm 48 70])
 (qq 48
 (.seq
 (.reg 16 none [2] [
 qi 2 6])
 .ret)
 .skip)))))))
 (.seq
 (.reg 17 none [1,3,4,5,6,31,32,33] [
 qm 71 3,
 qf 72 0 6,
 ql 73 72,
 .rn (.ext (.mput .sb) [.t 71,.t 73,.k (.v (.bool true))])])
 (.seq
 (.reg 18 none [1,3,4,6,31,32,33,75] [
 qm 74 5,
 qB 75 .gtr 74 0])
 (qq 75
 (.reg 19 none [1,3,4,31,32,33] [
 qm 76 4,
 qf 77 1 6,
 ql 78 77,
 qx 79 1 76 78,
 .rn (.st 1 (.t 79) (.k (.v (.bool true))))])
 .skip))))))
 (.reg 20 none [1,3,4,31,32,33] [
 qa 80 33,
 qm 33 80])))))))
 (.seq
 (.reg 21 none [1,4,7] [
 .r 7 (.mv (.k (.v (.int .i64 (-1)))))])
 (.seq
 (.seq
 (.reg 22 none [4,7,82,83,84] [
 qL 81 2 1,
 qC 82 Qp [.t 81],
 qn 83 82,
 qi 84 0])
 (.block 4
 (.loop
 (.seq
 (.reg 23 none [4,7,82,83,84,85] [
 qb 85 .lss 84 83])
 (.seq
 (qq 85
 .skip
 (.exit 4))
 (.seq
 (.block 5
 (.seq
 (.reg 24 none [4,7,8,9,82,83,84] [
 qm 86 84,
 qx 87 1 82 84,
 ql 88 87,
 qm 8 86,
 qm 9 88])
 (.seq
 (.seq
 (.reg 25 none [4,7,9,82,83,84,92] [
 qm 89 4,
 qm 90 8,
 qx 91 1 89 90,
 ql 92 91])
 (qq 92
 (.exit 5)
 .skip))
 (.seq
 (.seq
 (.reg 26 none [4,9,82,83,84,99] [
 qm 93 7,
 qB 94 .geq 93 0,
 qm 95 94,
 qmt 96 95 9,
 qmt 97 95 7,
 .rt 98 95 (.bin .neq false (.t 96) (.t 97)),
 qp 99 95 98])
 (qq 99
 (.seq
 (.reg 27 none [2] [
 qi 2 5])
 .ret)
 .skip))
 (.reg 28 none [4,7,82,83,84] [
 qm 100 9,
 qm 7 100])))))
 (.reg 29 none [4,7,82,83,84] [
 qa 101 84,
 qm 84 101])))))))
 (.seq
 (.reg 30 none [2] [
 qi 2 0])
 .ret)))))))
def qi6:List (Nat×List Nat):=qz Qy
theorem qi7:FnIR Tryz.prog Zj 102 qi6 Qy [(.tmp 2)]:=
 qF Tryz.func61
def zg:RC:=
 (.seq
 (.reg 0 none [0,1] [
 qc 4 false])
 (.seq
 (.reg 1 none [4] [
 qm 5 0,
 qm 6 1,
 qC 7 zA [.t 5,.t 6],
 qB 8 .geq 7 0,
 qm 4 8])
 .ret))
def wj:List (Nat×List Nat):=qz zg
theorem wl:FnIR Tryz.prog zk 9 wj zg [(.tmp 4)]:=
 qF Tryz.func62
def wm:RC:=
 (.seq
 (.reg 0 none [1,2] [
 .r 2 (.box (.t 0)),
 qc 3 false])
 (.seq
 (.reg 1 none [3] [
 qf 4 0 2,
 ql 5 4,
 qf 6 0 1,
 ql 7 6,
 qb 8 .eql 5 7,
 qm 3 8])
 .ret))
def WR:List (Nat×List Nat):=qz wm
theorem WS:FnIR Tryz.prog jT 9 WR wm [(.tmp 3)]:=
 qF Tryz.func63
def jt:RC:=
 (.seq
 (.reg 0 none [1,2] [
 .r 2 (.box (.t 0)),
 qi 4 0])
 (.seq
 (.reg 1 none [1,2,5] [
 qf 7 1 2,
 ql 8 7,
 qm 9 1,
 qx 10 7 8 9,
 qL 11 7 10,
 .r 5 (.new (.agg [.v (.string ⟨#[]⟩),.v (.int .i64 0),.v (.int .i64 0),.v (.int .i64 0),.v (.int .i64 0),.v (.slice none 0 0),.v (.bool false)])),
 qs 7 5 11])
 (.seq
 (.seq
 (.reg 2 none [1,2,5,15] [
 qf 12 0 5,
 ql 13 12,
 qC 14 wE [.t 13],
 .r 15 (.un .not (.t 14))])
 (qq 15
 (.seq
 (.reg 3 none [4] [
 qi 4 3])
 .ret)
 .skip))
 (.seq
 (.seq
 (.reg 4 none [1,2,5,21] [
 qf 16 1 2,
 ql 17 16,
 qm 18 1,
 .r 19 (.slL 7 (.t 17) none (some (.t 18))),
 .r 20 (.mf zE [.t 5]),
 qC 21 zq [.t 19,.t 20]])
 (qq 21
 (.seq
 (.reg 5 none [4] [
 qi 4 10])
 .ret)
 .skip))
 (.seq
 (.seq
 (.reg 6 none [1,2,5,23] [
 qf 22 1 5,
 ql 23 22])
 (.block 0
 (.seq
 (.reg 8 none [1,2,5,23,24] [
 qB 25 .eql 23 1,
 qm 24 25])
 (qq 24
 (.seq
 (.reg 9 none [5,27] [
 qm 26 1,
 qB 27 .gtr 26 0])
 (qq 27
 (.seq
 (.reg 10 none [4] [
 qi 4 4])
 .ret)
 .skip))
 (.seq
 (.reg 11 none [2,5,23,28] [
 qB 29 .eql 23 2,
 qm 28 29])
 (qq 28
 (.seq
 (.reg 12 none [5,40] [
 qf 30 2 5,
 ql 31 30,
 qB 32 .lss 31 0,
 qm 33 32,
 qff 34 33 2 5,
 qlf 35 33 34,
 qff 36 33 0 2,
 qlf 37 33 36,
 .rf 38 33 (.lenL (.t 37)),
 .rf 39 33 (.bin .geq false (.t 35) (.t 38)),
 qP 40 33 39])
 (qq 40
 (.seq
 (.reg 13 none [4] [
 qi 4 5])
 .ret)
 .skip))
 (.seq
 (.reg 14 none [5,41] [
 qB 42 .eql 23 3,
 qm 41 42])
 (qq 41
 (.seq
 (.reg 15 none [5,6] [
 qL 43 7 5,
 qC 44 jp [.t 43],
 qm 6 44])
 (.seq
 (.reg 16 none [5,6,46] [
 qm 45 6,
 qB 46 .neq 45 0])
 (qq 46
 (.seq
 (.reg 17 none [4] [
 qm 47 6,
 qm 4 47])
 .ret)
 .skip)))
 (.seq
 (.reg 7 none [4] [
 qi 4 4])
 .ret)))))))))
 (.seq
 (.seq
 (.reg 18 none [50] [
 qL 48 7 5,
 qC 49 yH [.t 48],
 .r 50 (.un .not (.t 49))])
 (qq 50
 (.seq
 (.reg 19 none [4] [
 qi 4 11])
 .ret)
 .skip))
 (.seq
 (.reg 20 none [4] [
 qi 4 0])
 .ret)))))))
def Jq:List (Nat×List Nat):=qz jt
theorem Jr:FnIR Tryz.prog jF 51 Jq jt [(.tmp 4)]:=
 qF Tryz.func64
def Qz:RC:=
 (.seq
 (.reg 0 none [3,4,5] [
 .r 3 (.box (.t 0)),
 .r 4 (.box (.t 1)),
 .r 5 (.box (.t 2)),
 qc 6 false])
 (.seq
 (.seq
 (.reg 1 none [3,4,5,9] [
 qf 8 1 4,
 ql 9 8])
 (.block 0
 (.seq
 (.reg 2 none [3,4,5,9,10] [
 qB 11 .eql 9 1,
 qm 10 11])
 (qq 10
 (.seq
 (.reg 3 none [6] [
 ql 12 5,
 qB 13 .geq 12 1,
 qm 14 13,
 qlt 15 14 5,
 .rt 16 14 (.bin .leq false (.t 15) (qI 1048575)),
 qp 17 14 16,
 qm 6 17])
 .ret)
 (.seq
 (.reg 4 none [3,4,5,18] [
 qB 19 .eql 9 2,
 qm 18 19])
 (qq 18
 (.seq
 (.reg 5 none [5,7] [
 qf 20 0 3,
 ql 21 20,
 qf 22 2 4,
 ql 23 22,
 qx 24 2 21 23,
 qf 25 1 24,
 ql 26 25,
 qm 7 26])
 (.seq
 (.reg 6 none [6] [
 ql 27 5,
 qB 28 .geq 27 0,
 qm 29 28,
 qlt 30 29 5,
 qmt 31 29 7,
 .rt 32 29 (.lenL (.t 31)),
 .rt 33 29 (.bin .lss false (.t 30) (.t 32)),
 qp 34 29 33,
 qm 35 34,
 qmt 36 35 7,
 .rt 37 35 (.mf kP [.t 5]),
 .rt 38 35 (.call (.k (.clo zF [])) [.t 36,.t 37]),
 .rt 39 35 (.un .not (.t 38)),
 qp 40 35 39,
 qm 6 40])
 .ret))
 .skip))))))
 (.seq
 (.reg 7 none [6] [
 ql 41 5,
 qf 42 3 4,
 ql 43 42,
 qb 44 .geq 41 43,
 qm 45 44,
 qlt 46 45 5,
 qft 47 45 4 4,
 qlt 48 45 47,
 .rt 49 45 (.bin .leq false (.t 46) (.t 48)),
 qp 50 45 49,
 qm 51 50,
 qff 52 51 6 4,
 qlf 53 51 52,
 qmf 54 51 53,
 qlt 55 54 5,
 .rt 56 54 (.bin .eql false (.t 55) (.k (.v (.int .i64 (-1099511627776))))),
 .rf 57 51 (.pick (.t 54) (.t 56) (.k (.v (.bool false)))),
 qP 58 51 57,
 qm 6 58])
 .ret)))
def qi8:List (Nat×List Nat):=qz Qz
theorem qi9:FnIR Tryz.prog Zk 59 qi8 Qz [(.tmp 6)]:=
 qF Tryz.func65
def jL:RC:=
 (.seq
 (.reg 0 none [0] [
 .r 2 (.mv (qN))])
 (.seq
 (.seq
 (.reg 1 none [0,4] [
 qm 3 0,
 .r 4 (.ext (.nilq false) [.t 3,qN])])
 (qq 4
 (.seq
 (.reg 2 none [2] [
 .r 2 (.mv (qN))])
 .ret)
 .skip))
 (.seq
 (.reg 3 none [2] [
 .r 5 (.bsl 2 0 []),
 qm 6 0,
 .r 7 (.app 2 24 false (.t 5) (.t 6)),
 qm 2 7])
 .ret)))
def JT:List (Nat×List Nat):=qz jL
theorem JU:FnIR Tryz.prog ka 8 JT jL [(.tmp 2)]:=
 qF Tryz.func66
def zn:RC:=
 (.seq
 (.reg 0 none [0,1,2,3,4,10] [
 qc 10 true])
 (.seq
 (.reg 1 none [0,1,2,3,4,10,11] [
 qc 11 true])
 (.block 0
 (.loop
 (.block 1
 (.seq
 (.reg 2 none [0,1,2,3,4,10,11,12] [
 qm 21 2,
 qm 22 1,
 qb 23 .sub 21 22,
 qm 12 23])
 (.seq
 (.seq
 (.reg 3 none [0,1,2,3,4,10,11,12,25] [
 qm 24 12,
 qB 25 .leq 24 12])
 (qq 25
 (.seq
 (.reg 4 none [] [
 qm 26 0,
 qm 27 1,
 qm 28 2,
 qm 29 4,
 qC 30 qZ [.t 26,.t 27,.t 28,.t 29]])
 .ret)
 .skip))
 (.seq
 (.seq
 (.reg 5 none [0,1,2,3,4,10,11,12,32] [
 qm 31 3,
 qB 32 .eql 31 0])
 (qq 32
 (.seq
 (.reg 6 none [] [
 qm 33 0,
 qm 34 1,
 qm 35 2,
 qm 36 4,
 qC 37 wM [.t 33,.t 34,.t 35,.t 36]])
 .ret)
 .skip))
 (.seq
 (.seq
 (.reg 7 none [0,1,2,3,4,10,11,12,39] [
 qm 38 10,
 .r 39 (.un .not (.t 38))])
 (qq 39
 (.seq
 (.reg 8 none [0,1,2,3,4,10,11,12] [
 qm 40 0,
 qm 41 1,
 qm 42 2,
 qm 43 4,
 qC 44 kA [.t 40,.t 41,.t 42,.t 43]])
 (.reg 9 none [0,1,2,3,4,10,11,12] [
 qm 45 3,
 qB 46 .sub 45 1,
 qm 3 46]))
 .skip))
 (.seq
 (.reg 10 none [0,1,2,3,4,10,11,12,13,14] [
 qm 48 0,
 qm 49 1,
 qm 50 2,
 qm 51 4,
 qC 52 kY [.t 48,.t 49,.t 50,.t 51],
 qm 47 52,
 .r 53 (.ex (.t 47) 0),
 .r 54 (.ex (.t 47) 1),
 qm 13 53,
 qm 14 54])
 (.seq
 (.seq
 (.reg 11 none [0,1,2,3,4,10,11,12,13,14,56] [
 qm 55 14,
 qB 56 .eql 55 2])
 (qq 56
 (.seq
 (.reg 12 none [0,1,2,3,4,10,11,12,13] [
 qm 57 0,
 qm 58 1,
 qm 59 2,
 qm 60 4,
 qC 61 kQ [.t 57,.t 58,.t 59,.t 60]])
 (.seq
 (.reg 13 none [0,1,2,3,4,10,11,12,13] [
 qm 62 2,
 qB 63 .sub 62 1,
 qm 64 13,
 qm 65 1,
 qb 66 .sub 64 65,
 qb 67 .sub 63 66,
 qm 13 67])
 (.reg 14 none [0,1,2,3,4,10,11,12,13,14] [
 qi 14 1])))
 .skip))
 (.seq
 (.seq
 (.reg 15 none [0,1,2,3,4,10,11,12,13,75] [
 qm 68 10,
 qm 69 68,
 qmt 70 69 11,
 qp 71 69 70,
 qm 72 71,
 qmt 73 72 14,
 .rt 74 72 (.bin .eql false (.t 73) (qI 1)),
 qp 75 72 74])
 (qq 75
 (.seq
 (.reg 16 none [0,1,2,3,4,10,11,12,13,80] [
 qm 76 0,
 qm 77 1,
 qm 78 2,
 qm 79 4,
 qC 80 je [.t 76,.t 77,.t 78,.t 79]])
 (qq 80
 .ret
 .skip))
 .skip))
 (.seq
 (.seq
 (.reg 17 (some [0,1,3,7,7,7,39,119,247,7,7,1543,3591,8191,16383,32767,65535]) [0,1,2,3,4,10,11,12,13,97] [
 qm 81 1,
 qB 82 .gtr 81 0,
 qm 83 82,
 qmt 84 83 4,
 qmt 85 83 0,
 qmt 86 83 1,
 .rt 87 83 (.bin .sub false (.t 86) (qI 1)),
 .rt 88 83 (.ixL 1 (.t 85) (.t 87)),
 qlt 89 83 88,
 qmt 90 83 0,
 qmt 91 83 13,
 .rt 92 83 (.ixL 1 (.t 90) (.t 91)),
 qlt 93 83 92,
 .rt 94 83 (.call (.t 84) [.t 89,.t 93]),
 .rt 95 83 (.bin .lss false (.t 94) (qI 0)),
 .rt 96 83 (.un .not (.t 95)),
 qp 97 83 96])
 (qq 97
 (.seq
 (.reg 18 none [0,2,3,4,10,11,15] [
 qm 98 0,
 qm 99 1,
 qm 100 2,
 qm 101 13,
 qm 102 4,
 qC 103 kf [.t 98,.t 99,.t 100,.t 101,.t 102],
 qm 15 103])
 (.seq
 (.reg 19 none [0,1,2,3,4,10,11] [
 qm 104 15,
 qm 1 104])
 (.exit 1)))
 .skip))
 (.seq
 (.reg 20 none [0,1,2,3,4,12,16,17] [
 qm 106 0,
 qm 107 1,
 qm 108 2,
 qm 109 13,
 qm 110 4,
 qC 111 wF [.t 106,.t 107,.t 108,.t 109,.t 110],
 qm 105 111,
 .r 112 (.ex (.t 105) 0),
 .r 113 (.ex (.t 105) 1),
 qm 16 112,
 qm 17 113])
 (.seq
 (.reg 21 none [0,1,2,3,4,11,12,16] [
 qm 114 17,
 qm 11 114])
 (.seq
 (.reg 22 none [0,1,2,3,4,11,12,16,18,19] [
 qm 115 16,
 qm 116 1,
 qb 117 .sub 115 116,
 qm 118 2,
 qm 119 16,
 qb 120 .sub 118 119,
 qm 18 117,
 qm 19 120])
 (.seq
 (.reg 23 none [0,1,2,3,4,11,16,18,19,20] [
 qm 121 12,
 qB 122 .quo 121 8,
 qm 20 122])
 (.seq
 (.reg 24 none [0,1,2,3,4,11,16,18,19,20,125] [
 qm 123 18,
 qm 124 19,
 qb 125 .lss 123 124])
 (qq 125
 (.seq
 (.reg 25 none [0,1,2,3,4,10,11,16] [
 qm 126 18,
 qm 127 20,
 qb 128 .geq 126 127,
 qm 10 128])
 (.seq
 (.reg 26 none [0,2,3,4,10,11,16] [
 qm 129 0,
 qm 130 1,
 qm 131 16,
 qm 132 3,
 qm 133 4,
 qC 134 qO [.t 129,.t 130,.t 131,.t 132,.t 133]])
 (.reg 27 none [0,1,2,3,4,10,11] [
 qm 135 16,
 qa 136 135,
 qm 1 136])))
 (.seq
 (.reg 28 none [0,1,2,3,4,10,11,16] [
 qm 137 19,
 qm 138 20,
 qb 139 .geq 137 138,
 qm 10 139])
 (.seq
 (.reg 29 none [0,1,3,4,10,11,16] [
 qm 140 0,
 qm 141 16,
 qa 142 141,
 qm 143 2,
 qm 144 3,
 qm 145 4,
 qC 146 qO [.t 140,.t 142,.t 143,.t 144,.t 145]])
 (.reg 30 none [0,1,2,3,4,10,11] [
 qm 147 16,
 qm 2 147]))))))))))))))))))))))
def wQ:List (Nat×List Nat):=qz zn
theorem wR:FnIR Tryz.prog qO 148 wQ zn []:=
 qF Tryz.func67
def wS:RC:=
 (.seq
 (.reg 0 none [0] [
 qi 2 0])
 (.seq
 (.cond (.k (.v (.bool false)))
 (.seq
 (.reg 1 none [2] [
 qm 3 0,
 .r 4 (.cvI .u32 (.t 3)),
 qC 5 WK [.t 4],
 qm 2 5])
 .ret)
 .skip)
 (.seq
 (.reg 2 none [2] [
 qm 6 0,
 qC 7 wg [.t 6],
 qm 2 7])
 .ret)))
def Yx:List (Nat×List Nat):=qz wS
theorem Yy:FnIR Tryz.prog yG 8 Yx wS [(.tmp 2)]:=
 qF Tryz.func68
def QA:RC:=
 (.seq
 (.reg 0 none [1] [
 .r 1 (.box (.t 0)),
 qi 2 0])
 (.seq
 (.seq
 (.reg 1 none [1,11] [
 qf 8 0 1,
 ql 9 8,
 qC 10 wG [.t 9],
 .r 11 (.un .not (.t 10))])
 (qq 11
 (.seq
 (.reg 2 none [2] [
 qi 2 3])
 .ret)
 .skip))
 (.seq
 (.seq
 (.reg 3 none [1,15] [
 qf 12 1 1,
 ql 13 12,
 qn 14 13,
 qB 15 .eql 14 0])
 (qq 15
 (.seq
 (.reg 4 none [2] [
 qi 2 5])
 .ret)
 .skip))
 (.seq
 (.seq
 (.reg 5 none [1,19] [
 qf 16 1 1,
 ql 17 16,
 qn 18 17,
 qB 19 .gtr 18 60])
 (qq 19
 (.seq
 (.reg 6 none [2] [
 qi 2 1])
 .ret)
 .skip))
 (.seq
 (.seq
 (.reg 7 none [1,3] [
 qi 3 0])
 (.block 0
 (.loop
 (.seq
 (.seq
 (.reg 8 none [1,3,24] [
 qm 20 3,
 qf 21 1 1,
 ql 22 21,
 qn 23 22,
 qb 24 .lss 20 23])
 (qq 24
 .skip
 (.exit 0)))
 (.seq
 (.block 1
 (.seq
 (.seq
 (.reg 10 none [1,3,34] [
 qf 27 1 1,
 ql 28 27,
 qm 29 3,
 qx 30 2 28 29,
 qf 31 0 30,
 ql 32 31,
 qC 33 wG [.t 32],
 .r 34 (.un .not (.t 33))])
 (qq 34
 (.seq
 (.reg 11 none [2] [
 qi 2 3])
 .ret)
 .skip))
 (.seq
 (.seq
 (.reg 12 none [1,3,4] [
 qi 4 0])
 (.block 2
 (.loop
 (.seq
 (.seq
 (.reg 13 none [1,3,4,37] [
 qm 35 4,
 qm 36 3,
 qb 37 .lss 35 36])
 (qq 37
 .skip
 (.exit 2)))
 (.seq
 (.block 3
 (.seq
 (.reg 15 (some [0,1,0,7,15,31,0,64,0,448,960,1984,4095]) [1,3,4,52] [
 qf 40 1 1,
 ql 41 40,
 qm 42 4,
 qx 43 2 41 42,
 qf 44 0 43,
 ql 45 44,
 qf 46 1 1,
 ql 47 46,
 qm 48 3,
 qx 49 2 47 48,
 qf 50 0 49,
 ql 51 50,
 qb 52 .eql 45 51])
 (qq 52
 (.seq
 (.reg 16 none [2] [
 qi 2 10])
 .ret)
 .skip)))
 (.reg 14 none [1,3,4] [
 qm 38 4,
 qa 39 38,
 qm 4 39]))))))
 (.seq
 (.reg 17 none [1,3,5] [
 qf 53 1 1,
 ql 54 53,
 qm 55 3,
 qx 56 2 54 55,
 qf 57 1 56,
 ql 58 57,
 qm 5 58])
 (.seq
 (.reg 18 none [1,3,77] [
 qm 59 3,
 qB 60 .eql 59 0,
 qm 61 60,
 qmt 62 61 5,
 .rt 63 61 (.bin .neq false (.t 62) (.k (.v (.int .i64 (-1))))),
 qp 64 61 63,
 qm 65 64,
 qmf 66 65 3,
 .rf 67 65 (.bin .gtr false (.t 66) (qI 0)),
 qmf 68 65 67,
 qmt 69 68 5,
 .rt 70 68 (.bin .lss false (.t 69) (qI 0)),
 qmt 71 68 70,
 qmf 72 71 5,
 qmf 73 71 3,
 .rf 74 71 (.bin .geq false (.t 72) (.t 73)),
 .rt 75 68 (.pick (.t 71) (.k (.v (.bool true))) (.t 74)),
 .rf 76 65 (.pick (.t 68) (.t 75) (.k (.v (.bool false)))),
 qP 77 65 76])
 (qq 77
 (.seq
 (.reg 19 none [2] [
 qi 2 6])
 .ret)
 .skip))))))
 (.reg 9 none [1,3] [
 qm 25 3,
 qa 26 25,
 qm 3 26]))))))
 (.seq
 (.reg 20 none [1,6] [
 .r 6 (.mv (.k (.v (.int .i64 (-1)))))])
 (.seq
 (.seq
 (.reg 21 none [1,6,7] [
 qi 7 0])
 (.block 4
 (.loop
 (.seq
 (.seq
 (.reg 22 none [1,6,7,82] [
 qm 78 7,
 qf 79 1 1,
 ql 80 79,
 qn 81 80,
 qb 82 .lss 78 81])
 (qq 82
 .skip
 (.exit 4)))
 (.seq
 (.block 5
 (.seq
 (.reg 24 none [1,6,7,87] [
 qL 85 2 1,
 qm 86 7,
 qC 87 Jh [.t 85,.t 86]])
 (qq 87
 (.seq
 (.seq
 (.reg 25 none [1,7,96] [
 qm 88 6,
 qB 89 .geq 88 0,
 qm 90 89,
 .rt 91 90 (.ld (some 2) (.t 1)),
 qmt 92 90 7,
 .rt 93 90 (.call (.k (.clo zW [])) [.t 91,.t 92]),
 qmt 94 90 6,
 .rt 95 90 (.bin .neq false (.t 93) (.t 94)),
 qp 96 90 95])
 (qq 96
 (.seq
 (.reg 26 none [2] [
 qi 2 5])
 .ret)
 .skip))
 (.reg 27 none [1,6,7] [
 qL 97 2 1,
 qm 98 7,
 qC 99 zW [.t 97,.t 98],
 qm 6 99]))
 .skip)))
 (.reg 23 none [1,6,7] [
 qm 83 7,
 qa 84 83,
 qm 7 84]))))))
 (.seq
 (.reg 28 none [2] [
 qi 2 0])
 .ret))))))))
def qj0:List (Nat×List Nat):=qz QA
theorem qj1:FnIR Tryz.prog jB 100 qj0 QA [(.tmp 2)]:=
 qF Tryz.func69
def yO:RC:=
 (.seq
 (.reg 0 none [1,2] [
 .r 2 (.box (.t 0)),
 qi 4 0])
 (.seq
 (.reg 1 none [1,2,5] [
 qf 8 1 2,
 ql 9 8,
 qm 10 1,
 qx 11 7 9 10,
 qL 12 7 11,
 .r 5 (.new (.agg [.v (.string ⟨#[]⟩),.v (.int .i64 0),.v (.int .i64 0),.v (.int .i64 0),.v (.int .i64 0),.v (.slice none 0 0),.v (.bool false)])),
 qs 7 5 12])
 (.seq
 (.seq
 (.reg 2 none [1,2,5,16] [
 qf 13 0 5,
 ql 14 13,
 qC 15 wG [.t 14],
 .r 16 (.un .not (.t 15))])
 (qq 16
 (.seq
 (.reg 3 none [4] [
 qi 4 3])
 .ret)
 .skip))
 (.seq
 (.seq
 (.reg 4 none [1,2,5,6] [
 qi 6 0])
 (.block 0
 (.loop
 (.seq
 (.seq
 (.reg 5 none [1,2,5,6,19] [
 qm 17 6,
 qm 18 1,
 qb 19 .lss 17 18])
 (qq 19
 .skip
 (.exit 0)))
 (.seq
 (.block 1
 (.seq
 (.reg 7 (some [0,1,0,7,15,31,0,64,255]) [1,2,5,6,30] [
 qf 22 1 2,
 ql 23 22,
 qm 24 6,
 qx 25 7 23 24,
 qf 26 0 25,
 ql 27 26,
 qf 28 0 5,
 ql 29 28,
 qb 30 .eql 27 29])
 (qq 30
 (.seq
 (.reg 8 none [4] [
 qi 4 10])
 .ret)
 .skip)))
 (.reg 6 none [1,2,5,6] [
 qm 20 6,
 qa 21 20,
 qm 6 21]))))))
 (.seq
 (.seq
 (.reg 9 none [2,5,43] [
 qf 31 1 5,
 ql 32 31,
 qC 33 jC [.t 32,qI 1,qI 3],
 .r 34 (.un .not (.t 33)),
 qm 35 34,
 qmf 36 35 1,
 .rf 37 35 (.bin .gtr false (.t 36) (qI 0)),
 qmf 38 35 37,
 qft 39 38 1 5,
 qlt 40 38 39,
 .rt 41 38 (.bin .eql false (.t 40) (qI 1)),
 .rf 42 35 (.pick (.t 38) (.t 41) (.k (.v (.bool false)))),
 qP 43 35 42])
 (qq 43
 (.seq
 (.reg 10 none [4] [
 qi 4 4])
 .ret)
 .skip))
 (.seq
 (.seq
 (.reg 11 none [5,56] [
 qf 44 1 5,
 ql 45 44,
 qB 46 .eql 45 2,
 qm 47 46,
 qft 48 47 2 5,
 qlt 49 47 48,
 qft 50 47 0 2,
 qlt 51 47 50,
 .rt 52 47 (.lenL (.t 51)),
 .rt 53 47 (.bin .sub false (.t 52) (qI 1)),
 .rt 54 47 (.call (.k (.clo jC [])) [.t 49,qI 0,.t 53]),
 .rt 55 47 (.un .not (.t 54)),
 qp 56 47 55])
 (qq 56
 (.seq
 (.reg 12 none [4] [
 qi 4 5])
 .ret)
 .skip))
 (.seq
 (.seq
 (.reg 13 none [5,59] [
 qf 57 1 5,
 ql 58 57,
 qB 59 .eql 58 3])
 (qq 59
 (.seq
 (.reg 14 none [5,7] [
 qL 60 7 5,
 qC 61 yI [.t 60],
 qm 7 61])
 (.seq
 (.reg 15 none [5,7,63] [
 qm 62 7,
 qB 63 .neq 62 0])
 (qq 63
 (.seq
 (.reg 16 none [4] [
 qm 64 7,
 qm 4 64])
 .ret)
 .skip)))
 .skip))
 (.seq
 (.seq
 (.reg 17 none [97] [
 qf 65 1 5,
 ql 66 65,
 qB 67 .neq 66 2,
 qm 68 67,
 qft 69 68 2 5,
 qlt 70 68 69,
 .rt 71 68 (.bin .neq false (.t 70) (qI 0)),
 qp 72 68 71,
 qm 73 72,
 qff 74 73 1 5,
 qlf 75 73 74,
 .rf 76 73 (.bin .neq false (.t 75) (qI 3)),
 qmf 77 73 76,
 qft 78 77 3 5,
 qlt 79 77 78,
 .rt 80 77 (.bin .neq false (.t 79) (qI 0)),
 qmt 81 77 80,
 qff 82 81 4 5,
 qlf 83 81 82,
 .rf 84 81 (.bin .neq false (.t 83) (qI 0)),
 .rt 85 77 (.pick (.t 81) (.k (.v (.bool true))) (.t 84)),
 qmt 86 77 85,
 qff 87 86 5 5,
 qlf 88 86 87,
 .rf 89 86 (.lenL (.t 88)),
 .rf 90 86 (.bin .gtr false (.t 89) (qI 0)),
 .rt 91 77 (.pick (.t 86) (.k (.v (.bool true))) (.t 90)),
 qmt 92 77 91,
 qff 93 92 6 5,
 qlf 94 92 93,
 .rt 95 77 (.pick (.t 92) (.k (.v (.bool true))) (.t 94)),
 .rf 96 73 (.pick (.t 77) (.t 95) (.k (.v (.bool false)))),
 qP 97 73 96])
 (qq 97
 (.seq
 (.reg 18 none [4] [
 qi 4 11])
 .ret)
 .skip))
 (.seq
 (.reg 19 none [4] [
 qi 4 0])
 .ret)))))))))
def qd7:List (Nat×List Nat):=qz yO
theorem qd8:FnIR Tryz.prog Qm 98 qd7 yO [(.tmp 4)]:=
 qF Tryz.func70
def QB:RC:=
 (.seq
 (.reg 0 none [1,2,3] [
 .r 3 (.box (.t 0)),
 qc 6 false])
 (.seq
 (.reg 1 none [2,3,7] [
 qf 9 1 3,
 ql 10 9,
 qm 11 1,
 qx 12 7 10 11,
 qL 13 7 12,
 .r 7 (.new (.agg [.v (.string ⟨#[]⟩),.v (.int .i64 0),.v (.int .i64 0),.v (.int .i64 0),.v (.int .i64 0),.v (.slice none 0 0),.v (.bool false)])),
 qs 7 7 13])
 (.seq
 (.seq
 (.reg 2 none [2,3,7,15] [
 qf 14 1 7,
 ql 15 14])
 (.block 0
 (.seq
 (.reg 3 none [2,3,7,15,16] [
 qB 17 .eql 15 1,
 qm 16 17])
 (qq 16
 (.seq
 (.reg 4 none [6] [
 qm 18 2,
 qC 19 jC [.t 18,qI 1,qI 1048575],
 qm 6 19])
 .ret)
 (.seq
 (.reg 5 none [2,3,7,20] [
 qB 21 .eql 15 2,
 qm 20 21])
 (qq 20
 (.seq
 (.reg 6 none [2,8] [
 qf 22 0 3,
 ql 23 22,
 qf 24 2 7,
 ql 25 24,
 qx 26 2 23 25,
 qL 27 2 26,
 .r 8 (.new (.agg [.v (.string ⟨#[]⟩),.v (.slice none 0 0)])),
 qs 2 8 27])
 (.seq
 (.reg 7 (some [0,0,2,6,14,31,63,127,127,511,127,2047,4095,8191,16383,32767]) [6] [
 qm 28 2,
 qf 29 1 8,
 ql 30 29,
 qn 31 30,
 qB 32 .sub 31 1,
 qC 33 jC [.t 28,qI 0,.t 32],
 qm 34 33,
 .rt 35 34 (.ld (some 2) (.t 8)),
 qmt 36 34 2,
 .rt 37 34 (.call (.k (.clo Zm [])) [.t 35,.t 36]),
 .rt 38 34 (.ld (some 2) (.t 8)),
 .rt 39 34 (.call (.k (.clo wx [])) [.t 38]),
 .rt 40 34 (.bin .sub false (.t 39) (qI 1)),
 .rt 41 34 (.bin .eql false (.t 37) (.t 40)),
 qp 42 34 41,
 qm 6 42])
 .ret))
 .skip))))))
 (.seq
 (.reg 8 none [6] [
 qf 43 6 7,
 ql 44 43,
 qm 45 44,
 qmt 46 45 2,
 .rt 47 45 (.bin .eql false (.t 46) (.k (.v (.int .i64 (-1099511627776))))),
 qp 48 45 47,
 qm 49 48,
 qmf 50 49 2,
 qff 51 49 3 7,
 qlf 52 49 51,
 qff 53 49 4 7,
 qlf 54 49 53,
 .rf 55 49 (.call (.k (.clo jC [])) [.t 50,.t 52,.t 54]),
 qP 56 49 55,
 qm 6 56])
 .ret))))
def qj2:List (Nat×List Nat):=qz QB
theorem qj3:FnIR Tryz.prog Zl 57 qj2 QB [(.tmp 6)]:=
 qF Tryz.func71
def yP:RC:=
 (.seq
 (.reg 0 none [0,1] [
 qc 4 false])
 (.seq
 (.reg 1 none [4] [
 qm 5 0,
 qC 6 kR [.t 5],
 qm 7 6,
 qmt 8 7 1,
 .rt 9 7 (.call (.k (.clo kR [])) [.t 8]),
 .rt 10 7 (.un .not (.t 9)),
 qp 11 7 10,
 qm 12 11,
 qmf 13 12 0,
 qmf 14 12 1,
 .rf 15 12 (.bin .lss false (.t 13) (.t 14)),
 qP 16 12 15,
 qm 4 16])
 .ret))
def qd9:List (Nat×List Nat):=qz yP
theorem qe0:FnIR Tryz.prog Qn 17 qd9 yP [(.tmp 4)]:=
 qF Tryz.func72
def kh:RC:=
 (.seq
 (.reg 0 none [0] [
 qc 2 false])
 (.seq
 (.reg 1 none [2] [
 qm 3 0,
 qm 4 0,
 qb 5 .neq 3 4,
 qm 2 5])
 .ret))
def Kx:List (Nat×List Nat):=qz kh
theorem Ky:FnIR Tryz.prog jk 6 Kx kh [(.tmp 2)]:=
 qF Tryz.func73
def yQ:RC:=
 (.seq
 (.reg 0 none [1,2] [
 .r 2 (.box (.t 0)),
 qi 4 0,
 qc 5 false])
 (.seq
 (.reg 1 none [4,5] [
 qf 6 2 2,
 ql 7 6,
 qm 8 1,
 .r 9 (.call (.k (.clo qR [])) [.t 7,.t 8,.k (.clo jU [])]),
 .r 10 (.ex (.t 9) 0),
 .r 11 (.ex (.t 9) 1),
 qm 4 10,
 qm 5 11])
 .ret))
def qe1:List (Nat×List Nat):=qz yQ
theorem qe2:FnIR Tryz.prog ww 12 qe1 yQ [(.tmp 4),(.tmp 5)]:=
 qF Tryz.func74
def Zw:RC:=
 (.seq
 (.reg 0 none [0,1,2] [
 qi 6 0])
 (.seq
 (.seq
 (.reg 1 none [0,1,2,15] [
 qm 9 0,
 .r 10 (.nc (.t 9)),
 qf 11 0 10,
 qL 12 2 11,
 qm 13 1,
 qC 14 kL [.t 12,.t 13],
 .r 15 (.un .not (.t 14))])
 (qq 15
 (.seq
 (.reg 2 none [6] [
 qi 6 9])
 .ret)
 .skip))
 (.seq
 (.seq
 (.reg 3 (some [0,1,3,7,0,16,48,127]) [0,1,2,23] [
 qm 16 0,
 .r 17 (.nc (.t 16)),
 qf 18 3 17,
 ql 19 18,
 qm 20 1,
 .r 21 (.ixL 1 (.t 20) (qI 0)),
 ql 22 21,
 qC 23 jq [.t 19,.t 22]])
 (qq 23
 (.seq
 (.reg 4 none [6] [
 qi 6 20])
 .ret)
 .skip))
 (.seq
 (.reg 5 (some [0,1,3,0,8,24,63,127,255,255,511,2047]) [0,1,2,7,8] [
 qm 25 0,
 .r 26 (.nc (.t 25)),
 qL 27 5 26,
 qm 28 1,
 .r 29 (.ixL 1 (.t 28) (qI 0)),
 ql 30 29,
 qC 31 ww [.t 27,.t 30],
 qm 24 31,
 .r 32 (.ex (.t 24) 0),
 .r 33 (.ex (.t 24) 1),
 qm 7 32,
 qm 8 33])
 (.seq
 (.block 0
 (.seq
 (.reg 7 none [0,1,2,7,8,46] [
 qm 47 2,
 qm 48 47,
 qmt 49 48 8,
 .rt 50 48 (.un .not (.t 49)),
 qp 51 48 50,
 qm 46 51])
 (qq 46
 (.seq
 (.reg 8 none [6] [
 qi 6 19])
 .ret)
 (.seq
 (.reg 9 none [0,1,7,8,52] [
 qm 53 2,
 qm 52 53])
 (qq 52
 (.reg 10 (some [0,1,3,7,0,0,32,127,255]) [] [
 qm 54 0,
 .r 55 (.nc (.t 54)),
 qf 56 2 55,
 ql 57 56,
 qm 58 7,
 qm 59 1,
 qC 60 qU [.t 59],
 qx 61 1 57 58,
 qs 1 61 60])
 (.seq
 (.reg 11 none [0,1,7,62] [
 qm 63 8,
 qm 62 63])
 (qq 62
 (.seq
 (.reg 12 none [6] [
 qi 6 10])
 .ret)
 (.seq
 (.reg 13 none [0,1,7,64] [
 qm 65 0,
 .r 66 (.nc (.t 65)),
 qf 67 2 66,
 ql 68 67,
 qn 69 68,
 qB 70 .eql 69 200,
 qm 64 70])
 (qq 64
 (.seq
 (.reg 14 none [6] [
 qi 6 1])
 .ret)
 (.reg 6 (some [0,0,2,6,14,0,0,64,192,510,1023,2047,4095]) [] [
 qm 34 0,
 qm 35 0,
 .r 36 (.nc (.t 35)),
 qf 37 2 36,
 ql 38 37,
 qm 39 7,
 qm 40 1,
 qC 41 qU [.t 40],
 .r 42 (.bsl 1 1 [.t 41]),
 qC 43 jH [.t 38,.t 39,.t 42],
 .r 44 (.nc (.t 34)),
 qf 45 2 44,
 qs 1 45 43]))))))))))
 (.seq
 (.reg 15 none [6] [
 qi 6 0])
 .ret))))))
def qr9:List (Nat×List Nat):=qz Zw
theorem qs0:FnIR Tryz.prog Jg 71 qr9 Zw [(.tmp 6)]:=
 qF Tryz.func75
def jM:RC:=
 (.seq
 (.reg 0 none [0,1,2] [
 .r 6 (.mv (qN))])
 (.seq
 (.reg 1 none [0,1,2] [
 qm 10 0,
 qm 11 1,
 .r 12 (.slL 1 (.t 10) (some (.t 11)) none)])
 (.seq
 (.reg 2 none [0,1,2,7] [
 qm 13 2,
 qn 14 13,
 qm 7 14])
 (.seq
 (.seq
 (.reg 3 none [0,1,2,7,16] [
 qm 15 7,
 qB 16 .eql 15 0])
 (qq 16
 (.seq
 (.reg 4 none [6] [
 qm 17 0,
 qm 6 17])
 .ret)
 .skip))
 (.seq
 (.reg 5 none [0,1,2,7,8] [
 qm 18 0,
 qn 19 18,
 qm 8 19])
 (.seq
 (.seq
 (.reg 6 none [0,1,2,7,8,22] [
 qm 20 1,
 qm 21 8,
 qb 22 .eql 20 21])
 (qq 22
 (.seq
 (.reg 7 none [6] [
 qm 23 0,
 qm 24 2,
 .r 25 (.app 1 8 false (.t 23) (.t 24)),
 qm 6 25])
 .ret)
 .skip))
 (.seq
 (.seq
 (.reg 8 none [0,1,2,7,8,31] [
 qm 26 8,
 qm 27 7,
 qb 28 .add 26 27,
 qm 29 0,
 .r 30 (.ext .capq [.t 29]),
 qb 31 .gtr 28 30])
 (qq 31
 (.seq
 (.reg 9 none [0,1,2,7,9] [
 qm 32 0,
 qm 33 1,
 .r 34 (.slL 1 (.t 32) none (some (.t 33))),
 qm 35 8,
 qm 36 7,
 qb 37 .add 35 36,
 qm 38 1,
 qb 39 .sub 37 38,
 .r 40 (.ext (.appM 1 8 (.v (.int .i64 0))) [.t 34,.t 39]),
 qm 9 40])
 (.seq
 (.reg 10 none [0,1,7,9] [
 qm 41 9,
 qm 42 1,
 .r 43 (.slL 1 (.t 41) (some (.t 42)) none),
 qm 44 2,
 .r 45 (.ext (.cpy 1) [.t 43,.t 44])])
 (.seq
 (.reg 11 (some [0,0,0,6,15,0,0,96,255]) [9] [
 qm 46 9,
 qm 47 1,
 qm 48 7,
 qb 49 .add 47 48,
 .r 50 (.slL 1 (.t 46) (some (.t 49)) none),
 qm 51 0,
 qm 52 1,
 .r 53 (.slL 1 (.t 51) (some (.t 52)) none),
 .r 54 (.ext (.cpy 1) [.t 50,.t 53])])
 (.seq
 (.reg 12 none [6] [
 qm 55 9,
 qm 6 55])
 .ret))))
 .skip))
 (.seq
 (.reg 13 none [0,1,2,7,8] [
 qm 56 0,
 qm 57 8,
 qm 58 7,
 qb 59 .add 57 58,
 .r 60 (.slL 1 (.t 56) none (some (.t 59))),
 qm 0 60])
 (.seq
 (.seq
 (.reg 14 none [0,1,2,7,8,68] [
 qm 61 2,
 qm 62 0,
 qm 63 1,
 qm 64 7,
 qb 65 .add 63 64,
 .r 66 (.slL 1 (.t 62) (some (.t 65)) none),
 qC 67 wH [.t 61,.t 66],
 .r 68 (.un .not (.t 67))])
 (qq 68
 (.seq
 (.reg 15 (some [0,0,0,6,15,0,0,96,255]) [0,1,2] [
 qm 69 0,
 qm 70 1,
 qm 71 7,
 qb 72 .add 70 71,
 .r 73 (.slL 1 (.t 69) (some (.t 72)) none),
 qm 74 0,
 qm 75 1,
 .r 76 (.slL 1 (.t 74) (some (.t 75)) none),
 .r 77 (.ext (.cpy 1) [.t 73,.t 76])])
 (.seq
 (.reg 16 none [0] [
 qm 78 0,
 qm 79 1,
 .r 80 (.slL 1 (.t 78) (some (.t 79)) none),
 qm 81 2,
 .r 82 (.ext (.cpy 1) [.t 80,.t 81])])
 (.seq
 (.reg 17 none [6] [
 qm 83 0,
 qm 6 83])
 .ret)))
 .skip))
 (.seq
 (.reg 18 none [0,1,7] [
 qm 84 0,
 qm 85 8,
 .r 86 (.slL 1 (.t 84) (some (.t 85)) none),
 qm 87 2,
 .r 88 (.ext (.cpy 1) [.t 86,.t 87])])
 (.seq
 (.reg 19 none [0] [
 qm 89 0,
 qm 90 1,
 .r 91 (.slL 1 (.t 89) (some (.t 90)) none),
 qm 92 7,
 qC 93 QN [.t 91,.t 92]])
 (.seq
 (.reg 20 none [6] [
 qm 94 0,
 qm 6 94])
 .ret))))))))))))
def JV:List (Nat×List Nat):=qz jM
theorem JW:FnIR Tryz.prog ke 95 JV jM [(.tmp 6)]:=
 qF Tryz.func76
def ju:RC:=
 (.seq
 (.reg 0 none [0,1,2] [
 .r 6 (.mv (qN))])
 (.seq
 (.reg 1 none [0,1,2] [
 qm 8 0,
 qm 9 1,
 qm 10 2,
 qm 11 0,
 qn 12 11,
 .r 13 (.ext .sl3 [.t 8,.t 9,.t 10,.t 12])])
 (.seq
 (.seq
 (.reg 2 none [0,1,2,16] [
 qm 14 1,
 qm 15 2,
 qb 16 .eql 14 15])
 (qq 16
 (.seq
 (.reg 3 none [6] [
 qm 17 0,
 qm 6 17])
 .ret)
 .skip))
 (.seq
 (.reg 4 none [0,1,2,7] [
 qm 18 0,
 qn 19 18,
 qm 7 19])
 (.seq
 (.reg 5 (some [0,0,3,0,0,24,63,127]) [0,7] [
 qm 20 0,
 qm 21 1,
 .r 22 (.slL 1 (.t 20) none (some (.t 21))),
 qm 23 0,
 qm 24 2,
 .r 25 (.slL 1 (.t 23) (some (.t 24)) none),
 .r 26 (.app 1 24 false (.t 22) (.t 25)),
 qm 0 26])
 (.seq
 (.reg 6 none [0] [
 qm 27 0,
 qm 28 0,
 qn 29 28,
 qm 30 7,
 .r 31 (.slL 1 (.t 27) (some (.t 29)) (some (.t 30))),
 .rn (.ext (.clr 1 (.v (.slice none 0 0))) [.t 31])])
 (.seq
 (.reg 7 none [6] [
 qm 32 0,
 qm 6 32])
 .ret)))))))
def Js:List (Nat×List Nat):=qz ju
theorem Jt:FnIR Tryz.prog jG 33 Js ju [(.tmp 6)]:=
 qF Tryz.func77
def yR:RC:=
 (.seq
 (.reg 0 none [1,2] [
 .r 2 (.box (.t 0)),
 .r 4 (.mv (qN))])
 (.seq
 (.reg 1 (some [0,1,0,4,0,28,60,124,255,511,0,2047]) [5] [
 qf 6 0 2,
 ql 7 6,
 qf 8 1 2,
 ql 9 8,
 qm 10 1,
 qx 11 7 9 10,
 qf 12 2 11,
 ql 13 12,
 qx 14 2 7 13,
 qL 15 2 14,
 .r 5 (.new (.agg [.v (.string ⟨#[]⟩),.v (.slice none 0 0)])),
 qs 2 5 15])
 (.seq
 (.reg 2 (some [0,0,2,6,15,31]) [4] [
 qL 16 2 5,
 qL 17 2 5,
 qC 18 wx [.t 17],
 qB 19 .sub 18 1,
 qC 20 WL [.t 16,.t 19],
 qm 4 20])
 .ret)))
def qe3:List (Nat×List Nat):=qz yR
theorem qe4:FnIR Tryz.prog Qo 21 qe3 yR [(.tmp 4)]:=
 qF Tryz.func78
def zS:RC:=
 (.seq
 (.reg 0 none [0] [
 .r 2 (.mv (.k (.v (.string ⟨#[]⟩))))])
 (.seq
 (.reg 1 none [2] [
 qm 3 0,
 qC 4 zr [.t 3,qI 10],
 qm 2 4])
 .ret))
def QQ:List (Nat×List Nat):=qz zS
theorem QR:FnIR Tryz.prog zV 5 QQ zS [(.tmp 2)]:=
 qF Tryz.func80
def Zx:RC:=
 (.seq
 (.reg 0 none [0] [
 qc 2 false])
 (.seq
 (.seq
 (.reg 1 none [0,22] [
 qm 5 0,
 .r 6 (.lenS (.t 5)),
 qB 7 .lss 6 1,
 qm 8 7,
 qmf 9 8 0,
 .rf 10 8 (.lenS (.t 9)),
 .rf 11 8 (.bin .gtr false (.t 10) (qI 16)),
 qP 12 8 11,
 qm 13 12,
 qmf 14 13 0,
 .rf 15 13 (.sx (.t 14) (qI 0)),
 .rf 16 13 (.bin .lss false (.t 15) (.k (.v (.int .u8 97)))),
 qP 17 13 16,
 qm 18 17,
 qmf 19 18 0,
 .rf 20 18 (.sx (.t 19) (qI 0)),
 .rf 21 18 (.bin .gtr false (.t 20) (.k (.v (.int .u8 122)))),
 qP 22 18 21])
 (qq 22
 (.seq
 (.reg 2 none [2] [
 qc 2 false])
 .ret)
 .skip))
 (.seq
 (.seq
 (.reg 3 none [0,24,25,26] [
 qm 23 0,
 .r 24 (.cvSB (.t 23)),
 qn 25 24,
 qi 26 0])
 (.block 0
 (.loop
 (.seq
 (.reg 4 none [0,24,25,26,27] [
 qb 27 .lss 26 25])
 (.seq
 (qq 27
 .skip
 (.exit 0))
 (.seq
 (.block 1
 (.seq
 (.reg 5 none [0,4,24,25,26] [
 qx 28 1 24 26,
 ql 29 28,
 qm 4 29])
 (.seq
 (.reg 6 none [0,24,25,26,47] [
 qm 30 4,
 .r 31 (.bin .lss false (.t 30) (.k (.v (.int .u8 97)))),
 qm 32 31,
 qmf 33 32 4,
 .rf 34 32 (.bin .gtr false (.t 33) (.k (.v (.int .u8 122)))),
 qP 35 32 34,
 qm 36 35,
 qmt 37 36 4,
 .rt 38 36 (.bin .lss false (.t 37) (.k (.v (.int .u8 48)))),
 qmt 39 36 38,
 qmf 40 39 4,
 .rf 41 39 (.bin .gtr false (.t 40) (.k (.v (.int .u8 57)))),
 .rt 42 36 (.pick (.t 39) (.k (.v (.bool true))) (.t 41)),
 qp 43 36 42,
 qm 44 43,
 qmt 45 44 4,
 .rt 46 44 (.bin .neq false (.t 45) (.k (.v (.int .u8 95)))),
 qp 47 44 46])
 (qq 47
 (.seq
 (.reg 7 none [2] [
 qc 2 false])
 .ret)
 .skip))))
 (.reg 8 none [0,24,25,26] [
 qa 48 26,
 qm 26 48])))))))
 (.seq
 (.seq
 (.reg 9 none [49] [
 qm 49 0])
 (.block 2
 (.seq
 (.seq
 (.reg 10 none [49,50] [
 .r 51 (.bin .eql false (.t 49) (.k (.v (.string ⟨#[97,108,108]⟩)))),
 qm 50 51])
 (qq 50
 .skip
 (.seq
 (.reg 11 none [49,50] [
 .r 52 (.bin .eql false (.t 49) (.k (.v (.string ⟨#[97,110,100]⟩)))),
 qm 50 52])
 (qq 50
 .skip
 (.seq
 (.reg 12 none [49,50] [
 .r 53 (.bin .eql false (.t 49) (.k (.v (.string ⟨#[101,118,101,110,116]⟩)))),
 qm 50 53])
 (qq 50
 .skip
 (.seq
 (.reg 13 none [49,50] [
 .r 54 (.bin .eql false (.t 49) (.k (.v (.string ⟨#[102,114,111,109]⟩)))),
 qm 50 54])
 (qq 50
 .skip
 (.seq
 (.reg 14 none [49,50] [
 .r 55 (.bin .eql false (.t 49) (.k (.v (.string ⟨#[109,105,115,115,105,110,103]⟩)))),
 qm 50 55])
 (qq 50
 .skip
 (.seq
 (.reg 15 none [49,50] [
 .r 56 (.bin .eql false (.t 49) (.k (.v (.string ⟨#[110,111,116]⟩)))),
 qm 50 56])
 (qq 50
 .skip
 (.seq
 (.reg 16 none [49,50] [
 .r 57 (.bin .eql false (.t 49) (.k (.v (.string ⟨#[111,110]⟩)))),
 qm 50 57])
 (qq 50
 .skip
 (.seq
 (.reg 17 none [49,50] [
 .r 58 (.bin .eql false (.t 49) (.k (.v (.string ⟨#[111,114]⟩)))),
 qm 50 58])
 (qq 50
 .skip
 (.seq
 (.reg 18 none [49,50] [
 .r 59 (.bin .eql false (.t 49) (.k (.v (.string ⟨#[116,111]⟩)))),
 qm 50 59])
 (qq 50
 .skip
 (.seq
 (.reg 19 none [49,50] [
 .r 60 (.bin .eql false (.t 49) (.k (.v (.string ⟨#[117,110,100,101,114]⟩)))),
 qm 50 60])
 (qq 50
 .skip
 (.reg 20 none [50] [
 .r 61 (.bin .eql false (.t 49) (.k (.v (.string ⟨#[119,104,101,114,101]⟩)))),
 qm 50 61])))))))))))))))))))))
 (qq 50
 (.seq
 (.reg 21 none [2] [
 qc 2 false])
 .ret)
 .skip))))
 (.seq
 (.reg 22 none [2] [
 qc 2 true])
 .ret)))))
def qs1:List (Nat×List Nat):=qz Zx
theorem qs2:FnIR Tryz.prog wE 62 qs1 Zx [(.tmp 2)]:=
 qF Tryz.func81
def yS:RC:=
 (.seq
 (.reg 0 none [1] [
 .r 1 (.box (.t 0)),
 .r 2 (.mv (qN))])
 (.seq
 (.reg 1 none [1,3] [
 qf 6 1 1,
 ql 7 6,
 qn 8 7,
 .r 9 (.mk 1 8 (.v (.int .i64 0)) (.t 8) (.t 8)),
 qm 3 9])
 (.seq
 (.seq
 (.reg 2 none [3,11,12,13] [
 qf 10 1 1,
 ql 11 10,
 qn 12 11,
 qi 13 0])
 (.block 0
 (.loop
 (.seq
 (.reg 3 none [3,11,12,13,14] [
 qb 14 .lss 13 12])
 (.seq
 (qq 14
 .skip
 (.exit 0))
 (.seq
 (.block 1
 (.seq
 (.reg 4 none [3,4,5,11,12,13] [
 qm 15 13,
 qx 16 2 11 13,
 qL 17 2 16,
 .r 5 (.new (.agg [.v (.string ⟨#[]⟩),.v (.int .i64 0)])),
 qm 4 15,
 qs 2 5 17])
 (.seq
 (.reg 5 none [3,4,5,11,12,13,19] [
 qm 18 4,
 qB 19 .gtr 18 0])
 (qq 19
 (.reg 6 none [3,11,12,13] [
 qm 20 3,
 qm 21 4,
 qm 22 3,
 qf 23 1 5,
 ql 24 23,
 qx 25 1 22 24,
 ql 26 25,
 qa 27 26,
 qx 28 1 20 21,
 qs 1 28 27])
 .skip))))
 (.reg 7 none [3,11,12,13] [
 qa 29 13,
 qm 13 29])))))))
 (.seq
 (.reg 8 none [2] [
 qm 30 3,
 qm 2 30])
 .ret))))
def qe5:List (Nat×List Nat):=qz yS
theorem qe6:FnIR Tryz.prog Qp 31 qe5 yS [(.tmp 2)]:=
 qF Tryz.func82
def zt:RC:=
 (.seq
 (.reg 0 none [0,1] [
 qi 4 0])
 (.seq
 (.seq
 (.reg 1 none [0,1,7,8] [
 qm 6 0,
 qn 7 6,
 qi 8 0])
 (.block 0
 (.loop
 (.seq
 (.reg 2 none [0,1,7,8,9] [
 qb 9 .lss 8 7])
 (.seq
 (qq 9
 .skip
 (.exit 0))
 (.seq
 (.block 1
 (.seq
 (.reg 3 none [0,1,5,7,8] [
 qm 10 8,
 qm 5 10])
 (.seq
 (.reg 4 none [0,1,5,7,8,16] [
 qm 11 1,
 qm 12 0,
 qm 13 5,
 qx 14 2 12 13,
 qL 15 2 14,
 .r 16 (.call (.t 11) [.t 15])])
 (qq 16
 (.seq
 (.reg 5 none [4] [
 qm 17 5,
 qm 4 17])
 .ret)
 .skip))))
 (.reg 6 none [0,1,7,8] [
 qa 18 8,
 qm 8 18])))))))
 (.seq
 (.reg 7 none [4] [
 .r 4 (.mv (.k (.v (.int .i64 (-1)))))])
 .ret)))
def yo:List (Nat×List Nat):=qz zt
theorem yp:FnIR Tryz.prog zA 19 yo zt [(.tmp 4)]:=
 qF Tryz.func83
def zo:RC:=
 (.seq
 (.reg 0 none [0,1] [
 qc 4 false])
 (.seq
 (.reg 1 none [4] [
 qm 5 0,
 qm 6 1,
 qC 7 zM [.t 5,.t 6],
 qB 8 .geq 7 0,
 qm 4 8])
 .ret))
def wT:List (Nat×List Nat):=qz zo
theorem wU:FnIR Tryz.prog zq 9 wT zo [(.tmp 4)]:=
 qF Tryz.func84
def ja:RC:=
 (.seq
 (.reg 0 none [1,2] [
 .r 2 (.box (.t 0)),
 qc 3 false])
 (.seq
 (.reg 1 none [3] [
 qf 4 0 2,
 ql 5 4,
 qf 6 0 1,
 ql 7 6,
 qb 8 .eql 5 7,
 qm 3 8])
 .ret))
def Zy:List (Nat×List Nat):=qz ja
theorem Zz:FnIR Tryz.prog zE 9 Zy ja [(.tmp 3)]:=
 qF Tryz.func85
def jf:RC:=
 (.seq
 (.reg 0 none [1] [
 .r 1 (.box (.t 0)),
 qi 2 0])
 (.seq
 (.block 0
 (.seq
 (.reg 1 none [1,6] [
 qf 7 3 1,
 ql 8 7,
 .r 9 (.bin .lss false (.t 8) (.k (.v (.int .i64 (-1000000))))),
 qm 10 9,
 qff 11 10 4 1,
 qlf 12 10 11,
 .rf 13 10 (.bin .gtr false (.t 12) (qI 1000000)),
 qP 14 10 13,
 qm 15 14,
 qff 16 15 3 1,
 qlf 17 15 16,
 qff 18 15 4 1,
 qlf 19 15 18,
 .rf 20 15 (.bin .gtr false (.t 17) (.t 19)),
 qP 21 15 20,
 qm 6 21])
 (qq 6
 (.seq
 (.reg 2 none [2] [
 qi 2 2])
 .ret)
 (.seq
 (.reg 3 none [1,22] [
 qf 23 5 1,
 ql 24 23,
 qn 25 24,
 qB 26 .eql 25 0,
 qm 27 26,
 qff 28 27 5 1,
 qlf 29 27 28,
 .rf 30 27 (.lenL (.t 29)),
 .rf 31 27 (.bin .gtr false (.t 30) (qI 4)),
 qP 32 27 31,
 qm 22 32])
 (qq 22
 (.seq
 (.reg 4 none [2] [
 qi 2 1])
 .ret)
 .skip)))))
 (.seq
 (.reg 5 none [1,3] [
 qi 3 1])
 (.seq
 (.seq
 (.reg 6 none [3,34,35,36] [
 qf 33 5 1,
 ql 34 33,
 qn 35 34,
 qi 36 0])
 (.block 1
 (.loop
 (.seq
 (.reg 7 none [3,34,35,36,37] [
 qb 37 .lss 36 35])
 (.seq
 (qq 37
 .skip
 (.exit 1))
 (.seq
 (.block 2
 (.seq
 (.reg 8 none [3,4,5,34,35,36] [
 qm 38 36,
 qx 39 1 34 36,
 ql 40 39,
 qm 4 38,
 qm 5 40])
 (.seq
 (.seq
 (.reg 9 none [5,34,35,36,65] [
 qm 41 4,
 qB 42 .eql 41 0,
 qm 43 42,
 qmt 44 43 5,
 .rt 45 43 (.bin .neq false (.t 44) (qI 1)),
 qp 46 43 45,
 qm 47 46,
 qmf 48 47 4,
 .rf 49 47 (.bin .gtr false (.t 48) (qI 0)),
 qmf 50 47 49,
 qmt 51 50 5,
 qmt 52 50 3,
 .rt 53 50 (.bin .leq false (.t 51) (.t 52)),
 qmt 54 50 53,
 qmf 55 54 5,
 qmf 56 54 3,
 .rf 57 54 (.bin .rem false (.t 55) (.t 56)),
 .rf 58 54 (.bin .neq false (.t 57) (qI 0)),
 .rt 59 50 (.pick (.t 54) (.k (.v (.bool true))) (.t 58)),
 qmt 60 50 59,
 qmf 61 60 5,
 .rf 62 60 (.bin .gtr false (.t 61) (qI 1000000)),
 .rt 63 50 (.pick (.t 60) (.k (.v (.bool true))) (.t 62)),
 .rf 64 47 (.pick (.t 50) (.t 63) (.k (.v (.bool false)))),
 qP 65 47 64])
 (qq 65
 (.seq
 (.reg 10 none [2] [
 qi 2 2])
 .ret)
 .skip))
 (.reg 11 none [3,34,35,36] [
 qm 66 5,
 qm 3 66]))))
 (.reg 12 none [3,34,35,36] [
 qa 67 36,
 qm 36 67])))))))
 (.seq
 (.reg 13 none [2] [
 qi 2 0])
 .ret)))))
def ZJ:List (Nat×List Nat):=qz jf
theorem ZK:FnIR Tryz.prog jp 68 ZJ jf [(.tmp 2)]:=
 qF Tryz.func86
def wV:RC:=
 (.seq
 (.reg 0 none [1] [
 .r 1 (.box (.t 0)),
 qc 2 false])
 (.seq
 (.seq
 (.reg 1 none [1,10] [
 qf 3 1 1,
 ql 4 3,
 qB 5 .neq 4 2,
 qm 6 5,
 qft 7 6 2 1,
 qlt 8 6 7,
 .rt 9 6 (.bin .neq false (.t 8) (qI 0)),
 qp 10 6 9])
 (qq 10
 (.seq
 (.reg 2 none [2] [
 qc 2 false])
 .ret)
 .skip))
 (.seq
 (.reg 3 none [2] [
 qf 11 1 1,
 ql 12 11,
 qB 13 .eql 12 3,
 qm 14 13,
 qff 15 14 3 1,
 qlf 16 14 15,
 .rf 17 14 (.bin .eql false (.t 16) (qI 0)),
 qmf 18 14 17,
 qft 19 18 4 1,
 qlt 20 18 19,
 .rt 21 18 (.bin .eql false (.t 20) (qI 0)),
 .rf 22 14 (.pick (.t 18) (.t 21) (.k (.v (.bool false)))),
 qmf 23 14 22,
 qft 24 23 5 1,
 qlt 25 23 24,
 .rt 26 23 (.lenL (.t 25)),
 .rt 27 23 (.bin .eql false (.t 26) (qI 0)),
 .rf 28 14 (.pick (.t 23) (.t 27) (.k (.v (.bool false)))),
 qmf 29 14 28,
 qft 30 29 6 1,
 qlt 31 29 30,
 .rt 32 29 (.un .not (.t 31)),
 .rf 33 14 (.pick (.t 29) (.t 32) (.k (.v (.bool false)))),
 qP 34 14 33,
 qm 2 34])
 .ret)))
def Yz:List (Nat×List Nat):=qz wV
theorem YA:FnIR Tryz.prog yH 35 Yz wV [(.tmp 2)]:=
 qF Tryz.func87
def zD:RC:=
 (.seq
 (.reg 0 none [0,1] [
 qc 4 false])
 (.seq
 (.reg 1 none [4] [
 qm 5 0,
 qm 6 1,
 qC 7 zX [.t 5,.t 6],
 qB 8 .geq 7 0,
 qm 4 8])
 .ret))
def yT:List (Nat×List Nat):=qz zD
theorem yU:FnIR Tryz.prog zF 9 yT zD [(.tmp 4)]:=
 qF Tryz.func88
def wW:RC:=
 (.seq
 (.reg 0 none [1,2] [
 .r 2 (.box (.t 0)),
 qc 3 false])
 (.seq
 (.reg 1 none [3] [
 qf 4 1 2,
 ql 5 4,
 ql 6 1,
 qb 7 .eql 5 6,
 qm 3 7])
 .ret))
def YB:List (Nat×List Nat):=qz wW
theorem YC:FnIR Tryz.prog kP 8 YB wW [(.tmp 3)]:=
 qF Tryz.func89
def qY:RC:=
 (.seq
 (.reg 0 none [0,1,2,3,8] [
 qm 10 1,
 qa 11 10,
 qm 8 11])
 (.block 0
 (.loop
 (.seq
 (.seq
 (.reg 1 none [0,1,2,3,8,14] [
 qm 12 8,
 qm 13 2,
 qb 14 .lss 12 13])
 (qq 14
 .skip
 (.exit 0)))
 (.seq
 (.block 1
 (.seq
 (.reg 3 none [0,1,2,3,8,9] [
 qm 17 8,
 qm 9 17])
 (.block 2
 (.loop
 (.seq
 (.seq
 (.reg 4 (some [0,0,3,7,15,15,15,111,239,15,15,1039,3599,7695,16383,32767,65535]) [0,1,2,3,8,9,34] [
 qm 18 9,
 qm 19 1,
 qb 20 .gtr 18 19,
 qm 21 20,
 qmt 22 21 3,
 qmt 23 21 0,
 qmt 24 21 9,
 .rt 25 21 (.ixL 1 (.t 23) (.t 24)),
 qlt 26 21 25,
 qmt 27 21 0,
 qmt 28 21 9,
 .rt 29 21 (.bin .sub false (.t 28) (qI 1)),
 .rt 30 21 (.ixL 1 (.t 27) (.t 29)),
 qlt 31 21 30,
 .rt 32 21 (.call (.t 22) [.t 26,.t 31]),
 .rt 33 21 (.bin .lss false (.t 32) (qI 0)),
 qp 34 21 33])
 (qq 34
 .skip
 (.exit 2)))
 (.seq
 (.block 3
 (.reg 6 (some [0,0,0,0,8,0,0,64,224,480,0,0,3072,7168,16355,32739,65535,131071]) [0,1,2,3,8,9] [
 qm 37 0,
 qm 38 9,
 qm 39 0,
 qm 40 9,
 qB 41 .sub 40 1,
 qm 42 0,
 qm 43 9,
 qB 44 .sub 43 1,
 qx 45 1 42 44,
 ql 46 45,
 qm 47 0,
 qm 48 9,
 qx 49 1 47 48,
 ql 50 49,
 qx 51 1 37 38,
 qs 1 51 46,
 qx 52 1 39 41,
 qs 1 52 50]))
 (.reg 5 none [0,1,2,3,8,9] [
 qm 35 9,
 qB 36 .sub 35 1,
 qm 9 36])))))))
 (.reg 2 none [0,1,2,3,8] [
 qm 15 8,
 qa 16 15,
 qm 8 16]))))))
def ki:List (Nat×List Nat):=qz qY
theorem ko:FnIR Tryz.prog qZ 53 ki qY []:=
 qF Tryz.func90
def jl:RC:=
 (.seq
 (.reg 0 none [0,2] [
 qi 2 0])
 (.seq
 (.seq
 (.reg 1 none [0,2,4] [
 qm 3 0,
 .r 4 (.bin .geq false (.t 3) (.k (.v (.int .u64 4294967296))))])
 (qq 4
 (.seq
 (.reg 2 none [0] [
 qm 5 0,
 .r 6 (.bin .shr false (.t 5) (.k (.v (.int .u64 32)))),
 qm 0 6])
 (.reg 3 none [0,2] [
 qi 2 32]))
 .skip))
 (.seq
 (.seq
 (.reg 4 none [0,2,8] [
 qm 7 0,
 .r 8 (.bin .geq false (.t 7) (.k (.v (.int .u64 65536))))])
 (qq 8
 (.seq
 (.reg 5 none [0,2] [
 qm 9 0,
 .r 10 (.bin .shr false (.t 9) (.k (.v (.int .u64 16)))),
 qm 0 10])
 (.reg 6 none [0,2] [
 qm 11 2,
 qB 12 .add 11 16,
 qm 2 12]))
 .skip))
 (.seq
 (.seq
 (.reg 7 none [0,2,14] [
 qm 13 0,
 .r 14 (.bin .geq false (.t 13) (.k (.v (.int .u64 256))))])
 (qq 14
 (.seq
 (.reg 8 none [0,2] [
 qm 15 0,
 .r 16 (.bin .shr false (.t 15) (.k (.v (.int .u64 8)))),
 qm 0 16])
 (.reg 9 none [0,2] [
 qm 17 2,
 qB 18 .add 17 8,
 qm 2 18]))
 .skip))
 (.seq
 (.reg 10 none [2] [
 qm 19 2,
 qm 20 0,
 .r 21 (.cvI .u8 (.t 20)),
 .r 22 (.sx (.k (.v (.string ⟨#[0,1,2,2,3,3,3,3,4,4,4,4,4,4,4,4,5,5,5,5,5,5,5,5,5,5,5,5,5,5,5,5,6,6,6,6,6,6,6,6,6,6,6,6,6,6,6,6,6,6,6,6,6,6,6,6,6,6,6,6,6,6,6,6,7,7,7,7,7,7,7,7,7,7,7,7,7,7,7,7,7,7,7,7,7,7,7,7,7,7,7,7,7,7,7,7,7,7,7,7,7,7,7,7,7,7,7,7,7,7,7,7,7,7,7,7,7,7,7,7,7,7,7,7,7,7,7,7,8,8,8,8,8,8,8,8,8,8,8,8,8,8,8,8,8,8,8,8,8,8,8,8,8,8,8,8,8,8,8,8,8,8,8,8,8,8,8,8,8,8,8,8,8,8,8,8,8,8,8,8,8,8,8,8,8,8,8,8,8,8,8,8,8,8,8,8,8,8,8,8,8,8,8,8,8,8,8,8,8,8,8,8,8,8,8,8,8,8,8,8,8,8,8,8,8,8,8,8,8,8,8,8,8,8,8,8,8,8,8,8,8,8,8,8,8,8,8,8,8,8,8,8,8,8,8,8]⟩))) (.t 21)),
 .r 23 (.cvI .i64 (.t 22)),
 qb 24 .add 19 23,
 qm 2 24])
 .ret)))))
def Wl:List (Nat×List Nat):=qz jl
theorem Qh:FnIR Tryz.prog wg 25 Wl jl [(.tmp 2)]:=
 qF Tryz.func99
def ZA:RC:=
 (.seq
 (.reg 0 none [0] [
 qc 2 false])
 (.seq
 (.seq
 (.reg 1 none [0,21] [
 qm 4 0,
 .r 5 (.lenS (.t 4)),
 qB 6 .lss 5 1,
 qm 7 6,
 qmf 8 7 0,
 .rf 9 7 (.lenS (.t 8)),
 .rf 10 7 (.bin .gtr false (.t 9) (qI 16)),
 qP 11 7 10,
 qm 12 11,
 qmf 13 12 0,
 .rf 14 12 (.sx (.t 13) (qI 0)),
 .rf 15 12 (.bin .lss false (.t 14) (.k (.v (.int .u8 97)))),
 qP 16 12 15,
 qm 17 16,
 qmf 18 17 0,
 .rf 19 17 (.sx (.t 18) (qI 0)),
 .rf 20 17 (.bin .gtr false (.t 19) (.k (.v (.int .u8 122)))),
 qP 21 17 20])
 (qq 21
 (.seq
 (.reg 2 none [2] [
 qc 2 false])
 .ret)
 .skip))
 (.seq
 (.seq
 (.reg 3 none [0,3] [
 qi 3 0])
 (.block 0
 (.loop
 (.seq
 (.seq
 (.reg 4 none [0,3,25] [
 qm 22 3,
 qm 23 0,
 .r 24 (.lenS (.t 23)),
 qb 25 .lss 22 24])
 (qq 25
 .skip
 (.exit 0)))
 (.seq
 (.block 1
 (.seq
 (.reg 6 none [0,3,56] [
 qm 28 0,
 qm 29 3,
 .r 30 (.sx (.t 28) (.t 29)),
 .r 31 (.bin .geq false (.t 30) (.k (.v (.int .u8 97)))),
 qm 32 31,
 qmt 33 32 0,
 qmt 34 32 3,
 .rt 35 32 (.sx (.t 33) (.t 34)),
 .rt 36 32 (.bin .leq false (.t 35) (.k (.v (.int .u8 122)))),
 qp 37 32 36,
 qm 38 37,
 qmf 39 38 0,
 qmf 40 38 3,
 .rf 41 38 (.sx (.t 39) (.t 40)),
 .rf 42 38 (.bin .geq false (.t 41) (.k (.v (.int .u8 48)))),
 qmf 43 38 42,
 qmt 44 43 0,
 qmt 45 43 3,
 .rt 46 43 (.sx (.t 44) (.t 45)),
 .rt 47 43 (.bin .leq false (.t 46) (.k (.v (.int .u8 57)))),
 .rf 48 38 (.pick (.t 43) (.t 47) (.k (.v (.bool false)))),
 qP 49 38 48,
 qm 50 49,
 qmf 51 50 0,
 qmf 52 50 3,
 .rf 53 50 (.sx (.t 51) (.t 52)),
 .rf 54 50 (.bin .eql false (.t 53) (.k (.v (.int .u8 95)))),
 qP 55 50 54,
 .r 56 (.un .not (.t 55))])
 (qq 56
 (.seq
 (.reg 7 none [2] [
 qc 2 false])
 .ret)
 .skip)))
 (.reg 5 none [0,3] [
 qm 26 3,
 qa 27 26,
 qm 3 27]))))))
 (.seq
 (.seq
 (.reg 8 none [57] [
 qm 57 0])
 (.block 2
 (.seq
 (.seq
 (.reg 9 none [57,58] [
 .r 59 (.bin .eql false (.t 57) (.k (.v (.string ⟨#[97,108,108]⟩)))),
 qm 58 59])
 (qq 58
 .skip
 (.seq
 (.reg 10 none [57,58] [
 .r 60 (.bin .eql false (.t 57) (.k (.v (.string ⟨#[97,110,100]⟩)))),
 qm 58 60])
 (qq 58
 .skip
 (.seq
 (.reg 11 none [57,58] [
 .r 61 (.bin .eql false (.t 57) (.k (.v (.string ⟨#[101,118,101,110,116]⟩)))),
 qm 58 61])
 (qq 58
 .skip
 (.seq
 (.reg 12 none [57,58] [
 .r 62 (.bin .eql false (.t 57) (.k (.v (.string ⟨#[102,114,111,109]⟩)))),
 qm 58 62])
 (qq 58
 .skip
 (.seq
 (.reg 13 none [57,58] [
 .r 63 (.bin .eql false (.t 57) (.k (.v (.string ⟨#[109,105,115,115,105,110,103]⟩)))),
 qm 58 63])
 (qq 58
 .skip
 (.seq
 (.reg 14 none [57,58] [
 .r 64 (.bin .eql false (.t 57) (.k (.v (.string ⟨#[110,111,116]⟩)))),
 qm 58 64])
 (qq 58
 .skip
 (.seq
 (.reg 15 none [57,58] [
 .r 65 (.bin .eql false (.t 57) (.k (.v (.string ⟨#[111,110]⟩)))),
 qm 58 65])
 (qq 58
 .skip
 (.seq
 (.reg 16 none [57,58] [
 .r 66 (.bin .eql false (.t 57) (.k (.v (.string ⟨#[111,114]⟩)))),
 qm 58 66])
 (qq 58
 .skip
 (.seq
 (.reg 17 none [57,58] [
 .r 67 (.bin .eql false (.t 57) (.k (.v (.string ⟨#[116,111]⟩)))),
 qm 58 67])
 (qq 58
 .skip
 (.seq
 (.reg 18 none [57,58] [
 .r 68 (.bin .eql false (.t 57) (.k (.v (.string ⟨#[117,110,100,101,114]⟩)))),
 qm 58 68])
 (qq 58
 .skip
 (.reg 19 none [58] [
 .r 69 (.bin .eql false (.t 57) (.k (.v (.string ⟨#[119,104,101,114,101]⟩)))),
 qm 58 69])))))))))))))))))))))
 (qq 58
 (.seq
 (.reg 20 none [2] [
 qc 2 false])
 .ret)
 .skip))))
 (.seq
 (.reg 21 none [2] [
 qc 2 true])
 .ret)))))
def qs3:List (Nat×List Nat):=qz ZA
theorem qs4:FnIR Tryz.prog wG 70 qs3 ZA [(.tmp 2)]:=
 qF Tryz.func100
def ZB:RC:=
 (.seq
 (.reg 0 none [1,2] [
 .r 2 (.box (.t 0)),
 qc 4 false])
 (.seq
 (.seq
 (.reg 1 none [1,2,5] [
 qi 5 0])
 (.block 0
 (.loop
 (.seq
 (.seq
 (.reg 2 none [1,2,5,10] [
 qm 6 5,
 qf 7 1 2,
 ql 8 7,
 qn 9 8,
 qb 10 .lss 6 9])
 (qq 10
 .skip
 (.exit 0)))
 (.seq
 (.block 1
 (.seq
 (.reg 4 none [1,2,5,20] [
 qf 13 1 2,
 ql 14 13,
 qm 15 5,
 qx 16 2 14 15,
 qf 17 1 16,
 ql 18 17,
 qm 19 1,
 qb 20 .eql 18 19])
 (qq 20
 (.seq
 (.reg 5 none [4] [
 qc 4 false])
 .ret)
 .skip)))
 (.reg 3 none [1,2,5] [
 qm 11 5,
 qa 12 11,
 qm 5 12]))))))
 (.seq
 (.reg 6 none [4] [
 qc 4 true])
 .ret)))
def qs5:List (Nat×List Nat):=qz ZB
theorem qs6:FnIR Tryz.prog Jh 21 qs5 ZB [(.tmp 4)]:=
 qF Tryz.func101
def QC:RC:=
 (.seq
 (.reg 0 none [1,2] [
 .r 2 (.box (.t 0)),
 qi 4 0])
 (.seq
 (.reg 1 none [1,2,5] [
 qi 5 0])
 (.seq
 (.block 0
 (.loop
 (.seq
 (.seq
 (.reg 2 none [1,2,5,12] [
 qf 6 1 2,
 ql 7 6,
 qm 8 1,
 qx 9 2 7 8,
 qf 10 1 9,
 ql 11 10,
 qB 12 .geq 11 0])
 (qq 12
 .skip
 (.exit 0)))
 (.block 1
 (.seq
 (.reg 3 none [1,2,5] [
 qf 13 1 2,
 ql 14 13,
 qm 15 1,
 qx 16 2 14 15,
 qf 17 1 16,
 ql 18 17,
 qm 1 18])
 (.reg 4 none [1,2,5] [
 qm 19 5,
 qa 20 19,
 qm 5 20]))))))
 (.seq
 (.reg 5 none [4] [
 qm 21 5,
 qm 4 21])
 .ret))))
def qj4:List (Nat×List Nat):=qz QC
theorem qj5:FnIR Tryz.prog zW 22 qj4 QC [(.tmp 4)]:=
 qF Tryz.func102
def Kz:RC:=
 (.seq
 (.reg 0 none [0,1,2] [
 qc 6 false])
 (.seq
 (.reg 1 none [6] [
 qm 7 1,
 qm 8 0,
 qb 9 .leq 7 8,
 qm 10 9,
 qmt 11 10 0,
 qmt 12 10 2,
 .rt 13 10 (.bin .leq false (.t 11) (.t 12)),
 qp 14 10 13,
 qm 6 14])
 .ret))
def qI1:List (Nat×List Nat):=qz Kz
theorem qI2:FnIR Tryz.prog jC 15 qI1 Kz [(.tmp 6)]:=
 qF Tryz.func103
def wX:RC:=
 (.seq
 (.reg 0 none [1] [
 .r 1 (.box (.t 0)),
 qi 2 0])
 (.seq
 (.seq
 (.reg 1 none [1,21] [
 qf 5 3 1,
 ql 6 5,
 qC 7 jC [.t 6,.k (.v (.int .i64 (-1000000))),qI 1000000],
 .r 8 (.un .not (.t 7)),
 qm 9 8,
 qff 10 9 4 1,
 qlf 11 9 10,
 .rf 12 9 (.call (.k (.clo jC [])) [.t 11,.k (.v (.int .i64 (-1000000))),qI 1000000]),
 .rf 13 9 (.un .not (.t 12)),
 qP 14 9 13,
 qm 15 14,
 qff 16 15 3 1,
 qlf 17 15 16,
 qff 18 15 4 1,
 qlf 19 15 18,
 .rf 20 15 (.bin .gtr false (.t 17) (.t 19)),
 qP 21 15 20])
 (qq 21
 (.seq
 (.reg 2 none [2] [
 qi 2 2])
 .ret)
 .skip))
 (.seq
 (.seq
 (.reg 3 none [1,31] [
 qf 22 5 1,
 ql 23 22,
 qn 24 23,
 qB 25 .lss 24 1,
 qm 26 25,
 qff 27 26 5 1,
 qlf 28 26 27,
 .rf 29 26 (.lenL (.t 28)),
 .rf 30 26 (.bin .gtr false (.t 29) (qI 4)),
 qP 31 26 30])
 (qq 31
 (.seq
 (.reg 4 none [2] [
 qi 2 1])
 .ret)
 .skip))
 (.seq
 (.seq
 (.reg 5 none [1,3] [
 qi 3 0])
 (.block 0
 (.loop
 (.seq
 (.seq
 (.reg 6 none [1,3,36] [
 qm 32 3,
 qf 33 5 1,
 ql 34 33,
 qn 35 34,
 qb 36 .lss 32 35])
 (qq 36
 .skip
 (.exit 0)))
 (.seq
 (.block 1
 (.seq
 (.reg 8 none [1,3,4] [
 qf 39 5 1,
 ql 40 39,
 qm 41 3,
 qx 42 1 40 41,
 ql 43 42,
 qm 4 43])
 (.seq
 (.reg 9 none [1,3,78] [
 qm 44 3,
 qB 45 .eql 44 0,
 qm 46 45,
 qmt 47 46 4,
 .rt 48 46 (.bin .neq false (.t 47) (qI 1)),
 qp 49 46 48,
 qm 50 49,
 qmf 51 50 3,
 .rf 52 50 (.bin .gtr false (.t 51) (qI 0)),
 qmf 53 50 52,
 qmt 54 53 4,
 qft 55 53 5 1,
 qlt 56 53 55,
 qmt 57 53 3,
 .rt 58 53 (.bin .sub false (.t 57) (qI 1)),
 .rt 59 53 (.ixL 1 (.t 56) (.t 58)),
 qlt 60 53 59,
 .rt 61 53 (.bin .leq false (.t 54) (.t 60)),
 qmt 62 53 61,
 qmf 63 62 4,
 .rf 64 62 (.bin .gtr false (.t 63) (qI 1000000)),
 .rt 65 53 (.pick (.t 62) (.k (.v (.bool true))) (.t 64)),
 qmt 66 53 65,
 qmf 67 66 4,
 qff 68 66 5 1,
 qlf 69 66 68,
 qmf 70 66 3,
 .rf 71 66 (.bin .sub false (.t 70) (qI 1)),
 .rf 72 66 (.ixL 1 (.t 69) (.t 71)),
 qlf 73 66 72,
 .rf 74 66 (.bin .rem false (.t 67) (.t 73)),
 .rf 75 66 (.bin .neq false (.t 74) (qI 0)),
 .rt 76 53 (.pick (.t 66) (.k (.v (.bool true))) (.t 75)),
 .rf 77 50 (.pick (.t 53) (.t 76) (.k (.v (.bool false)))),
 qP 78 50 77])
 (qq 78
 (.seq
 (.reg 10 none [2] [
 qi 2 2])
 .ret)
 .skip))))
 (.reg 7 none [1,3] [
 qm 37 3,
 qa 38 37,
 qm 3 38]))))))
 (.seq
 (.reg 11 none [2] [
 qi 2 0])
 .ret)))))
def YD:List (Nat×List Nat):=qz wX
theorem YE:FnIR Tryz.prog yI 79 YD wX [(.tmp 2)]:=
 qF Tryz.func104
def QD:RC:=
 (.seq
 (.reg 0 none [1,2] [
 .r 2 (.box (.t 0)),
 qi 4 0])
 (.seq
 (.seq
 (.reg 1 none [1,2,18] [
 qL 5 2 2,
 qC 6 jB [.t 5],
 qB 7 .neq 6 0,
 qm 8 7,
 qmf 9 8 1,
 .rf 10 8 (.bin .lss false (.t 9) (qI 0)),
 qP 11 8 10,
 qm 12 11,
 qmf 13 12 1,
 qff 14 12 1 2,
 qlf 15 12 14,
 .rf 16 12 (.lenL (.t 15)),
 .rf 17 12 (.bin .geq false (.t 13) (.t 16)),
 qP 18 12 17])
 (qq 18
 (.seq
 (.reg 2 none [4] [
 .r 4 (.mv (.k (.v (.int .i64 (-1)))))])
 .ret)
 .skip))
 (.seq
 (.reg 3 none [4] [
 qL 19 2 2,
 qm 20 1,
 qC 21 zW [.t 19,.t 20],
 qm 4 21])
 .ret)))
def qj6:List (Nat×List Nat):=qz QD
theorem qj7:FnIR Tryz.prog Zm 22 qj6 QD [(.tmp 4)]:=
 qF Tryz.func105
def yV:RC:=
 (.seq
 (.reg 0 none [1] [
 .r 1 (.box (.t 0)),
 qi 2 0])
 (.seq
 (.seq
 (.reg 1 none [1,5] [
 qL 3 2 1,
 qC 4 jB [.t 3],
 qB 5 .neq 4 0])
 (qq 5
 (.seq
 (.reg 2 none [2] [
 .r 2 (.mv (.k (.v (.int .i64 (-1)))))])
 .ret)
 .skip))
 (.seq
 (.reg 3 none [2] [
 qL 6 2 1,
 qf 7 1 1,
 ql 8 7,
 qn 9 8,
 qB 10 .sub 9 1,
 qC 11 zW [.t 6,.t 10],
 qa 12 11,
 qm 2 12])
 .ret)))
def qe7:List (Nat×List Nat):=qz yV
theorem qe8:FnIR Tryz.prog wx 13 qe7 yV [(.tmp 2)]:=
 qF Tryz.func106
def wY:RC:=
 (.seq
 (.reg 0 none [0] [
 qc 2 false])
 (.seq
 (.reg 1 none [2] [
 qm 3 0,
 qm 4 0,
 qb 5 .neq 3 4,
 qm 2 5])
 .ret))
def YF:List (Nat×List Nat):=qz wY
theorem YG:FnIR Tryz.prog kR 6 YF wY [(.tmp 2)]:=
 qF Tryz.func107
def qM:RC:=
 (.seq
 (.reg 0 none [0,1,2] [
 qi 6 0,
 qc 7 false])
 (.seq
 (.reg 1 none [0,1,2,8] [
 qm 12 0,
 qn 13 12,
 qm 8 13])
 (.seq
 (.reg 2 none [0,1,2,8,9,10] [
 qm 14 8,
 qi 9 0,
 qm 10 14])
 (.seq
 (.block 0
 (.loop
 (.seq
 (.seq
 (.reg 3 none [0,1,2,8,9,10,17] [
 qm 15 9,
 qm 16 10,
 qb 17 .lss 15 16])
 (qq 17
 .skip
 (.exit 0)))
 (.block 1
 (.seq
 (.reg 4 none [0,1,2,8,9,10,11] [
 qm 18 9,
 qm 19 10,
 qb 20 .add 18 19,
 .r 21 (.cvI .u64 (.t 20)),
 .r 22 (.bin .shr false (.t 21) (.k (.v (.int .u64 1)))),
 .r 23 (.cvI .i64 (.t 22)),
 qm 11 23])
 (.seq
 (.reg 5 none [0,1,2,8,9,10,11,31] [
 qm 24 2,
 qm 25 0,
 qm 26 11,
 qx 27 1 25 26,
 ql 28 27,
 qm 29 1,
 .r 30 (.call (.t 24) [.t 28,.t 29]),
 qB 31 .lss 30 0])
 (qq 31
 (.reg 6 none [0,1,2,8,9,10] [
 qm 32 11,
 qa 33 32,
 qm 9 33])
 (.reg 7 none [0,1,2,8,9,10] [
 qm 34 11,
 qm 10 34]))))))))
 (.seq
 (.reg 8 none [6,7] [
 qm 35 9,
 qm 36 9,
 qm 37 8,
 qb 38 .lss 36 37,
 qm 39 38,
 qmt 40 39 2,
 qmt 41 39 0,
 qmt 42 39 9,
 .rt 43 39 (.ixL 1 (.t 41) (.t 42)),
 qlt 44 39 43,
 qmt 45 39 1,
 .rt 46 39 (.call (.t 40) [.t 44,.t 45]),
 .rt 47 39 (.bin .eql false (.t 46) (qI 0)),
 qp 48 39 47,
 qm 6 35,
 qm 7 48])
 .ret)))))
def jg:List (Nat×List Nat):=qz qM
theorem jh:FnIR Tryz.prog qR 49 jg qM [(.tmp 6),(.tmp 7)]:=
 qF Tryz.func108
def wn:RC:=
 (.seq
 (.reg 0 none [0,1] [
 qi 4 0])
 (.seq
 (.reg 1 none [4] [
 qm 5 0,
 .r 6 (.ixL 1 (.t 5) (qI 0)),
 ql 7 6,
 qm 8 1,
 qb 9 .sub 7 8,
 qm 4 9])
 .ret))
def WT:List (Nat×List Nat):=qz wn
theorem WU:FnIR Tryz.prog jU 10 WT wn [(.tmp 4)]:=
 qF Tryz.func109
def ji:RC:=
 (.seq
 (.reg 0 none [0,1] [
 qc 4 false])
 (.seq
 (.reg 1 none [4] [
 qm 5 0,
 qm 6 1,
 qC 7 kS [.t 5,.t 6],
 qB 8 .geq 7 0,
 qm 4 8])
 .ret))
def ZL:List (Nat×List Nat):=qz ji
theorem ZM:FnIR Tryz.prog jq 9 ZL ji [(.tmp 4)]:=
 qF Tryz.func110
def jv:RC:=
 (.seq
 (.reg 0 none [0,1,2] [
 .r 6 (.mv (qN))])
 (.seq
 (.reg 1 none [0,1,2] [
 qm 10 0,
 qm 11 1,
 .r 12 (.slL 1 (.t 10) (some (.t 11)) none)])
 (.seq
 (.reg 2 none [0,1,2,7] [
 qm 13 2,
 qn 14 13,
 qm 7 14])
 (.seq
 (.seq
 (.reg 3 none [0,1,2,7,16] [
 qm 15 7,
 qB 16 .eql 15 0])
 (qq 16
 (.seq
 (.reg 4 none [6] [
 qm 17 0,
 qm 6 17])
 .ret)
 .skip))
 (.seq
 (.reg 5 none [0,1,2,7,8] [
 qm 18 0,
 qn 19 18,
 qm 8 19])
 (.seq
 (.seq
 (.reg 6 none [0,1,2,7,8,22] [
 qm 20 1,
 qm 21 8,
 qb 22 .eql 20 21])
 (qq 22
 (.seq
 (.reg 7 none [6] [
 qm 23 0,
 qm 24 2,
 .r 25 (.app 1 24 false (.t 23) (.t 24)),
 qm 6 25])
 .ret)
 .skip))
 (.seq
 (.seq
 (.reg 8 none [0,1,2,7,8,31] [
 qm 26 8,
 qm 27 7,
 qb 28 .add 26 27,
 qm 29 0,
 .r 30 (.ext .capq [.t 29]),
 qb 31 .gtr 28 30])
 (qq 31
 (.seq
 (.reg 9 none [0,1,2,7,9] [
 qm 32 0,
 qm 33 1,
 .r 34 (.slL 1 (.t 32) none (some (.t 33))),
 qm 35 8,
 qm 36 7,
 qb 37 .add 35 36,
 qm 38 1,
 qb 39 .sub 37 38,
 .r 40 (.ext (.appM 1 24 (.v (.slice none 0 0))) [.t 34,.t 39]),
 qm 9 40])
 (.seq
 (.reg 10 none [0,1,7,9] [
 qm 41 9,
 qm 42 1,
 .r 43 (.slL 1 (.t 41) (some (.t 42)) none),
 qm 44 2,
 .r 45 (.ext (.cpy 1) [.t 43,.t 44])])
 (.seq
 (.reg 11 (some [0,0,0,6,15,0,0,96,255]) [9] [
 qm 46 9,
 qm 47 1,
 qm 48 7,
 qb 49 .add 47 48,
 .r 50 (.slL 1 (.t 46) (some (.t 49)) none),
 qm 51 0,
 qm 52 1,
 .r 53 (.slL 1 (.t 51) (some (.t 52)) none),
 .r 54 (.ext (.cpy 1) [.t 50,.t 53])])
 (.seq
 (.reg 12 none [6] [
 qm 55 9,
 qm 6 55])
 .ret))))
 .skip))
 (.seq
 (.reg 13 none [0,1,2,7,8] [
 qm 56 0,
 qm 57 8,
 qm 58 7,
 qb 59 .add 57 58,
 .r 60 (.slL 1 (.t 56) none (some (.t 59))),
 qm 0 60])
 (.seq
 (.seq
 (.reg 14 none [0,1,2,7,8,68] [
 qm 61 2,
 qm 62 0,
 qm 63 1,
 qm 64 7,
 qb 65 .add 63 64,
 .r 66 (.slL 1 (.t 62) (some (.t 65)) none),
 qC 67 wa [.t 61,.t 66],
 .r 68 (.un .not (.t 67))])
 (qq 68
 (.seq
 (.reg 15 (some [0,0,0,6,15,0,0,96,255]) [0,1,2] [
 qm 69 0,
 qm 70 1,
 qm 71 7,
 qb 72 .add 70 71,
 .r 73 (.slL 1 (.t 69) (some (.t 72)) none),
 qm 74 0,
 qm 75 1,
 .r 76 (.slL 1 (.t 74) (some (.t 75)) none),
 .r 77 (.ext (.cpy 1) [.t 73,.t 76])])
 (.seq
 (.reg 16 none [0] [
 qm 78 0,
 qm 79 1,
 .r 80 (.slL 1 (.t 78) (some (.t 79)) none),
 qm 81 2,
 .r 82 (.ext (.cpy 1) [.t 80,.t 81])])
 (.seq
 (.reg 17 none [6] [
 qm 83 0,
 qm 6 83])
 .ret)))
 .skip))
 (.seq
 (.reg 18 none [0,1,7] [
 qm 84 0,
 qm 85 8,
 .r 86 (.slL 1 (.t 84) (some (.t 85)) none),
 qm 87 2,
 .r 88 (.ext (.cpy 1) [.t 86,.t 87])])
 (.seq
 (.reg 19 none [0] [
 qm 89 0,
 qm 90 1,
 .r 91 (.slL 1 (.t 89) (some (.t 90)) none),
 qm 92 7,
 qC 93 Qq [.t 91,.t 92]])
 (.seq
 (.reg 20 none [6] [
 qm 94 0,
 qm 6 94])
 .ret))))))))))))
def Ju:List (Nat×List Nat):=qz jv
theorem Jv:FnIR Tryz.prog jH 95 Ju jv [(.tmp 6)]:=
 qF Tryz.func111
def KA:RC:=
 (.seq
 (.reg 0 none [1,2] [
 .r 2 (.box (.t 0)),
 .r 4 (.mv (qN))])
 (.seq
 (.reg 1 none [1,2,5] [
 .r 5 (.mv (qN))])
 (.seq
 (.seq
 (.reg 2 none [1,2,5,9] [
 qL 7 2 2,
 qC 8 jB [.t 7],
 qB 9 .neq 8 0])
 (qq 9
 (.seq
 (.reg 3 none [4] [
 .r 4 (.mv (qN))])
 .ret)
 .skip))
 (.seq
 (.seq
 (.reg 4 none [1,2,5,6] [
 qi 6 0])
 (.block 0
 (.loop
 (.seq
 (.seq
 (.reg 5 none [1,2,5,6,14] [
 qm 10 6,
 qf 11 1 2,
 ql 12 11,
 qn 13 12,
 qb 14 .lss 10 13])
 (qq 14
 .skip
 (.exit 0)))
 (.seq
 (.block 1
 (.seq
 (.reg 7 none [1,2,5,6,21] [
 qL 17 2 2,
 qm 18 6,
 qC 19 zW [.t 17,.t 18],
 qm 20 1,
 qb 21 .eql 19 20])
 (qq 21
 (.reg 8 none [1,2,5,6] [
 qm 22 5,
 qm 23 6,
 .r 24 (.bsl 1 1 [.t 23]),
 .r 25 (.app 1 8 false (.t 22) (.t 24)),
 qm 5 25])
 .skip)))
 (.reg 6 none [1,2,5,6] [
 qm 15 6,
 qa 16 15,
 qm 6 16]))))))
 (.seq
 (.reg 9 none [4] [
 qm 26 5,
 qm 4 26])
 .ret)))))
def qI3:List (Nat×List Nat):=qz KA
theorem qI4:FnIR Tryz.prog WL 27 qI3 KA [(.tmp 4)]:=
 qF Tryz.func114
def zp:RC:=
 (.seq
 (.reg 0 none [0,1] [
 .r 4 (.mv (.k (.v (.string ⟨#[]⟩))))])
 (.seq
 (.seq
 (.reg 1 none [0,1,11] [
 qm 10 1,
 qB 11 .eql 10 10])
 (qq 11
 (.seq
 (.seq
 (.reg 2 none [0,17] [
 qm 12 0,
 .r 13 (.bin .leq false (qI 0) (.t 12)),
 qm 14 13,
 qmt 15 14 0,
 .rt 16 14 (.bin .lss false (.t 15) (qI 100)),
 qp 17 14 16])
 (qq 17
 (.seq
 (.reg 3 none [4] [
 qm 18 0,
 qC 19 zQ [.t 18],
 qm 4 19])
 .ret)
 .skip))
 (.seq
 (.reg 4 none [0] [
 .r 5 (.new (.agg [.v (.int .u8 0),.v (.int .u8 0),.v (.int .u8 0),.v (.int .u8 0),.v (.int .u8 0),.v (.int .u8 0),.v (.int .u8 0),.v (.int .u8 0),.v (.int .u8 0),.v (.int .u8 0),.v (.int .u8 0),.v (.int .u8 0),.v (.int .u8 0),.v (.int .u8 0),.v (.int .u8 0),.v (.int .u8 0),.v (.int .u8 0),.v (.int .u8 0),.v (.int .u8 0),.v (.int .u8 0),.v (.int .u8 0),.v (.int .u8 0),.v (.int .u8 0),.v (.int .u8 0)]))])
 (.seq
 (.reg 5 none [0,6] [
 qm 20 0,
 .r 21 (.cvI .u64 (.t 20)),
 qm 6 21])
 (.seq
 (.seq
 (.reg 6 none [6,23] [
 qm 22 0,
 qB 23 .lss 22 0])
 (qq 23
 (.reg 7 none [6] [
 qm 24 6,
 .r 25 (.un .neg (.t 24)),
 qm 6 25])
 .skip))
 (.seq
 (.reg 8 none [] [
 qm 26 6,
 qC 27 yn [.t 26],
 qm 7 27])
 (.seq
 .stuck
 (.seq
 (.seq
 (.reg 10 none [5,34] [
 qm 33 0,
 qB 34 .lss 33 0])
 (qq 34
 (.seq
 (.reg 11 none [] [
 .r 35 (.ixA 24 1 (.t 5) (qI 0)),
 .rn (.st 1 (.t 35) (.k (.v (.int .u8 45))))])
 (.seq
 .stuck
 .ret))
 .skip))
 (.seq
 .stuck
 .ret))))))))
 .skip))
 (.seq
 (.reg 14 none [9] [
 qm 45 0,
 .r 46 (.cvI .u64 (.t 45)),
 qm 47 1,
 qm 48 0,
 qB 49 .lss 48 0,
 qC 50 wN [qN,.t 46,.t 47,.t 49,.k (.v (.bool false))],
 qm 44 50,
 .r 51 (.ex (.t 44) 0),
 .r 52 (.ex (.t 44) 1),
 qm 8 51,
 qm 9 52])
 (.seq
 (.reg 15 none [4] [
 qm 53 9,
 qm 4 53])
 .ret))))
def wZ:List (Nat×List Nat):=qz zp
theorem ya:FnIR Tryz.prog zr 54 wZ zp [(.tmp 4)]:=
 qF Tryz.func123
def zH:RC:=
 (.seq
 (.reg 0 none [0,1] [
 qi 4 0])
 (.seq
 (.seq
 (.reg 1 none [0,1,7,8] [
 qm 6 0,
 qn 7 6,
 qi 8 0])
 (.block 0
 (.loop
 (.seq
 (.reg 2 none [0,1,7,8,9] [
 qb 9 .lss 8 7])
 (.seq
 (qq 9
 .skip
 (.exit 0))
 (.seq
 (.block 1
 (.seq
 (.reg 3 none [0,1,5,7,8] [
 qm 10 8,
 qm 5 10])
 (.seq
 (.reg 4 none [0,1,5,7,8,16] [
 qm 11 1,
 qm 12 0,
 qm 13 5,
 qx 14 7 12 13,
 qL 15 7 14,
 .r 16 (.call (.t 11) [.t 15])])
 (qq 16
 (.seq
 (.reg 5 none [4] [
 qm 17 5,
 qm 4 17])
 .ret)
 .skip))))
 (.reg 6 none [0,1,7,8] [
 qa 18 8,
 qm 8 18])))))))
 (.seq
 (.reg 7 none [4] [
 .r 4 (.mv (.k (.v (.int .i64 (-1)))))])
 .ret)))
def Qb:List (Nat×List Nat):=qz zH
theorem Qc:FnIR Tryz.prog zM 19 Qb zH [(.tmp 4)]:=
 qF Tryz.func124
def zT:RC:=
 (.seq
 (.reg 0 none [0,1] [
 qi 4 0])
 (.seq
 (.seq
 (.reg 1 none [0,1,7,8] [
 qm 6 0,
 qn 7 6,
 qi 8 0])
 (.block 0
 (.loop
 (.seq
 (.reg 2 none [0,1,7,8,9] [
 qb 9 .lss 8 7])
 (.seq
 (qq 9
 .skip
 (.exit 0))
 (.seq
 (.block 1
 (.seq
 (.reg 3 none [0,1,5,7,8] [
 qm 10 8,
 qm 5 10])
 (.seq
 (.reg 4 none [0,1,5,7,8,16] [
 qm 11 1,
 qm 12 0,
 qm 13 5,
 qx 14 2 12 13,
 qL 15 2 14,
 .r 16 (.call (.t 11) [.t 15])])
 (qq 16
 (.seq
 (.reg 5 none [4] [
 qm 17 5,
 qm 4 17])
 .ret)
 .skip))))
 (.reg 6 none [0,1,7,8] [
 qa 18 8,
 qm 8 18])))))))
 (.seq
 (.reg 7 none [4] [
 .r 4 (.mv (.k (.v (.int .i64 (-1)))))])
 .ret)))
def QS:List (Nat×List Nat):=qz zT
theorem QT:FnIR Tryz.prog zX 19 QS zT [(.tmp 4)]:=
 qF Tryz.func125
def kp:RC:=
 (.seq
 (.reg 0 none [0,1] [
 qi 4 0])
 (.seq
 (.seq
 (.reg 1 none [0,1,7,8] [
 qm 6 0,
 qn 7 6,
 qi 8 0])
 (.block 0
 (.loop
 (.seq
 (.reg 2 none [0,1,7,8,9] [
 qb 9 .lss 8 7])
 (.seq
 (qq 9
 .skip
 (.exit 0))
 (.seq
 (.block 1
 (.seq
 (.reg 3 none [0,1,5,7,8] [
 qm 10 8,
 qm 5 10])
 (.seq
 (.reg 4 none [0,1,5,7,8,16] [
 qm 11 1,
 qm 12 0,
 qm 13 5,
 qx 14 1 12 13,
 ql 15 14,
 qb 16 .eql 11 15])
 (qq 16
 (.seq
 (.reg 5 none [4] [
 qm 17 5,
 qm 4 17])
 .ret)
 .skip))))
 (.reg 6 none [0,1,7,8] [
 qa 18 8,
 qm 8 18])))))))
 (.seq
 (.reg 7 none [4] [
 .r 4 (.mv (.k (.v (.int .i64 (-1)))))])
 .ret)))
def KB:List (Nat×List Nat):=qz kp
theorem KC:FnIR Tryz.prog kS 19 KB kp [(.tmp 4)]:=
 qF Tryz.func131
def zN:RC:=
 (.seq
 (.reg 0 none [0] [
 .r 2 (.mv (.k (.v (.string ⟨#[]⟩))))])
 (.seq
 (.seq
 (.reg 1 none [0,4] [
 qm 3 0,
 qB 4 .lss 3 10])
 (qq 4
 (.seq
 (.reg 2 none [2] [
 qm 5 0,
 qm 6 0,
 qa 7 6,
 .r 8 (.slS (.k (.v (.string ⟨#[48,49,50,51,52,53,54,55,56,57,97,98,99,100,101,102,103,104,105,106,107,108,109,110,111,112,113,114,115,116,117,118,119,120,121,122]⟩))) (some (.t 5)) (some (.t 7))),
 qm 2 8])
 .ret)
 .skip))
 (.seq
 (.reg 3 none [2] [
 qm 9 0,
 qB 10 .mul 9 2,
 qm 11 0,
 qB 12 .mul 11 2,
 qB 13 .add 12 2,
 .r 14 (.slS (.k (.v (.string ⟨#[48,48,48,49,48,50,48,51,48,52,48,53,48,54,48,55,48,56,48,57,49,48,49,49,49,50,49,51,49,52,49,53,49,54,49,55,49,56,49,57,50,48,50,49,50,50,50,51,50,52,50,53,50,54,50,55,50,56,50,57,51,48,51,49,51,50,51,51,51,52,51,53,51,54,51,55,51,56,51,57,52,48,52,49,52,50,52,51,52,52,52,53,52,54,52,55,52,56,52,57,53,48,53,49,53,50,53,51,53,52,53,53,53,54,53,55,53,56,53,57,54,48,54,49,54,50,54,51,54,52,54,53,54,54,54,55,54,56,54,57,55,48,55,49,55,50,55,51,55,52,55,53,55,54,55,55,55,56,55,57,56,48,56,49,56,50,56,51,56,52,56,53,56,54,56,55,56,56,56,57,57,48,57,49,57,50,57,51,57,52,57,53,57,54,57,55,57,56,57,57]⟩))) (some (.t 10)) (some (.t 13))),
 qm 2 14])
 .ret)))
def QE:List (Nat×List Nat):=qz zN
theorem QF:FnIR Tryz.prog zQ 15 QE zN [(.tmp 2)]:=
 qF Tryz.func138
theorem ZC:zb9 Tryz.prog wH:=
 ⟨Tryz.f112,Tryz.func112,by kernel_rfl,by kernel_rfl,by kernel_rfl,by kernel_rfl,by kernel_rfl⟩
theorem QU:zb9 Tryz.prog wa:=
 ⟨Tryz.f132,Tryz.func132,by kernel_rfl,by kernel_rfl,by kernel_rfl,by kernel_rfl,by kernel_rfl⟩
end Go.Proofs
