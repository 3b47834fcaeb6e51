/- A part of the proof: Ir. -/
import Derived.WalkKit
import Derived.Still
import Derived.MapKept
import GoSem.Builtin.Cap
import Derived.Laws.Externs
import GoSem.Extern.SlicesOverlaps
import Derived.Carry
import Derived.ProofKit
import Derived.OpenShut
import Derived.HandedShaped
import Derived.Lay
import Derived.LaidLaws
import Derived.MakeChecks
import Derived.SevenTiedAt
import Derived.Test.YtiddpnhnaooohaaGreatDoorChecked
import Derived.Test.YtiddpnhnaooohaaGreatDoorK13
namespace Go.Proofs
open Go.TL
abbrev qm (d a:Nat):ROp:=.r d (.mv (.t a))
abbrev ql (d a:Nat):ROp:=.r d (.ld none (.t a))
abbrev qL (d l a:Nat):ROp:=.r d (.ld (some l) (.t a))
abbrev qf (d k a:Nat):ROp:=.r d (.fa k (.t a))
abbrev qx (d k a b:Nat):ROp:=.r d (.ixL k (.t a) (.t b))
abbrev qn (d a:Nat):ROp:=.r d (.lenL (.t a))
abbrev qi (d:Nat) (n:Int):ROp:=.r d (.mv (.k (.v (.int .i64 n))))
abbrev qa (d a:Nat):ROp:=.r d (.bin .add false (.t a) (.k (.v (.int .i64 1))))
abbrev qb (d:Nat) (o:BinOp) (a b:Nat):ROp:=.r d (.bin o false (.t a) (.t b))
abbrev qB (d:Nat) (o:BinOp) (a:Nat) (n:Int):ROp:=.r d (.bin o false (.t a) (.k (.v (.int .i64 n))))
abbrev qmt (d g a:Nat):ROp:=.rt d g (.mv (.t a))
abbrev qmf (d g a:Nat):ROp:=.rf d g (.mv (.t a))
abbrev qlt (d g a:Nat):ROp:=.rt d g (.ld none (.t a))
abbrev qlf (d g a:Nat):ROp:=.rf d g (.ld none (.t a))
abbrev qft (d g k a:Nat):ROp:=.rt d g (.fa k (.t a))
abbrev qff (d g k a:Nat):ROp:=.rf d g (.fa k (.t a))
abbrev qc (d:Nat) (b:Bool):ROp:=.r d (.mv (.k (.v (.bool b))))
abbrev qp (d a b:Nat):ROp:=.r d (.pick (.t a) (.t b) (.k (.v (.bool false))))
abbrev qP (d a b:Nat):ROp:=.r d (.pick (.t a) (.k (.v (.bool true))) (.t b))
abbrev qs (l a b:Nat):ROp:=.rn (.st l (.t a) (.t b))
abbrev qC (d:Nat) (f:FuncId) (l:List RV):ROp:=.r d (.call (.k (.clo f [])) l)
abbrev qq (t:Nat) (a b:RC):RC:=.cond (.t t) a b
abbrev qI (n:Int):RV:=.k (.v (.int .i64 n))
abbrev qN:RV:=.k (.v (.slice none 0 0))
theorem qF {P:Program} {f:FuncId} {n:Nat} {kss:List (Nat×List Nat)} {rc:RC} {rs:List RR} {fn:Func} {c:Code} (h:P.funcs[f]?=some fn) (h1:fn.body=some c:=by rfl) (h2:goFn P f=true:=by kernel_rfl) (h3:fn.ntmps=n:=by rfl) (h4:rsvC P n kss c=some rc:=by kernel_rfl) (h5:qs2 P fn.results.toList=some rs:=by kernel_rfl):FnIR P f n kss rc rs:=⟨fn,c,h,h1,h2,h3,h4,h5⟩
abbrev Qn:FuncId:=5
abbrev Kv:FuncId:=8
abbrev qn8:FuncId:=9
abbrev jC:FuncId:=10
abbrev zz:FuncId:=11
abbrev wO:FuncId:=12
abbrev yD:FuncId:=13
abbrev yE:FuncId:=17
abbrev jo:FuncId:=18
abbrev jD:FuncId:=19
abbrev wl:FuncId:=21
abbrev jg:FuncId:=22
abbrev Qd:FuncId:=23
abbrev Ja:FuncId:=24
abbrev ze:FuncId:=27
abbrev Ji:FuncId:=28
abbrev Kw:FuncId:=29
abbrev kB:FuncId:=30
abbrev zj:FuncId:=31
abbrev qO:FuncId:=32
abbrev kL:FuncId:=33
abbrev kW:FuncId:=34
abbrev qz:FuncId:=35
abbrev zA:FuncId:=36
abbrev wP:FuncId:=37
abbrev yF:FuncId:=38
abbrev jP:FuncId:=39
abbrev zr:FuncId:=40
abbrev wQ:FuncId:=41
abbrev Qw:FuncId:=42
abbrev QS:FuncId:=44
abbrev wG:FuncId:=46
abbrev jQ:FuncId:=48
abbrev Kx:FuncId:=49
abbrev Qe:FuncId:=51
abbrev wm:FuncId:=52
abbrev jp:FuncId:=53
abbrev kC:FuncId:=54
abbrev yG:FuncId:=55
abbrev yH:FuncId:=56
abbrev Jj:FuncId:=57
abbrev wR:FuncId:=58
abbrev Ky:FuncId:=59
abbrev zD:FuncId:=60
abbrev YG:FuncId:=61
abbrev wS:FuncId:=62
abbrev Kz:FuncId:=63
abbrev wT:FuncId:=64
abbrev qb6:FuncId:=65
abbrev Qf:FuncId:=66
abbrev qb7:FuncId:=67
abbrev Jb:FuncId:=68
abbrev wU:FuncId:=69
abbrev QT:FuncId:=70
abbrev Zo:FuncId:=71
abbrev jE:FuncId:=72
abbrev jR:FuncId:=73
abbrev qn9:FuncId:=74
abbrev kX:FuncId:=75
abbrev jh:FuncId:=76
abbrev wH:FuncId:=77
abbrev jq:FuncId:=78
abbrev wv:FuncId:=79
abbrev ww:FuncId:=80
abbrev wx:FuncId:=81
abbrev KA:FuncId:=82
abbrev wV:FuncId:=83
abbrev jr:FuncId:=84
abbrev jN:FuncId:=85
abbrev jF:FuncId:=86
abbrev Qo:FuncId:=87
abbrev wW:FuncId:=90
abbrev KB:FuncId:=91
abbrev wX:FuncId:=94
abbrev jd:FuncId:=95
abbrev wY:FuncId:=96
abbrev kM:FuncId:=97
abbrev QU:FuncId:=98
abbrev zf:FuncId:=99
abbrev jl:FuncId:=100
abbrev zV:FuncId:=101
abbrev WS:FuncId:=102
abbrev jG:FuncId:=103
abbrev zo:FuncId:=104
abbrev QV:FuncId:=105
abbrev QW:FuncId:=106
abbrev Jc:FuncId:=107
abbrev QX:FuncId:=108
abbrev WT:FuncId:=109
abbrev Jd:FuncId:=110
abbrev zK:FuncId:=111
abbrev kD:FuncId:=112
abbrev zB:FuncId:=113
abbrev wn:FuncId:=114
abbrev kN:FuncId:=115
abbrev kE:FuncId:=116
abbrev wq:FuncId:=117
abbrev jm:FuncId:=118
abbrev KC:FuncId:=119
abbrev zg:FuncId:=120
abbrev je:FuncId:=121
abbrev jH:FuncId:=122
abbrev KD:FuncId:=123
abbrev JY:FuncId:=124
abbrev kY:FuncId:=125
abbrev Zi:FuncId:=126
abbrev KE:FuncId:=127
abbrev kF:FuncId:=128
abbrev kZ:FuncId:=129
abbrev js:FuncId:=130
abbrev KG:FuncId:=131
abbrev Jk:FuncId:=132
abbrev wZ:FuncId:=137
abbrev yI:FuncId:=138
abbrev wt:FuncId:=139
abbrev jI:FuncId:=140
abbrev WU:FuncId:=141
abbrev JZ:FuncId:=142
abbrev jt:FuncId:=143
abbrev QY:FuncId:=144
abbrev Qx:FuncId:=146
abbrev ji:FuncId:=147
abbrev zQ:FuncId:=148
abbrev zL:FuncId:=149
abbrev zW:FuncId:=150
abbrev kh:FuncId:=151
abbrev Zp:FuncId:=152
abbrev kO:FuncId:=153
abbrev Qy:FuncId:=154
abbrev Zq:FuncId:=155
abbrev zX:FuncId:=156
abbrev ya:FuncId:=157
abbrev Zr:FuncId:=158
abbrev jj:FuncId:=164
abbrev Qz:FuncId:=165
abbrev yb:FuncId:=166
abbrev jJ:FuncId:=167
def jU:RC:=
 (.seq
 (.reg 0 none [0] [
 qc 2 false])
 (.seq
 (.reg 1 none [3] [
 qm 11 0,
 qC 12 qn8 [.t 11],
 qm 3 12])
 (.seq
 (.reg 2 none [3,4] [
 qm 13 3,
 qC 14 jC [.t 13],
 .r 4 (.new (.agg [.v (.slice none 0 0),.v (.slice none 0 0)])),
 qs 2 4 14])
 (.seq
 (.reg 3 (some [0,0,3,0,0,31,0,127,255]) [4,5,6] [
 qm 15 3,
 qL 16 2 4,
 .r 17 (.call (.k (.clo zz [])) [.t 15,.t 16,.k (.v (.string ⟨#[113]⟩))]),
 qm 18 3,
 qL 19 2 4,
 qC 20 wl [.t 18,.t 19],
 .r 5 (.new (.agg [.v (.string ⟨#[]⟩),.v (.int .i64 0),.v (.int .i64 0),.v (.int .i64 0),.v (.int .i64 0),.v (.int .i64 0),.v (.int .i64 0),.v (.slice none 0 0),.v (.slice none 0 0),.v (.int .i64 0),.v (.slice none 0 0),.v (.int .i64 0),.v (.int .i64 0),.v (.int .i64 0),.v (.int .i64 0),.v (.int .i64 0),.v (.slice none 0 0)])),
 qs 17 5 17,
 qm 6 20])
 (.seq
 (.reg 4 none [4,5,6,7] [
 qL 21 2 4,
 qL 22 17 5,
 qC 23 jo [.t 21,.t 22],
 qm 7 23])
 (.seq
 (.reg 5 none [4,5,6,7,8] [
 .r 8 (.mv (qN))])
 (.seq
 (.seq
 (.reg 6 none [4,5,6,7,8,24,25,26] [
 qm 24 7,
 qn 25 24,
 qi 26 0])
 (.block 0
 (.loop
 (.seq
 (.reg 7 none [4,5,6,7,8,24,25,26,27] [
 qb 27 .lss 26 25])
 (.seq
 (qq 27
 .skip
 (.exit 0))
 (.seq
 (.block 1
 (.seq
 (.reg 8 none [4,5,6,7,8,10,24,25,26] [
 qx 28 2 24 26,
 qL 29 2 28,
 .r 10 (.new (.agg [.v (.int .i64 0),.v (.int .i64 0)])),
 qs 2 10 29])
 (.seq
 (.seq
 (.reg 9 none [4,5,6,7,8,10,24,25,26,39] [
 qf 30 0 10,
 ql 31 30,
 qB 32 .lss 31 1,
 qm 33 32,
 qff 34 33 0 10,
 qlf 35 33 34,
 qmf 36 33 6,
 .rf 37 33 (.lenL (.t 36)),
 .rf 38 33 (.bin .geq false (.t 35) (.t 37)),
 qP 39 33 38])
 (qq 39
 (.seq
 (.reg 10 none [2] [
 qc 2 false])
 .ret)
 .skip))
 (.reg 11 (some [0,0,0,4,0,16,0,0,128,448,960,2046,4094,8191,16383]) [4,5,6,7,8,24,25,26] [
 qm 40 8,
 qL 41 2 4,
 qf 42 0 10,
 ql 43 42,
 qf 44 1 10,
 ql 45 44,
 qm 46 6,
 qf 47 0 10,
 ql 48 47,
 qx 49 1 46 48,
 ql 50 49,
 qC 51 jg [.t 41,.t 43,.t 45,.t 50],
 .r 52 (.bsl 1 1 [.t 51]),
 .r 53 (.app 1 8 false (.t 40) (.t 52)),
 qm 8 53]))))
 (.reg 12 none [4,5,6,7,8,24,25,26] [
 qa 54 26,
 qm 26 54])))))))
 (.seq
 (.seq
 (.reg 13 (some [0,0,2,0,0,31,0,0,128,0,1023,2047]) [4,5,6,7,8,66] [
 qL 55 2 4,
 qf 56 2 5,
 qL 57 6 56,
 qm 58 7,
 qm 59 8,
 qC 60 Qd [.t 55,.t 57,.t 58,.t 59],
 qL 61 2 4,
 qf 62 2 5,
 qL 63 6 62,
 qm 64 6,
 qC 65 Ja [.t 61,.t 63,.t 64],
 qb 66 .neq 60 65])
 (qq 66
 (.seq
 (.reg 14 none [2] [
 qc 2 false])
 .ret)
 .skip))
 (.seq
 (.reg 15 (some [0,1,3,7,15,15,47,15,15,511,15,15,2063,15,16383,32767,65535,131071,262143,524287,1048575]) [2] [
 qf 67 1 5,
 ql 68 67,
 qB 69 .neq 68 3,
 qm 70 69,
 .rf 71 70 (.ld (some 2) (.t 4)),
 qff 72 70 11 5,
 .rf 73 70 (.ld (some 6) (.t 72)),
 qmf 74 70 7,
 qmf 75 70 8,
 .rf 76 70 (.call (.k (.clo Qd [])) [.t 71,.t 73,.t 74,.t 75]),
 .rf 77 70 (.ld (some 2) (.t 4)),
 qff 78 70 11 5,
 .rf 79 70 (.ld (some 6) (.t 78)),
 qmf 80 70 6,
 .rf 81 70 (.call (.k (.clo Ja [])) [.t 77,.t 79,.t 80]),
 .rf 82 70 (.bin .eql false (.t 76) (.t 81)),
 qP 83 70 82,
 qm 84 83,
 .rt 85 84 (.call (.k (.clo Kv [])) []),
 qp 86 84 85,
 qm 2 86])
 .ret)))))))))
def Wn:List (Nat×List Nat):=qy jU
theorem Wo:FnIR Tryz.prog Qn 87 Wn jU [(.tmp 2)]:=
 qF Tryz.func5
def Jl:RC:=
 (.seq
 (.reg 0 none [] [
 qc 0 false])
 (.seq
 (.reg 1 none [1] [
 .r 4 (.build [.v (.string ⟨#[]⟩),.v (.int .i64 0)] [((0,1),.k (.v (.string ⟨#[97]⟩))),((1,1),.k (.v (.int .i64 (-1))))]),
 .r 5 (.build [.v (.string ⟨#[]⟩),.v (.int .i64 0)] [((0,1),.k (.v (.string ⟨#[98]⟩)))]),
 .r 6 (.build [.v (.string ⟨#[]⟩),.v (.int .i64 0)] [((0,1),.k (.v (.string ⟨#[99]⟩)))]),
 .r 7 (.build [.v (.string ⟨#[]⟩),.v (.int .i64 0)] [((0,1),.k (.v (.string ⟨#[100]⟩))),((1,1),qI 1)]),
 .r 8 (.build [.v (.string ⟨#[]⟩),.v (.int .i64 0)] [((0,1),.k (.v (.string ⟨#[101]⟩))),((1,1),qI 2)]),
 .r 9 (.bsl 2 5 [.t 4,.t 5,.t 6,.t 7,.t 8]),
 .r 10 (.build [.v (.string ⟨#[]⟩),.v (.slice none 0 0)] [((0,1),.k (.v (.string ⟨#[108]⟩))),((1,1),.t 9)]),
 .r 11 (.bsl 2 1 [.t 10]),
 .r 12 (.build [.v (.string ⟨#[]⟩),.v (.int .i64 0),.v (.int .i64 0),.v (.int .i64 0),.v (.int .i64 0),.v (.slice none 0 0),.v (.bool false)] [((0,1),.k (.v (.string ⟨#[119,104,111]⟩))),((1,1),qI 1)]),
 .r 13 (.build [.v (.string ⟨#[]⟩),.v (.int .i64 0),.v (.int .i64 0),.v (.int .i64 0),.v (.int .i64 0),.v (.slice none 0 0),.v (.bool false)] [((0,1),.k (.v (.string ⟨#[115,101,120]⟩))),((1,1),qI 2)]),
 .r 14 (.bsl 7 2 [.t 12,.t 13]),
 .r 15 (.build [.v (.slice none 0 0),.v (.slice none 0 0)] [((0,1),.t 11),((1,1),.t 14)]),
 .r 1 (.new (.agg [.v (.slice none 0 0),.v (.slice none 0 0)])),
 qs 2 1 15])
 (.seq
 (.reg 2 none [1,2] [
 .r 16 (.build [.v (.int .i64 0),.v (.int .i64 0),.v (.int .i64 0),.v (.int .i64 0),.v (.int .i64 0),.v (.slice none 0 0)] [((0,1),qI 1)]),
 .r 17 (.build [.v (.int .i64 0),.v (.int .i64 0)] [((0,1),qI 1),((1,1),qI 2)]),
 .r 18 (.bsl 2 1 [.t 17]),
 .r 19 (.build [.v (.string ⟨#[]⟩),.v (.int .i64 0),.v (.int .i64 0),.v (.int .i64 0),.v (.int .i64 0),.v (.int .i64 0),.v (.int .i64 0),.v (.slice none 0 0),.v (.slice none 0 0),.v (.int .i64 0),.v (.slice none 0 0),.v (.int .i64 0),.v (.int .i64 0),.v (.int .i64 0),.v (.int .i64 0),.v (.int .i64 0),.v (.slice none 0 0)] [((0,1),.k (.v (.string ⟨#[113]⟩))),((1,1),qI 1),((2,6),.t 16),((8,1),.t 18),((9,1),.k (.v (.int .i64 (-1))))]),
 .r 2 (.new (.agg [.v (.string ⟨#[]⟩),.v (.int .i64 0),.v (.int .i64 0),.v (.int .i64 0),.v (.int .i64 0),.v (.int .i64 0),.v (.int .i64 0),.v (.slice none 0 0),.v (.slice none 0 0),.v (.int .i64 0),.v (.slice none 0 0),.v (.int .i64 0),.v (.int .i64 0),.v (.int .i64 0),.v (.int .i64 0),.v (.int .i64 0),.v (.slice none 0 0)])),
 qs 17 2 19])
 (.seq
 (.reg 3 none [1,2,3] [
 qL 20 2 1,
 qL 21 17 2,
 qC 22 jo [.t 20,.t 21],
 qm 3 22])
 (.seq
 (.reg 4 none [0] [
 qm 23 3,
 .r 24 (.build [.v (.int .i64 0),.v (.int .i64 0)] [((0,1),qI 1),((1,1),qI 1)]),
 .r 25 (.bsl 2 1 [.t 24]),
 qC 26 yE [.t 23,.t 25],
 qm 27 26,
 .rt 28 27 (.ld (some 2) (.t 1)),
 .rt 29 27 (.ld (some 17) (.t 2)),
 qmt 30 27 3,
 .rt 31 27 (.call (.k (.clo jD [])) [.t 28,.t 29,.t 30]),
 qp 32 27 31,
 qm 33 32,
 .rt 34 33 (.ld (some 2) (.t 1)),
 .rt 35 33 (.ld (some 17) (.t 2)),
 .rt 36 33 (.call (.k (.clo jD [])) [.t 34,.t 35,qN]),
 .rt 37 33 (.un .not (.t 36)),
 qp 38 33 37,
 qm 39 38,
 .rt 40 39 (.ld (some 2) (.t 1)),
 .rt 41 39 (.ld (some 17) (.t 2)),
 .rt 42 39 (.call (.k (.clo yD [])) [.t 40,.t 41,qI 1,qI 3,qI 4]),
 qp 43 39 42,
 qm 0 43])
 .ret)))))
def qH1:List (Nat×List Nat):=qy Jl
theorem qH2:FnIR Tryz.prog Kv 44 qH1 Jl [(.tmp 0)]:=
 qF Tryz.func8
def qb8:RC:=
 (.seq
 (.reg 0 none [0] [
 .r 2 (.mv (.k (.v (.pointer none))))])
 (.seq
 (.reg 1 none [2] [
 qm 3 0,
 qm 4 0,
 qn 5 4,
 .r 6 (.mn [.t 5,qI 400]),
 .r 7 (.slL 1 (.t 3) none (some (.t 6))),
 .r 8 (.build [.v (.slice none 0 0),.v (.int .i64 0)] [((0,1),.t 7)]),
 .r 9 (.box (.t 8)),
 qm 2 9])
 .ret))
def zn2:List (Nat×List Nat):=qy qb8
theorem zn3:FnIR Tryz.prog qn8 10 zn2 qb8 [(.tmp 2)]:=
 qF Tryz.func9
def kP:RC:=
 (.seq
 (.reg 0 none [0,2] [
 .r 2 (.new (.agg [.v (.slice none 0 0),.v (.slice none 0 0)]))])
 (.seq
 (.reg 1 none [0,2,3] [
 qm 5 0,
 .r 6 (.call (.k (.clo kB [])) [.t 5,.k (.v (.string ⟨#[111,110,101]⟩))]),
 qm 7 0,
 .r 8 (.call (.k (.clo kB [])) [.t 7,.k (.v (.string ⟨#[116,119,111]⟩))]),
 .r 9 (.bsl 2 2 [.t 6,.t 8]),
 .r 10 (.build [.v (.string ⟨#[]⟩),.v (.int .i64 0),.v (.int .i64 0),.v (.int .i64 0),.v (.int .i64 0),.v (.slice none 0 0),.v (.bool false)] [((0,1),.k (.v (.string ⟨#[119,104,111]⟩))),((1,1),qI 1)]),
 .r 11 (.build [.v (.string ⟨#[]⟩),.v (.int .i64 0),.v (.int .i64 0),.v (.int .i64 0),.v (.int .i64 0),.v (.slice none 0 0),.v (.bool false)] [((0,1),.k (.v (.string ⟨#[115,101,120]⟩))),((1,1),qI 2)]),
 .r 12 (.bsl 7 2 [.t 10,.t 11]),
 .r 13 (.build [.v (.slice none 0 0),.v (.slice none 0 0)] [((0,1),.t 9),((1,1),.t 12)]),
 .r 3 (.new (.agg [.v (.slice none 0 0),.v (.slice none 0 0)])),
 qs 2 3 13])
 (.seq
 (.seq
 (.reg 2 none [0,2,3,15] [
 qm 14 0,
 qC 15 zj [.t 14,qI 2]])
 (qq 15
 (.reg 3 none [0,2,3] [
 qf 16 1 3,
 ql 17 16,
 .r 18 (.build [.v (.string ⟨#[]⟩),.v (.int .i64 0),.v (.int .i64 0),.v (.int .i64 0),.v (.int .i64 0),.v (.slice none 0 0),.v (.bool false)] [((0,1),.k (.v (.string ⟨#[106,111,98]⟩))),((1,1),qI 2),((2,1),qI 1)]),
 .r 19 (.bsl 7 1 [.t 18]),
 .r 20 (.app 7 80 false (.t 17) (.t 19)),
 qf 21 1 3,
 qs 1 21 20])
 .skip))
 (.seq
 (.seq
 (.reg 4 none [0,2,3,4] [
 qm 22 0,
 qC 23 qO [.t 22,qI 1,qI 3],
 qm 4 23])
 (.block 0
 (.loop
 (.seq
 (.seq
 (.reg 5 none [0,2,3,4,25] [
 qm 24 4,
 qB 25 .gtr 24 0])
 (qq 25
 .skip
 (.exit 0)))
 (.seq
 (.block 1
 (.reg 7 (some [0,1,0,0,8,24,56,120,252,508,1023,2047,4095]) [0,2,3,4] [
 qf 28 1 3,
 ql 29 28,
 qm 30 0,
 qf 31 1 3,
 ql 32 31,
 qn 33 32,
 qC 34 kW [.t 33],
 .r 35 (.bin .add false (.k (.v (.string ⟨#[109]⟩))) (.t 34)),
 qC 36 kL [.t 30,.t 35],
 .r 37 (.bsl 7 1 [.t 36]),
 .r 38 (.app 7 80 false (.t 29) (.t 37)),
 qf 39 1 3,
 qs 1 39 38]))
 (.reg 6 none [0,2,3,4] [
 qm 26 4,
 qB 27 .sub 26 1,
 qm 4 27]))))))
 (.seq
 (.reg 8 none [2] [
 qL 40 2 3,
 qs 2 2 40])
 .ret)))))
def YM:List (Nat×List Nat):=qy kP
theorem YN:FnIR Tryz.prog jC 41 YM kP [(.cell 2 (some 2))]:=
 qF Tryz.func10
def jV:RC:=
 (.seq
 (.reg 0 none [0,2,4,6] [
 .r 4 (.box (.t 1)),
 .r 6 (.new (.agg [.v (.string ⟨#[]⟩),.v (.int .i64 0),.v (.int .i64 0),.v (.int .i64 0),.v (.int .i64 0),.v (.int .i64 0),.v (.int .i64 0),.v (.slice none 0 0),.v (.slice none 0 0),.v (.int .i64 0),.v (.slice none 0 0),.v (.int .i64 0),.v (.int .i64 0),.v (.int .i64 0),.v (.int .i64 0),.v (.int .i64 0),.v (.slice none 0 0)]))])
 (.seq
 (.reg 1 (some [0,0,0,0,8,30,63,0,255]) [0,4,6,7] [
 qm 10 2,
 qm 11 0,
 qL 12 2 4,
 qm 13 0,
 qC 14 qz [.t 13,qI 3],
 qC 15 ze [.t 11,.t 12,.t 14],
 .r 16 (.build [.v (.string ⟨#[]⟩),.v (.int .i64 0),.v (.int .i64 0),.v (.int .i64 0),.v (.int .i64 0),.v (.int .i64 0),.v (.int .i64 0),.v (.slice none 0 0),.v (.slice none 0 0),.v (.int .i64 0),.v (.slice none 0 0),.v (.int .i64 0),.v (.int .i64 0),.v (.int .i64 0),.v (.int .i64 0),.v (.int .i64 0),.v (.slice none 0 0)] [((0,1),.t 10),((1,1),qI 1),((2,6),.t 15),((9,1),.k (.v (.int .i64 (-1))))]),
 .r 7 (.new (.agg [.v (.string ⟨#[]⟩),.v (.int .i64 0),.v (.int .i64 0),.v (.int .i64 0),.v (.int .i64 0),.v (.int .i64 0),.v (.int .i64 0),.v (.slice none 0 0),.v (.slice none 0 0),.v (.int .i64 0),.v (.slice none 0 0),.v (.int .i64 0),.v (.int .i64 0),.v (.int .i64 0),.v (.int .i64 0),.v (.int .i64 0),.v (.slice none 0 0)])),
 qs 17 7 16])
 (.seq
 (.reg 2 none [0,4,6,7,8] [
 qm 17 0,
 qL 18 2 4,
 qC 19 zA [.t 17,.t 18],
 qm 8 19])
 (.seq
 (.seq
 (.reg 3 none [0,4,6,7,8,21] [
 qm 20 0,
 qC 21 qz [.t 20,qI 4]])
 (.block 0
 (.seq
 (.reg 4 none [0,4,6,7,8,21,22] [
 qB 23 .eql 21 1,
 qm 22 23])
 (qq 22
 (.reg 5 none [0,4,6,7] [
 qm 24 8,
 qf 25 9 7,
 qs 1 25 24])
 (.seq
 (.reg 6 none [0,4,6,7,8,21,26] [
 qB 27 .eql 21 2,
 qm 26 27])
 (qq 26
 (.seq
 (.reg 7 none [0,4,6,7,8,9] [
 qm 28 0,
 qL 29 2 4,
 qm 30 8,
 qC 31 wP [.t 28,.t 29,.t 30],
 qm 9 31])
 (.seq
 (.reg 8 none [0,4,6,7,8,9,34] [
 qm 32 9,
 qn 33 32,
 qB 34 .gtr 33 0])
 (qq 34
 (.seq
 (.reg 9 none [6,7] [
 qm 35 8,
 qm 36 9,
 qf 37 1 7,
 .rn (.st 1 (.t 37) (qI 2)),
 qf 38 9 7,
 qs 1 38 35,
 qf 39 10 7,
 qs 1 39 36])
 (.seq
 (.reg 10 none [6] [
 qL 40 17 7,
 qs 17 6 40])
 .ret))
 .skip)))
 (.seq
 (.reg 11 none [0,4,6,7,8,41] [
 qB 42 .eql 21 3,
 qm 41 42])
 (qq 41
 (.seq
 (.reg 12 none [0,4,6,7,8,49] [
 qf 43 1 4,
 ql 44 43,
 qm 45 8,
 qx 46 7 44 45,
 qf 47 3 46,
 ql 48 47,
 qB 49 .geq 48 0])
 (qq 49
 (.seq
 (.reg 13 none [6,7] [
 qm 50 8,
 qm 51 0,
 qL 52 2 4,
 qC 53 ze [.t 51,.t 52,qI 1],
 qf 54 1 7,
 .rn (.st 1 (.t 54) (qI 3)),
 qf 55 9 7,
 qs 1 55 50,
 qf 56 11 7,
 qs 6 56 53])
 (.seq
 (.reg 14 none [6] [
 qL 57 17 7,
 qs 17 6 57])
 .ret))
 .skip))
 .skip))))))))
 (.seq
 (.reg 15 none [6,7] [
 qm 58 0,
 qL 59 2 4,
 qC 60 yF [.t 58,.t 59],
 qf 61 8 7,
 qs 1 61 60])
 (.seq
 (.reg 16 none [6] [
 qL 62 17 7,
 qs 17 6 62])
 .ret))))))
def Wp:List (Nat×List Nat):=qy jV
theorem Wq:FnIR Tryz.prog zz 63 Wp jV [(.cell 6 (some 17))]:=
 qF Tryz.func11
def zm:RC:=
 (.seq
 (.reg 0 none [0,2,4] [
 .r 4 (.box (.t 1)),
 qi 6 0])
 (.seq
 (.reg 1 none [0,2,4,7] [
 qf 9 1 4,
 ql 10 9,
 qm 11 2,
 qx 12 7 10 11,
 qL 13 7 12,
 .r 7 (.new (.agg [.v (.string ⟨#[]⟩),.v (.int .i64 0),.v (.int .i64 0),.v (.int .i64 0),.v (.int .i64 0),.v (.slice none 0 0),.v (.bool false)])),
 qs 7 7 13])
 (.seq
 (.seq
 (.reg 2 none [0,2,4,7,15] [
 qf 14 1 7,
 ql 15 14])
 (.block 0
 (.seq
 (.reg 3 none [0,2,4,7,15,16] [
 qB 17 .eql 15 1,
 qm 16 17])
 (qq 16
 (.seq
 (.reg 4 none [6] [
 qm 18 0,
 qC 19 qO [.t 18,qI 1,qI 60],
 qm 6 19])
 .ret)
 (.seq
 (.reg 5 none [0,2,4,7,20] [
 qB 21 .eql 15 2,
 qm 20 21])
 (qq 20
 (.seq
 (.reg 6 none [0,8] [
 qL 22 2 4,
 qm 23 2,
 qC 24 jP [.t 22,.t 23],
 qm 8 24])
 (.seq
 (.reg 7 none [6] [
 qm 25 8,
 qm 26 0,
 qm 27 8,
 qn 28 27,
 qC 29 qz [.t 26,.t 28],
 qx 30 1 25 29,
 ql 31 30,
 qm 6 31])
 .ret))
 .skip))))))
 (.seq
 (.seq
 (.reg 8 none [0,7,37] [
 qf 32 6 7,
 ql 33 32,
 qm 34 33,
 qmt 35 34 0,
 .rt 36 34 (.call (.k (.clo zj [])) [.t 35,qI 4]),
 qp 37 34 36])
 (qq 37
 (.seq
 (.reg 9 none [6] [
 .r 6 (.mv (.k (.v (.int .i64 (-1099511627776)))))])
 .ret)
 .skip))
 (.seq
 (.reg 10 none [6] [
 qm 38 0,
 qf 39 3 7,
 ql 40 39,
 qf 41 4 7,
 ql 42 41,
 qC 43 qO [.t 38,.t 40,.t 42],
 qm 6 43])
 .ret)))))
def qb9:List (Nat×List Nat):=qy zm
theorem zR:FnIR Tryz.prog wO 44 qb9 zm [(.tmp 6)]:=
 qF Tryz.func12
def yc:RC:=
 (.seq
 (.reg 0 none [2,3,4,5,6] [
 .r 5 (.box (.t 0)),
 .r 6 (.box (.t 1)),
 qc 10 false])
 (.seq
 (.reg 1 none [10] [
 qL 11 2 5,
 qL 12 17 6,
 qC 13 zr [.t 11,.t 12],
 qB 14 .eql 13 0,
 qm 15 14,
 .rt 16 15 (.ld (some 2) (.t 5)),
 qmt 17 15 2,
 qmt 18 15 3,
 .rt 19 15 (.call (.k (.clo wQ [])) [.t 16,.t 17,.t 18]),
 qp 20 15 19,
 qm 21 20,
 .rt 22 21 (.ld (some 2) (.t 5)),
 qmt 23 21 2,
 qmt 24 21 4,
 .rt 25 21 (.call (.k (.clo wQ [])) [.t 22,.t 23,.t 24]),
 qp 26 21 25,
 qm 27 26,
 .rt 28 27 (.ld (some 2) (.t 5)),
 .rt 29 27 (.ld (some 17) (.t 6)),
 qmt 30 27 2,
 qmt 31 27 3,
 qmt 32 27 4,
 .rt 33 27 (.call (.k (.clo Qw [])) [.t 28,.t 29,.t 30,.t 31,.t 32]),
 qp 34 27 33,
 qm 10 34])
 .ret))
def qh1:List (Nat×List Nat):=qy yc
theorem qh2:FnIR Tryz.prog yD 35 qh1 yc [(.tmp 10)]:=
 qF Tryz.func13
def yd:RC:=
 (.seq
 (.reg 0 none [0,1] [
 qc 4 false])
 (.seq
 (.seq
 (.reg 1 none [0,1,10] [
 qm 6 0,
 qn 7 6,
 qm 8 1,
 qn 9 8,
 qb 10 .neq 7 9])
 (qq 10
 (.seq
 (.reg 2 none [4] [
 qc 4 false])
 .ret)
 .skip))
 (.seq
 (.seq
 (.reg 3 none [0,1,5] [
 qi 5 0])
 (.block 0
 (.loop
 (.seq
 (.seq
 (.reg 4 none [0,1,5,14] [
 qm 11 5,
 qm 12 0,
 qn 13 12,
 qb 14 .lss 11 13])
 (qq 14
 .skip
 (.exit 0)))
 (.seq
 (.block 1
 (.seq
 (.reg 6 (some [0,0,3,7,0,0,48,112,255]) [0,1,5,25] [
 qm 17 0,
 qm 18 5,
 qx 19 2 17 18,
 qL 20 2 19,
 qm 21 1,
 qm 22 5,
 qx 23 2 21 22,
 qL 24 2 23,
 .r 25 (.ext (.eqS true [.i .i64,.i .i64]) [.t 20,.t 24])])
 (qq 25
 (.seq
 (.reg 7 none [4] [
 qc 4 false])
 .ret)
 .skip)))
 (.reg 5 none [0,1,5] [
 qm 15 5,
 qa 16 15,
 qm 5 16]))))))
 (.seq
 (.reg 8 none [4] [
 qc 4 true])
 .ret))))
def qh3:List (Nat×List Nat):=qy yd
theorem qh4:FnIR Tryz.prog yE 26 qh3 yd [(.tmp 4)]:=
 qF Tryz.func17
def ye:RC:=
 (.seq
 (.reg 0 none [2,3] [
 .r 2 (.box (.t 0)),
 .r 3 (.box (.t 1)),
 .r 4 (.mv (qN))])
 (.seq
 (.seq
 (.reg 1 none [2,3,15] [
 qL 12 2 2,
 qL 13 17 3,
 qC 14 zr [.t 12,.t 13],
 qB 15 .neq 14 0])
 (qq 15
 (.seq
 (.reg 2 none [4] [
 .r 4 (.mv (qN))])
 .ret)
 .skip))
 (.seq
 (.reg 3 none [2,3,5] [
 .r 5 (.mv (qN))])
 (.seq
 (.seq
 (.reg 4 none [2,3,5,17,18,19] [
 qf 16 8 3,
 ql 17 16,
 qn 18 17,
 qi 19 0])
 (.block 0
 (.loop
 (.seq
 (.reg 5 none [2,3,5,17,18,19,20] [
 qb 20 .lss 19 18])
 (.seq
 (qq 20
 .skip
 (.exit 0))
 (.seq
 (.block 1
 (.seq
 (.reg 6 none [2,3,5,7,17,18,19] [
 qx 21 2 17 19,
 qL 22 2 21,
 .r 7 (.new (.agg [.v (.int .i64 0),.v (.int .i64 0)])),
 qs 2 7 22])
 (.reg 7 (some [0,0,2,0,0,16,0,64,248,510,1022,2047,4095]) [2,3,5,17,18,19] [
 qm 23 5,
 qf 24 0 7,
 ql 25 24,
 qL 26 2 2,
 qf 27 0 7,
 ql 28 27,
 qf 29 1 7,
 ql 30 29,
 qC 31 Qe [.t 26,.t 28,.t 30],
 .r 32 (.build [.v (.int .i64 0),.v (.int .i64 0)] [((0,1),.t 25),((1,1),.t 31)]),
 .r 33 (.bsl 2 1 [.t 32]),
 .r 34 (.app 2 16 false (.t 23) (.t 33)),
 qm 5 34])))
 (.reg 8 none [2,3,5,17,18,19] [
 qa 35 19,
 qm 19 35])))))))
 (.seq
 (.seq
 (.reg 9 none [2,3,5,38,39] [
 qf 36 1 2,
 ql 37 36,
 qn 38 37,
 qi 39 0])
 (.block 2
 (.loop
 (.seq
 (.reg 10 none [2,3,5,38,39,40] [
 qb 40 .lss 39 38])
 (.seq
 (qq 40
 .skip
 (.exit 2))
 (.seq
 (.block 3
 (.seq
 (.reg 11 none [2,3,5,8,38,39] [
 qm 41 39,
 qm 8 41])
 (.seq
 (.reg 12 none [2,3,5,8,38,39,44] [
 qL 42 17 3,
 qm 43 8,
 qC 44 wm [.t 42,.t 43]])
 (qq 44
 (.reg 13 (some [0,0,0,0,0,0,48,124,254,510,1023,2047]) [2,3,5,38,39] [
 qm 45 5,
 qm 46 8,
 qL 47 2 2,
 qm 48 8,
 qL 49 2 2,
 qm 50 8,
 qC 51 jp [.t 49,.t 50],
 qC 52 Qe [.t 47,.t 48,.t 51],
 .r 53 (.build [.v (.int .i64 0),.v (.int .i64 0)] [((0,1),.t 46),((1,1),.t 52)]),
 .r 54 (.bsl 2 1 [.t 53]),
 .r 55 (.app 2 16 false (.t 45) (.t 54)),
 qm 5 55])
 .skip))))
 (.reg 14 none [2,3,5,38,39] [
 qa 56 39,
 qm 39 56])))))))
 (.seq
 (.reg 15 none [2,3,9] [
 qm 57 5,
 .r 58 (.bsl 1 1 [.t 57]),
 qm 9 58])
 (.seq
 (.seq
 (.reg 16 none [2,9,60,61,62] [
 qL 59 17 3,
 qC 60 kC [.t 59],
 qn 61 60,
 qi 62 0])
 (.block 4
 (.loop
 (.seq
 (.reg 17 none [2,9,60,61,62,63] [
 qb 63 .lss 62 61])
 (.seq
 (qq 63
 .skip
 (.exit 4))
 (.seq
 (.block 5
 (.seq
 (.reg 18 none [2,9,11,60,61,62] [
 qx 64 6 60 62,
 qL 65 6 64,
 .r 11 (.new (.agg [.v (.int .i64 0),.v (.int .i64 0),.v (.int .i64 0),.v (.int .i64 0),.v (.int .i64 0),.v (.slice none 0 0)])),
 qs 6 11 65])
 (.reg 19 none [2,9,60,61,62] [
 qm 66 9,
 qL 67 2 2,
 qL 68 6 11,
 qC 69 yG [.t 67,.t 68],
 .r 70 (.bsl 1 1 [.t 69]),
 .r 71 (.app 1 24 false (.t 66) (.t 70)),
 qm 9 71])))
 (.reg 20 none [2,9,60,61,62] [
 qa 72 62,
 qm 62 72])))))))
 (.seq
 (.reg 21 none [4] [
 qm 73 9,
 qC 74 yH [.t 73],
 qm 4 74])
 .ret))))))))
def qh5:List (Nat×List Nat):=qy ye
theorem qh6:FnIR Tryz.prog jo 75 qh5 ye [(.tmp 4)]:=
 qF Tryz.func18
def kQ:RC:=
 (.seq
 (.reg 0 none [2,3,4] [
 .r 3 (.box (.t 0)),
 .r 4 (.box (.t 1)),
 qc 6 false])
 (.seq
 (.reg 1 none [6] [
 qL 7 2 3,
 qL 8 17 4,
 qC 9 zr [.t 7,.t 8],
 qB 10 .eql 9 0,
 qm 11 10,
 .rt 12 11 (.ld (some 2) (.t 3)),
 qmt 13 11 2,
 .rt 14 11 (.call (.k (.clo Jj [])) [.t 12,.t 13]),
 .rt 15 11 (.bin .eql false (.t 14) (qI 0)),
 qp 16 11 15,
 qm 17 16,
 qmt 18 17 2,
 .rt 19 17 (.ld (some 2) (.t 3)),
 .rt 20 17 (.ld (some 17) (.t 4)),
 .rt 21 17 (.call (.k (.clo jo [])) [.t 19,.t 20]),
 .rt 22 17 (.call (.k (.clo wR [])) [.t 18,.t 21]),
 qp 23 17 22,
 qm 6 23])
 .ret))
def YO:List (Nat×List Nat):=qy kQ
theorem YP:FnIR Tryz.prog jD 24 YO kQ [(.tmp 6)]:=
 qF Tryz.func19
def yJ:RC:=
 (.seq
 (.reg 0 none [0,3] [
 .r 3 (.box (.t 1)),
 .r 4 (.mv (qN))])
 (.seq
 (.reg 1 none [0,3,5] [
 .r 5 (.mv (qN))])
 (.seq
 (.seq
 (.reg 2 none [0,3,5,9,10] [
 qf 7 1 3,
 ql 8 7,
 qn 9 8,
 qi 10 0])
 (.block 0
 (.loop
 (.seq
 (.reg 3 none [0,3,5,9,10,11] [
 qb 11 .lss 10 9])
 (.seq
 (qq 11
 .skip
 (.exit 0))
 (.seq
 (.block 1
 (.seq
 (.reg 4 none [0,3,5,6,9,10] [
 qm 12 10,
 qm 6 12])
 (.reg 5 none [0,3,5,9,10] [
 qm 13 5,
 qm 14 0,
 qL 15 2 3,
 qm 16 6,
 qC 17 wO [.t 14,.t 15,.t 16],
 .r 18 (.bsl 1 1 [.t 17]),
 .r 19 (.app 1 8 false (.t 13) (.t 18)),
 qm 5 19])))
 (.reg 6 none [0,3,5,9,10] [
 qa 20 10,
 qm 10 20])))))))
 (.seq
 (.reg 7 none [4] [
 qm 21 5,
 qm 4 21])
 .ret))))
def qo0:List (Nat×List Nat):=qy yJ
theorem qo1:FnIR Tryz.prog wl 22 qo0 yJ [(.tmp 4)]:=
 qF Tryz.func21
def Zs:RC:=
 (.seq
 (.reg 0 none [1,2,3,4] [
 .r 4 (.box (.t 0)),
 qi 8 0])
 (.seq
 (.seq
 (.reg 1 none [1,2,3,4,16] [
 qm 11 2,
 qL 12 2 4,
 qm 13 1,
 qC 14 jQ [.t 12,.t 13],
 qC 15 zD [.t 11,qI 0,.t 14],
 .r 16 (.un .not (.t 15))])
 (qq 16
 (.seq
 (.reg 2 none [8] [
 .r 8 (.mv (.k (.v (.int .i64 (-1)))))])
 .ret)
 .skip))
 (.seq
 (.reg 3 none [1,2,3,4,9] [
 qf 17 1 4,
 ql 18 17,
 qm 19 1,
 qx 20 7 18 19,
 qL 21 7 20,
 .r 9 (.new (.agg [.v (.string ⟨#[]⟩),.v (.int .i64 0),.v (.int .i64 0),.v (.int .i64 0),.v (.int .i64 0),.v (.slice none 0 0),.v (.bool false)])),
 qs 7 9 21])
 (.seq
 (.seq
 (.reg 4 none [1,2,3,4,9,24] [
 qf 22 1 9,
 ql 23 22,
 qB 24 .eql 23 2])
 (qq 24
 (.seq
 (.seq
 (.reg 5 none [2,3,4,9,29] [
 qL 25 2 4,
 qm 26 1,
 qm 27 3,
 qC 28 QS [.t 25,.t 26,.t 27],
 .r 29 (.un .not (.t 28))])
 (qq 29
 (.seq
 (.reg 6 none [8] [
 .r 8 (.mv (.k (.v (.int .i64 (-1)))))])
 .ret)
 .skip))
 (.seq
 (.reg 7 none [8] [
 qf 30 0 4,
 ql 31 30,
 qf 32 2 9,
 ql 33 32,
 qx 34 2 31 33,
 qL 35 2 34,
 qm 36 3,
 qm 37 2,
 qC 38 YG [.t 35,.t 36,.t 37],
 qm 8 38])
 .ret))
 .skip))
 (.seq
 (.seq
 (.reg 8 none [2,3,9,45] [
 qm 39 3,
 .r 40 (.bin .neq false (.t 39) (.k (.v (.int .i64 (-1099511627776))))),
 qm 41 40,
 qmt 42 41 3,
 .rt 43 41 (.call (.k (.clo zD [])) [.t 42,.k (.v (.int .i64 (-1000000))),qI 1000000]),
 .rt 44 41 (.un .not (.t 43)),
 qp 45 41 44])
 (qq 45
 (.seq
 (.reg 9 none [8] [
 .r 8 (.mv (.k (.v (.int .i64 (-1)))))])
 .ret)
 .skip))
 (.seq
 (.seq
 (.reg 10 none [2,3,9,47] [
 qm 46 2,
 qB 47 .eql 46 0])
 (qq 47
 (.seq
 (.reg 11 none [8] [
 qi 8 0])
 .ret)
 .skip))
 (.seq
 (.seq
 (.reg 12 none [2,3,9,49] [
 qm 48 3,
 .r 49 (.bin .eql false (.t 48) (.k (.v (.int .i64 (-1099511627776)))))])
 (qq 49
 (.seq
 (.reg 13 none [8] [
 qm 50 3,
 qm 8 50])
 .ret)
 .skip))
 (.seq
 (.reg 14 none [3,10] [
 qL 51 7 9,
 qm 52 2,
 qC 53 wS [.t 51,.t 52],
 qm 10 53])
 (.seq
 (.reg 15 none [8] [
 qm 54 3,
 qm 55 10,
 qC 56 Kz [.t 54,.t 55],
 qm 57 10,
 qb 58 .mul 56 57,
 qm 8 58])
 .ret)))))))))
def qB0:List (Nat×List Nat):=qy Zs
theorem qB1:FnIR Tryz.prog jg 59 qB0 Zs [(.tmp 8)]:=
 qF Tryz.func22
def Zt:RC:=
 (.seq
 (.reg 0 none [2,3,4,5] [
 .r 4 (.box (.t 0)),
 .r 5 (.box (.t 1)),
 qi 8 0])
 (.seq
 (.seq
 (.reg 1 none [2,3,4,5,34] [
 qL 10 2 4,
 qL 11 6 5,
 qC 12 wT [.t 10,.t 11],
 qB 13 .neq 12 0,
 qm 14 13,
 .rf 15 14 (.ld (some 2) (.t 4)),
 qmf 16 14 2,
 .rf 17 14 (.call (.k (.clo Ky [])) [.t 15,.t 16]),
 .rf 18 14 (.bin .neq false (.t 17) (qI 0)),
 qP 19 14 18,
 qm 20 19,
 qmf 21 20 3,
 .rf 22 20 (.lenL (.t 21)),
 qmf 23 20 2,
 .rf 24 20 (.lenL (.t 23)),
 .rf 25 20 (.bin .neq false (.t 22) (.t 24)),
 qP 26 20 25,
 qm 27 26,
 .rf 28 27 (.ld (some 2) (.t 4)),
 .rf 29 27 (.ld (some 6) (.t 5)),
 .rf 30 27 (.call (.k (.clo Kw [])) [.t 28,.t 29]),
 qmf 31 27 2,
 .rf 32 27 (.call (.k (.clo Ji [])) [.t 30,.t 31]),
 .rf 33 27 (.un .not (.t 32)),
 qP 34 27 33])
 (qq 34
 (.seq
 (.reg 2 none [8] [
 qi 8 0])
 .ret)
 .skip))
 (.seq
 (.seq
 (.reg 3 none [2,3,4,5,9] [
 qi 9 0])
 (.block 0
 (.loop
 (.seq
 (.seq
 (.reg 4 none [2,3,4,5,9,38] [
 qm 35 9,
 qm 36 2,
 qn 37 36,
 qb 38 .lss 35 37])
 (qq 38
 .skip
 (.exit 0)))
 (.seq
 (.block 1
 (.seq
 (.reg 6 (some [0,0,0,6,14,30,0,0,192,448,960,0,0,6144,14336,32767,65535]) [2,3,4,5,9,57] [
 qL 41 2 4,
 qm 42 2,
 qm 43 9,
 qx 44 2 42 43,
 qf 45 0 44,
 ql 46 45,
 qm 47 2,
 qm 48 9,
 qx 49 2 47 48,
 qf 50 1 49,
 ql 51 50,
 qm 52 3,
 qm 53 9,
 qx 54 1 52 53,
 ql 55 54,
 qC 56 qb6 [.t 41,.t 46,.t 51,.t 55],
 .r 57 (.un .not (.t 56))])
 (qq 57
 (.seq
 (.reg 7 none [8] [
 qi 8 0])
 .ret)
 .skip)))
 (.reg 5 none [2,3,4,5,9] [
 qm 39 9,
 qa 40 39,
 qm 9 40]))))))
 (.seq
 (.reg 8 none [8] [
 qL 58 2 4,
 qL 59 6 5,
 qm 60 2,
 qm 61 3,
 qC 62 Qf [.t 58,.t 59,.t 60,.t 61],
 qm 8 62])
 .ret))))
def qB2:List (Nat×List Nat):=qy Zt
theorem qB3:FnIR Tryz.prog Qd 63 qB2 Zt [(.tmp 8)]:=
 qF Tryz.func23
def KH:RC:=
 (.seq
 (.reg 0 none [2,3,4] [
 .r 3 (.box (.t 0)),
 .r 4 (.box (.t 1)),
 qi 6 0])
 (.seq
 (.seq
 (.reg 1 none [2,3,4,16] [
 qL 7 2 3,
 qL 8 6 4,
 qC 9 wT [.t 7,.t 8],
 qB 10 .neq 9 0,
 qm 11 10,
 .rf 12 11 (.ld (some 2) (.t 3)),
 qmf 13 11 2,
 .rf 14 11 (.call (.k (.clo qb7 [])) [.t 12,.t 13]),
 .rf 15 11 (.bin .neq false (.t 14) (qI 0)),
 qP 16 11 15])
 (qq 16
 (.seq
 (.reg 2 none [6] [
 qi 6 0])
 .ret)
 .skip))
 (.seq
 (.reg 3 none [6] [
 qL 17 2 3,
 qL 18 6 4,
 qm 19 2,
 qC 20 Jb [.t 17,.t 18,.t 19],
 qm 6 20])
 .ret)))
def qT8:List (Nat×List Nat):=qy KH
theorem qT9:FnIR Tryz.prog Ja 21 qT8 KH [(.tmp 6)]:=
 qF Tryz.func24
def ke:RC:=
 (.seq
 (.reg 0 none [0,2,4,6] [
 .r 4 (.box (.t 1)),
 .r 6 (.new (.agg [.v (.int .i64 0),.v (.int .i64 0),.v (.int .i64 0),.v (.int .i64 0),.v (.int .i64 0),.v (.slice none 0 0)]))])
 (.seq
 (.seq
 (.reg 1 none [0,2,4,6,12] [
 qm 11 2,
 qB 12 .gtr 11 0])
 (qq 12
 (.seq
 (.reg 2 none [0,2,4,6,14] [
 qm 13 0,
 qC 14 qz [.t 13,qI 5]])
 (.block 0
 (.seq
 (.reg 3 none [0,2,4,6,14,15] [
 qB 16 .eql 14 2,
 qm 15 16])
 (qq 15
 (.seq
 (.reg 4 none [6] [
 qm 17 0,
 qL 18 2 4,
 qm 19 2,
 qB 20 .sub 19 1,
 qC 21 ze [.t 17,.t 18,.t 20],
 .r 22 (.bsl 6 1 [.t 21]),
 .r 23 (.build [.v (.int .i64 0),.v (.int .i64 0),.v (.int .i64 0),.v (.int .i64 0),.v (.int .i64 0),.v (.slice none 0 0)] [((0,1),qI 7),((5,1),.t 22)]),
 qs 6 6 23])
 .ret)
 (.seq
 (.reg 5 none [0,2,4,6,14,24] [
 qB 25 .eql 14 3,
 qm 24 25])
 (qq 24
 (.seq
 (.reg 6 (some [0,0,0,4,15,0,0,0,128,511,1023,2047,4095]) [6] [
 qm 26 0,
 qL 27 2 4,
 qm 28 2,
 qB 29 .sub 28 1,
 qC 30 ze [.t 26,.t 27,.t 29],
 qm 31 0,
 qL 32 2 4,
 qm 33 2,
 qB 34 .sub 33 1,
 qC 35 ze [.t 31,.t 32,.t 34],
 .r 36 (.bsl 6 2 [.t 30,.t 35]),
 .r 37 (.build [.v (.int .i64 0),.v (.int .i64 0),.v (.int .i64 0),.v (.int .i64 0),.v (.int .i64 0),.v (.slice none 0 0)] [((0,1),qI 5),((5,1),.t 36)]),
 qs 6 6 37])
 .ret)
 (.seq
 (.reg 7 none [0,2,4,6,38] [
 qB 39 .eql 14 4,
 qm 38 39])
 (qq 38
 (.seq
 (.reg 8 (some [0,0,0,4,15,0,0,0,128,511,1023,2047,4095]) [6] [
 qm 40 0,
 qL 41 2 4,
 qm 42 2,
 qB 43 .sub 42 1,
 qC 44 ze [.t 40,.t 41,.t 43],
 qm 45 0,
 qL 46 2 4,
 qm 47 2,
 qB 48 .sub 47 1,
 qC 49 ze [.t 45,.t 46,.t 48],
 .r 50 (.bsl 6 2 [.t 44,.t 49]),
 .r 51 (.build [.v (.int .i64 0),.v (.int .i64 0),.v (.int .i64 0),.v (.int .i64 0),.v (.int .i64 0),.v (.slice none 0 0)] [((0,1),qI 6),((5,1),.t 50)]),
 qs 6 6 51])
 .ret)
 .skip))))))))
 .skip))
 (.seq
 (.seq
 (.reg 9 none [0,4,6,53] [
 qm 52 0,
 qC 53 qz [.t 52,qI 5]])
 (.block 1
 (.seq
 (.reg 10 none [0,4,6,53,54] [
 qB 55 .eql 53 1,
 qm 54 55])
 (qq 54
 (.seq
 (.reg 11 none [0,4,6,7] [
 qm 56 0,
 qL 57 2 4,
 qC 58 wU [.t 56,.t 57],
 qm 7 58])
 (.seq
 (.reg 12 (some [0,0,0,4,0,16,0,112,240,496,1020,2044,4092,8188,16382,32767,65535]) [6] [
 qm 59 7,
 qm 60 0,
 qf 61 0 4,
 ql 62 61,
 qf 63 1 4,
 ql 64 63,
 qm 65 7,
 qx 66 7 64 65,
 qf 67 2 66,
 ql 68 67,
 qx 69 2 62 68,
 qf 70 1 69,
 ql 71 70,
 qn 72 71,
 qC 73 qz [.t 60,.t 72],
 .r 74 (.build [.v (.int .i64 0),.v (.int .i64 0),.v (.int .i64 0),.v (.int .i64 0),.v (.int .i64 0),.v (.slice none 0 0)] [((0,1),qI 2),((1,1),.t 59),((2,1),.t 73)]),
 qs 6 6 74])
 .ret))
 (.seq
 (.seq
 (.reg 13 none [0,4,6,53,75] [
 qB 76 .eql 53 2,
 qm 75 76])
 (qq 75
 .skip
 (.reg 14 none [0,4,6,53,75] [
 qB 77 .eql 53 3,
 qm 75 77])))
 (qq 75
 (.seq
 (.reg 15 none [0,4,6,8] [
 qm 78 0,
 qL 79 2 4,
 qC 80 zA [.t 78,.t 79],
 qm 8 80])
 (.seq
 (.reg 16 (some [0,1,0,7,15,31,0,64,255,511]) [0,6,8,9] [
 qf 81 1 4,
 ql 82 81,
 qm 83 8,
 qx 84 7 82 83,
 qf 85 3 84,
 ql 86 85,
 qm 87 0,
 qC 88 qO [.t 87,.k (.v (.int .i64 (-3))),qI 40],
 qb 89 .add 86 88,
 qm 9 89])
 (.seq
 (.reg 17 none [6] [
 qm 90 8,
 qm 91 9,
 qm 92 9,
 qm 93 0,
 qC 94 qz [.t 93,qI 30],
 qb 95 .add 92 94,
 .r 96 (.build [.v (.int .i64 0),.v (.int .i64 0),.v (.int .i64 0),.v (.int .i64 0),.v (.int .i64 0),.v (.slice none 0 0)] [((0,1),qI 3),((1,1),.t 90),((3,1),.t 91),((4,1),.t 95)]),
 qs 6 6 96])
 .ret)))
 (.seq
 (.reg 18 none [0,4,6,97] [
 qB 98 .eql 53 4,
 qm 97 98])
 (qq 97
 (.seq
 (.reg 19 none [4,6,10] [
 qm 99 0,
 qL 100 2 4,
 qC 101 zA [.t 99,.t 100],
 qm 10 101])
 (.seq
 (.reg 20 none [6,10,107] [
 qf 102 1 4,
 ql 103 102,
 qm 104 10,
 qx 105 7 103 104,
 qf 106 6 105,
 ql 107 106])
 (qq 107
 (.seq
 (.reg 21 none [6] [
 qm 108 10,
 .r 109 (.build [.v (.int .i64 0),.v (.int .i64 0),.v (.int .i64 0),.v (.int .i64 0),.v (.int .i64 0),.v (.slice none 0 0)] [((0,1),qI 4),((1,1),.t 108)]),
 qs 6 6 109])
 .ret)
 .skip)))
 .skip))))))))
 (.seq
 (.reg 22 none [6] [
 .r 110 (.build [.v (.int .i64 0),.v (.int .i64 0),.v (.int .i64 0),.v (.int .i64 0),.v (.int .i64 0),.v (.slice none 0 0)] [((0,1),qI 1)]),
 qs 6 6 110])
 .ret))))
def qh7:List (Nat×List Nat):=qy ke
theorem Je:FnIR Tryz.prog ze 111 qh7 ke [(.cell 6 (some 6))]:=
 qF Tryz.func27
def Zu:RC:=
 (.seq
 (.reg 0 none [0,1] [
 qc 4 false])
 (.seq
 (.seq
 (.reg 1 none [0,1,5] [
 qi 5 0])
 (.block 0
 (.loop
 (.seq
 (.seq
 (.reg 2 none [0,1,5,11] [
 qm 8 5,
 qm 9 0,
 qn 10 9,
 qb 11 .lss 8 10])
 (qq 11
 .skip
 (.exit 0)))
 (.seq
 (.block 1
 (.seq
 (.reg 4 none [0,1,5,6] [
 qc 6 false])
 (.seq
 (.seq
 (.reg 5 none [0,1,5,6,7] [
 qi 7 0])
 (.block 2
 (.loop
 (.seq
 (.seq
 (.reg 6 none [0,1,5,6,7,17] [
 qm 14 7,
 qm 15 1,
 qn 16 15,
 qb 17 .lss 14 16])
 (qq 17
 .skip
 (.exit 2)))
 (.seq
 (.block 3
 (.reg 8 (some [0,1,3,3,15,31,63,3,3,387,899,1923,4095,8191,16383,16383,65535,131071,262143,16383,16383,1589247,3686399,7880703,16777215,33554431,67108863,134217727]) [0,1,5,6,7] [
 qm 20 6,
 qm 21 20,
 qmf 22 21 1,
 qmf 23 21 7,
 .rf 24 21 (.ixL 2 (.t 22) (.t 23)),
 qff 25 21 0 24,
 qlf 26 21 25,
 qmf 27 21 0,
 qmf 28 21 5,
 .rf 29 21 (.ixL 2 (.t 27) (.t 28)),
 qff 30 21 0 29,
 qlf 31 21 30,
 .rf 32 21 (.bin .eql false (.t 26) (.t 31)),
 qmf 33 21 32,
 qmt 34 33 1,
 qmt 35 33 7,
 .rt 36 33 (.ixL 2 (.t 34) (.t 35)),
 qft 37 33 1 36,
 qlt 38 33 37,
 qmt 39 33 0,
 qmt 40 33 5,
 .rt 41 33 (.ixL 2 (.t 39) (.t 40)),
 qft 42 33 1 41,
 qlt 43 33 42,
 .rt 44 33 (.bin .geq false (.t 38) (.t 43)),
 .rf 45 21 (.pick (.t 33) (.t 44) (.k (.v (.bool false)))),
 qP 46 21 45,
 qm 6 46]))
 (.reg 7 none [0,1,5,6,7] [
 qm 18 7,
 qa 19 18,
 qm 7 19]))))))
 (.seq
 (.reg 9 none [0,1,5,48] [
 qm 47 6,
 .r 48 (.un .not (.t 47))])
 (qq 48
 (.seq
 (.reg 10 none [4] [
 qc 4 false])
 .ret)
 .skip)))))
 (.reg 3 none [0,1,5] [
 qm 12 5,
 qa 13 12,
 qm 5 13]))))))
 (.seq
 (.reg 11 none [4] [
 qc 4 true])
 .ret)))
def qB4:List (Nat×List Nat):=qy Zu
theorem qB5:FnIR Tryz.prog Ji 49 qB4 Zu [(.tmp 4)]:=
 qF Tryz.func28
def Jm:RC:=
 (.seq
 (.reg 0 none [2,3] [
 .r 2 (.box (.t 0)),
 .r 3 (.box (.t 1)),
 .r 4 (.mv (qN))])
 (.seq
 (.seq
 (.reg 1 none [2,3,12] [
 qL 9 2 2,
 qL 10 6 3,
 qC 11 wT [.t 9,.t 10],
 qB 12 .neq 11 0])
 (qq 12
 (.seq
 (.reg 2 none [4] [
 .r 4 (.mv (qN))])
 .ret)
 .skip))
 (.seq
 (.reg 3 none [2,3,5] [
 .r 5 (.mv (qN))])
 (.seq
 (.reg 4 none [2,5,6] [
 qL 13 6 3,
 qC 14 QT [.t 13],
 qm 6 14])
 (.seq
 (.seq
 (.reg 5 none [2,5,6,7] [
 qi 7 0])
 (.block 0
 (.loop
 (.seq
 (.seq
 (.reg 6 none [2,5,6,7,18] [
 qm 15 7,
 qm 16 6,
 qn 17 16,
 qb 18 .lss 15 17])
 (qq 18
 .skip
 (.exit 0)))
 (.seq
 (.block 1
 (.seq
 (.reg 8 none [2,5,6,7,8] [
 qi 8 0])
 (.seq
 (.block 2
 (.loop
 (.seq
 (.seq
 (.reg 9 (some [0,0,0,6,14,0,63,127]) [2,5,6,7,8,28] [
 qL 21 2 2,
 qm 22 6,
 qm 23 7,
 qx 24 6 22 23,
 qL 25 6 24,
 qm 26 8,
 qC 27 Zo [.t 21,.t 25,.t 26],
 .r 28 (.un .not (.t 27))])
 (qq 28
 .skip
 (.exit 2)))
 (.block 3
 (.reg 10 none [2,5,6,7,8] [
 qm 29 8,
 qa 30 29,
 qm 8 30])))))
 (.reg 11 none [2,5,6,7] [
 qm 31 5,
 qm 32 6,
 qm 33 7,
 qx 34 6 32 33,
 qf 35 1 34,
 ql 36 35,
 qm 37 8,
 qC 38 Kx [.t 31,.t 36,.t 37],
 qm 5 38]))))
 (.reg 7 none [2,5,6,7] [
 qm 19 7,
 qa 20 19,
 qm 7 20]))))))
 (.seq
 (.reg 12 none [4] [
 qm 39 5,
 qm 4 39])
 .ret))))))
def qH3:List (Nat×List Nat):=qy Jm
theorem qH4:FnIR Tryz.prog Kw 40 qH3 Jm [(.tmp 4)]:=
 qF Tryz.func29
def yf:RC:=
 (.seq
 (.reg 0 none [0,1,4] [
 .r 4 (.new (.agg [.v (.string ⟨#[]⟩),.v (.slice none 0 0)]))])
 (.seq
 (.reg 1 none [0,4,5] [
 qm 10 1,
 .r 11 (.build [.v (.string ⟨#[]⟩),.v (.int .i64 0)] [((0,1),.k (.v (.string ⟨#[116,111,112]⟩))),((1,1),.k (.v (.int .i64 (-1))))]),
 .r 12 (.bsl 2 1 [.t 11]),
 .r 13 (.build [.v (.string ⟨#[]⟩),.v (.slice none 0 0)] [((0,1),.t 10),((1,1),.t 12)]),
 .r 5 (.new (.agg [.v (.string ⟨#[]⟩),.v (.slice none 0 0)])),
 qs 2 5 13])
 (.seq
 (.reg 2 none [0,4,5,6] [
 qm 14 0,
 qC 15 qO [.t 14,qI 1,qI 3],
 qm 6 15])
 (.seq
 (.seq
 (.reg 3 none [0,4,5,6,7] [
 qi 7 0])
 (.block 0
 (.loop
 (.seq
 (.seq
 (.reg 4 none [0,4,5,6,7,18] [
 qm 16 7,
 qm 17 6,
 qb 18 .lss 16 17])
 (qq 18
 .skip
 (.exit 0)))
 (.seq
 (.block 1
 (.reg 6 (some [0,1,0,4,12,28,60,127,255,511]) [0,4,5,6,7] [
 qf 21 1 5,
 ql 22 21,
 qm 23 7,
 qC 24 kW [.t 23],
 .r 25 (.bin .add false (.k (.v (.string ⟨#[107]⟩))) (.t 24)),
 .r 26 (.build [.v (.string ⟨#[]⟩),.v (.int .i64 0)] [((0,1),.t 25)]),
 .r 27 (.bsl 2 1 [.t 26]),
 .r 28 (.app 2 24 false (.t 22) (.t 27)),
 qf 29 1 5,
 qs 1 29 28]))
 (.reg 5 none [0,4,5,6,7] [
 qm 19 7,
 qa 20 19,
 qm 7 20]))))))
 (.seq
 (.seq
 (.reg 7 none [0,4,5,6,31] [
 qm 30 0,
 qC 31 zj [.t 30,qI 2]])
 (qq 31
 (.seq
 (.reg 8 none [4] [
 qL 32 2 5,
 qs 2 4 32])
 .ret)
 .skip))
 (.seq
 (.seq
 (.reg 9 none [0,4,5,6,8] [
 qi 8 0])
 (.block 2
 (.loop
 (.seq
 (.seq
 (.reg 10 none [0,4,5,6,8,35] [
 qm 33 8,
 qm 34 6,
 qb 35 .lss 33 34])
 (qq 35
 .skip
 (.exit 2)))
 (.seq
 (.block 3
 (.seq
 (.reg 12 none [0,4,5,6,8,9] [
 qm 38 0,
 qC 39 qO [.t 38,qI 1,qI 2],
 qm 9 39])
 (.block 4
 (.loop
 (.seq
 (.seq
 (.reg 13 none [0,4,5,6,8,9,41] [
 qm 40 9,
 qB 41 .gtr 40 0])
 (qq 41
 .skip
 (.exit 4)))
 (.seq
 (.block 5
 (.reg 15 (some [0,1,0,4,12,28,60,0,128,508,1020,2047,4095,8191]) [0,4,5,6,8,9] [
 qf 44 1 5,
 ql 45 44,
 qf 46 1 5,
 ql 47 46,
 qn 48 47,
 qC 49 kW [.t 48],
 .r 50 (.bin .add false (.k (.v (.string ⟨#[108]⟩))) (.t 49)),
 qm 51 8,
 .r 52 (.bin .add false (qI 1) (.t 51)),
 .r 53 (.build [.v (.string ⟨#[]⟩),.v (.int .i64 0)] [((0,1),.t 50),((1,1),.t 52)]),
 .r 54 (.bsl 2 1 [.t 53]),
 .r 55 (.app 2 24 false (.t 45) (.t 54)),
 qf 56 1 5,
 qs 1 56 55]))
 (.reg 14 none [0,4,5,6,8,9] [
 qm 42 9,
 qB 43 .sub 42 1,
 qm 9 43])))))))
 (.reg 11 none [0,4,5,6,8] [
 qm 36 8,
 qa 37 36,
 qm 8 37]))))))
 (.seq
 (.reg 16 none [4] [
 qL 57 2 5,
 qs 2 4 57])
 .ret)))))))
def qh8:List (Nat×List Nat):=qy yf
theorem qh9:FnIR Tryz.prog kB 58 qh8 yf [(.cell 4 (some 2))]:=
 qF Tryz.func30
def yK:RC:=
 (.seq
 (.reg 0 none [0,1] [
 qc 4 false])
 (.seq
 (.reg 1 none [4] [
 qm 5 0,
 qm 6 1,
 qC 7 qz [.t 5,.t 6],
 qm 8 1,
 qB 9 .sub 8 1,
 qb 10 .eql 7 9,
 qm 4 10])
 .ret))
def qo2:List (Nat×List Nat):=qy yK
theorem qo3:FnIR Tryz.prog zj 11 qo2 yK [(.tmp 4)]:=
 qF Tryz.func31
def wy:RC:=
 (.seq
 (.reg 0 none [0,1,2] [
 qi 6 0])
 (.seq
 (.reg 1 none [6] [
 qm 7 1,
 qm 8 0,
 qm 9 2,
 qm 10 1,
 qb 11 .sub 9 10,
 qa 12 11,
 qC 13 qz [.t 8,.t 12],
 qb 14 .add 7 13,
 qm 6 14])
 .ret))
def qc0:List (Nat×List Nat):=qy wy
theorem qc1:FnIR Tryz.prog qO 15 qc0 wy [(.tmp 6)]:=
 qF Tryz.func32
def ki:RC:=
 (.seq
 (.reg 0 none [0,1,4] [
 .r 4 (.new (.agg [.v (.string ⟨#[]⟩),.v (.int .i64 0),.v (.int .i64 0),.v (.int .i64 0),.v (.int .i64 0),.v (.slice none 0 0),.v (.bool false)]))])
 (.seq
 (.reg 1 (some [0,0,2,0,0,0,0,120,0,262,1022,2046,0,4870,16383,0,65535]) [0,4,5] [
 qm 6 1,
 qm 7 0,
 qC 8 qO [.t 7,.k (.v (.int .i64 (-4))),qI 2],
 .r 9 (.bsl 1 1 [qI 1]),
 .r 10 (.bsl 1 2 [qI 1,qI 5]),
 .r 11 (.bsl 1 3 [qI 1,qI 5,qI 20]),
 .r 12 (.bsl 1 4 [qI 1,qI 2,qI 4,qI 12]),
 .r 13 (.bsl 1 4 [.t 9,.t 10,.t 11,.t 12]),
 qm 14 0,
 qC 15 qz [.t 14,qI 4],
 qx 16 1 13 15,
 ql 17 16,
 qm 18 0,
 qC 19 zj [.t 18,qI 3],
 .r 20 (.build [.v (.string ⟨#[]⟩),.v (.int .i64 0),.v (.int .i64 0),.v (.int .i64 0),.v (.int .i64 0),.v (.slice none 0 0),.v (.bool false)] [((0,1),.t 6),((1,1),qI 3),((3,1),.t 8),((5,1),.t 17),((6,1),.t 19)]),
 .r 5 (.new (.agg [.v (.string ⟨#[]⟩),.v (.int .i64 0),.v (.int .i64 0),.v (.int .i64 0),.v (.int .i64 0),.v (.slice none 0 0),.v (.bool false)])),
 qs 7 5 20])
 (.seq
 (.reg 2 (some [0,1,0,4,15,31,63]) [4,5] [
 qf 21 3 5,
 ql 22 21,
 qm 23 0,
 qC 24 qz [.t 23,qI 45],
 qb 25 .add 22 24,
 qf 26 4 5,
 qs 1 26 25])
 (.seq
 (.reg 3 none [4] [
 qL 27 7 5,
 qs 7 4 27])
 .ret))))
def WV:List (Nat×List Nat):=qy ki
theorem WW:FnIR Tryz.prog kL 28 WV ki [(.cell 4 (some 7))]:=
 qF Tryz.func33
def Zv:RC:=
 (.seq
 (.reg 0 none [0] [
 .r 2 (.mv (.k (.v (.string ⟨#[]⟩))))])
 (.seq
 (.reg 1 none [2] [
 qm 3 0,
 qC 4 jE [.t 3],
 qm 2 4])
 .ret))
def qB6:List (Nat×List Nat):=qy Zv
theorem qB7:FnIR Tryz.prog kW 5 qB6 Zv [(.tmp 2)]:=
 qF Tryz.func34
def yg:RC:=
 (.seq
 (.reg 0 none [0,1] [
 qi 4 0])
 (.seq
 (.seq
 (.reg 1 (some [0,1,3,7,15,31,63,7,135,391,903,1927,4095,8191]) [0,1,19] [
 qm 6 1,
 qB 7 .lss 6 1,
 qm 8 7,
 qmf 9 8 0,
 .rf 10 8 (.nc (.t 9)),
 qff 11 8 1 10,
 qlf 12 8 11,
 qmf 13 8 0,
 .rf 14 8 (.nc (.t 13)),
 qff 15 8 0 14,
 qlf 16 8 15,
 .rf 17 8 (.lenL (.t 16)),
 .rf 18 8 (.bin .geq false (.t 12) (.t 17)),
 qP 19 8 18])
 (qq 19
 (.seq
 (.reg 2 none [4] [
 qi 4 0])
 .ret)
 .skip))
 (.seq
 (.reg 3 none [0,1] [
 qm 20 0,
 .r 21 (.nc (.t 20)),
 qf 22 1 21,
 ql 23 22,
 qa 24 23,
 .r 25 (.nc (.t 20)),
 qf 26 1 25,
 qs 1 26 24])
 (.seq
 (.reg 4 (some [0,1,3,7,0,16,48,112,240,511,1023,2047,4095]) [0,1,5] [
 qm 27 0,
 .r 28 (.nc (.t 27)),
 qf 29 0 28,
 ql 30 29,
 qm 31 0,
 .r 32 (.nc (.t 31)),
 qf 33 1 32,
 ql 34 33,
 qB 35 .sub 34 1,
 qx 36 1 30 35,
 ql 37 36,
 .r 38 (.cvI .i64 (.t 37)),
 qm 5 38])
 (.seq
 (.seq
 (.reg 5 (some [0,1,3,7,15,31,63,7,135,391,903,1927,4095,8191]) [0,1,5,52] [
 qm 39 1,
 qB 40 .gtr 39 256,
 qm 41 40,
 qmt 42 41 0,
 .rt 43 41 (.nc (.t 42)),
 qft 44 41 1 43,
 qlt 45 41 44,
 qmt 46 41 0,
 .rt 47 41 (.nc (.t 46)),
 qft 48 41 0 47,
 qlt 49 41 48,
 .rt 50 41 (.lenL (.t 49)),
 .rt 51 41 (.bin .lss false (.t 45) (.t 50)),
 qp 52 41 51])
 (qq 52
 (.seq
 (.reg 6 (some [0,1,0,4,12,28,0,64,192,448,1020,2044,4092,8191,16383]) [0,1,5] [
 qm 53 5,
 qB 54 .mul 53 256,
 qm 55 0,
 .r 56 (.nc (.t 55)),
 qf 57 0 56,
 ql 58 57,
 qm 59 0,
 .r 60 (.nc (.t 59)),
 qf 61 1 60,
 ql 62 61,
 qx 63 1 58 62,
 ql 64 63,
 .r 65 (.cvI .i64 (.t 64)),
 qb 66 .add 54 65,
 qm 5 66])
 (.reg 7 none [1,5] [
 qm 67 0,
 .r 68 (.nc (.t 67)),
 qf 69 1 68,
 ql 70 69,
 qa 71 70,
 .r 72 (.nc (.t 67)),
 qf 73 1 72,
 qs 1 73 71]))
 .skip))
 (.seq
 (.reg 8 none [4] [
 qm 74 5,
 qm 75 1,
 qb 76 .rem 74 75,
 qm 4 76])
 .ret))))))
def qi0:List (Nat×List Nat):=qy yg
theorem qi1:FnIR Tryz.prog qz 77 qi0 yg [(.tmp 4)]:=
 qF Tryz.func35
def jW:RC:=
 (.seq
 (.reg 0 none [0,3] [
 .r 3 (.box (.t 1)),
 qi 4 0])
 (.seq
 (.reg 1 none [0,5] [
 qL 6 2 3,
 qC 7 jR [.t 6,qI 3],
 qm 5 7])
 (.seq
 (.reg 2 none [4] [
 qm 8 5,
 qm 9 0,
 qm 10 5,
 qn 11 10,
 qC 12 qz [.t 9,.t 11],
 qx 13 1 8 12,
 ql 14 13,
 qm 4 14])
 .ret)))
def Wr:List (Nat×List Nat):=qy jW
theorem Ws:FnIR Tryz.prog zA 15 Wr jW [(.tmp 4)]:=
 qF Tryz.func36
def wz:RC:=
 (.seq
 (.reg 0 none [0,2,4] [
 .r 4 (.box (.t 1)),
 .r 6 (.mv (qN))])
 (.seq
 (.reg 1 none [0,2,4,7] [
 .r 7 (.mv (qN))])
 (.seq
 (.reg 2 none [0,2,7,8] [
 qL 10 2 4,
 qC 11 jR [.t 10,qI 3],
 qm 8 11])
 (.seq
 (.seq
 (.reg 3 none [0,2,7,8,13,14] [
 qm 12 8,
 qn 13 12,
 qi 14 0])
 (.block 0
 (.loop
 (.seq
 (.reg 4 none [0,2,7,8,13,14,15] [
 qb 15 .lss 14 13])
 (.seq
 (qq 15
 .skip
 (.exit 0))
 (.seq
 (.block 1
 (.seq
 (.reg 5 none [0,2,7,8,9,13,14] [
 qm 16 14,
 qm 9 16])
 (.seq
 (.reg 6 none [0,2,7,8,9,13,14,31] [
 qm 17 8,
 qm 18 9,
 qx 19 1 17 18,
 ql 20 19,
 qm 21 2,
 qb 22 .neq 20 21,
 qm 23 22,
 qmt 24 23 7,
 .rt 25 23 (.lenL (.t 24)),
 .rt 26 23 (.bin .eql false (.t 25) (qI 0)),
 qmt 27 23 26,
 qmf 28 27 0,
 .rf 29 27 (.call (.k (.clo zj [])) [.t 28,qI 2]),
 .rt 30 23 (.pick (.t 27) (.k (.v (.bool true))) (.t 29)),
 qp 31 23 30])
 (qq 31
 (.reg 7 none [0,2,7,8,13,14] [
 qm 32 7,
 qm 33 8,
 qm 34 9,
 qx 35 1 33 34,
 ql 36 35,
 .r 37 (.bsl 1 1 [.t 36]),
 .r 38 (.app 1 8 false (.t 32) (.t 37)),
 qm 7 38])
 .skip))))
 (.reg 8 none [0,2,7,8,13,14] [
 qa 39 14,
 qm 14 39])))))))
 (.seq
 (.reg 9 none [6] [
 qm 40 7,
 qm 6 40])
 .ret)))))
def qc2:List (Nat×List Nat):=qy wz
theorem qc3:FnIR Tryz.prog wP 41 qc2 wz [(.tmp 6)]:=
 qF Tryz.func37
def yh:RC:=
 (.seq
 (.reg 0 none [0,3] [
 .r 3 (.box (.t 1)),
 .r 4 (.mv (qN))])
 (.seq
 (.reg 1 none [0,3,5] [
 .r 5 (.mv (qN))])
 (.seq
 (.reg 2 none [0,3,5,6] [
 qL 8 2 3,
 qC 9 jR [.t 8,qI 2],
 qm 6 9])
 (.seq
 (.seq
 (.reg 3 none [0,3,5,6,11] [
 qm 10 0,
 qC 11 zj [.t 10,qI 2]])
 (qq 11
 (.reg 4 none [0,3,5,6] [
 qm 12 6,
 qm 13 0,
 qm 14 6,
 qn 15 14,
 qC 16 qz [.t 13,.t 15],
 .r 17 (.slL 1 (.t 12) (some (.t 16)) none),
 qm 6 17])
 .skip))
 (.seq
 (.seq
 (.reg 5 none [0,3,5,6,19,20] [
 qm 18 6,
 qn 19 18,
 qi 20 0])
 (.block 0
 (.loop
 (.seq
 (.reg 6 none [0,3,5,6,19,20,21] [
 qb 21 .lss 20 19])
 (.seq
 (qq 21
 .skip
 (.exit 0))
 (.seq
 (.block 1
 (.seq
 (.reg 7 none [0,3,5,6,7,19,20] [
 qm 22 20,
 qm 7 22])
 (.reg 8 (some [0,0,0,6,14,0,0,0,0,384,896,1984,4032,8160,16382,32766,65535,131071]) [0,3,5,6,19,20] [
 qm 23 5,
 qm 24 6,
 qm 25 7,
 qx 26 1 24 25,
 ql 27 26,
 qm 28 0,
 qL 29 2 3,
 qm 30 6,
 qm 31 7,
 qx 32 1 30 31,
 ql 33 32,
 qC 34 jQ [.t 29,.t 33],
 qa 35 34,
 qC 36 qz [.t 28,.t 35],
 .r 37 (.build [.v (.int .i64 0),.v (.int .i64 0)] [((0,1),.t 27),((1,1),.t 36)]),
 .r 38 (.bsl 2 1 [.t 37]),
 .r 39 (.app 2 16 false (.t 23) (.t 38)),
 qm 5 39])))
 (.reg 9 none [0,3,5,6,19,20] [
 qa 40 20,
 qm 20 40])))))))
 (.seq
 (.reg 10 none [4] [
 qm 41 5,
 qm 4 41])
 .ret))))))
def qi2:List (Nat×List Nat):=qy yh
theorem qi3:FnIR Tryz.prog yF 42 qi2 yh [(.tmp 4)]:=
 qF Tryz.func38
def Zw:RC:=
 (.seq
 (.reg 0 none [1,2] [
 .r 2 (.box (.t 0)),
 .r 4 (.mv (qN))])
 (.seq
 (.reg 1 (some [0,1,0,4,0,28,60,124,255,511,0,2047]) [5] [
 qf 6 0 2,
 ql 7 6,
 qf 8 1 2,
 ql 9 8,
 qm 10 1,
 qx 11 7 9 10,
 qf 12 2 11,
 ql 13 12,
 qx 14 2 7 13,
 qL 15 2 14,
 .r 5 (.new (.agg [.v (.string ⟨#[]⟩),.v (.slice none 0 0)])),
 qs 2 5 15])
 (.seq
 (.reg 2 (some [0,0,2,6,15,31]) [4] [
 qL 16 2 5,
 qL 17 2 5,
 qC 18 kX [.t 17],
 qB 19 .sub 18 1,
 qC 20 qn9 [.t 16,.t 19],
 qm 4 20])
 .ret)))
def qB8:List (Nat×List Nat):=qy Zw
theorem qB9:FnIR Tryz.prog jP 21 qB8 Zw [(.tmp 4)]:=
 qF Tryz.func39
def jK:RC:=
 (.seq
 (.reg 0 none [2,3] [
 .r 2 (.box (.t 0)),
 .r 3 (.box (.t 1)),
 qi 4 0])
 (.seq
 (.seq
 (.reg 1 none [2,3,5] [
 qL 7 2 2,
 qC 8 jh [.t 7],
 qm 5 8])
 (.block 0
 (.seq
 (.reg 2 none [2,3,5,9] [
 qm 10 5,
 qB 11 .neq 10 0,
 qm 9 11])
 (qq 9
 (.seq
 (.reg 3 none [4] [
 qm 12 5,
 qm 4 12])
 .ret)
 (.seq
 (.reg 4 none [2,3,13] [
 qf 14 0 3,
 ql 15 14,
 qC 16 wH [.t 15],
 .r 17 (.un .not (.t 16)),
 qm 13 17])
 (qq 13
 (.seq
 (.reg 5 none [4] [
 qi 4 3])
 .ret)
 (.seq
 (.reg 6 none [2,3,18] [
 qf 19 1 3,
 ql 20 19,
 qB 21 .lss 20 1,
 qm 22 21,
 qff 23 22 1 3,
 qlf 24 22 23,
 .rf 25 22 (.bin .gtr false (.t 24) (qI 3)),
 qP 26 22 25,
 qm 18 26])
 (qq 18
 (.seq
 (.reg 7 none [4] [
 qi 4 4])
 .ret)
 .skip))))))))
 (.seq
 (.seq
 (.reg 8 none [2,3,6] [
 qL 27 2 2,
 qf 28 2 3,
 qL 29 6 28,
 qC 30 jq [.t 27,.t 29],
 qm 6 30])
 (.seq
 (.reg 9 none [2,3,6,32] [
 qm 31 6,
 qB 32 .neq 31 0])
 (qq 32
 (.seq
 (.reg 10 none [4] [
 qm 33 6,
 qm 4 33])
 .ret)
 .skip)))
 (.seq
 (.seq
 (.reg 11 none [2,3,35] [
 qf 34 1 3,
 ql 35 34])
 (.block 1
 (.seq
 (.reg 12 none [2,3,35,36] [
 qB 37 .eql 35 1,
 qm 36 37])
 (qq 36
 (.seq
 (.reg 13 none [4] [
 qL 38 2 2,
 qL 39 17 3,
 qC 40 wv [.t 38,.t 39],
 qm 4 40])
 .ret)
 (.seq
 (.reg 14 none [2,3,41] [
 qB 42 .eql 35 2,
 qm 41 42])
 (qq 41
 (.seq
 (.reg 15 none [4] [
 qL 43 2 2,
 qL 44 17 3,
 qC 45 ww [.t 43,.t 44],
 qm 4 45])
 .ret)
 .skip))))))
 (.seq
 (.reg 16 none [4] [
 qL 46 2 2,
 qL 47 17 3,
 qC 48 wx [.t 46,.t 47],
 qm 4 48])
 .ret)))))
def KI:List (Nat×List Nat):=qy jK
theorem KJ:FnIR Tryz.prog zr 49 KI jK [(.tmp 4)]:=
 qF Tryz.func40
def QA:RC:=
 (.seq
 (.reg 0 none [1,2,3] [
 .r 3 (.box (.t 0)),
 qc 6 false])
 (.seq
 (.seq
 (.reg 1 none [1,2,3,17] [
 qm 9 1,
 qB 10 .lss 9 1,
 qm 11 10,
 qmf 12 11 1,
 qff 13 11 1 3,
 qlf 14 11 13,
 .rf 15 11 (.lenL (.t 14)),
 .rf 16 11 (.bin .geq false (.t 12) (.t 15)),
 qP 17 11 16])
 (qq 17
 (.seq
 (.reg 2 none [6] [
 qc 6 false])
 .ret)
 .skip))
 (.seq
 (.reg 3 (some [0,0,0,0,12,0,63,127,255,255,511,2047]) [2,7,8] [
 qL 19 2 3,
 qm 20 1,
 qL 21 2 3,
 qm 22 1,
 qC 23 jp [.t 21,.t 22],
 qm 24 2,
 qC 25 KA [.t 19,.t 20,.t 23,.t 24],
 qm 18 25,
 .r 26 (.ex (.t 18) 0),
 .r 27 (.ex (.t 18) 1),
 qm 7 26,
 qm 8 27])
 (.seq
 (.reg 4 none [6] [
 qm 28 8,
 qm 29 28,
 qmt 30 29 7,
 qmt 31 29 2,
 .rt 32 29 (.bin .eql false (.t 30) (.t 31)),
 qp 33 29 32,
 qm 6 33])
 .ret))))
def qu0:List (Nat×List Nat):=qy QA
theorem qu1:FnIR Tryz.prog wQ 34 qu0 QA [(.tmp 6)]:=
 qF Tryz.func41
def yL:RC:=
 (.seq
 (.reg 0 none [2,3,4,5,6] [
 .r 5 (.box (.t 0)),
 .r 6 (.box (.t 1)),
 qc 10 false])
 (.seq
 (.seq
 (.reg 1 none [2,3,4,5,6,24] [
 qL 17 17 6,
 qm 18 2,
 qC 19 wm [.t 17,.t 18],
 qm 20 19,
 qmt 21 20 3,
 qmt 22 20 4,
 .rt 23 20 (.bin .neq false (.t 21) (.t 22)),
 qp 24 20 23])
 (qq 24
 (.seq
 (.reg 2 none [10] [
 qc 10 true])
 .ret)
 .skip))
 (.seq
 (.seq
 (.reg 3 none [2,3,4,5,6,26,27,28] [
 qf 25 8 6,
 ql 26 25,
 qn 27 26,
 qi 28 0])
 (.block 0
 (.loop
 (.seq
 (.reg 4 none [2,3,4,5,6,26,27,28,29] [
 qb 29 .lss 28 27])
 (.seq
 (qq 29
 .skip
 (.exit 0))
 (.seq
 (.block 1
 (.seq
 (.reg 5 none [2,3,4,5,6,12,26,27,28] [
 qx 30 2 26 28,
 qL 31 2 30,
 .r 12 (.new (.agg [.v (.int .i64 0),.v (.int .i64 0)])),
 qs 2 12 31])
 (.seq
 (.reg 6 (some [0,1,0,7,15,31,31,31,159,31,1023,31,31,31,8223,31,65535,131071,262143]) [2,3,4,5,6,26,27,28,50] [
 qf 32 0 12,
 ql 33 32,
 qm 34 2,
 qb 35 .eql 33 34,
 qm 36 35,
 .rt 37 36 (.ld (some 2) (.t 5)),
 qmt 38 36 2,
 qft 39 36 1 12,
 qlt 40 36 39,
 qmt 41 36 3,
 .rt 42 36 (.call (.k (.clo wV [])) [.t 37,.t 38,.t 40,.t 41]),
 .rt 43 36 (.ld (some 2) (.t 5)),
 qmt 44 36 2,
 qft 45 36 1 12,
 qlt 46 36 45,
 qmt 47 36 4,
 .rt 48 36 (.call (.k (.clo wV [])) [.t 43,.t 44,.t 46,.t 47]),
 .rt 49 36 (.bin .neq false (.t 42) (.t 48)),
 qp 50 36 49])
 (qq 50
 (.seq
 (.reg 7 none [10] [
 qc 10 true])
 .ret)
 .skip))))
 (.reg 8 none [2,3,4,5,6,26,27,28] [
 qa 51 28,
 qm 28 51])))))))
 (.seq
 (.seq
 (.reg 9 none [2,3,4,5,53,54,55] [
 qL 52 17 6,
 qC 53 kC [.t 52],
 qn 54 53,
 qi 55 0])
 (.block 2
 (.loop
 (.seq
 (.reg 10 none [2,3,4,5,53,54,55,56] [
 qb 56 .lss 55 54])
 (.seq
 (qq 56
 .skip
 (.exit 2))
 (.seq
 (.block 3
 (.seq
 (.reg 11 none [2,3,4,5,14,53,54,55] [
 qx 57 6 53 55,
 qL 58 6 57,
 .r 14 (.new (.agg [.v (.int .i64 0),.v (.int .i64 0),.v (.int .i64 0),.v (.int .i64 0),.v (.int .i64 0),.v (.slice none 0 0)])),
 qs 6 14 58])
 (.seq
 (.reg 12 none [2,3,4,5,53,54,55,60,61,62] [
 qL 59 6 14,
 qC 60 jr [.t 59],
 qn 61 60,
 qi 62 0])
 (.block 4
 (.loop
 (.seq
 (.reg 13 none [2,3,4,5,53,54,55,60,61,62,63] [
 qb 63 .lss 62 61])
 (.seq
 (qq 63
 .skip
 (.exit 4))
 (.seq
 (.block 5
 (.seq
 (.reg 14 none [2,3,4,5,16,53,54,55,60,61,62] [
 qx 64 6 60 62,
 qL 65 6 64,
 .r 16 (.new (.agg [.v (.int .i64 0),.v (.int .i64 0),.v (.int .i64 0),.v (.int .i64 0),.v (.int .i64 0),.v (.slice none 0 0)])),
 qs 6 16 65])
 (.seq
 (.reg 15 (some [0,1,0,7,15,31,31,31,255,31,31,31,4095,8191,16383]) [2,3,4,5,53,54,55,60,61,62,80] [
 qf 66 1 16,
 ql 67 66,
 qm 68 2,
 qb 69 .eql 67 68,
 qm 70 69,
 .rt 71 70 (.ld (some 2) (.t 5)),
 .rt 72 70 (.ld (some 6) (.t 16)),
 qmt 73 70 3,
 .rt 74 70 (.call (.k (.clo jN [])) [.t 71,.t 72,.t 73]),
 .rt 75 70 (.ld (some 2) (.t 5)),
 .rt 76 70 (.ld (some 6) (.t 16)),
 qmt 77 70 4,
 .rt 78 70 (.call (.k (.clo jN [])) [.t 75,.t 76,.t 77]),
 .rt 79 70 (.bin .neq false (.t 74) (.t 78)),
 qp 80 70 79])
 (qq 80
 (.seq
 (.reg 16 none [10] [
 qc 10 true])
 .ret)
 .skip))))
 (.reg 17 none [2,3,4,5,53,54,55,60,61,62] [
 qa 81 62,
 qm 62 81])))))))))
 (.reg 18 none [2,3,4,5,53,54,55] [
 qa 82 55,
 qm 55 82])))))))
 (.seq
 (.reg 19 none [10] [
 qc 10 false])
 .ret)))))
def qo4:List (Nat×List Nat):=qy yL
theorem qo5:FnIR Tryz.prog Qw 83 qo4 yL [(.tmp 10)]:=
 qF Tryz.func42
def Jn:RC:=
 (.seq
 (.reg 0 none [1,2,3] [
 .r 3 (.box (.t 0)),
 qc 6 false])
 (.seq
 (.reg 1 none [2,3,7] [
 qf 9 1 3,
 ql 10 9,
 qm 11 1,
 qx 12 7 10 11,
 qL 13 7 12,
 .r 7 (.new (.agg [.v (.string ⟨#[]⟩),.v (.int .i64 0),.v (.int .i64 0),.v (.int .i64 0),.v (.int .i64 0),.v (.slice none 0 0),.v (.bool false)])),
 qs 7 7 13])
 (.seq
 (.seq
 (.reg 2 none [2,3,7,15] [
 qf 14 1 7,
 ql 15 14])
 (.block 0
 (.seq
 (.reg 3 none [2,3,7,15,16] [
 qB 17 .eql 15 1,
 qm 16 17])
 (qq 16
 (.seq
 (.reg 4 none [6] [
 qm 18 2,
 qC 19 zD [.t 18,qI 1,qI 1048575],
 qm 6 19])
 .ret)
 (.seq
 (.reg 5 none [2,3,7,20] [
 qB 21 .eql 15 2,
 qm 20 21])
 (qq 20
 (.seq
 (.reg 6 none [2,8] [
 qf 22 0 3,
 ql 23 22,
 qf 24 2 7,
 ql 25 24,
 qx 26 2 23 25,
 qL 27 2 26,
 .r 8 (.new (.agg [.v (.string ⟨#[]⟩),.v (.slice none 0 0)])),
 qs 2 8 27])
 (.seq
 (.reg 7 (some [0,0,2,6,14,31,63,127,127,511,127,2047,4095,8191,16383,32767]) [6] [
 qm 28 2,
 qf 29 1 8,
 ql 30 29,
 qn 31 30,
 qB 32 .sub 31 1,
 qC 33 zD [.t 28,qI 0,.t 32],
 qm 34 33,
 .rt 35 34 (.ld (some 2) (.t 8)),
 qmt 36 34 2,
 .rt 37 34 (.call (.k (.clo wW [])) [.t 35,.t 36]),
 .rt 38 34 (.ld (some 2) (.t 8)),
 .rt 39 34 (.call (.k (.clo kX [])) [.t 38]),
 .rt 40 34 (.bin .sub false (.t 39) (qI 1)),
 .rt 41 34 (.bin .eql false (.t 37) (.t 40)),
 qp 42 34 41,
 qm 6 42])
 .ret))
 .skip))))))
 (.seq
 (.reg 8 none [6] [
 qf 43 6 7,
 ql 44 43,
 qm 45 44,
 qmt 46 45 2,
 .rt 47 45 (.bin .eql false (.t 46) (.k (.v (.int .i64 (-1099511627776))))),
 qp 48 45 47,
 qm 49 48,
 qmf 50 49 2,
 qff 51 49 3 7,
 qlf 52 49 51,
 qff 53 49 4 7,
 qlf 54 49 53,
 .rf 55 49 (.call (.k (.clo zD [])) [.t 50,.t 52,.t 54]),
 qP 56 49 55,
 qm 6 56])
 .ret))))
def qH5:List (Nat×List Nat):=qy Jn
theorem qH6:FnIR Tryz.prog QS 57 qH5 Jn [(.tmp 6)]:=
 qF Tryz.func44
def kG:RC:=
 (.seq
 (.reg 0 none [2,3,4] [
 .r 3 (.box (.t 0)),
 .r 4 (.box (.t 1)),
 qi 6 0])
 (.seq
 (.reg 1 none [2,3,4,7] [
 qc 7 false])
 (.seq
 (.seq
 (.reg 2 none [2,3,4,7,9] [
 qf 8 0 4,
 ql 9 8])
 (.block 0
 (.seq
 (.reg 3 none [2,3,4,7,9,10] [
 qB 11 .eql 9 2,
 qm 10 11])
 (qq 10
 (.reg 4 (some [0,1,0,4,0,16,60,124,252,511,1023,0,0,4096,16383,32767]) [7] [
 qf 12 0 3,
 ql 13 12,
 qf 14 1 3,
 ql 15 14,
 qf 16 1 4,
 ql 17 16,
 qx 18 7 15 17,
 qf 19 2 18,
 ql 20 19,
 qx 21 2 13 20,
 qL 22 2 21,
 qm 23 2,
 qf 24 2 4,
 ql 25 24,
 qC 26 KB [.t 22,.t 23,.t 25],
 qm 7 26])
 (.seq
 (.reg 5 none [2,4,7,9,27] [
 qB 28 .eql 9 3,
 qm 27 28])
 (qq 27
 (.seq
 (.seq
 (.reg 6 none [2,4,30] [
 qm 29 2,
 .r 30 (.bin .eql false (.t 29) (.k (.v (.int .i64 (-1099511627776)))))])
 (qq 30
 (.seq
 (.reg 7 none [6] [
 qi 6 0])
 .ret)
 .skip))
 (.reg 8 none [7] [
 qf 31 3 4,
 ql 32 31,
 qm 33 2,
 qb 34 .leq 32 33,
 qm 35 34,
 qmt 36 35 2,
 qft 37 35 4 4,
 qlt 38 35 37,
 .rt 39 35 (.bin .leq false (.t 36) (.t 38)),
 qp 40 35 39,
 qm 7 40]))
 (.seq
 (.reg 9 none [2,7,41] [
 qB 42 .eql 9 4,
 qm 41 42])
 (qq 41
 (.reg 10 none [7] [
 qm 43 2,
 .r 44 (.bin .eql false (.t 43) (.k (.v (.int .i64 (-1099511627776))))),
 qm 7 44])
 .skip))))))))
 (.seq
 (.seq
 (.reg 11 none [45] [
 qm 45 7])
 (qq 45
 (.seq
 (.reg 12 none [6] [
 qi 6 1])
 .ret)
 .skip))
 (.seq
 (.reg 13 none [6] [
 .r 6 (.mv (.k (.v (.int .i64 (-1)))))])
 .ret)))))
def qU0:List (Nat×List Nat):=qy kG
theorem QZ:FnIR Tryz.prog wG 46 qU0 kG [(.tmp 6)]:=
 qF Tryz.func46
def Zx:RC:=
 (.seq
 (.reg 0 none [1,2] [
 .r 2 (.box (.t 0)),
 qi 4 0])
 (.seq
 (.seq
 (.reg 1 none [1,2,19] [
 qL 6 2 2,
 qC 7 jF [.t 6],
 qB 8 .neq 7 0,
 qm 9 8,
 qmf 10 9 1,
 .rf 11 9 (.bin .lss false (.t 10) (qI 1)),
 qP 12 9 11,
 qm 13 12,
 qmf 14 13 1,
 qff 15 13 1 2,
 qlf 16 13 15,
 .rf 17 13 (.lenL (.t 16)),
 .rf 18 13 (.bin .geq false (.t 14) (.t 17)),
 qP 19 13 18])
 (qq 19
 (.seq
 (.reg 2 none [4] [
 .r 4 (.mv (.k (.v (.int .i64 (-1)))))])
 .ret)
 .skip))
 (.seq
 (.reg 3 none [2,5] [
 qf 20 1 2,
 ql 21 20,
 qm 22 1,
 qx 23 7 21 22,
 qL 24 7 23,
 .r 5 (.new (.agg [.v (.string ⟨#[]⟩),.v (.int .i64 0),.v (.int .i64 0),.v (.int .i64 0),.v (.int .i64 0),.v (.slice none 0 0),.v (.bool false)])),
 qs 7 5 24])
 (.seq
 (.seq
 (.reg 4 none [2,5,27] [
 qf 25 1 5,
 ql 26 25,
 qB 27 .eql 26 2])
 (qq 27
 (.seq
 (.reg 5 none [4] [
 qf 28 0 2,
 ql 29 28,
 qf 30 2 5,
 ql 31 30,
 qx 32 2 29 31,
 qL 33 2 32,
 qC 34 kX [.t 33],
 qB 35 .sub 34 1,
 qm 4 35])
 .ret)
 .skip))
 (.seq
 (.reg 6 none [4] [
 qf 36 5 5,
 ql 37 36,
 qn 38 37,
 qm 4 38])
 .ret)))))
def qC0:List (Nat×List Nat):=qy Zx
theorem qC1:FnIR Tryz.prog jQ 39 qC0 Zx [(.tmp 4)]:=
 qF Tryz.func48
def Jo:RC:=
 (.seq
 (.reg 0 none [0,1,2] [
 .r 6 (.mv (qN))])
 (.seq
 (.reg 1 none [0,1,2,7] [
 .r 7 (.mv (qN))])
 (.seq
 (.reg 2 none [0,1,2,7,8] [
 qm 11 2,
 qB 12 .leq 11 0,
 qm 8 12])
 (.seq
 (.seq
 (.reg 3 none [0,1,2,7,8,9] [
 qi 9 0])
 (.block 0
 (.loop
 (.seq
 (.seq
 (.reg 4 none [0,1,2,7,8,9,16] [
 qm 13 9,
 qm 14 0,
 qn 15 14,
 qb 16 .lss 13 15])
 (qq 16
 .skip
 (.exit 0)))
 (.seq
 (.block 1
 (.seq
 (.reg 6 none [0,1,2,7,8,9,10] [
 qm 19 0,
 qm 20 9,
 qx 21 2 19 20,
 qL 22 2 21,
 .r 10 (.new (.agg [.v (.int .i64 0),.v (.int .i64 0)])),
 qs 2 10 22])
 (.seq
 (.seq
 (.reg 7 none [0,1,2,7,8,9,10,30] [
 qf 23 0 10,
 ql 24 23,
 qm 25 1,
 qb 26 .gtr 24 25,
 qm 27 26,
 qmt 28 27 8,
 .rt 29 27 (.un .not (.t 28)),
 qp 30 27 29])
 (qq 30
 (.reg 8 none [0,1,2,7,8,9,10] [
 qm 31 7,
 qm 32 1,
 qm 33 2,
 .r 34 (.build [.v (.int .i64 0),.v (.int .i64 0)] [((0,1),.t 32),((1,1),.t 33)]),
 .r 35 (.bsl 2 1 [.t 34]),
 .r 36 (.app 2 16 false (.t 31) (.t 35)),
 qm 7 36,
 qc 8 true])
 .skip))
 (.seq
 (.seq
 (.reg 9 none [0,1,2,7,8,9,10,40] [
 qf 37 0 10,
 ql 38 37,
 qm 39 1,
 qb 40 .eql 38 39])
 (qq 40
 (.reg 10 none [0,1,2,7,8,9,10] [
 qf 41 1 10,
 ql 42 41,
 qm 43 2,
 .r 44 (.mx [.t 42,.t 43]),
 qf 45 1 10,
 qs 1 45 44,
 qc 8 true])
 .skip))
 (.reg 11 none [0,1,2,7,8,9] [
 qm 46 7,
 qL 47 2 10,
 .r 48 (.bsl 2 1 [.t 47]),
 .r 49 (.app 2 16 false (.t 46) (.t 48)),
 qm 7 49])))))
 (.reg 5 none [0,1,2,7,8,9] [
 qm 17 9,
 qa 18 17,
 qm 9 18]))))))
 (.seq
 (.seq
 (.reg 12 none [1,2,7,51] [
 qm 50 8,
 .r 51 (.un .not (.t 50))])
 (qq 51
 (.reg 13 none [7] [
 qm 52 7,
 qm 53 1,
 qm 54 2,
 .r 55 (.build [.v (.int .i64 0),.v (.int .i64 0)] [((0,1),.t 53),((1,1),.t 54)]),
 .r 56 (.bsl 2 1 [.t 55]),
 .r 57 (.app 2 16 false (.t 52) (.t 56)),
 qm 7 57])
 .skip))
 (.seq
 (.reg 14 none [6] [
 qm 58 7,
 qm 6 58])
 .ret))))))
def qH7:List (Nat×List Nat):=qy Jo
theorem qH8:FnIR Tryz.prog Kx 59 qH7 Jo [(.tmp 6)]:=
 qF Tryz.func49
def Zy:RC:=
 (.seq
 (.reg 0 none [1,2,3] [
 .r 3 (.box (.t 0)),
 qi 6 0])
 (.seq
 (.seq
 (.reg 1 none [1,2,3,7] [
 qL 8 2 3,
 qm 9 1,
 qC 10 jp [.t 8,.t 9],
 qm 7 10])
 (.seq
 (.reg 2 none [1,2,3,17] [
 qm 11 2,
 qB 12 .lss 11 0,
 qm 13 12,
 qmf 14 13 2,
 qmf 15 13 7,
 .rf 16 13 (.bin .gtr false (.t 14) (.t 15)),
 qP 17 13 16])
 (qq 17
 (.seq
 (.reg 3 none [6] [
 .r 6 (.mv (.k (.v (.int .i64 (-1)))))])
 .ret)
 .skip)))
 (.seq
 (.block 0
 (.loop
 (.seq
 (.seq
 (.reg 4 (some [0,1,3,7,7,7,39,127,7,7,7,2047,4095,8191]) [1,2,3,31] [
 qm 18 2,
 qB 19 .gtr 18 0,
 qm 20 19,
 .rt 21 20 (.ld (some 2) (.t 3)),
 qmt 22 20 1,
 qmt 23 20 2,
 .rt 24 20 (.bin .sub false (.t 23) (qI 1)),
 .rt 25 20 (.call (.k (.clo wX [])) [.t 21,.t 22,.t 24]),
 .rt 26 20 (.ld (some 2) (.t 3)),
 qmt 27 20 1,
 qmt 28 20 2,
 .rt 29 20 (.call (.k (.clo wX [])) [.t 26,.t 27,.t 28]),
 .rt 30 20 (.bin .eql false (.t 25) (.t 29)),
 qp 31 20 30])
 (qq 31
 .skip
 (.exit 0)))
 (.block 1
 (.reg 5 none [1,2,3] [
 qm 32 2,
 qB 33 .sub 32 1,
 qm 2 33])))))
 (.seq
 (.reg 6 none [6] [
 qm 34 2,
 qm 6 34])
 .ret))))
def qC2:List (Nat×List Nat):=qy Zy
theorem qC3:FnIR Tryz.prog Qe 35 qC2 Zy [(.tmp 6)]:=
 qF Tryz.func51
def yM:RC:=
 (.seq
 (.reg 0 none [1,2] [
 .r 2 (.box (.t 0)),
 qc 4 false])
 (.seq
 (.reg 1 none [4] [
 qm 5 1,
 qB 6 .gtr 5 0,
 qm 7 6,
 qft 8 7 9 2,
 qlt 9 7 8,
 qmt 10 7 1,
 .rt 11 7 (.bin .eql false (.t 9) (.t 10)),
 qmt 12 7 11,
 qff 13 12 10 2,
 qlf 14 12 13,
 qmf 15 12 1,
 .rf 16 12 (.call (.k (.clo jd [])) [.t 14,.t 15]),
 .rt 17 7 (.pick (.t 12) (.k (.v (.bool true))) (.t 16)),
 qp 18 7 17,
 qm 4 18])
 .ret))
def qo6:List (Nat×List Nat):=qy yM
theorem qo7:FnIR Tryz.prog wm 19 qo6 yM [(.tmp 4)]:=
 qF Tryz.func52
def QB:RC:=
 (.seq
 (.reg 0 none [1,2] [
 .r 2 (.box (.t 0)),
 qi 4 0])
 (.seq
 (.seq
 (.reg 1 none [1,2,7] [
 qL 5 2 2,
 qC 6 jh [.t 5],
 qB 7 .neq 6 0])
 (qq 7
 (.seq
 (.reg 2 none [4] [
 .r 4 (.mv (.k (.v (.int .i64 (-1)))))])
 .ret)
 .skip))
 (.seq
 (.reg 3 none [4] [
 qL 8 2 2,
 qm 9 1,
 qC 10 wY [.t 8,.t 9],
 qm 4 10])
 .ret)))
def qu2:List (Nat×List Nat):=qy QB
theorem qu3:FnIR Tryz.prog jp 11 qu2 QB [(.tmp 4)]:=
 qF Tryz.func53
def yi:RC:=
 (.seq
 (.reg 0 none [1] [
 .r 1 (.box (.t 0)),
 .r 2 (.mv (qN))])
 (.seq
 (.seq
 (.reg 1 none [1,5] [
 qf 3 1 1,
 ql 4 3,
 qB 5 .eql 4 3])
 (qq 5
 (.seq
 (.reg 2 none [2] [
 qf 6 2 1,
 qL 7 6 6,
 qf 8 11 1,
 qL 9 6 8,
 .r 10 (.bsl 6 2 [.t 7,.t 9]),
 qm 2 10])
 .ret)
 .skip))
 (.seq
 (.reg 3 none [2] [
 qf 11 2 1,
 qL 12 6 11,
 .r 13 (.bsl 6 1 [.t 12]),
 qm 2 13])
 .ret)))
def qi4:List (Nat×List Nat):=qy yi
theorem qi5:FnIR Tryz.prog kC 14 qi4 yi [(.tmp 2)]:=
 qF Tryz.func54
def yj:RC:=
 (.seq
 (.reg 0 none [2,3] [
 .r 2 (.box (.t 0)),
 .r 3 (.box (.t 1)),
 .r 4 (.mv (qN))])
 (.seq
 (.seq
 (.reg 1 none [2,3,15] [
 qL 12 2 2,
 qL 13 6 3,
 qC 14 jq [.t 12,.t 13],
 qB 15 .neq 14 0])
 (qq 15
 (.seq
 (.reg 2 none [4] [
 .r 4 (.mv (qN))])
 .ret)
 .skip))
 (.seq
 (.reg 3 none [2,3,5] [
 qf 16 1 2,
 ql 17 16,
 qn 18 17,
 .r 19 (.mk 1 8 (.v (.int .i64 0)) (.t 18) (.t 18)),
 qm 5 19])
 (.seq
 (.seq
 (.reg 4 none [2,5,21,22,23] [
 qL 20 6 3,
 qC 21 jr [.t 20],
 qn 22 21,
 qi 23 0])
 (.block 0
 (.loop
 (.seq
 (.reg 5 none [2,5,21,22,23,24] [
 qb 24 .lss 23 22])
 (.seq
 (qq 24
 .skip
 (.exit 0))
 (.seq
 (.block 1
 (.seq
 (.reg 6 none [2,5,7,21,22,23] [
 qx 25 6 21 23,
 qL 26 6 25,
 .r 7 (.new (.agg [.v (.int .i64 0),.v (.int .i64 0),.v (.int .i64 0),.v (.int .i64 0),.v (.int .i64 0),.v (.slice none 0 0)])),
 qs 6 7 26])
 (.seq
 (.reg 7 none [2,5,7,8,21,22,23] [
 qi 8 0])
 (.seq
 (.block 2
 (.loop
 (.seq
 (.seq
 (.reg 8 none [2,5,7,8,21,22,23,31] [
 qL 27 2 2,
 qL 28 6 7,
 qm 29 8,
 qC 30 kM [.t 27,.t 28,.t 29],
 .r 31 (.un .not (.t 30))])
 (qq 31
 .skip
 (.exit 2)))
 (.block 3
 (.reg 9 none [2,5,7,8,21,22,23] [
 qm 32 8,
 qa 33 32,
 qm 8 33])))))
 (.reg 10 (some [0,0,2,0,0,16,56,120,0,504,1023,2047]) [2,5,21,22,23] [
 qm 34 5,
 qf 35 1 7,
 ql 36 35,
 qm 37 5,
 qf 38 1 7,
 ql 39 38,
 qx 40 1 37 39,
 ql 41 40,
 qm 42 8,
 .r 43 (.mx [.t 41,.t 42]),
 qx 44 1 34 36,
 qs 1 44 43])))))
 (.reg 11 none [2,5,21,22,23] [
 qa 45 23,
 qm 23 45])))))))
 (.seq
 (.reg 12 none [5,9] [
 .r 9 (.mv (qN))])
 (.seq
 (.seq
 (.reg 13 none [9,46,47,48] [
 qm 46 5,
 qn 47 46,
 qi 48 0])
 (.block 4
 (.loop
 (.seq
 (.reg 14 none [9,46,47,48,49] [
 qb 49 .lss 48 47])
 (.seq
 (qq 49
 .skip
 (.exit 4))
 (.seq
 (.block 5
 (.seq
 (.reg 15 none [9,10,11,46,47,48] [
 qm 50 48,
 qx 51 1 46 48,
 ql 52 51,
 qm 10 50,
 qm 11 52])
 (.seq
 (.reg 16 none [9,10,11,46,47,48,54] [
 qm 53 11,
 qB 54 .gtr 53 0])
 (qq 54
 (.reg 17 none [9,46,47,48] [
 qm 55 9,
 qm 56 10,
 qm 57 11,
 .r 58 (.build [.v (.int .i64 0),.v (.int .i64 0)] [((0,1),.t 56),((1,1),.t 57)]),
 .r 59 (.bsl 2 1 [.t 58]),
 .r 60 (.app 2 16 false (.t 55) (.t 59)),
 qm 9 60])
 .skip))))
 (.reg 18 none [9,46,47,48] [
 qa 61 48,
 qm 48 61])))))))
 (.seq
 (.reg 19 none [4] [
 qm 62 9,
 qm 4 62])
 .ret)))))))
def qi6:List (Nat×List Nat):=qy yj
theorem qi7:FnIR Tryz.prog yG 63 qi6 yj [(.tmp 4)]:=
 qF Tryz.func55
def yk:RC:=
 (.seq
 (.reg 0 none [0] [
 .r 2 (.mv (qN))])
 (.seq
 (.reg 1 none [0,3,4] [
 .r 11 (.ext (.mkm .ii) []),
 qm 3 11,
 qi 4 0])
 (.seq
 (.seq
 (.reg 2 none [3,4,12,13,14] [
 qm 12 0,
 qn 13 12,
 qi 14 0])
 (.block 0
 (.loop
 (.seq
 (.reg 3 none [3,4,12,13,14,15] [
 qb 15 .lss 14 13])
 (.seq
 (qq 15
 .skip
 (.exit 0))
 (.seq
 (.block 1
 (.seq
 (.reg 4 none [3,4,6,12,13,14] [
 qx 16 1 12 14,
 ql 17 16,
 qm 6 17])
 (.seq
 (.reg 5 none [3,4,12,13,14,18,19,20] [
 qm 18 6,
 qn 19 18,
 qi 20 0])
 (.block 2
 (.loop
 (.seq
 (.reg 6 none [3,4,12,13,14,18,19,20,21] [
 qb 21 .lss 20 19])
 (.seq
 (qq 21
 .skip
 (.exit 2))
 (.seq
 (.block 3
 (.seq
 (.reg 7 none [3,4,8,12,13,14,18,19,20] [
 qx 22 2 18 20,
 qL 23 2 22,
 .r 8 (.new (.agg [.v (.int .i64 0),.v (.int .i64 0)])),
 qs 2 8 23])
 (.reg 8 (some [0,0,2,0,0,16,56,0,128,504,0,0,2048,7168,1023,32767]) [3,4,12,13,14,18,19,20] [
 qm 24 3,
 qf 25 0 8,
 ql 26 25,
 qm 27 3,
 qf 28 0 8,
 ql 29 28,
 .r 30 (.ext (.mget .ii false) [.t 27,.t 29]),
 qf 31 1 8,
 ql 32 31,
 .r 33 (.mx [.t 30,.t 32]),
 qm 34 4,
 qf 35 0 8,
 ql 36 35,
 .r 37 (.mx [.t 34,.t 36]),
 .rn (.ext (.mput .ii) [.t 24,.t 26,.t 33]),
 qm 4 37])))
 (.reg 9 none [3,4,12,13,14,18,19,20] [
 qa 38 20,
 qm 20 38])))))))))
 (.reg 10 none [3,4,12,13,14] [
 qa 39 14,
 qm 14 39])))))))
 (.seq
 (.reg 11 none [3,4,9] [
 .r 9 (.mv (qN))])
 (.seq
 (.seq
 (.reg 12 none [3,9,41,42] [
 qm 40 4,
 qa 41 40,
 qi 42 0])
 (.block 4
 (.loop
 (.seq
 (.reg 13 none [3,9,41,42,43] [
 qb 43 .lss 42 41])
 (.seq
 (qq 43
 .skip
 (.exit 4))
 (.seq
 (.block 5
 (.seq
 (.reg 14 none [3,9,10,41,42] [
 qm 44 42,
 qm 10 44])
 (.seq
 (.reg 15 none [3,9,10,41,42,48] [
 qm 45 3,
 qm 46 10,
 .r 47 (.ext (.mget .ii false) [.t 45,.t 46]),
 qB 48 .gtr 47 0])
 (qq 48
 (.reg 16 none [3,9,41,42] [
 qm 49 9,
 qm 50 10,
 qm 51 3,
 qm 52 10,
 .r 53 (.ext (.mget .ii false) [.t 51,.t 52]),
 .r 54 (.build [.v (.int .i64 0),.v (.int .i64 0)] [((0,1),.t 50),((1,1),.t 53)]),
 .r 55 (.bsl 2 1 [.t 54]),
 .r 56 (.app 2 16 false (.t 49) (.t 55)),
 qm 9 56])
 .skip))))
 (.reg 17 none [3,9,41,42] [
 qa 57 42,
 qm 42 57])))))))
 (.seq
 (.reg 18 none [2] [
 qm 58 9,
 qm 2 58])
 .ret))))))
def qi8:List (Nat×List Nat):=qy yk
theorem qi9:FnIR Tryz.prog yH 59 qi8 yk [(.tmp 2)]:=
 qF Tryz.func56
def Zz:RC:=
 (.seq
 (.reg 0 none [1,2] [
 .r 2 (.box (.t 0)),
 qi 4 0])
 (.seq
 (.seq
 (.reg 1 none [1,2,5] [
 qL 9 2 2,
 qC 10 jh [.t 9],
 qm 5 10])
 (.seq
 (.reg 2 none [1,2,5,12] [
 qm 11 5,
 qB 12 .neq 11 0])
 (qq 12
 (.seq
 (.reg 3 none [4] [
 qm 13 5,
 qm 4 13])
 .ret)
 .skip)))
 (.seq
 (.seq
 (.reg 4 none [1,2,14,15,16] [
 qm 14 1,
 qn 15 14,
 qi 16 0])
 (.block 0
 (.loop
 (.seq
 (.reg 5 none [1,2,14,15,16,17] [
 qb 17 .lss 16 15])
 (.seq
 (qq 17
 .skip
 (.exit 0))
 (.seq
 (.block 1
 (.seq
 (.reg 6 none [1,2,6,7,14,15,16] [
 qm 18 16,
 qx 19 2 14 16,
 qL 20 2 19,
 .r 7 (.new (.agg [.v (.int .i64 0),.v (.int .i64 0)])),
 qm 6 18,
 qs 2 7 20])
 (.seq
 (.seq
 (.reg 7 none [1,2,6,7,8,14,15,16] [
 qL 21 2 2,
 qL 22 2 7,
 qC 23 QU [.t 21,.t 22],
 qm 8 23])
 (.seq
 (.reg 8 none [1,2,6,7,8,14,15,16,25] [
 qm 24 8,
 qB 25 .neq 24 0])
 (qq 25
 (.seq
 (.reg 9 none [4] [
 qm 26 8,
 qm 4 26])
 .ret)
 .skip)))
 (.seq
 (.reg 10 (some [0,1,3,7,15,7,7,71,231,487,999,2047,4095]) [1,2,14,15,16,39] [
 qm 27 6,
 qB 28 .gtr 27 0,
 qm 29 28,
 qft 30 29 0 7,
 qlt 31 29 30,
 qmt 32 29 1,
 qmt 33 29 6,
 .rt 34 29 (.bin .sub false (.t 33) (qI 1)),
 .rt 35 29 (.ixL 2 (.t 32) (.t 34)),
 qft 36 29 0 35,
 qlt 37 29 36,
 .rt 38 29 (.bin .leq false (.t 31) (.t 37)),
 qp 39 29 38])
 (qq 39
 (.seq
 (.reg 11 none [4] [
 qi 4 10])
 .ret)
 .skip)))))
 (.reg 12 none [1,2,14,15,16] [
 qa 40 16,
 qm 16 40])))))))
 (.seq
 (.reg 13 none [4] [
 qi 4 0])
 .ret))))
def qC4:List (Nat×List Nat):=qy Zz
theorem qC5:FnIR Tryz.prog Jj 41 qC4 Zz [(.tmp 4)]:=
 qF Tryz.func57
def wA:RC:=
 (.seq
 (.reg 0 none [1,2] [
 .r 2 (.box (.t 0)),
 qc 4 false])
 (.seq
 (.reg 1 none [4] [
 qm 5 1,
 .r 6 (.mf jl [.t 2]),
 qC 7 zf [.t 5,.t 6],
 .r 8 (.un .not (.t 7)),
 qm 4 8])
 .ret))
def qc4:List (Nat×List Nat):=qy wA
theorem qc5:FnIR Tryz.prog wR 9 qc4 wA [(.tmp 4)]:=
 qF Tryz.func58
def Jp:RC:=
 (.seq
 (.reg 0 none [1,2] [
 .r 2 (.box (.t 0)),
 qi 4 0])
 (.seq
 (.seq
 (.reg 1 none [1,2,5] [
 qL 8 2 2,
 qC 9 jF [.t 8],
 qm 5 9])
 (.seq
 (.reg 2 none [1,2,5,11] [
 qm 10 5,
 qB 11 .neq 10 0])
 (qq 11
 (.seq
 (.reg 3 none [4] [
 qm 12 5,
 qm 4 12])
 .ret)
 .skip)))
 (.seq
 (.seq
 (.reg 4 none [1,2,6] [
 qi 6 0])
 (.block 0
 (.loop
 (.seq
 (.seq
 (.reg 5 none [1,2,6,16] [
 qm 13 6,
 qm 14 1,
 qn 15 14,
 qb 16 .lss 13 15])
 (qq 16
 .skip
 (.exit 0)))
 (.seq
 (.block 1
 (.seq
 (.seq
 (.reg 7 (some [0,0,0,6,14,31,63]) [1,2,6,7] [
 qL 19 2 2,
 qm 20 1,
 qm 21 6,
 qx 22 2 20 21,
 qL 23 2 22,
 qC 24 WS [.t 19,.t 23],
 qm 7 24])
 (.seq
 (.reg 8 none [1,2,6,7,26] [
 qm 25 7,
 qB 26 .neq 25 0])
 (qq 26
 (.seq
 (.reg 9 none [4] [
 qm 27 7,
 qm 4 27])
 .ret)
 .skip)))
 (.seq
 (.reg 10 (some [0,1,3,7,7,31,63,127,7,7,519,1799,3847,7943,16383,32767]) [1,2,6,43] [
 qm 28 6,
 qB 29 .gtr 28 0,
 qm 30 29,
 qmt 31 30 1,
 qmt 32 30 6,
 .rt 33 30 (.ixL 2 (.t 31) (.t 32)),
 qft 34 30 0 33,
 qlt 35 30 34,
 qmt 36 30 1,
 qmt 37 30 6,
 .rt 38 30 (.bin .sub false (.t 37) (qI 1)),
 .rt 39 30 (.ixL 2 (.t 36) (.t 38)),
 qft 40 30 0 39,
 qlt 41 30 40,
 .rt 42 30 (.bin .leq false (.t 35) (.t 41)),
 qp 43 30 42])
 (qq 43
 (.seq
 (.reg 11 none [4] [
 qi 4 10])
 .ret)
 .skip))))
 (.reg 6 none [1,2,6] [
 qm 17 6,
 qa 18 17,
 qm 6 18]))))))
 (.seq
 (.reg 12 none [4] [
 qi 4 0])
 .ret))))
def qH9:List (Nat×List Nat):=qy Jp
theorem qI0:FnIR Tryz.prog Ky 44 qH9 Jp [(.tmp 4)]:=
 qF Tryz.func59
def qc6:RC:=
 (.seq
 (.reg 0 none [0,1,2] [
 qc 6 false])
 (.seq
 (.reg 1 none [6] [
 qm 7 1,
 qm 8 0,
 qb 9 .leq 7 8,
 qm 10 9,
 qmt 11 10 0,
 qmt 12 10 2,
 .rt 13 10 (.bin .leq false (.t 11) (.t 12)),
 qp 14 10 13,
 qm 6 14])
 .ret))
def zn4:List (Nat×List Nat):=qy qc6
theorem zn5:FnIR Tryz.prog zD 15 zn4 qc6 [(.tmp 6)]:=
 qF Tryz.func60
def qc7:RC:=
 (.seq
 (.reg 0 none [1,2,3] [
 .r 3 (.box (.t 0)),
 qi 6 0])
 (.seq
 (.seq
 (.reg 1 none [1,2,3,31] [
 qL 7 2 3,
 qC 8 jG [.t 7],
 qB 9 .neq 8 0,
 qm 10 9,
 qmf 11 10 1,
 .rf 12 10 (.bin .lss false (.t 11) (qI 0)),
 qP 13 10 12,
 qm 14 13,
 qmf 15 14 1,
 qff 16 14 1 3,
 qlf 17 14 16,
 .rf 18 14 (.lenL (.t 17)),
 .rf 19 14 (.bin .geq false (.t 15) (.t 18)),
 qP 20 14 19,
 qm 21 20,
 qmf 22 21 2,
 .rf 23 21 (.bin .lss false (.t 22) (qI 0)),
 qP 24 21 23,
 qm 25 24,
 qmf 26 25 2,
 .rf 27 25 (.ld (some 2) (.t 3)),
 qmf 28 25 1,
 .rf 29 25 (.call (.k (.clo zo [])) [.t 27,.t 28]),
 .rf 30 25 (.bin .gtr false (.t 26) (.t 29)),
 qP 31 25 30])
 (qq 31
 (.seq
 (.reg 2 none [6] [
 .r 6 (.mv (.k (.v (.int .i64 (-1)))))])
 .ret)
 .skip))
 (.seq
 (.block 0
 (.loop
 (.seq
 (.seq
 (.reg 3 none [1,2,3,36] [
 qL 32 2 3,
 qm 33 1,
 qC 34 zo [.t 32,.t 33],
 qm 35 2,
 qb 36 .gtr 34 35])
 (qq 36
 .skip
 (.exit 0)))
 (.block 1
 (.reg 4 none [1,2,3] [
 qf 37 1 3,
 ql 38 37,
 qm 39 1,
 qx 40 2 38 39,
 qf 41 1 40,
 ql 42 41,
 qm 1 42])))))
 (.seq
 (.reg 5 none [6] [
 qm 43 1,
 qm 6 43])
 .ret))))
def zn6:List (Nat×List Nat):=qy qc7
theorem zn7:FnIR Tryz.prog YG 44 zn6 qc7 [(.tmp 6)]:=
 qF Tryz.func61
def Jq:RC:=
 (.seq
 (.reg 0 none [1,2] [
 .r 2 (.box (.t 0)),
 qi 4 0])
 (.seq
 (.reg 1 none [4] [
 qf 5 5 2,
 ql 6 5,
 qf 7 5 2,
 ql 8 7,
 qn 9 8,
 qm 10 1,
 qb 11 .sub 9 10,
 qx 12 1 6 11,
 ql 13 12,
 qm 4 13])
 .ret))
def qI1:List (Nat×List Nat):=qy Jq
theorem qI2:FnIR Tryz.prog wS 14 qI1 Jq [(.tmp 4)]:=
 qF Tryz.func62
def Jr:RC:=
 (.seq
 (.reg 0 none [0,1] [
 qi 4 0])
 (.seq
 (.reg 1 none [0,1,5] [
 qm 6 0,
 qm 7 1,
 qb 8 .quo 6 7,
 qm 5 8])
 (.seq
 (.seq
 (.reg 2 none [5,12] [
 qm 9 0,
 qm 10 1,
 qb 11 .rem 9 10,
 qB 12 .lss 11 0])
 (qq 12
 (.reg 3 none [5] [
 qm 13 5,
 qB 14 .sub 13 1,
 qm 5 14])
 .skip))
 (.seq
 (.reg 4 none [4] [
 qm 15 5,
 qm 4 15])
 .ret))))
def qI3:List (Nat×List Nat):=qy Jr
theorem qI4:FnIR Tryz.prog Kz 16 qI3 Jr [(.tmp 4)]:=
 qF Tryz.func63
def Js:RC:=
 (.seq
 (.reg 0 none [2,3] [
 .r 2 (.box (.t 0)),
 .r 3 (.box (.t 1)),
 qi 4 0])
 (.seq
 (.seq
 (.reg 1 none [2,3,5] [
 qL 6 2 2,
 qC 7 jF [.t 6],
 qm 5 7])
 (.seq
 (.reg 2 none [2,3,5,9] [
 qm 8 5,
 qB 9 .neq 8 0])
 (qq 9
 (.seq
 (.reg 3 none [4] [
 qm 10 5,
 qm 4 10])
 .ret)
 .skip)))
 (.seq
 (.seq
 (.reg 4 none [2,3,13] [
 qL 11 6 3,
 qC 12 QV [.t 11,qI 41],
 qB 13 .gtr 12 40])
 (qq 13
 (.seq
 (.reg 5 none [4] [
 qi 4 1])
 .ret)
 .skip))
 (.seq
 (.seq
 (.reg 6 none [2,3,16] [
 qL 14 6 3,
 qC 15 QW [.t 14],
 qB 16 .gtr 15 10])
 (qq 16
 (.seq
 (.reg 7 none [4] [
 qi 4 22])
 .ret)
 .skip))
 (.seq
 (.reg 8 none [4] [
 qL 17 2 2,
 qL 18 6 3,
 qC 19 Jc [.t 17,.t 18],
 qm 4 19])
 .ret)))))
def qI5:List (Nat×List Nat):=qy Js
theorem qI6:FnIR Tryz.prog wT 20 qI5 Js [(.tmp 4)]:=
 qF Tryz.func64
def WX:RC:=
 (.seq
 (.reg 0 none [1,2,3,4] [
 .r 4 (.box (.t 0)),
 qc 8 false])
 (.seq
 (.seq
 (.reg 1 none [1,2,3,4,20] [
 qm 15 2,
 qL 16 2 4,
 qm 17 1,
 qC 18 jQ [.t 16,.t 17],
 qC 19 zD [.t 15,qI 0,.t 18],
 .r 20 (.un .not (.t 19))])
 (qq 20
 (.seq
 (.reg 2 none [8] [
 qc 8 false])
 .ret)
 .skip))
 (.seq
 (.reg 3 none [1,2,3,4,9] [
 qf 21 1 4,
 ql 22 21,
 qm 23 1,
 qx 24 7 22 23,
 qL 25 7 24,
 .r 9 (.new (.agg [.v (.string ⟨#[]⟩),.v (.int .i64 0),.v (.int .i64 0),.v (.int .i64 0),.v (.int .i64 0),.v (.slice none 0 0),.v (.bool false)])),
 qs 7 9 25])
 (.seq
 (.seq
 (.reg 4 none [1,2,3,4,9,28] [
 qf 26 1 9,
 ql 27 26,
 qB 28 .eql 27 2])
 (qq 28
 (.seq
 (.reg 5 none [1,2,3,4,10] [
 qL 29 2 4,
 qm 30 1,
 qC 31 jP [.t 29,.t 30],
 qm 10 31])
 (.seq
 (.seq
 (.reg 6 none [1,2,3,4,10,11] [
 qi 11 0])
 (.block 0
 (.loop
 (.seq
 (.seq
 (.reg 7 none [1,2,3,4,10,11,35] [
 qm 32 11,
 qm 33 10,
 qn 34 33,
 qb 35 .lss 32 34])
 (qq 35
 .skip
 (.exit 0)))
 (.seq
 (.block 1
 (.seq
 (.reg 9 (some [0,0,0,0,0,24,56,127,0,511]) [1,2,3,4,10,11,47] [
 qL 38 2 4,
 qm 39 1,
 qm 40 2,
 qm 41 10,
 qm 42 11,
 qx 43 1 41 42,
 ql 44 43,
 qC 45 jg [.t 38,.t 39,.t 40,.t 44],
 qm 46 3,
 qb 47 .eql 45 46])
 (qq 47
 (.seq
 (.reg 10 none [8] [
 qc 8 true])
 .ret)
 .skip)))
 (.reg 8 none [1,2,3,4,10,11] [
 qm 36 11,
 qa 37 36,
 qm 11 37]))))))
 (.seq
 (.reg 11 none [8] [
 qc 8 false])
 .ret)))
 .skip))
 (.seq
 (.seq
 (.reg 12 none [2,3,9,53] [
 qm 48 2,
 qB 49 .gtr 48 0,
 qm 50 49,
 qmt 51 50 3,
 .rt 52 50 (.bin .eql false (.t 51) (.k (.v (.int .i64 (-1099511627776))))),
 qp 53 50 52])
 (qq 53
 (.seq
 (.reg 13 none [8] [
 qf 54 6 9,
 ql 55 54,
 qm 8 55])
 .ret)
 .skip))
 (.seq
 (.reg 14 none [14] [
 qL 57 7 9,
 qm 58 2,
 qm 59 3,
 qC 60 QX [.t 57,.t 58,.t 59],
 qm 56 60,
 .r 61 (.ex (.t 56) 0),
 .r 62 (.ex (.t 56) 1),
 .r 63 (.ex (.t 56) 2),
 qm 12 61,
 qm 13 62,
 qm 14 63])
 (.seq
 (.reg 15 none [8] [
 qm 64 14,
 qm 8 64])
 .ret)))))))
def zg8:List (Nat×List Nat):=qy WX
theorem zg9:FnIR Tryz.prog qb6 65 zg8 WX [(.tmp 8)]:=
 qF Tryz.func65
def ZA:RC:=
 (.seq
 (.reg 0 none [2,3,4,5] [
 .r 4 (.box (.t 0)),
 .r 5 (.box (.t 1)),
 qi 8 0])
 (.seq
 (.seq
 (.reg 1 none [2,3,4,5,26] [
 qf 14 0 5,
 ql 15 14,
 qB 16 .eql 15 2,
 qm 17 16,
 qff 18 17 0 5,
 qlf 19 17 18,
 .rf 20 17 (.bin .eql false (.t 19) (qI 3)),
 qP 21 17 20,
 qm 22 21,
 qff 23 22 0 5,
 qlf 24 22 23,
 .rf 25 22 (.bin .eql false (.t 24) (qI 4)),
 qP 26 22 25])
 (qq 26
 (.seq
 (.reg 2 none [2,3,4,5,9,10] [
 qi 9 0,
 qi 10 0])
 (.seq
 (.seq
 (.reg 3 none [2,3,4,5,9,10,11] [
 qi 11 0])
 (.block 0
 (.loop
 (.seq
 (.seq
 (.reg 4 none [2,3,4,5,9,10,11,30] [
 qm 27 11,
 qm 28 2,
 qn 29 28,
 qb 30 .lss 27 29])
 (qq 30
 .skip
 (.exit 0)))
 (.seq
 (.block 1
 (.seq
 (.reg 6 (some [0,0,3,7,15,0,32,127]) [2,3,4,5,9,10,11,40] [
 qm 33 2,
 qm 34 11,
 qx 35 2 33 34,
 qf 36 0 35,
 ql 37 36,
 qf 38 1 5,
 ql 39 38,
 qb 40 .eql 37 39])
 (qq 40
 (.reg 7 (some [0,0,3,7,15,0,0,96,224,31,1023]) [2,3,4,5,9,10,11] [
 qm 41 2,
 qm 42 11,
 qx 43 2 41 42,
 qf 44 1 43,
 ql 45 44,
 qm 46 3,
 qm 47 11,
 qx 48 1 46 47,
 ql 49 48,
 qm 9 45,
 qm 10 49])
 .skip)))
 (.reg 5 none [2,3,4,5,9,10,11] [
 qm 31 11,
 qa 32 31,
 qm 11 32]))))))
 (.seq
 (.reg 8 (some [0,0,0,0,8,0,0,124,255,511]) [8] [
 qL 50 2 4,
 qL 51 6 5,
 qL 52 2 4,
 qf 53 1 5,
 ql 54 53,
 qm 55 9,
 qm 56 10,
 qC 57 WT [.t 52,.t 54,.t 55,.t 56],
 qC 58 wG [.t 50,.t 51,.t 57],
 qm 8 58])
 .ret)))
 .skip))
 (.seq
 (.reg 9 none [2,3,4,5,12] [
 .r 12 (.mv (qN))])
 (.seq
 (.seq
 (.reg 10 none [2,3,4,5,12,13] [
 qi 13 0])
 (.block 2
 (.loop
 (.seq
 (.seq
 (.reg 11 none [2,3,4,5,12,13,63] [
 qm 59 13,
 qf 60 5 5,
 ql 61 60,
 qn 62 61,
 qb 63 .lss 59 62])
 (qq 63
 .skip
 (.exit 2)))
 (.seq
 (.block 3
 (.reg 13 (some [0,0,0,4,0,28,60,0,0,510,1022,2047,4095]) [2,3,4,5,12,13] [
 qm 66 12,
 qL 67 2 4,
 qf 68 5 5,
 ql 69 68,
 qm 70 13,
 qx 71 6 69 70,
 qL 72 6 71,
 qm 73 2,
 qm 74 3,
 qC 75 Qf [.t 67,.t 72,.t 73,.t 74],
 .r 76 (.bsl 1 1 [.t 75]),
 .r 77 (.app 1 8 false (.t 66) (.t 76)),
 qm 12 77]))
 (.reg 12 none [2,3,4,5,12,13] [
 qm 64 13,
 qa 65 64,
 qm 13 65]))))))
 (.seq
 (.reg 14 none [8] [
 qf 78 0 5,
 ql 79 78,
 qm 80 12,
 qC 81 Jd [.t 79,.t 80],
 qm 8 81])
 .ret)))))
def qC6:List (Nat×List Nat):=qy ZA
theorem qC7:FnIR Tryz.prog Qf 82 qC6 ZA [(.tmp 8)]:=
 qF Tryz.func66
def WY:RC:=
 (.seq
 (.reg 0 none [1,2] [
 .r 2 (.box (.t 0)),
 qi 4 0])
 (.seq
 (.seq
 (.reg 1 none [1,2,5] [
 qL 7 2 2,
 qC 8 jF [.t 7],
 qm 5 8])
 (.seq
 (.reg 2 none [1,2,5,10] [
 qm 9 5,
 qB 10 .neq 9 0])
 (qq 10
 (.seq
 (.reg 3 none [4] [
 qm 11 5,
 qm 4 11])
 .ret)
 .skip)))
 (.seq
 (.seq
 (.reg 4 none [1,2,17] [
 qm 12 1,
 qn 13 12,
 qf 14 1 2,
 ql 15 14,
 qn 16 15,
 qb 17 .neq 13 16])
 (qq 17
 (.seq
 (.reg 5 none [4] [
 qi 4 9])
 .ret)
 .skip))
 (.seq
 (.seq
 (.reg 6 none [1,2,6] [
 qi 6 0])
 (.block 0
 (.loop
 (.seq
 (.seq
 (.reg 7 none [1,2,6,21] [
 qm 18 6,
 qm 19 1,
 qn 20 19,
 qb 21 .lss 18 20])
 (qq 21
 .skip
 (.exit 0)))
 (.seq
 (.block 1
 (.seq
 (.reg 9 (some [0,0,0,0,12,28,63,127]) [1,2,6,31] [
 qL 24 2 2,
 qm 25 6,
 qm 26 1,
 qm 27 6,
 qx 28 1 26 27,
 ql 29 28,
 qC 30 QS [.t 24,.t 25,.t 29],
 .r 31 (.un .not (.t 30))])
 (qq 31
 (.seq
 (.reg 10 none [4] [
 qi 4 9])
 .ret)
 .skip)))
 (.reg 8 none [1,2,6] [
 qm 22 6,
 qa 23 22,
 qm 6 23]))))))
 (.seq
 (.reg 11 none [4] [
 qi 4 0])
 .ret)))))
def zh0:List (Nat×List Nat):=qy WY
theorem zh1:FnIR Tryz.prog qb7 32 zh0 WY [(.tmp 4)]:=
 qF Tryz.func67
def KK:RC:=
 (.seq
 (.reg 0 none [2,3,4] [
 .r 3 (.box (.t 0)),
 .r 4 (.box (.t 1)),
 qi 6 0])
 (.seq
 (.seq
 (.reg 1 none [2,3,4,21] [
 qf 9 0 4,
 ql 10 9,
 qB 11 .eql 10 2,
 qm 12 11,
 qff 13 12 0 4,
 qlf 14 12 13,
 .rf 15 12 (.bin .eql false (.t 14) (qI 3)),
 qP 16 12 15,
 qm 17 16,
 qff 18 17 0 4,
 qlf 19 17 18,
 .rf 20 17 (.bin .eql false (.t 19) (qI 4)),
 qP 21 17 20])
 (qq 21
 (.seq
 (.reg 2 (some [0,0,0,0,8,28,60,127,255]) [6] [
 qL 22 2 3,
 qL 23 6 4,
 qm 24 2,
 qf 25 1 4,
 ql 26 25,
 qx 27 1 24 26,
 ql 28 27,
 qC 29 wG [.t 22,.t 23,.t 28],
 qm 6 29])
 .ret)
 .skip))
 (.seq
 (.reg 3 none [2,3,4,7] [
 .r 7 (.mv (qN))])
 (.seq
 (.seq
 (.reg 4 none [2,3,4,7,8] [
 qi 8 0])
 (.block 0
 (.loop
 (.seq
 (.seq
 (.reg 5 none [2,3,4,7,8,34] [
 qm 30 8,
 qf 31 5 4,
 ql 32 31,
 qn 33 32,
 qb 34 .lss 30 33])
 (qq 34
 .skip
 (.exit 0)))
 (.seq
 (.block 1
 (.reg 7 (some [0,0,0,4,0,28,60,0,254,510,1023,2047]) [2,3,4,7,8] [
 qm 37 7,
 qL 38 2 3,
 qf 39 5 4,
 ql 40 39,
 qm 41 8,
 qx 42 6 40 41,
 qL 43 6 42,
 qm 44 2,
 qC 45 Jb [.t 38,.t 43,.t 44],
 .r 46 (.bsl 1 1 [.t 45]),
 .r 47 (.app 1 8 false (.t 37) (.t 46)),
 qm 7 47]))
 (.reg 6 none [2,3,4,7,8] [
 qm 35 8,
 qa 36 35,
 qm 8 36]))))))
 (.seq
 (.reg 8 none [6] [
 qf 48 0 4,
 ql 49 48,
 qm 50 7,
 qC 51 Jd [.t 49,.t 50],
 qm 6 51])
 .ret)))))
def qU1:List (Nat×List Nat):=qy KK
theorem qU2:FnIR Tryz.prog Jb 52 qU1 KK [(.tmp 6)]:=
 qF Tryz.func68
def wB:RC:=
 (.seq
 (.reg 0 none [0,3] [
 .r 3 (.box (.t 1)),
 qi 4 0])
 (.seq
 (.reg 1 none [0,5] [
 qL 6 2 3,
 qC 7 jR [.t 6,qI 2],
 qm 5 7])
 (.seq
 (.reg 2 none [4] [
 qm 8 5,
 qm 9 0,
 qm 10 5,
 qn 11 10,
 qC 12 qz [.t 9,.t 11],
 qx 13 1 8 12,
 ql 14 13,
 qm 4 14])
 .ret)))
def qc8:List (Nat×List Nat):=qy wB
theorem qc9:FnIR Tryz.prog wU 15 qc8 wB [(.tmp 4)]:=
 qF Tryz.func69
def Jt:RC:=
 (.seq
 (.reg 0 none [1] [
 .r 1 (.box (.t 0)),
 .r 2 (.mv (qN))])
 (.seq
 (.seq
 (.reg 1 none [1,17] [
 qf 5 0 1,
 ql 6 5,
 qB 7 .eql 6 2,
 qm 8 7,
 qff 9 8 0 1,
 qlf 10 8 9,
 .rf 11 8 (.bin .eql false (.t 10) (qI 3)),
 qP 12 8 11,
 qm 13 12,
 qff 14 13 0 1,
 qlf 15 13 14,
 .rf 16 13 (.bin .eql false (.t 15) (qI 4)),
 qP 17 13 16])
 (qq 17
 (.seq
 (.reg 2 none [2] [
 qL 18 6 1,
 .r 19 (.bsl 6 1 [.t 18]),
 qm 2 19])
 .ret)
 .skip))
 (.seq
 (.reg 3 none [1,3] [
 .r 3 (.mv (qN))])
 (.seq
 (.seq
 (.reg 4 none [1,3,4] [
 qi 4 0])
 (.block 0
 (.loop
 (.seq
 (.seq
 (.reg 5 none [1,3,4,24] [
 qm 20 4,
 qf 21 5 1,
 ql 22 21,
 qn 23 22,
 qb 24 .lss 20 23])
 (qq 24
 .skip
 (.exit 0)))
 (.seq
 (.block 1
 (.reg 7 none [1,3,4] [
 qm 27 3,
 qf 28 5 1,
 ql 29 28,
 qm 30 4,
 qx 31 6 29 30,
 qL 32 6 31,
 qC 33 QT [.t 32],
 .r 34 (.app 6 64 false (.t 27) (.t 33)),
 qm 3 34]))
 (.reg 6 none [1,3,4] [
 qm 25 4,
 qa 26 25,
 qm 4 26]))))))
 (.seq
 (.reg 8 none [2] [
 qm 35 3,
 qm 2 35])
 .ret)))))
def qI7:List (Nat×List Nat):=qy Jt
theorem qI8:FnIR Tryz.prog QT 36 qI7 Jt [(.tmp 2)]:=
 qF Tryz.func70
def QC:RC:=
 (.seq
 (.reg 0 none [2,3,4] [
 .r 3 (.box (.t 0)),
 .r 4 (.box (.t 1)),
 qc 6 false])
 (.seq
 (.reg 1 none [2,3,4,7] [
 qf 14 1 3,
 ql 15 14,
 qf 16 1 4,
 ql 17 16,
 qx 18 7 15 17,
 qL 19 7 18,
 .r 7 (.new (.agg [.v (.string ⟨#[]⟩),.v (.int .i64 0),.v (.int .i64 0),.v (.int .i64 0),.v (.int .i64 0),.v (.slice none 0 0),.v (.bool false)])),
 qs 7 7 19])
 (.seq
 (.seq
 (.reg 2 none [2,3,4,7,22] [
 qf 20 0 4,
 ql 21 20,
 qB 22 .eql 21 2])
 (qq 22
 (.seq
 (.reg 3 none [2,3,4,8] [
 qL 23 2 3,
 qf 24 1 4,
 ql 25 24,
 qC 26 jP [.t 23,.t 25],
 qm 8 26])
 (.seq
 (.seq
 (.reg 4 none [2,3,4,8,9] [
 qi 9 0])
 (.block 0
 (.loop
 (.seq
 (.seq
 (.reg 5 none [2,3,4,8,9,30] [
 qm 27 9,
 qm 28 8,
 qn 29 28,
 qb 30 .lss 27 29])
 (qq 30
 .skip
 (.exit 0)))
 (.seq
 (.block 1
 (.seq
 (.reg 7 none [2,3,4,8,9,10] [
 qi 10 0])
 (.block 2
 (.loop
 (.seq
 (.seq
 (.reg 8 none [2,3,4,8,9,10,35] [
 qm 33 10,
 qm 34 9,
 qb 35 .lss 33 34])
 (qq 35
 .skip
 (.exit 2)))
 (.seq
 (.block 3
 (.seq
 (.reg 10 (some [0,0,2,0,0,0,48,112,255,0,0,1024,0,0,0,24576,57344,131071,262143,524287,1048575,1048575,1048575,1048575,13631487,30408703,67108863,1048575,1048575,1048575,1048575,1611661311,3759144959,8589934591,17179869183,34359738367]) [2,3,4,8,9,10,73] [
 qL 38 2 3,
 qf 39 1 4,
 ql 40 39,
 qm 41 2,
 qm 42 8,
 qm 43 9,
 qx 44 1 42 43,
 ql 45 44,
 qC 46 jg [.t 38,.t 40,.t 41,.t 45],
 qL 47 2 3,
 qf 48 1 4,
 ql 49 48,
 qm 50 2,
 qm 51 8,
 qm 52 10,
 qx 53 1 51 52,
 ql 54 53,
 qC 55 jg [.t 47,.t 49,.t 50,.t 54],
 qb 56 .eql 46 55,
 qm 57 56,
 .rt 58 57 (.ld (some 2) (.t 3)),
 .rt 59 57 (.ld (some 6) (.t 4)),
 qmt 60 57 8,
 qmt 61 57 9,
 .rt 62 57 (.ixL 1 (.t 60) (.t 61)),
 qlt 63 57 62,
 .rt 64 57 (.call (.k (.clo wG [])) [.t 58,.t 59,.t 63]),
 .rt 65 57 (.ld (some 2) (.t 3)),
 .rt 66 57 (.ld (some 6) (.t 4)),
 qmt 67 57 8,
 qmt 68 57 10,
 .rt 69 57 (.ixL 1 (.t 67) (.t 68)),
 qlt 70 57 69,
 .rt 71 57 (.call (.k (.clo wG [])) [.t 65,.t 66,.t 70]),
 .rt 72 57 (.bin .neq false (.t 64) (.t 71)),
 qp 73 57 72])
 (qq 73
 (.seq
 (.reg 11 none [6] [
 qc 6 false])
 .ret)
 .skip)))
 (.reg 9 none [2,3,4,8,9,10] [
 qm 36 10,
 qa 37 36,
 qm 10 37])))))))
 (.reg 6 none [2,3,4,8,9] [
 qm 31 9,
 qa 32 31,
 qm 9 32]))))))
 (.seq
 (.reg 12 none [6] [
 qc 6 true])
 .ret)))
 .skip))
 (.seq
 (.seq
 (.reg 13 none [2,4,7,76] [
 qf 74 0 4,
 ql 75 74,
 qB 76 .eql 75 4])
 (qq 76
 (.seq
 (.reg 14 none [6] [
 qm 77 2,
 qB 78 .gtr 77 0,
 qm 6 78])
 .ret)
 .skip))
 (.seq
 (.reg 15 (some [0,1,0,4,15,31,63,127,63,319,1023,2047,0,4096,0,16384,61440,127039,258111,520255,258111,1306687,4190271,8384575,262143,33554431]) [2,4,7,11,12] [
 qf 79 3 4,
 ql 80 79,
 qf 81 3 7,
 ql 82 81,
 qb 83 .gtr 80 82,
 qm 84 83,
 qft 85 84 3 4,
 qlt 86 84 85,
 qft 87 84 4 7,
 qlt 88 84 87,
 .rt 89 84 (.bin .leq false (.t 86) (.t 88)),
 qp 90 84 89,
 qf 91 4 4,
 ql 92 91,
 qf 93 3 7,
 ql 94 93,
 qb 95 .geq 92 94,
 qm 96 95,
 qft 97 96 4 4,
 qlt 98 96 97,
 qft 99 96 4 7,
 qlt 100 96 99,
 .rt 101 96 (.bin .lss false (.t 98) (.t 100)),
 qp 102 96 101,
 qm 11 90,
 qm 12 102])
 (.seq
 (.seq
 (.reg 16 none [2,4,7,11,12,104] [
 qm 103 2,
 qB 104 .eql 103 0])
 (qq 104
 (.seq
 (.reg 17 none [6] [
 qf 105 6 7,
 ql 106 105,
 .r 107 (.un .not (.t 106)),
 qm 108 107,
 qmt 109 108 11,
 .rt 110 108 (.un .not (.t 109)),
 qp 111 108 110,
 qm 112 111,
 qmt 113 112 12,
 .rt 114 112 (.un .not (.t 113)),
 qp 115 112 114,
 qm 6 115])
 .ret)
 .skip))
 (.seq
 (.reg 18 none [4,11,12,13] [
 qL 116 7 7,
 qm 117 2,
 qC 118 wS [.t 116,.t 117],
 qm 13 118])
 (.seq
 (.reg 19 none [6] [
 qm 119 11,
 .r 120 (.un .not (.t 119)),
 qm 121 120,
 qff 122 121 3 4,
 qlf 123 121 122,
 qmf 124 121 13,
 .rf 125 121 (.bin .rem false (.t 123) (.t 124)),
 .rf 126 121 (.bin .eql false (.t 125) (qI 0)),
 qP 127 121 126,
 qm 128 127,
 qmt 129 128 12,
 .rt 130 128 (.un .not (.t 129)),
 qmt 131 128 130,
 qff 132 131 4 4,
 qlf 133 131 132,
 .rf 134 131 (.bin .add false (.t 133) (qI 1)),
 qmf 135 131 13,
 .rf 136 131 (.bin .rem false (.t 134) (.t 135)),
 .rf 137 131 (.bin .eql false (.t 136) (qI 0)),
 .rt 138 128 (.pick (.t 131) (.k (.v (.bool true))) (.t 137)),
 qp 139 128 138,
 qm 6 139])
 .ret))))))))
def qu4:List (Nat×List Nat):=qy QC
theorem qu5:FnIR Tryz.prog Zo 140 qu4 QC [(.tmp 6)]:=
 qF Tryz.func71
def ju:RC:=
 (.seq
 (.reg 0 none [0] [
 .r 2 (.mv (.k (.v (.string ⟨#[]⟩))))])
 (.seq
 (.reg 1 none [2] [
 qm 3 0,
 qC 4 zK [.t 3,qI 10],
 qm 2 4])
 .ret))
def Ka:List (Nat×List Nat):=qy ju
theorem Kb:FnIR Tryz.prog jE 5 Ka ju [(.tmp 2)]:=
 qF Tryz.func72
def ZB:RC:=
 (.seq
 (.reg 0 none [1,2] [
 .r 2 (.box (.t 0)),
 .r 4 (.mv (qN))])
 (.seq
 (.reg 1 none [1,2,5] [
 .r 5 (.mv (qN))])
 (.seq
 (.seq
 (.reg 2 none [1,2,5,9,10] [
 qf 7 1 2,
 ql 8 7,
 qn 9 8,
 qi 10 0])
 (.block 0
 (.loop
 (.seq
 (.reg 3 none [1,2,5,9,10,11] [
 qb 11 .lss 10 9])
 (.seq
 (qq 11
 .skip
 (.exit 0))
 (.seq
 (.block 1
 (.seq
 (.reg 4 none [1,2,5,6,9,10] [
 qm 12 10,
 qm 6 12])
 (.seq
 (.reg 5 none [1,2,5,6,9,10,20] [
 qf 13 1 2,
 ql 14 13,
 qm 15 6,
 qx 16 7 14 15,
 qf 17 1 16,
 ql 18 17,
 qm 19 1,
 qb 20 .eql 18 19])
 (qq 20
 (.reg 6 none [1,2,5,9,10] [
 qm 21 5,
 qm 22 6,
 .r 23 (.bsl 1 1 [.t 22]),
 .r 24 (.app 1 8 false (.t 21) (.t 23)),
 qm 5 24])
 .skip))))
 (.reg 7 none [1,2,5,9,10] [
 qa 25 10,
 qm 10 25])))))))
 (.seq
 (.reg 8 none [4] [
 qm 26 5,
 qm 4 26])
 .ret))))
def qC8:List (Nat×List Nat):=qy ZB
theorem qC9:FnIR Tryz.prog jR 27 qC8 ZB [(.tmp 4)]:=
 qF Tryz.func73
def qd0:RC:=
 (.seq
 (.reg 0 none [1,2] [
 .r 2 (.box (.t 0)),
 .r 4 (.mv (qN))])
 (.seq
 (.reg 1 none [1,2,5] [
 .r 5 (.mv (qN))])
 (.seq
 (.seq
 (.reg 2 none [1,2,5,9] [
 qL 7 2 2,
 qC 8 jG [.t 7],
 qB 9 .neq 8 0])
 (qq 9
 (.seq
 (.reg 3 none [4] [
 .r 4 (.mv (qN))])
 .ret)
 .skip))
 (.seq
 (.seq
 (.reg 4 none [1,2,5,6] [
 qi 6 0])
 (.block 0
 (.loop
 (.seq
 (.seq
 (.reg 5 none [1,2,5,6,14] [
 qm 10 6,
 qf 11 1 2,
 ql 12 11,
 qn 13 12,
 qb 14 .lss 10 13])
 (qq 14
 .skip
 (.exit 0)))
 (.seq
 (.block 1
 (.seq
 (.reg 7 none [1,2,5,6,21] [
 qL 17 2 2,
 qm 18 6,
 qC 19 zo [.t 17,.t 18],
 qm 20 1,
 qb 21 .eql 19 20])
 (qq 21
 (.reg 8 none [1,2,5,6] [
 qm 22 5,
 qm 23 6,
 .r 24 (.bsl 1 1 [.t 23]),
 .r 25 (.app 1 8 false (.t 22) (.t 24)),
 qm 5 25])
 .skip)))
 (.reg 6 none [1,2,5,6] [
 qm 15 6,
 qa 16 15,
 qm 6 16]))))))
 (.seq
 (.reg 9 none [4] [
 qm 26 5,
 qm 4 26])
 .ret)))))
def zn8:List (Nat×List Nat):=qy qd0
theorem zn9:FnIR Tryz.prog qn9 27 zn8 qd0 [(.tmp 4)]:=
 qF Tryz.func74
def ZC:RC:=
 (.seq
 (.reg 0 none [1] [
 .r 1 (.box (.t 0)),
 qi 2 0])
 (.seq
 (.seq
 (.reg 1 none [1,5] [
 qL 3 2 1,
 qC 4 jG [.t 3],
 qB 5 .neq 4 0])
 (qq 5
 (.seq
 (.reg 2 none [2] [
 .r 2 (.mv (.k (.v (.int .i64 (-1)))))])
 .ret)
 .skip))
 (.seq
 (.reg 3 none [2] [
 qL 6 2 1,
 qf 7 1 1,
 ql 8 7,
 qn 9 8,
 qB 10 .sub 9 1,
 qC 11 zo [.t 6,.t 10],
 qa 12 11,
 qm 2 12])
 .ret)))
def qD0:List (Nat×List Nat):=qy ZC
theorem qD1:FnIR Tryz.prog kX 13 qD0 ZC [(.tmp 2)]:=
 qF Tryz.func75
def ZD:RC:=
 (.seq
 (.reg 0 none [1] [
 .r 1 (.box (.t 0)),
 qi 2 0])
 (.seq
 (.seq
 (.reg 1 none [1,17] [
 qf 8 0 1,
 ql 9 8,
 qn 10 9,
 qB 11 .gtr 10 6,
 qm 12 11,
 qff 13 12 1 1,
 qlf 14 12 13,
 .rf 15 12 (.lenL (.t 14)),
 .rf 16 12 (.bin .gtr false (.t 15) (qI 8)),
 qP 17 12 16])
 (qq 17
 (.seq
 (.reg 2 none [2] [
 qi 2 1])
 .ret)
 .skip))
 (.seq
 (.seq
 (.reg 3 none [1,19,20,21] [
 qf 18 0 1,
 ql 19 18,
 qn 20 19,
 qi 21 0])
 (.block 0
 (.loop
 (.seq
 (.reg 4 none [1,19,20,21,22] [
 qb 22 .lss 21 20])
 (.seq
 (qq 22
 .skip
 (.exit 0))
 (.seq
 (.block 1
 (.seq
 (.reg 5 none [1,3,4,19,20,21] [
 qm 23 21,
 qx 24 2 19 21,
 qL 25 2 24,
 .r 4 (.new (.agg [.v (.string ⟨#[]⟩),.v (.slice none 0 0)])),
 qm 3 23,
 qs 2 4 25])
 (.seq
 (.seq
 (.reg 6 none [1,3,4,5,19,20,21] [
 qL 26 2 4,
 qC 27 kD [.t 26],
 qm 5 27])
 (.seq
 (.reg 7 none [1,3,4,5,19,20,21,29] [
 qm 28 5,
 qB 29 .neq 28 0])
 (qq 29
 (.seq
 (.reg 8 none [2] [
 qm 30 5,
 qm 2 30])
 .ret)
 .skip)))
 (.seq
 (.reg 9 none [1,19,20,21,36] [
 qf 31 0 1,
 ql 32 31,
 qm 33 3,
 .r 34 (.slL 2 (.t 32) none (some (.t 33))),
 .r 35 (.mf wn [.t 4]),
 qC 36 zB [.t 34,.t 35]])
 (qq 36
 (.seq
 (.reg 10 none [2] [
 qi 2 10])
 .ret)
 .skip)))))
 (.reg 11 none [1,19,20,21] [
 qa 37 21,
 qm 21 37])))))))
 (.seq
 (.seq
 (.reg 12 none [1,49] [
 qf 38 1 1,
 ql 39 38,
 qn 40 39,
 qB 41 .eql 40 0,
 qm 42 41,
 qff 43 42 1 1,
 qlf 44 42 43,
 .rf 45 42 (.ixL 7 (.t 44) (qI 0)),
 qff 46 42 1 45,
 qlf 47 42 46,
 .rf 48 42 (.bin .neq false (.t 47) (qI 1)),
 qP 49 42 48])
 (qq 49
 (.seq
 (.reg 13 none [2] [
 qi 2 7])
 .ret)
 .skip))
 (.seq
 (.seq
 (.reg 14 none [1,52,53] [
 qf 50 1 1,
 ql 51 50,
 qn 52 51,
 qi 53 0])
 (.block 2
 (.loop
 (.seq
 (.reg 15 none [1,52,53,54] [
 qb 54 .lss 53 52])
 (.seq
 (qq 54
 .skip
 (.exit 2))
 (.seq
 (.block 3
 (.seq
 (.reg 16 none [1,6,52,53] [
 qm 55 53,
 qm 6 55])
 (.seq
 (.reg 17 none [1,7,52,53] [
 qL 56 2 1,
 qm 57 6,
 qC 58 kN [.t 56,.t 57],
 qm 7 58])
 (.seq
 (.reg 18 none [1,7,52,53,60] [
 qm 59 7,
 qB 60 .neq 59 0])
 (qq 60
 (.seq
 (.reg 19 none [2] [
 qm 61 7,
 qm 2 61])
 .ret)
 .skip)))))
 (.reg 20 none [1,52,53] [
 qa 62 53,
 qm 53 62])))))))
 (.seq
 (.reg 21 none [2] [
 qi 2 0])
 .ret))))))
def qD2:List (Nat×List Nat):=qy ZD
theorem qD3:FnIR Tryz.prog jh 63 qD2 ZD [(.tmp 2)]:=
 qF Tryz.func76
def KL:RC:=
 (.seq
 (.reg 0 none [0] [
 qc 2 false])
 (.seq
 (.seq
 (.reg 1 none [0,22] [
 qm 5 0,
 .r 6 (.lenS (.t 5)),
 qB 7 .lss 6 1,
 qm 8 7,
 qmf 9 8 0,
 .rf 10 8 (.lenS (.t 9)),
 .rf 11 8 (.bin .gtr false (.t 10) (qI 16)),
 qP 12 8 11,
 qm 13 12,
 qmf 14 13 0,
 .rf 15 13 (.sx (.t 14) (qI 0)),
 .rf 16 13 (.bin .lss false (.t 15) (.k (.v (.int .u8 97)))),
 qP 17 13 16,
 qm 18 17,
 qmf 19 18 0,
 .rf 20 18 (.sx (.t 19) (qI 0)),
 .rf 21 18 (.bin .gtr false (.t 20) (.k (.v (.int .u8 122)))),
 qP 22 18 21])
 (qq 22
 (.seq
 (.reg 2 none [2] [
 qc 2 false])
 .ret)
 .skip))
 (.seq
 (.seq
 (.reg 3 none [0,24,25,26] [
 qm 23 0,
 .r 24 (.cvSB (.t 23)),
 qn 25 24,
 qi 26 0])
 (.block 0
 (.loop
 (.seq
 (.reg 4 none [0,24,25,26,27] [
 qb 27 .lss 26 25])
 (.seq
 (qq 27
 .skip
 (.exit 0))
 (.seq
 (.block 1
 (.seq
 (.reg 5 none [0,4,24,25,26] [
 qx 28 1 24 26,
 ql 29 28,
 qm 4 29])
 (.seq
 (.reg 6 none [0,24,25,26,47] [
 qm 30 4,
 .r 31 (.bin .lss false (.t 30) (.k (.v (.int .u8 97)))),
 qm 32 31,
 qmf 33 32 4,
 .rf 34 32 (.bin .gtr false (.t 33) (.k (.v (.int .u8 122)))),
 qP 35 32 34,
 qm 36 35,
 qmt 37 36 4,
 .rt 38 36 (.bin .lss false (.t 37) (.k (.v (.int .u8 48)))),
 qmt 39 36 38,
 qmf 40 39 4,
 .rf 41 39 (.bin .gtr false (.t 40) (.k (.v (.int .u8 57)))),
 .rt 42 36 (.pick (.t 39) (.k (.v (.bool true))) (.t 41)),
 qp 43 36 42,
 qm 44 43,
 qmt 45 44 4,
 .rt 46 44 (.bin .neq false (.t 45) (.k (.v (.int .u8 95)))),
 qp 47 44 46])
 (qq 47
 (.seq
 (.reg 7 none [2] [
 qc 2 false])
 .ret)
 .skip))))
 (.reg 8 none [0,24,25,26] [
 qa 48 26,
 qm 26 48])))))))
 (.seq
 (.seq
 (.reg 9 none [49] [
 qm 49 0])
 (.block 2
 (.seq
 (.seq
 (.reg 10 none [49,50] [
 .r 51 (.bin .eql false (.t 49) (.k (.v (.string ⟨#[97,108,108]⟩)))),
 qm 50 51])
 (qq 50
 .skip
 (.seq
 (.reg 11 none [49,50] [
 .r 52 (.bin .eql false (.t 49) (.k (.v (.string ⟨#[97,110,100]⟩)))),
 qm 50 52])
 (qq 50
 .skip
 (.seq
 (.reg 12 none [49,50] [
 .r 53 (.bin .eql false (.t 49) (.k (.v (.string ⟨#[101,118,101,110,116]⟩)))),
 qm 50 53])
 (qq 50
 .skip
 (.seq
 (.reg 13 none [49,50] [
 .r 54 (.bin .eql false (.t 49) (.k (.v (.string ⟨#[102,114,111,109]⟩)))),
 qm 50 54])
 (qq 50
 .skip
 (.seq
 (.reg 14 none [49,50] [
 .r 55 (.bin .eql false (.t 49) (.k (.v (.string ⟨#[109,105,115,115,105,110,103]⟩)))),
 qm 50 55])
 (qq 50
 .skip
 (.seq
 (.reg 15 none [49,50] [
 .r 56 (.bin .eql false (.t 49) (.k (.v (.string ⟨#[110,111,116]⟩)))),
 qm 50 56])
 (qq 50
 .skip
 (.seq
 (.reg 16 none [49,50] [
 .r 57 (.bin .eql false (.t 49) (.k (.v (.string ⟨#[111,110]⟩)))),
 qm 50 57])
 (qq 50
 .skip
 (.seq
 (.reg 17 none [49,50] [
 .r 58 (.bin .eql false (.t 49) (.k (.v (.string ⟨#[111,114]⟩)))),
 qm 50 58])
 (qq 50
 .skip
 (.seq
 (.reg 18 none [49,50] [
 .r 59 (.bin .eql false (.t 49) (.k (.v (.string ⟨#[116,111]⟩)))),
 qm 50 59])
 (qq 50
 .skip
 (.seq
 (.reg 19 none [49,50] [
 .r 60 (.bin .eql false (.t 49) (.k (.v (.string ⟨#[117,110,100,101,114]⟩)))),
 qm 50 60])
 (qq 50
 .skip
 (.reg 20 none [50] [
 .r 61 (.bin .eql false (.t 49) (.k (.v (.string ⟨#[119,104,101,114,101]⟩)))),
 qm 50 61])))))))))))))))))))))
 (qq 50
 (.seq
 (.reg 21 none [2] [
 qc 2 false])
 .ret)
 .skip))))
 (.seq
 (.reg 22 none [2] [
 qc 2 true])
 .ret)))))
def qU3:List (Nat×List Nat):=qy KL
theorem qU4:FnIR Tryz.prog wH 62 qU3 KL [(.tmp 2)]:=
 qF Tryz.func77
def yl:RC:=
 (.seq
 (.reg 0 none [2,3] [
 .r 2 (.box (.t 0)),
 .r 3 (.box (.t 1)),
 qi 4 0])
 (.seq
 (.seq
 (.reg 1 none [2,3,5] [
 qL 6 2 2,
 qC 7 jh [.t 6],
 qm 5 7])
 (.block 0
 (.seq
 (.reg 2 none [2,3,5,8] [
 qm 9 5,
 qB 10 .neq 9 0,
 qm 8 10])
 (qq 8
 (.seq
 (.reg 3 none [4] [
 qm 11 5,
 qm 4 11])
 .ret)
 (.seq
 (.reg 4 none [2,3,12] [
 qL 13 6 3,
 qC 14 kE [.t 13,qI 40],
 qB 15 .gtr 14 40,
 qm 12 15])
 (qq 12
 (.seq
 (.reg 5 none [4] [
 qi 4 1])
 .ret)
 (.seq
 (.reg 6 none [2,3,16] [
 qL 17 6 3,
 qC 18 wq [.t 17],
 qB 19 .gtr 18 10,
 qm 16 19])
 (qq 16
 (.seq
 (.reg 7 none [4] [
 qi 4 22])
 .ret)
 .skip))))))))
 (.seq
 (.reg 8 none [4] [
 qL 20 2 2,
 qL 21 6 3,
 qC 22 jm [.t 20,.t 21],
 qm 4 22])
 .ret)))
def qj0:List (Nat×List Nat):=qy yl
theorem qj1:FnIR Tryz.prog jq 23 qj0 yl [(.tmp 4)]:=
 qF Tryz.func78
def kR:RC:=
 (.seq
 (.reg 0 none [2,3] [
 .r 2 (.box (.t 0)),
 .r 3 (.box (.t 1)),
 qi 4 0])
 (.seq
 (.seq
 (.reg 1 none [2,3,17] [
 qf 8 8 3,
 ql 9 8,
 qn 10 9,
 qB 11 .lss 10 1,
 qm 12 11,
 qff 13 12 8 3,
 qlf 14 12 13,
 .rf 15 12 (.lenL (.t 14)),
 .rf 16 12 (.bin .gtr false (.t 15) (qI 3)),
 qP 17 12 16])
 (qq 17
 (.seq
 (.reg 2 none [4] [
 qi 4 1])
 .ret)
 .skip))
 (.seq
 (.seq
 (.reg 3 none [2,3,19,20,21] [
 qf 18 8 3,
 ql 19 18,
 qn 20 19,
 qi 21 0])
 (.block 0
 (.loop
 (.seq
 (.reg 4 none [2,3,19,20,21,22] [
 qb 22 .lss 21 20])
 (.seq
 (qq 22
 .skip
 (.exit 0))
 (.seq
 (.block 1
 (.seq
 (.reg 5 none [2,3,5,6,19,20,21] [
 qm 23 21,
 qx 24 2 19 21,
 qL 25 2 24,
 .r 6 (.new (.agg [.v (.int .i64 0),.v (.int .i64 0)])),
 qm 5 23,
 qs 2 6 25])
 (.seq
 (.seq
 (.reg 6 none [2,3,5,6,7,19,20,21] [
 qL 26 2 2,
 qL 27 2 6,
 qC 28 KC [.t 26,.t 27],
 qm 7 28])
 (.seq
 (.reg 7 none [2,3,5,6,7,19,20,21,30] [
 qm 29 7,
 qB 30 .neq 29 0])
 (qq 30
 (.seq
 (.reg 8 none [4] [
 qm 31 7,
 qm 4 31])
 .ret)
 .skip)))
 (.seq
 (.seq
 (.reg 9 none [2,3,5,6,19,20,21,36] [
 qL 32 2 2,
 qf 33 0 6,
 ql 34 33,
 qC 35 zg [.t 32,.t 34],
 qB 36 .neq 35 2])
 (qq 36
 (.seq
 (.reg 10 none [4] [
 qi 4 7])
 .ret)
 .skip))
 (.seq
 (.reg 11 none [2,3,19,20,21,42] [
 qf 37 8 3,
 ql 38 37,
 qm 39 5,
 .r 40 (.slL 2 (.t 38) none (some (.t 39))),
 .r 41 (.mf je [.t 6]),
 qC 42 zf [.t 40,.t 41]])
 (qq 42
 (.seq
 (.reg 12 none [4] [
 qi 4 10])
 .ret)
 .skip))))))
 (.reg 13 none [2,3,19,20,21] [
 qa 43 21,
 qm 21 43])))))))
 (.seq
 (.seq
 (.reg 14 none [3,53] [
 qf 44 9 3,
 ql 45 44,
 .r 46 (.bin .neq false (.t 45) (.k (.v (.int .i64 (-1))))),
 qm 47 46,
 .rt 48 47 (.ld (some 2) (.t 2)),
 qft 49 47 9 3,
 qlt 50 47 49,
 .rt 51 47 (.call (.k (.clo zg [])) [.t 48,.t 50]),
 .rt 52 47 (.bin .neq false (.t 51) (qI 3)),
 qp 53 47 52])
 (qq 53
 (.seq
 (.reg 15 none [4] [
 qi 4 7])
 .ret)
 .skip))
 (.seq
 (.seq
 (.reg 16 none [63] [
 qf 54 10 3,
 ql 55 54,
 qn 56 55,
 qB 57 .gtr 56 0,
 qm 58 57,
 qff 59 58 11 3,
 .rf 60 58 (.ld (some 6) (.t 59)),
 .rf 61 58 (.call (.k (.clo jH [])) [.t 60]),
 .rf 62 58 (.un .not (.t 61)),
 qP 63 58 62])
 (qq 63
 (.seq
 (.reg 17 none [4] [
 qi 4 11])
 .ret)
 .skip))
 (.seq
 (.reg 18 none [4] [
 qi 4 0])
 .ret))))))
def YQ:List (Nat×List Nat):=qy kR
theorem YR:FnIR Tryz.prog wv 64 YQ kR [(.tmp 4)]:=
 qF Tryz.func79
def kS:RC:=
 (.seq
 (.reg 0 none [2,3] [
 .r 2 (.box (.t 0)),
 .r 3 (.box (.t 1)),
 qi 4 0])
 (.seq
 (.block 0
 (.seq
 (.reg 1 none [2,3,7] [
 qL 8 2 2,
 qf 9 9 3,
 ql 10 9,
 qC 11 zg [.t 8,.t 10],
 qB 12 .neq 11 3,
 qm 7 12])
 (qq 7
 (.seq
 (.reg 2 none [4] [
 qi 4 7])
 .ret)
 (.seq
 (.reg 3 none [2,3,13] [
 qf 14 10 3,
 ql 15 14,
 qn 16 15,
 qB 17 .lss 16 1,
 qm 18 17,
 qff 19 18 10 3,
 qlf 20 18 19,
 .rf 21 18 (.lenL (.t 20)),
 .rf 22 18 (.bin .gtr false (.t 21) (qI 3)),
 qP 23 18 22,
 qm 13 23])
 (qq 13
 (.seq
 (.reg 4 none [4] [
 qi 4 1])
 .ret)
 .skip)))))
 (.seq
 (.seq
 (.reg 5 none [2,3,25,26,27] [
 qf 24 10 3,
 ql 25 24,
 qn 26 25,
 qi 27 0])
 (.block 1
 (.loop
 (.seq
 (.reg 6 none [2,3,25,26,27,28] [
 qb 28 .lss 27 26])
 (.seq
 (qq 28
 .skip
 (.exit 1))
 (.seq
 (.block 2
 (.seq
 (.reg 7 none [2,3,5,6,25,26,27] [
 qm 29 27,
 qx 30 1 25 27,
 ql 31 30,
 qm 5 29,
 qm 6 31])
 (.seq
 (.seq
 (.reg 8 none [2,3,5,6,25,26,27,35] [
 qL 32 2 2,
 qm 33 6,
 qC 34 zg [.t 32,.t 33],
 qB 35 .neq 34 3])
 (qq 35
 (.seq
 (.reg 9 none [4] [
 qi 4 7])
 .ret)
 .skip))
 (.seq
 (.reg 10 none [2,3,25,26,27,47] [
 qm 36 6,
 qf 37 9 3,
 ql 38 37,
 qb 39 .eql 36 38,
 qm 40 39,
 qff 41 40 10 3,
 qlf 42 40 41,
 qmf 43 40 5,
 .rf 44 40 (.slL 1 (.t 42) none (some (.t 43))),
 qmf 45 40 6,
 .rf 46 40 (.call (.k (.clo jd [])) [.t 44,.t 45]),
 qP 47 40 46])
 (qq 47
 (.seq
 (.reg 11 none [4] [
 qi 4 10])
 .ret)
 .skip)))))
 (.reg 12 none [2,3,25,26,27] [
 qa 48 27,
 qm 27 48])))))))
 (.seq
 (.seq
 (.reg 13 none [58] [
 qf 49 8 3,
 ql 50 49,
 qn 51 50,
 qB 52 .gtr 51 0,
 qm 53 52,
 qff 54 53 11 3,
 .rf 55 53 (.ld (some 6) (.t 54)),
 .rf 56 53 (.call (.k (.clo jH [])) [.t 55]),
 .rf 57 53 (.un .not (.t 56)),
 qP 58 53 57])
 (qq 58
 (.seq
 (.reg 14 none [4] [
 qi 4 11])
 .ret)
 .skip))
 (.seq
 (.reg 15 none [4] [
 qi 4 0])
 .ret)))))
def YS:List (Nat×List Nat):=qy kS
theorem YT:FnIR Tryz.prog ww 59 YS kS [(.tmp 4)]:=
 qF Tryz.func80
def kT:RC:=
 (.seq
 (.reg 0 none [2,3] [
 .r 2 (.box (.t 0)),
 .r 3 (.box (.t 1)),
 qi 4 0])
 (.seq
 (.block 0
 (.seq
 (.reg 1 none [2,3,6] [
 qL 7 2 2,
 qf 8 9 3,
 ql 9 8,
 qC 10 zg [.t 7,.t 9],
 qB 11 .neq 10 3,
 qm 6 11])
 (qq 6
 (.seq
 (.reg 2 none [4] [
 qi 4 7])
 .ret)
 (.seq
 (.reg 3 none [2,3,12] [
 qf 13 1 2,
 ql 14 13,
 qf 15 9 3,
 ql 16 15,
 qx 17 7 14 16,
 qf 18 3 17,
 ql 19 18,
 qB 20 .lss 19 0,
 qm 12 20])
 (qq 12
 (.seq
 (.reg 4 none [4] [
 qi 4 2])
 .ret)
 .skip)))))
 (.seq
 (.seq
 (.reg 5 none [3,5] [
 qL 21 2 2,
 qf 22 11 3,
 qL 23 6 22,
 qC 24 jq [.t 21,.t 23],
 qm 5 24])
 (.seq
 (.reg 6 none [3,5,26] [
 qm 25 5,
 qB 26 .neq 25 0])
 (qq 26
 (.seq
 (.reg 7 none [4] [
 qm 27 5,
 qm 4 27])
 .ret)
 .skip)))
 (.seq
 (.seq
 (.reg 8 none [37] [
 qf 28 8 3,
 ql 29 28,
 qn 30 29,
 qB 31 .gtr 30 0,
 qm 32 31,
 qff 33 32 10 3,
 qlf 34 32 33,
 .rf 35 32 (.lenL (.t 34)),
 .rf 36 32 (.bin .gtr false (.t 35) (qI 0)),
 qP 37 32 36])
 (qq 37
 (.seq
 (.reg 9 none [4] [
 qi 4 11])
 .ret)
 .skip))
 (.seq
 (.reg 10 none [4] [
 qi 4 0])
 .ret)))))
def YU:List (Nat×List Nat):=qy kT
theorem YV:FnIR Tryz.prog wx 38 YU kT [(.tmp 4)]:=
 qF Tryz.func81
def Ju:RC:=
 (.seq
 (.reg 0 none [1,2,3,4] [
 .r 4 (.box (.t 0)),
 qi 8 0,
 qc 9 false])
 (.seq
 (.reg 1 none [2,3,4,10] [
 qf 17 1 4,
 ql 18 17,
 qm 19 1,
 qx 20 7 18 19,
 qL 21 7 20,
 .r 10 (.new (.agg [.v (.string ⟨#[]⟩),.v (.int .i64 0),.v (.int .i64 0),.v (.int .i64 0),.v (.int .i64 0),.v (.slice none 0 0),.v (.bool false)])),
 qs 7 10 21])
 (.seq
 (.seq
 (.reg 2 none [2,3,4,10,24] [
 qf 22 1 10,
 ql 23 22,
 qB 24 .eql 23 3])
 (qq 24
 (.seq
 (.seq
 (.reg 3 none [2,3,10,30] [
 qm 25 2,
 qB 26 .gtr 25 0,
 qm 27 26,
 qmt 28 27 3,
 .rt 29 27 (.bin .eql false (.t 28) (.k (.v (.int .i64 (-1099511627776))))),
 qp 30 27 29])
 (qq 30
 (.seq
 (.reg 4 (some [0,0,2,1,15]) [8,9] [
 qm 31 3,
 qf 32 6 10,
 ql 33 32,
 qm 8 31,
 qm 9 33])
 .ret)
 .skip))
 (.seq
 (.reg 5 none [11,13] [
 qL 35 7 10,
 qm 36 2,
 qm 37 3,
 qC 38 KD [.t 35,.t 36,.t 37],
 qm 34 38,
 .r 39 (.ex (.t 34) 0),
 .r 40 (.ex (.t 34) 1),
 .r 41 (.ex (.t 34) 2),
 qm 11 39,
 qm 12 40,
 qm 13 41])
 (.seq
 (.reg 6 none [8,9] [
 qm 42 11,
 qm 43 13,
 qm 8 42,
 qm 9 43])
 .ret)))
 .skip))
 (.seq
 (.reg 7 none [2,3,14] [
 qf 44 0 4,
 ql 45 44,
 qf 46 2 10,
 ql 47 46,
 qx 48 2 45 47,
 qL 49 2 48,
 .r 14 (.new (.agg [.v (.string ⟨#[]⟩),.v (.slice none 0 0)])),
 qs 2 14 49])
 (.seq
 (.seq
 (.reg 8 (some [0,0,2,6,15,31,0]) [2,3,14,54,55,56] [
 qL 50 2 14,
 qL 51 2 14,
 qC 52 kY [.t 51],
 qB 53 .sub 52 1,
 qC 54 JY [.t 50,.t 53],
 qn 55 54,
 qi 56 0])
 (.block 0
 (.loop
 (.seq
 (.reg 9 none [2,3,14,54,55,56,57] [
 qb 57 .lss 56 55])
 (.seq
 (qq 57
 .skip
 (.exit 0))
 (.seq
 (.block 1
 (.seq
 (.reg 10 none [2,3,14,16,54,55,56] [
 qx 58 1 54 56,
 ql 59 58,
 qm 16 59])
 (.seq
 (.reg 11 none [2,3,14,16,54,55,56,65] [
 qL 60 2 14,
 qm 61 16,
 qm 62 2,
 qC 63 Zi [.t 60,.t 61,.t 62],
 qm 64 3,
 qb 65 .eql 63 64])
 (qq 65
 (.seq
 (.reg 12 none [8,9] [
 qm 66 16,
 qm 8 66,
 qc 9 true])
 .ret)
 .skip))))
 (.reg 13 none [2,3,14,54,55,56] [
 qa 67 56,
 qm 56 67])))))))
 (.seq
 (.reg 14 none [8,9] [
 qi 8 0,
 qc 9 false])
 .ret))))))
def qI9:List (Nat×List Nat):=qy Ju
theorem qJ0:FnIR Tryz.prog KA 68 qI9 Ju [(.tmp 8),(.tmp 9)]:=
 qF Tryz.func82
def QD:RC:=
 (.seq
 (.reg 0 none [1,2,3,4] [
 .r 4 (.box (.t 0)),
 qi 8 0])
 (.seq
 (.seq
 (.reg 1 none [1,2,3,4,9] [
 qL 11 2 4,
 qm 12 1,
 qC 13 jp [.t 11,.t 12],
 qm 9 13])
 (.seq
 (.reg 2 none [1,2,3,4,20] [
 qm 14 2,
 qB 15 .lss 14 0,
 qm 16 15,
 qmf 17 16 2,
 qmf 18 16 9,
 .rf 19 16 (.bin .gtr false (.t 17) (.t 18)),
 qP 20 16 19])
 (qq 20
 (.seq
 (.reg 3 none [8] [
 .r 8 (.mv (.k (.v (.int .i64 (-1)))))])
 .ret)
 .skip)))
 (.seq
 (.reg 4 none [2,3,4,10] [
 qf 21 1 4,
 ql 22 21,
 qm 23 1,
 qx 24 7 22 23,
 qL 25 7 24,
 .r 10 (.new (.agg [.v (.string ⟨#[]⟩),.v (.int .i64 0),.v (.int .i64 0),.v (.int .i64 0),.v (.int .i64 0),.v (.slice none 0 0),.v (.bool false)])),
 qs 7 10 25])
 (.seq
 (.block 0
 (.seq
 (.reg 5 none [2,3,4,10,26] [
 qf 27 1 10,
 ql 28 27,
 qB 29 .eql 28 2,
 qm 30 29,
 .rt 31 30 (.ld (some 2) (.t 4)),
 .rt 32 30 (.ld (some 7) (.t 10)),
 qmt 33 30 3,
 .rt 34 30 (.call (.k (.clo KE [])) [.t 31,.t 32,.t 33]),
 .rt 35 30 (.un .not (.t 34)),
 qp 36 30 35,
 qm 26 36])
 (qq 26
 (.seq
 (.reg 6 none [8] [
 .r 8 (.mv (.k (.v (.int .i64 (-1)))))])
 .ret)
 (.seq
 (.reg 7 none [2,3,4,10,37] [
 qf 38 1 10,
 ql 39 38,
 qB 40 .eql 39 2,
 qm 37 40])
 (qq 37
 (.seq
 (.reg 8 none [8] [
 qf 41 0 4,
 ql 42 41,
 qf 43 2 10,
 ql 44 43,
 qx 45 2 42 44,
 qL 46 2 45,
 qm 47 3,
 qm 48 2,
 qC 49 Zi [.t 46,.t 47,.t 48],
 qm 8 49])
 .ret)
 (.seq
 (.reg 9 none [2,3,10,50] [
 qm 51 3,
 .r 52 (.bin .neq false (.t 51) (.k (.v (.int .i64 (-1099511627776))))),
 qm 53 52,
 qmt 54 53 3,
 .rt 55 53 (.bin .lss false (.t 54) (.k (.v (.int .i64 (-1000000))))),
 qmt 56 53 55,
 qmf 57 56 3,
 .rf 58 56 (.bin .gtr false (.t 57) (qI 1000000)),
 .rt 59 53 (.pick (.t 56) (.k (.v (.bool true))) (.t 58)),
 qp 60 53 59,
 qm 50 60])
 (qq 50
 (.seq
 (.reg 10 none [8] [
 .r 8 (.mv (.k (.v (.int .i64 (-1)))))])
 .ret)
 (.seq
 (.reg 11 none [2,3,10,61] [
 qm 62 2,
 qB 63 .eql 62 0,
 qm 61 63])
 (qq 61
 (.seq
 (.reg 12 none [8] [
 qi 8 0])
 .ret)
 (.seq
 (.reg 13 none [2,3,10,64] [
 qm 65 3,
 .r 66 (.bin .eql false (.t 65) (.k (.v (.int .i64 (-1099511627776))))),
 qm 64 66])
 (qq 64
 (.seq
 (.reg 14 none [8] [
 .r 8 (.mv (.k (.v (.int .i64 (-1099511627776)))))])
 .ret)
 .skip)))))))))))
 (.seq
 (.reg 15 none [8] [
 qm 67 3,
 qL 68 7 10,
 qm 69 2,
 qC 70 kZ [.t 68,.t 69],
 qC 71 kF [.t 67,.t 70],
 qm 8 71])
 .ret)))))
def qu6:List (Nat×List Nat):=qy QD
theorem qu7:FnIR Tryz.prog wV 72 qu6 QD [(.tmp 8)]:=
 qF Tryz.func83
def ym:RC:=
 (.seq
 (.reg 0 none [1] [
 .r 1 (.box (.t 0)),
 .r 2 (.mv (qN))])
 (.seq
 (.seq
 (.reg 1 none [1,18] [
 qf 6 0 1,
 ql 7 6,
 qB 8 .eql 7 2,
 qm 9 8,
 qff 10 9 0 1,
 qlf 11 9 10,
 .rf 12 9 (.bin .eql false (.t 11) (qI 3)),
 qP 13 9 12,
 qm 14 13,
 qff 15 14 0 1,
 qlf 16 14 15,
 .rf 17 14 (.bin .eql false (.t 16) (qI 4)),
 qP 18 14 17])
 (qq 18
 (.seq
 (.reg 2 none [2] [
 qL 19 6 1,
 .r 20 (.bsl 6 1 [.t 19]),
 qm 2 20])
 .ret)
 .skip))
 (.seq
 (.reg 3 none [1,3] [
 .r 3 (.mv (qN))])
 (.seq
 (.seq
 (.reg 4 none [3,22,23,24] [
 qf 21 5 1,
 ql 22 21,
 qn 23 22,
 qi 24 0])
 (.block 0
 (.loop
 (.seq
 (.reg 5 none [3,22,23,24,25] [
 qb 25 .lss 24 23])
 (.seq
 (qq 25
 .skip
 (.exit 0))
 (.seq
 (.block 1
 (.seq
 (.reg 6 none [3,5,22,23,24] [
 qx 26 6 22 24,
 qL 27 6 26,
 .r 5 (.new (.agg [.v (.int .i64 0),.v (.int .i64 0),.v (.int .i64 0),.v (.int .i64 0),.v (.int .i64 0),.v (.slice none 0 0)])),
 qs 6 5 27])
 (.reg 7 none [3,22,23,24] [
 qm 28 3,
 qL 29 6 5,
 qC 30 jr [.t 29],
 .r 31 (.app 6 64 false (.t 28) (.t 30)),
 qm 3 31])))
 (.reg 8 none [3,22,23,24] [
 qa 32 24,
 qm 24 32])))))))
 (.seq
 (.reg 9 none [2] [
 qm 33 3,
 qm 2 33])
 .ret)))))
def qj2:List (Nat×List Nat):=qy ym
theorem qj3:FnIR Tryz.prog jr 34 qj2 ym [(.tmp 2)]:=
 qF Tryz.func84
def jv:RC:=
 (.seq
 (.reg 0 none [2,3,4] [
 .r 3 (.box (.t 0)),
 .r 4 (.box (.t 1)),
 qi 6 0])
 (.seq
 (.block 0
 (.seq
 (.reg 1 none [2,3,4,7] [
 qf 8 0 4,
 ql 9 8,
 qB 10 .eql 9 2,
 qm 7 10])
 (qq 7
 (.seq
 (.reg 2 (some [0,1,0,4,0,16,60,124,252,511,1023,0,0,4096,16383,32767,65535]) [6] [
 qf 11 0 3,
 ql 12 11,
 qf 13 1 3,
 ql 14 13,
 qf 15 1 4,
 ql 16 15,
 qx 17 7 14 16,
 qf 18 2 17,
 ql 19 18,
 qx 20 2 12 19,
 qL 21 2 20,
 qm 22 2,
 qf 23 2 4,
 ql 24 23,
 qC 25 KG [.t 21,.t 22,.t 24],
 qC 26 js [.t 25],
 qm 6 26])
 .ret)
 (.seq
 (.reg 3 none [2,4,27] [
 qf 28 0 4,
 ql 29 28,
 qB 30 .eql 29 4,
 qm 27 30])
 (qq 27
 (.seq
 (.reg 4 none [6] [
 qm 31 2,
 .r 32 (.bin .eql false (.t 31) (.k (.v (.int .i64 (-1099511627776))))),
 qC 33 js [.t 32],
 qm 6 33])
 .ret)
 (.seq
 (.reg 5 none [2,4,34] [
 qm 35 2,
 .r 36 (.bin .eql false (.t 35) (.k (.v (.int .i64 (-1099511627776))))),
 qm 34 36])
 (qq 34
 (.seq
 (.reg 6 none [6] [
 qi 6 0])
 .ret)
 .skip)))))))
 (.seq
 (.reg 7 none [6] [
 qm 37 2,
 qf 38 3 4,
 ql 39 38,
 qb 40 .geq 37 39,
 qm 41 40,
 qmt 42 41 2,
 qft 43 41 4 4,
 qlt 44 41 43,
 .rt 45 41 (.bin .leq false (.t 42) (.t 44)),
 qp 46 41 45,
 qC 47 js [.t 46],
 qm 6 47])
 .ret)))
def qo8:List (Nat×List Nat):=qy jv
theorem yN:FnIR Tryz.prog jN 48 qo8 jv [(.tmp 6)]:=
 qF Tryz.func85
def Jv:RC:=
 (.seq
 (.reg 0 none [1] [
 .r 1 (.box (.t 0)),
 qi 2 0])
 (.seq
 (.seq
 (.reg 1 none [1,17] [
 qf 8 0 1,
 ql 9 8,
 qn 10 9,
 qB 11 .gtr 10 6,
 qm 12 11,
 qff 13 12 1 1,
 qlf 14 12 13,
 .rf 15 12 (.lenL (.t 14)),
 .rf 16 12 (.bin .gtr false (.t 15) (qI 8)),
 qP 17 12 16])
 (qq 17
 (.seq
 (.reg 2 none [2] [
 qi 2 1])
 .ret)
 .skip))
 (.seq
 (.seq
 (.reg 3 none [1,3] [
 qi 3 0])
 (.block 0
 (.loop
 (.seq
 (.seq
 (.reg 4 none [1,3,22] [
 qm 18 3,
 qf 19 0 1,
 ql 20 19,
 qn 21 20,
 qb 22 .lss 18 21])
 (qq 22
 .skip
 (.exit 0)))
 (.seq
 (.block 1
 (.seq
 (.seq
 (.reg 6 none [1,3,4] [
 qf 25 0 1,
 ql 26 25,
 qm 27 3,
 qx 28 2 26 27,
 qL 29 2 28,
 qC 30 jG [.t 29],
 qm 4 30])
 (.seq
 (.reg 7 none [1,3,4,32] [
 qm 31 4,
 qB 32 .neq 31 0])
 (qq 32
 (.seq
 (.reg 8 none [2] [
 qm 33 4,
 qm 2 33])
 .ret)
 .skip)))
 (.seq
 (.reg 9 none [1,3,5] [
 qi 5 0])
 (.block 2
 (.loop
 (.seq
 (.seq
 (.reg 10 none [1,3,5,36] [
 qm 34 5,
 qm 35 3,
 qb 36 .lss 34 35])
 (qq 36
 .skip
 (.exit 2)))
 (.seq
 (.block 3
 (.seq
 (.reg 12 (some [0,1,0,7,15,31,0,64,0,448,960,1984,4095]) [1,3,5,51] [
 qf 39 0 1,
 ql 40 39,
 qm 41 5,
 qx 42 2 40 41,
 qf 43 0 42,
 ql 44 43,
 qf 45 0 1,
 ql 46 45,
 qm 47 3,
 qx 48 2 46 47,
 qf 49 0 48,
 ql 50 49,
 qb 51 .eql 44 50])
 (qq 51
 (.seq
 (.reg 13 none [2] [
 qi 2 10])
 .ret)
 .skip)))
 (.reg 11 none [1,3,5] [
 qm 37 5,
 qa 38 37,
 qm 5 38]))))))))
 (.reg 5 none [1,3] [
 qm 23 3,
 qa 24 23,
 qm 3 24]))))))
 (.seq
 (.seq
 (.reg 14 none [1,63] [
 qf 52 1 1,
 ql 53 52,
 qn 54 53,
 qB 55 .eql 54 0,
 qm 56 55,
 qff 57 56 1 1,
 qlf 58 56 57,
 .rf 59 56 (.ixL 7 (.t 58) (qI 0)),
 qff 60 56 1 59,
 qlf 61 56 60,
 .rf 62 56 (.bin .neq false (.t 61) (qI 1)),
 qP 63 56 62])
 (qq 63
 (.seq
 (.reg 15 none [2] [
 qi 2 7])
 .ret)
 .skip))
 (.seq
 (.seq
 (.reg 16 none [1,6] [
 qi 6 0])
 (.block 4
 (.loop
 (.seq
 (.seq
 (.reg 17 none [1,6,68] [
 qm 64 6,
 qf 65 1 1,
 ql 66 65,
 qn 67 66,
 qb 68 .lss 64 67])
 (qq 68
 .skip
 (.exit 4)))
 (.seq
 (.block 5
 (.seq
 (.reg 19 none [1,6,7] [
 qL 71 2 1,
 qm 72 6,
 qC 73 Jk [.t 71,.t 72],
 qm 7 73])
 (.seq
 (.reg 20 none [1,6,7,75] [
 qm 74 7,
 qB 75 .neq 74 0])
 (qq 75
 (.seq
 (.reg 21 none [2] [
 qm 76 7,
 qm 2 76])
 .ret)
 .skip))))
 (.reg 18 none [1,6] [
 qm 69 6,
 qa 70 69,
 qm 6 70]))))))
 (.seq
 (.reg 22 none [2] [
 qi 2 0])
 .ret))))))
def qJ1:List (Nat×List Nat):=qy Jv
theorem qJ2:FnIR Tryz.prog jF 77 qJ1 Jv [(.tmp 2)]:=
 qF Tryz.func86
def KM:RC:=
 (.seq
 (.reg 0 none [0] [
 qc 2 false])
 (.seq
 (.seq
 (.reg 1 none [0,21] [
 qm 4 0,
 .r 5 (.lenS (.t 4)),
 qB 6 .lss 5 1,
 qm 7 6,
 qmf 8 7 0,
 .rf 9 7 (.lenS (.t 8)),
 .rf 10 7 (.bin .gtr false (.t 9) (qI 16)),
 qP 11 7 10,
 qm 12 11,
 qmf 13 12 0,
 .rf 14 12 (.sx (.t 13) (qI 0)),
 .rf 15 12 (.bin .lss false (.t 14) (.k (.v (.int .u8 97)))),
 qP 16 12 15,
 qm 17 16,
 qmf 18 17 0,
 .rf 19 17 (.sx (.t 18) (qI 0)),
 .rf 20 17 (.bin .gtr false (.t 19) (.k (.v (.int .u8 122)))),
 qP 21 17 20])
 (qq 21
 (.seq
 (.reg 2 none [2] [
 qc 2 false])
 .ret)
 .skip))
 (.seq
 (.seq
 (.reg 3 none [0,3] [
 qi 3 0])
 (.block 0
 (.loop
 (.seq
 (.seq
 (.reg 4 none [0,3,25] [
 qm 22 3,
 qm 23 0,
 .r 24 (.lenS (.t 23)),
 qb 25 .lss 22 24])
 (qq 25
 .skip
 (.exit 0)))
 (.seq
 (.block 1
 (.seq
 (.reg 6 none [0,3,56] [
 qm 28 0,
 qm 29 3,
 .r 30 (.sx (.t 28) (.t 29)),
 .r 31 (.bin .geq false (.t 30) (.k (.v (.int .u8 97)))),
 qm 32 31,
 qmt 33 32 0,
 qmt 34 32 3,
 .rt 35 32 (.sx (.t 33) (.t 34)),
 .rt 36 32 (.bin .leq false (.t 35) (.k (.v (.int .u8 122)))),
 qp 37 32 36,
 qm 38 37,
 qmf 39 38 0,
 qmf 40 38 3,
 .rf 41 38 (.sx (.t 39) (.t 40)),
 .rf 42 38 (.bin .geq false (.t 41) (.k (.v (.int .u8 48)))),
 qmf 43 38 42,
 qmt 44 43 0,
 qmt 45 43 3,
 .rt 46 43 (.sx (.t 44) (.t 45)),
 .rt 47 43 (.bin .leq false (.t 46) (.k (.v (.int .u8 57)))),
 .rf 48 38 (.pick (.t 43) (.t 47) (.k (.v (.bool false)))),
 qP 49 38 48,
 qm 50 49,
 qmf 51 50 0,
 qmf 52 50 3,
 .rf 53 50 (.sx (.t 51) (.t 52)),
 .rf 54 50 (.bin .eql false (.t 53) (.k (.v (.int .u8 95)))),
 qP 55 50 54,
 .r 56 (.un .not (.t 55))])
 (qq 56
 (.seq
 (.reg 7 none [2] [
 qc 2 false])
 .ret)
 .skip)))
 (.reg 5 none [0,3] [
 qm 26 3,
 qa 27 26,
 qm 3 27]))))))
 (.seq
 (.seq
 (.reg 8 none [57] [
 qm 57 0])
 (.block 2
 (.seq
 (.seq
 (.reg 9 none [57,58] [
 .r 59 (.bin .eql false (.t 57) (.k (.v (.string ⟨#[97,108,108]⟩)))),
 qm 58 59])
 (qq 58
 .skip
 (.seq
 (.reg 10 none [57,58] [
 .r 60 (.bin .eql false (.t 57) (.k (.v (.string ⟨#[97,110,100]⟩)))),
 qm 58 60])
 (qq 58
 .skip
 (.seq
 (.reg 11 none [57,58] [
 .r 61 (.bin .eql false (.t 57) (.k (.v (.string ⟨#[101,118,101,110,116]⟩)))),
 qm 58 61])
 (qq 58
 .skip
 (.seq
 (.reg 12 none [57,58] [
 .r 62 (.bin .eql false (.t 57) (.k (.v (.string ⟨#[102,114,111,109]⟩)))),
 qm 58 62])
 (qq 58
 .skip
 (.seq
 (.reg 13 none [57,58] [
 .r 63 (.bin .eql false (.t 57) (.k (.v (.string ⟨#[109,105,115,115,105,110,103]⟩)))),
 qm 58 63])
 (qq 58
 .skip
 (.seq
 (.reg 14 none [57,58] [
 .r 64 (.bin .eql false (.t 57) (.k (.v (.string ⟨#[110,111,116]⟩)))),
 qm 58 64])
 (qq 58
 .skip
 (.seq
 (.reg 15 none [57,58] [
 .r 65 (.bin .eql false (.t 57) (.k (.v (.string ⟨#[111,110]⟩)))),
 qm 58 65])
 (qq 58
 .skip
 (.seq
 (.reg 16 none [57,58] [
 .r 66 (.bin .eql false (.t 57) (.k (.v (.string ⟨#[111,114]⟩)))),
 qm 58 66])
 (qq 58
 .skip
 (.seq
 (.reg 17 none [57,58] [
 .r 67 (.bin .eql false (.t 57) (.k (.v (.string ⟨#[116,111]⟩)))),
 qm 58 67])
 (qq 58
 .skip
 (.seq
 (.reg 18 none [57,58] [
 .r 68 (.bin .eql false (.t 57) (.k (.v (.string ⟨#[117,110,100,101,114]⟩)))),
 qm 58 68])
 (qq 58
 .skip
 (.reg 19 none [58] [
 .r 69 (.bin .eql false (.t 57) (.k (.v (.string ⟨#[119,104,101,114,101]⟩)))),
 qm 58 69])))))))))))))))))))))
 (qq 58
 (.seq
 (.reg 20 none [2] [
 qc 2 false])
 .ret)
 .skip))))
 (.seq
 (.reg 21 none [2] [
 qc 2 true])
 .ret)))))
def qU5:List (Nat×List Nat):=qy KM
theorem qU6:FnIR Tryz.prog Qo 70 qU5 KM [(.tmp 2)]:=
 qF Tryz.func87
def Jw:RC:=
 (.seq
 (.reg 0 none [1,2] [
 .r 2 (.box (.t 0)),
 qi 4 0])
 (.seq
 (.seq
 (.reg 1 none [1,2,18] [
 qL 5 2 2,
 qC 6 jG [.t 5],
 qB 7 .neq 6 0,
 qm 8 7,
 qmf 9 8 1,
 .rf 10 8 (.bin .lss false (.t 9) (qI 0)),
 qP 11 8 10,
 qm 12 11,
 qmf 13 12 1,
 qff 14 12 1 2,
 qlf 15 12 14,
 .rf 16 12 (.lenL (.t 15)),
 .rf 17 12 (.bin .geq false (.t 13) (.t 16)),
 qP 18 12 17])
 (qq 18
 (.seq
 (.reg 2 none [4] [
 .r 4 (.mv (.k (.v (.int .i64 (-1)))))])
 .ret)
 .skip))
 (.seq
 (.reg 3 none [4] [
 qL 19 2 2,
 qm 20 1,
 qC 21 zo [.t 19,.t 20],
 qm 4 21])
 .ret)))
def qJ3:List (Nat×List Nat):=qy Jw
theorem qJ4:FnIR Tryz.prog wW 22 qJ3 Jw [(.tmp 4)]:=
 qF Tryz.func90
def Jx:RC:=
 (.seq
 (.reg 0 none [1,2,3] [
 .r 3 (.box (.t 0)),
 qc 6 false])
 (.seq
 (.reg 1 none [1,2,3,7] [
 qL 8 2 3,
 qm 9 2,
 qC 10 wW [.t 8,.t 9],
 qm 7 10])
 (.seq
 (.reg 2 none [6] [
 qm 11 7,
 qB 12 .geq 11 0,
 qm 13 12,
 .rt 14 13 (.ld (some 2) (.t 3)),
 qmt 15 13 1,
 .rt 16 13 (.call (.k (.clo wW [])) [.t 14,.t 15]),
 qmt 17 13 7,
 .rt 18 13 (.bin .geq false (.t 16) (.t 17)),
 qp 19 13 18,
 qm 20 19,
 .rt 21 20 (.ld (some 2) (.t 3)),
 qmt 22 20 1,
 qmt 23 20 7,
 .rt 24 20 (.call (.k (.clo YG [])) [.t 21,.t 22,.t 23]),
 qmt 25 20 2,
 .rt 26 20 (.bin .eql false (.t 24) (.t 25)),
 qp 27 20 26,
 qm 6 27])
 .ret)))
def qJ5:List (Nat×List Nat):=qy Jx
theorem qJ6:FnIR Tryz.prog KB 28 qJ5 Jx [(.tmp 6)]:=
 qF Tryz.func91
def QE:RC:=
 (.seq
 (.reg 0 none [1,2,3] [
 .r 3 (.box (.t 0)),
 qi 6 0])
 (.seq
 (.reg 1 none [2,3,7] [
 qf 10 1 3,
 ql 11 10,
 qm 12 1,
 qx 13 7 11 12,
 qL 14 7 13,
 .r 7 (.new (.agg [.v (.string ⟨#[]⟩),.v (.int .i64 0),.v (.int .i64 0),.v (.int .i64 0),.v (.int .i64 0),.v (.slice none 0 0),.v (.bool false)])),
 qs 7 7 14])
 (.seq
 (.seq
 (.reg 2 none [2,3,7,17] [
 qf 15 1 7,
 ql 16 15,
 qB 17 .eql 16 2])
 (qq 17
 (.seq
 (.reg 3 none [6] [
 qf 18 0 3,
 ql 19 18,
 qf 20 2 7,
 ql 21 20,
 qx 22 2 19 21,
 qL 23 2 22,
 qm 24 2,
 qC 25 JY [.t 23,.t 24],
 qn 26 25,
 qm 6 26])
 .ret)
 .skip))
 (.seq
 (.seq
 (.reg 4 none [2,7,28] [
 qm 27 2,
 qB 28 .eql 27 0])
 (qq 28
 (.seq
 (.reg 5 none [6] [
 qi 6 1])
 .ret)
 .skip))
 (.seq
 (.reg 6 none [7,8] [
 qL 29 7 7,
 qm 30 2,
 qC 31 kZ [.t 29,.t 30],
 qm 8 31])
 (.seq
 (.reg 7 (some [0,1,0,7,0,16,0,127,255,0,1023,2047,4095]) [7,9] [
 qf 32 4 7,
 ql 33 32,
 qm 34 8,
 qC 35 kF [.t 33,.t 34],
 qf 36 3 7,
 ql 37 36,
 qm 38 8,
 qC 39 kF [.t 37,.t 38],
 qb 40 .sub 35 39,
 qm 41 8,
 qb 42 .quo 40 41,
 qa 43 42,
 qm 9 43])
 (.seq
 (.seq
 (.reg 8 none [9,45] [
 qf 44 6 7,
 ql 45 44])
 (qq 45
 (.reg 9 none [9] [
 qm 46 9,
 qa 47 46,
 qm 9 47])
 .skip))
 (.seq
 (.reg 10 none [6] [
 qm 48 9,
 qm 6 48])
 .ret))))))))
def qu8:List (Nat×List Nat):=qy QE
theorem qu9:FnIR Tryz.prog wX 49 qu8 QE [(.tmp 6)]:=
 qF Tryz.func94
def jX:RC:=
 (.seq
 (.reg 0 none [0,1] [
 qc 4 false])
 (.seq
 (.reg 1 none [4] [
 qm 5 0,
 qm 6 1,
 qC 7 wZ [.t 5,.t 6],
 qB 8 .geq 7 0,
 qm 4 8])
 .ret))
def Wt:List (Nat×List Nat):=qy jX
theorem Wu:FnIR Tryz.prog jd 9 Wt jX [(.tmp 4)]:=
 qF Tryz.func95
def QF:RC:=
 (.seq
 (.reg 0 none [1,2] [
 .r 2 (.box (.t 0)),
 qi 4 0])
 (.seq
 (.seq
 (.reg 1 none [1,2,14] [
 qm 6 1,
 qB 7 .lss 6 1,
 qm 8 7,
 qmf 9 8 1,
 qff 10 8 1 2,
 qlf 11 8 10,
 .rf 12 8 (.lenL (.t 11)),
 .rf 13 8 (.bin .geq false (.t 9) (.t 12)),
 qP 14 8 13])
 (qq 14
 (.seq
 (.reg 2 none [4] [
 .r 4 (.mv (.k (.v (.int .i64 (-1)))))])
 .ret)
 .skip))
 (.seq
 (.reg 3 none [2,5] [
 qf 15 1 2,
 ql 16 15,
 qm 17 1,
 qx 18 7 16 17,
 qL 19 7 18,
 .r 5 (.new (.agg [.v (.string ⟨#[]⟩),.v (.int .i64 0),.v (.int .i64 0),.v (.int .i64 0),.v (.int .i64 0),.v (.slice none 0 0),.v (.bool false)])),
 qs 7 5 19])
 (.seq
 (.seq
 (.reg 4 none [2,5,22] [
 qf 20 1 5,
 ql 21 20,
 qB 22 .eql 21 2])
 (qq 22
 (.seq
 (.reg 5 none [4] [
 qf 23 0 2,
 ql 24 23,
 qf 25 2 5,
 ql 26 25,
 qx 27 2 24 26,
 qL 28 2 27,
 qC 29 kY [.t 28],
 qB 30 .sub 29 1,
 qm 4 30])
 .ret)
 .skip))
 (.seq
 (.reg 6 none [4] [
 qf 31 5 5,
 ql 32 31,
 qn 33 32,
 qm 4 33])
 .ret)))))
def qv0:List (Nat×List Nat):=qy QF
theorem qv1:FnIR Tryz.prog wY 34 qv0 QF [(.tmp 4)]:=
 qF Tryz.func96
def kj:RC:=
 (.seq
 (.reg 0 none [2,3,4] [
 .r 3 (.box (.t 0)),
 .r 4 (.box (.t 1)),
 qc 6 false])
 (.seq
 (.reg 1 none [2,3,4,7] [
 qf 19 1 3,
 ql 20 19,
 qf 21 1 4,
 ql 22 21,
 qx 23 7 20 22,
 qL 24 7 23,
 .r 7 (.new (.agg [.v (.string ⟨#[]⟩),.v (.int .i64 0),.v (.int .i64 0),.v (.int .i64 0),.v (.int .i64 0),.v (.slice none 0 0),.v (.bool false)])),
 qs 7 7 24])
 (.seq
 (.seq
 (.reg 2 none [2,3,4,7,27] [
 qf 25 0 4,
 ql 26 25,
 qB 27 .eql 26 2])
 (qq 27
 (.seq
 (.reg 3 none [2,3,4,8] [
 qf 28 0 3,
 ql 29 28,
 qf 30 2 7,
 ql 31 30,
 qx 32 2 29 31,
 qL 33 2 32,
 .r 8 (.new (.agg [.v (.string ⟨#[]⟩),.v (.slice none 0 0)])),
 qs 2 8 33])
 (.seq
 (.reg 4 none [2,3,4,8,9] [
 .r 34 (.ext (.mkm .ii) []),
 qm 9 34])
 (.seq
 (.seq
 (.reg 5 (some [0,0,2,6,15,31,0]) [2,3,4,8,9,39,40,41] [
 qL 35 2 8,
 qL 36 2 8,
 qC 37 kY [.t 36],
 qB 38 .sub 37 1,
 qC 39 JY [.t 35,.t 38],
 qn 40 39,
 qi 41 0])
 (.block 0
 (.loop
 (.seq
 (.reg 6 none [2,3,4,8,9,39,40,41,42] [
 qb 42 .lss 41 40])
 (.seq
 (qq 42
 .skip
 (.exit 0))
 (.seq
 (.block 1
 (.seq
 (.reg 7 none [2,3,4,8,9,11,39,40,41] [
 qx 43 1 39 41,
 ql 44 43,
 qm 11 44])
 (.seq
 (.reg 8 (some [0,0,0,7,0,0,0,127,255,511]) [2,3,4,8,9,12,13,39,40,41] [
 qL 45 2 8,
 qm 46 11,
 qm 47 2,
 qC 48 Zi [.t 45,.t 46,.t 47],
 qL 49 2 3,
 qL 50 6 4,
 qm 51 11,
 qC 52 jN [.t 49,.t 50,.t 51],
 qm 12 48,
 qm 13 52])
 (.seq
 (.seq
 (.reg 9 none [2,3,4,8,9,12,13,14,15,39,40,41] [
 qm 54 9,
 qm 55 12,
 .r 56 (.ext (.mget .ii true) [.t 54,.t 55]),
 qm 53 56,
 .r 57 (.ex (.t 53) 0),
 .r 58 (.ex (.t 53) 1),
 qm 14 57,
 qm 15 58])
 (.seq
 (.reg 10 none [2,3,4,8,9,12,13,39,40,41,64] [
 qm 59 15,
 qm 60 59,
 qmt 61 60 14,
 qmt 62 60 13,
 .rt 63 60 (.bin .neq false (.t 61) (.t 62)),
 qp 64 60 63])
 (qq 64
 (.seq
 (.reg 11 none [6] [
 qc 6 false])
 .ret)
 .skip)))
 (.reg 12 none [2,3,4,8,9,39,40,41] [
 qm 65 9,
 qm 66 12,
 qm 67 13,
 .rn (.ext (.mput .ii) [.t 65,.t 66,.t 67])])))))
 (.reg 13 none [2,3,4,8,9,39,40,41] [
 qa 68 41,
 qm 41 68])))))))
 (.seq
 (.reg 14 none [6] [
 qc 6 true])
 .ret))))
 .skip))
 (.seq
 (.seq
 (.reg 15 none [2,4,7,74] [
 qm 69 2,
 qB 70 .eql 69 0,
 qm 71 70,
 qft 72 71 6 7,
 qlt 73 71 72,
 qp 74 71 73])
 (qq 74
 (.seq
 (.reg 16 none [6] [
 qc 6 false])
 .ret)
 .skip))
 (.seq
 (.seq
 (.reg 17 none [2,4,7,77] [
 qf 75 0 4,
 ql 76 75,
 qB 77 .eql 76 4])
 (qq 77
 (.seq
 (.reg 18 none [6] [
 qc 6 true])
 .ret)
 .skip))
 (.seq
 (.reg 19 (some [0,1,0,4,15,0,32,0,128,480,31,2047]) [2,7,16,17] [
 qf 78 3 4,
 ql 79 78,
 qf 80 3 7,
 ql 81 80,
 .r 82 (.mx [.t 79,.t 81]),
 qf 83 4 4,
 ql 84 83,
 qf 85 4 7,
 ql 86 85,
 .r 87 (.mn [.t 84,.t 86]),
 qm 16 82,
 qm 17 87])
 (.seq
 (.block 2
 (.seq
 (.reg 20 none [2,7,16,17,88] [
 qm 89 16,
 qm 90 17,
 qb 91 .gtr 89 90,
 qm 88 91])
 (qq 88
 (.seq
 (.reg 21 none [6] [
 qc 6 true])
 .ret)
 (.seq
 (.reg 22 none [2,7,16,17,92] [
 qm 93 2,
 qB 94 .eql 93 0,
 qm 92 94])
 (qq 92
 (.seq
 (.reg 23 none [6] [
 qm 95 16,
 qf 96 3 7,
 ql 97 96,
 qb 98 .eql 95 97,
 qm 99 98,
 qmt 100 99 17,
 qft 101 99 4 7,
 qlt 102 99 101,
 .rt 103 99 (.bin .eql false (.t 100) (.t 102)),
 qp 104 99 103,
 qm 6 104])
 .ret)
 .skip)))))
 (.seq
 (.reg 24 none [7,16,17,18] [
 qL 105 7 7,
 qm 106 2,
 qC 107 yI [.t 105,.t 106],
 qm 18 107])
 (.seq
 (.reg 25 none [6] [
 qm 108 16,
 qf 109 3 7,
 ql 110 109,
 qb 111 .eql 108 110,
 qm 112 111,
 qmf 113 112 16,
 qmf 114 112 18,
 .rf 115 112 (.call (.k (.clo wt [])) [.t 113,.t 114]),
 qmf 116 112 16,
 .rf 117 112 (.bin .eql false (.t 115) (.t 116)),
 qP 118 112 117,
 qm 119 118,
 qmt 120 119 17,
 qft 121 119 4 7,
 qlt 122 119 121,
 .rt 123 119 (.bin .eql false (.t 120) (.t 122)),
 qmt 124 119 123,
 qmf 125 124 17,
 .rf 126 124 (.bin .add false (.t 125) (qI 1)),
 qmf 127 124 18,
 .rf 128 124 (.call (.k (.clo wt [])) [.t 126,.t 127]),
 qmf 129 124 17,
 .rf 130 124 (.bin .add false (.t 129) (qI 1)),
 .rf 131 124 (.bin .eql false (.t 128) (.t 130)),
 .rt 132 119 (.pick (.t 124) (.k (.v (.bool true))) (.t 131)),
 qp 133 119 132,
 qm 6 133])
 .ret)))))))))
def WZ:List (Nat×List Nat):=qy kj
theorem Ya:FnIR Tryz.prog kM 134 WZ kj [(.tmp 6)]:=
 qF Tryz.func97
def Jy:RC:=
 (.seq
 (.reg 0 none [2,3] [
 .r 2 (.box (.t 0)),
 .r 3 (.box (.t 1)),
 qi 4 0])
 (.seq
 (.reg 1 none [3,5] [
 qL 6 2 2,
 qf 7 0 3,
 ql 8 7,
 qC 9 wY [.t 6,.t 8],
 qm 5 9])
 (.seq
 (.block 0
 (.seq
 (.reg 2 none [3,5,10] [
 qm 11 5,
 qB 12 .lss 11 0,
 qm 10 12])
 (qq 10
 (.seq
 (.reg 3 none [4] [
 qi 4 7])
 .ret)
 (.seq
 (.reg 4 none [13] [
 qf 14 1 3,
 ql 15 14,
 qB 16 .lss 15 0,
 qm 17 16,
 qff 18 17 1 3,
 qlf 19 17 18,
 qmf 20 17 5,
 .rf 21 17 (.bin .gtr false (.t 19) (.t 20)),
 qP 22 17 21,
 qm 13 22])
 (qq 13
 (.seq
 (.reg 5 none [4] [
 qi 4 8])
 .ret)
 .skip)))))
 (.seq
 (.reg 6 none [4] [
 qi 4 0])
 .ret))))
def qJ7:List (Nat×List Nat):=qy Jy
theorem qJ8:FnIR Tryz.prog QU 23 qJ7 Jy [(.tmp 4)]:=
 qF Tryz.func98
def zS:RC:=
 (.seq
 (.reg 0 none [0,1] [
 qc 4 false])
 (.seq
 (.reg 1 none [4] [
 qm 5 0,
 qm 6 1,
 qC 7 jI [.t 5,.t 6],
 qB 8 .geq 7 0,
 qm 4 8])
 .ret))
def ZE:List (Nat×List Nat):=qy zS
theorem ZF:FnIR Tryz.prog zf 9 ZE zS [(.tmp 4)]:=
 qF Tryz.func99
def ko:RC:=
 (.seq
 (.reg 0 none [1,2] [
 .r 2 (.box (.t 0)),
 qc 3 false])
 (.seq
 (.reg 1 none [3] [
 ql 4 1,
 .r 5 (.mf zV [.t 2]),
 qC 6 zf [.t 4,.t 5],
 .r 7 (.un .not (.t 6)),
 qm 3 7])
 .ret))
def Yb:List (Nat×List Nat):=qy ko
theorem Yc:FnIR Tryz.prog jl 8 Yb ko [(.tmp 3)]:=
 qF Tryz.func100
def jL:RC:=
 (.seq
 (.reg 0 none [1,2] [
 .r 2 (.box (.t 0)),
 qc 3 false])
 (.seq
 (.reg 1 none [3] [
 qf 4 0 2,
 ql 5 4,
 qf 6 0 1,
 ql 7 6,
 qb 8 .eql 5 7,
 qm 9 8,
 qft 10 9 1 2,
 qlt 11 9 10,
 qft 12 9 1 1,
 qlt 13 9 12,
 .rt 14 9 (.bin .geq false (.t 11) (.t 13)),
 qp 15 9 14,
 qm 3 15])
 .ret))
def KN:List (Nat×List Nat):=qy jL
theorem KO:FnIR Tryz.prog zV 16 KN jL [(.tmp 3)]:=
 qF Tryz.func101
def KP:RC:=
 (.seq
 (.reg 0 none [2,3] [
 .r 2 (.box (.t 0)),
 .r 3 (.box (.t 1)),
 qi 4 0])
 (.seq
 (.seq
 (.reg 1 none [2,3,5] [
 qL 6 2 2,
 qC 7 jF [.t 6],
 qm 5 7])
 (.seq
 (.reg 2 none [2,3,5,9] [
 qm 8 5,
 qB 9 .neq 8 0])
 (qq 9
 (.seq
 (.reg 3 none [4] [
 qm 10 5,
 qm 4 10])
 .ret)
 .skip)))
 (.seq
 (.seq
 (.reg 4 none [2,3,21] [
 qf 11 0 3,
 ql 12 11,
 qB 13 .lss 12 1,
 qm 14 13,
 qff 15 14 0 3,
 qlf 16 14 15,
 qff 17 14 1 2,
 qlf 18 14 17,
 .rf 19 14 (.lenL (.t 18)),
 .rf 20 14 (.bin .geq false (.t 16) (.t 19)),
 qP 21 14 20])
 (qq 21
 (.seq
 (.reg 5 none [4] [
 qi 4 7])
 .ret)
 .skip))
 (.seq
 (.seq
 (.reg 6 (some [0,1,0,0,8,28,63,127]) [29] [
 qf 22 1 3,
 ql 23 22,
 qL 24 2 2,
 qf 25 0 3,
 ql 26 25,
 qC 27 jQ [.t 24,.t 26],
 qC 28 zD [.t 23,qI 0,.t 27],
 .r 29 (.un .not (.t 28))])
 (qq 29
 (.seq
 (.reg 7 none [4] [
 qi 4 8])
 .ret)
 .skip))
 (.seq
 (.reg 8 none [4] [
 qi 4 0])
 .ret)))))
def qU7:List (Nat×List Nat):=qy KP
theorem qU8:FnIR Tryz.prog WS 30 qU7 KP [(.tmp 4)]:=
 qF Tryz.func102
def Jz:RC:=
 (.seq
 (.reg 0 none [1] [
 .r 1 (.box (.t 0)),
 qi 2 0])
 (.seq
 (.seq
 (.reg 1 none [1,11] [
 qf 8 0 1,
 ql 9 8,
 qC 10 Qo [.t 9],
 .r 11 (.un .not (.t 10))])
 (qq 11
 (.seq
 (.reg 2 none [2] [
 qi 2 3])
 .ret)
 .skip))
 (.seq
 (.seq
 (.reg 3 none [1,15] [
 qf 12 1 1,
 ql 13 12,
 qn 14 13,
 qB 15 .eql 14 0])
 (qq 15
 (.seq
 (.reg 4 none [2] [
 qi 2 5])
 .ret)
 .skip))
 (.seq
 (.seq
 (.reg 5 none [1,19] [
 qf 16 1 1,
 ql 17 16,
 qn 18 17,
 qB 19 .gtr 18 60])
 (qq 19
 (.seq
 (.reg 6 none [2] [
 qi 2 1])
 .ret)
 .skip))
 (.seq
 (.seq
 (.reg 7 none [1,3] [
 qi 3 0])
 (.block 0
 (.loop
 (.seq
 (.seq
 (.reg 8 none [1,3,24] [
 qm 20 3,
 qf 21 1 1,
 ql 22 21,
 qn 23 22,
 qb 24 .lss 20 23])
 (qq 24
 .skip
 (.exit 0)))
 (.seq
 (.block 1
 (.seq
 (.seq
 (.reg 10 none [1,3,34] [
 qf 27 1 1,
 ql 28 27,
 qm 29 3,
 qx 30 2 28 29,
 qf 31 0 30,
 ql 32 31,
 qC 33 Qo [.t 32],
 .r 34 (.un .not (.t 33))])
 (qq 34
 (.seq
 (.reg 11 none [2] [
 qi 2 3])
 .ret)
 .skip))
 (.seq
 (.seq
 (.reg 12 none [1,3,4] [
 qi 4 0])
 (.block 2
 (.loop
 (.seq
 (.seq
 (.reg 13 none [1,3,4,37] [
 qm 35 4,
 qm 36 3,
 qb 37 .lss 35 36])
 (qq 37
 .skip
 (.exit 2)))
 (.seq
 (.block 3
 (.seq
 (.reg 15 (some [0,1,0,7,15,31,0,64,0,448,960,1984,4095]) [1,3,4,52] [
 qf 40 1 1,
 ql 41 40,
 qm 42 4,
 qx 43 2 41 42,
 qf 44 0 43,
 ql 45 44,
 qf 46 1 1,
 ql 47 46,
 qm 48 3,
 qx 49 2 47 48,
 qf 50 0 49,
 ql 51 50,
 qb 52 .eql 45 51])
 (qq 52
 (.seq
 (.reg 16 none [2] [
 qi 2 10])
 .ret)
 .skip)))
 (.reg 14 none [1,3,4] [
 qm 38 4,
 qa 39 38,
 qm 4 39]))))))
 (.seq
 (.reg 17 none [1,3,5] [
 qf 53 1 1,
 ql 54 53,
 qm 55 3,
 qx 56 2 54 55,
 qf 57 1 56,
 ql 58 57,
 qm 5 58])
 (.seq
 (.reg 18 none [1,3,77] [
 qm 59 3,
 qB 60 .eql 59 0,
 qm 61 60,
 qmt 62 61 5,
 .rt 63 61 (.bin .neq false (.t 62) (.k (.v (.int .i64 (-1))))),
 qp 64 61 63,
 qm 65 64,
 qmf 66 65 3,
 .rf 67 65 (.bin .gtr false (.t 66) (qI 0)),
 qmf 68 65 67,
 qmt 69 68 5,
 .rt 70 68 (.bin .lss false (.t 69) (qI 0)),
 qmt 71 68 70,
 qmf 72 71 5,
 qmf 73 71 3,
 .rf 74 71 (.bin .geq false (.t 72) (.t 73)),
 .rt 75 68 (.pick (.t 71) (.k (.v (.bool true))) (.t 74)),
 .rf 76 65 (.pick (.t 68) (.t 75) (.k (.v (.bool false)))),
 qP 77 65 76])
 (qq 77
 (.seq
 (.reg 19 none [2] [
 qi 2 6])
 .ret)
 .skip))))))
 (.reg 9 none [1,3] [
 qm 25 3,
 qa 26 25,
 qm 3 26]))))))
 (.seq
 (.reg 20 none [1,6] [
 .r 6 (.mv (.k (.v (.int .i64 (-1)))))])
 (.seq
 (.seq
 (.reg 21 none [1,6,7] [
 qi 7 0])
 (.block 4
 (.loop
 (.seq
 (.seq
 (.reg 22 none [1,6,7,82] [
 qm 78 7,
 qf 79 1 1,
 ql 80 79,
 qn 81 80,
 qb 82 .lss 78 81])
 (qq 82
 .skip
 (.exit 4)))
 (.seq
 (.block 5
 (.seq
 (.reg 24 none [1,6,7,87] [
 qL 85 2 1,
 qm 86 7,
 qC 87 WU [.t 85,.t 86]])
 (qq 87
 (.seq
 (.seq
 (.reg 25 none [1,7,96] [
 qm 88 6,
 qB 89 .geq 88 0,
 qm 90 89,
 .rt 91 90 (.ld (some 2) (.t 1)),
 qmt 92 90 7,
 .rt 93 90 (.call (.k (.clo zo [])) [.t 91,.t 92]),
 qmt 94 90 6,
 .rt 95 90 (.bin .neq false (.t 93) (.t 94)),
 qp 96 90 95])
 (qq 96
 (.seq
 (.reg 26 none [2] [
 qi 2 5])
 .ret)
 .skip))
 (.reg 27 none [1,6,7] [
 qL 97 2 1,
 qm 98 7,
 qC 99 zo [.t 97,.t 98],
 qm 6 99]))
 .skip)))
 (.reg 23 none [1,6,7] [
 qm 83 7,
 qa 84 83,
 qm 7 84]))))))
 (.seq
 (.reg 28 none [2] [
 qi 2 0])
 .ret))))))))
def qJ9:List (Nat×List Nat):=qy Jz
theorem qK0:FnIR Tryz.prog jG 100 qJ9 Jz [(.tmp 2)]:=
 qF Tryz.func103
def JA:RC:=
 (.seq
 (.reg 0 none [1,2] [
 .r 2 (.box (.t 0)),
 qi 4 0])
 (.seq
 (.reg 1 none [1,2,5] [
 qi 5 0])
 (.seq
 (.block 0
 (.loop
 (.seq
 (.seq
 (.reg 2 none [1,2,5,12] [
 qf 6 1 2,
 ql 7 6,
 qm 8 1,
 qx 9 2 7 8,
 qf 10 1 9,
 ql 11 10,
 qB 12 .geq 11 0])
 (qq 12
 .skip
 (.exit 0)))
 (.block 1
 (.seq
 (.reg 3 none [1,2,5] [
 qf 13 1 2,
 ql 14 13,
 qm 15 1,
 qx 16 2 14 15,
 qf 17 1 16,
 ql 18 17,
 qm 1 18])
 (.reg 4 none [1,2,5] [
 qm 19 5,
 qa 20 19,
 qm 5 20]))))))
 (.seq
 (.reg 5 none [4] [
 qm 21 5,
 qm 4 21])
 .ret))))
def qK1:List (Nat×List Nat):=qy JA
theorem qK2:FnIR Tryz.prog zo 22 qK1 JA [(.tmp 4)]:=
 qF Tryz.func104
def JB:RC:=
 (.seq
 (.reg 0 none [1,2] [
 .r 2 (.box (.t 0)),
 qi 4 0])
 (.seq
 (.reg 1 none [1,2,5] [
 qi 5 1])
 (.seq
 (.seq
 (.reg 2 none [1,2,5,6] [
 qi 6 0])
 (.block 0
 (.loop
 (.seq
 (.seq
 (.reg 3 none [1,2,5,6,16] [
 qm 7 6,
 qf 8 5 2,
 ql 9 8,
 qn 10 9,
 qb 11 .lss 7 10,
 qm 12 11,
 qmt 13 12 5,
 qmt 14 12 1,
 .rt 15 12 (.bin .lss false (.t 13) (.t 14)),
 qp 16 12 15])
 (qq 16
 .skip
 (.exit 0)))
 (.seq
 (.block 1
 (.reg 5 none [1,2,5,6] [
 qm 19 5,
 qf 20 5 2,
 ql 21 20,
 qm 22 6,
 qx 23 6 21 22,
 qL 24 6 23,
 qm 25 1,
 qm 26 5,
 qb 27 .sub 25 26,
 qC 28 QV [.t 24,.t 27],
 qb 29 .add 19 28,
 qm 5 29]))
 (.reg 4 none [1,2,5,6] [
 qm 17 6,
 qa 18 17,
 qm 6 18]))))))
 (.seq
 (.reg 6 none [4] [
 qm 30 5,
 qm 4 30])
 .ret))))
def qK3:List (Nat×List Nat):=qy JB
theorem qK4:FnIR Tryz.prog QV 31 qK3 JB [(.tmp 4)]:=
 qF Tryz.func105
def JC:RC:=
 (.seq
 (.reg 0 none [1] [
 .r 1 (.box (.t 0)),
 qi 2 0])
 (.seq
 (.reg 1 none [1,3] [
 qi 3 0])
 (.seq
 (.seq
 (.reg 2 none [1,3,4] [
 qi 4 0])
 (.block 0
 (.loop
 (.seq
 (.seq
 (.reg 3 none [1,3,4,9] [
 qm 5 4,
 qf 6 5 1,
 ql 7 6,
 qn 8 7,
 qb 9 .lss 5 8])
 (qq 9
 .skip
 (.exit 0)))
 (.seq
 (.block 1
 (.reg 5 none [1,3,4] [
 qm 12 3,
 qf 13 5 1,
 ql 14 13,
 qm 15 4,
 qx 16 6 14 15,
 qL 17 6 16,
 qC 18 QW [.t 17],
 .r 19 (.mx [.t 12,.t 18]),
 qm 3 19]))
 (.reg 4 none [1,3,4] [
 qm 10 4,
 qa 11 10,
 qm 4 11]))))))
 (.seq
 (.reg 6 none [2] [
 qm 20 3,
 qa 21 20,
 qm 2 21])
 .ret))))
def qK5:List (Nat×List Nat):=qy JC
theorem qK6:FnIR Tryz.prog QW 22 qK5 JC [(.tmp 2)]:=
 qF Tryz.func106
def zy:RC:=
 (.seq
 (.reg 0 none [2,3] [
 .r 2 (.box (.t 0)),
 .r 3 (.box (.t 1)),
 qi 4 0])
 (.seq
 (.reg 1 (some [0,1,3,0,8,31]) [2,3,5,6] [
 qf 9 0 3,
 ql 10 9,
 .r 11 (.build [.v (.int .i64 0),.v (.int .i64 0),.v (.int .i64 0),.v (.int .i64 0),.v (.int .i64 0),.v (.slice none 0 0)] [((0,1),.t 10)]),
 .r 6 (.new (.agg [.v (.int .i64 0),.v (.int .i64 0),.v (.int .i64 0),.v (.int .i64 0),.v (.int .i64 0),.v (.slice none 0 0)])),
 qi 5 0,
 qs 6 6 11])
 (.seq
 (.seq
 (.reg 2 none [2,3,5,6,13] [
 qf 12 0 3,
 ql 13 12])
 (.block 0
 (.seq
 (.reg 4 none [2,3,5,6,13,14] [
 qB 15 .eql 13 1,
 qm 14 15])
 (qq 14
 .skip
 (.seq
 (.reg 5 none [2,3,5,6,13,16] [
 qB 17 .eql 13 2,
 qm 16 17])
 (qq 16
 (.reg 6 (some [0,1,0,4,3,19,63,127]) [2,3,5,6] [
 qf 18 1 3,
 ql 19 18,
 qf 20 2 3,
 ql 21 20,
 qf 22 1 6,
 qs 1 22 19,
 qf 23 2 6,
 qs 1 23 21])
 (.seq
 (.reg 7 none [2,3,5,6,13,24] [
 qB 25 .eql 13 3,
 qm 24 25])
 (qq 24
 (.reg 8 (some [0,1,0,4,0,16,3,67,207,463,1023,2047]) [2,3,5,6] [
 qf 26 1 3,
 ql 27 26,
 qf 28 3 3,
 ql 29 28,
 qf 30 4 3,
 ql 31 30,
 qf 32 1 6,
 qs 1 32 27,
 qf 33 3 6,
 qs 1 33 29,
 qf 34 4 6,
 qs 1 34 31])
 (.seq
 (.reg 9 none [2,3,5,6,13,35] [
 qB 36 .eql 13 4,
 qm 35 36])
 (qq 35
 (.reg 10 none [2,3,5,6] [
 qf 37 1 3,
 ql 38 37,
 qf 39 1 6,
 qs 1 39 38])
 (.seq
 (.seq
 (.reg 11 none [2,3,6,13,40] [
 qB 41 .eql 13 5,
 qm 40 41])
 (qq 40
 .skip
 (.reg 12 none [2,3,6,13,40] [
 qB 42 .eql 13 6,
 qm 40 42])))
 (qq 40
 (.reg 13 none [2,3,5,6] [
 qi 5 2])
 (.seq
 (.reg 14 none [2,3,6,43] [
 qB 44 .eql 13 7,
 qm 43 44])
 (qq 43
 (.reg 15 none [2,3,5,6] [
 qi 5 1])
 (.seq
 (.reg 3 none [4] [
 qi 4 4])
 .ret)))))))))))))))
 (.seq
 (.seq
 (.reg 16 none [2,3,77] [
 qf 45 5 3,
 ql 46 45,
 qn 47 46,
 qm 48 5,
 qb 49 .neq 47 48,
 qm 50 49,
 qff 51 50 1 6,
 qlf 52 50 51,
 qff 53 50 1 3,
 qlf 54 50 53,
 .rf 55 50 (.bin .neq false (.t 52) (.t 54)),
 qP 56 50 55,
 qm 57 56,
 qff 58 57 2 6,
 qlf 59 57 58,
 qff 60 57 2 3,
 qlf 61 57 60,
 .rf 62 57 (.bin .neq false (.t 59) (.t 61)),
 qP 63 57 62,
 qm 64 63,
 qff 65 64 3 6,
 qlf 66 64 65,
 qff 67 64 3 3,
 qlf 68 64 67,
 .rf 69 64 (.bin .neq false (.t 66) (.t 68)),
 qP 70 64 69,
 qm 71 70,
 qff 72 71 4 6,
 qlf 73 71 72,
 qff 74 71 4 3,
 qlf 75 71 74,
 .rf 76 71 (.bin .neq false (.t 73) (.t 75)),
 qP 77 71 76])
 (qq 77
 (.seq
 (.reg 17 none [4] [
 qi 4 11])
 .ret)
 .skip))
 (.seq
 (.seq
 (.reg 18 none [2,3,121] [
 qf 78 0 3,
 ql 79 78,
 qB 80 .eql 79 2,
 qm 81 80,
 .rt 82 81 (.ld (some 2) (.t 2)),
 qft 83 81 1 3,
 qlt 84 81 83,
 .rt 85 81 (.call (.k (.clo JZ [])) [.t 82,.t 84,qI 2]),
 .rt 86 81 (.un .not (.t 85)),
 qp 87 81 86,
 qm 88 87,
 qff 89 88 0 3,
 qlf 90 88 89,
 .rf 91 88 (.bin .eql false (.t 90) (qI 3)),
 qmf 92 88 91,
 .rt 93 92 (.ld (some 2) (.t 2)),
 qft 94 92 1 3,
 qlt 95 92 94,
 .rt 96 92 (.call (.k (.clo JZ [])) [.t 93,.t 95,qI 3]),
 .rt 97 92 (.un .not (.t 96)),
 .rf 98 88 (.pick (.t 92) (.t 97) (.k (.v (.bool false)))),
 qP 99 88 98,
 qm 100 99,
 qff 101 100 0 3,
 qlf 102 100 101,
 .rf 103 100 (.bin .eql false (.t 102) (qI 4)),
 qmf 104 100 103,
 .rt 105 104 (.ld (some 2) (.t 2)),
 qft 106 104 1 3,
 qlt 107 104 106,
 .rt 108 104 (.call (.k (.clo JZ [])) [.t 105,.t 107,qI 3]),
 .rt 109 104 (.un .not (.t 108)),
 qmt 110 104 109,
 qff 111 110 1 2,
 qlf 112 110 111,
 qff 113 110 1 3,
 qlf 114 110 113,
 .rf 115 110 (.ixL 7 (.t 112) (.t 114)),
 qff 116 110 6 115,
 qlf 117 110 116,
 .rf 118 110 (.un .not (.t 117)),
 .rt 119 104 (.pick (.t 110) (.k (.v (.bool true))) (.t 118)),
 .rf 120 100 (.pick (.t 104) (.t 119) (.k (.v (.bool false)))),
 qP 121 100 120])
 (qq 121
 (.seq
 (.reg 19 none [4] [
 qi 4 7])
 .ret)
 .skip))
 (.seq
 (.seq
 (.reg 20 (some [0,1,3,7,15,31,63,127,255,511,255,1279,255,4351,255,16639,61695,127231,258303,523519,1047807,2096383,4193535,8388607,16777215,33554431]) [2,3,147] [
 qf 122 0 3,
 ql 123 122,
 qB 124 .eql 123 2,
 qm 125 124,
 qft 126 125 2 3,
 qlt 127 125 126,
 .rt 128 125 (.bin .lss false (.t 127) (qI 0)),
 qmt 129 125 128,
 qff 130 129 2 3,
 qlf 131 129 130,
 qff 132 129 0 2,
 qlf 133 129 132,
 qff 134 129 1 2,
 qlf 135 129 134,
 qff 136 129 1 3,
 qlf 137 129 136,
 .rf 138 129 (.ixL 7 (.t 135) (.t 137)),
 qff 139 129 2 138,
 qlf 140 129 139,
 .rf 141 129 (.ixL 2 (.t 133) (.t 140)),
 qff 142 129 1 141,
 qlf 143 129 142,
 .rf 144 129 (.lenL (.t 143)),
 .rf 145 129 (.bin .geq false (.t 131) (.t 144)),
 .rt 146 125 (.pick (.t 129) (.k (.v (.bool true))) (.t 145)),
 qp 147 125 146])
 (qq 147
 (.seq
 (.reg 21 none [4] [
 qi 4 6])
 .ret)
 .skip))
 (.seq
 (.seq
 (.reg 22 none [2,3,167] [
 qf 148 0 3,
 ql 149 148,
 qB 150 .eql 149 3,
 qm 151 150,
 qft 152 151 3 3,
 qlt 153 151 152,
 .rt 154 151 (.bin .lss false (.t 153) (.k (.v (.int .i64 (-1000000))))),
 qmt 155 151 154,
 qff 156 155 4 3,
 qlf 157 155 156,
 .rf 158 155 (.bin .gtr false (.t 157) (qI 1000000)),
 .rt 159 151 (.pick (.t 155) (.k (.v (.bool true))) (.t 158)),
 qmt 160 151 159,
 qff 161 160 3 3,
 qlf 162 160 161,
 qff 163 160 4 3,
 qlf 164 160 163,
 .rf 165 160 (.bin .gtr false (.t 162) (.t 164)),
 .rt 166 151 (.pick (.t 160) (.k (.v (.bool true))) (.t 165)),
 qp 167 151 166])
 (qq 167
 (.seq
 (.reg 23 none [4] [
 qi 4 2])
 .ret)
 .skip))
 (.seq
 (.seq
 (.reg 24 none [2,3,7] [
 qi 7 0])
 (.block 1
 (.loop
 (.seq
 (.seq
 (.reg 25 none [2,3,7,172] [
 qm 168 7,
 qf 169 5 3,
 ql 170 169,
 qn 171 170,
 qb 172 .lss 168 171])
 (qq 172
 .skip
 (.exit 1)))
 (.seq
 (.block 2
 (.seq
 (.reg 27 (some [0,0,2,0,14,30,63,127]) [2,3,7,8] [
 qL 175 2 2,
 qf 176 5 3,
 ql 177 176,
 qm 178 7,
 qx 179 6 177 178,
 qL 180 6 179,
 qC 181 Jc [.t 175,.t 180],
 qm 8 181])
 (.seq
 (.reg 28 none [2,3,7,8,183] [
 qm 182 8,
 qB 183 .neq 182 0])
 (qq 183
 (.seq
 (.reg 29 none [4] [
 qm 184 8,
 qm 4 184])
 .ret)
 .skip))))
 (.reg 26 none [2,3,7] [
 qm 173 7,
 qa 174 173,
 qm 7 174]))))))
 (.seq
 (.reg 30 none [4] [
 qi 4 0])
 .ret)))))))))
def qU9:List (Nat×List Nat):=qy zy
theorem jf:FnIR Tryz.prog Jc 185 qU9 zy [(.tmp 4)]:=
 qF Tryz.func107
def JD:RC:=
 (.seq
 (.reg 0 none [1,2,3] [
 .r 3 (.box (.t 0)),
 qi 6 0,
 qi 7 0,
 qc 8 false])
 (.seq
 (.seq
 (.reg 1 none [1,2,3,13] [
 qm 12 1,
 qB 13 .eql 12 0])
 (qq 13
 (.seq
 (.reg 2 (some [0,1,0,4,0,16,3,79,255]) [6,7,8] [
 qf 14 3 3,
 ql 15 14,
 qf 16 4 3,
 ql 17 16,
 qm 18 2,
 qB 19 .eql 18 0,
 qm 6 15,
 qm 7 17,
 qm 8 19])
 .ret)
 .skip))
 (.seq
 (.reg 3 none [2,3,9] [
 qL 20 7 3,
 qm 21 1,
 qC 22 wS [.t 20,.t 21],
 qm 9 22])
 (.seq
 (.seq
 (.reg 4 none [2,3,9,35] [
 qm 23 2,
 .r 24 (.bin .eql false (.t 23) (.k (.v (.int .i64 (-1099511627776))))),
 qm 25 24,
 qmf 26 25 2,
 .rf 27 25 (.call (.k (.clo zD [])) [.t 26,.k (.v (.int .i64 (-2000000))),qI 2000000]),
 .rf 28 25 (.un .not (.t 27)),
 qP 29 25 28,
 qm 30 29,
 qmf 31 30 2,
 qmf 32 30 9,
 .rf 33 30 (.bin .rem false (.t 31) (.t 32)),
 .rf 34 30 (.bin .neq false (.t 33) (qI 0)),
 qP 35 30 34])
 (qq 35
 (.seq
 (.reg 5 none [6,7,8] [
 qi 6 0,
 qi 7 0,
 qc 8 false])
 .ret)
 .skip))
 (.seq
 (.reg 6 (some [0,1,0,7,0,16,0,0,192,448,1008,15,4095]) [10,11] [
 qf 36 3 3,
 ql 37 36,
 qm 38 2,
 .r 39 (.mx [.t 37,.t 38]),
 qf 40 4 3,
 ql 41 40,
 qm 42 2,
 qm 43 9,
 qb 44 .add 42 43,
 qB 45 .sub 44 1,
 .r 46 (.mn [.t 41,.t 45]),
 qm 10 39,
 qm 11 46])
 (.seq
 (.reg 7 none [6,7,8] [
 qm 47 10,
 qm 48 11,
 qm 49 10,
 qm 50 11,
 qb 51 .leq 49 50,
 qm 6 47,
 qm 7 48,
 qm 8 51])
 .ret))))))
def qK7:List (Nat×List Nat):=qy JD
theorem qK8:FnIR Tryz.prog QX 52 qK7 JD [(.tmp 6),(.tmp 7),(.tmp 8)]:=
 qF Tryz.func108
def KQ:RC:=
 (.seq
 (.reg 0 none [1,2,3,4] [
 .r 4 (.box (.t 0)),
 qi 8 0])
 (.seq
 (.reg 1 none [1,2,3,4,9] [
 qf 15 1 4,
 ql 16 15,
 qm 17 1,
 qx 18 7 16 17,
 qL 19 7 18,
 .r 9 (.new (.agg [.v (.string ⟨#[]⟩),.v (.int .i64 0),.v (.int .i64 0),.v (.int .i64 0),.v (.int .i64 0),.v (.slice none 0 0),.v (.bool false)])),
 qs 7 9 19])
 (.seq
 (.seq
 (.reg 2 none [1,2,3,4,9,22] [
 qf 20 1 9,
 ql 21 20,
 qB 22 .eql 21 2])
 (qq 22
 (.seq
 (.reg 3 none [1,2,3,4,10] [
 qL 23 2 4,
 qm 24 1,
 qC 25 jP [.t 23,.t 24],
 qm 10 25])
 (.seq
 (.seq
 (.reg 4 none [1,2,3,4,10,11] [
 qi 11 0])
 (.block 0
 (.loop
 (.seq
 (.seq
 (.reg 5 none [1,2,3,4,10,11,29] [
 qm 26 11,
 qm 27 10,
 qn 28 27,
 qb 29 .lss 26 28])
 (qq 29
 .skip
 (.exit 0)))
 (.seq
 (.block 1
 (.seq
 (.reg 7 (some [0,0,0,0,0,24,56,127,0,511]) [1,2,3,4,10,11,41] [
 qL 32 2 4,
 qm 33 1,
 qm 34 2,
 qm 35 10,
 qm 36 11,
 qx 37 1 35 36,
 ql 38 37,
 qC 39 jg [.t 32,.t 33,.t 34,.t 38],
 qm 40 3,
 qb 41 .eql 39 40])
 (qq 41
 (.seq
 (.reg 8 none [8] [
 qm 42 10,
 qm 43 11,
 qx 44 1 42 43,
 ql 45 44,
 qm 8 45])
 .ret)
 .skip)))
 (.reg 6 none [1,2,3,4,10,11] [
 qm 30 11,
 qa 31 30,
 qm 11 31]))))))
 (.seq
 (.reg 9 none [8] [
 .r 8 (.mv (.k (.v (.int .i64 (-1)))))])
 .ret)))
 .skip))
 (.seq
 (.seq
 (.reg 10 none [2,3,9,51] [
 qm 46 2,
 qB 47 .gtr 46 0,
 qm 48 47,
 qmt 49 48 3,
 .rt 50 48 (.bin .eql false (.t 49) (.k (.v (.int .i64 (-1099511627776))))),
 qp 51 48 50])
 (qq 51
 (.seq
 (.reg 11 none [8] [
 qm 52 3,
 qm 8 52])
 .ret)
 .skip))
 (.seq
 (.reg 12 none [12] [
 qL 54 7 9,
 qm 55 2,
 qm 56 3,
 qC 57 QX [.t 54,.t 55,.t 56],
 qm 53 57,
 .r 58 (.ex (.t 53) 0),
 .r 59 (.ex (.t 53) 1),
 .r 60 (.ex (.t 53) 2),
 qm 12 58,
 qm 13 59,
 qm 14 60])
 (.seq
 (.reg 13 none [8] [
 qm 61 12,
 qm 8 61])
 .ret))))))
def qV0:List (Nat×List Nat):=qy KQ
theorem qV1:FnIR Tryz.prog WT 62 qV0 KQ [(.tmp 8)]:=
 qF Tryz.func109
def KR:RC:=
 (.seq
 (.reg 0 none [0,1] [
 qi 4 0])
 (.seq
 (.seq
 (.reg 1 none [1,5] [
 qm 5 0])
 (.block 0
 (.seq
 (.reg 2 none [1,5,6] [
 qB 7 .eql 5 7,
 qm 6 7])
 (qq 6
 (.seq
 (.reg 3 none [4] [
 qm 8 1,
 .r 9 (.ixL 1 (.t 8) (qI 0)),
 ql 10 9,
 .r 11 (.un .neg (.t 10)),
 qm 4 11])
 .ret)
 (.seq
 (.reg 4 none [1,5,12] [
 qB 13 .eql 5 5,
 qm 12 13])
 (qq 12
 (.seq
 (.reg 5 (some [0,1,3,0,8,24,63,127]) [4] [
 qm 14 1,
 .r 15 (.ixL 1 (.t 14) (qI 0)),
 ql 16 15,
 qm 17 1,
 .r 18 (.ixL 1 (.t 17) (qI 1)),
 ql 19 18,
 .r 20 (.mn [.t 16,.t 19]),
 qm 4 20])
 .ret)
 (.seq
 (.reg 6 none [1,21] [
 qB 22 .eql 5 6,
 qm 21 22])
 (qq 21
 (.seq
 (.reg 7 (some [0,1,3,0,8,24,63,127]) [4] [
 qm 23 1,
 .r 24 (.ixL 1 (.t 23) (qI 0)),
 ql 25 24,
 qm 26 1,
 .r 27 (.ixL 1 (.t 26) (qI 1)),
 ql 28 27,
 .r 29 (.mx [.t 25,.t 28]),
 qm 4 29])
 .ret)
 .skip))))))))
 (.seq
 (.reg 8 none [4] [
 qi 4 1])
 .ret)))
def qV2:List (Nat×List Nat):=qy KR
theorem qV3:FnIR Tryz.prog Jd 30 qV2 KR [(.tmp 4)]:=
 qF Tryz.func110
def zF:RC:=
 (.seq
 (.reg 0 none [0,1] [
 .r 4 (.mv (.k (.v (.string ⟨#[]⟩))))])
 (.seq
 (.seq
 (.reg 1 none [0,1,11] [
 qm 10 1,
 qB 11 .eql 10 10])
 (qq 11
 (.seq
 (.seq
 (.reg 2 none [0,17] [
 qm 12 0,
 .r 13 (.bin .leq false (qI 0) (.t 12)),
 qm 14 13,
 qmt 15 14 0,
 .rt 16 14 (.bin .lss false (.t 15) (qI 100)),
 qp 17 14 16])
 (qq 17
 (.seq
 (.reg 3 none [4] [
 qm 18 0,
 qC 19 jt [.t 18],
 qm 4 19])
 .ret)
 .skip))
 (.seq
 (.reg 4 none [0] [
 .r 5 (.new (.agg [.v (.int .u8 0),.v (.int .u8 0),.v (.int .u8 0),.v (.int .u8 0),.v (.int .u8 0),.v (.int .u8 0),.v (.int .u8 0),.v (.int .u8 0),.v (.int .u8 0),.v (.int .u8 0),.v (.int .u8 0),.v (.int .u8 0),.v (.int .u8 0),.v (.int .u8 0),.v (.int .u8 0),.v (.int .u8 0),.v (.int .u8 0),.v (.int .u8 0),.v (.int .u8 0),.v (.int .u8 0),.v (.int .u8 0),.v (.int .u8 0),.v (.int .u8 0),.v (.int .u8 0)]))])
 (.seq
 (.reg 5 none [0,6] [
 qm 20 0,
 .r 21 (.cvI .u64 (.t 20)),
 qm 6 21])
 (.seq
 (.seq
 (.reg 6 none [6,23] [
 qm 22 0,
 qB 23 .lss 22 0])
 (qq 23
 (.reg 7 none [6] [
 qm 24 6,
 .r 25 (.un .neg (.t 24)),
 qm 6 25])
 .skip))
 (.seq
 (.reg 8 none [] [
 qm 26 6,
 qC 27 QY [.t 26],
 qm 7 27])
 (.seq
 .stuck
 (.seq
 (.seq
 (.reg 10 none [5,34] [
 qm 33 0,
 qB 34 .lss 33 0])
 (qq 34
 (.seq
 (.reg 11 none [] [
 .r 35 (.ixA 24 1 (.t 5) (qI 0)),
 .rn (.st 1 (.t 35) (.k (.v (.int .u8 45))))])
 (.seq
 .stuck
 .ret))
 .skip))
 (.seq
 .stuck
 .ret))))))))
 .skip))
 (.seq
 (.reg 14 none [9] [
 qm 45 0,
 .r 46 (.cvI .u64 (.t 45)),
 qm 47 1,
 qm 48 0,
 qB 49 .lss 48 0,
 qC 50 Qx [qN,.t 46,.t 47,.t 49,.k (.v (.bool false))],
 qm 44 50,
 .r 51 (.ex (.t 44) 0),
 .r 52 (.ex (.t 44) 1),
 qm 8 51,
 qm 9 52])
 (.seq
 (.reg 15 none [4] [
 qm 53 9,
 qm 4 53])
 .ret))))
def QG:List (Nat×List Nat):=qy zF
theorem QH:FnIR Tryz.prog zK 54 QG zF [(.tmp 4)]:=
 qF Tryz.func111
def JE:RC:=
 (.seq
 (.reg 0 none [1] [
 .r 1 (.box (.t 0)),
 qi 2 0])
 (.seq
 (.block 0
 (.seq
 (.reg 1 none [1,10] [
 qf 11 0 1,
 ql 12 11,
 qC 13 wH [.t 12],
 .r 14 (.un .not (.t 13)),
 qm 10 14])
 (qq 10
 (.seq
 (.reg 2 none [2] [
 qi 2 3])
 .ret)
 (.seq
 (.reg 3 none [1,15] [
 qf 16 1 1,
 ql 17 16,
 qn 18 17,
 qB 19 .eql 18 0,
 qm 15 19])
 (qq 15
 (.seq
 (.reg 4 none [2] [
 qi 2 5])
 .ret)
 (.seq
 (.reg 5 none [1,20] [
 qf 21 1 1,
 ql 22 21,
 qn 23 22,
 qB 24 .gtr 23 60,
 qm 20 24])
 (qq 20
 (.seq
 (.reg 6 none [2] [
 qi 2 1])
 .ret)
 .skip)))))))
 (.seq
 (.reg 7 (some [0,0,2,6,14,1,63]) [1,3,4] [
 .r 25 (.ext (.mkm .sb) []),
 qf 26 1 1,
 ql 27 26,
 qn 28 27,
 .r 29 (.mk 1 1 (.v (.bool false)) (.t 28) (.t 28)),
 qm 3 25,
 qm 4 29])
 (.seq
 (.seq
 (.reg 8 none [1,3,4,31,32,33] [
 qf 30 1 1,
 ql 31 30,
 qn 32 31,
 qi 33 0])
 (.block 1
 (.loop
 (.seq
 (.reg 9 none [1,3,4,31,32,33,34] [
 qb 34 .lss 33 32])
 (.seq
 (qq 34
 .skip
 (.exit 1))
 (.seq
 (.block 2
 (.seq
 (.reg 10 none [1,3,4,5,6,31,32,33] [
 qm 35 33,
 qx 36 2 31 33,
 qL 37 2 36,
 .r 6 (.new (.agg [.v (.string ⟨#[]⟩),.v (.int .i64 0)])),
 qm 5 35,
 qs 2 6 37])
 (.seq
 (.block 3
 (.seq
 (.reg 11 none [1,3,4,5,6,31,32,33,38] [
 qf 39 0 6,
 ql 40 39,
 qC 41 wH [.t 40],
 .r 42 (.un .not (.t 41)),
 qm 38 42])
 (qq 38
 (.seq
 (.reg 12 none [2] [
 qi 2 3])
 .ret)
 (.seq
 (.reg 13 none [1,3,4,5,6,31,32,33,43] [
 qm 44 3,
 qf 45 0 6,
 ql 46 45,
 .r 47 (.ext (.mget .sb false) [.t 44,.t 46]),
 qm 43 47])
 (qq 43
 (.seq
 (.reg 14 none [2] [
 qi 2 10])
 .ret)
 (.seq
 (.reg 15 none [1,3,4,5,6,31,32,33,48] [
 qm 49 5,
 qB 50 .eql 49 0,
 qm 51 50,
 qft 52 51 1 6,
 qlt 53 51 52,
 .rt 54 51 (.bin .neq false (.t 53) (.k (.v (.int .i64 (-1))))),
 qp 55 51 54,
 qm 56 55,
 qmf 57 56 5,
 .rf 58 56 (.bin .gtr false (.t 57) (qI 0)),
 qmf 59 56 58,
 qft 60 59 1 6,
 qlt 61 59 60,
 .rt 62 59 (.bin .lss false (.t 61) (qI 0)),
 qmt 63 59 62,
 qff 64 63 1 6,
 qlf 65 63 64,
 qmf 66 63 5,
 .rf 67 63 (.bin .geq false (.t 65) (.t 66)),
 .rt 68 59 (.pick (.t 63) (.k (.v (.bool true))) (.t 67)),
 .rf 69 56 (.pick (.t 59) (.t 68) (.k (.v (.bool false)))),
 qP 70 56 69,
 qm 48 70])
 (qq 48
 (.seq
 (.reg 16 none [2] [
 qi 2 6])
 .ret)
 .skip)))))))
 (.seq
 (.reg 17 none [1,3,4,5,6,31,32,33] [
 qm 71 3,
 qf 72 0 6,
 ql 73 72,
 .rn (.ext (.mput .sb) [.t 71,.t 73,.k (.v (.bool true))])])
 (.seq
 (.reg 18 none [1,3,4,6,31,32,33,75] [
 qm 74 5,
 qB 75 .gtr 74 0])
 (qq 75
 (.reg 19 none [1,3,4,31,32,33] [
 qm 76 4,
 qf 77 1 6,
 ql 78 77,
 qx 79 1 76 78,
 .rn (.st 1 (.t 79) (.k (.v (.bool true))))])
 .skip))))))
 (.reg 20 none [1,3,4,31,32,33] [
 qa 80 33,
 qm 33 80])))))))
 (.seq
 (.reg 21 none [1,4,7] [
 .r 7 (.mv (.k (.v (.int .i64 (-1)))))])
 (.seq
 (.seq
 (.reg 22 none [4,7,82,83,84] [
 qL 81 2 1,
 qC 82 ji [.t 81],
 qn 83 82,
 qi 84 0])
 (.block 4
 (.loop
 (.seq
 (.reg 23 none [4,7,82,83,84,85] [
 qb 85 .lss 84 83])
 (.seq
 (qq 85
 .skip
 (.exit 4))
 (.seq
 (.block 5
 (.seq
 (.reg 24 none [4,7,8,9,82,83,84] [
 qm 86 84,
 qx 87 1 82 84,
 ql 88 87,
 qm 8 86,
 qm 9 88])
 (.seq
 (.seq
 (.reg 25 none [4,7,9,82,83,84,92] [
 qm 89 4,
 qm 90 8,
 qx 91 1 89 90,
 ql 92 91])
 (qq 92
 (.exit 5)
 .skip))
 (.seq
 (.seq
 (.reg 26 none [4,9,82,83,84,99] [
 qm 93 7,
 qB 94 .geq 93 0,
 qm 95 94,
 qmt 96 95 9,
 qmt 97 95 7,
 .rt 98 95 (.bin .neq false (.t 96) (.t 97)),
 qp 99 95 98])
 (qq 99
 (.seq
 (.reg 27 none [2] [
 qi 2 5])
 .ret)
 .skip))
 (.reg 28 none [4,7,82,83,84] [
 qm 100 9,
 qm 7 100])))))
 (.reg 29 none [4,7,82,83,84] [
 qa 101 84,
 qm 84 101])))))))
 (.seq
 (.reg 30 none [2] [
 qi 2 0])
 .ret)))))))
def qK9:List (Nat×List Nat):=qy JE
theorem qL0:FnIR Tryz.prog kD 102 qK9 JE [(.tmp 2)]:=
 qF Tryz.func112
def zw:RC:=
 (.seq
 (.reg 0 none [0,1] [
 qc 4 false])
 (.seq
 (.reg 1 none [4] [
 qm 5 0,
 qm 6 1,
 qC 7 zQ [.t 5,.t 6],
 qB 8 .geq 7 0,
 qm 4 8])
 .ret))
def yO:List (Nat×List Nat):=qy zw
theorem yP:FnIR Tryz.prog zB 9 yO zw [(.tmp 4)]:=
 qF Tryz.func113
def yQ:RC:=
 (.seq
 (.reg 0 none [1,2] [
 .r 2 (.box (.t 0)),
 qc 3 false])
 (.seq
 (.reg 1 none [3] [
 qf 4 0 2,
 ql 5 4,
 qf 6 0 1,
 ql 7 6,
 qb 8 .eql 5 7,
 qm 3 8])
 .ret))
def qo9:List (Nat×List Nat):=qy yQ
theorem qp0:FnIR Tryz.prog wn 9 qo9 yQ [(.tmp 3)]:=
 qF Tryz.func114
def kp:RC:=
 (.seq
 (.reg 0 none [1,2] [
 .r 2 (.box (.t 0)),
 qi 4 0])
 (.seq
 (.reg 1 none [1,2,5] [
 qf 7 1 2,
 ql 8 7,
 qm 9 1,
 qx 10 7 8 9,
 qL 11 7 10,
 .r 5 (.new (.agg [.v (.string ⟨#[]⟩),.v (.int .i64 0),.v (.int .i64 0),.v (.int .i64 0),.v (.int .i64 0),.v (.slice none 0 0),.v (.bool false)])),
 qs 7 5 11])
 (.seq
 (.seq
 (.reg 2 none [1,2,5,15] [
 qf 12 0 5,
 ql 13 12,
 qC 14 wH [.t 13],
 .r 15 (.un .not (.t 14))])
 (qq 15
 (.seq
 (.reg 3 none [4] [
 qi 4 3])
 .ret)
 .skip))
 (.seq
 (.seq
 (.reg 4 none [1,2,5,21] [
 qf 16 1 2,
 ql 17 16,
 qm 18 1,
 .r 19 (.slL 7 (.t 17) none (some (.t 18))),
 .r 20 (.mf zW [.t 5]),
 qC 21 zL [.t 19,.t 20]])
 (qq 21
 (.seq
 (.reg 5 none [4] [
 qi 4 10])
 .ret)
 .skip))
 (.seq
 (.seq
 (.reg 6 none [1,2,5,23] [
 qf 22 1 5,
 ql 23 22])
 (.block 0
 (.seq
 (.reg 8 none [1,2,5,23,24] [
 qB 25 .eql 23 1,
 qm 24 25])
 (qq 24
 (.seq
 (.reg 9 none [5,27] [
 qm 26 1,
 qB 27 .gtr 26 0])
 (qq 27
 (.seq
 (.reg 10 none [4] [
 qi 4 4])
 .ret)
 .skip))
 (.seq
 (.reg 11 none [2,5,23,28] [
 qB 29 .eql 23 2,
 qm 28 29])
 (qq 28
 (.seq
 (.reg 12 none [5,40] [
 qf 30 2 5,
 ql 31 30,
 qB 32 .lss 31 0,
 qm 33 32,
 qff 34 33 2 5,
 qlf 35 33 34,
 qff 36 33 0 2,
 qlf 37 33 36,
 .rf 38 33 (.lenL (.t 37)),
 .rf 39 33 (.bin .geq false (.t 35) (.t 38)),
 qP 40 33 39])
 (qq 40
 (.seq
 (.reg 13 none [4] [
 qi 4 5])
 .ret)
 .skip))
 (.seq
 (.reg 14 none [5,41] [
 qB 42 .eql 23 3,
 qm 41 42])
 (qq 41
 (.seq
 (.reg 15 none [5,6] [
 qL 43 7 5,
 qC 44 kh [.t 43],
 qm 6 44])
 (.seq
 (.reg 16 none [5,6,46] [
 qm 45 6,
 qB 46 .neq 45 0])
 (qq 46
 (.seq
 (.reg 17 none [4] [
 qm 47 6,
 qm 4 47])
 .ret)
 .skip)))
 (.seq
 (.reg 7 none [4] [
 qi 4 4])
 .ret)))))))))
 (.seq
 (.seq
 (.reg 18 none [50] [
 qL 48 7 5,
 qC 49 Zp [.t 48],
 .r 50 (.un .not (.t 49))])
 (qq 50
 (.seq
 (.reg 19 none [4] [
 qi 4 11])
 .ret)
 .skip))
 (.seq
 (.reg 20 none [4] [
 qi 4 0])
 .ret)))))))
def Yd:List (Nat×List Nat):=qy kp
theorem Ye:FnIR Tryz.prog kN 51 Yd kp [(.tmp 4)]:=
 qF Tryz.func115
def yn:RC:=
 (.seq
 (.reg 0 none [1,2] [
 .r 2 (.box (.t 0)),
 qi 4 0])
 (.seq
 (.reg 1 none [1,2,5] [
 qi 5 1])
 (.seq
 (.seq
 (.reg 2 none [1,5,9,10,11] [
 qf 8 5 2,
 ql 9 8,
 qn 10 9,
 qi 11 0])
 (.block 0
 (.loop
 (.seq
 (.reg 3 none [1,5,9,10,11,12] [
 qb 12 .lss 11 10])
 (.seq
 (qq 12
 .skip
 (.exit 0))
 (.seq
 (.block 1
 (.seq
 (.reg 4 none [1,5,7,9,10,11] [
 qx 13 6 9 11,
 qL 14 6 13,
 .r 7 (.new (.agg [.v (.int .i64 0),.v (.int .i64 0),.v (.int .i64 0),.v (.int .i64 0),.v (.int .i64 0),.v (.slice none 0 0)])),
 qs 6 7 14])
 (.seq
 (.seq
 (.reg 5 none [1,5,7,9,10,11,17] [
 qm 15 5,
 qm 16 1,
 qb 17 .gtr 15 16])
 (qq 17
 (.exit 0)
 .skip))
 (.reg 6 none [1,5,9,10,11] [
 qm 18 5,
 qL 19 6 7,
 qm 20 1,
 qm 21 5,
 qb 22 .sub 20 21,
 qC 23 kE [.t 19,.t 22],
 qb 24 .add 18 23,
 qm 5 24]))))
 (.reg 7 none [1,5,9,10,11] [
 qa 25 11,
 qm 11 25])))))))
 (.seq
 (.reg 8 none [4] [
 qm 26 5,
 qm 4 26])
 .ret))))
def qj4:List (Nat×List Nat):=qy yn
theorem qj5:FnIR Tryz.prog kE 27 qj4 yn [(.tmp 4)]:=
 qF Tryz.func116
def yR:RC:=
 (.seq
 (.reg 0 none [1] [
 .r 1 (.box (.t 0)),
 qi 2 0])
 (.seq
 (.reg 1 none [1,3] [
 qi 3 0])
 (.seq
 (.seq
 (.reg 2 none [3,7,8,9] [
 qf 6 5 1,
 ql 7 6,
 qn 8 7,
 qi 9 0])
 (.block 0
 (.loop
 (.seq
 (.reg 3 none [3,7,8,9,10] [
 qb 10 .lss 9 8])
 (.seq
 (qq 10
 .skip
 (.exit 0))
 (.seq
 (.block 1
 (.seq
 (.reg 4 none [3,5,7,8,9] [
 qx 11 6 7 9,
 qL 12 6 11,
 .r 5 (.new (.agg [.v (.int .i64 0),.v (.int .i64 0),.v (.int .i64 0),.v (.int .i64 0),.v (.int .i64 0),.v (.slice none 0 0)])),
 qs 6 5 12])
 (.reg 5 none [3,7,8,9] [
 qm 13 3,
 qL 14 6 5,
 qC 15 wq [.t 14],
 .r 16 (.mx [.t 13,.t 15]),
 qm 3 16])))
 (.reg 6 none [3,7,8,9] [
 qa 17 9,
 qm 9 17])))))))
 (.seq
 (.reg 7 none [2] [
 qm 18 3,
 qa 19 18,
 qm 2 19])
 .ret))))
def qp1:List (Nat×List Nat):=qy yR
theorem qp2:FnIR Tryz.prog wq 20 qp1 yR [(.tmp 2)]:=
 qF Tryz.func117
def kr:RC:=
 (.seq
 (.reg 0 none [2,3] [
 .r 2 (.box (.t 0)),
 .r 3 (.box (.t 1)),
 qi 4 0])
 (.seq
 (.seq
 (.reg 1 none [2,3,5] [
 qL 9 2 2,
 qL 10 6 3,
 qC 11 kO [.t 9,.t 10],
 qm 5 11])
 (.seq
 (.reg 2 none [2,3,5,13] [
 qm 12 5,
 qB 13 .neq 12 0])
 (qq 13
 (.seq
 (.reg 3 none [4] [
 qm 14 5,
 qm 4 14])
 .ret)
 .skip)))
 (.seq
 (.seq
 (.reg 4 none [2,16,17,18] [
 qf 15 5 3,
 ql 16 15,
 qn 17 16,
 qi 18 0])
 (.block 0
 (.loop
 (.seq
 (.reg 5 none [2,16,17,18,19] [
 qb 19 .lss 18 17])
 (.seq
 (qq 19
 .skip
 (.exit 0))
 (.seq
 (.block 1
 (.seq
 (.reg 6 none [2,7,16,17,18] [
 qx 20 6 16 18,
 qL 21 6 20,
 .r 7 (.new (.agg [.v (.int .i64 0),.v (.int .i64 0),.v (.int .i64 0),.v (.int .i64 0),.v (.int .i64 0),.v (.slice none 0 0)])),
 qs 6 7 21])
 (.seq
 (.reg 7 none [2,8,16,17,18] [
 qL 22 2 2,
 qL 23 6 7,
 qC 24 jm [.t 22,.t 23],
 qm 8 24])
 (.seq
 (.reg 8 none [2,8,16,17,18,26] [
 qm 25 8,
 qB 26 .neq 25 0])
 (qq 26
 (.seq
 (.reg 9 none [4] [
 qm 27 8,
 qm 4 27])
 .ret)
 .skip)))))
 (.reg 10 none [2,16,17,18] [
 qa 28 18,
 qm 18 28])))))))
 (.seq
 (.reg 11 none [4] [
 qi 4 0])
 .ret))))
def Yf:List (Nat×List Nat):=qy kr
theorem Yg:FnIR Tryz.prog jm 29 Yf kr [(.tmp 4)]:=
 qF Tryz.func118
def JF:RC:=
 (.seq
 (.reg 0 none [2,3] [
 .r 2 (.box (.t 0)),
 .r 3 (.box (.t 1)),
 qi 4 0])
 (.seq
 (.seq
 (.reg 1 none [2,3,5] [
 qL 6 2 2,
 qC 7 jh [.t 6],
 qm 5 7])
 (.seq
 (.reg 2 none [2,3,5,9] [
 qm 8 5,
 qB 9 .neq 8 0])
 (qq 9
 (.seq
 (.reg 3 none [4] [
 qm 10 5,
 qm 4 10])
 .ret)
 .skip)))
 (.seq
 (.reg 4 none [4] [
 qL 11 2 2,
 qL 12 2 3,
 qC 13 QU [.t 11,.t 12],
 qm 4 13])
 .ret)))
def qL1:List (Nat×List Nat):=qy JF
theorem qL2:FnIR Tryz.prog KC 14 qL1 JF [(.tmp 4)]:=
 qF Tryz.func119
def ku:RC:=
 (.seq
 (.reg 0 none [1,2] [
 .r 2 (.box (.t 0)),
 qi 4 0])
 (.seq
 (.seq
 (.reg 1 none [1,2,13] [
 qm 5 1,
 qB 6 .lss 5 0,
 qm 7 6,
 qmf 8 7 1,
 qff 9 7 1 2,
 qlf 10 7 9,
 .rf 11 7 (.lenL (.t 10)),
 .rf 12 7 (.bin .geq false (.t 8) (.t 11)),
 qP 13 7 12])
 (qq 13
 (.seq
 (.reg 2 none [4] [
 qi 4 0])
 .ret)
 .skip))
 (.seq
 (.reg 3 none [4] [
 qf 14 1 2,
 ql 15 14,
 qm 16 1,
 qx 17 7 15 16,
 qf 18 1 17,
 ql 19 18,
 qm 4 19])
 .ret)))
def Yh:List (Nat×List Nat):=qy ku
theorem Yi:FnIR Tryz.prog zg 20 Yh ku [(.tmp 4)]:=
 qF Tryz.func120
def jY:RC:=
 (.seq
 (.reg 0 none [1,2] [
 .r 2 (.box (.t 0)),
 qc 3 false])
 (.seq
 (.reg 1 none [3] [
 qf 4 0 2,
 ql 5 4,
 qf 6 0 1,
 ql 7 6,
 qb 8 .eql 5 7,
 qm 3 8])
 .ret))
def Wv:List (Nat×List Nat):=qy jY
theorem Ww:FnIR Tryz.prog je 9 Wv jY [(.tmp 3)]:=
 qF Tryz.func121
def kU:RC:=
 (.seq
 (.reg 0 none [1] [
 .r 1 (.box (.t 0)),
 qc 2 false])
 (.seq
 (.reg 1 none [2] [
 qf 3 0 1,
 ql 4 3,
 qB 5 .eql 4 0,
 qm 6 5,
 qft 7 6 1 1,
 qlt 8 6 7,
 .rt 9 6 (.bin .eql false (.t 8) (qI 0)),
 qp 10 6 9,
 qm 11 10,
 qft 12 11 2 1,
 qlt 13 11 12,
 .rt 14 11 (.bin .eql false (.t 13) (qI 0)),
 qp 15 11 14,
 qm 16 15,
 qft 17 16 3 1,
 qlt 18 16 17,
 .rt 19 16 (.bin .eql false (.t 18) (qI 0)),
 qp 20 16 19,
 qm 21 20,
 qft 22 21 4 1,
 qlt 23 21 22,
 .rt 24 21 (.bin .eql false (.t 23) (qI 0)),
 qp 25 21 24,
 qm 26 25,
 qft 27 26 5 1,
 qlt 28 26 27,
 .rt 29 26 (.lenL (.t 28)),
 .rt 30 26 (.bin .eql false (.t 29) (qI 0)),
 qp 31 26 30,
 qm 2 31])
 .ret))
def YW:List (Nat×List Nat):=qy kU
theorem YX:FnIR Tryz.prog jH 32 YW kU [(.tmp 2)]:=
 qF Tryz.func122
def JG:RC:=
 (.seq
 (.reg 0 none [1,2,3] [
 .r 3 (.box (.t 0)),
 qi 6 0,
 qi 7 0,
 qc 8 false])
 (.seq
 (.block 0
 (.seq
 (.reg 1 none [1,2,3,12] [
 qm 13 1,
 qB 14 .eql 13 0,
 qm 12 14])
 (qq 12
 (.seq
 (.reg 2 (some [0,1,0,4,0,16,3,79,255]) [6,7,8] [
 qf 15 3 3,
 ql 16 15,
 qf 17 4 3,
 ql 18 17,
 qm 19 2,
 qB 20 .eql 19 0,
 qm 6 16,
 qm 7 18,
 qm 8 20])
 .ret)
 (.seq
 (.reg 3 none [1,2,3,21] [
 qm 22 2,
 .r 23 (.bin .lss false (.t 22) (.k (.v (.int .i64 (-2000000))))),
 qm 24 23,
 qmf 25 24 2,
 .rf 26 24 (.bin .gtr false (.t 25) (qI 1000000)),
 qP 27 24 26,
 qm 21 27])
 (qq 21
 (.seq
 (.reg 4 none [6,7,8] [
 qi 6 0,
 qi 7 0,
 qc 8 false])
 .ret)
 .skip)))))
 (.seq
 (.reg 5 none [2,3,9] [
 qL 28 7 3,
 qm 29 1,
 qC 30 kZ [.t 28,.t 29],
 qm 9 30])
 (.seq
 (.reg 6 (some [0,0,2,7,0,0,48,112,0,256,1008,15,4095]) [2,9,10,11] [
 qm 31 2,
 qf 32 3 3,
 ql 33 32,
 .r 34 (.mx [.t 31,.t 33]),
 qm 35 2,
 qm 36 9,
 qb 37 .add 35 36,
 qB 38 .sub 37 1,
 qf 39 4 3,
 ql 40 39,
 .r 41 (.mn [.t 38,.t 40]),
 qm 10 34,
 qm 11 41])
 (.seq
 (.reg 7 none [6,7,8] [
 qm 42 10,
 qm 43 11,
 qm 44 2,
 qm 45 9,
 qC 46 kF [.t 44,.t 45],
 qm 47 2,
 qb 48 .eql 46 47,
 qm 49 48,
 qmt 50 49 10,
 qmt 51 49 11,
 .rt 52 49 (.bin .leq false (.t 50) (.t 51)),
 qp 53 49 52,
 qm 6 42,
 qm 7 43,
 qm 8 53])
 .ret)))))
def qL3:List (Nat×List Nat):=qy JG
theorem qL4:FnIR Tryz.prog KD 54 qL3 JG [(.tmp 6),(.tmp 7),(.tmp 8)]:=
 qF Tryz.func123
def qd1:RC:=
 (.seq
 (.reg 0 none [1,2] [
 .r 2 (.box (.t 0)),
 .r 4 (.mv (qN))])
 (.seq
 (.seq
 (.reg 1 none [1,2,10] [
 qL 8 2 2,
 qC 9 kD [.t 8],
 qB 10 .neq 9 0])
 (qq 10
 (.seq
 (.reg 2 none [4] [
 .r 4 (.mv (qN))])
 .ret)
 .skip))
 (.seq
 (.reg 3 none [1,2,5] [
 .r 5 (.mv (qN))])
 (.seq
 (.seq
 (.reg 4 none [1,5,12,13,14] [
 qL 11 2 2,
 qC 12 ji [.t 11],
 qn 13 12,
 qi 14 0])
 (.block 0
 (.loop
 (.seq
 (.reg 5 none [1,5,12,13,14,15] [
 qb 15 .lss 14 13])
 (.seq
 (qq 15
 .skip
 (.exit 0))
 (.seq
 (.block 1
 (.seq
 (.reg 6 none [1,5,6,7,12,13,14] [
 qm 16 14,
 qx 17 1 12 14,
 ql 18 17,
 qm 6 16,
 qm 7 18])
 (.seq
 (.reg 7 none [1,5,6,12,13,14,21] [
 qm 19 7,
 qm 20 1,
 qb 21 .eql 19 20])
 (qq 21
 (.reg 8 none [1,5,12,13,14] [
 qm 22 5,
 qm 23 6,
 .r 24 (.bsl 1 1 [.t 23]),
 .r 25 (.app 1 8 false (.t 22) (.t 24)),
 qm 5 25])
 .skip))))
 (.reg 9 none [1,5,12,13,14] [
 qa 26 14,
 qm 14 26])))))))
 (.seq
 (.reg 10 none [4] [
 qm 27 5,
 qm 4 27])
 .ret)))))
def zo0:List (Nat×List Nat):=qy qd1
theorem zo1:FnIR Tryz.prog JY 28 zo0 qd1 [(.tmp 4)]:=
 qF Tryz.func124
def ZG:RC:=
 (.seq
 (.reg 0 none [1] [
 .r 1 (.box (.t 0)),
 qi 2 0])
 (.seq
 (.seq
 (.reg 1 none [1,5] [
 qL 3 2 1,
 qC 4 kD [.t 3],
 qB 5 .neq 4 0])
 (qq 5
 (.seq
 (.reg 2 none [2] [
 .r 2 (.mv (.k (.v (.int .i64 (-1)))))])
 .ret)
 .skip))
 (.seq
 (.reg 3 none [2] [
 qL 6 2 1,
 qC 7 ji [.t 6],
 qC 8 Qy [.t 7],
 qa 9 8,
 qm 2 9])
 .ret)))
def qD4:List (Nat×List Nat):=qy ZG
theorem qD5:FnIR Tryz.prog kY 10 qD4 ZG [(.tmp 2)]:=
 qF Tryz.func125
def qd2:RC:=
 (.seq
 (.reg 0 none [1,2,3] [
 .r 3 (.box (.t 0)),
 qi 6 0])
 (.seq
 (.seq
 (.reg 1 none [1,2,3,15] [
 qL 8 2 3,
 qm 9 1,
 qC 10 Zq [.t 8,.t 9],
 .r 11 (.un .not (.t 10)),
 qm 12 11,
 qmf 13 12 2,
 .rf 14 12 (.bin .lss false (.t 13) (qI 0)),
 qP 15 12 14])
 (qq 15
 (.seq
 (.reg 2 none [6] [
 .r 6 (.mv (.k (.v (.int .i64 (-1)))))])
 .ret)
 .skip))
 (.seq
 (.seq
 (.reg 3 none [1,2,3,7] [
 qL 16 2 3,
 qC 17 ji [.t 16],
 qm 18 1,
 qx 19 1 17 18,
 ql 20 19,
 qm 7 20])
 (.block 0
 (.loop
 (.seq
 (.seq
 (.reg 4 none [1,2,3,7,23] [
 qm 21 7,
 qm 22 2,
 qb 23 .geq 21 22])
 (qq 23
 .skip
 (.exit 0)))
 (.seq
 (.block 1
 (.seq
 (.seq
 (.reg 6 none [1,2,3,7,28] [
 qm 26 7,
 qm 27 2,
 qb 28 .eql 26 27])
 (qq 28
 (.seq
 (.reg 7 none [6] [
 qm 29 1,
 qm 6 29])
 .ret)
 .skip))
 (.reg 8 none [1,2,3,7] [
 qf 30 1 3,
 ql 31 30,
 qm 32 1,
 qx 33 2 31 32,
 qf 34 1 33,
 ql 35 34,
 qm 1 35])))
 (.reg 5 none [1,2,3,7] [
 qm 24 7,
 qB 25 .sub 24 1,
 qm 7 25]))))))
 (.seq
 (.reg 9 none [6] [
 .r 6 (.mv (.k (.v (.int .i64 (-1)))))])
 .ret))))
def zo2:List (Nat×List Nat):=qy qd2
theorem zo3:FnIR Tryz.prog Zi 36 zo2 qd2 [(.tmp 6)]:=
 qF Tryz.func126
def JH:RC:=
 (.seq
 (.reg 0 none [3,4,5] [
 .r 3 (.box (.t 0)),
 .r 4 (.box (.t 1)),
 .r 5 (.box (.t 2)),
 qc 6 false])
 (.seq
 (.seq
 (.reg 1 none [3,4,5,9] [
 qf 8 1 4,
 ql 9 8])
 (.block 0
 (.seq
 (.reg 2 none [3,4,5,9,10] [
 qB 11 .eql 9 1,
 qm 10 11])
 (qq 10
 (.seq
 (.reg 3 none [6] [
 ql 12 5,
 qB 13 .geq 12 1,
 qm 14 13,
 qlt 15 14 5,
 .rt 16 14 (.bin .leq false (.t 15) (qI 1048575)),
 qp 17 14 16,
 qm 6 17])
 .ret)
 (.seq
 (.reg 4 none [3,4,5,18] [
 qB 19 .eql 9 2,
 qm 18 19])
 (qq 18
 (.seq
 (.reg 5 none [5,7] [
 qf 20 0 3,
 ql 21 20,
 qf 22 2 4,
 ql 23 22,
 qx 24 2 21 23,
 qf 25 1 24,
 ql 26 25,
 qm 7 26])
 (.seq
 (.reg 6 none [6] [
 ql 27 5,
 qB 28 .geq 27 0,
 qm 29 28,
 qlt 30 29 5,
 qmt 31 29 7,
 .rt 32 29 (.lenL (.t 31)),
 .rt 33 29 (.bin .lss false (.t 30) (.t 32)),
 qp 34 29 33,
 qm 35 34,
 qmt 36 35 7,
 .rt 37 35 (.mf ya [.t 5]),
 .rt 38 35 (.call (.k (.clo zX [])) [.t 36,.t 37]),
 .rt 39 35 (.un .not (.t 38)),
 qp 40 35 39,
 qm 6 40])
 .ret))
 .skip))))))
 (.seq
 (.reg 7 none [6] [
 ql 41 5,
 qf 42 3 4,
 ql 43 42,
 qb 44 .geq 41 43,
 qm 45 44,
 qlt 46 45 5,
 qft 47 45 4 4,
 qlt 48 45 47,
 .rt 49 45 (.bin .leq false (.t 46) (.t 48)),
 qp 50 45 49,
 qm 51 50,
 qff 52 51 6 4,
 qlf 53 51 52,
 qmf 54 51 53,
 qlt 55 54 5,
 .rt 56 54 (.bin .eql false (.t 55) (.k (.v (.int .i64 (-1099511627776))))),
 .rf 57 51 (.pick (.t 54) (.t 56) (.k (.v (.bool false)))),
 qP 58 51 57,
 qm 6 58])
 .ret)))
def qL5:List (Nat×List Nat):=qy JH
theorem qL6:FnIR Tryz.prog KE 59 qL5 JH [(.tmp 6)]:=
 qF Tryz.func127
def JI:RC:=
 (.seq
 (.reg 0 none [0,1] [
 qi 4 0])
 (.seq
 (.reg 1 none [0,1,5] [
 qm 6 0,
 qm 7 1,
 qb 8 .rem 6 7,
 qm 5 8])
 (.seq
 (.seq
 (.reg 2 none [0,1,5,10] [
 qm 9 5,
 qB 10 .lss 9 0])
 (qq 10
 (.reg 3 none [0,5] [
 qm 11 5,
 qm 12 1,
 qb 13 .add 11 12,
 qm 5 13])
 .skip))
 (.seq
 (.reg 4 none [4] [
 qm 14 0,
 qm 15 5,
 qb 16 .sub 14 15,
 qm 4 16])
 .ret))))
def qL7:List (Nat×List Nat):=qy JI
theorem qL8:FnIR Tryz.prog kF 17 qL7 JI [(.tmp 4)]:=
 qF Tryz.func128
def ZH:RC:=
 (.seq
 (.reg 0 none [1,2] [
 .r 2 (.box (.t 0)),
 qi 4 0])
 (.seq
 (.reg 1 none [4] [
 qf 5 5 2,
 ql 6 5,
 qf 7 5 2,
 ql 8 7,
 qn 9 8,
 qm 10 1,
 qb 11 .sub 9 10,
 qx 12 1 6 11,
 ql 13 12,
 qm 4 13])
 .ret))
def qD6:List (Nat×List Nat):=qy ZH
theorem qD7:FnIR Tryz.prog kZ 14 qD6 ZH [(.tmp 4)]:=
 qF Tryz.func129
def yo:RC:=
 (.seq
 (.reg 0 none [0] [
 qi 2 0])
 (.seq
 (.seq
 (.reg 1 none [3] [
 qm 3 0])
 (qq 3
 (.seq
 (.reg 2 none [2] [
 qi 2 1])
 .ret)
 .skip))
 (.seq
 (.reg 3 none [2] [
 .r 2 (.mv (.k (.v (.int .i64 (-1)))))])
 .ret)))
def qj6:List (Nat×List Nat):=qy yo
theorem qj7:FnIR Tryz.prog js 4 qj6 yo [(.tmp 2)]:=
 qF Tryz.func130
def JJ:RC:=
 (.seq
 (.reg 0 none [1,2,3] [
 .r 3 (.box (.t 0)),
 qc 6 false])
 (.seq
 (.seq
 (.reg 1 none [1,2,3,16] [
 qL 7 2 3,
 qm 8 1,
 qC 9 Zq [.t 7,.t 8],
 .r 10 (.un .not (.t 9)),
 qm 11 10,
 .rf 12 11 (.ld (some 2) (.t 3)),
 qmf 13 11 2,
 .rf 14 11 (.call (.k (.clo Zq [])) [.t 12,.t 13]),
 .rf 15 11 (.un .not (.t 14)),
 qP 16 11 15])
 (qq 16
 (.seq
 (.reg 2 none [6] [
 qc 6 false])
 .ret)
 .skip))
 (.seq
 (.reg 3 (some [0,0,0,4,0,28,60,127,0,511,1023]) [6] [
 qL 17 2 3,
 qm 18 1,
 qL 19 2 3,
 qC 20 ji [.t 19],
 qm 21 2,
 qx 22 1 20 21,
 ql 23 22,
 qC 24 Zi [.t 17,.t 18,.t 23],
 qm 25 2,
 qb 26 .eql 24 25,
 qm 6 26])
 .ret)))
def qL9:List (Nat×List Nat):=qy JJ
theorem qM0:FnIR Tryz.prog KG 27 qL9 JJ [(.tmp 6)]:=
 qF Tryz.func131
def ZI:RC:=
 (.seq
 (.reg 0 none [1,2] [
 .r 2 (.box (.t 0)),
 qi 4 0])
 (.seq
 (.reg 1 none [1,2,5] [
 qf 8 1 2,
 ql 9 8,
 qm 10 1,
 qx 11 7 9 10,
 qL 12 7 11,
 .r 5 (.new (.agg [.v (.string ⟨#[]⟩),.v (.int .i64 0),.v (.int .i64 0),.v (.int .i64 0),.v (.int .i64 0),.v (.slice none 0 0),.v (.bool false)])),
 qs 7 5 12])
 (.seq
 (.seq
 (.reg 2 none [1,2,5,16] [
 qf 13 0 5,
 ql 14 13,
 qC 15 Qo [.t 14],
 .r 16 (.un .not (.t 15))])
 (qq 16
 (.seq
 (.reg 3 none [4] [
 qi 4 3])
 .ret)
 .skip))
 (.seq
 (.seq
 (.reg 4 none [1,2,5,6] [
 qi 6 0])
 (.block 0
 (.loop
 (.seq
 (.seq
 (.reg 5 none [1,2,5,6,19] [
 qm 17 6,
 qm 18 1,
 qb 19 .lss 17 18])
 (qq 19
 .skip
 (.exit 0)))
 (.seq
 (.block 1
 (.seq
 (.reg 7 (some [0,1,0,7,15,31,0,64,255]) [1,2,5,6,30] [
 qf 22 1 2,
 ql 23 22,
 qm 24 6,
 qx 25 7 23 24,
 qf 26 0 25,
 ql 27 26,
 qf 28 0 5,
 ql 29 28,
 qb 30 .eql 27 29])
 (qq 30
 (.seq
 (.reg 8 none [4] [
 qi 4 10])
 .ret)
 .skip)))
 (.reg 6 none [1,2,5,6] [
 qm 20 6,
 qa 21 20,
 qm 6 21]))))))
 (.seq
 (.seq
 (.reg 9 none [2,5,43] [
 qf 31 1 5,
 ql 32 31,
 qC 33 zD [.t 32,qI 1,qI 3],
 .r 34 (.un .not (.t 33)),
 qm 35 34,
 qmf 36 35 1,
 .rf 37 35 (.bin .gtr false (.t 36) (qI 0)),
 qmf 38 35 37,
 qft 39 38 1 5,
 qlt 40 38 39,
 .rt 41 38 (.bin .eql false (.t 40) (qI 1)),
 .rf 42 35 (.pick (.t 38) (.t 41) (.k (.v (.bool false)))),
 qP 43 35 42])
 (qq 43
 (.seq
 (.reg 10 none [4] [
 qi 4 4])
 .ret)
 .skip))
 (.seq
 (.seq
 (.reg 11 none [5,56] [
 qf 44 1 5,
 ql 45 44,
 qB 46 .eql 45 2,
 qm 47 46,
 qft 48 47 2 5,
 qlt 49 47 48,
 qft 50 47 0 2,
 qlt 51 47 50,
 .rt 52 47 (.lenL (.t 51)),
 .rt 53 47 (.bin .sub false (.t 52) (qI 1)),
 .rt 54 47 (.call (.k (.clo zD [])) [.t 49,qI 0,.t 53]),
 .rt 55 47 (.un .not (.t 54)),
 qp 56 47 55])
 (qq 56
 (.seq
 (.reg 12 none [4] [
 qi 4 5])
 .ret)
 .skip))
 (.seq
 (.seq
 (.reg 13 none [5,59] [
 qf 57 1 5,
 ql 58 57,
 qB 59 .eql 58 3])
 (qq 59
 (.seq
 (.reg 14 none [5,7] [
 qL 60 7 5,
 qC 61 Zr [.t 60],
 qm 7 61])
 (.seq
 (.reg 15 none [5,7,63] [
 qm 62 7,
 qB 63 .neq 62 0])
 (qq 63
 (.seq
 (.reg 16 none [4] [
 qm 64 7,
 qm 4 64])
 .ret)
 .skip)))
 .skip))
 (.seq
 (.seq
 (.reg 17 none [97] [
 qf 65 1 5,
 ql 66 65,
 qB 67 .neq 66 2,
 qm 68 67,
 qft 69 68 2 5,
 qlt 70 68 69,
 .rt 71 68 (.bin .neq false (.t 70) (qI 0)),
 qp 72 68 71,
 qm 73 72,
 qff 74 73 1 5,
 qlf 75 73 74,
 .rf 76 73 (.bin .neq false (.t 75) (qI 3)),
 qmf 77 73 76,
 qft 78 77 3 5,
 qlt 79 77 78,
 .rt 80 77 (.bin .neq false (.t 79) (qI 0)),
 qmt 81 77 80,
 qff 82 81 4 5,
 qlf 83 81 82,
 .rf 84 81 (.bin .neq false (.t 83) (qI 0)),
 .rt 85 77 (.pick (.t 81) (.k (.v (.bool true))) (.t 84)),
 qmt 86 77 85,
 qff 87 86 5 5,
 qlf 88 86 87,
 .rf 89 86 (.lenL (.t 88)),
 .rf 90 86 (.bin .gtr false (.t 89) (qI 0)),
 .rt 91 77 (.pick (.t 86) (.k (.v (.bool true))) (.t 90)),
 qmt 92 77 91,
 qff 93 92 6 5,
 qlf 94 92 93,
 .rt 95 77 (.pick (.t 92) (.k (.v (.bool true))) (.t 94)),
 .rf 96 73 (.pick (.t 77) (.t 95) (.k (.v (.bool false)))),
 qP 97 73 96])
 (qq 97
 (.seq
 (.reg 18 none [4] [
 qi 4 11])
 .ret)
 .skip))
 (.seq
 (.reg 19 none [4] [
 qi 4 0])
 .ret)))))))))
def qD8:List (Nat×List Nat):=qy ZI
theorem qD9:FnIR Tryz.prog Jk 98 qD8 ZI [(.tmp 4)]:=
 qF Tryz.func132
def wC:RC:=
 (.seq
 (.reg 0 none [0,1] [
 qi 4 0])
 (.seq
 (.seq
 (.reg 1 none [0,1,7,8] [
 qm 6 0,
 qn 7 6,
 qi 8 0])
 (.block 0
 (.loop
 (.seq
 (.reg 2 none [0,1,7,8,9] [
 qb 9 .lss 8 7])
 (.seq
 (qq 9
 .skip
 (.exit 0))
 (.seq
 (.block 1
 (.seq
 (.reg 3 none [0,1,5,7,8] [
 qm 10 8,
 qm 5 10])
 (.seq
 (.reg 4 none [0,1,5,7,8,16] [
 qm 11 1,
 qm 12 0,
 qm 13 5,
 qx 14 1 12 13,
 ql 15 14,
 qb 16 .eql 11 15])
 (qq 16
 (.seq
 (.reg 5 none [4] [
 qm 17 5,
 qm 4 17])
 .ret)
 .skip))))
 (.reg 6 none [0,1,7,8] [
 qa 18 8,
 qm 8 18])))))))
 (.seq
 (.reg 7 none [4] [
 .r 4 (.mv (.k (.v (.int .i64 (-1)))))])
 .ret)))
def qd3:List (Nat×List Nat):=qy wC
theorem qd4:FnIR Tryz.prog wZ 19 qd3 wC [(.tmp 4)]:=
 qF Tryz.func137
def yp:RC:=
 (.seq
 (.reg 0 none [1,2] [
 .r 2 (.box (.t 0)),
 qi 4 0])
 (.seq
 (.reg 1 none [4] [
 qf 5 5 2,
 ql 6 5,
 qf 7 5 2,
 ql 8 7,
 qn 9 8,
 qm 10 1,
 qb 11 .sub 9 10,
 qx 12 1 6 11,
 ql 13 12,
 qm 4 13])
 .ret))
def qj8:List (Nat×List Nat):=qy yp
theorem qj9:FnIR Tryz.prog yI 14 qj8 yp [(.tmp 4)]:=
 qF Tryz.func138
def yS:RC:=
 (.seq
 (.reg 0 none [0,1] [
 qi 4 0])
 (.seq
 (.reg 1 none [0,1,5] [
 qm 6 0,
 qm 7 1,
 qb 8 .rem 6 7,
 qm 5 8])
 (.seq
 (.seq
 (.reg 2 none [0,1,5,10] [
 qm 9 5,
 qB 10 .lss 9 0])
 (qq 10
 (.reg 3 none [0,5] [
 qm 11 5,
 qm 12 1,
 qb 13 .add 11 12,
 qm 5 13])
 .skip))
 (.seq
 (.reg 4 none [4] [
 qm 14 0,
 qm 15 5,
 qb 16 .sub 14 15,
 qm 4 16])
 .ret))))
def qp3:List (Nat×List Nat):=qy yS
theorem qp4:FnIR Tryz.prog wt 17 qp3 yS [(.tmp 4)]:=
 qF Tryz.func139
def jw:RC:=
 (.seq
 (.reg 0 none [0,1] [
 qi 4 0])
 (.seq
 (.seq
 (.reg 1 none [0,1,7,8] [
 qm 6 0,
 qn 7 6,
 qi 8 0])
 (.block 0
 (.loop
 (.seq
 (.reg 2 none [0,1,7,8,9] [
 qb 9 .lss 8 7])
 (.seq
 (qq 9
 .skip
 (.exit 0))
 (.seq
 (.block 1
 (.seq
 (.reg 3 none [0,1,5,7,8] [
 qm 10 8,
 qm 5 10])
 (.seq
 (.reg 4 none [0,1,5,7,8,16] [
 qm 11 1,
 qm 12 0,
 qm 13 5,
 qx 14 2 12 13,
 qL 15 2 14,
 .r 16 (.call (.t 11) [.t 15])])
 (qq 16
 (.seq
 (.reg 5 none [4] [
 qm 17 5,
 qm 4 17])
 .ret)
 .skip))))
 (.reg 6 none [0,1,7,8] [
 qa 18 8,
 qm 8 18])))))))
 (.seq
 (.reg 7 none [4] [
 .r 4 (.mv (.k (.v (.int .i64 (-1)))))])
 .ret)))
def Kc:List (Nat×List Nat):=qy jw
theorem Kd:FnIR Tryz.prog jI 19 Kc jw [(.tmp 4)]:=
 qF Tryz.func140
def KS:RC:=
 (.seq
 (.reg 0 none [1,2] [
 .r 2 (.box (.t 0)),
 qc 4 false])
 (.seq
 (.seq
 (.reg 1 none [1,2,5] [
 qi 5 0])
 (.block 0
 (.loop
 (.seq
 (.seq
 (.reg 2 none [1,2,5,10] [
 qm 6 5,
 qf 7 1 2,
 ql 8 7,
 qn 9 8,
 qb 10 .lss 6 9])
 (qq 10
 .skip
 (.exit 0)))
 (.seq
 (.block 1
 (.seq
 (.reg 4 none [1,2,5,20] [
 qf 13 1 2,
 ql 14 13,
 qm 15 5,
 qx 16 2 14 15,
 qf 17 1 16,
 ql 18 17,
 qm 19 1,
 qb 20 .eql 18 19])
 (qq 20
 (.seq
 (.reg 5 none [4] [
 qc 4 false])
 .ret)
 .skip)))
 (.reg 3 none [1,2,5] [
 qm 11 5,
 qa 12 11,
 qm 5 12]))))))
 (.seq
 (.reg 6 none [4] [
 qc 4 true])
 .ret)))
def qV4:List (Nat×List Nat):=qy KS
theorem qV5:FnIR Tryz.prog WU 21 qV4 KS [(.tmp 4)]:=
 qF Tryz.func141
def ZJ:RC:=
 (.seq
 (.reg 0 none [1,2,3] [
 .r 3 (.box (.t 0)),
 qc 6 false])
 (.seq
 (.reg 1 none [6] [
 qm 7 1,
 qB 8 .geq 7 0,
 qm 9 8,
 qmt 10 9 1,
 qft 11 9 1 3,
 qlt 12 9 11,
 .rt 13 9 (.lenL (.t 12)),
 .rt 14 9 (.bin .lss false (.t 10) (.t 13)),
 qp 15 9 14,
 qm 16 15,
 qft 17 16 1 3,
 qlt 18 16 17,
 qmt 19 16 1,
 .rt 20 16 (.ixL 7 (.t 18) (.t 19)),
 qft 21 16 1 20,
 qlt 22 16 21,
 qmt 23 16 2,
 .rt 24 16 (.bin .eql false (.t 22) (.t 23)),
 qp 25 16 24,
 qm 6 25])
 .ret))
def zo4:List (Nat×List Nat):=qy ZJ
theorem qd5:FnIR Tryz.prog JZ 26 zo4 ZJ [(.tmp 6)]:=
 qF Tryz.func142
def jk:RC:=
 (.seq
 (.reg 0 none [0] [
 .r 2 (.mv (.k (.v (.string ⟨#[]⟩))))])
 (.seq
 (.seq
 (.reg 1 none [0,4] [
 qm 3 0,
 qB 4 .lss 3 10])
 (qq 4
 (.seq
 (.reg 2 none [2] [
 qm 5 0,
 qm 6 0,
 qa 7 6,
 .r 8 (.slS (.k (.v (.string ⟨#[48,49,50,51,52,53,54,55,56,57,97,98,99,100,101,102,103,104,105,106,107,108,109,110,111,112,113,114,115,116,117,118,119,120,121,122]⟩))) (some (.t 5)) (some (.t 7))),
 qm 2 8])
 .ret)
 .skip))
 (.seq
 (.reg 3 none [2] [
 qm 9 0,
 qB 10 .mul 9 2,
 qm 11 0,
 qB 12 .mul 11 2,
 qB 13 .add 12 2,
 .r 14 (.slS (.k (.v (.string ⟨#[48,48,48,49,48,50,48,51,48,52,48,53,48,54,48,55,48,56,48,57,49,48,49,49,49,50,49,51,49,52,49,53,49,54,49,55,49,56,49,57,50,48,50,49,50,50,50,51,50,52,50,53,50,54,50,55,50,56,50,57,51,48,51,49,51,50,51,51,51,52,51,53,51,54,51,55,51,56,51,57,52,48,52,49,52,50,52,51,52,52,52,53,52,54,52,55,52,56,52,57,53,48,53,49,53,50,53,51,53,52,53,53,53,54,53,55,53,56,53,57,54,48,54,49,54,50,54,51,54,52,54,53,54,54,54,55,54,56,54,57,55,48,55,49,55,50,55,51,55,52,55,53,55,54,55,55,55,56,55,57,56,48,56,49,56,50,56,51,56,52,56,53,56,54,56,55,56,56,56,57,57,48,57,49,57,50,57,51,57,52,57,53,57,54,57,55,57,56,57,57]⟩))) (some (.t 10)) (some (.t 13))),
 qm 2 14])
 .ret)))
def JK:List (Nat×List Nat):=qy jk
theorem JL:FnIR Tryz.prog jt 15 JK jk [(.tmp 2)]:=
 qF Tryz.func143
def ZK:RC:=
 (.seq
 (.reg 0 none [1] [
 .r 1 (.box (.t 0)),
 .r 2 (.mv (qN))])
 (.seq
 (.reg 1 none [1,3] [
 qf 6 1 1,
 ql 7 6,
 qn 8 7,
 .r 9 (.mk 1 8 (.v (.int .i64 0)) (.t 8) (.t 8)),
 qm 3 9])
 (.seq
 (.seq
 (.reg 2 none [3,11,12,13] [
 qf 10 1 1,
 ql 11 10,
 qn 12 11,
 qi 13 0])
 (.block 0
 (.loop
 (.seq
 (.reg 3 none [3,11,12,13,14] [
 qb 14 .lss 13 12])
 (.seq
 (qq 14
 .skip
 (.exit 0))
 (.seq
 (.block 1
 (.seq
 (.reg 4 none [3,4,5,11,12,13] [
 qm 15 13,
 qx 16 2 11 13,
 qL 17 2 16,
 .r 5 (.new (.agg [.v (.string ⟨#[]⟩),.v (.int .i64 0)])),
 qm 4 15,
 qs 2 5 17])
 (.seq
 (.reg 5 none [3,4,5,11,12,13,19] [
 qm 18 4,
 qB 19 .gtr 18 0])
 (qq 19
 (.reg 6 none [3,11,12,13] [
 qm 20 3,
 qm 21 4,
 qm 22 3,
 qf 23 1 5,
 ql 24 23,
 qx 25 1 22 24,
 ql 26 25,
 qa 27 26,
 qx 28 1 20 21,
 qs 1 28 27])
 .skip))))
 (.reg 7 none [3,11,12,13] [
 qa 29 13,
 qm 13 29])))))))
 (.seq
 (.reg 8 none [2] [
 qm 30 3,
 qm 2 30])
 .ret))))
def qE0:List (Nat×List Nat):=qy ZK
theorem qE1:FnIR Tryz.prog ji 31 qE0 ZK [(.tmp 2)]:=
 qF Tryz.func147
def zM:RC:=
 (.seq
 (.reg 0 none [0,1] [
 qi 4 0])
 (.seq
 (.seq
 (.reg 1 none [0,1,7,8] [
 qm 6 0,
 qn 7 6,
 qi 8 0])
 (.block 0
 (.loop
 (.seq
 (.reg 2 none [0,1,7,8,9] [
 qb 9 .lss 8 7])
 (.seq
 (qq 9
 .skip
 (.exit 0))
 (.seq
 (.block 1
 (.seq
 (.reg 3 none [0,1,5,7,8] [
 qm 10 8,
 qm 5 10])
 (.seq
 (.reg 4 none [0,1,5,7,8,16] [
 qm 11 1,
 qm 12 0,
 qm 13 5,
 qx 14 2 12 13,
 qL 15 2 14,
 .r 16 (.call (.t 11) [.t 15])])
 (qq 16
 (.seq
 (.reg 5 none [4] [
 qm 17 5,
 qm 4 17])
 .ret)
 .skip))))
 (.reg 6 none [0,1,7,8] [
 qa 18 8,
 qm 8 18])))))))
 (.seq
 (.reg 7 none [4] [
 .r 4 (.mv (.k (.v (.int .i64 (-1)))))])
 .ret)))
def Za:List (Nat×List Nat):=qy zM
theorem Zb:FnIR Tryz.prog zQ 19 Za zM [(.tmp 4)]:=
 qF Tryz.func148
def zG:RC:=
 (.seq
 (.reg 0 none [0,1] [
 qc 4 false])
 (.seq
 (.reg 1 none [4] [
 qm 5 0,
 qm 6 1,
 qC 7 jj [.t 5,.t 6],
 qB 8 .geq 7 0,
 qm 4 8])
 .ret))
def QI:List (Nat×List Nat):=qy zG
theorem QJ:FnIR Tryz.prog zL 9 QI zG [(.tmp 4)]:=
 qF Tryz.func149
def jM:RC:=
 (.seq
 (.reg 0 none [1,2] [
 .r 2 (.box (.t 0)),
 qc 3 false])
 (.seq
 (.reg 1 none [3] [
 qf 4 0 2,
 ql 5 4,
 qf 6 0 1,
 ql 7 6,
 qb 8 .eql 5 7,
 qm 3 8])
 .ret))
def KT:List (Nat×List Nat):=qy jM
theorem KU:FnIR Tryz.prog zW 9 KT jM [(.tmp 3)]:=
 qF Tryz.func150
def jZ:RC:=
 (.seq
 (.reg 0 none [1] [
 .r 1 (.box (.t 0)),
 qi 2 0])
 (.seq
 (.block 0
 (.seq
 (.reg 1 none [1,6] [
 qf 7 3 1,
 ql 8 7,
 .r 9 (.bin .lss false (.t 8) (.k (.v (.int .i64 (-1000000))))),
 qm 10 9,
 qff 11 10 4 1,
 qlf 12 10 11,
 .rf 13 10 (.bin .gtr false (.t 12) (qI 1000000)),
 qP 14 10 13,
 qm 15 14,
 qff 16 15 3 1,
 qlf 17 15 16,
 qff 18 15 4 1,
 qlf 19 15 18,
 .rf 20 15 (.bin .gtr false (.t 17) (.t 19)),
 qP 21 15 20,
 qm 6 21])
 (qq 6
 (.seq
 (.reg 2 none [2] [
 qi 2 2])
 .ret)
 (.seq
 (.reg 3 none [1,22] [
 qf 23 5 1,
 ql 24 23,
 qn 25 24,
 qB 26 .eql 25 0,
 qm 27 26,
 qff 28 27 5 1,
 qlf 29 27 28,
 .rf 30 27 (.lenL (.t 29)),
 .rf 31 27 (.bin .gtr false (.t 30) (qI 4)),
 qP 32 27 31,
 qm 22 32])
 (qq 22
 (.seq
 (.reg 4 none [2] [
 qi 2 1])
 .ret)
 .skip)))))
 (.seq
 (.reg 5 none [1,3] [
 qi 3 1])
 (.seq
 (.seq
 (.reg 6 none [3,34,35,36] [
 qf 33 5 1,
 ql 34 33,
 qn 35 34,
 qi 36 0])
 (.block 1
 (.loop
 (.seq
 (.reg 7 none [3,34,35,36,37] [
 qb 37 .lss 36 35])
 (.seq
 (qq 37
 .skip
 (.exit 1))
 (.seq
 (.block 2
 (.seq
 (.reg 8 none [3,4,5,34,35,36] [
 qm 38 36,
 qx 39 1 34 36,
 ql 40 39,
 qm 4 38,
 qm 5 40])
 (.seq
 (.seq
 (.reg 9 none [5,34,35,36,65] [
 qm 41 4,
 qB 42 .eql 41 0,
 qm 43 42,
 qmt 44 43 5,
 .rt 45 43 (.bin .neq false (.t 44) (qI 1)),
 qp 46 43 45,
 qm 47 46,
 qmf 48 47 4,
 .rf 49 47 (.bin .gtr false (.t 48) (qI 0)),
 qmf 50 47 49,
 qmt 51 50 5,
 qmt 52 50 3,
 .rt 53 50 (.bin .leq false (.t 51) (.t 52)),
 qmt 54 50 53,
 qmf 55 54 5,
 qmf 56 54 3,
 .rf 57 54 (.bin .rem false (.t 55) (.t 56)),
 .rf 58 54 (.bin .neq false (.t 57) (qI 0)),
 .rt 59 50 (.pick (.t 54) (.k (.v (.bool true))) (.t 58)),
 qmt 60 50 59,
 qmf 61 60 5,
 .rf 62 60 (.bin .gtr false (.t 61) (qI 1000000)),
 .rt 63 50 (.pick (.t 60) (.k (.v (.bool true))) (.t 62)),
 .rf 64 47 (.pick (.t 50) (.t 63) (.k (.v (.bool false)))),
 qP 65 47 64])
 (qq 65
 (.seq
 (.reg 10 none [2] [
 qi 2 2])
 .ret)
 .skip))
 (.reg 11 none [3,34,35,36] [
 qm 66 5,
 qm 3 66]))))
 (.reg 12 none [3,34,35,36] [
 qa 67 36,
 qm 36 67])))))))
 (.seq
 (.reg 13 none [2] [
 qi 2 0])
 .ret)))))
def Wx:List (Nat×List Nat):=qy jZ
theorem Wy:FnIR Tryz.prog kh 68 Wx jZ [(.tmp 2)]:=
 qF Tryz.func151
def QK:RC:=
 (.seq
 (.reg 0 none [1] [
 .r 1 (.box (.t 0)),
 qc 2 false])
 (.seq
 (.seq
 (.reg 1 none [1,10] [
 qf 3 1 1,
 ql 4 3,
 qB 5 .neq 4 2,
 qm 6 5,
 qft 7 6 2 1,
 qlt 8 6 7,
 .rt 9 6 (.bin .neq false (.t 8) (qI 0)),
 qp 10 6 9])
 (qq 10
 (.seq
 (.reg 2 none [2] [
 qc 2 false])
 .ret)
 .skip))
 (.seq
 (.reg 3 none [2] [
 qf 11 1 1,
 ql 12 11,
 qB 13 .eql 12 3,
 qm 14 13,
 qff 15 14 3 1,
 qlf 16 14 15,
 .rf 17 14 (.bin .eql false (.t 16) (qI 0)),
 qmf 18 14 17,
 qft 19 18 4 1,
 qlt 20 18 19,
 .rt 21 18 (.bin .eql false (.t 20) (qI 0)),
 .rf 22 14 (.pick (.t 18) (.t 21) (.k (.v (.bool false)))),
 qmf 23 14 22,
 qft 24 23 5 1,
 qlt 25 23 24,
 .rt 26 23 (.lenL (.t 25)),
 .rt 27 23 (.bin .eql false (.t 26) (qI 0)),
 .rf 28 14 (.pick (.t 23) (.t 27) (.k (.v (.bool false)))),
 qmf 29 14 28,
 qft 30 29 6 1,
 qlt 31 29 30,
 .rt 32 29 (.un .not (.t 31)),
 .rf 33 14 (.pick (.t 29) (.t 32) (.k (.v (.bool false)))),
 qP 34 14 33,
 qm 2 34])
 .ret)))
def qv2:List (Nat×List Nat):=qy QK
theorem qv3:FnIR Tryz.prog Zp 35 qv2 QK [(.tmp 2)]:=
 qF Tryz.func152
def kv:RC:=
 (.seq
 (.reg 0 none [2,3] [
 .r 2 (.box (.t 0)),
 .r 3 (.box (.t 1)),
 qi 4 0])
 (.seq
 (.block 0
 (.seq
 (.reg 1 none [2,3,6] [
 qf 7 0 3,
 ql 8 7,
 qB 9 .lss 8 1,
 qm 10 9,
 qff 11 10 0 3,
 qlf 12 10 11,
 .rf 13 10 (.bin .gtr false (.t 12) (qI 7)),
 qP 14 10 13,
 qm 6 14])
 (qq 6
 (.seq
 (.reg 2 none [4] [
 qi 4 4])
 .ret)
 (.seq
 (.reg 3 (some [0,1,3,0,8,24,63,127,255,511,1023,2047,4095]) [2,3,15] [
 qf 16 5 3,
 ql 17 16,
 qn 18 17,
 qf 19 0 3,
 ql 20 19,
 qC 21 Qz [.t 20],
 qb 22 .neq 18 21,
 qm 23 22,
 .rf 24 23 (.ld (some 6) (.t 3)),
 .rf 25 23 (.call (.k (.clo yb [])) [.t 24]),
 .rf 26 23 (.un .not (.t 25)),
 qP 27 23 26,
 qm 15 27])
 (qq 15
 (.seq
 (.reg 4 none [4] [
 qi 4 11])
 .ret)
 (.seq
 (.reg 5 none [2,3,28] [
 qf 29 0 3,
 ql 30 29,
 qB 31 .neq 30 2,
 qm 32 31,
 qft 33 32 0 3,
 qlt 34 32 33,
 .rt 35 32 (.bin .neq false (.t 34) (qI 3)),
 qp 36 32 35,
 qm 37 36,
 qft 38 37 0 3,
 qlt 39 37 38,
 .rt 40 37 (.bin .neq false (.t 39) (qI 4)),
 qp 41 37 40,
 qm 28 41])
 (qq 28
 (.seq
 (.reg 6 none [4] [
 qi 4 0])
 .ret)
 (.seq
 (.reg 7 none [2,3,42] [
 qf 43 1 3,
 ql 44 43,
 qB 45 .lss 44 0,
 qm 46 45,
 qff 47 46 1 3,
 qlf 48 46 47,
 qff 49 46 1 2,
 qlf 50 46 49,
 .rf 51 46 (.lenL (.t 50)),
 .rf 52 46 (.bin .geq false (.t 48) (.t 51)),
 qP 53 46 52,
 qm 42 53])
 (qq 42
 (.seq
 (.reg 8 none [4] [
 qi 4 7])
 .ret)
 .skip)))))))))
 (.seq
 (.reg 9 none [2,3,5] [
 qf 54 1 2,
 ql 55 54,
 qf 56 1 3,
 ql 57 56,
 qx 58 7 55 57,
 qL 59 7 58,
 .r 5 (.new (.agg [.v (.string ⟨#[]⟩),.v (.int .i64 0),.v (.int .i64 0),.v (.int .i64 0),.v (.int .i64 0),.v (.slice none 0 0),.v (.bool false)])),
 qs 7 5 59])
 (.seq
 (.seq
 (.reg 10 none [2,3,5,61] [
 qf 60 0 3,
 ql 61 60])
 (.block 1
 (.seq
 (.reg 11 none [2,3,5,61,62] [
 qB 63 .eql 61 2,
 qm 62 63])
 (qq 62
 (.seq
 (.seq
 (.reg 12 none [2,3,5,66] [
 qf 64 1 5,
 ql 65 64,
 qB 66 .neq 65 2])
 (qq 66
 (.seq
 (.reg 13 none [4] [
 qi 4 7])
 .ret)
 .skip))
 (.seq
 (.reg 14 (some [0,1,3,7,15,31,15,79,15,271,975,1999,4047,8143,16383,32767]) [82] [
 qf 67 2 3,
 ql 68 67,
 qB 69 .lss 68 0,
 qm 70 69,
 qff 71 70 2 3,
 qlf 72 70 71,
 qff 73 70 0 2,
 qlf 74 70 73,
 qff 75 70 2 5,
 qlf 76 70 75,
 .rf 77 70 (.ixL 2 (.t 74) (.t 76)),
 qff 78 70 1 77,
 qlf 79 70 78,
 .rf 80 70 (.lenL (.t 79)),
 .rf 81 70 (.bin .geq false (.t 72) (.t 80)),
 qP 82 70 81])
 (qq 82
 (.seq
 (.reg 15 none [4] [
 qi 4 6])
 .ret)
 .skip)))
 (.seq
 (.reg 16 none [3,5,61,83] [
 qB 84 .eql 61 3,
 qm 83 84])
 (qq 83
 (.seq
 (.seq
 (.reg 17 none [3,87] [
 qf 85 1 5,
 ql 86 85,
 qB 87 .neq 86 3])
 (qq 87
 (.seq
 (.reg 18 none [4] [
 qi 4 7])
 .ret)
 .skip))
 (.seq
 (.reg 19 none [102] [
 qf 88 3 3,
 ql 89 88,
 qf 90 4 3,
 ql 91 90,
 qb 92 .gtr 89 91,
 qm 93 92,
 qff 94 93 3 3,
 qlf 95 93 94,
 .rf 96 93 (.bin .lss false (.t 95) (.k (.v (.int .i64 (-1000000))))),
 qP 97 93 96,
 qm 98 97,
 qff 99 98 4 3,
 qlf 100 98 99,
 .rf 101 98 (.bin .gtr false (.t 100) (qI 1000000)),
 qP 102 98 101])
 (qq 102
 (.seq
 (.reg 20 none [4] [
 qi 4 2])
 .ret)
 .skip)))
 (.seq
 (.reg 21 none [5,103] [
 qB 104 .eql 61 4,
 qm 103 104])
 (qq 103
 (.seq
 (.reg 22 none [112] [
 qf 105 1 5,
 ql 106 105,
 qB 107 .neq 106 3,
 qm 108 107,
 qff 109 108 6 5,
 qlf 110 108 109,
 .rf 111 108 (.un .not (.t 110)),
 qP 112 108 111])
 (qq 112
 (.seq
 (.reg 23 none [4] [
 qi 4 7])
 .ret)
 .skip))
 .skip))))))))
 (.seq
 (.reg 24 none [4] [
 qi 4 0])
 .ret)))))
def Yj:List (Nat×List Nat):=qy kv
theorem Yk:FnIR Tryz.prog kO 113 Yj kv [(.tmp 4)]:=
 qF Tryz.func153
def yT:RC:=
 (.seq
 (.reg 0 none [0] [
 qi 2 0])
 (.seq
 (.seq
 (.reg 1 none [0,7] [
 qm 5 0,
 qn 6 5,
 qB 7 .lss 6 1])
 (qq 7
 .stuck
 .skip))
 (.seq
 (.reg 3 none [0,3] [
 qm 9 0,
 .r 10 (.ixL 1 (.t 9) (qI 0)),
 ql 11 10,
 qm 3 11])
 (.seq
 (.seq
 (.reg 4 none [0,3,4] [
 qi 4 1])
 (.block 0
 (.loop
 (.seq
 (.seq
 (.reg 5 none [0,3,4,15] [
 qm 12 4,
 qm 13 0,
 qn 14 13,
 qb 15 .lss 12 14])
 (qq 15
 .skip
 (.exit 0)))
 (.seq
 (.block 1
 (.reg 7 none [0,3,4] [
 qm 18 3,
 qm 19 0,
 qm 20 4,
 qx 21 1 19 20,
 ql 22 21,
 .r 23 (.mx [.t 18,.t 22]),
 qm 3 23]))
 (.reg 6 none [0,3,4] [
 qm 16 4,
 qa 17 16,
 qm 4 17]))))))
 (.seq
 (.reg 8 none [2] [
 qm 24 3,
 qm 2 24])
 .ret)))))
def qp5:List (Nat×List Nat):=qy yT
theorem qp6:FnIR Tryz.prog Qy 25 qp5 yT [(.tmp 2)]:=
 qF Tryz.func154
def Yl:RC:=
 (.seq
 (.reg 0 none [1,2] [
 .r 2 (.box (.t 0)),
 qc 4 false])
 (.seq
 (.reg 1 none [4] [
 qm 5 1,
 qB 6 .geq 5 0,
 qm 7 6,
 qmt 8 7 1,
 qft 9 7 1 2,
 qlt 10 7 9,
 .rt 11 7 (.lenL (.t 10)),
 .rt 12 7 (.bin .lss false (.t 8) (.t 11)),
 qp 13 7 12,
 qm 14 13,
 .rt 15 14 (.ld (some 2) (.t 2)),
 .rt 16 14 (.call (.k (.clo kD [])) [.t 15]),
 .rt 17 14 (.bin .eql false (.t 16) (qI 0)),
 qp 18 14 17,
 qm 4 18])
 .ret))
def zh2:List (Nat×List Nat):=qy Yl
theorem zh3:FnIR Tryz.prog Zq 19 zh2 Yl [(.tmp 4)]:=
 qF Tryz.func155
def zT:RC:=
 (.seq
 (.reg 0 none [0,1] [
 qc 4 false])
 (.seq
 (.reg 1 none [4] [
 qm 5 0,
 qm 6 1,
 qC 7 jJ [.t 5,.t 6],
 qB 8 .geq 7 0,
 qm 4 8])
 .ret))
def ZL:List (Nat×List Nat):=qy zT
theorem ZM:FnIR Tryz.prog zX 9 ZL zT [(.tmp 4)]:=
 qF Tryz.func156
def QL:RC:=
 (.seq
 (.reg 0 none [1,2] [
 .r 2 (.box (.t 0)),
 qc 3 false])
 (.seq
 (.reg 1 none [3] [
 qf 4 1 2,
 ql 5 4,
 ql 6 1,
 qb 7 .eql 5 6,
 qm 3 7])
 .ret))
def qv4:List (Nat×List Nat):=qy QL
theorem qv5:FnIR Tryz.prog ya 8 qv4 QL [(.tmp 3)]:=
 qF Tryz.func157
def QM:RC:=
 (.seq
 (.reg 0 none [1] [
 .r 1 (.box (.t 0)),
 qi 2 0])
 (.seq
 (.seq
 (.reg 1 none [1,21] [
 qf 5 3 1,
 ql 6 5,
 qC 7 zD [.t 6,.k (.v (.int .i64 (-1000000))),qI 1000000],
 .r 8 (.un .not (.t 7)),
 qm 9 8,
 qff 10 9 4 1,
 qlf 11 9 10,
 .rf 12 9 (.call (.k (.clo zD [])) [.t 11,.k (.v (.int .i64 (-1000000))),qI 1000000]),
 .rf 13 9 (.un .not (.t 12)),
 qP 14 9 13,
 qm 15 14,
 qff 16 15 3 1,
 qlf 17 15 16,
 qff 18 15 4 1,
 qlf 19 15 18,
 .rf 20 15 (.bin .gtr false (.t 17) (.t 19)),
 qP 21 15 20])
 (qq 21
 (.seq
 (.reg 2 none [2] [
 qi 2 2])
 .ret)
 .skip))
 (.seq
 (.seq
 (.reg 3 none [1,31] [
 qf 22 5 1,
 ql 23 22,
 qn 24 23,
 qB 25 .lss 24 1,
 qm 26 25,
 qff 27 26 5 1,
 qlf 28 26 27,
 .rf 29 26 (.lenL (.t 28)),
 .rf 30 26 (.bin .gtr false (.t 29) (qI 4)),
 qP 31 26 30])
 (qq 31
 (.seq
 (.reg 4 none [2] [
 qi 2 1])
 .ret)
 .skip))
 (.seq
 (.seq
 (.reg 5 none [1,3] [
 qi 3 0])
 (.block 0
 (.loop
 (.seq
 (.seq
 (.reg 6 none [1,3,36] [
 qm 32 3,
 qf 33 5 1,
 ql 34 33,
 qn 35 34,
 qb 36 .lss 32 35])
 (qq 36
 .skip
 (.exit 0)))
 (.seq
 (.block 1
 (.seq
 (.reg 8 none [1,3,4] [
 qf 39 5 1,
 ql 40 39,
 qm 41 3,
 qx 42 1 40 41,
 ql 43 42,
 qm 4 43])
 (.seq
 (.reg 9 none [1,3,78] [
 qm 44 3,
 qB 45 .eql 44 0,
 qm 46 45,
 qmt 47 46 4,
 .rt 48 46 (.bin .neq false (.t 47) (qI 1)),
 qp 49 46 48,
 qm 50 49,
 qmf 51 50 3,
 .rf 52 50 (.bin .gtr false (.t 51) (qI 0)),
 qmf 53 50 52,
 qmt 54 53 4,
 qft 55 53 5 1,
 qlt 56 53 55,
 qmt 57 53 3,
 .rt 58 53 (.bin .sub false (.t 57) (qI 1)),
 .rt 59 53 (.ixL 1 (.t 56) (.t 58)),
 qlt 60 53 59,
 .rt 61 53 (.bin .leq false (.t 54) (.t 60)),
 qmt 62 53 61,
 qmf 63 62 4,
 .rf 64 62 (.bin .gtr false (.t 63) (qI 1000000)),
 .rt 65 53 (.pick (.t 62) (.k (.v (.bool true))) (.t 64)),
 qmt 66 53 65,
 qmf 67 66 4,
 qff 68 66 5 1,
 qlf 69 66 68,
 qmf 70 66 3,
 .rf 71 66 (.bin .sub false (.t 70) (qI 1)),
 .rf 72 66 (.ixL 1 (.t 69) (.t 71)),
 qlf 73 66 72,
 .rf 74 66 (.bin .rem false (.t 67) (.t 73)),
 .rf 75 66 (.bin .neq false (.t 74) (qI 0)),
 .rt 76 53 (.pick (.t 66) (.k (.v (.bool true))) (.t 75)),
 .rf 77 50 (.pick (.t 53) (.t 76) (.k (.v (.bool false)))),
 qP 78 50 77])
 (qq 78
 (.seq
 (.reg 10 none [2] [
 qi 2 2])
 .ret)
 .skip))))
 (.reg 7 none [1,3] [
 qm 37 3,
 qa 38 37,
 qm 3 38]))))))
 (.seq
 (.reg 11 none [2] [
 qi 2 0])
 .ret)))))
def qv6:List (Nat×List Nat):=qy QM
theorem qv7:FnIR Tryz.prog Zr 79 qv6 QM [(.tmp 2)]:=
 qF Tryz.func158
def zY:RC:=
 (.seq
 (.reg 0 none [0,1] [
 qi 4 0])
 (.seq
 (.seq
 (.reg 1 none [0,1,7,8] [
 qm 6 0,
 qn 7 6,
 qi 8 0])
 (.block 0
 (.loop
 (.seq
 (.reg 2 none [0,1,7,8,9] [
 qb 9 .lss 8 7])
 (.seq
 (qq 9
 .skip
 (.exit 0))
 (.seq
 (.block 1
 (.seq
 (.reg 3 none [0,1,5,7,8] [
 qm 10 8,
 qm 5 10])
 (.seq
 (.reg 4 none [0,1,5,7,8,16] [
 qm 11 1,
 qm 12 0,
 qm 13 5,
 qx 14 7 12 13,
 qL 15 7 14,
 .r 16 (.call (.t 11) [.t 15])])
 (qq 16
 (.seq
 (.reg 5 none [4] [
 qm 17 5,
 qm 4 17])
 .ret)
 .skip))))
 (.reg 6 none [0,1,7,8] [
 qa 18 8,
 qm 8 18])))))))
 (.seq
 (.reg 7 none [4] [
 .r 4 (.mv (.k (.v (.int .i64 (-1)))))])
 .ret)))
def ZV:List (Nat×List Nat):=qy zY
theorem ZW:FnIR Tryz.prog jj 19 ZV zY [(.tmp 4)]:=
 qF Tryz.func164
def yU:RC:=
 (.seq
 (.reg 0 none [0] [
 qi 2 0])
 (.seq
 (.seq
 (.reg 1 none [3] [
 qm 3 0])
 (.block 0
 (.seq
 (.seq
 (.reg 2 none [3,4] [
 qB 5 .eql 3 5,
 qm 4 5])
 (qq 4
 .skip
 (.reg 3 none [3,4] [
 qB 6 .eql 3 6,
 qm 4 6])))
 (qq 4
 (.seq
 (.reg 4 none [2] [
 qi 2 2])
 .ret)
 (.seq
 (.reg 5 none [7] [
 qB 8 .eql 3 7,
 qm 7 8])
 (qq 7
 (.seq
 (.reg 6 none [2] [
 qi 2 1])
 .ret)
 .skip))))))
 (.seq
 (.reg 7 none [2] [
 qi 2 0])
 .ret)))
def qp7:List (Nat×List Nat):=qy yU
theorem qp8:FnIR Tryz.prog Qz 9 qp7 yU [(.tmp 2)]:=
 qF Tryz.func165
def wD:RC:=
 (.seq
 (.reg 0 none [1] [
 .r 1 (.box (.t 0)),
 qc 2 false])
 (.seq
 (.reg 1 none [1,3] [
 qf 4 0 1,
 ql 5 4,
 qB 6 .eql 5 2,
 qm 7 6,
 qff 8 7 0 1,
 qlf 9 7 8,
 .rf 10 7 (.bin .eql false (.t 9) (qI 3)),
 qP 11 7 10,
 qm 12 11,
 qff 13 12 0 1,
 qlf 14 12 13,
 .rf 15 12 (.bin .eql false (.t 14) (qI 4)),
 qP 16 12 15,
 qm 3 16])
 (.seq
 (.block 0
 (.seq
 (.seq
 (.reg 2 none [1,17] [
 qm 18 3,
 .r 19 (.un .not (.t 18)),
 qm 20 19,
 qft 21 20 1 1,
 qlt 22 20 21,
 .rt 23 20 (.bin .neq false (.t 22) (qI 0)),
 qp 24 20 23,
 qm 17 24])
 (qq 17
 .skip
 (.reg 3 none [1,17] [
 qf 25 0 1,
 ql 26 25,
 qB 27 .neq 26 2,
 qm 28 27,
 qft 29 28 2 1,
 qlt 30 28 29,
 .rt 31 28 (.bin .neq false (.t 30) (qI 0)),
 qp 32 28 31,
 qm 17 32])))
 (qq 17
 (.seq
 (.reg 4 none [2] [
 qc 2 false])
 .ret)
 .skip)))
 (.seq
 (.reg 5 none [2] [
 qf 33 0 1,
 ql 34 33,
 qB 35 .eql 34 3,
 qm 36 35,
 qff 37 36 3 1,
 qlf 38 36 37,
 .rf 39 36 (.bin .eql false (.t 38) (qI 0)),
 qmf 40 36 39,
 qft 41 40 4 1,
 qlt 42 40 41,
 .rt 43 40 (.bin .eql false (.t 42) (qI 0)),
 .rf 44 36 (.pick (.t 40) (.t 43) (.k (.v (.bool false)))),
 qP 45 36 44,
 qm 2 45])
 .ret))))
def qd6:List (Nat×List Nat):=qy wD
theorem qd7:FnIR Tryz.prog yb 46 qd6 wD [(.tmp 2)]:=
 qF Tryz.func166
def jx:RC:=
 (.seq
 (.reg 0 none [0,1] [
 qi 4 0])
 (.seq
 (.seq
 (.reg 1 none [0,1,7,8] [
 qm 6 0,
 qn 7 6,
 qi 8 0])
 (.block 0
 (.loop
 (.seq
 (.reg 2 none [0,1,7,8,9] [
 qb 9 .lss 8 7])
 (.seq
 (qq 9
 .skip
 (.exit 0))
 (.seq
 (.block 1
 (.seq
 (.reg 3 none [0,1,5,7,8] [
 qm 10 8,
 qm 5 10])
 (.seq
 (.reg 4 none [0,1,5,7,8,16] [
 qm 11 1,
 qm 12 0,
 qm 13 5,
 qx 14 2 12 13,
 qL 15 2 14,
 .r 16 (.call (.t 11) [.t 15])])
 (qq 16
 (.seq
 (.reg 5 none [4] [
 qm 17 5,
 qm 4 17])
 .ret)
 .skip))))
 (.reg 6 none [0,1,7,8] [
 qa 18 8,
 qm 8 18])))))))
 (.seq
 (.reg 7 none [4] [
 .r 4 (.mv (.k (.v (.int .i64 (-1)))))])
 .ret)))
def Ke:List (Nat×List Nat):=qy jx
theorem Kf:FnIR Tryz.prog jJ 19 Ke jx [(.tmp 4)]:=
 qF Tryz.func167
end Go.Proofs
