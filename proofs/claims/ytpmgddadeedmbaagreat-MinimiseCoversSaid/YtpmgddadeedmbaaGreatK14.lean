/- A part of the proof: Ir. -/
import Derived.WalkKit
import Derived.Still
import Derived.MapKept
import GoSem.Builtin.Cap
import Derived.Laws.Externs
import GoSem.Extern.SlicesOverlaps
import Derived.Carry
import Derived.ProofKit
import Derived.OpenShut
import Derived.HandedShaped
import Derived.Lay
import Derived.LaidLaws
import Derived.MakeChecks
import Derived.SevenTiedAt
import Derived.Test.YtpmgddadeedmbaaGreatChecked
import Derived.Test.YtpmgddadeedmbaaGreatK13
namespace Go.Proofs
open Go.TL
abbrev qm (d a:Nat):ROp:=.r d (.mv (.t a))
abbrev ql (d a:Nat):ROp:=.r d (.ld none (.t a))
abbrev qL (d l a:Nat):ROp:=.r d (.ld (some l) (.t a))
abbrev qf (d k a:Nat):ROp:=.r d (.fa k (.t a))
abbrev qx (d k a b:Nat):ROp:=.r d (.ixL k (.t a) (.t b))
abbrev qn (d a:Nat):ROp:=.r d (.lenL (.t a))
abbrev qi (d:Nat) (n:Int):ROp:=.r d (.mv (.k (.v (.int .i64 n))))
abbrev qa (d a:Nat):ROp:=.r d (.bin .add false (.t a) (.k (.v (.int .i64 1))))
abbrev qb (d:Nat) (o:BinOp) (a b:Nat):ROp:=.r d (.bin o false (.t a) (.t b))
abbrev qB (d:Nat) (o:BinOp) (a:Nat) (n:Int):ROp:=.r d (.bin o false (.t a) (.k (.v (.int .i64 n))))
abbrev qmt (d g a:Nat):ROp:=.rt d g (.mv (.t a))
abbrev qmf (d g a:Nat):ROp:=.rf d g (.mv (.t a))
abbrev qlt (d g a:Nat):ROp:=.rt d g (.ld none (.t a))
abbrev qlf (d g a:Nat):ROp:=.rf d g (.ld none (.t a))
abbrev qft (d g k a:Nat):ROp:=.rt d g (.fa k (.t a))
abbrev qff (d g k a:Nat):ROp:=.rf d g (.fa k (.t a))
abbrev qc (d:Nat) (b:Bool):ROp:=.r d (.mv (.k (.v (.bool b))))
abbrev qp (d a b:Nat):ROp:=.r d (.pick (.t a) (.t b) (.k (.v (.bool false))))
abbrev qP (d a b:Nat):ROp:=.r d (.pick (.t a) (.k (.v (.bool true))) (.t b))
abbrev qs (l a b:Nat):ROp:=.rn (.st l (.t a) (.t b))
abbrev qC (d:Nat) (f:FuncId) (l:List RV):ROp:=.r d (.call (.k (.clo f [])) l)
abbrev qq (t:Nat) (a b:RC):RC:=.cond (.t t) a b
abbrev qI (n:Int):RV:=.k (.v (.int .i64 n))
abbrev qN:RV:=.k (.v (.slice none 0 0))
theorem qF {P:Program} {f:FuncId} {n:Nat} {kss:List (Nat×List Nat)} {rc:RC} {rs:List RR} {fn:Func} {c:Code} (h:P.funcs[f]?=some fn) (h1:fn.body=some c:=by rfl) (h2:goFn P f=true:=by kernel_rfl) (h3:fn.ntmps=n:=by rfl) (h4:rsvC P n kss c=some rc:=by kernel_rfl) (h5:qb3 P fn.results.toList=some rs:=by kernel_rfl):FnIR P f n kss rc rs:=⟨fn,c,h,h1,h2,h3,h4,h5⟩
abbrev wx:FuncId:=3
abbrev yG:FuncId:=4
abbrev za:FuncId:=5
abbrev QB:FuncId:=6
abbrev kN:FuncId:=7
abbrev kO:FuncId:=8
abbrev wC:FuncId:=9
abbrev yk:FuncId:=10
abbrev kP:FuncId:=11
abbrev jh:FuncId:=12
abbrev kQ:FuncId:=13
abbrev zm:FuncId:=14
abbrev zR:FuncId:=15
abbrev ju:FuncId:=16
abbrev jN:FuncId:=17
abbrev jv:FuncId:=18
abbrev kh:FuncId:=19
abbrev QC:FuncId:=20
abbrev qT:FuncId:=21
abbrev zS:FuncId:=22
abbrev zC:FuncId:=23
abbrev zr:FuncId:=24
abbrev jg:FuncId:=25
abbrev zt:FuncId:=26
abbrev zD:FuncId:=27
abbrev ze:FuncId:=28
abbrev zL:FuncId:=29
abbrev jO:FuncId:=30
abbrev kv:FuncId:=31
abbrev wZ:FuncId:=32
abbrev ko:FuncId:=33
abbrev zW:FuncId:=34
abbrev jP:FuncId:=35
abbrev wD:FuncId:=36
abbrev zX:FuncId:=37
abbrev yW:FuncId:=38
abbrev zY:FuncId:=39
abbrev yl:FuncId:=40
abbrev yH:FuncId:=42
abbrev jQ:FuncId:=43
abbrev zf:FuncId:=44
abbrev kp:FuncId:=45
abbrev jU:FuncId:=46
abbrev jR:FuncId:=47
abbrev kr:FuncId:=48
abbrev zT:FuncId:=49
abbrev ky:FuncId:=50
abbrev kz:FuncId:=51
abbrev kA:FuncId:=52
abbrev zw:FuncId:=53
abbrev kR:FuncId:=54
abbrev zM:FuncId:=55
abbrev jD:FuncId:=56
abbrev zZ:FuncId:=57
abbrev jV:FuncId:=58
abbrev wE:FuncId:=59
abbrev Kh:FuncId:=60
abbrev Zo:FuncId:=61
abbrev wF:FuncId:=62
abbrev kS:FuncId:=63
abbrev ya:FuncId:=64
abbrev jr:FuncId:=65
abbrev zO:FuncId:=69
abbrev zx:FuncId:=70
abbrev zn:FuncId:=71
abbrev zE:FuncId:=72
abbrev jE:FuncId:=73
abbrev yX:FuncId:=74
abbrev jW:FuncId:=75
abbrev Zp:FuncId:=76
abbrev qU:FuncId:=77
abbrev zN:FuncId:=78
abbrev ji:FuncId:=79
abbrev QS:FuncId:=80
abbrev kT:FuncId:=81
abbrev ki:FuncId:=82
abbrev wG:FuncId:=83
abbrev ku:FuncId:=84
abbrev zG:FuncId:=86
abbrev kU:FuncId:=87
abbrev yY:FuncId:=88
abbrev ja:FuncId:=89
abbrev Zq:FuncId:=90
abbrev zP:FuncId:=94
abbrev ym:FuncId:=95
abbrev kV:FuncId:=96
abbrev yn:FuncId:=97
abbrev jj:FuncId:=98
def jk:RC:=
 (.seq
 (.reg 0 none [0,1] [
 qc 4 false])
 (.seq
 (.seq
 (.reg 1 none [0,1,18] [
 qm 11 0,
 qn 12 11,
 qB 13 .gtr 12 20,
 qm 14 13,
 qmf 15 14 1,
 .rf 16 14 (.lenL (.t 15)),
 .rf 17 14 (.bin .gtr false (.t 16) (qI 20)),
 qP 18 14 17])
 (qq 18
 (.seq
 (.reg 2 none [4] [
 qC 19 yG [],
 qm 4 19])
 .ret)
 .skip))
 (.seq
 (.reg 3 none [0,1,5] [
 qc 5 true])
 (.seq
 (.seq
 (.reg 4 none [0,1,5,20,21,22] [
 qm 20 0,
 qn 21 20,
 qi 22 0])
 (.block 0
 (.loop
 (.seq
 (.reg 5 none [0,1,5,20,21,22,23] [
 qb 23 .lss 22 21])
 (.seq
 (qq 23
 .skip
 (.exit 0))
 (.seq
 (.block 1
 (.seq
 (.reg 6 none [0,1,5,7,20,21,22] [
 qx 24 2 20 22,
 qL 25 2 24,
 .r 7 (.new (.agg [.v (.int .i64 0),.v (.int .i64 0)])),
 qs 2 7 25])
 (.seq
 (.reg 7 none [0,1,5,7,8,20,21,22] [
 qc 8 false])
 (.seq
 (.seq
 (.reg 8 none [0,1,5,7,8,20,21,22,26,27,28] [
 qm 26 1,
 qn 27 26,
 qi 28 0])
 (.block 2
 (.loop
 (.seq
 (.reg 9 none [0,1,5,7,8,20,21,22,26,27,28,29] [
 qb 29 .lss 28 27])
 (.seq
 (qq 29
 .skip
 (.exit 2))
 (.seq
 (.block 3
 (.seq
 (.reg 10 none [0,1,5,7,8,10,20,21,22,26,27,28] [
 qx 30 2 26 28,
 qL 31 2 30,
 .r 10 (.new (.agg [.v (.int .i64 0),.v (.int .i64 0)])),
 qs 2 10 31])
 (.reg 11 none [0,1,5,7,8,20,21,22,26,27,28] [
 qm 32 8,
 qm 33 32,
 qff 34 33 0 7,
 qlf 35 33 34,
 qff 36 33 0 10,
 qlf 37 33 36,
 .rf 38 33 (.bin .eql false (.t 35) (.t 37)),
 qmf 39 33 38,
 qft 40 39 1 7,
 qlt 41 39 40,
 qft 42 39 1 10,
 qlt 43 39 42,
 .rt 44 39 (.bin .leq false (.t 41) (.t 43)),
 .rf 45 33 (.pick (.t 39) (.t 44) (.k (.v (.bool false)))),
 qP 46 33 45,
 qm 8 46])))
 (.reg 12 none [0,1,5,7,8,20,21,22,26,27,28] [
 qa 47 28,
 qm 28 47])))))))
 (.reg 13 none [0,1,5,20,21,22] [
 qm 48 5,
 qm 49 48,
 qmt 50 49 8,
 qp 51 49 50,
 qm 5 51])))))
 (.reg 14 none [0,1,5,20,21,22] [
 qa 52 22,
 qm 22 52])))))))
 (.seq
 (.reg 15 none [4] [
 qm 53 0,
 qm 54 1,
 qC 55 za [.t 53,.t 54],
 qm 56 5,
 .r 57 (.bin .eql true (.t 55) (.t 56)),
 qm 58 57,
 qmt 59 58 0,
 qmt 60 58 1,
 .rt 61 58 (.app 2 16 false (qN) (.t 60)),
 qmt 62 58 0,
 .rt 63 58 (.app 2 16 false (.t 61) (.t 62)),
 .rt 64 58 (.call (.k (.clo za [])) [.t 59,.t 63]),
 qp 65 58 64,
 qm 66 65,
 qmt 67 66 1,
 .rt 68 66 (.call (.k (.clo za [])) [qN,.t 67]),
 qp 69 66 68,
 qm 70 69,
 qmt 71 70 0,
 qmt 72 70 0,
 .rt 73 70 (.call (.k (.clo QB [])) [.t 71,.t 72]),
 qp 74 70 73,
 qm 75 74,
 .rt 76 75 (.call (.k (.clo yG [])) []),
 qp 77 75 76,
 qm 4 77])
 .ret)))))
def Zr:List (Nat×List Nat):=qA jk
theorem Zs:FnIR Tryz.prog wx 78 Zr jk [(.tmp 4)]:=
 qF Tryz.func3
def QD:RC:=
 (.seq
 (.reg 0 none [] [
 qc 0 false])
 (.seq
 (.reg 1 none [1] [
 .r 10 (.build [.v (.string ⟨#[]⟩),.v (.int .i64 0)] [((0,1),.k (.v (.string ⟨#[97]⟩))),((1,1),.k (.v (.int .i64 (-1))))]),
 .r 11 (.build [.v (.string ⟨#[]⟩),.v (.int .i64 0)] [((0,1),.k (.v (.string ⟨#[98]⟩)))]),
 .r 12 (.build [.v (.string ⟨#[]⟩),.v (.int .i64 0)] [((0,1),.k (.v (.string ⟨#[99]⟩)))]),
 .r 13 (.bsl 2 3 [.t 10,.t 11,.t 12]),
 .r 14 (.build [.v (.string ⟨#[]⟩),.v (.slice none 0 0)] [((0,1),.k (.v (.string ⟨#[108]⟩))),((1,1),.t 13)]),
 .r 15 (.bsl 2 1 [.t 14]),
 .r 16 (.build [.v (.string ⟨#[]⟩),.v (.int .i64 0),.v (.int .i64 0),.v (.int .i64 0),.v (.int .i64 0),.v (.slice none 0 0),.v (.bool false)] [((0,1),.k (.v (.string ⟨#[119,104,111]⟩))),((1,1),qI 1)]),
 .r 17 (.build [.v (.string ⟨#[]⟩),.v (.int .i64 0),.v (.int .i64 0),.v (.int .i64 0),.v (.int .i64 0),.v (.slice none 0 0),.v (.bool false)] [((0,1),.k (.v (.string ⟨#[115,101,120]⟩))),((1,1),qI 2)]),
 .r 18 (.bsl 7 2 [.t 16,.t 17]),
 .r 19 (.build [.v (.slice none 0 0),.v (.slice none 0 0)] [((0,1),.t 15),((1,1),.t 18)]),
 .r 1 (.new (.agg [.v (.slice none 0 0),.v (.slice none 0 0)])),
 qs 2 1 19])
 (.seq
 (.reg 2 none [1,2] [
 .r 20 (.build [.v (.int .i64 0),.v (.int .i64 0),.v (.int .i64 0),.v (.int .i64 0),.v (.int .i64 0),.v (.slice none 0 0)] [((0,1),qI 1)]),
 .r 2 (.new (.agg [.v (.int .i64 0),.v (.int .i64 0),.v (.int .i64 0),.v (.int .i64 0),.v (.int .i64 0),.v (.slice none 0 0)])),
 qs 6 2 20])
 (.seq
 (.reg 3 none [1,3] [
 qL 21 6 2,
 .r 22 (.build [.v (.int .i64 0),.v (.int .i64 0),.v (.int .i64 0)] [((0,1),qI 1),((1,1),qI 1)]),
 qL 23 6 2,
 .r 24 (.build [.v (.int .i64 0),.v (.int .i64 0)] [((0,1),qI 1),((1,1),qI 1)]),
 .r 25 (.bsl 2 1 [.t 24]),
 .r 26 (.build [.v (.string ⟨#[]⟩),.v (.int .i64 0),.v (.int .i64 0),.v (.int .i64 0),.v (.int .i64 0),.v (.int .i64 0),.v (.int .i64 0),.v (.slice none 0 0),.v (.slice none 0 0),.v (.int .i64 0),.v (.slice none 0 0),.v (.int .i64 0),.v (.int .i64 0),.v (.int .i64 0),.v (.int .i64 0),.v (.int .i64 0),.v (.slice none 0 0)] [((0,1),.k (.v (.string ⟨#[113]⟩))),((1,1),qI 1),((2,6),.t 23),((8,1),.t 25),((9,1),.k (.v (.int .i64 (-1))))]),
 .r 27 (.bsl 17 1 [.t 26]),
 .r 28 (.build [.v (.string ⟨#[]⟩),.v (.string ⟨#[]⟩),.v (.int .i64 0),.v (.int .i64 0),.v (.int .i64 0),.v (.int .i64 0),.v (.int .i64 0),.v (.slice none 0 0),.v (.int .i64 0),.v (.int .i64 0),.v (.int .i64 0),.v (.slice none 0 0)] [((0,1),.k (.v (.string ⟨#[112]⟩))),((1,1),.k (.v (.string ⟨#[115]⟩))),((2,6),.t 21),((8,3),.t 22),((11,1),.t 27)]),
 .r 3 (.new (.agg [.v (.string ⟨#[]⟩),.v (.string ⟨#[]⟩),.v (.int .i64 0),.v (.int .i64 0),.v (.int .i64 0),.v (.int .i64 0),.v (.int .i64 0),.v (.slice none 0 0),.v (.int .i64 0),.v (.int .i64 0),.v (.int .i64 0),.v (.slice none 0 0)])),
 qs 12 3 28])
 (.seq
 (.reg 4 none [1,3,4,5] [
 qL 30 2 1,
 qL 31 12 3,
 qC 32 kN [.t 30,.t 31],
 qm 29 32,
 .r 33 (.ex (.t 29) 0),
 .r 34 (.ex (.t 29) 1),
 qm 4 33,
 qm 5 34])
 (.seq
 (.reg 5 none [1,3,4,5,6,7,8,9] [
 qL 36 2 1,
 qL 37 12 3,
 qC 38 kO [.t 36,.t 37,qI 1],
 qm 35 38,
 .r 39 (.ex (.t 35) 0),
 .r 40 (.ex (.t 35) 1),
 .r 41 (.ex (.t 35) 2),
 .r 42 (.ex (.t 35) 3),
 qm 6 39,
 qm 7 40,
 qm 8 41,
 qm 9 42])
 (.seq
 (.reg 6 none [0] [
 qm 43 5,
 qB 44 .eql 43 0,
 qm 45 44,
 qmt 46 45 4,
 .rt 47 45 (.build [.v (.int .i64 0),.v (.int .i64 0)] [((0,1),qI 1),((1,1),qI 1)]),
 .rt 48 45 (.bsl 2 1 [.t 47]),
 .rt 49 45 (.call (.k (.clo wC [])) [.t 46,.t 48]),
 qp 50 45 49,
 qm 51 50,
 qmt 52 51 9,
 qp 53 51 52,
 qm 54 53,
 qmt 55 54 6,
 .rt 56 54 (.bin .eql false (.t 55) (qI 1)),
 qp 57 54 56,
 qm 58 57,
 qmt 59 58 7,
 .rt 60 58 (.bin .eql false (.t 59) (qI 2)),
 qp 61 58 60,
 qm 62 61,
 qmt 63 62 8,
 .rt 64 62 (.bin .eql false (.t 63) (qI 0)),
 qp 65 62 64,
 qm 66 65,
 .rt 67 66 (.ld (some 2) (.t 1)),
 .rt 68 66 (.ld (some 12) (.t 3)),
 .rt 69 66 (.call (.k (.clo yk [])) [.t 67,.t 68,qN]),
 .rt 70 66 (.bin .eql false (.t 69) (qI 23)),
 qp 71 66 70,
 qm 72 71,
 qmt 73 72 4,
 qmt 74 72 4,
 .rt 75 72 (.call (.k (.clo za [])) [.t 73,.t 74]),
 qp 76 72 75,
 qm 0 76])
 .ret)))))))
def qo0:List (Nat×List Nat):=qA QD
theorem qo1:FnIR Tryz.prog yG 77 qo0 QD [(.tmp 0)]:=
 qF Tryz.func4
def kW:RC:=
 (.seq
 (.reg 0 none [0,1] [
 qc 4 false])
 (.seq
 (.reg 1 none [4] [
 qm 5 1,
 qm 6 0,
 qC 7 kP [.t 5,.t 6],
 qm 4 7])
 .ret))
def WI:List (Nat×List Nat):=qA kW
theorem WJ:FnIR Tryz.prog za 8 WI kW [(.tmp 4)]:=
 qF Tryz.func5
def yZ:RC:=
 (.seq
 (.reg 0 none [0,1] [
 qc 4 false])
 (.seq
 (.seq
 (.reg 1 none [0,1,5] [
 qi 5 0])
 (.block 0
 (.loop
 (.seq
 (.seq
 (.reg 2 none [0,1,5,11] [
 qm 8 5,
 qm 9 0,
 qn 10 9,
 qb 11 .lss 8 10])
 (qq 11
 .skip
 (.exit 0)))
 (.seq
 (.block 1
 (.seq
 (.reg 4 none [0,1,5,6] [
 qc 6 false])
 (.seq
 (.seq
 (.reg 5 none [0,1,5,6,7] [
 qi 7 0])
 (.block 2
 (.loop
 (.seq
 (.seq
 (.reg 6 none [0,1,5,6,7,17] [
 qm 14 7,
 qm 15 1,
 qn 16 15,
 qb 17 .lss 14 16])
 (qq 17
 .skip
 (.exit 2)))
 (.seq
 (.block 3
 (.reg 8 (some [0,1,3,3,15,31,63,3,3,387,899,1923,4095,8191,16383,16383,65535,131071,262143,16383,16383,1589247,3686399,7880703,16777215,33554431,67108863,134217727]) [0,1,5,6,7] [
 qm 20 6,
 qm 21 20,
 qmf 22 21 1,
 qmf 23 21 7,
 .rf 24 21 (.ixL 2 (.t 22) (.t 23)),
 qff 25 21 0 24,
 qlf 26 21 25,
 qmf 27 21 0,
 qmf 28 21 5,
 .rf 29 21 (.ixL 2 (.t 27) (.t 28)),
 qff 30 21 0 29,
 qlf 31 21 30,
 .rf 32 21 (.bin .eql false (.t 26) (.t 31)),
 qmf 33 21 32,
 qmt 34 33 1,
 qmt 35 33 7,
 .rt 36 33 (.ixL 2 (.t 34) (.t 35)),
 qft 37 33 1 36,
 qlt 38 33 37,
 qmt 39 33 0,
 qmt 40 33 5,
 .rt 41 33 (.ixL 2 (.t 39) (.t 40)),
 qft 42 33 1 41,
 qlt 43 33 42,
 .rt 44 33 (.bin .geq false (.t 38) (.t 43)),
 .rf 45 21 (.pick (.t 33) (.t 44) (.k (.v (.bool false)))),
 qP 46 21 45,
 qm 6 46]))
 (.reg 7 none [0,1,5,6,7] [
 qm 18 7,
 qa 19 18,
 qm 7 19]))))))
 (.seq
 (.reg 9 none [0,1,5,48] [
 qm 47 6,
 .r 48 (.un .not (.t 47))])
 (qq 48
 (.seq
 (.reg 10 none [4] [
 qc 4 false])
 .ret)
 .skip)))))
 (.reg 3 none [0,1,5] [
 qm 12 5,
 qa 13 12,
 qm 5 13]))))))
 (.seq
 (.reg 11 none [4] [
 qc 4 true])
 .ret)))
def qj9:List (Nat×List Nat):=qA yZ
theorem qk0:FnIR Tryz.prog QB 49 qj9 yZ [(.tmp 4)]:=
 qF Tryz.func6
def yo:RC:=
 (.seq
 (.reg 0 none [2,3] [
 .r 2 (.box (.t 0)),
 .r 3 (.box (.t 1)),
 .r 4 (.mv (qN)),
 qi 5 0])
 (.seq
 (.seq
 (.reg 1 none [2,3,6] [
 qL 7 2 2,
 qL 8 12 3,
 qC 9 jh [.t 7,.t 8],
 qm 6 9])
 (.seq
 (.reg 2 none [2,3,6,11] [
 qm 10 6,
 qB 11 .neq 10 0])
 (qq 11
 (.seq
 (.reg 3 none [4,5] [
 qm 12 6,
 .r 4 (.mv (qN)),
 qm 5 12])
 .ret)
 .skip)))
 (.seq
 (.reg 4 none [4,5] [
 qL 13 2 2,
 qL 14 12 3,
 qC 15 kQ [.t 13,.t 14],
 qm 4 15,
 qi 5 0])
 .ret)))
def qc9:List (Nat×List Nat):=qA yo
theorem qd0:FnIR Tryz.prog kN 16 qc9 yo [(.tmp 4),(.tmp 5)]:=
 qF Tryz.func7
def kB:RC:=
 (.seq
 (.reg 0 none [3,4,5] [
 .r 3 (.box (.t 0)),
 .r 4 (.box (.t 1)),
 .r 5 (.box (.t 2)),
 qi 6 0,
 qi 7 0,
 qi 8 0,
 qc 9 false])
 (.seq
 (.reg 1 none [3,4,5,10,11] [
 qL 20 2 3,
 qL 21 12 4,
 qC 22 kN [.t 20,.t 21],
 qm 19 22,
 .r 23 (.ex (.t 19) 0),
 .r 24 (.ex (.t 19) 1),
 qm 10 23,
 qm 11 24])
 (.seq
 (.reg 2 none [3,4,5,10,11,12] [
 qm 25 10,
 .r 26 (.mf zR [.t 5]),
 qC 27 zm [.t 25,.t 26],
 qm 12 27])
 (.seq
 (.seq
 (.reg 3 none [3,4,5,10,12,33] [
 qm 28 11,
 qB 29 .neq 28 0,
 qm 30 29,
 qmf 31 30 12,
 .rf 32 30 (.bin .lss false (.t 31) (qI 0)),
 qP 33 30 32])
 (qq 33
 (.seq
 (.reg 4 none [6,7,8,9] [
 qi 6 0,
 qi 7 0,
 qi 8 0,
 qc 9 false])
 .ret)
 .skip))
 (.seq
 (.seq
 (.reg 5 none [3,5,10,12,35,36,37] [
 qf 34 11 4,
 ql 35 34,
 qn 36 35,
 qi 37 0])
 (.block 0
 (.loop
 (.seq
 (.reg 6 none [3,5,10,12,35,36,37,38] [
 qb 38 .lss 37 36])
 (.seq
 (qq 38
 .skip
 (.exit 0))
 (.seq
 (.block 1
 (.seq
 (.reg 7 none [3,5,10,12,13,14,35,36,37] [
 qm 39 37,
 qx 40 17 35 37,
 qL 41 17 40,
 .r 14 (.new (.agg [.v (.string ⟨#[]⟩),.v (.int .i64 0),.v (.int .i64 0),.v (.int .i64 0),.v (.int .i64 0),.v (.int .i64 0),.v (.int .i64 0),.v (.slice none 0 0),.v (.slice none 0 0),.v (.int .i64 0),.v (.slice none 0 0),.v (.int .i64 0),.v (.int .i64 0),.v (.int .i64 0),.v (.int .i64 0),.v (.int .i64 0),.v (.slice none 0 0)])),
 qm 13 39,
 qs 17 14 41])
 (.seq
 (.seq
 (.reg 8 (some [0,0,3,0,0,24,56,127,255]) [3,5,10,12,13,14,35,36,37,50] [
 qL 42 2 3,
 qL 43 17 14,
 qC 44 jN [.t 42,.t 43],
 qm 45 10,
 qm 46 12,
 qx 47 2 45 46,
 qL 48 2 47,
 qC 49 ju [.t 44,.t 48],
 .r 50 (.un .not (.t 49))])
 (qq 50
 (.exit 1)
 .skip))
 (.seq
 (.seq
 (.reg 9 none [3,5,10,12,13,14,57] [
 qf 51 1 3,
 ql 52 51,
 ql 53 5,
 qx 54 7 52 53,
 qf 55 1 54,
 ql 56 55,
 qB 57 .eql 56 2])
 (qq 57
 (.seq
 (.reg 10 (some [0,0,0,0,0,24,56,120,248,511,1023,2047,2047,4095,16383]) [13,15,16] [
 qL 59 2 3,
 qL 60 17 14,
 ql 61 5,
 qm 62 10,
 qm 63 12,
 qx 64 2 62 63,
 qf 65 1 64,
 ql 66 65,
 qB 67 .sub 66 1,
 qC 68 jv [.t 59,.t 60,.t 61,.t 67],
 qm 58 68,
 .r 69 (.ex (.t 58) 0),
 .r 70 (.ex (.t 58) 1),
 qm 15 69,
 qm 16 70])
 (.seq
 (.reg 11 none [6,7,8,9] [
 qm 71 15,
 qm 72 16,
 qm 73 13,
 qm 6 71,
 qm 7 72,
 qm 8 73,
 qc 9 true])
 .ret))
 .skip))
 (.seq
 (.reg 12 (some [0,0,0,0,0,24,56,120,248,511,1023,2047,2047,4095,16383]) [13,17,18] [
 qL 75 2 3,
 qL 76 17 14,
 ql 77 5,
 qm 78 10,
 qm 79 12,
 qx 80 2 78 79,
 qf 81 1 80,
 ql 82 81,
 qB 83 .sub 82 1,
 qC 84 kh [.t 75,.t 76,.t 77,.t 83],
 qm 74 84,
 .r 85 (.ex (.t 74) 0),
 .r 86 (.ex (.t 74) 1),
 qm 17 85,
 qm 18 86])
 (.seq
 (.reg 13 none [6,7,8,9] [
 qm 87 17,
 qm 88 18,
 qm 89 13,
 qm 6 87,
 qm 7 88,
 qm 8 89,
 qc 9 true])
 .ret))))))
 (.reg 14 none [3,5,10,12,35,36,37] [
 qa 90 37,
 qm 37 90])))))))
 (.seq
 (.reg 15 none [6,7,8,9] [
 qi 6 0,
 qi 7 0,
 qi 8 0,
 qc 9 false])
 .ret))))))
def KW:List (Nat×List Nat):=qA kB
theorem KX:FnIR Tryz.prog kO 91 KW kB [(.tmp 6),(.tmp 7),(.tmp 8),(.tmp 9)]:=
 qF Tryz.func8
def kX:RC:=
 (.seq
 (.reg 0 none [0,1] [
 qc 4 false])
 (.seq
 (.seq
 (.reg 1 none [0,1,10] [
 qm 6 0,
 qn 7 6,
 qm 8 1,
 qn 9 8,
 qb 10 .neq 7 9])
 (qq 10
 (.seq
 (.reg 2 none [4] [
 qc 4 false])
 .ret)
 .skip))
 (.seq
 (.seq
 (.reg 3 none [0,1,5] [
 qi 5 0])
 (.block 0
 (.loop
 (.seq
 (.seq
 (.reg 4 none [0,1,5,14] [
 qm 11 5,
 qm 12 0,
 qn 13 12,
 qb 14 .lss 11 13])
 (qq 14
 .skip
 (.exit 0)))
 (.seq
 (.block 1
 (.seq
 (.reg 6 (some [0,0,3,7,0,0,48,112,255]) [0,1,5,25] [
 qm 17 0,
 qm 18 5,
 qx 19 2 17 18,
 qL 20 2 19,
 qm 21 1,
 qm 22 5,
 qx 23 2 21 22,
 qL 24 2 23,
 .r 25 (.ext (.eqS true [.i .i64,.i .i64]) [.t 20,.t 24])])
 (qq 25
 (.seq
 (.reg 7 none [4] [
 qc 4 false])
 .ret)
 .skip)))
 (.reg 5 none [0,1,5] [
 qm 15 5,
 qa 16 15,
 qm 5 16]))))))
 (.seq
 (.reg 8 none [4] [
 qc 4 true])
 .ret))))
def WK:List (Nat×List Nat):=qA kX
theorem WL:FnIR Tryz.prog wC 26 WK kX [(.tmp 4)]:=
 qF Tryz.func9
def wH:RC:=
 (.seq
 (.reg 0 none [2,3,4] [
 .r 3 (.box (.t 0)),
 .r 4 (.box (.t 1)),
 qi 6 0])
 (.seq
 (.seq
 (.reg 1 none [2,3,4,7] [
 qL 9 2 3,
 qL 10 12 4,
 qC 11 jh [.t 9,.t 10],
 qm 7 11])
 (.seq
 (.reg 2 none [2,3,4,7,13] [
 qm 12 7,
 qB 13 .neq 12 0])
 (qq 13
 (.seq
 (.reg 3 none [6] [
 qm 14 7,
 qm 6 14])
 .ret)
 .skip)))
 (.seq
 (.seq
 (.reg 4 none [2,3,4,8] [
 qL 15 2 3,
 qm 16 2,
 qC 17 QC [.t 15,.t 16],
 qm 8 17])
 (.seq
 (.reg 5 none [2,3,4,8,19] [
 qm 18 8,
 qB 19 .neq 18 0])
 (qq 19
 (.seq
 (.reg 6 none [6] [
 qm 20 8,
 qm 6 20])
 .ret)
 .skip)))
 (.seq
 (.seq
 (.reg 7 none [26] [
 qL 21 2 3,
 qL 22 12 4,
 qC 23 kQ [.t 21,.t 22],
 qm 24 2,
 qC 25 za [.t 23,.t 24],
 .r 26 (.un .not (.t 25))])
 (qq 26
 (.seq
 (.reg 8 none [6] [
 qi 6 23])
 .ret)
 .skip))
 (.seq
 (.reg 9 none [6] [
 qi 6 0])
 .ret)))))
def YJ:List (Nat×List Nat):=qA wH
theorem YK:FnIR Tryz.prog yk 27 YJ wH [(.tmp 6)]:=
 qF Tryz.func10
def kC:RC:=
 (.seq
 (.reg 0 none [1,2] [
 .r 2 (.box (.t 0)),
 qc 4 false])
 (.seq
 (.reg 1 none [4] [
 qm 5 1,
 .r 6 (.mf zS [.t 2]),
 qC 7 qT [.t 5,.t 6],
 .r 8 (.un .not (.t 7)),
 qm 4 8])
 .ret))
def KY:List (Nat×List Nat):=qA kC
theorem KZ:FnIR Tryz.prog kP 9 KY kC [(.tmp 4)]:=
 qF Tryz.func11
def jX:RC:=
 (.seq
 (.reg 0 none [2,3] [
 .r 2 (.box (.t 0)),
 .r 3 (.box (.t 1)),
 qi 4 0])
 (.seq
 (.seq
 (.reg 1 none [2,3,5] [
 qL 11 2 2,
 qC 12 zr [.t 11],
 qm 5 12])
 (.seq
 (.reg 2 none [2,3,5,14] [
 qm 13 5,
 qB 14 .neq 13 0])
 (qq 14
 (.seq
 (.reg 3 none [4] [
 qm 15 5,
 qm 4 15])
 .ret)
 .skip)))
 (.seq
 (.seq
 (.reg 4 none [2,3,25] [
 qf 16 0 3,
 ql 17 16,
 qC 18 jg [.t 17],
 .r 19 (.un .not (.t 18)),
 qm 20 19,
 qff 21 20 1 3,
 qlf 22 20 21,
 .rf 23 20 (.call (.k (.clo jg [])) [.t 22]),
 .rf 24 20 (.un .not (.t 23)),
 qP 25 20 24])
 (qq 25
 (.seq
 (.reg 5 none [4] [
 qi 4 3])
 .ret)
 .skip))
 (.seq
 (.seq
 (.reg 6 none [2,3,6] [
 qL 26 2 2,
 qf 27 2 3,
 qL 28 6 27,
 qC 29 zt [.t 26,.t 28],
 qm 6 29])
 (.seq
 (.reg 7 none [2,3,6,31] [
 qm 30 6,
 qB 31 .neq 30 0])
 (qq 31
 (.seq
 (.reg 8 none [4] [
 qm 32 6,
 qm 4 32])
 .ret)
 .skip)))
 (.seq
 (.seq
 (.reg 9 none [2,3,7] [
 qf 33 8 3,
 qL 34 3 33,
 .r 7 (.new (.agg [.v (.int .i64 0),.v (.int .i64 0),.v (.int .i64 0)])),
 qs 3 7 34])
 (.block 0
 (.seq
 (.reg 10 none [2,3,35] [
 qf 36 1 7,
 ql 37 36,
 qB 38 .lss 37 1,
 qm 39 38,
 qff 40 39 1 7,
 qlf 41 39 40,
 .rf 42 39 (.bin .gtr false (.t 41) (qI 1000)),
 qP 43 39 42,
 qm 44 43,
 qff 45 44 0 7,
 qlf 46 44 45,
 .rf 47 44 (.bin .lss false (.t 46) (qI 1)),
 qP 48 44 47,
 qm 49 48,
 qff 50 49 0 7,
 qlf 51 49 50,
 qff 52 49 1 7,
 qlf 53 49 52,
 .rf 54 49 (.bin .gtr false (.t 51) (.t 53)),
 qP 55 49 54,
 qm 56 55,
 qff 57 56 2 7,
 qlf 58 56 57,
 .rf 59 56 (.bin .lss false (.t 58) (qI 0)),
 qP 60 56 59,
 qm 61 60,
 qff 62 61 2 7,
 qlf 63 61 62,
 .rf 64 61 (.bin .gtr false (.t 63) (qI 1099511627776)),
 qP 65 61 64,
 qm 35 65])
 (qq 35
 (.seq
 (.reg 11 none [4] [
 qi 4 2])
 .ret)
 (.seq
 (.reg 12 none [2,3,66] [
 qf 67 11 3,
 ql 68 67,
 qn 69 68,
 qB 70 .eql 69 0,
 qm 71 70,
 qff 72 71 11 3,
 qlf 73 71 72,
 .rf 74 71 (.lenL (.t 73)),
 .rf 75 71 (.bin .gtr false (.t 74) (qI 8)),
 qP 76 71 75,
 qm 66 76])
 (qq 66
 (.seq
 (.reg 13 none [4] [
 qi 4 1])
 .ret)
 .skip))))))
 (.seq
 (.seq
 (.reg 14 none [2,3,78,79,80] [
 qf 77 11 3,
 ql 78 77,
 qn 79 78,
 qi 80 0])
 (.block 1
 (.loop
 (.seq
 (.reg 15 none [2,3,78,79,80,81] [
 qb 81 .lss 80 79])
 (.seq
 (qq 81
 .skip
 (.exit 1))
 (.seq
 (.block 2
 (.seq
 (.reg 16 none [2,3,8,9,78,79,80] [
 qm 82 80,
 qx 83 17 78 80,
 qL 84 17 83,
 .r 9 (.new (.agg [.v (.string ⟨#[]⟩),.v (.int .i64 0),.v (.int .i64 0),.v (.int .i64 0),.v (.int .i64 0),.v (.int .i64 0),.v (.int .i64 0),.v (.slice none 0 0),.v (.slice none 0 0),.v (.int .i64 0),.v (.slice none 0 0),.v (.int .i64 0),.v (.int .i64 0),.v (.int .i64 0),.v (.int .i64 0),.v (.int .i64 0),.v (.slice none 0 0)])),
 qm 8 82,
 qs 17 9 84])
 (.seq
 (.seq
 (.reg 17 none [2,3,8,9,10,78,79,80] [
 qL 85 2 2,
 qL 86 17 9,
 qC 87 zD [.t 85,.t 86],
 qm 10 87])
 (.seq
 (.reg 18 none [2,3,8,9,10,78,79,80,89] [
 qm 88 10,
 qB 89 .neq 88 0])
 (qq 89
 (.seq
 (.reg 19 none [4] [
 qm 90 10,
 qm 4 90])
 .ret)
 .skip)))
 (.seq
 (.reg 20 none [2,3,78,79,80,96] [
 qf 91 11 3,
 ql 92 91,
 qm 93 8,
 .r 94 (.slL 17 (.t 92) none (some (.t 93))),
 .r 95 (.mf zL [.t 9]),
 qC 96 ze [.t 94,.t 95]])
 (qq 96
 (.seq
 (.reg 21 none [4] [
 qi 4 10])
 .ret)
 .skip)))))
 (.reg 22 none [2,3,78,79,80] [
 qa 97 80,
 qm 80 97])))))))
 (.seq
 (.reg 23 none [4] [
 qi 4 0])
 .ret)))))))
def Ki:List (Nat×List Nat):=qA jX
theorem Kj:FnIR Tryz.prog jh 98 Ki jX [(.tmp 4)]:=
 qF Tryz.func12
def yp:RC:=
 (.seq
 (.reg 0 none [2,3] [
 .r 2 (.box (.t 0)),
 .r 3 (.box (.t 1)),
 .r 4 (.mv (qN))])
 (.seq
 (.reg 1 none [2,3,5] [
 .r 5 (.mv (qN))])
 (.seq
 (.seq
 (.reg 2 none [2,5,9,10,11] [
 qf 8 11 3,
 ql 9 8,
 qn 10 9,
 qi 11 0])
 (.block 0
 (.loop
 (.seq
 (.reg 3 none [2,5,9,10,11,12] [
 qb 12 .lss 11 10])
 (.seq
 (qq 12
 .skip
 (.exit 0))
 (.seq
 (.block 1
 (.seq
 (.reg 4 none [2,5,7,9,10,11] [
 qx 13 17 9 11,
 qL 14 17 13,
 .r 7 (.new (.agg [.v (.string ⟨#[]⟩),.v (.int .i64 0),.v (.int .i64 0),.v (.int .i64 0),.v (.int .i64 0),.v (.int .i64 0),.v (.int .i64 0),.v (.slice none 0 0),.v (.slice none 0 0),.v (.int .i64 0),.v (.slice none 0 0),.v (.int .i64 0),.v (.int .i64 0),.v (.int .i64 0),.v (.int .i64 0),.v (.int .i64 0),.v (.slice none 0 0)])),
 qs 17 7 14])
 (.reg 5 none [2,5,9,10,11] [
 qm 15 5,
 qL 16 2 2,
 qL 17 17 7,
 qC 18 jN [.t 16,.t 17],
 .r 19 (.bsl 1 1 [.t 18]),
 .r 20 (.app 1 24 false (.t 15) (.t 19)),
 qm 5 20])))
 (.reg 6 none [2,5,9,10,11] [
 qa 21 11,
 qm 11 21])))))))
 (.seq
 (.reg 7 none [4] [
 qm 22 5,
 qC 23 jO [.t 22],
 qm 4 23])
 .ret))))
def qd1:List (Nat×List Nat):=qA yp
theorem qd2:FnIR Tryz.prog kQ 24 qd1 yp [(.tmp 4)]:=
 qF Tryz.func13
def jb:RC:=
 (.seq
 (.reg 0 none [0,1] [
 qi 4 0])
 (.seq
 (.seq
 (.reg 1 none [0,1,7,8] [
 qm 6 0,
 qn 7 6,
 qi 8 0])
 (.block 0
 (.loop
 (.seq
 (.reg 2 none [0,1,7,8,9] [
 qb 9 .lss 8 7])
 (.seq
 (qq 9
 .skip
 (.exit 0))
 (.seq
 (.block 1
 (.seq
 (.reg 3 none [0,1,5,7,8] [
 qm 10 8,
 qm 5 10])
 (.seq
 (.reg 4 none [0,1,5,7,8,16] [
 qm 11 1,
 qm 12 0,
 qm 13 5,
 qx 14 2 12 13,
 qL 15 2 14,
 .r 16 (.call (.t 11) [.t 15])])
 (qq 16
 (.seq
 (.reg 5 none [4] [
 qm 17 5,
 qm 4 17])
 .ret)
 .skip))))
 (.reg 6 none [0,1,7,8] [
 qa 18 8,
 qm 8 18])))))))
 (.seq
 (.reg 7 none [4] [
 .r 4 (.mv (.k (.v (.int .i64 (-1)))))])
 .ret)))
def QT:List (Nat×List Nat):=qA jb
theorem QU:FnIR Tryz.prog zm 19 QT jb [(.tmp 4)]:=
 qF Tryz.func14
def jF:RC:=
 (.seq
 (.reg 0 none [1,2] [
 .r 2 (.box (.t 0)),
 qc 3 false])
 (.seq
 (.reg 1 none [3] [
 qf 4 0 2,
 ql 5 4,
 ql 6 1,
 qb 7 .eql 5 6,
 qm 3 7])
 .ret))
def Jw:List (Nat×List Nat):=qA jF
theorem Jx:FnIR Tryz.prog zR 8 Jw jF [(.tmp 3)]:=
 qF Tryz.func15
def jl:RC:=
 (.seq
 (.reg 0 none [0,3] [
 .r 3 (.box (.t 1)),
 qc 4 false])
 (.seq
 (.reg 1 none [4] [
 qm 5 0,
 qL 6 2 3,
 qC 7 kv [.t 5,.t 6],
 qB 8 .geq 7 0,
 qm 4 8])
 .ret))
def Zt:List (Nat×List Nat):=qA jl
theorem Zu:FnIR Tryz.prog ju 9 Zt jl [(.tmp 4)]:=
 qF Tryz.func16
def kY:RC:=
 (.seq
 (.reg 0 none [2,3] [
 .r 2 (.box (.t 0)),
 .r 3 (.box (.t 1)),
 .r 4 (.mv (qN))])
 (.seq
 (.seq
 (.reg 1 none [2,3,15] [
 qL 12 2 2,
 qL 13 17 3,
 qC 14 zD [.t 12,.t 13],
 qB 15 .neq 14 0])
 (qq 15
 (.seq
 (.reg 2 none [4] [
 .r 4 (.mv (qN))])
 .ret)
 .skip))
 (.seq
 (.reg 3 none [2,3,5] [
 .r 5 (.mv (qN))])
 (.seq
 (.seq
 (.reg 4 none [2,3,5,17,18,19] [
 qf 16 8 3,
 ql 17 16,
 qn 18 17,
 qi 19 0])
 (.block 0
 (.loop
 (.seq
 (.reg 5 none [2,3,5,17,18,19,20] [
 qb 20 .lss 19 18])
 (.seq
 (qq 20
 .skip
 (.exit 0))
 (.seq
 (.block 1
 (.seq
 (.reg 6 none [2,3,5,7,17,18,19] [
 qx 21 2 17 19,
 qL 22 2 21,
 .r 7 (.new (.agg [.v (.int .i64 0),.v (.int .i64 0)])),
 qs 2 7 22])
 (.reg 7 (some [0,0,2,0,0,16,0,64,248,510,1022,2047,4095]) [2,3,5,17,18,19] [
 qm 23 5,
 qf 24 0 7,
 ql 25 24,
 qL 26 2 2,
 qf 27 0 7,
 ql 28 27,
 qf 29 1 7,
 ql 30 29,
 qC 31 wZ [.t 26,.t 28,.t 30],
 .r 32 (.build [.v (.int .i64 0),.v (.int .i64 0)] [((0,1),.t 25),((1,1),.t 31)]),
 .r 33 (.bsl 2 1 [.t 32]),
 .r 34 (.app 2 16 false (.t 23) (.t 33)),
 qm 5 34])))
 (.reg 8 none [2,3,5,17,18,19] [
 qa 35 19,
 qm 19 35])))))))
 (.seq
 (.seq
 (.reg 9 none [2,3,5,38,39] [
 qf 36 1 2,
 ql 37 36,
 qn 38 37,
 qi 39 0])
 (.block 2
 (.loop
 (.seq
 (.reg 10 none [2,3,5,38,39,40] [
 qb 40 .lss 39 38])
 (.seq
 (qq 40
 .skip
 (.exit 2))
 (.seq
 (.block 3
 (.seq
 (.reg 11 none [2,3,5,8,38,39] [
 qm 41 39,
 qm 8 41])
 (.seq
 (.reg 12 none [2,3,5,8,38,39,44] [
 qL 42 17 3,
 qm 43 8,
 qC 44 ko [.t 42,.t 43]])
 (qq 44
 (.reg 13 (some [0,0,0,0,0,0,48,124,254,510,1023,2047]) [2,3,5,38,39] [
 qm 45 5,
 qm 46 8,
 qL 47 2 2,
 qm 48 8,
 qL 49 2 2,
 qm 50 8,
 qC 51 zW [.t 49,.t 50],
 qC 52 wZ [.t 47,.t 48,.t 51],
 .r 53 (.build [.v (.int .i64 0),.v (.int .i64 0)] [((0,1),.t 46),((1,1),.t 52)]),
 .r 54 (.bsl 2 1 [.t 53]),
 .r 55 (.app 2 16 false (.t 45) (.t 54)),
 qm 5 55])
 .skip))))
 (.reg 14 none [2,3,5,38,39] [
 qa 56 39,
 qm 39 56])))))))
 (.seq
 (.reg 15 none [2,3,9] [
 qm 57 5,
 .r 58 (.bsl 1 1 [.t 57]),
 qm 9 58])
 (.seq
 (.seq
 (.reg 16 none [2,9,60,61,62] [
 qL 59 17 3,
 qC 60 jP [.t 59],
 qn 61 60,
 qi 62 0])
 (.block 4
 (.loop
 (.seq
 (.reg 17 none [2,9,60,61,62,63] [
 qb 63 .lss 62 61])
 (.seq
 (qq 63
 .skip
 (.exit 4))
 (.seq
 (.block 5
 (.seq
 (.reg 18 none [2,9,11,60,61,62] [
 qx 64 6 60 62,
 qL 65 6 64,
 .r 11 (.new (.agg [.v (.int .i64 0),.v (.int .i64 0),.v (.int .i64 0),.v (.int .i64 0),.v (.int .i64 0),.v (.slice none 0 0)])),
 qs 6 11 65])
 (.reg 19 none [2,9,60,61,62] [
 qm 66 9,
 qL 67 2 2,
 qL 68 6 11,
 qC 69 wD [.t 67,.t 68],
 .r 70 (.bsl 1 1 [.t 69]),
 .r 71 (.app 1 24 false (.t 66) (.t 70)),
 qm 9 71])))
 (.reg 20 none [2,9,60,61,62] [
 qa 72 62,
 qm 62 72])))))))
 (.seq
 (.reg 21 none [4] [
 qm 73 9,
 qC 74 jO [.t 73],
 qm 4 74])
 .ret))))))))
def WM:List (Nat×List Nat):=qA kY
theorem WN:FnIR Tryz.prog jN 75 WM kY [(.tmp 4)]:=
 qF Tryz.func17
def jm:RC:=
 (.seq
 (.reg 0 none [3,4,5,6] [
 .r 4 (.box (.t 0)),
 .r 5 (.box (.t 1)),
 .r 6 (.box (.t 2)),
 qi 8 0,
 qi 9 0])
 (.seq
 (.reg 1 (some [0,1,0,4,0,28,60,124,255,511,1023,2047,4095]) [3,4,5,6,10] [
 qf 15 0 4,
 ql 16 15,
 qf 17 1 4,
 ql 18 17,
 ql 19 6,
 qx 20 7 18 19,
 qf 21 2 20,
 ql 22 21,
 qx 23 2 16 22,
 qf 24 1 23,
 ql 25 24,
 qn 26 25,
 qm 10 26])
 (.seq
 (.reg 2 none [3,4,5,6,10,11] [
 qL 27 2 4,
 ql 28 6,
 qC 29 zW [.t 27,.t 28],
 .r 11 (.new (.v (.int .i64 0))),
 qs 1 11 29])
 (.seq
 (.reg 3 none [3,4,5,6,10,12] [
 .r 30 (.mf zX [.t 4,.t 6,.t 11]),
 qm 12 30])
 (.seq
 (.seq
 (.reg 4 none [3,4,5,6,10,12,31,32] [
 qm 31 10,
 qi 32 0])
 (.block 0
 (.loop
 (.seq
 (.reg 5 none [3,4,5,6,10,12,31,32,33] [
 qb 33 .lss 32 31])
 (.seq
 (qq 33
 .skip
 (.exit 0))
 (.seq
 (.block 1
 (.seq
 (.reg 6 none [3,4,5,6,10,12,13,31,32] [
 qm 34 32,
 qm 13 34])
 (.seq
 (.reg 7 none [3,4,5,6,10,12,13,14,31,32] [
 qm 35 13,
 qa 36 35,
 qm 14 36])
 (.block 2
 (.loop
 (.seq
 (.seq
 (.reg 8 none [3,4,5,6,10,12,13,14,31,32,44] [
 qm 37 14,
 qm 38 10,
 qb 39 .lss 37 38,
 qm 40 39,
 qmt 41 40 12,
 qmt 42 40 13,
 .rt 43 40 (.call (.t 41) [.t 42]),
 qp 44 40 43])
 (qq 44
 .skip
 (.exit 2)))
 (.seq
 (.block 3
 (.seq
 (.reg 10 (some [0,0,3,7,15,15,15,15,255,15,15,15,15,8191,16383,32767,65535,131071,131071,131071,131071,131071,4194303,8388607]) [3,4,5,6,10,12,13,14,31,32,70] [
 qm 47 12,
 qm 48 14,
 .r 49 (.call (.t 47) [.t 48]),
 qm 50 49,
 .rt 51 50 (.ld (some 2) (.t 4)),
 qlt 52 50 6,
 qmt 53 50 3,
 qmt 54 50 13,
 .rt 55 50 (.call (.k (.clo zY [])) [.t 51,.t 52,.t 53,.t 54]),
 .rt 56 50 (.ld (some 2) (.t 4)),
 qlt 57 50 6,
 qmt 58 50 3,
 qmt 59 50 14,
 .rt 60 50 (.call (.k (.clo zY [])) [.t 56,.t 57,.t 58,.t 59]),
 .rt 61 50 (.bin .eql false (.t 55) (.t 60)),
 qp 62 50 61,
 qm 63 62,
 .rt 64 63 (.ld (some 2) (.t 4)),
 .rt 65 63 (.ld (some 17) (.t 5)),
 qlt 66 63 6,
 qmt 67 63 13,
 qmt 68 63 14,
 .rt 69 63 (.call (.k (.clo yl [])) [.t 64,.t 65,.t 66,.t 67,.t 68]),
 qp 70 63 69])
 (qq 70
 (.seq
 (.reg 11 none [8,9] [
 qm 71 13,
 qm 72 14,
 qm 8 71,
 qm 9 72])
 .ret)
 .skip)))
 (.reg 9 none [3,4,5,6,10,12,13,14,31,32] [
 qm 45 14,
 qa 46 45,
 qm 14 46]))))))))
 (.reg 12 none [3,4,5,6,10,12,31,32] [
 qa 73 32,
 qm 32 73])))))))
 (.seq
 (.reg 13 none [8,9] [
 qi 8 0,
 qi 9 0])
 .ret))))))
def Zv:List (Nat×List Nat):=qA jm
theorem Zw:FnIR Tryz.prog jv 74 Zv jm [(.tmp 8),(.tmp 9)]:=
 qF Tryz.func18
def Qa:RC:=
 (.seq
 (.reg 0 none [1,2] [
 .r 2 (.box (.t 0)),
 qi 4 0])
 (.seq
 (.seq
 (.reg 1 none [1,2,5] [
 qL 9 2 2,
 qC 10 zr [.t 9],
 qm 5 10])
 (.seq
 (.reg 2 none [1,2,5,12] [
 qm 11 5,
 qB 12 .neq 11 0])
 (qq 12
 (.seq
 (.reg 3 none [4] [
 qm 13 5,
 qm 4 13])
 .ret)
 .skip)))
 (.seq
 (.seq
 (.reg 4 none [1,2,14,15,16] [
 qm 14 1,
 qn 15 14,
 qi 16 0])
 (.block 0
 (.loop
 (.seq
 (.reg 5 none [1,2,14,15,16,17] [
 qb 17 .lss 16 15])
 (.seq
 (qq 17
 .skip
 (.exit 0))
 (.seq
 (.block 1
 (.seq
 (.reg 6 none [1,2,6,7,14,15,16] [
 qm 18 16,
 qx 19 2 14 16,
 qL 20 2 19,
 .r 7 (.new (.agg [.v (.int .i64 0),.v (.int .i64 0)])),
 qm 6 18,
 qs 2 7 20])
 (.seq
 (.seq
 (.reg 7 none [1,2,6,7,8,14,15,16] [
 qL 21 2 2,
 qL 22 2 7,
 qC 23 yH [.t 21,.t 22],
 qm 8 23])
 (.seq
 (.reg 8 none [1,2,6,7,8,14,15,16,25] [
 qm 24 8,
 qB 25 .neq 24 0])
 (qq 25
 (.seq
 (.reg 9 none [4] [
 qm 26 8,
 qm 4 26])
 .ret)
 .skip)))
 (.seq
 (.reg 10 (some [0,1,3,7,15,7,7,71,231,487,999,2047,4095]) [1,2,14,15,16,39] [
 qm 27 6,
 qB 28 .gtr 27 0,
 qm 29 28,
 qft 30 29 0 7,
 qlt 31 29 30,
 qmt 32 29 1,
 qmt 33 29 6,
 .rt 34 29 (.bin .sub false (.t 33) (qI 1)),
 .rt 35 29 (.ixL 2 (.t 32) (.t 34)),
 qft 36 29 0 35,
 qlt 37 29 36,
 .rt 38 29 (.bin .leq false (.t 31) (.t 37)),
 qp 39 29 38])
 (qq 39
 (.seq
 (.reg 11 none [4] [
 qi 4 10])
 .ret)
 .skip)))))
 (.reg 12 none [1,2,14,15,16] [
 qa 40 16,
 qm 16 40])))))))
 (.seq
 (.reg 13 none [4] [
 qi 4 0])
 .ret))))
def qk1:List (Nat×List Nat):=qA Qa
theorem qk2:FnIR Tryz.prog QC 41 qk1 Qa [(.tmp 4)]:=
 qF Tryz.func20
def zy:RC:=
 (.seq
 (.reg 0 none [0,1] [
 qc 4 false])
 (.seq
 (.reg 1 none [4] [
 qm 5 0,
 qm 6 1,
 qC 7 zm [.t 5,.t 6],
 qB 8 .geq 7 0,
 qm 4 8])
 .ret))
def Qc:List (Nat×List Nat):=qA zy
theorem Qd:FnIR Tryz.prog qT 9 Qc zy [(.tmp 4)]:=
 qF Tryz.func21
def jG:RC:=
 (.seq
 (.reg 0 none [1,2] [
 .r 2 (.box (.t 0)),
 qc 3 false])
 (.seq
 (.reg 1 none [3] [
 ql 4 1,
 .r 5 (.mf zC [.t 2]),
 qC 6 qT [.t 4,.t 5],
 .r 7 (.un .not (.t 6)),
 qm 3 7])
 .ret))
def Jy:List (Nat×List Nat):=qA jG
theorem Jz:FnIR Tryz.prog zS 8 Jy jG [(.tmp 3)]:=
 qF Tryz.func22
def jn:RC:=
 (.seq
 (.reg 0 none [1,2] [
 .r 2 (.box (.t 0)),
 qc 3 false])
 (.seq
 (.reg 1 none [3] [
 qf 4 0 2,
 ql 5 4,
 qf 6 0 1,
 ql 7 6,
 qb 8 .eql 5 7,
 qm 9 8,
 qft 10 9 1 2,
 qlt 11 9 10,
 qft 12 9 1 1,
 qlt 13 9 12,
 .rt 14 9 (.bin .geq false (.t 11) (.t 13)),
 qp 15 9 14,
 qm 3 15])
 .ret))
def Zx:List (Nat×List Nat):=qA jn
theorem Zy:FnIR Tryz.prog zC 16 Zx jn [(.tmp 3)]:=
 qF Tryz.func23
def Qe:RC:=
 (.seq
 (.reg 0 none [1] [
 .r 1 (.box (.t 0)),
 qi 2 0])
 (.seq
 (.seq
 (.reg 1 none [1,17] [
 qf 8 0 1,
 ql 9 8,
 qn 10 9,
 qB 11 .gtr 10 6,
 qm 12 11,
 qff 13 12 1 1,
 qlf 14 12 13,
 .rf 15 12 (.lenL (.t 14)),
 .rf 16 12 (.bin .gtr false (.t 15) (qI 8)),
 qP 17 12 16])
 (qq 17
 (.seq
 (.reg 2 none [2] [
 qi 2 1])
 .ret)
 .skip))
 (.seq
 (.seq
 (.reg 3 none [1,19,20,21] [
 qf 18 0 1,
 ql 19 18,
 qn 20 19,
 qi 21 0])
 (.block 0
 (.loop
 (.seq
 (.reg 4 none [1,19,20,21,22] [
 qb 22 .lss 21 20])
 (.seq
 (qq 22
 .skip
 (.exit 0))
 (.seq
 (.block 1
 (.seq
 (.reg 5 none [1,3,4,19,20,21] [
 qm 23 21,
 qx 24 2 19 21,
 qL 25 2 24,
 .r 4 (.new (.agg [.v (.string ⟨#[]⟩),.v (.slice none 0 0)])),
 qm 3 23,
 qs 2 4 25])
 (.seq
 (.seq
 (.reg 6 none [1,3,4,5,19,20,21] [
 qL 26 2 4,
 qC 27 jQ [.t 26],
 qm 5 27])
 (.seq
 (.reg 7 none [1,3,4,5,19,20,21,29] [
 qm 28 5,
 qB 29 .neq 28 0])
 (qq 29
 (.seq
 (.reg 8 none [2] [
 qm 30 5,
 qm 2 30])
 .ret)
 .skip)))
 (.seq
 (.reg 9 none [1,19,20,21,36] [
 qf 31 0 1,
 ql 32 31,
 qm 33 3,
 .r 34 (.slL 2 (.t 32) none (some (.t 33))),
 .r 35 (.mf kp [.t 4]),
 qC 36 zf [.t 34,.t 35]])
 (qq 36
 (.seq
 (.reg 10 none [2] [
 qi 2 10])
 .ret)
 .skip)))))
 (.reg 11 none [1,19,20,21] [
 qa 37 21,
 qm 21 37])))))))
 (.seq
 (.seq
 (.reg 12 none [1,49] [
 qf 38 1 1,
 ql 39 38,
 qn 40 39,
 qB 41 .eql 40 0,
 qm 42 41,
 qff 43 42 1 1,
 qlf 44 42 43,
 .rf 45 42 (.ixL 7 (.t 44) (qI 0)),
 qff 46 42 1 45,
 qlf 47 42 46,
 .rf 48 42 (.bin .neq false (.t 47) (qI 1)),
 qP 49 42 48])
 (qq 49
 (.seq
 (.reg 13 none [2] [
 qi 2 7])
 .ret)
 .skip))
 (.seq
 (.seq
 (.reg 14 none [1,52,53] [
 qf 50 1 1,
 ql 51 50,
 qn 52 51,
 qi 53 0])
 (.block 2
 (.loop
 (.seq
 (.reg 15 none [1,52,53,54] [
 qb 54 .lss 53 52])
 (.seq
 (qq 54
 .skip
 (.exit 2))
 (.seq
 (.block 3
 (.seq
 (.reg 16 none [1,6,52,53] [
 qm 55 53,
 qm 6 55])
 (.seq
 (.reg 17 none [1,7,52,53] [
 qL 56 2 1,
 qm 57 6,
 qC 58 jU [.t 56,.t 57],
 qm 7 58])
 (.seq
 (.reg 18 none [1,7,52,53,60] [
 qm 59 7,
 qB 60 .neq 59 0])
 (qq 60
 (.seq
 (.reg 19 none [2] [
 qm 61 7,
 qm 2 61])
 .ret)
 .skip)))))
 (.reg 20 none [1,52,53] [
 qa 62 53,
 qm 53 62])))))))
 (.seq
 (.reg 21 none [2] [
 qi 2 0])
 .ret))))))
def qk3:List (Nat×List Nat):=qA Qe
theorem qk4:FnIR Tryz.prog zr 63 qk3 Qe [(.tmp 2)]:=
 qF Tryz.func24
def Zz:RC:=
 (.seq
 (.reg 0 none [0] [
 qc 2 false])
 (.seq
 (.seq
 (.reg 1 none [0,22] [
 qm 5 0,
 .r 6 (.lenS (.t 5)),
 qB 7 .lss 6 1,
 qm 8 7,
 qmf 9 8 0,
 .rf 10 8 (.lenS (.t 9)),
 .rf 11 8 (.bin .gtr false (.t 10) (qI 16)),
 qP 12 8 11,
 qm 13 12,
 qmf 14 13 0,
 .rf 15 13 (.sx (.t 14) (qI 0)),
 .rf 16 13 (.bin .lss false (.t 15) (.k (.v (.int .u8 97)))),
 qP 17 13 16,
 qm 18 17,
 qmf 19 18 0,
 .rf 20 18 (.sx (.t 19) (qI 0)),
 .rf 21 18 (.bin .gtr false (.t 20) (.k (.v (.int .u8 122)))),
 qP 22 18 21])
 (qq 22
 (.seq
 (.reg 2 none [2] [
 qc 2 false])
 .ret)
 .skip))
 (.seq
 (.seq
 (.reg 3 none [0,24,25,26] [
 qm 23 0,
 .r 24 (.cvSB (.t 23)),
 qn 25 24,
 qi 26 0])
 (.block 0
 (.loop
 (.seq
 (.reg 4 none [0,24,25,26,27] [
 qb 27 .lss 26 25])
 (.seq
 (qq 27
 .skip
 (.exit 0))
 (.seq
 (.block 1
 (.seq
 (.reg 5 none [0,4,24,25,26] [
 qx 28 1 24 26,
 ql 29 28,
 qm 4 29])
 (.seq
 (.reg 6 none [0,24,25,26,47] [
 qm 30 4,
 .r 31 (.bin .lss false (.t 30) (.k (.v (.int .u8 97)))),
 qm 32 31,
 qmf 33 32 4,
 .rf 34 32 (.bin .gtr false (.t 33) (.k (.v (.int .u8 122)))),
 qP 35 32 34,
 qm 36 35,
 qmt 37 36 4,
 .rt 38 36 (.bin .lss false (.t 37) (.k (.v (.int .u8 48)))),
 qmt 39 36 38,
 qmf 40 39 4,
 .rf 41 39 (.bin .gtr false (.t 40) (.k (.v (.int .u8 57)))),
 .rt 42 36 (.pick (.t 39) (.k (.v (.bool true))) (.t 41)),
 qp 43 36 42,
 qm 44 43,
 qmt 45 44 4,
 .rt 46 44 (.bin .neq false (.t 45) (.k (.v (.int .u8 95)))),
 qp 47 44 46])
 (qq 47
 (.seq
 (.reg 7 none [2] [
 qc 2 false])
 .ret)
 .skip))))
 (.reg 8 none [0,24,25,26] [
 qa 48 26,
 qm 26 48])))))))
 (.seq
 (.seq
 (.reg 9 none [49] [
 qm 49 0])
 (.block 2
 (.seq
 (.seq
 (.reg 10 none [49,50] [
 .r 51 (.bin .eql false (.t 49) (.k (.v (.string ⟨#[97,108,108]⟩)))),
 qm 50 51])
 (qq 50
 .skip
 (.seq
 (.reg 11 none [49,50] [
 .r 52 (.bin .eql false (.t 49) (.k (.v (.string ⟨#[97,110,100]⟩)))),
 qm 50 52])
 (qq 50
 .skip
 (.seq
 (.reg 12 none [49,50] [
 .r 53 (.bin .eql false (.t 49) (.k (.v (.string ⟨#[101,118,101,110,116]⟩)))),
 qm 50 53])
 (qq 50
 .skip
 (.seq
 (.reg 13 none [49,50] [
 .r 54 (.bin .eql false (.t 49) (.k (.v (.string ⟨#[102,114,111,109]⟩)))),
 qm 50 54])
 (qq 50
 .skip
 (.seq
 (.reg 14 none [49,50] [
 .r 55 (.bin .eql false (.t 49) (.k (.v (.string ⟨#[109,105,115,115,105,110,103]⟩)))),
 qm 50 55])
 (qq 50
 .skip
 (.seq
 (.reg 15 none [49,50] [
 .r 56 (.bin .eql false (.t 49) (.k (.v (.string ⟨#[110,111,116]⟩)))),
 qm 50 56])
 (qq 50
 .skip
 (.seq
 (.reg 16 none [49,50] [
 .r 57 (.bin .eql false (.t 49) (.k (.v (.string ⟨#[111,110]⟩)))),
 qm 50 57])
 (qq 50
 .skip
 (.seq
 (.reg 17 none [49,50] [
 .r 58 (.bin .eql false (.t 49) (.k (.v (.string ⟨#[111,114]⟩)))),
 qm 50 58])
 (qq 50
 .skip
 (.seq
 (.reg 18 none [49,50] [
 .r 59 (.bin .eql false (.t 49) (.k (.v (.string ⟨#[116,111]⟩)))),
 qm 50 59])
 (qq 50
 .skip
 (.seq
 (.reg 19 none [49,50] [
 .r 60 (.bin .eql false (.t 49) (.k (.v (.string ⟨#[117,110,100,101,114]⟩)))),
 qm 50 60])
 (qq 50
 .skip
 (.reg 20 none [50] [
 .r 61 (.bin .eql false (.t 49) (.k (.v (.string ⟨#[119,104,101,114,101]⟩)))),
 qm 50 61])))))))))))))))))))))
 (qq 50
 (.seq
 (.reg 21 none [2] [
 qc 2 false])
 .ret)
 .skip))))
 (.seq
 (.reg 22 none [2] [
 qc 2 true])
 .ret)))))
def qw3:List (Nat×List Nat):=qA Zz
theorem qw4:FnIR Tryz.prog jg 62 qw3 Zz [(.tmp 2)]:=
 qF Tryz.func25
def kZ:RC:=
 (.seq
 (.reg 0 none [2,3] [
 .r 2 (.box (.t 0)),
 .r 3 (.box (.t 1)),
 qi 4 0])
 (.seq
 (.seq
 (.reg 1 none [2,3,5] [
 qL 6 2 2,
 qC 7 zr [.t 6],
 qm 5 7])
 (.block 0
 (.seq
 (.reg 2 none [2,3,5,8] [
 qm 9 5,
 qB 10 .neq 9 0,
 qm 8 10])
 (qq 8
 (.seq
 (.reg 3 none [4] [
 qm 11 5,
 qm 4 11])
 .ret)
 (.seq
 (.reg 4 none [2,3,12] [
 qL 13 6 3,
 qC 14 jR [.t 13,qI 40],
 qB 15 .gtr 14 40,
 qm 12 15])
 (qq 12
 (.seq
 (.reg 5 none [4] [
 qi 4 1])
 .ret)
 (.seq
 (.reg 6 none [2,3,16] [
 qL 17 6 3,
 qC 18 kr [.t 17],
 qB 19 .gtr 18 10,
 qm 16 19])
 (qq 16
 (.seq
 (.reg 7 none [4] [
 qi 4 22])
 .ret)
 .skip))))))))
 (.seq
 (.reg 8 none [4] [
 qL 20 2 2,
 qL 21 6 3,
 qC 22 zT [.t 20,.t 21],
 qm 4 22])
 .ret)))
def WO:List (Nat×List Nat):=qA kZ
theorem WQ:FnIR Tryz.prog zt 23 WO kZ [(.tmp 4)]:=
 qF Tryz.func26
def jo:RC:=
 (.seq
 (.reg 0 none [2,3] [
 .r 2 (.box (.t 0)),
 .r 3 (.box (.t 1)),
 qi 4 0])
 (.seq
 (.seq
 (.reg 1 none [2,3,5] [
 qL 7 2 2,
 qC 8 zr [.t 7],
 qm 5 8])
 (.block 0
 (.seq
 (.reg 2 none [2,3,5,9] [
 qm 10 5,
 qB 11 .neq 10 0,
 qm 9 11])
 (qq 9
 (.seq
 (.reg 3 none [4] [
 qm 12 5,
 qm 4 12])
 .ret)
 (.seq
 (.reg 4 none [2,3,13] [
 qf 14 0 3,
 ql 15 14,
 qC 16 jg [.t 15],
 .r 17 (.un .not (.t 16)),
 qm 13 17])
 (qq 13
 (.seq
 (.reg 5 none [4] [
 qi 4 3])
 .ret)
 (.seq
 (.reg 6 none [2,3,18] [
 qf 19 1 3,
 ql 20 19,
 qB 21 .lss 20 1,
 qm 22 21,
 qff 23 22 1 3,
 qlf 24 22 23,
 .rf 25 22 (.bin .gtr false (.t 24) (qI 3)),
 qP 26 22 25,
 qm 18 26])
 (qq 18
 (.seq
 (.reg 7 none [4] [
 qi 4 4])
 .ret)
 .skip))))))))
 (.seq
 (.seq
 (.reg 8 none [2,3,6] [
 qL 27 2 2,
 qf 28 2 3,
 qL 29 6 28,
 qC 30 zt [.t 27,.t 29],
 qm 6 30])
 (.seq
 (.reg 9 none [2,3,6,32] [
 qm 31 6,
 qB 32 .neq 31 0])
 (qq 32
 (.seq
 (.reg 10 none [4] [
 qm 33 6,
 qm 4 33])
 .ret)
 .skip)))
 (.seq
 (.seq
 (.reg 11 none [2,3,35] [
 qf 34 1 3,
 ql 35 34])
 (.block 1
 (.seq
 (.reg 12 none [2,3,35,36] [
 qB 37 .eql 35 1,
 qm 36 37])
 (qq 36
 (.seq
 (.reg 13 none [4] [
 qL 38 2 2,
 qL 39 17 3,
 qC 40 ky [.t 38,.t 39],
 qm 4 40])
 .ret)
 (.seq
 (.reg 14 none [2,3,41] [
 qB 42 .eql 35 2,
 qm 41 42])
 (qq 41
 (.seq
 (.reg 15 none [4] [
 qL 43 2 2,
 qL 44 17 3,
 qC 45 kz [.t 43,.t 44],
 qm 4 45])
 .ret)
 .skip))))))
 (.seq
 (.reg 16 none [4] [
 qL 46 2 2,
 qL 47 17 3,
 qC 48 kA [.t 46,.t 47],
 qm 4 48])
 .ret)))))
def ZA:List (Nat×List Nat):=qA jo
theorem ZB:FnIR Tryz.prog zD 49 ZA jo [(.tmp 4)]:=
 qF Tryz.func27
def zb:RC:=
 (.seq
 (.reg 0 none [0,1] [
 qc 4 false])
 (.seq
 (.reg 1 none [4] [
 qm 5 0,
 qm 6 1,
 qC 7 zw [.t 5,.t 6],
 qB 8 .geq 7 0,
 qm 4 8])
 .ret))
def wI:List (Nat×List Nat):=qA zb
theorem wJ:FnIR Tryz.prog ze 9 wI zb [(.tmp 4)]:=
 qF Tryz.func28
def jw:RC:=
 (.seq
 (.reg 0 none [1,2] [
 .r 2 (.box (.t 0)),
 qc 3 false])
 (.seq
 (.reg 1 none [3] [
 qf 4 0 2,
 ql 5 4,
 qf 6 0 1,
 ql 7 6,
 qb 8 .eql 5 7,
 qm 3 8])
 .ret))
def ZU:List (Nat×List Nat):=qA jw
theorem ZV:FnIR Tryz.prog zL 9 ZU jw [(.tmp 3)]:=
 qF Tryz.func29
def wg:RC:=
 (.seq
 (.reg 0 none [0] [
 .r 2 (.mv (qN))])
 (.seq
 (.reg 1 none [0,3,4] [
 .r 11 (.ext (.mkm .ii) []),
 qm 3 11,
 qi 4 0])
 (.seq
 (.seq
 (.reg 2 none [3,4,12,13,14] [
 qm 12 0,
 qn 13 12,
 qi 14 0])
 (.block 0
 (.loop
 (.seq
 (.reg 3 none [3,4,12,13,14,15] [
 qb 15 .lss 14 13])
 (.seq
 (qq 15
 .skip
 (.exit 0))
 (.seq
 (.block 1
 (.seq
 (.reg 4 none [3,4,6,12,13,14] [
 qx 16 1 12 14,
 ql 17 16,
 qm 6 17])
 (.seq
 (.reg 5 none [3,4,12,13,14,18,19,20] [
 qm 18 6,
 qn 19 18,
 qi 20 0])
 (.block 2
 (.loop
 (.seq
 (.reg 6 none [3,4,12,13,14,18,19,20,21] [
 qb 21 .lss 20 19])
 (.seq
 (qq 21
 .skip
 (.exit 2))
 (.seq
 (.block 3
 (.seq
 (.reg 7 none [3,4,8,12,13,14,18,19,20] [
 qx 22 2 18 20,
 qL 23 2 22,
 .r 8 (.new (.agg [.v (.int .i64 0),.v (.int .i64 0)])),
 qs 2 8 23])
 (.reg 8 (some [0,0,2,0,0,16,56,0,128,504,0,0,2048,7168,1023,32767]) [3,4,12,13,14,18,19,20] [
 qm 24 3,
 qf 25 0 8,
 ql 26 25,
 qm 27 3,
 qf 28 0 8,
 ql 29 28,
 .r 30 (.ext (.mget .ii false) [.t 27,.t 29]),
 qf 31 1 8,
 ql 32 31,
 .r 33 (.mx [.t 30,.t 32]),
 qm 34 4,
 qf 35 0 8,
 ql 36 35,
 .r 37 (.mx [.t 34,.t 36]),
 .rn (.ext (.mput .ii) [.t 24,.t 26,.t 33]),
 qm 4 37])))
 (.reg 9 none [3,4,12,13,14,18,19,20] [
 qa 38 20,
 qm 20 38])))))))))
 (.reg 10 none [3,4,12,13,14] [
 qa 39 14,
 qm 14 39])))))))
 (.seq
 (.reg 11 none [3,4,9] [
 .r 9 (.mv (qN))])
 (.seq
 (.seq
 (.reg 12 none [3,9,41,42] [
 qm 40 4,
 qa 41 40,
 qi 42 0])
 (.block 4
 (.loop
 (.seq
 (.reg 13 none [3,9,41,42,43] [
 qb 43 .lss 42 41])
 (.seq
 (qq 43
 .skip
 (.exit 4))
 (.seq
 (.block 5
 (.seq
 (.reg 14 none [3,9,10,41,42] [
 qm 44 42,
 qm 10 44])
 (.seq
 (.reg 15 none [3,9,10,41,42,48] [
 qm 45 3,
 qm 46 10,
 .r 47 (.ext (.mget .ii false) [.t 45,.t 46]),
 qB 48 .gtr 47 0])
 (qq 48
 (.reg 16 none [3,9,41,42] [
 qm 49 9,
 qm 50 10,
 qm 51 3,
 qm 52 10,
 .r 53 (.ext (.mget .ii false) [.t 51,.t 52]),
 .r 54 (.build [.v (.int .i64 0),.v (.int .i64 0)] [((0,1),.t 50),((1,1),.t 53)]),
 .r 55 (.bsl 2 1 [.t 54]),
 .r 56 (.app 2 16 false (.t 49) (.t 55)),
 qm 9 56])
 .skip))))
 (.reg 17 none [3,9,41,42] [
 qa 57 42,
 qm 42 57])))))))
 (.seq
 (.reg 18 none [2] [
 qm 58 9,
 qm 2 58])
 .ret))))))
def WR:List (Nat×List Nat):=qA wg
theorem WS:FnIR Tryz.prog jO 59 WR wg [(.tmp 2)]:=
 qF Tryz.func30
def jY:RC:=
 (.seq
 (.reg 0 none [0,3] [
 .r 3 (.box (.t 1)),
 qi 4 0])
 (.seq
 (.seq
 (.reg 1 none [0,3,7,8] [
 qm 6 0,
 qn 7 6,
 qi 8 0])
 (.block 0
 (.loop
 (.seq
 (.reg 2 none [0,3,7,8,9] [
 qb 9 .lss 8 7])
 (.seq
 (qq 9
 .skip
 (.exit 0))
 (.seq
 (.block 1
 (.seq
 (.reg 3 none [0,3,5,7,8] [
 qm 10 8,
 qm 5 10])
 (.seq
 (.reg 4 (some [0,0,0,6,14,31]) [0,3,5,7,8,16] [
 qL 11 2 3,
 qm 12 0,
 qm 13 5,
 qx 14 2 12 13,
 qL 15 2 14,
 .r 16 (.ext (.eqS false [.i .i64,.i .i64]) [.t 11,.t 15])])
 (qq 16
 (.seq
 (.reg 5 none [4] [
 qm 17 5,
 qm 4 17])
 .ret)
 .skip))))
 (.reg 6 none [0,3,7,8] [
 qa 18 8,
 qm 8 18])))))))
 (.seq
 (.reg 7 none [4] [
 .r 4 (.mv (.k (.v (.int .i64 (-1)))))])
 .ret)))
def Kk:List (Nat×List Nat):=qA jY
theorem Kl:FnIR Tryz.prog kv 19 Kk jY [(.tmp 4)]:=
 qF Tryz.func31
def Qf:RC:=
 (.seq
 (.reg 0 none [1,2,3] [
 .r 3 (.box (.t 0)),
 qi 6 0])
 (.seq
 (.seq
 (.reg 1 none [1,2,3,7] [
 qL 8 2 3,
 qm 9 1,
 qC 10 zW [.t 8,.t 9],
 qm 7 10])
 (.seq
 (.reg 2 none [1,2,3,17] [
 qm 11 2,
 qB 12 .lss 11 0,
 qm 13 12,
 qmf 14 13 2,
 qmf 15 13 7,
 .rf 16 13 (.bin .gtr false (.t 14) (.t 15)),
 qP 17 13 16])
 (qq 17
 (.seq
 (.reg 3 none [6] [
 .r 6 (.mv (.k (.v (.int .i64 (-1)))))])
 .ret)
 .skip)))
 (.seq
 (.block 0
 (.loop
 (.seq
 (.seq
 (.reg 4 (some [0,1,3,7,7,7,39,127,7,7,7,2047,4095,8191]) [1,2,3,31] [
 qm 18 2,
 qB 19 .gtr 18 0,
 qm 20 19,
 .rt 21 20 (.ld (some 2) (.t 3)),
 qmt 22 20 1,
 qmt 23 20 2,
 .rt 24 20 (.bin .sub false (.t 23) (qI 1)),
 .rt 25 20 (.call (.k (.clo kR [])) [.t 21,.t 22,.t 24]),
 .rt 26 20 (.ld (some 2) (.t 3)),
 qmt 27 20 1,
 qmt 28 20 2,
 .rt 29 20 (.call (.k (.clo kR [])) [.t 26,.t 27,.t 28]),
 .rt 30 20 (.bin .eql false (.t 25) (.t 29)),
 qp 31 20 30])
 (qq 31
 .skip
 (.exit 0)))
 (.block 1
 (.reg 5 none [1,2,3] [
 qm 32 2,
 qB 33 .sub 32 1,
 qm 2 33])))))
 (.seq
 (.reg 6 none [6] [
 qm 34 2,
 qm 6 34])
 .ret))))
def qk5:List (Nat×List Nat):=qA Qf
theorem qk6:FnIR Tryz.prog wZ 35 qk5 Qf [(.tmp 6)]:=
 qF Tryz.func32
def wK:RC:=
 (.seq
 (.reg 0 none [1,2] [
 .r 2 (.box (.t 0)),
 qc 4 false])
 (.seq
 (.reg 1 none [4] [
 qm 5 1,
 qB 6 .gtr 5 0,
 qm 7 6,
 qft 8 7 9 2,
 qlt 9 7 8,
 qmt 10 7 1,
 .rt 11 7 (.bin .eql false (.t 9) (.t 10)),
 qmt 12 7 11,
 qff 13 12 10 2,
 qlf 14 12 13,
 qmf 15 12 1,
 .rf 16 12 (.call (.k (.clo zM [])) [.t 14,.t 15]),
 .rt 17 7 (.pick (.t 12) (.k (.v (.bool true))) (.t 16)),
 qp 18 7 17,
 qm 4 18])
 .ret))
def YL:List (Nat×List Nat):=qA wK
theorem YM:FnIR Tryz.prog ko 19 YL wK [(.tmp 4)]:=
 qF Tryz.func33
def yq:RC:=
 (.seq
 (.reg 0 none [1,2] [
 .r 2 (.box (.t 0)),
 qi 4 0])
 (.seq
 (.seq
 (.reg 1 none [1,2,7] [
 qL 5 2 2,
 qC 6 zr [.t 5],
 qB 7 .neq 6 0])
 (qq 7
 (.seq
 (.reg 2 none [4] [
 .r 4 (.mv (.k (.v (.int .i64 (-1)))))])
 .ret)
 .skip))
 (.seq
 (.reg 3 none [4] [
 qL 8 2 2,
 qm 9 1,
 qC 10 jD [.t 8,.t 9],
 qm 4 10])
 .ret)))
def qd3:List (Nat×List Nat):=qA yq
theorem qd4:FnIR Tryz.prog zW 11 qd3 yq [(.tmp 4)]:=
 qF Tryz.func34
def wh:RC:=
 (.seq
 (.reg 0 none [1] [
 .r 1 (.box (.t 0)),
 .r 2 (.mv (qN))])
 (.seq
 (.seq
 (.reg 1 none [1,5] [
 qf 3 1 1,
 ql 4 3,
 qB 5 .eql 4 3])
 (qq 5
 (.seq
 (.reg 2 none [2] [
 qf 6 2 1,
 qL 7 6 6,
 qf 8 11 1,
 qL 9 6 8,
 .r 10 (.bsl 6 2 [.t 7,.t 9]),
 qm 2 10])
 .ret)
 .skip))
 (.seq
 (.reg 3 none [2] [
 qf 11 2 1,
 qL 12 6 11,
 .r 13 (.bsl 6 1 [.t 12]),
 qm 2 13])
 .ret)))
def WT:List (Nat×List Nat):=qA wh
theorem WU:FnIR Tryz.prog jP 14 WT wh [(.tmp 2)]:=
 qF Tryz.func35
def wi:RC:=
 (.seq
 (.reg 0 none [2,3] [
 .r 2 (.box (.t 0)),
 .r 3 (.box (.t 1)),
 .r 4 (.mv (qN))])
 (.seq
 (.seq
 (.reg 1 none [2,3,15] [
 qL 12 2 2,
 qL 13 6 3,
 qC 14 zt [.t 12,.t 13],
 qB 15 .neq 14 0])
 (qq 15
 (.seq
 (.reg 2 none [4] [
 .r 4 (.mv (qN))])
 .ret)
 .skip))
 (.seq
 (.reg 3 none [2,3,5] [
 qf 16 1 2,
 ql 17 16,
 qn 18 17,
 .r 19 (.mk 1 8 (.v (.int .i64 0)) (.t 18) (.t 18)),
 qm 5 19])
 (.seq
 (.seq
 (.reg 4 none [2,5,21,22,23] [
 qL 20 6 3,
 qC 21 zZ [.t 20],
 qn 22 21,
 qi 23 0])
 (.block 0
 (.loop
 (.seq
 (.reg 5 none [2,5,21,22,23,24] [
 qb 24 .lss 23 22])
 (.seq
 (qq 24
 .skip
 (.exit 0))
 (.seq
 (.block 1
 (.seq
 (.reg 6 none [2,5,7,21,22,23] [
 qx 25 6 21 23,
 qL 26 6 25,
 .r 7 (.new (.agg [.v (.int .i64 0),.v (.int .i64 0),.v (.int .i64 0),.v (.int .i64 0),.v (.int .i64 0),.v (.slice none 0 0)])),
 qs 6 7 26])
 (.seq
 (.reg 7 none [2,5,7,8,21,22,23] [
 qi 8 0])
 (.seq
 (.block 2
 (.loop
 (.seq
 (.seq
 (.reg 8 none [2,5,7,8,21,22,23,31] [
 qL 27 2 2,
 qL 28 6 7,
 qm 29 8,
 qC 30 jV [.t 27,.t 28,.t 29],
 .r 31 (.un .not (.t 30))])
 (qq 31
 .skip
 (.exit 2)))
 (.block 3
 (.reg 9 none [2,5,7,8,21,22,23] [
 qm 32 8,
 qa 33 32,
 qm 8 33])))))
 (.reg 10 (some [0,0,2,0,0,16,56,120,0,504,1023,2047]) [2,5,21,22,23] [
 qm 34 5,
 qf 35 1 7,
 ql 36 35,
 qm 37 5,
 qf 38 1 7,
 ql 39 38,
 qx 40 1 37 39,
 ql 41 40,
 qm 42 8,
 .r 43 (.mx [.t 41,.t 42]),
 qx 44 1 34 36,
 qs 1 44 43])))))
 (.reg 11 none [2,5,21,22,23] [
 qa 45 23,
 qm 23 45])))))))
 (.seq
 (.reg 12 none [5,9] [
 .r 9 (.mv (qN))])
 (.seq
 (.seq
 (.reg 13 none [9,46,47,48] [
 qm 46 5,
 qn 47 46,
 qi 48 0])
 (.block 4
 (.loop
 (.seq
 (.reg 14 none [9,46,47,48,49] [
 qb 49 .lss 48 47])
 (.seq
 (qq 49
 .skip
 (.exit 4))
 (.seq
 (.block 5
 (.seq
 (.reg 15 none [9,10,11,46,47,48] [
 qm 50 48,
 qx 51 1 46 48,
 ql 52 51,
 qm 10 50,
 qm 11 52])
 (.seq
 (.reg 16 none [9,10,11,46,47,48,54] [
 qm 53 11,
 qB 54 .gtr 53 0])
 (qq 54
 (.reg 17 none [9,46,47,48] [
 qm 55 9,
 qm 56 10,
 qm 57 11,
 .r 58 (.build [.v (.int .i64 0),.v (.int .i64 0)] [((0,1),.t 56),((1,1),.t 57)]),
 .r 59 (.bsl 2 1 [.t 58]),
 .r 60 (.app 2 16 false (.t 55) (.t 59)),
 qm 9 60])
 .skip))))
 (.reg 18 none [9,46,47,48] [
 qa 61 48,
 qm 48 61])))))))
 (.seq
 (.reg 19 none [4] [
 qm 62 9,
 qm 4 62])
 .ret)))))))
def WV:List (Nat×List Nat):=qA wi
theorem WW:FnIR Tryz.prog wD 63 WV wi [(.tmp 4)]:=
 qF Tryz.func36
def zQ:RC:=
 (.seq
 (.reg 0 none [0,1,2,3] [
 qc 5 false])
 (.seq
 (.reg 1 none [7] [
 qL 9 2 1,
 ql 10 2,
 ql 11 3,
 qm 12 0,
 ql 13 3,
 qC 14 yW [.t 9,.t 10,.t 11,.t 12,.t 13],
 qm 8 14,
 .r 15 (.ex (.t 8) 0),
 .r 16 (.ex (.t 8) 1),
 qm 6 15,
 qm 7 16])
 (.seq
 (.reg 2 none [5] [
 qm 17 7,
 qm 5 17])
 .ret)))
def QE:List (Nat×List Nat):=qA zQ
theorem QF:FnIR Tryz.prog zX 18 QE zQ [(.tmp 5)]:=
 qF Tryz.func37
def yr:RC:=
 (.seq
 (.reg 0 none [1,2,3,4,5] [
 .r 5 (.box (.t 0)),
 qi 10 0,
 qc 11 false])
 (.seq
 (.reg 1 none [1,2,3,4,5,12] [
 qL 16 2 5,
 qm 17 1,
 qC 18 jD [.t 16,.t 17],
 qm 12 18])
 (.seq
 (.seq
 (.reg 2 none [1,2,3,4,5,34] [
 qm 19 2,
 qB 20 .lss 19 0,
 qm 21 20,
 qmf 22 21 2,
 qmf 23 21 12,
 .rf 24 21 (.bin .gtr false (.t 22) (.t 23)),
 qP 25 21 24,
 qm 26 25,
 qmf 27 26 4,
 .rf 28 26 (.bin .lss false (.t 27) (qI 0)),
 qP 29 26 28,
 qm 30 29,
 qmf 31 30 4,
 qmf 32 30 12,
 .rf 33 30 (.bin .gtr false (.t 31) (.t 32)),
 qP 34 30 33])
 (qq 34
 (.seq
 (.reg 3 none [10,11] [
 qi 10 0,
 qc 11 false])
 .ret)
 .skip))
 (.seq
 (.reg 4 none [1,2,3,4,5] [
 qi 13 0,
 qc 14 false])
 (.seq
 (.seq
 (.reg 5 none [2,3,4,5,15] [
 qf 35 1 5,
 ql 36 35,
 qm 37 1,
 qx 38 7 36 37,
 qL 39 7 38,
 .r 15 (.new (.agg [.v (.string ⟨#[]⟩),.v (.int .i64 0),.v (.int .i64 0),.v (.int .i64 0),.v (.int .i64 0),.v (.slice none 0 0),.v (.bool false)])),
 qs 7 15 39])
 (.seq
 (.reg 6 none [2,3,4,5,15,42] [
 qf 40 1 15,
 ql 41 40,
 qB 42 .eql 41 2])
 (qq 42
 (.reg 7 none [13,14] [
 qf 44 0 5,
 ql 45 44,
 qf 46 2 15,
 ql 47 46,
 qx 48 2 45 47,
 qL 49 2 48,
 qm 50 2,
 qm 51 3,
 qm 52 4,
 qC 53 wE [.t 49,.t 50,.t 51,.t 52],
 qm 43 53,
 .r 54 (.ex (.t 43) 0),
 .r 55 (.ex (.t 43) 1),
 qm 13 54,
 qm 14 55])
 (.reg 8 none [13,14] [
 qL 57 7 15,
 qm 58 2,
 qm 59 3,
 qm 60 4,
 qC 61 Kh [.t 57,.t 58,.t 59,.t 60],
 qm 56 61,
 .r 62 (.ex (.t 56) 0),
 .r 63 (.ex (.t 56) 1),
 qm 13 62,
 qm 14 63]))))
 (.seq
 (.seq
 (.reg 9 none [13,65] [
 qm 64 14,
 .r 65 (.un .not (.t 64))])
 (qq 65
 (.seq
 (.reg 10 none [10,11] [
 qi 10 0,
 qc 11 false])
 .ret)
 .skip))
 (.seq
 (.reg 11 none [10,11] [
 qm 66 13,
 qm 10 66,
 qc 11 true])
 .ret)))))))
def qd5:List (Nat×List Nat):=qA yr
theorem qd6:FnIR Tryz.prog yW 67 qd5 yr [(.tmp 10),(.tmp 11)]:=
 qF Tryz.func38
def yu:RC:=
 (.seq
 (.reg 0 none [1,2,3,4] [
 .r 4 (.box (.t 0)),
 qi 8 0])
 (.seq
 (.seq
 (.reg 1 none [1,2,3,4,9] [
 qL 11 2 4,
 qm 12 1,
 qC 13 zW [.t 11,.t 12],
 qm 9 13])
 (.seq
 (.reg 2 none [1,2,3,4,20] [
 qm 14 2,
 qB 15 .lss 14 0,
 qm 16 15,
 qmf 17 16 2,
 qmf 18 16 9,
 .rf 19 16 (.bin .gtr false (.t 17) (.t 18)),
 qP 20 16 19])
 (qq 20
 (.seq
 (.reg 3 none [8] [
 .r 8 (.mv (.k (.v (.int .i64 (-1)))))])
 .ret)
 .skip)))
 (.seq
 (.reg 4 none [2,3,4,10] [
 qf 21 1 4,
 ql 22 21,
 qm 23 1,
 qx 24 7 22 23,
 qL 25 7 24,
 .r 10 (.new (.agg [.v (.string ⟨#[]⟩),.v (.int .i64 0),.v (.int .i64 0),.v (.int .i64 0),.v (.int .i64 0),.v (.slice none 0 0),.v (.bool false)])),
 qs 7 10 25])
 (.seq
 (.block 0
 (.seq
 (.reg 5 none [2,3,4,10,26] [
 qf 27 1 10,
 ql 28 27,
 qB 29 .eql 28 2,
 qm 30 29,
 .rt 31 30 (.ld (some 2) (.t 4)),
 .rt 32 30 (.ld (some 7) (.t 10)),
 qmt 33 30 3,
 .rt 34 30 (.call (.k (.clo Zo [])) [.t 31,.t 32,.t 33]),
 .rt 35 30 (.un .not (.t 34)),
 qp 36 30 35,
 qm 26 36])
 (qq 26
 (.seq
 (.reg 6 none [8] [
 .r 8 (.mv (.k (.v (.int .i64 (-1)))))])
 .ret)
 (.seq
 (.reg 7 none [2,3,4,10,37] [
 qf 38 1 10,
 ql 39 38,
 qB 40 .eql 39 2,
 qm 37 40])
 (qq 37
 (.seq
 (.reg 8 none [8] [
 qf 41 0 4,
 ql 42 41,
 qf 43 2 10,
 ql 44 43,
 qx 45 2 42 44,
 qL 46 2 45,
 qm 47 3,
 qm 48 2,
 qC 49 wF [.t 46,.t 47,.t 48],
 qm 8 49])
 .ret)
 (.seq
 (.reg 9 none [2,3,10,50] [
 qm 51 3,
 .r 52 (.bin .neq false (.t 51) (.k (.v (.int .i64 (-1099511627776))))),
 qm 53 52,
 qmt 54 53 3,
 .rt 55 53 (.bin .lss false (.t 54) (.k (.v (.int .i64 (-1000000))))),
 qmt 56 53 55,
 qmf 57 56 3,
 .rf 58 56 (.bin .gtr false (.t 57) (qI 1000000)),
 .rt 59 53 (.pick (.t 56) (.k (.v (.bool true))) (.t 58)),
 qp 60 53 59,
 qm 50 60])
 (qq 50
 (.seq
 (.reg 10 none [8] [
 .r 8 (.mv (.k (.v (.int .i64 (-1)))))])
 .ret)
 (.seq
 (.reg 11 none [2,3,10,61] [
 qm 62 2,
 qB 63 .eql 62 0,
 qm 61 63])
 (qq 61
 (.seq
 (.reg 12 none [8] [
 qi 8 0])
 .ret)
 (.seq
 (.reg 13 none [2,3,10,64] [
 qm 65 3,
 .r 66 (.bin .eql false (.t 65) (.k (.v (.int .i64 (-1099511627776))))),
 qm 64 66])
 (qq 64
 (.seq
 (.reg 14 none [8] [
 .r 8 (.mv (.k (.v (.int .i64 (-1099511627776)))))])
 .ret)
 .skip)))))))))))
 (.seq
 (.reg 15 none [8] [
 qm 67 3,
 qL 68 7 10,
 qm 69 2,
 qC 70 ya [.t 68,.t 69],
 qC 71 kS [.t 67,.t 70],
 qm 8 71])
 .ret)))))
def qd7:List (Nat×List Nat):=qA yu
theorem qd8:FnIR Tryz.prog zY 72 qd7 yu [(.tmp 8)]:=
 qF Tryz.func39
def wL:RC:=
 (.seq
 (.reg 0 none [2,3,4,5,6] [
 .r 5 (.box (.t 0)),
 .r 6 (.box (.t 1)),
 qc 10 false])
 (.seq
 (.seq
 (.reg 1 none [2,3,4,5,6,24] [
 qL 17 17 6,
 qm 18 2,
 qC 19 ko [.t 17,.t 18],
 qm 20 19,
 qmt 21 20 3,
 qmt 22 20 4,
 .rt 23 20 (.bin .neq false (.t 21) (.t 22)),
 qp 24 20 23])
 (qq 24
 (.seq
 (.reg 2 none [10] [
 qc 10 true])
 .ret)
 .skip))
 (.seq
 (.seq
 (.reg 3 none [2,3,4,5,6,26,27,28] [
 qf 25 8 6,
 ql 26 25,
 qn 27 26,
 qi 28 0])
 (.block 0
 (.loop
 (.seq
 (.reg 4 none [2,3,4,5,6,26,27,28,29] [
 qb 29 .lss 28 27])
 (.seq
 (qq 29
 .skip
 (.exit 0))
 (.seq
 (.block 1
 (.seq
 (.reg 5 none [2,3,4,5,6,12,26,27,28] [
 qx 30 2 26 28,
 qL 31 2 30,
 .r 12 (.new (.agg [.v (.int .i64 0),.v (.int .i64 0)])),
 qs 2 12 31])
 (.seq
 (.reg 6 (some [0,1,0,7,15,31,31,31,159,31,1023,31,31,31,8223,31,65535,131071,262143]) [2,3,4,5,6,26,27,28,50] [
 qf 32 0 12,
 ql 33 32,
 qm 34 2,
 qb 35 .eql 33 34,
 qm 36 35,
 .rt 37 36 (.ld (some 2) (.t 5)),
 qmt 38 36 2,
 qft 39 36 1 12,
 qlt 40 36 39,
 qmt 41 36 3,
 .rt 42 36 (.call (.k (.clo zY [])) [.t 37,.t 38,.t 40,.t 41]),
 .rt 43 36 (.ld (some 2) (.t 5)),
 qmt 44 36 2,
 qft 45 36 1 12,
 qlt 46 36 45,
 qmt 47 36 4,
 .rt 48 36 (.call (.k (.clo zY [])) [.t 43,.t 44,.t 46,.t 47]),
 .rt 49 36 (.bin .neq false (.t 42) (.t 48)),
 qp 50 36 49])
 (qq 50
 (.seq
 (.reg 7 none [10] [
 qc 10 true])
 .ret)
 .skip))))
 (.reg 8 none [2,3,4,5,6,26,27,28] [
 qa 51 28,
 qm 28 51])))))))
 (.seq
 (.seq
 (.reg 9 none [2,3,4,5,53,54,55] [
 qL 52 17 6,
 qC 53 jP [.t 52],
 qn 54 53,
 qi 55 0])
 (.block 2
 (.loop
 (.seq
 (.reg 10 none [2,3,4,5,53,54,55,56] [
 qb 56 .lss 55 54])
 (.seq
 (qq 56
 .skip
 (.exit 2))
 (.seq
 (.block 3
 (.seq
 (.reg 11 none [2,3,4,5,14,53,54,55] [
 qx 57 6 53 55,
 qL 58 6 57,
 .r 14 (.new (.agg [.v (.int .i64 0),.v (.int .i64 0),.v (.int .i64 0),.v (.int .i64 0),.v (.int .i64 0),.v (.slice none 0 0)])),
 qs 6 14 58])
 (.seq
 (.reg 12 none [2,3,4,5,53,54,55,60,61,62] [
 qL 59 6 14,
 qC 60 zZ [.t 59],
 qn 61 60,
 qi 62 0])
 (.block 4
 (.loop
 (.seq
 (.reg 13 none [2,3,4,5,53,54,55,60,61,62,63] [
 qb 63 .lss 62 61])
 (.seq
 (qq 63
 .skip
 (.exit 4))
 (.seq
 (.block 5
 (.seq
 (.reg 14 none [2,3,4,5,16,53,54,55,60,61,62] [
 qx 64 6 60 62,
 qL 65 6 64,
 .r 16 (.new (.agg [.v (.int .i64 0),.v (.int .i64 0),.v (.int .i64 0),.v (.int .i64 0),.v (.int .i64 0),.v (.slice none 0 0)])),
 qs 6 16 65])
 (.seq
 (.reg 15 (some [0,1,0,7,15,31,31,31,255,31,31,31,4095,8191,16383]) [2,3,4,5,53,54,55,60,61,62,80] [
 qf 66 1 16,
 ql 67 66,
 qm 68 2,
 qb 69 .eql 67 68,
 qm 70 69,
 .rt 71 70 (.ld (some 2) (.t 5)),
 .rt 72 70 (.ld (some 6) (.t 16)),
 qmt 73 70 3,
 .rt 74 70 (.call (.k (.clo jr [])) [.t 71,.t 72,.t 73]),
 .rt 75 70 (.ld (some 2) (.t 5)),
 .rt 76 70 (.ld (some 6) (.t 16)),
 qmt 77 70 4,
 .rt 78 70 (.call (.k (.clo jr [])) [.t 75,.t 76,.t 77]),
 .rt 79 70 (.bin .neq false (.t 74) (.t 78)),
 qp 80 70 79])
 (qq 80
 (.seq
 (.reg 16 none [10] [
 qc 10 true])
 .ret)
 .skip))))
 (.reg 17 none [2,3,4,5,53,54,55,60,61,62] [
 qa 81 62,
 qm 62 81])))))))))
 (.reg 18 none [2,3,4,5,53,54,55] [
 qa 82 55,
 qm 55 82])))))))
 (.seq
 (.reg 19 none [10] [
 qc 10 false])
 .ret)))))
def YN:List (Nat×List Nat):=qA wL
theorem YO:FnIR Tryz.prog yl 83 YN wL [(.tmp 10)]:=
 qF Tryz.func40
def QG:RC:=
 (.seq
 (.reg 0 none [2,3] [
 .r 2 (.box (.t 0)),
 .r 3 (.box (.t 1)),
 qi 4 0])
 (.seq
 (.reg 1 none [3,5] [
 qL 6 2 2,
 qf 7 0 3,
 ql 8 7,
 qC 9 jD [.t 6,.t 8],
 qm 5 9])
 (.seq
 (.block 0
 (.seq
 (.reg 2 none [3,5,10] [
 qm 11 5,
 qB 12 .lss 11 0,
 qm 10 12])
 (qq 10
 (.seq
 (.reg 3 none [4] [
 qi 4 7])
 .ret)
 (.seq
 (.reg 4 none [13] [
 qf 14 1 3,
 ql 15 14,
 qB 16 .lss 15 0,
 qm 17 16,
 qff 18 17 1 3,
 qlf 19 17 18,
 qmf 20 17 5,
 .rf 21 17 (.bin .gtr false (.t 19) (.t 20)),
 qP 22 17 21,
 qm 13 22])
 (qq 13
 (.seq
 (.reg 5 none [4] [
 qi 4 8])
 .ret)
 .skip)))))
 (.seq
 (.reg 6 none [4] [
 qi 4 0])
 .ret))))
def qo2:List (Nat×List Nat):=qA QG
theorem qo3:FnIR Tryz.prog yH 23 qo2 QG [(.tmp 4)]:=
 qF Tryz.func42
def QH:RC:=
 (.seq
 (.reg 0 none [1] [
 .r 1 (.box (.t 0)),
 qi 2 0])
 (.seq
 (.block 0
 (.seq
 (.reg 1 none [1,10] [
 qf 11 0 1,
 ql 12 11,
 qC 13 jg [.t 12],
 .r 14 (.un .not (.t 13)),
 qm 10 14])
 (qq 10
 (.seq
 (.reg 2 none [2] [
 qi 2 3])
 .ret)
 (.seq
 (.reg 3 none [1,15] [
 qf 16 1 1,
 ql 17 16,
 qn 18 17,
 qB 19 .eql 18 0,
 qm 15 19])
 (qq 15
 (.seq
 (.reg 4 none [2] [
 qi 2 5])
 .ret)
 (.seq
 (.reg 5 none [1,20] [
 qf 21 1 1,
 ql 22 21,
 qn 23 22,
 qB 24 .gtr 23 60,
 qm 20 24])
 (qq 20
 (.seq
 (.reg 6 none [2] [
 qi 2 1])
 .ret)
 .skip)))))))
 (.seq
 (.reg 7 (some [0,0,2,6,14,1,63]) [1,3,4] [
 .r 25 (.ext (.mkm .sb) []),
 qf 26 1 1,
 ql 27 26,
 qn 28 27,
 .r 29 (.mk 1 1 (.v (.bool false)) (.t 28) (.t 28)),
 qm 3 25,
 qm 4 29])
 (.seq
 (.seq
 (.reg 8 none [1,3,4,31,32,33] [
 qf 30 1 1,
 ql 31 30,
 qn 32 31,
 qi 33 0])
 (.block 1
 (.loop
 (.seq
 (.reg 9 none [1,3,4,31,32,33,34] [
 qb 34 .lss 33 32])
 (.seq
 (qq 34
 .skip
 (.exit 1))
 (.seq
 (.block 2
 (.seq
 (.reg 10 none [1,3,4,5,6,31,32,33] [
 qm 35 33,
 qx 36 2 31 33,
 qL 37 2 36,
 .r 6 (.new (.agg [.v (.string ⟨#[]⟩),.v (.int .i64 0)])),
 qm 5 35,
 qs 2 6 37])
 (.seq
 (.block 3
 (.seq
 (.reg 11 none [1,3,4,5,6,31,32,33,38] [
 qf 39 0 6,
 ql 40 39,
 qC 41 jg [.t 40],
 .r 42 (.un .not (.t 41)),
 qm 38 42])
 (qq 38
 (.seq
 (.reg 12 none [2] [
 qi 2 3])
 .ret)
 (.seq
 (.reg 13 none [1,3,4,5,6,31,32,33,43] [
 qm 44 3,
 qf 45 0 6,
 ql 46 45,
 .r 47 (.ext (.mget .sb false) [.t 44,.t 46]),
 qm 43 47])
 (qq 43
 (.seq
 (.reg 14 none [2] [
 qi 2 10])
 .ret)
 (.seq
 (.reg 15 none [1,3,4,5,6,31,32,33,48] [
 qm 49 5,
 qB 50 .eql 49 0,
 qm 51 50,
 qft 52 51 1 6,
 qlt 53 51 52,
 .rt 54 51 (.bin .neq false (.t 53) (.k (.v (.int .i64 (-1))))),
 qp 55 51 54,
 qm 56 55,
 qmf 57 56 5,
 .rf 58 56 (.bin .gtr false (.t 57) (qI 0)),
 qmf 59 56 58,
 qft 60 59 1 6,
 qlt 61 59 60,
 .rt 62 59 (.bin .lss false (.t 61) (qI 0)),
 qmt 63 59 62,
 qff 64 63 1 6,
 qlf 65 63 64,
 qmf 66 63 5,
 .rf 67 63 (.bin .geq false (.t 65) (.t 66)),
 .rt 68 59 (.pick (.t 63) (.k (.v (.bool true))) (.t 67)),
 .rf 69 56 (.pick (.t 59) (.t 68) (.k (.v (.bool false)))),
 qP 70 56 69,
 qm 48 70])
 (qq 48
 (.seq
 (.reg 16 none [2] [
 qi 2 6])
 .ret)
 .skip)))))))
 (.seq
 (.reg 17 none [1,3,4,5,6,31,32,33] [
 qm 71 3,
 qf 72 0 6,
 ql 73 72,
 .rn (.ext (.mput .sb) [.t 71,.t 73,.k (.v (.bool true))])])
 (.seq
 (.reg 18 none [1,3,4,6,31,32,33,75] [
 qm 74 5,
 qB 75 .gtr 74 0])
 (qq 75
 (.reg 19 none [1,3,4,31,32,33] [
 qm 76 4,
 qf 77 1 6,
 ql 78 77,
 qx 79 1 76 78,
 .rn (.st 1 (.t 79) (.k (.v (.bool true))))])
 .skip))))))
 (.reg 20 none [1,3,4,31,32,33] [
 qa 80 33,
 qm 33 80])))))))
 (.seq
 (.reg 21 none [1,4,7] [
 .r 7 (.mv (.k (.v (.int .i64 (-1)))))])
 (.seq
 (.seq
 (.reg 22 none [4,7,82,83,84] [
 qL 81 2 1,
 qC 82 zO [.t 81],
 qn 83 82,
 qi 84 0])
 (.block 4
 (.loop
 (.seq
 (.reg 23 none [4,7,82,83,84,85] [
 qb 85 .lss 84 83])
 (.seq
 (qq 85
 .skip
 (.exit 4))
 (.seq
 (.block 5
 (.seq
 (.reg 24 none [4,7,8,9,82,83,84] [
 qm 86 84,
 qx 87 1 82 84,
 ql 88 87,
 qm 8 86,
 qm 9 88])
 (.seq
 (.seq
 (.reg 25 none [4,7,9,82,83,84,92] [
 qm 89 4,
 qm 90 8,
 qx 91 1 89 90,
 ql 92 91])
 (qq 92
 (.exit 5)
 .skip))
 (.seq
 (.seq
 (.reg 26 none [4,9,82,83,84,99] [
 qm 93 7,
 qB 94 .geq 93 0,
 qm 95 94,
 qmt 96 95 9,
 qmt 97 95 7,
 .rt 98 95 (.bin .neq false (.t 96) (.t 97)),
 qp 99 95 98])
 (qq 99
 (.seq
 (.reg 27 none [2] [
 qi 2 5])
 .ret)
 .skip))
 (.reg 28 none [4,7,82,83,84] [
 qm 100 9,
 qm 7 100])))))
 (.reg 29 none [4,7,82,83,84] [
 qa 101 84,
 qm 84 101])))))))
 (.seq
 (.reg 30 none [2] [
 qi 2 0])
 .ret)))))))
def qo4:List (Nat×List Nat):=qA QH
theorem qo5:FnIR Tryz.prog jQ 102 qo4 QH [(.tmp 2)]:=
 qF Tryz.func43
def zc:RC:=
 (.seq
 (.reg 0 none [0,1] [
 qc 4 false])
 (.seq
 (.reg 1 none [4] [
 qm 5 0,
 qm 6 1,
 qC 7 zx [.t 5,.t 6],
 qB 8 .geq 7 0,
 qm 4 8])
 .ret))
def wM:List (Nat×List Nat):=qA zc
theorem wN:FnIR Tryz.prog zf 9 wM zc [(.tmp 4)]:=
 qF Tryz.func44
def wO:RC:=
 (.seq
 (.reg 0 none [1,2] [
 .r 2 (.box (.t 0)),
 qc 3 false])
 (.seq
 (.reg 1 none [3] [
 qf 4 0 2,
 ql 5 4,
 qf 6 0 1,
 ql 7 6,
 qb 8 .eql 5 7,
 qm 3 8])
 .ret))
def YP:List (Nat×List Nat):=qA wO
theorem YQ:FnIR Tryz.prog kp 9 YP wO [(.tmp 3)]:=
 qF Tryz.func45
def jH:RC:=
 (.seq
 (.reg 0 none [1,2] [
 .r 2 (.box (.t 0)),
 qi 4 0])
 (.seq
 (.reg 1 none [1,2,5] [
 qf 7 1 2,
 ql 8 7,
 qm 9 1,
 qx 10 7 8 9,
 qL 11 7 10,
 .r 5 (.new (.agg [.v (.string ⟨#[]⟩),.v (.int .i64 0),.v (.int .i64 0),.v (.int .i64 0),.v (.int .i64 0),.v (.slice none 0 0),.v (.bool false)])),
 qs 7 5 11])
 (.seq
 (.seq
 (.reg 2 none [1,2,5,15] [
 qf 12 0 5,
 ql 13 12,
 qC 14 jg [.t 13],
 .r 15 (.un .not (.t 14))])
 (qq 15
 (.seq
 (.reg 3 none [4] [
 qi 4 3])
 .ret)
 .skip))
 (.seq
 (.seq
 (.reg 4 none [1,2,5,21] [
 qf 16 1 2,
 ql 17 16,
 qm 18 1,
 .r 19 (.slL 7 (.t 17) none (some (.t 18))),
 .r 20 (.mf zE [.t 5]),
 qC 21 zn [.t 19,.t 20]])
 (qq 21
 (.seq
 (.reg 5 none [4] [
 qi 4 10])
 .ret)
 .skip))
 (.seq
 (.seq
 (.reg 6 none [1,2,5,23] [
 qf 22 1 5,
 ql 23 22])
 (.block 0
 (.seq
 (.reg 8 none [1,2,5,23,24] [
 qB 25 .eql 23 1,
 qm 24 25])
 (qq 24
 (.seq
 (.reg 9 none [5,27] [
 qm 26 1,
 qB 27 .gtr 26 0])
 (qq 27
 (.seq
 (.reg 10 none [4] [
 qi 4 4])
 .ret)
 .skip))
 (.seq
 (.reg 11 none [2,5,23,28] [
 qB 29 .eql 23 2,
 qm 28 29])
 (qq 28
 (.seq
 (.reg 12 none [5,40] [
 qf 30 2 5,
 ql 31 30,
 qB 32 .lss 31 0,
 qm 33 32,
 qff 34 33 2 5,
 qlf 35 33 34,
 qff 36 33 0 2,
 qlf 37 33 36,
 .rf 38 33 (.lenL (.t 37)),
 .rf 39 33 (.bin .geq false (.t 35) (.t 38)),
 qP 40 33 39])
 (qq 40
 (.seq
 (.reg 13 none [4] [
 qi 4 5])
 .ret)
 .skip))
 (.seq
 (.reg 14 none [5,41] [
 qB 42 .eql 23 3,
 qm 41 42])
 (qq 41
 (.seq
 (.reg 15 none [5,6] [
 qL 43 7 5,
 qC 44 jE [.t 43],
 qm 6 44])
 (.seq
 (.reg 16 none [5,6,46] [
 qm 45 6,
 qB 46 .neq 45 0])
 (qq 46
 (.seq
 (.reg 17 none [4] [
 qm 47 6,
 qm 4 47])
 .ret)
 .skip)))
 (.seq
 (.reg 7 none [4] [
 qi 4 4])
 .ret)))))))))
 (.seq
 (.seq
 (.reg 18 none [50] [
 qL 48 7 5,
 qC 49 yX [.t 48],
 .r 50 (.un .not (.t 49))])
 (qq 50
 (.seq
 (.reg 19 none [4] [
 qi 4 11])
 .ret)
 .skip))
 (.seq
 (.reg 20 none [4] [
 qi 4 0])
 .ret)))))))
def JA:List (Nat×List Nat):=qA jH
theorem JB:FnIR Tryz.prog jU 51 JA jH [(.tmp 4)]:=
 qF Tryz.func46
def wj:RC:=
 (.seq
 (.reg 0 none [1,2] [
 .r 2 (.box (.t 0)),
 qi 4 0])
 (.seq
 (.reg 1 none [1,2,5] [
 qi 5 1])
 (.seq
 (.seq
 (.reg 2 none [1,5,9,10,11] [
 qf 8 5 2,
 ql 9 8,
 qn 10 9,
 qi 11 0])
 (.block 0
 (.loop
 (.seq
 (.reg 3 none [1,5,9,10,11,12] [
 qb 12 .lss 11 10])
 (.seq
 (qq 12
 .skip
 (.exit 0))
 (.seq
 (.block 1
 (.seq
 (.reg 4 none [1,5,7,9,10,11] [
 qx 13 6 9 11,
 qL 14 6 13,
 .r 7 (.new (.agg [.v (.int .i64 0),.v (.int .i64 0),.v (.int .i64 0),.v (.int .i64 0),.v (.int .i64 0),.v (.slice none 0 0)])),
 qs 6 7 14])
 (.seq
 (.seq
 (.reg 5 none [1,5,7,9,10,11,17] [
 qm 15 5,
 qm 16 1,
 qb 17 .gtr 15 16])
 (qq 17
 (.exit 0)
 .skip))
 (.reg 6 none [1,5,9,10,11] [
 qm 18 5,
 qL 19 6 7,
 qm 20 1,
 qm 21 5,
 qb 22 .sub 20 21,
 qC 23 jR [.t 19,.t 22],
 qb 24 .add 18 23,
 qm 5 24]))))
 (.reg 7 none [1,5,9,10,11] [
 qa 25 11,
 qm 11 25])))))))
 (.seq
 (.reg 8 none [4] [
 qm 26 5,
 qm 4 26])
 .ret))))
def WX:List (Nat×List Nat):=qA wj
theorem WY:FnIR Tryz.prog jR 27 WX wj [(.tmp 4)]:=
 qF Tryz.func47
def wP:RC:=
 (.seq
 (.reg 0 none [1] [
 .r 1 (.box (.t 0)),
 qi 2 0])
 (.seq
 (.reg 1 none [1,3] [
 qi 3 0])
 (.seq
 (.seq
 (.reg 2 none [3,7,8,9] [
 qf 6 5 1,
 ql 7 6,
 qn 8 7,
 qi 9 0])
 (.block 0
 (.loop
 (.seq
 (.reg 3 none [3,7,8,9,10] [
 qb 10 .lss 9 8])
 (.seq
 (qq 10
 .skip
 (.exit 0))
 (.seq
 (.block 1
 (.seq
 (.reg 4 none [3,5,7,8,9] [
 qx 11 6 7 9,
 qL 12 6 11,
 .r 5 (.new (.agg [.v (.int .i64 0),.v (.int .i64 0),.v (.int .i64 0),.v (.int .i64 0),.v (.int .i64 0),.v (.slice none 0 0)])),
 qs 6 5 12])
 (.reg 5 none [3,7,8,9] [
 qm 13 3,
 qL 14 6 5,
 qC 15 kr [.t 14],
 .r 16 (.mx [.t 13,.t 15]),
 qm 3 16])))
 (.reg 6 none [3,7,8,9] [
 qa 17 9,
 qm 9 17])))))))
 (.seq
 (.reg 7 none [2] [
 qm 18 3,
 qa 19 18,
 qm 2 19])
 .ret))))
def YR:List (Nat×List Nat):=qA wP
theorem YS:FnIR Tryz.prog kr 20 YR wP [(.tmp 2)]:=
 qF Tryz.func48
def jI:RC:=
 (.seq
 (.reg 0 none [2,3] [
 .r 2 (.box (.t 0)),
 .r 3 (.box (.t 1)),
 qi 4 0])
 (.seq
 (.seq
 (.reg 1 none [2,3,5] [
 qL 9 2 2,
 qL 10 6 3,
 qC 11 jW [.t 9,.t 10],
 qm 5 11])
 (.seq
 (.reg 2 none [2,3,5,13] [
 qm 12 5,
 qB 13 .neq 12 0])
 (qq 13
 (.seq
 (.reg 3 none [4] [
 qm 14 5,
 qm 4 14])
 .ret)
 .skip)))
 (.seq
 (.seq
 (.reg 4 none [2,16,17,18] [
 qf 15 5 3,
 ql 16 15,
 qn 17 16,
 qi 18 0])
 (.block 0
 (.loop
 (.seq
 (.reg 5 none [2,16,17,18,19] [
 qb 19 .lss 18 17])
 (.seq
 (qq 19
 .skip
 (.exit 0))
 (.seq
 (.block 1
 (.seq
 (.reg 6 none [2,7,16,17,18] [
 qx 20 6 16 18,
 qL 21 6 20,
 .r 7 (.new (.agg [.v (.int .i64 0),.v (.int .i64 0),.v (.int .i64 0),.v (.int .i64 0),.v (.int .i64 0),.v (.slice none 0 0)])),
 qs 6 7 21])
 (.seq
 (.reg 7 none [2,8,16,17,18] [
 qL 22 2 2,
 qL 23 6 7,
 qC 24 zT [.t 22,.t 23],
 qm 8 24])
 (.seq
 (.reg 8 none [2,8,16,17,18,26] [
 qm 25 8,
 qB 26 .neq 25 0])
 (qq 26
 (.seq
 (.reg 9 none [4] [
 qm 27 8,
 qm 4 27])
 .ret)
 .skip)))))
 (.reg 10 none [2,16,17,18] [
 qa 28 18,
 qm 18 28])))))))
 (.seq
 (.reg 11 none [4] [
 qi 4 0])
 .ret))))
def JC:List (Nat×List Nat):=qA jI
theorem JD:FnIR Tryz.prog zT 29 JC jI [(.tmp 4)]:=
 qF Tryz.func49
def jZ:RC:=
 (.seq
 (.reg 0 none [2,3] [
 .r 2 (.box (.t 0)),
 .r 3 (.box (.t 1)),
 qi 4 0])
 (.seq
 (.seq
 (.reg 1 none [2,3,17] [
 qf 8 8 3,
 ql 9 8,
 qn 10 9,
 qB 11 .lss 10 1,
 qm 12 11,
 qff 13 12 8 3,
 qlf 14 12 13,
 .rf 15 12 (.lenL (.t 14)),
 .rf 16 12 (.bin .gtr false (.t 15) (qI 3)),
 qP 17 12 16])
 (qq 17
 (.seq
 (.reg 2 none [4] [
 qi 4 1])
 .ret)
 .skip))
 (.seq
 (.seq
 (.reg 3 none [2,3,19,20,21] [
 qf 18 8 3,
 ql 19 18,
 qn 20 19,
 qi 21 0])
 (.block 0
 (.loop
 (.seq
 (.reg 4 none [2,3,19,20,21,22] [
 qb 22 .lss 21 20])
 (.seq
 (qq 22
 .skip
 (.exit 0))
 (.seq
 (.block 1
 (.seq
 (.reg 5 none [2,3,5,6,19,20,21] [
 qm 23 21,
 qx 24 2 19 21,
 qL 25 2 24,
 .r 6 (.new (.agg [.v (.int .i64 0),.v (.int .i64 0)])),
 qm 5 23,
 qs 2 6 25])
 (.seq
 (.seq
 (.reg 6 none [2,3,5,6,7,19,20,21] [
 qL 26 2 2,
 qL 27 2 6,
 qC 28 Zp [.t 26,.t 27],
 qm 7 28])
 (.seq
 (.reg 7 none [2,3,5,6,7,19,20,21,30] [
 qm 29 7,
 qB 30 .neq 29 0])
 (qq 30
 (.seq
 (.reg 8 none [4] [
 qm 31 7,
 qm 4 31])
 .ret)
 .skip)))
 (.seq
 (.seq
 (.reg 9 none [2,3,5,6,19,20,21,36] [
 qL 32 2 2,
 qf 33 0 6,
 ql 34 33,
 qC 35 qU [.t 32,.t 34],
 qB 36 .neq 35 2])
 (qq 36
 (.seq
 (.reg 10 none [4] [
 qi 4 7])
 .ret)
 .skip))
 (.seq
 (.reg 11 none [2,3,19,20,21,42] [
 qf 37 8 3,
 ql 38 37,
 qm 39 5,
 .r 40 (.slL 2 (.t 38) none (some (.t 39))),
 .r 41 (.mf zN [.t 6]),
 qC 42 qT [.t 40,.t 41]])
 (qq 42
 (.seq
 (.reg 12 none [4] [
 qi 4 10])
 .ret)
 .skip))))))
 (.reg 13 none [2,3,19,20,21] [
 qa 43 21,
 qm 21 43])))))))
 (.seq
 (.seq
 (.reg 14 none [3,53] [
 qf 44 9 3,
 ql 45 44,
 .r 46 (.bin .neq false (.t 45) (.k (.v (.int .i64 (-1))))),
 qm 47 46,
 .rt 48 47 (.ld (some 2) (.t 2)),
 qft 49 47 9 3,
 qlt 50 47 49,
 .rt 51 47 (.call (.k (.clo qU [])) [.t 48,.t 50]),
 .rt 52 47 (.bin .neq false (.t 51) (qI 3)),
 qp 53 47 52])
 (qq 53
 (.seq
 (.reg 15 none [4] [
 qi 4 7])
 .ret)
 .skip))
 (.seq
 (.seq
 (.reg 16 none [63] [
 qf 54 10 3,
 ql 55 54,
 qn 56 55,
 qB 57 .gtr 56 0,
 qm 58 57,
 qff 59 58 11 3,
 .rf 60 58 (.ld (some 6) (.t 59)),
 .rf 61 58 (.call (.k (.clo ji [])) [.t 60]),
 .rf 62 58 (.un .not (.t 61)),
 qP 63 58 62])
 (qq 63
 (.seq
 (.reg 17 none [4] [
 qi 4 11])
 .ret)
 .skip))
 (.seq
 (.reg 18 none [4] [
 qi 4 0])
 .ret))))))
def Km:List (Nat×List Nat):=qA jZ
theorem Kn:FnIR Tryz.prog ky 64 Km jZ [(.tmp 4)]:=
 qF Tryz.func50
def ka:RC:=
 (.seq
 (.reg 0 none [2,3] [
 .r 2 (.box (.t 0)),
 .r 3 (.box (.t 1)),
 qi 4 0])
 (.seq
 (.block 0
 (.seq
 (.reg 1 none [2,3,7] [
 qL 8 2 2,
 qf 9 9 3,
 ql 10 9,
 qC 11 qU [.t 8,.t 10],
 qB 12 .neq 11 3,
 qm 7 12])
 (qq 7
 (.seq
 (.reg 2 none [4] [
 qi 4 7])
 .ret)
 (.seq
 (.reg 3 none [2,3,13] [
 qf 14 10 3,
 ql 15 14,
 qn 16 15,
 qB 17 .lss 16 1,
 qm 18 17,
 qff 19 18 10 3,
 qlf 20 18 19,
 .rf 21 18 (.lenL (.t 20)),
 .rf 22 18 (.bin .gtr false (.t 21) (qI 3)),
 qP 23 18 22,
 qm 13 23])
 (qq 13
 (.seq
 (.reg 4 none [4] [
 qi 4 1])
 .ret)
 .skip)))))
 (.seq
 (.seq
 (.reg 5 none [2,3,25,26,27] [
 qf 24 10 3,
 ql 25 24,
 qn 26 25,
 qi 27 0])
 (.block 1
 (.loop
 (.seq
 (.reg 6 none [2,3,25,26,27,28] [
 qb 28 .lss 27 26])
 (.seq
 (qq 28
 .skip
 (.exit 1))
 (.seq
 (.block 2
 (.seq
 (.reg 7 none [2,3,5,6,25,26,27] [
 qm 29 27,
 qx 30 1 25 27,
 ql 31 30,
 qm 5 29,
 qm 6 31])
 (.seq
 (.seq
 (.reg 8 none [2,3,5,6,25,26,27,35] [
 qL 32 2 2,
 qm 33 6,
 qC 34 qU [.t 32,.t 33],
 qB 35 .neq 34 3])
 (qq 35
 (.seq
 (.reg 9 none [4] [
 qi 4 7])
 .ret)
 .skip))
 (.seq
 (.reg 10 none [2,3,25,26,27,47] [
 qm 36 6,
 qf 37 9 3,
 ql 38 37,
 qb 39 .eql 36 38,
 qm 40 39,
 qff 41 40 10 3,
 qlf 42 40 41,
 qmf 43 40 5,
 .rf 44 40 (.slL 1 (.t 42) none (some (.t 43))),
 qmf 45 40 6,
 .rf 46 40 (.call (.k (.clo zM [])) [.t 44,.t 45]),
 qP 47 40 46])
 (qq 47
 (.seq
 (.reg 11 none [4] [
 qi 4 10])
 .ret)
 .skip)))))
 (.reg 12 none [2,3,25,26,27] [
 qa 48 27,
 qm 27 48])))))))
 (.seq
 (.seq
 (.reg 13 none [58] [
 qf 49 8 3,
 ql 50 49,
 qn 51 50,
 qB 52 .gtr 51 0,
 qm 53 52,
 qff 54 53 11 3,
 .rf 55 53 (.ld (some 6) (.t 54)),
 .rf 56 53 (.call (.k (.clo ji [])) [.t 55]),
 .rf 57 53 (.un .not (.t 56)),
 qP 58 53 57])
 (qq 58
 (.seq
 (.reg 14 none [4] [
 qi 4 11])
 .ret)
 .skip))
 (.seq
 (.reg 15 none [4] [
 qi 4 0])
 .ret)))))
def Ko:List (Nat×List Nat):=qA ka
theorem Kp:FnIR Tryz.prog kz 59 Ko ka [(.tmp 4)]:=
 qF Tryz.func51
def ke:RC:=
 (.seq
 (.reg 0 none [2,3] [
 .r 2 (.box (.t 0)),
 .r 3 (.box (.t 1)),
 qi 4 0])
 (.seq
 (.block 0
 (.seq
 (.reg 1 none [2,3,6] [
 qL 7 2 2,
 qf 8 9 3,
 ql 9 8,
 qC 10 qU [.t 7,.t 9],
 qB 11 .neq 10 3,
 qm 6 11])
 (qq 6
 (.seq
 (.reg 2 none [4] [
 qi 4 7])
 .ret)
 (.seq
 (.reg 3 none [2,3,12] [
 qf 13 1 2,
 ql 14 13,
 qf 15 9 3,
 ql 16 15,
 qx 17 7 14 16,
 qf 18 3 17,
 ql 19 18,
 qB 20 .lss 19 0,
 qm 12 20])
 (qq 12
 (.seq
 (.reg 4 none [4] [
 qi 4 2])
 .ret)
 .skip)))))
 (.seq
 (.seq
 (.reg 5 none [3,5] [
 qL 21 2 2,
 qf 22 11 3,
 qL 23 6 22,
 qC 24 zt [.t 21,.t 23],
 qm 5 24])
 (.seq
 (.reg 6 none [3,5,26] [
 qm 25 5,
 qB 26 .neq 25 0])
 (qq 26
 (.seq
 (.reg 7 none [4] [
 qm 27 5,
 qm 4 27])
 .ret)
 .skip)))
 (.seq
 (.seq
 (.reg 8 none [37] [
 qf 28 8 3,
 ql 29 28,
 qn 30 29,
 qB 31 .gtr 30 0,
 qm 32 31,
 qff 33 32 10 3,
 qlf 34 32 33,
 .rf 35 32 (.lenL (.t 34)),
 .rf 36 32 (.bin .gtr false (.t 35) (qI 0)),
 qP 37 32 36])
 (qq 37
 (.seq
 (.reg 9 none [4] [
 qi 4 11])
 .ret)
 .skip))
 (.seq
 (.reg 10 none [4] [
 qi 4 0])
 .ret)))))
def Kq:List (Nat×List Nat):=qA ke
theorem Kr:FnIR Tryz.prog kA 38 Kq ke [(.tmp 4)]:=
 qF Tryz.func52
def zo:RC:=
 (.seq
 (.reg 0 none [0,1] [
 qi 4 0])
 (.seq
 (.seq
 (.reg 1 none [0,1,7,8] [
 qm 6 0,
 qn 7 6,
 qi 8 0])
 (.block 0
 (.loop
 (.seq
 (.reg 2 none [0,1,7,8,9] [
 qb 9 .lss 8 7])
 (.seq
 (qq 9
 .skip
 (.exit 0))
 (.seq
 (.block 1
 (.seq
 (.reg 3 none [0,1,5,7,8] [
 qm 10 8,
 qm 5 10])
 (.seq
 (.reg 4 none [0,1,5,7,8,16] [
 qm 11 1,
 qm 12 0,
 qm 13 5,
 qx 14 17 12 13,
 qL 15 17 14,
 .r 16 (.call (.t 11) [.t 15])])
 (qq 16
 (.seq
 (.reg 5 none [4] [
 qm 17 5,
 qm 4 17])
 .ret)
 .skip))))
 (.reg 6 none [0,1,7,8] [
 qa 18 8,
 qm 8 18])))))))
 (.seq
 (.reg 7 none [4] [
 .r 4 (.mv (.k (.v (.int .i64 (-1)))))])
 .ret)))
def yI:List (Nat×List Nat):=qA zo
theorem yJ:FnIR Tryz.prog zw 19 yI zo [(.tmp 4)]:=
 qF Tryz.func53
def yv:RC:=
 (.seq
 (.reg 0 none [1,2,3] [
 .r 3 (.box (.t 0)),
 qi 6 0])
 (.seq
 (.reg 1 none [2,3,7] [
 qf 10 1 3,
 ql 11 10,
 qm 12 1,
 qx 13 7 11 12,
 qL 14 7 13,
 .r 7 (.new (.agg [.v (.string ⟨#[]⟩),.v (.int .i64 0),.v (.int .i64 0),.v (.int .i64 0),.v (.int .i64 0),.v (.slice none 0 0),.v (.bool false)])),
 qs 7 7 14])
 (.seq
 (.seq
 (.reg 2 none [2,3,7,17] [
 qf 15 1 7,
 ql 16 15,
 qB 17 .eql 16 2])
 (qq 17
 (.seq
 (.reg 3 none [6] [
 qf 18 0 3,
 ql 19 18,
 qf 20 2 7,
 ql 21 20,
 qx 22 2 19 21,
 qL 23 2 22,
 qm 24 2,
 qC 25 QS [.t 23,.t 24],
 qn 26 25,
 qm 6 26])
 .ret)
 .skip))
 (.seq
 (.seq
 (.reg 4 none [2,7,28] [
 qm 27 2,
 qB 28 .eql 27 0])
 (qq 28
 (.seq
 (.reg 5 none [6] [
 qi 6 1])
 .ret)
 .skip))
 (.seq
 (.reg 6 none [7,8] [
 qL 29 7 7,
 qm 30 2,
 qC 31 ya [.t 29,.t 30],
 qm 8 31])
 (.seq
 (.reg 7 (some [0,1,0,7,0,16,0,127,255,0,1023,2047,4095]) [7,9] [
 qf 32 4 7,
 ql 33 32,
 qm 34 8,
 qC 35 kS [.t 33,.t 34],
 qf 36 3 7,
 ql 37 36,
 qm 38 8,
 qC 39 kS [.t 37,.t 38],
 qb 40 .sub 35 39,
 qm 41 8,
 qb 42 .quo 40 41,
 qa 43 42,
 qm 9 43])
 (.seq
 (.seq
 (.reg 8 none [9,45] [
 qf 44 6 7,
 ql 45 44])
 (qq 45
 (.reg 9 none [9] [
 qm 46 9,
 qa 47 46,
 qm 9 47])
 .skip))
 (.seq
 (.reg 10 none [6] [
 qm 48 9,
 qm 6 48])
 .ret))))))))
def qd9:List (Nat×List Nat):=qA yv
theorem qe0:FnIR Tryz.prog kR 49 qd9 yv [(.tmp 6)]:=
 qF Tryz.func54
def jx:RC:=
 (.seq
 (.reg 0 none [0,1] [
 qc 4 false])
 (.seq
 (.reg 1 none [4] [
 qm 5 0,
 qm 6 1,
 qC 7 kT [.t 5,.t 6],
 qB 8 .geq 7 0,
 qm 4 8])
 .ret))
def ZW:List (Nat×List Nat):=qA jx
theorem ZX:FnIR Tryz.prog zM 9 ZW jx [(.tmp 4)]:=
 qF Tryz.func55
def yw:RC:=
 (.seq
 (.reg 0 none [1,2] [
 .r 2 (.box (.t 0)),
 qi 4 0])
 (.seq
 (.seq
 (.reg 1 none [1,2,14] [
 qm 6 1,
 qB 7 .lss 6 1,
 qm 8 7,
 qmf 9 8 1,
 qff 10 8 1 2,
 qlf 11 8 10,
 .rf 12 8 (.lenL (.t 11)),
 .rf 13 8 (.bin .geq false (.t 9) (.t 12)),
 qP 14 8 13])
 (qq 14
 (.seq
 (.reg 2 none [4] [
 .r 4 (.mv (.k (.v (.int .i64 (-1)))))])
 .ret)
 .skip))
 (.seq
 (.reg 3 none [2,5] [
 qf 15 1 2,
 ql 16 15,
 qm 17 1,
 qx 18 7 16 17,
 qL 19 7 18,
 .r 5 (.new (.agg [.v (.string ⟨#[]⟩),.v (.int .i64 0),.v (.int .i64 0),.v (.int .i64 0),.v (.int .i64 0),.v (.slice none 0 0),.v (.bool false)])),
 qs 7 5 19])
 (.seq
 (.seq
 (.reg 4 none [2,5,22] [
 qf 20 1 5,
 ql 21 20,
 qB 22 .eql 21 2])
 (qq 22
 (.seq
 (.reg 5 none [4] [
 qf 23 0 2,
 ql 24 23,
 qf 25 2 5,
 ql 26 25,
 qx 27 2 24 26,
 qL 28 2 27,
 qC 29 ki [.t 28],
 qB 30 .sub 29 1,
 qm 4 30])
 .ret)
 .skip))
 (.seq
 (.reg 6 none [4] [
 qf 31 5 5,
 ql 32 31,
 qn 33 32,
 qm 4 33])
 .ret)))))
def qe1:List (Nat×List Nat):=qA yw
theorem qe2:FnIR Tryz.prog jD 34 qe1 yw [(.tmp 4)]:=
 qF Tryz.func56
def wl:RC:=
 (.seq
 (.reg 0 none [1] [
 .r 1 (.box (.t 0)),
 .r 2 (.mv (qN))])
 (.seq
 (.seq
 (.reg 1 none [1,18] [
 qf 6 0 1,
 ql 7 6,
 qB 8 .eql 7 2,
 qm 9 8,
 qff 10 9 0 1,
 qlf 11 9 10,
 .rf 12 9 (.bin .eql false (.t 11) (qI 3)),
 qP 13 9 12,
 qm 14 13,
 qff 15 14 0 1,
 qlf 16 14 15,
 .rf 17 14 (.bin .eql false (.t 16) (qI 4)),
 qP 18 14 17])
 (qq 18
 (.seq
 (.reg 2 none [2] [
 qL 19 6 1,
 .r 20 (.bsl 6 1 [.t 19]),
 qm 2 20])
 .ret)
 .skip))
 (.seq
 (.reg 3 none [1,3] [
 .r 3 (.mv (qN))])
 (.seq
 (.seq
 (.reg 4 none [3,22,23,24] [
 qf 21 5 1,
 ql 22 21,
 qn 23 22,
 qi 24 0])
 (.block 0
 (.loop
 (.seq
 (.reg 5 none [3,22,23,24,25] [
 qb 25 .lss 24 23])
 (.seq
 (qq 25
 .skip
 (.exit 0))
 (.seq
 (.block 1
 (.seq
 (.reg 6 none [3,5,22,23,24] [
 qx 26 6 22 24,
 qL 27 6 26,
 .r 5 (.new (.agg [.v (.int .i64 0),.v (.int .i64 0),.v (.int .i64 0),.v (.int .i64 0),.v (.int .i64 0),.v (.slice none 0 0)])),
 qs 6 5 27])
 (.reg 7 none [3,22,23,24] [
 qm 28 3,
 qL 29 6 5,
 qC 30 zZ [.t 29],
 .r 31 (.app 6 64 false (.t 28) (.t 30)),
 qm 3 31])))
 (.reg 8 none [3,22,23,24] [
 qa 32 24,
 qm 24 32])))))))
 (.seq
 (.reg 9 none [2] [
 qm 33 3,
 qm 2 33])
 .ret)))))
def WZ:List (Nat×List Nat):=qA wl
theorem Ya:FnIR Tryz.prog zZ 34 WZ wl [(.tmp 2)]:=
 qF Tryz.func57
def jJ:RC:=
 (.seq
 (.reg 0 none [2,3,4] [
 .r 3 (.box (.t 0)),
 .r 4 (.box (.t 1)),
 qc 6 false])
 (.seq
 (.reg 1 none [2,3,4,7] [
 qf 19 1 3,
 ql 20 19,
 qf 21 1 4,
 ql 22 21,
 qx 23 7 20 22,
 qL 24 7 23,
 .r 7 (.new (.agg [.v (.string ⟨#[]⟩),.v (.int .i64 0),.v (.int .i64 0),.v (.int .i64 0),.v (.int .i64 0),.v (.slice none 0 0),.v (.bool false)])),
 qs 7 7 24])
 (.seq
 (.seq
 (.reg 2 none [2,3,4,7,27] [
 qf 25 0 4,
 ql 26 25,
 qB 27 .eql 26 2])
 (qq 27
 (.seq
 (.reg 3 none [2,3,4,8] [
 qf 28 0 3,
 ql 29 28,
 qf 30 2 7,
 ql 31 30,
 qx 32 2 29 31,
 qL 33 2 32,
 .r 8 (.new (.agg [.v (.string ⟨#[]⟩),.v (.slice none 0 0)])),
 qs 2 8 33])
 (.seq
 (.reg 4 none [2,3,4,8,9] [
 .r 34 (.ext (.mkm .ii) []),
 qm 9 34])
 (.seq
 (.seq
 (.reg 5 (some [0,0,2,6,15,31,0]) [2,3,4,8,9,39,40,41] [
 qL 35 2 8,
 qL 36 2 8,
 qC 37 ki [.t 36],
 qB 38 .sub 37 1,
 qC 39 QS [.t 35,.t 38],
 qn 40 39,
 qi 41 0])
 (.block 0
 (.loop
 (.seq
 (.reg 6 none [2,3,4,8,9,39,40,41,42] [
 qb 42 .lss 41 40])
 (.seq
 (qq 42
 .skip
 (.exit 0))
 (.seq
 (.block 1
 (.seq
 (.reg 7 none [2,3,4,8,9,11,39,40,41] [
 qx 43 1 39 41,
 ql 44 43,
 qm 11 44])
 (.seq
 (.reg 8 (some [0,0,0,7,0,0,0,127,255,511]) [2,3,4,8,9,12,13,39,40,41] [
 qL 45 2 8,
 qm 46 11,
 qm 47 2,
 qC 48 wF [.t 45,.t 46,.t 47],
 qL 49 2 3,
 qL 50 6 4,
 qm 51 11,
 qC 52 jr [.t 49,.t 50,.t 51],
 qm 12 48,
 qm 13 52])
 (.seq
 (.seq
 (.reg 9 none [2,3,4,8,9,12,13,14,15,39,40,41] [
 qm 54 9,
 qm 55 12,
 .r 56 (.ext (.mget .ii true) [.t 54,.t 55]),
 qm 53 56,
 .r 57 (.ex (.t 53) 0),
 .r 58 (.ex (.t 53) 1),
 qm 14 57,
 qm 15 58])
 (.seq
 (.reg 10 none [2,3,4,8,9,12,13,39,40,41,64] [
 qm 59 15,
 qm 60 59,
 qmt 61 60 14,
 qmt 62 60 13,
 .rt 63 60 (.bin .neq false (.t 61) (.t 62)),
 qp 64 60 63])
 (qq 64
 (.seq
 (.reg 11 none [6] [
 qc 6 false])
 .ret)
 .skip)))
 (.reg 12 none [2,3,4,8,9,39,40,41] [
 qm 65 9,
 qm 66 12,
 qm 67 13,
 .rn (.ext (.mput .ii) [.t 65,.t 66,.t 67])])))))
 (.reg 13 none [2,3,4,8,9,39,40,41] [
 qa 68 41,
 qm 41 68])))))))
 (.seq
 (.reg 14 none [6] [
 qc 6 true])
 .ret))))
 .skip))
 (.seq
 (.seq
 (.reg 15 none [2,4,7,74] [
 qm 69 2,
 qB 70 .eql 69 0,
 qm 71 70,
 qft 72 71 6 7,
 qlt 73 71 72,
 qp 74 71 73])
 (qq 74
 (.seq
 (.reg 16 none [6] [
 qc 6 false])
 .ret)
 .skip))
 (.seq
 (.seq
 (.reg 17 none [2,4,7,77] [
 qf 75 0 4,
 ql 76 75,
 qB 77 .eql 76 4])
 (qq 77
 (.seq
 (.reg 18 none [6] [
 qc 6 true])
 .ret)
 .skip))
 (.seq
 (.reg 19 (some [0,1,0,4,15,0,32,0,128,480,31,2047]) [2,7,16,17] [
 qf 78 3 4,
 ql 79 78,
 qf 80 3 7,
 ql 81 80,
 .r 82 (.mx [.t 79,.t 81]),
 qf 83 4 4,
 ql 84 83,
 qf 85 4 7,
 ql 86 85,
 .r 87 (.mn [.t 84,.t 86]),
 qm 16 82,
 qm 17 87])
 (.seq
 (.block 2
 (.seq
 (.reg 20 none [2,7,16,17,88] [
 qm 89 16,
 qm 90 17,
 qb 91 .gtr 89 90,
 qm 88 91])
 (qq 88
 (.seq
 (.reg 21 none [6] [
 qc 6 true])
 .ret)
 (.seq
 (.reg 22 none [2,7,16,17,92] [
 qm 93 2,
 qB 94 .eql 93 0,
 qm 92 94])
 (qq 92
 (.seq
 (.reg 23 none [6] [
 qm 95 16,
 qf 96 3 7,
 ql 97 96,
 qb 98 .eql 95 97,
 qm 99 98,
 qmt 100 99 17,
 qft 101 99 4 7,
 qlt 102 99 101,
 .rt 103 99 (.bin .eql false (.t 100) (.t 102)),
 qp 104 99 103,
 qm 6 104])
 .ret)
 .skip)))))
 (.seq
 (.reg 24 none [7,16,17,18] [
 qL 105 7 7,
 qm 106 2,
 qC 107 wG [.t 105,.t 106],
 qm 18 107])
 (.seq
 (.reg 25 none [6] [
 qm 108 16,
 qf 109 3 7,
 ql 110 109,
 qb 111 .eql 108 110,
 qm 112 111,
 qmf 113 112 16,
 qmf 114 112 18,
 .rf 115 112 (.call (.k (.clo ku [])) [.t 113,.t 114]),
 qmf 116 112 16,
 .rf 117 112 (.bin .eql false (.t 115) (.t 116)),
 qP 118 112 117,
 qm 119 118,
 qmt 120 119 17,
 qft 121 119 4 7,
 qlt 122 119 121,
 .rt 123 119 (.bin .eql false (.t 120) (.t 122)),
 qmt 124 119 123,
 qmf 125 124 17,
 .rf 126 124 (.bin .add false (.t 125) (qI 1)),
 qmf 127 124 18,
 .rf 128 124 (.call (.k (.clo ku [])) [.t 126,.t 127]),
 qmf 129 124 17,
 .rf 130 124 (.bin .add false (.t 129) (qI 1)),
 .rf 131 124 (.bin .eql false (.t 128) (.t 130)),
 .rt 132 119 (.pick (.t 124) (.k (.v (.bool true))) (.t 131)),
 qp 133 119 132,
 qm 6 133])
 .ret)))))))))
def JE:List (Nat×List Nat):=qA jJ
theorem JF:FnIR Tryz.prog jV 134 JE jJ [(.tmp 6)]:=
 qF Tryz.func58
def wm:RC:=
 (.seq
 (.reg 0 none [1,2,3,4] [
 .r 4 (.box (.t 0)),
 qi 8 0,
 qc 9 false])
 (.seq
 (.reg 1 none [1,2,3,4,10,11] [
 qi 10 0,
 qc 11 false])
 (.seq
 (.seq
 (.reg 2 (some [0,0,2,6,15,31,0]) [1,2,3,4,10,11,19,20,21] [
 qL 15 2 4,
 qL 16 2 4,
 qC 17 ki [.t 16],
 qB 18 .sub 17 1,
 qC 19 QS [.t 15,.t 18],
 qn 20 19,
 qi 21 0])
 (.block 0
 (.loop
 (.seq
 (.reg 3 none [1,2,3,4,10,11,19,20,21,22] [
 qb 22 .lss 21 20])
 (.seq
 (qq 22
 .skip
 (.exit 0))
 (.seq
 (.block 1
 (.seq
 (.reg 4 none [1,2,3,4,10,11,13,19,20,21] [
 qx 23 1 19 21,
 ql 24 23,
 qm 13 24])
 (.seq
 (.seq
 (.reg 5 none [1,2,3,4,10,11,13,19,20,21,30] [
 qL 25 2 4,
 qm 26 13,
 qm 27 1,
 qC 28 wF [.t 25,.t 26,.t 27],
 qm 29 2,
 qb 30 .neq 28 29])
 (qq 30
 (.exit 1)
 .skip))
 (.seq
 (.reg 6 none [1,2,3,4,10,11,14,19,20,21] [
 qL 31 2 4,
 qm 32 13,
 qm 33 3,
 qC 34 wF [.t 31,.t 32,.t 33],
 qm 14 34])
 (.seq
 (.seq
 (.reg 7 none [1,2,3,4,14,19,20,21,40] [
 qm 35 11,
 qm 36 35,
 qmt 37 36 14,
 qmt 38 36 10,
 .rt 39 36 (.bin .neq false (.t 37) (.t 38)),
 qp 40 36 39])
 (qq 40
 (.seq
 (.reg 8 none [8,9] [
 qi 8 0,
 qc 9 false])
 .ret)
 .skip))
 (.reg 9 none [1,2,3,4,10,11,19,20,21] [
 qm 41 14,
 qm 10 41,
 qc 11 true]))))))
 (.reg 10 none [1,2,3,4,10,11,19,20,21] [
 qa 42 21,
 qm 21 42])))))))
 (.seq
 (.reg 11 none [8,9] [
 qm 43 10,
 qm 44 11,
 qm 8 43,
 qm 9 44])
 .ret))))
def Yb:List (Nat×List Nat):=qA wm
theorem Yc:FnIR Tryz.prog wE 45 Yb wm [(.tmp 8),(.tmp 9)]:=
 qF Tryz.func59
def QI:RC:=
 (.seq
 (.reg 0 none [3,4,5] [
 .r 3 (.box (.t 0)),
 .r 4 (.box (.t 1)),
 .r 5 (.box (.t 2)),
 qc 6 false])
 (.seq
 (.seq
 (.reg 1 none [3,4,5,9] [
 qf 8 1 4,
 ql 9 8])
 (.block 0
 (.seq
 (.reg 2 none [3,4,5,9,10] [
 qB 11 .eql 9 1,
 qm 10 11])
 (qq 10
 (.seq
 (.reg 3 none [6] [
 ql 12 5,
 qB 13 .geq 12 1,
 qm 14 13,
 qlt 15 14 5,
 .rt 16 14 (.bin .leq false (.t 15) (qI 1048575)),
 qp 17 14 16,
 qm 6 17])
 .ret)
 (.seq
 (.reg 4 none [3,4,5,18] [
 qB 19 .eql 9 2,
 qm 18 19])
 (qq 18
 (.seq
 (.reg 5 none [5,7] [
 qf 20 0 3,
 ql 21 20,
 qf 22 2 4,
 ql 23 22,
 qx 24 2 21 23,
 qf 25 1 24,
 ql 26 25,
 qm 7 26])
 (.seq
 (.reg 6 none [6] [
 ql 27 5,
 qB 28 .geq 27 0,
 qm 29 28,
 qlt 30 29 5,
 qmt 31 29 7,
 .rt 32 29 (.lenL (.t 31)),
 .rt 33 29 (.bin .lss false (.t 30) (.t 32)),
 qp 34 29 33,
 qm 35 34,
 qmt 36 35 7,
 .rt 37 35 (.mf kU [.t 5]),
 .rt 38 35 (.call (.k (.clo zG [])) [.t 36,.t 37]),
 .rt 39 35 (.un .not (.t 38)),
 qp 40 35 39,
 qm 6 40])
 .ret))
 .skip))))))
 (.seq
 (.reg 7 none [6] [
 ql 41 5,
 qf 42 3 4,
 ql 43 42,
 qb 44 .geq 41 43,
 qm 45 44,
 qlt 46 45 5,
 qft 47 45 4 4,
 qlt 48 45 47,
 .rt 49 45 (.bin .leq false (.t 46) (.t 48)),
 qp 50 45 49,
 qm 51 50,
 qff 52 51 6 4,
 qlf 53 51 52,
 qmf 54 51 53,
 qlt 55 54 5,
 .rt 56 54 (.bin .eql false (.t 55) (.k (.v (.int .i64 (-1099511627776))))),
 .rf 57 51 (.pick (.t 54) (.t 56) (.k (.v (.bool false)))),
 qP 58 51 57,
 qm 6 58])
 .ret)))
def qo6:List (Nat×List Nat):=qA QI
theorem qo7:FnIR Tryz.prog Zo 59 qo6 QI [(.tmp 6)]:=
 qF Tryz.func61
def Wa:RC:=
 (.seq
 (.reg 0 none [1,2,3] [
 .r 3 (.box (.t 0)),
 qi 6 0])
 (.seq
 (.seq
 (.reg 1 none [1,2,3,15] [
 qL 8 2 3,
 qm 9 1,
 qC 10 yY [.t 8,.t 9],
 .r 11 (.un .not (.t 10)),
 qm 12 11,
 qmf 13 12 2,
 .rf 14 12 (.bin .lss false (.t 13) (qI 0)),
 qP 15 12 14])
 (qq 15
 (.seq
 (.reg 2 none [6] [
 .r 6 (.mv (.k (.v (.int .i64 (-1)))))])
 .ret)
 .skip))
 (.seq
 (.seq
 (.reg 3 none [1,2,3,7] [
 qL 16 2 3,
 qC 17 zO [.t 16],
 qm 18 1,
 qx 19 1 17 18,
 ql 20 19,
 qm 7 20])
 (.block 0
 (.loop
 (.seq
 (.seq
 (.reg 4 none [1,2,3,7,23] [
 qm 21 7,
 qm 22 2,
 qb 23 .geq 21 22])
 (qq 23
 .skip
 (.exit 0)))
 (.seq
 (.block 1
 (.seq
 (.seq
 (.reg 6 none [1,2,3,7,28] [
 qm 26 7,
 qm 27 2,
 qb 28 .eql 26 27])
 (qq 28
 (.seq
 (.reg 7 none [6] [
 qm 29 1,
 qm 6 29])
 .ret)
 .skip))
 (.reg 8 none [1,2,3,7] [
 qf 30 1 3,
 ql 31 30,
 qm 32 1,
 qx 33 2 31 32,
 qf 34 1 33,
 ql 35 34,
 qm 1 35])))
 (.reg 5 none [1,2,3,7] [
 qm 24 7,
 qB 25 .sub 24 1,
 qm 7 25]))))))
 (.seq
 (.reg 9 none [6] [
 .r 6 (.mv (.k (.v (.int .i64 (-1)))))])
 .ret))))
def qM1:List (Nat×List Nat):=qA Wa
theorem qM2:FnIR Tryz.prog wF 36 qM1 Wa [(.tmp 6)]:=
 qF Tryz.func62
def QJ:RC:=
 (.seq
 (.reg 0 none [0,1] [
 qi 4 0])
 (.seq
 (.reg 1 none [0,1,5] [
 qm 6 0,
 qm 7 1,
 qb 8 .rem 6 7,
 qm 5 8])
 (.seq
 (.seq
 (.reg 2 none [0,1,5,10] [
 qm 9 5,
 qB 10 .lss 9 0])
 (qq 10
 (.reg 3 none [0,5] [
 qm 11 5,
 qm 12 1,
 qb 13 .add 11 12,
 qm 5 13])
 .skip))
 (.seq
 (.reg 4 none [4] [
 qm 14 0,
 qm 15 5,
 qb 16 .sub 14 15,
 qm 4 16])
 .ret))))
def qo8:List (Nat×List Nat):=qA QJ
theorem qo9:FnIR Tryz.prog kS 17 qo8 QJ [(.tmp 4)]:=
 qF Tryz.func63
def Qg:RC:=
 (.seq
 (.reg 0 none [1,2] [
 .r 2 (.box (.t 0)),
 qi 4 0])
 (.seq
 (.reg 1 none [4] [
 qf 5 5 2,
 ql 6 5,
 qf 7 5 2,
 ql 8 7,
 qn 9 8,
 qm 10 1,
 qb 11 .sub 9 10,
 qx 12 1 6 11,
 ql 13 12,
 qm 4 13])
 .ret))
def qk7:List (Nat×List Nat):=qA Qg
theorem qk8:FnIR Tryz.prog ya 14 qk7 Qg [(.tmp 4)]:=
 qF Tryz.func64
def jd:RC:=
 (.seq
 (.reg 0 none [2,3,4] [
 .r 3 (.box (.t 0)),
 .r 4 (.box (.t 1)),
 qi 6 0])
 (.seq
 (.block 0
 (.seq
 (.reg 1 none [2,3,4,7] [
 qf 8 0 4,
 ql 9 8,
 qB 10 .eql 9 2,
 qm 7 10])
 (qq 7
 (.seq
 (.reg 2 (some [0,1,0,4,0,16,60,124,252,511,1023,0,0,4096,16383,32767,65535]) [6] [
 qf 11 0 3,
 ql 12 11,
 qf 13 1 3,
 ql 14 13,
 qf 15 1 4,
 ql 16 15,
 qx 17 7 14 16,
 qf 18 2 17,
 ql 19 18,
 qx 20 2 12 19,
 qL 21 2 20,
 qm 22 2,
 qf 23 2 4,
 ql 24 23,
 qC 25 Zq [.t 21,.t 22,.t 24],
 qC 26 ja [.t 25],
 qm 6 26])
 .ret)
 (.seq
 (.reg 3 none [2,4,27] [
 qf 28 0 4,
 ql 29 28,
 qB 30 .eql 29 4,
 qm 27 30])
 (qq 27
 (.seq
 (.reg 4 none [6] [
 qm 31 2,
 .r 32 (.bin .eql false (.t 31) (.k (.v (.int .i64 (-1099511627776))))),
 qC 33 ja [.t 32],
 qm 6 33])
 .ret)
 (.seq
 (.reg 5 none [2,4,34] [
 qm 35 2,
 .r 36 (.bin .eql false (.t 35) (.k (.v (.int .i64 (-1099511627776))))),
 qm 34 36])
 (qq 34
 (.seq
 (.reg 6 none [6] [
 qi 6 0])
 .ret)
 .skip)))))))
 (.seq
 (.reg 7 none [6] [
 qm 37 2,
 qf 38 3 4,
 ql 39 38,
 qb 40 .geq 37 39,
 qm 41 40,
 qmt 42 41 2,
 qft 43 41 4 4,
 qlt 44 41 43,
 .rt 45 41 (.bin .leq false (.t 42) (.t 44)),
 qp 46 41 45,
 qC 47 ja [.t 46],
 qm 6 47])
 .ret)))
def YT:List (Nat×List Nat):=qA jd
theorem wQ:FnIR Tryz.prog jr 48 YT jd [(.tmp 6)]:=
 qF Tryz.func65
def Qh:RC:=
 (.seq
 (.reg 0 none [1] [
 .r 1 (.box (.t 0)),
 .r 2 (.mv (qN))])
 (.seq
 (.reg 1 none [1,3] [
 qf 6 1 1,
 ql 7 6,
 qn 8 7,
 .r 9 (.mk 1 8 (.v (.int .i64 0)) (.t 8) (.t 8)),
 qm 3 9])
 (.seq
 (.seq
 (.reg 2 none [3,11,12,13] [
 qf 10 1 1,
 ql 11 10,
 qn 12 11,
 qi 13 0])
 (.block 0
 (.loop
 (.seq
 (.reg 3 none [3,11,12,13,14] [
 qb 14 .lss 13 12])
 (.seq
 (qq 14
 .skip
 (.exit 0))
 (.seq
 (.block 1
 (.seq
 (.reg 4 none [3,4,5,11,12,13] [
 qm 15 13,
 qx 16 2 11 13,
 qL 17 2 16,
 .r 5 (.new (.agg [.v (.string ⟨#[]⟩),.v (.int .i64 0)])),
 qm 4 15,
 qs 2 5 17])
 (.seq
 (.reg 5 none [3,4,5,11,12,13,19] [
 qm 18 4,
 qB 19 .gtr 18 0])
 (qq 19
 (.reg 6 none [3,11,12,13] [
 qm 20 3,
 qm 21 4,
 qm 22 3,
 qf 23 1 5,
 ql 24 23,
 qx 25 1 22 24,
 ql 26 25,
 qa 27 26,
 qx 28 1 20 21,
 qs 1 28 27])
 .skip))))
 (.reg 7 none [3,11,12,13] [
 qa 29 13,
 qm 13 29])))))))
 (.seq
 (.reg 8 none [2] [
 qm 30 3,
 qm 2 30])
 .ret))))
def qk9:List (Nat×List Nat):=qA Qh
theorem ql0:FnIR Tryz.prog zO 31 qk9 Qh [(.tmp 2)]:=
 qF Tryz.func69
def zp:RC:=
 (.seq
 (.reg 0 none [0,1] [
 qi 4 0])
 (.seq
 (.seq
 (.reg 1 none [0,1,7,8] [
 qm 6 0,
 qn 7 6,
 qi 8 0])
 (.block 0
 (.loop
 (.seq
 (.reg 2 none [0,1,7,8,9] [
 qb 9 .lss 8 7])
 (.seq
 (qq 9
 .skip
 (.exit 0))
 (.seq
 (.block 1
 (.seq
 (.reg 3 none [0,1,5,7,8] [
 qm 10 8,
 qm 5 10])
 (.seq
 (.reg 4 none [0,1,5,7,8,16] [
 qm 11 1,
 qm 12 0,
 qm 13 5,
 qx 14 2 12 13,
 qL 15 2 14,
 .r 16 (.call (.t 11) [.t 15])])
 (qq 16
 (.seq
 (.reg 5 none [4] [
 qm 17 5,
 qm 4 17])
 .ret)
 .skip))))
 (.reg 6 none [0,1,7,8] [
 qa 18 8,
 qm 8 18])))))))
 (.seq
 (.reg 7 none [4] [
 .r 4 (.mv (.k (.v (.int .i64 (-1)))))])
 .ret)))
def yK:List (Nat×List Nat):=qA zp
theorem yL:FnIR Tryz.prog zx 19 yK zp [(.tmp 4)]:=
 qF Tryz.func70
def zi:RC:=
 (.seq
 (.reg 0 none [0,1] [
 qc 4 false])
 (.seq
 (.reg 1 none [4] [
 qm 5 0,
 qm 6 1,
 qC 7 zP [.t 5,.t 6],
 qB 8 .geq 7 0,
 qm 4 8])
 .ret))
def yx:List (Nat×List Nat):=qA zi
theorem yz:FnIR Tryz.prog zn 9 yx zi [(.tmp 4)]:=
 qF Tryz.func71
def jp:RC:=
 (.seq
 (.reg 0 none [1,2] [
 .r 2 (.box (.t 0)),
 qc 3 false])
 (.seq
 (.reg 1 none [3] [
 qf 4 0 2,
 ql 5 4,
 qf 6 0 1,
 ql 7 6,
 qb 8 .eql 5 7,
 qm 3 8])
 .ret))
def ZC:List (Nat×List Nat):=qA jp
theorem ZD:FnIR Tryz.prog zE 9 ZC jp [(.tmp 3)]:=
 qF Tryz.func72
def jy:RC:=
 (.seq
 (.reg 0 none [1] [
 .r 1 (.box (.t 0)),
 qi 2 0])
 (.seq
 (.block 0
 (.seq
 (.reg 1 none [1,6] [
 qf 7 3 1,
 ql 8 7,
 .r 9 (.bin .lss false (.t 8) (.k (.v (.int .i64 (-1000000))))),
 qm 10 9,
 qff 11 10 4 1,
 qlf 12 10 11,
 .rf 13 10 (.bin .gtr false (.t 12) (qI 1000000)),
 qP 14 10 13,
 qm 15 14,
 qff 16 15 3 1,
 qlf 17 15 16,
 qff 18 15 4 1,
 qlf 19 15 18,
 .rf 20 15 (.bin .gtr false (.t 17) (.t 19)),
 qP 21 15 20,
 qm 6 21])
 (qq 6
 (.seq
 (.reg 2 none [2] [
 qi 2 2])
 .ret)
 (.seq
 (.reg 3 none [1,22] [
 qf 23 5 1,
 ql 24 23,
 qn 25 24,
 qB 26 .eql 25 0,
 qm 27 26,
 qff 28 27 5 1,
 qlf 29 27 28,
 .rf 30 27 (.lenL (.t 29)),
 .rf 31 27 (.bin .gtr false (.t 30) (qI 4)),
 qP 32 27 31,
 qm 22 32])
 (qq 22
 (.seq
 (.reg 4 none [2] [
 qi 2 1])
 .ret)
 .skip)))))
 (.seq
 (.reg 5 none [1,3] [
 qi 3 1])
 (.seq
 (.seq
 (.reg 6 none [3,34,35,36] [
 qf 33 5 1,
 ql 34 33,
 qn 35 34,
 qi 36 0])
 (.block 1
 (.loop
 (.seq
 (.reg 7 none [3,34,35,36,37] [
 qb 37 .lss 36 35])
 (.seq
 (qq 37
 .skip
 (.exit 1))
 (.seq
 (.block 2
 (.seq
 (.reg 8 none [3,4,5,34,35,36] [
 qm 38 36,
 qx 39 1 34 36,
 ql 40 39,
 qm 4 38,
 qm 5 40])
 (.seq
 (.seq
 (.reg 9 none [5,34,35,36,65] [
 qm 41 4,
 qB 42 .eql 41 0,
 qm 43 42,
 qmt 44 43 5,
 .rt 45 43 (.bin .neq false (.t 44) (qI 1)),
 qp 46 43 45,
 qm 47 46,
 qmf 48 47 4,
 .rf 49 47 (.bin .gtr false (.t 48) (qI 0)),
 qmf 50 47 49,
 qmt 51 50 5,
 qmt 52 50 3,
 .rt 53 50 (.bin .leq false (.t 51) (.t 52)),
 qmt 54 50 53,
 qmf 55 54 5,
 qmf 56 54 3,
 .rf 57 54 (.bin .rem false (.t 55) (.t 56)),
 .rf 58 54 (.bin .neq false (.t 57) (qI 0)),
 .rt 59 50 (.pick (.t 54) (.k (.v (.bool true))) (.t 58)),
 qmt 60 50 59,
 qmf 61 60 5,
 .rf 62 60 (.bin .gtr false (.t 61) (qI 1000000)),
 .rt 63 50 (.pick (.t 60) (.k (.v (.bool true))) (.t 62)),
 .rf 64 47 (.pick (.t 50) (.t 63) (.k (.v (.bool false)))),
 qP 65 47 64])
 (qq 65
 (.seq
 (.reg 10 none [2] [
 qi 2 2])
 .ret)
 .skip))
 (.reg 11 none [3,34,35,36] [
 qm 66 5,
 qm 3 66]))))
 (.reg 12 none [3,34,35,36] [
 qa 67 36,
 qm 36 67])))))))
 (.seq
 (.reg 13 none [2] [
 qi 2 0])
 .ret)))))
def ZY:List (Nat×List Nat):=qA jy
theorem ZZ:FnIR Tryz.prog jE 68 ZY jy [(.tmp 2)]:=
 qF Tryz.func73
def yA:RC:=
 (.seq
 (.reg 0 none [1] [
 .r 1 (.box (.t 0)),
 qc 2 false])
 (.seq
 (.seq
 (.reg 1 none [1,10] [
 qf 3 1 1,
 ql 4 3,
 qB 5 .neq 4 2,
 qm 6 5,
 qft 7 6 2 1,
 qlt 8 6 7,
 .rt 9 6 (.bin .neq false (.t 8) (qI 0)),
 qp 10 6 9])
 (qq 10
 (.seq
 (.reg 2 none [2] [
 qc 2 false])
 .ret)
 .skip))
 (.seq
 (.reg 3 none [2] [
 qf 11 1 1,
 ql 12 11,
 qB 13 .eql 12 3,
 qm 14 13,
 qff 15 14 3 1,
 qlf 16 14 15,
 .rf 17 14 (.bin .eql false (.t 16) (qI 0)),
 qmf 18 14 17,
 qft 19 18 4 1,
 qlt 20 18 19,
 .rt 21 18 (.bin .eql false (.t 20) (qI 0)),
 .rf 22 14 (.pick (.t 18) (.t 21) (.k (.v (.bool false)))),
 qmf 23 14 22,
 qft 24 23 5 1,
 qlt 25 23 24,
 .rt 26 23 (.lenL (.t 25)),
 .rt 27 23 (.bin .eql false (.t 26) (qI 0)),
 .rf 28 14 (.pick (.t 23) (.t 27) (.k (.v (.bool false)))),
 qmf 29 14 28,
 qft 30 29 6 1,
 qlt 31 29 30,
 .rt 32 29 (.un .not (.t 31)),
 .rf 33 14 (.pick (.t 29) (.t 32) (.k (.v (.bool false)))),
 qP 34 14 33,
 qm 2 34])
 .ret)))
def qe3:List (Nat×List Nat):=qA yA
theorem qe4:FnIR Tryz.prog yX 35 qe3 yA [(.tmp 2)]:=
 qF Tryz.func74
def jK:RC:=
 (.seq
 (.reg 0 none [2,3] [
 .r 2 (.box (.t 0)),
 .r 3 (.box (.t 1)),
 qi 4 0])
 (.seq
 (.block 0
 (.seq
 (.reg 1 none [2,3,6] [
 qf 7 0 3,
 ql 8 7,
 qB 9 .lss 8 1,
 qm 10 9,
 qff 11 10 0 3,
 qlf 12 10 11,
 .rf 13 10 (.bin .gtr false (.t 12) (qI 7)),
 qP 14 10 13,
 qm 6 14])
 (qq 6
 (.seq
 (.reg 2 none [4] [
 qi 4 4])
 .ret)
 (.seq
 (.reg 3 (some [0,1,3,0,8,24,63,127,255,511,1023,2047,4095]) [2,3,15] [
 qf 16 5 3,
 ql 17 16,
 qn 18 17,
 qf 19 0 3,
 ql 20 19,
 qC 21 ym [.t 20],
 qb 22 .neq 18 21,
 qm 23 22,
 .rf 24 23 (.ld (some 6) (.t 3)),
 .rf 25 23 (.call (.k (.clo kV [])) [.t 24]),
 .rf 26 23 (.un .not (.t 25)),
 qP 27 23 26,
 qm 15 27])
 (qq 15
 (.seq
 (.reg 4 none [4] [
 qi 4 11])
 .ret)
 (.seq
 (.reg 5 none [2,3,28] [
 qf 29 0 3,
 ql 30 29,
 qB 31 .neq 30 2,
 qm 32 31,
 qft 33 32 0 3,
 qlt 34 32 33,
 .rt 35 32 (.bin .neq false (.t 34) (qI 3)),
 qp 36 32 35,
 qm 37 36,
 qft 38 37 0 3,
 qlt 39 37 38,
 .rt 40 37 (.bin .neq false (.t 39) (qI 4)),
 qp 41 37 40,
 qm 28 41])
 (qq 28
 (.seq
 (.reg 6 none [4] [
 qi 4 0])
 .ret)
 (.seq
 (.reg 7 none [2,3,42] [
 qf 43 1 3,
 ql 44 43,
 qB 45 .lss 44 0,
 qm 46 45,
 qff 47 46 1 3,
 qlf 48 46 47,
 qff 49 46 1 2,
 qlf 50 46 49,
 .rf 51 46 (.lenL (.t 50)),
 .rf 52 46 (.bin .geq false (.t 48) (.t 51)),
 qP 53 46 52,
 qm 42 53])
 (qq 42
 (.seq
 (.reg 8 none [4] [
 qi 4 7])
 .ret)
 .skip)))))))))
 (.seq
 (.reg 9 none [2,3,5] [
 qf 54 1 2,
 ql 55 54,
 qf 56 1 3,
 ql 57 56,
 qx 58 7 55 57,
 qL 59 7 58,
 .r 5 (.new (.agg [.v (.string ⟨#[]⟩),.v (.int .i64 0),.v (.int .i64 0),.v (.int .i64 0),.v (.int .i64 0),.v (.slice none 0 0),.v (.bool false)])),
 qs 7 5 59])
 (.seq
 (.seq
 (.reg 10 none [2,3,5,61] [
 qf 60 0 3,
 ql 61 60])
 (.block 1
 (.seq
 (.reg 11 none [2,3,5,61,62] [
 qB 63 .eql 61 2,
 qm 62 63])
 (qq 62
 (.seq
 (.seq
 (.reg 12 none [2,3,5,66] [
 qf 64 1 5,
 ql 65 64,
 qB 66 .neq 65 2])
 (qq 66
 (.seq
 (.reg 13 none [4] [
 qi 4 7])
 .ret)
 .skip))
 (.seq
 (.reg 14 (some [0,1,3,7,15,31,15,79,15,271,975,1999,4047,8143,16383,32767]) [82] [
 qf 67 2 3,
 ql 68 67,
 qB 69 .lss 68 0,
 qm 70 69,
 qff 71 70 2 3,
 qlf 72 70 71,
 qff 73 70 0 2,
 qlf 74 70 73,
 qff 75 70 2 5,
 qlf 76 70 75,
 .rf 77 70 (.ixL 2 (.t 74) (.t 76)),
 qff 78 70 1 77,
 qlf 79 70 78,
 .rf 80 70 (.lenL (.t 79)),
 .rf 81 70 (.bin .geq false (.t 72) (.t 80)),
 qP 82 70 81])
 (qq 82
 (.seq
 (.reg 15 none [4] [
 qi 4 6])
 .ret)
 .skip)))
 (.seq
 (.reg 16 none [3,5,61,83] [
 qB 84 .eql 61 3,
 qm 83 84])
 (qq 83
 (.seq
 (.seq
 (.reg 17 none [3,87] [
 qf 85 1 5,
 ql 86 85,
 qB 87 .neq 86 3])
 (qq 87
 (.seq
 (.reg 18 none [4] [
 qi 4 7])
 .ret)
 .skip))
 (.seq
 (.reg 19 none [102] [
 qf 88 3 3,
 ql 89 88,
 qf 90 4 3,
 ql 91 90,
 qb 92 .gtr 89 91,
 qm 93 92,
 qff 94 93 3 3,
 qlf 95 93 94,
 .rf 96 93 (.bin .lss false (.t 95) (.k (.v (.int .i64 (-1000000))))),
 qP 97 93 96,
 qm 98 97,
 qff 99 98 4 3,
 qlf 100 98 99,
 .rf 101 98 (.bin .gtr false (.t 100) (qI 1000000)),
 qP 102 98 101])
 (qq 102
 (.seq
 (.reg 20 none [4] [
 qi 4 2])
 .ret)
 .skip)))
 (.seq
 (.reg 21 none [5,103] [
 qB 104 .eql 61 4,
 qm 103 104])
 (qq 103
 (.seq
 (.reg 22 none [112] [
 qf 105 1 5,
 ql 106 105,
 qB 107 .neq 106 3,
 qm 108 107,
 qff 109 108 6 5,
 qlf 110 108 109,
 .rf 111 108 (.un .not (.t 110)),
 qP 112 108 111])
 (qq 112
 (.seq
 (.reg 23 none [4] [
 qi 4 7])
 .ret)
 .skip))
 .skip))))))))
 (.seq
 (.reg 24 none [4] [
 qi 4 0])
 .ret)))))
def JG:List (Nat×List Nat):=qA jK
theorem JH:FnIR Tryz.prog jW 113 JG jK [(.tmp 4)]:=
 qF Tryz.func75
def QK:RC:=
 (.seq
 (.reg 0 none [2,3] [
 .r 2 (.box (.t 0)),
 .r 3 (.box (.t 1)),
 qi 4 0])
 (.seq
 (.seq
 (.reg 1 none [2,3,5] [
 qL 6 2 2,
 qC 7 zr [.t 6],
 qm 5 7])
 (.seq
 (.reg 2 none [2,3,5,9] [
 qm 8 5,
 qB 9 .neq 8 0])
 (qq 9
 (.seq
 (.reg 3 none [4] [
 qm 10 5,
 qm 4 10])
 .ret)
 .skip)))
 (.seq
 (.reg 4 none [4] [
 qL 11 2 2,
 qL 12 2 3,
 qC 13 yH [.t 11,.t 12],
 qm 4 13])
 .ret)))
def qp0:List (Nat×List Nat):=qA QK
theorem qp1:FnIR Tryz.prog Zp 14 qp0 QK [(.tmp 4)]:=
 qF Tryz.func76
def jL:RC:=
 (.seq
 (.reg 0 none [1,2] [
 .r 2 (.box (.t 0)),
 qi 4 0])
 (.seq
 (.seq
 (.reg 1 none [1,2,13] [
 qm 5 1,
 qB 6 .lss 5 0,
 qm 7 6,
 qmf 8 7 1,
 qff 9 7 1 2,
 qlf 10 7 9,
 .rf 11 7 (.lenL (.t 10)),
 .rf 12 7 (.bin .geq false (.t 8) (.t 11)),
 qP 13 7 12])
 (qq 13
 (.seq
 (.reg 2 none [4] [
 qi 4 0])
 .ret)
 .skip))
 (.seq
 (.reg 3 none [4] [
 qf 14 1 2,
 ql 15 14,
 qm 16 1,
 qx 17 7 15 16,
 qf 18 1 17,
 ql 19 18,
 qm 4 19])
 .ret)))
def JI:List (Nat×List Nat):=qA jL
theorem JJ:FnIR Tryz.prog qU 20 JI jL [(.tmp 4)]:=
 qF Tryz.func77
def jz:RC:=
 (.seq
 (.reg 0 none [1,2] [
 .r 2 (.box (.t 0)),
 qc 3 false])
 (.seq
 (.reg 1 none [3] [
 qf 4 0 2,
 ql 5 4,
 qf 6 0 1,
 ql 7 6,
 qb 8 .eql 5 7,
 qm 3 8])
 .ret))
def Ja:List (Nat×List Nat):=qA jz
theorem Jb:FnIR Tryz.prog zN 9 Ja jz [(.tmp 3)]:=
 qF Tryz.func78
def kf:RC:=
 (.seq
 (.reg 0 none [1] [
 .r 1 (.box (.t 0)),
 qc 2 false])
 (.seq
 (.reg 1 none [2] [
 qf 3 0 1,
 ql 4 3,
 qB 5 .eql 4 0,
 qm 6 5,
 qft 7 6 1 1,
 qlt 8 6 7,
 .rt 9 6 (.bin .eql false (.t 8) (qI 0)),
 qp 10 6 9,
 qm 11 10,
 qft 12 11 2 1,
 qlt 13 11 12,
 .rt 14 11 (.bin .eql false (.t 13) (qI 0)),
 qp 15 11 14,
 qm 16 15,
 qft 17 16 3 1,
 qlt 18 16 17,
 .rt 19 16 (.bin .eql false (.t 18) (qI 0)),
 qp 20 16 19,
 qm 21 20,
 qft 22 21 4 1,
 qlt 23 21 22,
 .rt 24 21 (.bin .eql false (.t 23) (qI 0)),
 qp 25 21 24,
 qm 26 25,
 qft 27 26 5 1,
 qlt 28 26 27,
 .rt 29 26 (.lenL (.t 28)),
 .rt 30 26 (.bin .eql false (.t 29) (qI 0)),
 qp 31 26 30,
 qm 2 31])
 .ret))
def Ks:List (Nat×List Nat):=qA kf
theorem Kt:FnIR Tryz.prog ji 32 Ks kf [(.tmp 2)]:=
 qF Tryz.func79
def Wb:RC:=
 (.seq
 (.reg 0 none [1,2] [
 .r 2 (.box (.t 0)),
 .r 4 (.mv (qN))])
 (.seq
 (.seq
 (.reg 1 none [1,2,10] [
 qL 8 2 2,
 qC 9 jQ [.t 8],
 qB 10 .neq 9 0])
 (qq 10
 (.seq
 (.reg 2 none [4] [
 .r 4 (.mv (qN))])
 .ret)
 .skip))
 (.seq
 (.reg 3 none [1,2,5] [
 .r 5 (.mv (qN))])
 (.seq
 (.seq
 (.reg 4 none [1,5,12,13,14] [
 qL 11 2 2,
 qC 12 zO [.t 11],
 qn 13 12,
 qi 14 0])
 (.block 0
 (.loop
 (.seq
 (.reg 5 none [1,5,12,13,14,15] [
 qb 15 .lss 14 13])
 (.seq
 (qq 15
 .skip
 (.exit 0))
 (.seq
 (.block 1
 (.seq
 (.reg 6 none [1,5,6,7,12,13,14] [
 qm 16 14,
 qx 17 1 12 14,
 ql 18 17,
 qm 6 16,
 qm 7 18])
 (.seq
 (.reg 7 none [1,5,6,12,13,14,21] [
 qm 19 7,
 qm 20 1,
 qb 21 .eql 19 20])
 (qq 21
 (.reg 8 none [1,5,12,13,14] [
 qm 22 5,
 qm 23 6,
 .r 24 (.bsl 1 1 [.t 23]),
 .r 25 (.app 1 8 false (.t 22) (.t 24)),
 qm 5 25])
 .skip))))
 (.reg 9 none [1,5,12,13,14] [
 qa 26 14,
 qm 14 26])))))))
 (.seq
 (.reg 10 none [4] [
 qm 27 5,
 qm 4 27])
 .ret)))))
def qM3:List (Nat×List Nat):=qA Wb
theorem qM4:FnIR Tryz.prog QS 28 qM3 Wb [(.tmp 4)]:=
 qF Tryz.func80
def kD:RC:=
 (.seq
 (.reg 0 none [0,1] [
 qi 4 0])
 (.seq
 (.seq
 (.reg 1 none [0,1,7,8] [
 qm 6 0,
 qn 7 6,
 qi 8 0])
 (.block 0
 (.loop
 (.seq
 (.reg 2 none [0,1,7,8,9] [
 qb 9 .lss 8 7])
 (.seq
 (qq 9
 .skip
 (.exit 0))
 (.seq
 (.block 1
 (.seq
 (.reg 3 none [0,1,5,7,8] [
 qm 10 8,
 qm 5 10])
 (.seq
 (.reg 4 none [0,1,5,7,8,16] [
 qm 11 1,
 qm 12 0,
 qm 13 5,
 qx 14 1 12 13,
 ql 15 14,
 qb 16 .eql 11 15])
 (qq 16
 (.seq
 (.reg 5 none [4] [
 qm 17 5,
 qm 4 17])
 .ret)
 .skip))))
 (.reg 6 none [0,1,7,8] [
 qa 18 8,
 qm 8 18])))))))
 (.seq
 (.reg 7 none [4] [
 .r 4 (.mv (.k (.v (.int .i64 (-1)))))])
 .ret)))
def Wc:List (Nat×List Nat):=qA kD
theorem Wd:FnIR Tryz.prog kT 19 Wc kD [(.tmp 4)]:=
 qF Tryz.func81
def Qi:RC:=
 (.seq
 (.reg 0 none [1] [
 .r 1 (.box (.t 0)),
 qi 2 0])
 (.seq
 (.seq
 (.reg 1 none [1,5] [
 qL 3 2 1,
 qC 4 jQ [.t 3],
 qB 5 .neq 4 0])
 (qq 5
 (.seq
 (.reg 2 none [2] [
 .r 2 (.mv (.k (.v (.int .i64 (-1)))))])
 .ret)
 .skip))
 (.seq
 (.reg 3 none [2] [
 qL 6 2 1,
 qC 7 zO [.t 6],
 qC 8 yn [.t 7],
 qa 9 8,
 qm 2 9])
 .ret)))
def ql1:List (Nat×List Nat):=qA Qi
theorem ql2:FnIR Tryz.prog ki 10 ql1 Qi [(.tmp 2)]:=
 qF Tryz.func82
def wn:RC:=
 (.seq
 (.reg 0 none [1,2] [
 .r 2 (.box (.t 0)),
 qi 4 0])
 (.seq
 (.reg 1 none [4] [
 qf 5 5 2,
 ql 6 5,
 qf 7 5 2,
 ql 8 7,
 qn 9 8,
 qm 10 1,
 qb 11 .sub 9 10,
 qx 12 1 6 11,
 ql 13 12,
 qm 4 13])
 .ret))
def Yd:List (Nat×List Nat):=qA wn
theorem Ye:FnIR Tryz.prog wG 14 Yd wn [(.tmp 4)]:=
 qF Tryz.func83
def wR:RC:=
 (.seq
 (.reg 0 none [0,1] [
 qi 4 0])
 (.seq
 (.reg 1 none [0,1,5] [
 qm 6 0,
 qm 7 1,
 qb 8 .rem 6 7,
 qm 5 8])
 (.seq
 (.seq
 (.reg 2 none [0,1,5,10] [
 qm 9 5,
 qB 10 .lss 9 0])
 (qq 10
 (.reg 3 none [0,5] [
 qm 11 5,
 qm 12 1,
 qb 13 .add 11 12,
 qm 5 13])
 .skip))
 (.seq
 (.reg 4 none [4] [
 qm 14 0,
 qm 15 5,
 qb 16 .sub 14 15,
 qm 4 16])
 .ret))))
def YU:List (Nat×List Nat):=qA wR
theorem YV:FnIR Tryz.prog ku 17 YU wR [(.tmp 4)]:=
 qF Tryz.func84
def zz:RC:=
 (.seq
 (.reg 0 none [0,1] [
 qc 4 false])
 (.seq
 (.reg 1 none [4] [
 qm 5 0,
 qm 6 1,
 qC 7 jj [.t 5,.t 6],
 qB 8 .geq 7 0,
 qm 4 8])
 .ret))
def Qj:List (Nat×List Nat):=qA zz
theorem Qk:FnIR Tryz.prog zG 9 Qj zz [(.tmp 4)]:=
 qF Tryz.func86
def yB:RC:=
 (.seq
 (.reg 0 none [1,2] [
 .r 2 (.box (.t 0)),
 qc 3 false])
 (.seq
 (.reg 1 none [3] [
 qf 4 1 2,
 ql 5 4,
 ql 6 1,
 qb 7 .eql 5 6,
 qm 3 7])
 .ret))
def qe5:List (Nat×List Nat):=qA yB
theorem qe6:FnIR Tryz.prog kU 8 qe5 yB [(.tmp 3)]:=
 qF Tryz.func87
def JK:RC:=
 (.seq
 (.reg 0 none [1,2] [
 .r 2 (.box (.t 0)),
 qc 4 false])
 (.seq
 (.reg 1 none [4] [
 qm 5 1,
 qB 6 .geq 5 0,
 qm 7 6,
 qmt 8 7 1,
 qft 9 7 1 2,
 qlt 10 7 9,
 .rt 11 7 (.lenL (.t 10)),
 .rt 12 7 (.bin .lss false (.t 8) (.t 11)),
 qp 13 7 12,
 qm 14 13,
 .rt 15 14 (.ld (some 2) (.t 2)),
 .rt 16 14 (.call (.k (.clo jQ [])) [.t 15]),
 .rt 17 14 (.bin .eql false (.t 16) (qI 0)),
 qp 18 14 17,
 qm 4 18])
 .ret))
def qG6:List (Nat×List Nat):=qA JK
theorem qG7:FnIR Tryz.prog yY 19 qG6 JK [(.tmp 4)]:=
 qF Tryz.func88
def wq:RC:=
 (.seq
 (.reg 0 none [0] [
 qi 2 0])
 (.seq
 (.seq
 (.reg 1 none [3] [
 qm 3 0])
 (qq 3
 (.seq
 (.reg 2 none [2] [
 qi 2 1])
 .ret)
 .skip))
 (.seq
 (.reg 3 none [2] [
 .r 2 (.mv (.k (.v (.int .i64 (-1)))))])
 .ret)))
def Yf:List (Nat×List Nat):=qA wq
theorem Yg:FnIR Tryz.prog ja 4 Yf wq [(.tmp 2)]:=
 qF Tryz.func89
def QL:RC:=
 (.seq
 (.reg 0 none [1,2,3] [
 .r 3 (.box (.t 0)),
 qc 6 false])
 (.seq
 (.seq
 (.reg 1 none [1,2,3,16] [
 qL 7 2 3,
 qm 8 1,
 qC 9 yY [.t 7,.t 8],
 .r 10 (.un .not (.t 9)),
 qm 11 10,
 .rf 12 11 (.ld (some 2) (.t 3)),
 qmf 13 11 2,
 .rf 14 11 (.call (.k (.clo yY [])) [.t 12,.t 13]),
 .rf 15 11 (.un .not (.t 14)),
 qP 16 11 15])
 (qq 16
 (.seq
 (.reg 2 none [6] [
 qc 6 false])
 .ret)
 .skip))
 (.seq
 (.reg 3 (some [0,0,0,4,0,28,60,127,0,511,1023]) [6] [
 qL 17 2 3,
 qm 18 1,
 qL 19 2 3,
 qC 20 zO [.t 19],
 qm 21 2,
 qx 22 1 20 21,
 ql 23 22,
 qC 24 wF [.t 17,.t 18,.t 23],
 qm 25 2,
 qb 26 .eql 24 25,
 qm 6 26])
 .ret)))
def qp2:List (Nat×List Nat):=qA QL
theorem qp3:FnIR Tryz.prog Zq 27 qp2 QL [(.tmp 6)]:=
 qF Tryz.func90
def zH:RC:=
 (.seq
 (.reg 0 none [0,1] [
 qi 4 0])
 (.seq
 (.seq
 (.reg 1 none [0,1,7,8] [
 qm 6 0,
 qn 7 6,
 qi 8 0])
 (.block 0
 (.loop
 (.seq
 (.reg 2 none [0,1,7,8,9] [
 qb 9 .lss 8 7])
 (.seq
 (qq 9
 .skip
 (.exit 0))
 (.seq
 (.block 1
 (.seq
 (.reg 3 none [0,1,5,7,8] [
 qm 10 8,
 qm 5 10])
 (.seq
 (.reg 4 none [0,1,5,7,8,16] [
 qm 11 1,
 qm 12 0,
 qm 13 5,
 qx 14 7 12 13,
 qL 15 7 14,
 .r 16 (.call (.t 11) [.t 15])])
 (qq 16
 (.seq
 (.reg 5 none [4] [
 qm 17 5,
 qm 4 17])
 .ret)
 .skip))))
 (.reg 6 none [0,1,7,8] [
 qa 18 8,
 qm 8 18])))))))
 (.seq
 (.reg 7 none [4] [
 .r 4 (.mv (.k (.v (.int .i64 (-1)))))])
 .ret)))
def Qw:List (Nat×List Nat):=qA zH
theorem Qx:FnIR Tryz.prog zP 19 Qw zH [(.tmp 4)]:=
 qF Tryz.func94
def wS:RC:=
 (.seq
 (.reg 0 none [0] [
 qi 2 0])
 (.seq
 (.seq
 (.reg 1 none [3] [
 qm 3 0])
 (.block 0
 (.seq
 (.seq
 (.reg 2 none [3,4] [
 qB 5 .eql 3 5,
 qm 4 5])
 (qq 4
 .skip
 (.reg 3 none [3,4] [
 qB 6 .eql 3 6,
 qm 4 6])))
 (qq 4
 (.seq
 (.reg 4 none [2] [
 qi 2 2])
 .ret)
 (.seq
 (.reg 5 none [7] [
 qB 8 .eql 3 7,
 qm 7 8])
 (qq 7
 (.seq
 (.reg 6 none [2] [
 qi 2 1])
 .ret)
 .skip))))))
 (.seq
 (.reg 7 none [2] [
 qi 2 0])
 .ret)))
def YW:List (Nat×List Nat):=qA wS
theorem YX:FnIR Tryz.prog ym 9 YW wS [(.tmp 2)]:=
 qF Tryz.func95
def kE:RC:=
 (.seq
 (.reg 0 none [1] [
 .r 1 (.box (.t 0)),
 qc 2 false])
 (.seq
 (.reg 1 none [1,3] [
 qf 4 0 1,
 ql 5 4,
 qB 6 .eql 5 2,
 qm 7 6,
 qff 8 7 0 1,
 qlf 9 7 8,
 .rf 10 7 (.bin .eql false (.t 9) (qI 3)),
 qP 11 7 10,
 qm 12 11,
 qff 13 12 0 1,
 qlf 14 12 13,
 .rf 15 12 (.bin .eql false (.t 14) (qI 4)),
 qP 16 12 15,
 qm 3 16])
 (.seq
 (.block 0
 (.seq
 (.seq
 (.reg 2 none [1,17] [
 qm 18 3,
 .r 19 (.un .not (.t 18)),
 qm 20 19,
 qft 21 20 1 1,
 qlt 22 20 21,
 .rt 23 20 (.bin .neq false (.t 22) (qI 0)),
 qp 24 20 23,
 qm 17 24])
 (qq 17
 .skip
 (.reg 3 none [1,17] [
 qf 25 0 1,
 ql 26 25,
 qB 27 .neq 26 2,
 qm 28 27,
 qft 29 28 2 1,
 qlt 30 28 29,
 .rt 31 28 (.bin .neq false (.t 30) (qI 0)),
 qp 32 28 31,
 qm 17 32])))
 (qq 17
 (.seq
 (.reg 4 none [2] [
 qc 2 false])
 .ret)
 .skip)))
 (.seq
 (.reg 5 none [2] [
 qf 33 0 1,
 ql 34 33,
 qB 35 .eql 34 3,
 qm 36 35,
 qff 37 36 3 1,
 qlf 38 36 37,
 .rf 39 36 (.bin .eql false (.t 38) (qI 0)),
 qmf 40 36 39,
 qft 41 40 4 1,
 qlt 42 40 41,
 .rt 43 40 (.bin .eql false (.t 42) (qI 0)),
 .rf 44 36 (.pick (.t 40) (.t 43) (.k (.v (.bool false)))),
 qP 45 36 44,
 qm 2 45])
 .ret))))
def We:List (Nat×List Nat):=qA kE
theorem Wf:FnIR Tryz.prog kV 46 We kE [(.tmp 2)]:=
 qF Tryz.func96
def wT:RC:=
 (.seq
 (.reg 0 none [0] [
 qi 2 0])
 (.seq
 (.seq
 (.reg 1 none [0,7] [
 qm 5 0,
 qn 6 5,
 qB 7 .lss 6 1])
 (qq 7
 .stuck
 .skip))
 (.seq
 (.reg 3 none [0,3] [
 qm 9 0,
 .r 10 (.ixL 1 (.t 9) (qI 0)),
 ql 11 10,
 qm 3 11])
 (.seq
 (.seq
 (.reg 4 none [0,3,4] [
 qi 4 1])
 (.block 0
 (.loop
 (.seq
 (.seq
 (.reg 5 none [0,3,4,15] [
 qm 12 4,
 qm 13 0,
 qn 14 13,
 qb 15 .lss 12 14])
 (qq 15
 .skip
 (.exit 0)))
 (.seq
 (.block 1
 (.reg 7 none [0,3,4] [
 qm 18 3,
 qm 19 0,
 qm 20 4,
 qx 21 1 19 20,
 ql 22 21,
 .r 23 (.mx [.t 18,.t 22]),
 qm 3 23]))
 (.reg 6 none [0,3,4] [
 qm 16 4,
 qa 17 16,
 qm 4 17]))))))
 (.seq
 (.reg 8 none [2] [
 qm 24 3,
 qm 2 24])
 .ret)))))
def YY:List (Nat×List Nat):=qA wT
theorem YZ:FnIR Tryz.prog yn 25 YY wT [(.tmp 2)]:=
 qF Tryz.func97
def je:RC:=
 (.seq
 (.reg 0 none [0,1] [
 qi 4 0])
 (.seq
 (.seq
 (.reg 1 none [0,1,7,8] [
 qm 6 0,
 qn 7 6,
 qi 8 0])
 (.block 0
 (.loop
 (.seq
 (.reg 2 none [0,1,7,8,9] [
 qb 9 .lss 8 7])
 (.seq
 (qq 9
 .skip
 (.exit 0))
 (.seq
 (.block 1
 (.seq
 (.reg 3 none [0,1,5,7,8] [
 qm 10 8,
 qm 5 10])
 (.seq
 (.reg 4 none [0,1,5,7,8,16] [
 qm 11 1,
 qm 12 0,
 qm 13 5,
 qx 14 2 12 13,
 qL 15 2 14,
 .r 16 (.call (.t 11) [.t 15])])
 (qq 16
 (.seq
 (.reg 5 none [4] [
 qm 17 5,
 qm 4 17])
 .ret)
 .skip))))
 (.reg 6 none [0,1,7,8] [
 qa 18 8,
 qm 8 18])))))))
 (.seq
 (.reg 7 none [4] [
 .r 4 (.mv (.k (.v (.int .i64 (-1)))))])
 .ret)))
def QV:List (Nat×List Nat):=qA je
theorem QW:FnIR Tryz.prog jj 19 QV je [(.tmp 4)]:=
 qF Tryz.func98
end Go.Proofs
