/- A part of the proof: trees of Go values, short forms, contracts. -/
import Derived.WalkKit
import Derived.Still
import Derived.MapKept
import GoSem.Builtin.Cap
import Derived.Laws.Externs
import GoSem.Extern.SlicesOverlaps
import Derived.Carry
import Derived.ProofKit
import Derived.OpenShut
import Derived.HandedShaped
import Derived.Lay
import Derived.LaidLaws
import Derived.MakeChecks
import Derived.SevenTiedAt
import Derived.Test.YtiddpnhnaooohaaGreatDoorChecked
import Derived.Test.YtiddpnhnaooohaaGreatDoorK14
set_option linter.unusedSimpArgs false
set_option linter.unusedVariables false
namespace Go.Proofs
open Go Go.TL
theorem mixm:Tryz.prog.follows .mixedOrders = true:=by kernel_rfl
theorem zE8 (l:List UInt8):Spc Tryz.prog qn8 [vL l] [] (.ptr 0 1 0 0) [(0,oC (l.take 400) 0)]:=by
 refine qd zn3 mixm (by simp) fun e _ hst=>qj ?_
 unfold qb8
 obtain ⟨m,hm,hm2⟩:∃ m:Nat,minI (l.length:Int) 400 = m∧m≤l.length∧l.take m = l.take 400:=by
  unfold minI
  split
  ·exact ⟨400,rfl,by omega,rfl⟩
  ·exact ⟨l.length,rfl,by omega,by rw [List.take_length,List.take_of_length_le (by omega)]⟩
 simp only [tZ,↓un_u,simprocAttr,hm,qn7,zg1,hm2]
 refine ⟨by omega,.of [(0,some 8216)] [] rfl rfl ?_ ?_⟩
 ·simp only [tL,simprocAttr]
  exact qQ ⟨rfl,rfl,rfl,rfl,trivial⟩ zh
 ·simp only [tL,simprocAttr]
theorem zN (l:List UInt8) (at_:Nat) (n:Int) (hl:l.length≤400) (ha:at_≤l.length) (hn:n≤1000000):Spc Tryz.prog qz [.ptr 0 1 0 0,vI n] [(0,oC l at_)] (vI (nx l at_ n).1) [(0,oC l (nx l at_ n).2)]:=by
 refine qd qi1 mixm (by simp) fun e _ hst=>qj ?_
 unfold yg
 simp only [tZ,↓un_u,simprocAttr,Bool.or_eq_true,Bool.or_eq_false_iff,decide_eq_true_eq,decide_eq_false_iff_not]
 refine ⟨by kernel_rfl,fun h1=>?_,fun h1=>?_⟩
 ·have e:nx l at_ n = (0,at_):=by unfold nx;rw [if_pos (by omega)]
  rw [e]
  refine .of [(0,some 0)] [] rfl rfl ?_ ?_
  ·simp only [tL,simprocAttr]
   exact qQ ⟨rfl,rfl,rfl,rfl,trivial⟩ zh
  ·simp only [tL,simprocAttr]
 ·have h2:at_ < l.length:=by omega
  have hw1:IntKind.i64.wrap ((at_:Int) + 1) = ((at_ + 1:Nat):Int):=by rw [IntWalk.i64_in _ (by omega)];omega
  have hw2:IntKind.i64.wrap (((at_ + 1:Nat):Int) - 1) = (at_:Int):=by rw [IntWalk.i64_in _ (by omega)];omega
  simp only [tZ,↓un_u,simprocAttr,hw1,hw2,Int.toNat_natCast,qP4 h2]
  refine ⟨by omega,by kernel_rfl,by kernel_rfl,fun h3=>?_,fun h3=>?_⟩
  ·simp only [Bool.and_eq_true,decide_eq_true_eq] at h3
   have h4:at_ + 1 < l.length:=by omega
   have hb:=zm6 (l.getD at_ 0)
   have hb2:=zm6 (l.getD (at_ + 1) 0)
   have e:nx l at_ n = (((l.getD at_ 0).toNat * 256 + (l.getD (at_ + 1) 0).toNat) % n,at_ + 2):=by
    unfold nx
    rw [if_neg (by omega),if_pos (by omega)]
   have hw3:IntKind.i64.wrap (((at_ + 1:Nat):Int) + 1) = ((at_ + 2:Nat):Int):=by rw [IntWalk.i64_in _ (by omega)];omega
   have hv1:IntKind.i64.wrap ((l.getD at_ 0).toNat:Int) = (l.getD at_ 0).toNat:=IntWalk.i64_in _ (by omega)
   have hv2:IntKind.i64.wrap ((l.getD (at_ + 1) 0).toNat:Int) = (l.getD (at_ + 1) 0).toNat:=IntWalk.i64_in _ (by omega)
   have hv3:IntKind.i64.wrap (((l.getD at_ 0).toNat:Int) * 256) = (l.getD at_ 0).toNat * 256:=IntWalk.i64_in _ (by omega)
   have hv4:IntKind.i64.wrap (((l.getD at_ 0).toNat:Int) * 256 + (l.getD (at_ + 1) 0).toNat) = (l.getD at_ 0).toNat * 256 + (l.getD (at_ + 1) 0).toNat:=IntWalk.i64_in _ (by omega)
   simp only [tZ,↓un_u,simprocAttr,hw3,Int.toNat_natCast,qP4 h4,hv1,hv2,hv3,hv4]
   rw [e,Int.tmod_eq_emod_of_nonneg (by omega)]
   refine ⟨by omega,by kernel_rfl,by omega,.of [(0,some 0)] [] rfl rfl ?_ ?_⟩
   ·simp only [tL,simprocAttr]
    exact qQ ⟨rfl,rfl,rfl,rfl,trivial⟩ zh
   ·simp only [tL,simprocAttr]
  ·have e:nx l at_ n = ((l.getD at_ 0).toNat % n,at_ + 1):=by
    unfold nx
    rw [if_neg (by omega),if_neg]
    simp only [Bool.and_eq_false_iff,decide_eq_false_iff_not] at h3
    omega
   have hb:=zm6 (l.getD at_ 0)
   rw [e,IntWalk.i64_in _ (by omega),Int.tmod_eq_emod_of_nonneg (by omega)]
   refine ⟨by omega,.of [(0,some 0)] [] rfl rfl ?_ ?_⟩
   ·simp only [tL,simprocAttr]
    exact qQ ⟨rfl,rfl,rfl,rfl,trivial⟩ zh
   ·simp only [tL,simprocAttr]
end Go.Proofs
namespace Go.Proofs
open Go Go.TL
theorem zE (l:List UInt8) (at_:Nat) (lo hi:Int) (hl:l.length≤400) (ha:at_≤l.length) (hlo : -1000000≤lo∧lo≤1000000) (hhi:lo≤hi∧hi≤lo + 100000) :
 Spc Tryz.prog qO [.ptr 0 1 0 0,vI lo,vI hi] [(0,oC l at_)] (vI (lo + (nx l at_ (hi - lo + 1)).1)) [(0,oC l (nx l at_ (hi - lo + 1)).2)]:=by
 refine qd qc1 mixm (by simp) fun e _ hst=>qj ?_
 unfold wy
 have hw1:IntKind.i64.wrap (hi - lo) = hi - lo:=IntWalk.i64_in _ (by omega)
 have hw2:IntKind.i64.wrap (hi - lo + 1) = hi - lo + 1:=IntWalk.i64_in _ (by omega)
 simp only [tZ,↓un_u,simprocAttr,hw1,hw2]
 refine C1.draw 0 l at_ _ (zN l at_ (hi - lo + 1) hl ha (by omega)) rfl rfl rfl ?_
 have hr:=wj l at_ (hi - lo + 1) (by omega)
 have hw3:IntKind.i64.wrap (lo + (nx l at_ (hi - lo + 1)).1) = lo + (nx l at_ (hi - lo + 1)).1:=IntWalk.i64_in _ (by omega)
 simp only [tZ,↓un_u,simprocAttr,hw3]
 refine .of [(0,some 0)] [] rfl rfl ?_ ?_
 ·simp only [tL,simprocAttr]
  exact qQ ⟨rfl,rfl,rfl,rfl,trivial⟩ zh
 ·simp only [tL,simprocAttr]
end Go.Proofs
namespace Go.Proofs
open Go Go.TL
structure Cod where
 name:ByteArray
 par:Int
structure CodL where
 name:ByteArray
 codes:List Cod
structure Col where
 name:ByteArray
 kind:Int
 list:Int
 low:Int
 high:Int
 widths:List Int
 opt:Bool
structure Sch where
 lists:List CodL
 cols:List Col
structure Pk where
 col:Int
 lev:Int
inductive Cnd where
 | mk (op col code lo hi:Int) (kids:List Cnd)
structure Qst where
 name:ByteArray
 kind:Int
 filt:Cnd
 dims:List Pk
 meas:Int
 terms:List Int
 event:Cnd
structure Smp where
 part:Int
 of:Int
 seed:Int
structure Dcl where
 proj:ByteArray
 src:ByteArray
 coh:Cnd
 smp:Smp
 qs:List Qst
structure Src where
 sch:Sch
 rows:List (List Int)
 gone:List Int
 ver:Int
structure Edt where
 kind:Int
 row:List Int
 id:Int
structure Ext where
 proj:ByteArray
 ver:Int
 picks:List Pk
 rows:List (List Int)
structure Chg where
 ver:Int
 gone:List Int
 rows:List (List Int)
namespace Cnd
def op:Cnd→Int | .mk a _ _ _ _ _=>a
def col:Cnd→Int | .mk _ a _ _ _ _=>a
def code:Cnd→Int | .mk _ _ a _ _ _=>a
def lo:Cnd→Int | .mk _ _ _ a _ _=>a
def hi:Cnd→Int | .mk _ _ _ _ a _=>a
def kids:Cnd→List Cnd | .mk _ _ _ _ _ a=>a
end Cnd
abbrev cnd0:Cnd:=.mk 0 0 0 0 0 []
instance:Inhabited Cod:=⟨⟨⟨#[]⟩,0⟩⟩
instance:Inhabited CodL:=⟨⟨⟨#[]⟩,[]⟩⟩
instance:Inhabited Col:=⟨⟨⟨#[]⟩,0,0,0,0,[],false⟩⟩
instance:Inhabited Sch:=⟨⟨[],[]⟩⟩
instance:Inhabited Pk:=⟨⟨0,0⟩⟩
instance:Inhabited Cnd:=⟨cnd0⟩
instance:Inhabited Qst:=⟨⟨⟨#[]⟩,0,cnd0,[],0,[],cnd0⟩⟩
instance:Inhabited Edt:=⟨⟨0,[],0⟩⟩
abbrev codT (c:Cod):T:=.agg [vS c.name,vI c.par]
abbrev cdlT (l:CodL):T:=.agg [vS l.name,.sl 2 (l.codes.map codT)]
abbrev colT (c:Col):T:=.agg [vS c.name,vI c.kind,vI c.list,vI c.low,vI c.high,vIs c.widths,vB c.opt]
abbrev schT (s:Sch):T:=.agg [.sl 2 (s.lists.map cdlT),.sl 7 (s.cols.map colT)]
abbrev pkT (p:Pk):T:=.agg [vI p.col,vI p.lev]
abbrev vPs (l:List Pk):T:=.sl 2 (l.map pkT)
mutual
def cndT:Cnd→T
 | .mk op col code lo hi kids=>.agg [vI op,vI col,vI code,vI lo,vI hi,.sl 6 (zU2 kids)]
def zU2:List Cnd→List T
 | []=>[]
 | c :: r=>cndT c :: zU2 r
end
theorem zh4:∀ l:List Cnd,zU2 l = l.map cndT
 | []=>by simp [zU2]
 | c :: r=>by simp [zU2,zh4 r]
theorem zx (c:Cnd):cndT c = .agg [vI c.op,vI c.col,vI c.code,vI c.lo,vI c.hi,.sl 6 (c.kids.map cndT)]:=by
 cases c
 simp only [cndT,zh4,Cnd.op,Cnd.col,Cnd.code,Cnd.lo,Cnd.hi,Cnd.kids]
abbrev vCs (l:List Cnd):T:=.sl 6 (l.map cndT)
abbrev qstT (q:Qst):T:=.agg [vS q.name,vI q.kind,vI q.filt.op,vI q.filt.col,vI q.filt.code,vI q.filt.lo,vI q.filt.hi,vCs q.filt.kids,vPs q.dims,vI q.meas,vIs q.terms,vI q.event.op,vI q.event.col,vI q.event.code,vI q.event.lo,vI q.event.hi,vCs q.event.kids]
end Go.Proofs
namespace Go.Proofs
open Go Go.TL
def qE2 (c:UInt8):Bool:=(decide ((c.toNat:Int) < 97) || decide ((c.toNat:Int) > 122)) && (decide ((c.toNat:Int) < 48) || decide ((c.toNat:Int) > 57)) && !((c.toNat:Int) == 95)
def zo5 (s:ByteArray):Bool:=decide ((s.size:Int) < 1) || decide ((s.size:Int) > 16) || decide (((s.data.toList.getD 0 0).toNat:Int) < 97) || decide (((s.data.toList.getD 0 0).toNat:Int) > 122)
def resW:List (List UInt8):=[[97,108,108],[97,110,100],[101,118,101,110,116],[102,114,111,109],[109,105,115,115,105,110,103],[110,111,116],[111,110],[111,114],[116,111],[117,110,100,101,114],[119,104,101,114,101]]
def ky (s:ByteArray):Bool:=!zo5 s && !(s.data.toList.any qE2) && !(resW.contains s.toList)
theorem Ym (s:ByteArray):Spc Tryz.prog Qo [vS s] [] (vB (ky s)) []:=by
 have hsl:s.size = s.data.toList.length:=by rw [Array.length_toList];rfl
 refine qd qU6 mixm (by simp) fun e _ hst=>qj ?_
 unfold KM
 refine sW ?_
 refine ⟨fun h=>?_,fun h=>?_,fun h=>?_,fun h=>?_⟩
 ·simp at h
  omega
 ·simp at h
  omega
 ·have:ky s = false:=by unfold ky zo5;rw [h];rfl
  rw [this]
  exact .oA [] []
 have hd:zo5 s = false:=h
 have hs16:s.data.toList.length≤16:=by
  unfold zo5 at hd
  simp only [Bool.or_eq_false_iff,decide_eq_false_iff_not] at hd
  omega
 refine qw mixm (α:=Nat) [3] (fun i=>i≤s.data.toList.length∧((s.data.toList.take i).any qE2 = false)) (fun i=>[(3,vI i)]) (fun i=>[]) (fun i=>s.data.toList.length - i) 0 ⟨by omega,?_⟩ ?_ fun i hi=>?_
 ·rfl
 ·exact .oA [] []
 refine sD ?_
 refine ⟨fun h5=>?_,fun h5=>?_⟩
 ·have hi2:i < s.data.toList.length:=by omega
  have hwi:=qk (i:=i) (by omega)
  simp only [tZ,↓un_u,simprocAttr,Int.toNat_natCast,hwi,yB]
  have hg:s.data.toList.getD i 0 = s.data.toList[i]:=qh hi2
  simp only [hg]
  refine ⟨by omega,?_⟩
  repeat (refine ⟨fun _=>by omega,?_⟩)
  refine ⟨fun h6=>?_,fun h6=>?_⟩
  ·have hb:qE2 s.data.toList[i] = true:=by
    simp only [beq_eq_false_iff_ne] at h6
    generalize s.data.toList[i] = c at h6 ⊢
    unfold qE2
    simp
    omega
   have:ky s = false:=by
    unfold ky
    rw [show s.data.toList.any qE2 = true from List.any_eq_true.2 ⟨_,List.getElem_mem hi2,hb⟩]
    simp
   rw [this]
   exact .oA [] []
  ·have hb:qE2 s.data.toList[i] = false:=by
    rw [← h6,Bool.eq_iff_iff]
    generalize s.data.toList[i] = c
    unfold qE2
    simp
    try omega
   refine ⟨i + 1,⟨by omega,jB hi2 hi.2 hb⟩,by omega,?_⟩
   exact .oA [] []
 ·have h3:=hi.2
  have:i = s.data.toList.length:=by omega
  rw [this,List.take_length] at h3
  have hn:ky s = !(resW.contains s.toList):=by unfold ky;rw [hd,h3];rfl
  rw [hn]
  simp only [resW,List.contains_cons,List.contains_nil]
  repeat' (first | with_reducible apply And.intro | with_reducible intro _)
  all_goals first
   | (exfalso;simp_all;done)
   | (simp only [*,Bool.true_or,Bool.or_true,Bool.false_or,Bool.or_false,Bool.not_true,Bool.not_false];exact .imR rfl rfl)
end Go.Proofs
namespace Go.Proofs
open Go Go.TL
abbrev cdAt (cs:List Cod) (i:Nat):Cod:=cs.getD i default
def parC (cs:List Cod) (i:Nat):Int:=(cdAt cs i).par
def depF (cs:List Cod):Nat→Nat→Nat
 | 0,_=>0
 | f + 1,c=>if parC cs c < 0 then 0 else depF cs f (parC cs c).toNat + 1
def dep (cs:List Cod) (c:Nat):Nat:=depF cs (c + 1) c
def qv8 (cs:List Cod):Prop:=∀ i,i < cs.length→-1≤parC cs i∧parC cs i < i
theorem zU3 {cs:List Cod} (h:qv8 cs):∀ (c f g:Nat),c < cs.length→c < f→c < g→depF cs f c = depF cs g c:=by
 intro c
 induction c using Nat.strongRecOn with
 | _ c ih=>
   intro f g hc hf hg
   obtain ⟨f,rfl⟩:∃ k,f = k + 1:=⟨f - 1,by omega⟩
   obtain ⟨g,rfl⟩:∃ k,g = k + 1:=⟨g - 1,by omega⟩
   simp only [depF]
   have hp:=h c hc
   split
   ·rfl
   ·rw [ih (parC cs c).toNat (by omega) f g (by omega) (by omega) (by omega)]
theorem qk0 {cs:List Cod} {c:Nat} (h:parC cs c < 0):dep cs c = 0:=by simp [dep,depF,h]
theorem qd8 {cs:List Cod} (h:qv8 cs) {c:Nat} (hc:c < cs.length) (h0:0≤parC cs c):dep cs c = dep cs (parC cs c).toNat + 1:=by
 have hp:=h c hc
 unfold dep
 rw [depF,if_neg (by omega),zU3 h _ c ((parC cs c).toNat + 1) (by omega) (by omega) (by omega)]
theorem qt2 {cs:List Cod} (h:qv8 cs):∀ c,c < cs.length→dep cs c≤c:=by
 intro c
 induction c using Nat.strongRecOn with
 | _ c ih=>
   intro hc
   by_cases h0:parC cs c < 0
   ·rw [qk0 h0];omega
   ·have hp:=h c hc
    have:=ih (parC cs c).toNat (by omega) (by omega)
    rw [qd8 h hc (by omega)]
    omega
def qd9 (cs:List Cod) (c:Nat):Bool:=!(cs.any fun x=>x.par == (c:Int))
def eqB (a b:ByteArray):Bool:=a.toList == b.toList
def cdE (cs:List Cod) (i:Nat):Int:=
 if ky (cdAt cs i).name = false then 3
 else if ((cs.take i).any fun x=>eqB x.name (cdAt cs i).name) = true then 10
 else if (i = 0∧parC cs i≠-1)∨(0 < i∧(parC cs i < 0∨parC cs i≥i)) then 6 else 0
def cdEs (cs:List Cod):Nat→Int
 | 0=>0
 | n + 1=>if cdEs cs n≠0 then cdEs cs n else cdE cs n
def lvS (cs:List Cod) (o:Option Int) (i:Nat):Option Int:=match o with
 | none=>none
 | some v=>if qd9 cs i = true then (if v≥0∧(dep cs i:Int)≠v then none else some (dep cs i)) else some v
def lvs (cs:List Cod) (n:Nat):Option Int:=(List.range n).foldl (lvS cs) (some (-1))
def lstE (l:CodL):Int:=
 if ky l.name = false then 3 else if l.codes.length = 0 then 5 else if l.codes.length > 60 then 1
 else if cdEs l.codes l.codes.length≠0 then cdEs l.codes l.codes.length else match lvs l.codes l.codes.length with | none=>5 | some _=>0
theorem qQ2 {cs:List Cod} {i:Nat} (h:cdEs cs i≠0):∀ n,i≤n→cdEs cs n = cdEs cs i:=by
 intro n hn
 induction n with
 | zero=>have:i = 0:=by omega
         rw [this]
 | succ n ih=>
   by_cases e:i = n + 1
   ·rw [e]
   ·have:=ih (by omega)
    rw [cdEs,this,if_pos h]
theorem qk1 {cs:List Cod}:∀ {n:Nat},cdEs cs n = 0→∀ i,i < n→cdE cs i = 0
 | 0,_,i,h=>by omega
 | n + 1,h,i,hi=>by
   rw [cdEs] at h
   split at h
   ·rename_i h2;exact absurd h h2
   ·rename_i h2
    by_cases e:i = n
    ·rw [e];exact h
    ·exact qk1 (Classical.byContradiction h2) i (by omega)
theorem qV6 {cs:List Cod} {i:Nat} (h:cdE cs i = 0) : -1≤parC cs i∧parC cs i < i∧(i = 0→parC cs i = -1)∧(0 < i→0≤parC cs i):=by
 unfold cdE at h
 split at h
 ·cases h
 ·split at h
  ·cases h
  ·split at h
   ·cases h
   ·rename_i h1
    omega
theorem zc {l:CodL} (h:lstE l = 0):qv8 l.codes∧0 < l.codes.length∧l.codes.length≤60:=by
 unfold lstE at h
 split at h
 ·cases h
 ·split at h
  ·cases h
  ·split at h
   ·cases h
   ·split at h
    ·rename_i h2;exact absurd h h2
    ·rename_i h1 h2 h3 h4
     refine ⟨fun i hi=>?_,by omega,by omega⟩
     have:=qV6 (qk1 (Classical.byContradiction h4) i hi)
     exact ⟨this.1,this.2.1⟩
def zk (l:CodL):Int:=if lstE l≠0 then -1 else (dep l.codes (l.codes.length - 1):Int) + 1
def lvlC (l:CodL) (c:Int):Int:=if lstE l≠0∨c < 0∨c≥l.codes.length then -1 else dep l.codes c.toNat
def upF (cs:List Cod) (lev:Nat):Nat→Nat→Nat
 | 0,c=>c
 | f + 1,c=>if lev < dep cs c then upF cs lev f (parC cs c).toNat else c
def upC (l:CodL) (c lev:Int):Int:=if lstE l≠0∨c < 0∨c≥l.codes.length∨lev < 0∨lev > dep l.codes c.toNat then -1 else upF l.codes lev.toNat (c.toNat + 1) c.toNat
def atL (l:CodL) (lev:Int):List Int:=if lstE l≠0 then [] else List.map (fun i:Nat=>(i:Int)) ((List.range l.codes.length).filter fun i=>(dep l.codes i:Int) == lev)
def Yn (l:CodL) (c above:Int):Bool:=decide (0≤lvlC l above) && decide (lvlC l above≤lvlC l c) && (upC l c (lvlC l above) == above)
end Go.Proofs
namespace Go.Proofs
open Go Go.TL
def inB (n lo hi:Int):Bool:=decide (lo≤n) && decide (n≤hi)
def wdOk (ws:List Int) (i:Nat):Bool:=if i = 0 then ws.getD 0 0 == 1 else decide (ws.getD (i - 1) 0 < ws.getD i 0) && decide (ws.getD i 0≤1000000) && ((ws.getD i 0).tmod (ws.getD (i - 1) 0) == 0)
def jd1 (ws:List Int):Bool:=(List.range ws.length).all (wdOk ws)
def measE (c:Col):Int:=
 if inB c.low (-1000000) 1000000 = false∨inB c.high (-1000000) 1000000 = false∨c.low > c.high then 2
 else if c.widths.length < 1∨c.widths.length > 4 then 1 else if jd1 c.widths = false then 2 else 0
abbrev qg (s:Sch) (i:Nat):Col:=s.cols.getD i default
def colE (s:Sch) (i:Nat):Int:=
 if ky (qg s i).name = false then 3
 else if ((s.cols.take i).any fun x=>eqB x.name (qg s i).name) = true then 10
 else if inB (qg s i).kind 1 3 = false∨(0 < i∧(qg s i).kind = 1) then 4
 else if (qg s i).kind = 2∧inB (qg s i).list 0 (s.lists.length - 1) = false then 5
 else if (qg s i).kind = 3∧measE (qg s i)≠0 then measE (qg s i)
 else if ((qg s i).kind≠2∧(qg s i).list≠0)∨((qg s i).kind≠3∧((qg s i).low≠0∨(qg s i).high≠0∨0 < (qg s i).widths.length∨(qg s i).opt = true)) then 11 else 0
def wI (s:Sch):Nat→Int
 | 0=>0
 | n + 1=>if wI s n≠0 then wI s n else if lstE (s.lists.getD n default)≠0 then lstE (s.lists.getD n default)
   else if ((s.lists.take n).any fun x=>eqB x.name (s.lists.getD n default).name) = true then 10 else 0
def Kg (s:Sch):Nat→Int
 | 0=>0
 | n + 1=>if Kg s n≠0 then Kg s n else colE s n
def schE (s:Sch):Int:=
 if s.lists.length > 6∨s.cols.length > 8 then 1 else if wI s s.lists.length≠0 then wI s s.lists.length
 else if s.cols.length = 0∨(qg s 0).kind≠1 then 7 else Kg s s.cols.length
abbrev qG (s:Sch) (i:Nat):CodL:=s.lists.getD (qg s i).list.toNat default
def qY:Int:=-1099511627776
def zd (s:Sch) (i:Nat) (v:Int):Bool:=
 if (qg s i).kind = 1 then inB v 1 1048575
 else if (qg s i).kind = 2 then inB v 0 ((qG s i).codes.length - 1) && (lvlC (qG s i) v == zk (qG s i) - 1)
 else ((qg s i).opt && (v == qY)) || inB v (qg s i).low (qg s i).high
def rowE (s:Sch) (row:List Int):Int:=
 if schE s≠0 then schE s else if row.length≠s.cols.length then 9
 else if ((List.range row.length).all fun i=>zd s i (row.getD i 0)) = false then 9 else 0
def finI (s:Sch) (c:Int):Int:=
 if schE s≠0∨c < 1∨c≥s.cols.length then -1
 else if (qg s c.toNat).kind = 2 then zk (qG s c.toNat) - 1 else (qg s c.toNat).widths.length
def qA (a b:Int):Int:=a.fdiv b
def qD (s:Sch) (c:Nat):List Int:=atL (qG s c) (zk (qG s c) - 1)
def qE (c:Col) (lev:Int):Int:=c.widths.getD (c.widths.length - lev).toNat 0
def qr (s:Sch) (c lev v:Int):Int:=
 if inB lev 0 (finI s c) = false then -1
 else if (qg s c.toNat).kind = 2 then (if zd s c.toNat v = false then -1 else upC (qG s c.toNat) v lev)
 else if v≠qY∧inB v (-1000000) 1000000 = false then -1
 else if lev = 0 then 0 else if v = qY then v else qA v (qE (qg s c.toNat) lev) * qE (qg s c.toNat) lev
def eqPk (x y:Pk):Bool:=(x.col == y.col) && (x.lev == y.lev)
def qE3 (a b:List Pk):Bool:=qb4 eqPk a b
end Go.Proofs
namespace Go.Proofs
open Go Go.TL
def dgt (n:Nat):UInt8:=UInt8.ofNat (48 + n)
def topC:Cod:=⟨⟨#[116,111,112]⟩,-1⟩
def kidC (i:Nat):Cod:=⟨⟨#[107,dgt i]⟩,0⟩
def lefC (n i:Nat):Cod:=⟨⟨#[108,dgt n]⟩,1 + i⟩
def Wz (k:Nat):List Cod:=topC :: (List.range k).map kidC
def addL (cs:List Cod) (i:Nat):List Cod:=cs ++ [lefC cs.length i]
def lefL:List Cod→Nat→List Nat→List Cod
 | cs,_,[]=>cs
 | cs,i,n :: r=>lefL ((List.range n).foldl (fun cs _=>addL cs i) cs) (i + 1) r
def allN:Nat→List (List Nat)
 | 0=>[[]]
 | n + 1=>(allN n).flatMap fun l=>[1 :: l,2 :: l]
theorem zy7:∀ {n:Nat} {l:List Nat},l.length = n→(∀ x∈l,x = 1∨x = 2)→l∈allN n
 | 0,[],_,_=>by simp [allN]
 | n + 1,x :: l,h,hx=>by
   have h1:=zy7 (n:=n) (l:=l) (by simpa using h) fun y hy=>hx y (List.mem_cons_of_mem _ hy)
   rw [allN,List.mem_flatMap]
   refine ⟨l,h1,?_⟩
   rcases hx x (by simp) with h | h <;> subst h <;> simp
 | 0,_ :: _,h,_=>by simp at h
 | n + 1,[],h,_=>by simp at h
def zh5:ByteArray:=⟨#[111,110,101]⟩
def zh6:ByteArray:=⟨#[116,119,111]⟩
theorem jd2:([zh5,zh6].all fun nm=>[1,2,3].all fun k=>lstE ⟨nm,Wz k⟩ == 0 && (allN k).all fun l=>lstE ⟨nm,lefL (Wz k) 0 l⟩ == 0) = true:=by decide +kernel
structure DrL (nm:ByteArray) (l:CodL):Prop where
 nm:l.name = nm
 ok:lstE l = 0
 len:2≤l.codes.length∧l.codes.length≤10
theorem zU4 {nm:ByteArray} (hn:nm = zh5∨nm = zh6) {k:Nat} (hk:1≤k∧k≤3):lstE ⟨nm,Wz k⟩ = 0∧∀ l,l.length = k→(∀ x∈l,x = 1∨x = 2)→lstE ⟨nm,lefL (Wz k) 0 l⟩ = 0:=by
 have h1:=List.all_eq_true.1 jd2 nm (by rcases hn with h | h <;> subst h <;> simp)
 have hk3:k∈[1,2,3]:=by
  have:k = 1∨k = 2∨k = 3:=by omega
  rcases this with h | h | h <;> subst h <;> simp
 have h2:=List.all_eq_true.1 h1 k hk3
 rw [Bool.and_eq_true,List.all_eq_true] at h2
 exact ⟨by simpa using h2.1,fun l hl hx=>by simpa using h2.2 l (zy7 hl hx)⟩
end Go.Proofs
namespace Go.Proofs
open Go Go.TL
theorem zy8 {s:Sch}:∀ {n:Nat},(∀ i,i < n→colE s i = 0)→Kg s n = 0
 | 0,_=>rfl
 | n + 1,h=>by
   rw [Kg,zy8 fun i hi=>h i (by omega),if_neg (by simp)]
   exact h n (by omega)
theorem zU5 {s:Sch} {i:Nat} (h1:ky (qg s i).name = true) (h2:((s.cols.take i).any fun x=>eqB x.name (qg s i).name) = false) (h3:(qg s i).kind = 3) (h4:(qg s i).list = 0) (h5:measE (qg s i) = 0):colE s i = 0:=by
 rw [colE,if_neg (by rw [h1];simp),if_neg (by rw [h2];simp),if_neg (by rw [h3];simp [inB]),if_neg (by rw [h3];simp),if_neg (by rw [h5];simp),if_neg (by rw [h3,h4];simp)]
theorem qE4 {s:Sch} {i:Nat} (h1:ky (qg s i).name = true) (h2:((s.cols.take i).any fun x=>eqB x.name (qg s i).name) = false) (h3:(qg s i).kind = 2) (h4:inB (qg s i).list 0 (s.lists.length - 1) = true)
 (h5:(qg s i).low = 0∧(qg s i).high = 0∧(qg s i).widths = []∧(qg s i).opt = false):colE s i = 0:=by
 rw [colE,if_neg (by rw [h1];simp),if_neg (by rw [h2];simp),if_neg (by rw [h3];simp [inB]),if_neg (by rw [h4];simp),if_neg (by rw [h3];simp),if_neg (by rw [h3,h5.1,h5.2.1,h5.2.2.1,h5.2.2.2];simp)]
theorem zU6 {s:Sch} (h1:ky (qg s 0).name = true) (h3:(qg s 0).kind = 1) (h5:(qg s 0).list = 0∧(qg s 0).low = 0∧(qg s 0).high = 0∧(qg s 0).widths = []∧(qg s 0).opt = false):colE s 0 = 0:=by
 rw [colE,if_neg (by rw [h1];simp),if_neg (by simp),if_neg (by rw [h3];simp [inB]),if_neg (by rw [h3];simp),if_neg (by rw [h3];simp),if_neg (by rw [h3,h5.1,h5.2.1,h5.2.2.1,h5.2.2.2.1,h5.2.2.2.2];simp)]
def whoC:Col:=⟨⟨#[119,104,111]⟩,1,0,0,0,[],false⟩
def sexC:Col:=⟨⟨#[115,101,120]⟩,2,0,0,0,[],false⟩
def jobC:Col:=⟨⟨#[106,111,98]⟩,2,1,0,0,[],false⟩
def wTab:List (List Int):=[[1],[1,5],[1,5,20],[1,2,4,12]]
structure DrM (n:Nat) (c:Col):Prop where
 nm:c.name = ⟨#[109,dgt n]⟩
 kind:c.kind = 3
 list:c.list = 0
 low : -4≤c.low∧c.low≤2
 high:c.low≤c.high∧c.high≤c.low + 44
 wid:c.widths∈wTab
theorem DrM.measE {n:Nat} {c:Col} (h:DrM n c):measE c = 0:=by
 have hl:=h.low
 have hh:=h.high
 have hw:=h.wid
 have h1:inB c.low (-1000000) 1000000 = true:=by simp only [inB,Bool.and_eq_true,decide_eq_true_eq];omega
 have h2:inB c.high (-1000000) 1000000 = true:=by simp only [inB,Bool.and_eq_true,decide_eq_true_eq];omega
 have h3:1≤c.widths.length∧c.widths.length≤4∧jd1 c.widths = true:=by
  simp only [wTab,List.mem_cons,List.not_mem_nil,or_false] at hw
  rcases hw with hw | hw | hw | hw <;> rw [hw] <;> decide
 rw [_root_.Go.Proofs.measE,if_neg (by rw [h1,h2];simp;omega),if_neg (by omega),if_neg (by rw [h3.2.2];simp)]
structure DrS (s:Sch):Prop where
 ls:∃ a b,s.lists = [a,b]∧DrL zh5 a∧DrL zh6 b
 cs:∃ ms,(s.cols = whoC :: sexC :: ms∧(∀ i (h:i < ms.length),DrM (2 + i) ms[i])∨s.cols = whoC :: sexC :: jobC :: ms∧∀ i (h:i < ms.length),DrM (3 + i) ms[i])∧1≤ms.length∧ms.length≤3
theorem jy4:∀ n:Nat,n < 10→ky ⟨#[109,dgt n]⟩ = true:=by
 have:∀ n:Fin 10,ky ⟨#[109,dgt n.1]⟩ = true:=by decide +kernel
 exact fun n h=>this ⟨n,h⟩
theorem jy5:∀ i j:Nat,i < 10→j < 10→i≠j→eqB ⟨#[109,dgt i]⟩ ⟨#[109,dgt j]⟩ = false:=by
 have:∀ i j:Fin 10,i.1≠j.1→eqB ⟨#[109,dgt i.1]⟩ ⟨#[109,dgt j.1]⟩ = false:=by decide +kernel
 exact fun i j hi hj h=>this ⟨i,hi⟩ ⟨j,hj⟩ h
theorem jw3:∀ j:Nat,j < 10→eqB whoC.name ⟨#[109,dgt j]⟩ = false∧eqB sexC.name ⟨#[109,dgt j]⟩ = false∧eqB jobC.name ⟨#[109,dgt j]⟩ = false:=by
 have:∀ j:Fin 10,eqB whoC.name ⟨#[109,dgt j.1]⟩ = false∧eqB sexC.name ⟨#[109,dgt j.1]⟩ = false∧eqB jobC.name ⟨#[109,dgt j.1]⟩ = false:=by decide +kernel
 exact fun j hj=>this ⟨j,hj⟩
theorem jp7 {s:Sch} {a b:CodL} (h:s.lists = [a,b]) (ha:DrL zh5 a) (hb:DrL zh6 b):wI s s.lists.length = 0:=by
 have e1:wI s 1 = 0:=by
  rw [wI,wI,if_neg (by simp),h]
  show (if lstE a≠0 then lstE a else _) = 0
  rw [if_neg (by rw [ha.ok];simp)]
  rfl
 rw [h]
 show wI s 2 = 0
 rw [wI,e1,if_neg (by simp),h]
 show (if lstE b≠0 then lstE b else if ([a].any fun x=>eqB x.name b.name) = true then (10:Int) else 0) = 0
 rw [if_neg (by rw [hb.ok];simp),if_neg]
 simp only [List.any_cons,List.any_nil,Bool.or_false,ha.nm,hb.nm]
 rw [show eqB zh5 zh6 = false by decide +kernel]
 simp
theorem qk2:ky whoC.name = true∧ky sexC.name = true∧ky jobC.name = true∧eqB whoC.name sexC.name = false∧eqB whoC.name jobC.name = false∧eqB sexC.name jobC.name = false∧eqB zh5 zh6 = false:=by decide +kernel
theorem jp8 {s:Sch} {pre ms:List Col} (hl:s.lists.length = 2) (hc:s.cols = pre ++ ms) (hp:pre = [whoC,sexC]∨pre = [whoC,sexC,jobC]) (hm:∀ i (h:i < ms.length),DrM (pre.length + i) ms[i]) (hn:ms.length≤3):Kg s s.cols.length = 0:=by
 refine zy8 fun i hi=>?_
 by_cases h:i < pre.length
 ·have ha:qg s i = pre[i]:=by
   rw [qg,hc,List.getD_eq_getElem?_getD,List.getElem?_append_left h,List.getElem?_eq_getElem h];rfl
  have ht:s.cols.take i = pre.take i:=by rw [hc,List.take_append_of_le_length (by omega)]
  rcases hp with hp | hp
  ·subst hp
   have h2:i = 0∨i = 1:=by simp at h;omega
   rcases h2 with h2 | h2 <;> subst h2
   ·exact zU6 (by rw [ha];exact qk2.1) (by rw [ha];rfl) (by rw [ha];exact ⟨rfl,rfl,rfl,rfl,rfl⟩)
   ·exact qE4 (by rw [ha];exact qk2.2.1) (by rw [ha,ht];show (eqB whoC.name sexC.name || false) = false;rw [qk2.2.2.2.1];rfl) (by rw [ha];rfl) (by rw [ha,hl];rfl) (by rw [ha];exact ⟨rfl,rfl,rfl,rfl⟩)
  ·subst hp
   have h2:i = 0∨i = 1∨i = 2:=by simp at h;omega
   rcases h2 with h2 | h2 | h2 <;> subst h2
   ·exact zU6 (by rw [ha];exact qk2.1) (by rw [ha];rfl) (by rw [ha];exact ⟨rfl,rfl,rfl,rfl,rfl⟩)
   ·exact qE4 (by rw [ha];exact qk2.2.1) (by rw [ha,ht];show (eqB whoC.name sexC.name || false) = false;rw [qk2.2.2.2.1];rfl) (by rw [ha];rfl) (by rw [ha,hl];rfl) (by rw [ha];exact ⟨rfl,rfl,rfl,rfl⟩)
   ·exact qE4 (by rw [ha];exact qk2.2.2.1) (by rw [ha,ht];show (eqB whoC.name jobC.name || (eqB sexC.name jobC.name || false)) = false;rw [qk2.2.2.2.2.1,qk2.2.2.2.2.2.1];rfl) (by rw [ha];rfl) (by rw [ha,hl];rfl) (by rw [ha];exact ⟨rfl,rfl,rfl,rfl⟩)
 ·have hi2:i - pre.length < ms.length:=by rw [hc,List.length_append] at hi;omega
  have hpl:pre.length≤3:=by rcases hp with hp | hp <;> subst hp <;> simp
  have ha:qg s i = ms[i - pre.length]:=by
   rw [qg,hc,List.getD_eq_getElem?_getD,List.getElem?_append_right (by omega),List.getElem?_eq_getElem hi2];rfl
  have d:=hm _ hi2
  rw [show pre.length + (i - pre.length) = i by omega] at d
  refine zU5 (by rw [ha,d.nm];exact jy4 i (by omega)) ?_ (by rw [ha];exact d.kind) (by rw [ha];exact d.list) (by rw [ha];exact d.measE)
  rw [ha,d.nm,hc,List.any_eq_false]
  intro x hx
  rw [List.take_append] at hx
  rcases List.mem_append.1 hx with hx | hx
  ·have hx:=List.mem_of_mem_take hx
   have hf:=jw3 i (by omega)
   have:x = whoC∨x = sexC∨x = jobC:=by
    rcases hp with hp | hp <;> subst hp <;> simp at hx <;> rcases hx with h | h | h <;> simp [h]
   rcases this with h | h | h <;> subst h <;> simp [hf.1,hf.2.1,hf.2.2]
  ·obtain ⟨j,hj,rfl⟩:=List.mem_take_iff_getElem.1 hx
   have dj:=hm j (by omega)
   rw [dj.nm,jy5 (pre.length + j) i (by omega) (by omega) (by omega)]
   simp
theorem DrS.ok {s:Sch} (h:DrS s):schE s = 0:=by
 obtain ⟨a,b,hl,ha,hb⟩:=h.ls
 obtain ⟨ms,hc,hm1,hm3⟩:=h.cs
 have h2:s.lists.length = 2:=by rw [hl];rfl
 have key:∀ pre:List Col,(pre = [whoC,sexC]∨pre = [whoC,sexC,jobC])→s.cols = pre ++ ms→(∀ i (h:i < ms.length),DrM (pre.length + i) ms[i])→schE s = 0:=by
  intro pre hp hc hd
  have hpl:2≤pre.length∧pre.length≤3:=by rcases hp with hp | hp <;> subst hp <;> simp
  have h0:(qg s 0).kind = 1:=by
   rw [qg,hc]
   rcases hp with hp | hp <;> subst hp <;> rfl
  rw [schE,if_neg (by rw [h2,hc,List.length_append];omega),if_neg (by rw [jp7 hl ha hb];simp),if_neg (by rw [hc,List.length_append];omega)]
  exact jp8 h2 hc hp hd hm3
 rcases hc with ⟨hc,hd⟩ | ⟨hc,hd⟩
 ·exact key [whoC,sexC] (.inl rfl) hc hd
 ·exact key [whoC,sexC,jobC] (.inr rfl) hc hd
end Go.Proofs
namespace Go.Proofs
open Go Go.TL
theorem zo6 {l:CodL} (h:lstE l = 0) {lev v:Int}:v∈atL l lev↔∃ i:Nat,i < l.codes.length∧(dep l.codes i:Int) = lev∧v = (i:Int):=by
 rw [atL,if_neg (by rw [h];simp)]
 simp only [List.mem_map,List.mem_filter,List.mem_range,beq_iff_eq]
 constructor
 ·rintro ⟨i,⟨h1,h2⟩,rfl⟩;exact ⟨i,h1,h2,rfl⟩
 ·rintro ⟨i,h1,h2,rfl⟩;exact ⟨i,⟨h1,h2⟩,rfl⟩
theorem qk3 {l:CodL} (h:lstE l = 0):zk l - 1 = (dep l.codes (l.codes.length - 1):Int):=by
 rw [zk,if_neg (by rw [h];simp)]
 omega
theorem zU7 {l:CodL} (h:lstE l = 0):0 < (atL l (zk l - 1)).length:=by
 obtain ⟨_,h1,_⟩:=zc h
 have:((l.codes.length - 1:Nat):Int)∈atL l (zk l - 1):=(zo6 h).2 ⟨l.codes.length - 1,by omega,(qk3 h).symm,rfl⟩
 exact List.length_pos_of_mem this
theorem yV {s:Sch} {i:Nat} (hk:(qg s i).kind = 2) (hl:lstE (qG s i) = 0) {v:Int} (hv:v∈qD s i):zd s i v = true:=by
 obtain ⟨j,h1,h2,rfl⟩:=(zo6 hl).1 hv
 rw [zd,if_neg (by rw [hk];decide),if_pos hk,Bool.and_eq_true]
 refine ⟨by simp only [inB,Bool.and_eq_true,decide_eq_true_eq];omega,?_⟩
 rw [beq_iff_eq,lvlC,if_neg (by rw [hl];omega),Int.toNat_natCast,h2]
theorem zU8 {s:Sch} {row:List Int} (hs:schE s = 0) (hl:row.length = s.cols.length) (h:∀ i,i < row.length→zd s i (row.getD i 0) = true):rowE s row = 0:=by
 rw [rowE,if_neg (by rw [hs];simp),if_neg (by rw [hl];simp),if_neg]
 rw [Bool.not_eq_false,List.all_eq_true]
 intro i hi
 exact h i (List.mem_range.1 hi)
theorem qV7 {s:Sch} {row:List Int} (h:rowE s row = 0):schE s = 0∧row.length = s.cols.length∧∀ i,i < row.length→zd s i (row.getD i 0) = true:=by
 unfold rowE at h
 split at h
 ·rename_i h1;exact absurd h h1
 ·split at h
  ·cases h
  ·split at h
   ·cases h
   ·rename_i h1 h2 h3
    rw [Bool.not_eq_false,List.all_eq_true] at h3
    exact ⟨Classical.byContradiction h1,by omega,fun i hi=>h3 i (List.mem_range.2 hi)⟩
theorem zh7 {s:Sch}:∀ {n:Nat},Kg s n = 0→∀ i,i < n→colE s i = 0
 | 0,_,i,h=>by omega
 | n + 1,h,i,hi=>by
   rw [Kg] at h
   split at h
   ·rename_i h2;exact absurd h h2
   ·rename_i h2
    by_cases e:i = n
    ·rw [e];exact h
    ·exact zh7 (Classical.byContradiction h2) i (by omega)
theorem zh8 {s:Sch}:∀ {n:Nat},wI s n = 0→∀ i,i < n→lstE (s.lists.getD i default) = 0
 | 0,_,i,h=>by omega
 | n + 1,h,i,hi=>by
   rw [wI] at h
   split at h
   ·rename_i h2;exact absurd h h2
   ·rename_i h2
    split at h
    ·rename_i h3;exact absurd h h3
    ·rename_i h3
     by_cases e:i = n
     ·rw [e];exact Classical.byContradiction h3
     ·exact zh8 (Classical.byContradiction h2) i (by omega)
structure SchOk (s:Sch):Prop where
 nl:s.lists.length≤6
 nc:1≤s.cols.length∧s.cols.length≤8
 ls:∀ i,i < s.lists.length→lstE (s.lists.getD i default) = 0
 c0:(qg s 0).kind = 1
 cs:∀ i,i < s.cols.length→colE s i = 0
theorem qJ {s:Sch} (h:schE s = 0):SchOk s:=by
 unfold schE at h
 split at h
 ·cases h
 ·split at h
  ·rename_i h2;exact absurd h h2
  ·split at h
   ·cases h
   ·rename_i h1 h2 h3
    refine ⟨by omega,by omega,zh8 (Classical.byContradiction h2),?_,zh7 h⟩
    exact Classical.byContradiction fun e=>h3 (.inr e)
theorem qU {s:Sch} {i:Nat} (h:colE s i = 0):1≤(qg s i).kind∧(qg s i).kind≤3∧(0 < i→(qg s i).kind≠1)∧((qg s i).kind = 2→0≤(qg s i).list∧(qg s i).list < s.lists.length)∧((qg s i).kind = 3→measE (qg s i) = 0):=by
 unfold colE at h
 split at h
 ·cases h
 ·split at h
  ·cases h
  ·split at h
   ·cases h
   ·split at h
    ·cases h
    ·rename_i h1 h2 h3 h4
     have hk:inB (qg s i).kind 1 3 = true:=by
      cases e:inB (qg s i).kind 1 3 with
      | true=>rfl
      | false=>exact absurd (.inl e) h3
     simp only [inB,Bool.and_eq_true,decide_eq_true_eq] at hk
     refine ⟨hk.1,hk.2,fun h0 e=>h3 (.inr ⟨h0,e⟩),fun e=>?_,fun e=>?_⟩
     ·have:inB (qg s i).list 0 (s.lists.length - 1) = true:=by
       cases e2:inB (qg s i).list 0 (s.lists.length - 1) with
       | true=>rfl
       | false=>exact absurd ⟨e,e2⟩ h4
      simp only [inB,Bool.and_eq_true,decide_eq_true_eq] at this
      omega
     ·split at h
      ·rename_i h5;exact absurd h h5.2
      ·rename_i h5
       exact Classical.byContradiction fun e2=>h5 ⟨e,e2⟩
theorem SchOk.cdl {s:Sch} (h:SchOk s) {i:Nat} (hi:i < s.cols.length) (hk:(qg s i).kind = 2):(qg s i).list.toNat < s.lists.length∧lstE (qG s i) = 0:=by
 have h1:=(qU (h.cs i hi)).2.2.2.1 hk
 exact ⟨by omega,h.ls _ (by omega)⟩
end Go.Proofs
namespace Go.Proofs
open Go Go.TL
theorem kH (l:CodL) (c:Nat) (hp:qv8 l.codes) (hc:c < l.codes.length) (hl:l.codes.length≤1000):Spc Tryz.prog zo [cdlT l,vI c] [] (vI (dep l.codes c)) []:=by
 refine qd qK2 mixm (by simp) fun e _ hst=>qj ?_
 unfold JA
 refine sW ?_
 refine qw mixm (α:=Nat×Nat) [1,5] (fun x=>x.1 < l.codes.length∧dep l.codes c = x.2 + dep l.codes x.1∧x.2 + x.1≤1000) (fun x=>[(1,vI x.1),(5,vI x.2)]) (fun x=>[(4096,.arr 2 [cdlT l] false)]) (fun x=>x.1) (c,0) ⟨hc,by simp,by simp;omega⟩ ?_ fun x hx=>?_
 ·exact .oA [(4096,some 4096)] []
 obtain ⟨k,n⟩:=x
 obtain ⟨h1,h2,h3⟩:=hx
 dsimp only at h1 h2 h3
 have hpk:=hp k h1
 have hcd:l.codes[k].par = parC l.codes k:=by rw [parC,cdAt,qh h1]
 have hwn:=qk (i:=n) (by omega)
 simp only [tZ,↓un_u,simprocAttr,Int.toNat_natCast,qe h1,hcd,tD,hwn]
 refine ⟨by omega,fun h4=>?_,fun h4=>?_⟩
 ·obtain ⟨p,hpe⟩:=Int.eq_ofNat_of_zero_le h4
  rw [qd8 hp h1 (by omega),hpe,Int.toNat_natCast] at h2
  rw [hpe] at hpk ⊢
  refine ⟨by omega,(p,n + 1),⟨by dsimp only;omega,by dsimp only;omega,by dsimp only;omega⟩,by dsimp only;omega,?_⟩
  exact .oA [(4096,some 4096)] []
 ·rw [qk0 (c:=k) (by omega),Nat.add_zero] at h2
  rw [h2]
  exact .oA [] []
def zE9 (l:CodL) (c:Int):Bool:=!(l.codes.any fun x=>x.par == c)
theorem zh9 (l:CodL) (c:Int) (hl:l.codes.length≤1000):Spc Tryz.prog WU [cdlT l,vI c] [] (vB (zE9 l c)) []:=by
 refine qd qV5 mixm (by simp) fun e _ hst=>qj ?_
 unfold KS
 refine sW ?_
 refine qw mixm (α:=Nat) [5] (fun i=>i≤l.codes.length∧(l.codes.take i).any (fun x=>x.par == c) = false) (fun i=>[(5,vI i)]) (fun i=>[(4096,.arr 2 [cdlT l] false)]) (fun i=>l.codes.length - i) 0 ⟨by omega,rfl⟩ ?_ fun i hi=>?_
 ·exact .oA [(4096,some 4096)] []
 obtain ⟨h1,h2⟩:=hi
 refine sD ?_
 refine ⟨fun h3=>?_,fun h3=>?_⟩
 ·have hi2:i < l.codes.length:=by omega
  have hwi:=qk (i:=i) (by omega)
  simp only [tZ,↓un_u,simprocAttr,Int.toNat_natCast,qe hi2,hwi]
  refine ⟨by omega,fun h4=>?_,fun h4=>?_⟩
  ·have:zE9 l c = false:=by
    unfold zE9
    rw [List.any_eq_true.2 ⟨_,List.getElem_mem hi2,h4⟩];rfl
   rw [this]
   exact .oA [] []
  ·refine ⟨i + 1,⟨by omega,jB hi2 h2 h4⟩,by omega,?_⟩
   exact .oA [(4096,some 4096)] []
 ·have hil:i = l.codes.length:=by omega
  subst hil
  rw [List.take_length] at h2
  have:zE9 l c = true:=by unfold zE9;rw [h2];rfl
  rw [this]
  exact .oA [] []
end Go.Proofs
namespace Go.Proofs
open Go Go.TL
theorem qx1 (cs:List Cod) (n:Nat):lvs cs (n + 1) = lvS cs (lvs cs n) n:=by
 unfold lvs
 rw [List.range_succ,List.foldl_append]
 rfl
theorem zy9 {cs:List Cod} {n:Nat} (h:lvs cs n = none):∀ m,n≤m→lvs cs m = none:=by
 intro m hm
 induction m with
 | zero=>have:n = 0:=by omega
         rw [← this];exact h
 | succ m ih=>
   by_cases e:n = m + 1
   ·rw [← e];exact h
   ·rw [qx1,ih (by omega)];rfl
theorem jl3 {cs:List Cod} (h:cdEs cs cs.length = 0):qv8 cs:=fun i hi=>by
 have:=qV6 (qk1 h i hi)
 exact ⟨this.1,this.2.1⟩
theorem yq (l:CodL) (hl:l.codes.length < 4611686018427387904):Spc Tryz.prog jG [cdlT l] [] (vI (lstE l)) []:=by
 refine qd qK0 mixm (by simp) fun e _ hst=>qj ?_
 unfold Jz
 refine sW ?_
 refine C1.im (Ym l.name) (by rfl) (by rfl) ?_
 simp only [tZ,↓un_u,simprocAttr,Bool.not_eq_true',Bool.not_eq_false']
 refine ⟨fun h=>?_,fun h1=>?_⟩
 ·rw [lstE,if_pos h]
  exact .oA [] []
 simp only [tZ,↓un_u,simprocAttr,beq_iff_eq,beq_eq_false_iff_ne]
 refine ⟨fun h=>?_,fun h2=>?_⟩
 ·rw [lstE,if_neg (by rw [h1];simp),if_pos (by omega)]
  exact .oA [] []
 refine sD ?_
 refine ⟨fun h=>?_,fun h3=>?_⟩
 ·rw [lstE,if_neg (by rw [h1];simp),if_neg (by omega),if_pos (by omega)]
  exact .oA [] []
 have hE1:cdEs l.codes l.codes.length≠0→lstE l = cdEs l.codes l.codes.length:=fun h=>by
  rw [lstE,if_neg (by rw [h1];simp),if_neg (by omega),if_neg (by omega),if_pos h]
 have hE2:cdEs l.codes l.codes.length = 0→lvs l.codes l.codes.length = none→lstE l = 5:=fun h k=>by
  rw [lstE,if_neg (by rw [h1];simp),if_neg (by omega),if_neg (by omega),if_neg (by rw [h];simp),k]
 have hE3:∀ v,cdEs l.codes l.codes.length = 0→lvs l.codes l.codes.length = some v→lstE l = 0:=fun v h k=>by
  rw [lstE,if_neg (by rw [h1];simp),if_neg (by omega),if_neg (by omega),if_neg (by rw [h];simp),k]
 refine qw mixm (α:=Nat) [3] (fun i=>i≤l.codes.length∧cdEs l.codes i = 0) (fun i=>[(3,vI i)]) (fun i=>[(4096,.arr 2 [cdlT l] false)]) (fun i=>l.codes.length - i) 0 ⟨by omega,rfl⟩ ?_ fun i hi=>?_
 ·exact .oA [(4096,some 4096)] []
 obtain ⟨i1,i2⟩:=hi
 refine sD ?_
 refine ⟨fun h4=>?_,fun h4=>?_⟩
 ·have hi2:i < l.codes.length:=by omega
  have hwi:=qk (i:=i) (by omega)
  have hat:cdAt l.codes i = l.codes[i]:=by rw [cdAt,qh hi2]
  have hs:cdEs l.codes (i + 1) = cdE l.codes i:=by rw [cdEs,if_neg (by rw [i2];simp)]
  have hbad:cdE l.codes i≠0→lstE l = cdE l.codes i:=fun hb=>by
   have:=qQ2 (by rw [hs];exact hb) l.codes.length (show i + 1≤l.codes.length by omega)
   rw [hE1 (by rw [this,hs];exact hb),this,hs]
  simp only [tZ,↓un_u,simprocAttr,Int.toNat_natCast,qe hi2]
  refine ⟨by omega,?_⟩
  refine C1.im (Ym l.codes[i].name) (by rfl) (by rfl) ?_
  simp only [tZ,↓un_u,simprocAttr,Bool.not_eq_true',Bool.not_eq_false']
  refine ⟨fun h5=>?_,fun h5=>?_⟩
  ·have hc:cdE l.codes i = 3:=by rw [cdE,hat,if_pos h5]
   rw [hbad (by rw [hc];decide),hc]
   exact .oA [] []
  refine qw mixm (α:=Nat) [4] (fun k=>k≤i∧(l.codes.take k).any (fun x=>eqB x.name l.codes[i].name) = false) (fun k=>[(4,vI k)]) (fun k=>[(4096,.arr 2 [cdlT l] false)]) (fun k=>i - k) 0 ⟨by omega,rfl⟩ ?_ fun k hk=>?_
  ·exact .oA [(4096,some 4096)] []
  obtain ⟨k1,k2⟩:=hk
  refine sD ?_
  refine ⟨fun h6=>?_,fun h6=>?_⟩
  ·have hk2:k < l.codes.length:=by omega
   have hwk:=qk (i:=k) (by omega)
   simp only [tZ,↓un_u,simprocAttr,Int.toNat_natCast,qe hi2,qe hk2,hwk]
   refine ⟨by omega,by omega,by kernel_rfl,fun h7=>?_,fun h7=>?_⟩
   ·have hc:cdE l.codes i = 10:=by
     rw [cdE,hat,if_neg (by rw [h5];simp),if_pos (List.any_eq_true.2 ⟨l.codes[k],List.mem_take_iff_getElem.2 ⟨k,by omega,rfl⟩,h7⟩)]
    rw [hbad (by rw [hc];decide),hc]
    exact .oA [] []
   ·refine ⟨k + 1,⟨by omega,jB hk2 k2 h7⟩,by omega,?_⟩
    exact .oA [(4096,some 4096)] []
  ·have hki:k = i:=by omega
   subst hki
   have hpar:l.codes[k].par = parC l.codes k:=by rw [parC,hat]
   have hcE:cdE l.codes k = if (k = 0∧parC l.codes k≠-1)∨(0 < k∧(parC l.codes k < 0∨parC l.codes k≥k)) then 6 else 0:=by
    rw [cdE,hat,if_neg (by rw [h5];simp),if_neg (by rw [k2];simp)]
   simp only [tZ,↓un_u,simprocAttr,Int.toNat_natCast,qe hi2,hpar,hwi,tD,beq_iff_eq,beq_eq_false_iff_ne,bne_iff_ne,bne_eq_false_iff_eq]
   refine ⟨by omega,fun h7=>?_,fun h7=>?_⟩
   ·have hc:cdE l.codes k = 6:=by rw [hcE,if_pos (by omega)]
    rw [hbad (by rw [hc];decide),hc]
    exact .oA [] []
   ·refine ⟨k + 1,⟨by omega,by rw [hs,hcE,if_neg (by omega)]⟩,by omega,?_⟩
    exact .oA [(4096,some 4096)] []
 ·have hil:i = l.codes.length:=by omega
  subst hil
  have hp:=jl3 i2
  refine qw mixm (α:=Nat×Int) [6,7] (fun x=>x.1≤l.codes.length∧lvs l.codes x.1 = some x.2) (fun x=>[(6,vI x.2),(7,vI x.1)]) (fun x=>[(4096,.arr 2 [cdlT l] false)]) (fun x=>l.codes.length - x.1) (0,-1) ⟨by simp,rfl⟩ ?_ fun x hx=>?_
  ·exact .oA [(4096,some 4096)] []
  obtain ⟨j,v⟩:=x
  obtain ⟨j1,j2⟩:=hx
  dsimp only at j1 j2
  refine sD ?_
  refine ⟨fun h5=>?_,fun h5=>?_⟩
  ·have hj2:j < l.codes.length:=by omega
   have hwj:=qk (i:=j) (by omega)
   have hs:=qx1 l.codes j
   rw [j2,lvS] at hs
   have hlf:=zh9 l (j:Int) (by omega)
   have hdp:=kH l j hp hj2 (by omega)
   rw [show zE9 l (j:Int) = qd9 l.codes j from rfl] at hlf
   refine C1.im hlf (by rfl) (by rfl) ?_
   simp only [tZ,↓un_u,simprocAttr,hwj]
   refine ⟨fun h6=>?_,fun h6=>?_⟩
   ·rw [if_pos h6] at hs
    refine C2.im (fun _=>hdp) (fun _=>rfl) (by rfl) ?_
    simp only [tZ,↓un_u,simprocAttr,tD,bne_iff_ne,bne_eq_false_iff_eq]
    refine ⟨fun h7=>?_,fun h7=>?_⟩
    ·rw [if_pos (by omega)] at hs
     rw [hE2 i2 (zy9 hs _ (by omega))]
     exact .oA [] []
    ·rw [if_neg (by omega)] at hs
     refine C1.im hdp (by rfl) (by rfl) ?_
     simp only [tZ,↓un_u,simprocAttr,hwj]
     refine ⟨(j + 1,(dep l.codes j:Int)),⟨by dsimp only;omega,hs⟩,by dsimp only;omega,?_⟩
     exact .oA [(4096,some 4096)] []
   ·rw [if_neg (by rw [h6];simp)] at hs
    refine ⟨(j + 1,v),⟨by dsimp only;omega,hs⟩,by dsimp only;omega,?_⟩
    exact .oA [(4096,some 4096)] []
  ·have hjl:j = l.codes.length:=by omega
   subst hjl
   rw [hE3 v i2 j2]
   exact .oA [] []
end Go.Proofs
namespace Go.Proofs
open Go Go.TL
theorem JM (l:CodL) (hl:l.codes.length < 4611686018427387904):Spc Tryz.prog kX [cdlT l] [] (vI (zk l)) []:=by
 refine qd qD1 mixm (by simp) fun e _ hst=>qj ?_
 unfold ZC
 refine sW ?_
 refine C1.im (yq l hl) (by rfl) (by rfl) ?_
 simp only [tZ,↓un_u,simprocAttr,bne_iff_ne,bne_eq_false_iff_eq]
 refine ⟨fun h=>?_,fun h=>?_⟩
 ·rw [zk,if_pos h]
  exact .oA [] []
 obtain ⟨hp,h1,h2⟩:=zc h
 have hw:=ZZ (i:=l.codes.length) h1 (by omega)
 have hd:=qt2 hp (l.codes.length - 1) (by omega)
 have hw2:=qk (i:=dep l.codes (l.codes.length - 1)) (by omega)
 simp only [tZ,↓un_u,simprocAttr,hw]
 refine C1.im (kH l (l.codes.length - 1) hp (by omega) (by omega)) (by rfl) (by rfl) ?_
 rw [zk,if_neg (by rw [h];simp)]
 simp only [tZ,↓un_u,simprocAttr,hw2]
 exact .oA [] []
theorem KV (l:CodL) (c:Int) (hl:l.codes.length < 4611686018427387904):Spc Tryz.prog wW [cdlT l,vI c] [] (vI (lvlC l c)) []:=by
 refine qd qJ4 mixm (by simp) fun e _ hst=>qj ?_
 unfold Jw
 refine sW ?_
 refine C1.im (yq l hl) (by rfl) (by rfl) ?_
 simp only [tZ,↓un_u,simprocAttr,tD,bne_iff_ne,bne_eq_false_iff_eq]
 refine ⟨fun h=>?_,fun h=>?_⟩
 ·rw [lvlC,if_pos (by omega)]
  exact .oA [] []
 obtain ⟨hp,h1,h2⟩:=zc h.1.1
 obtain ⟨k,rfl⟩:=Int.eq_ofNat_of_zero_le (show 0≤c by omega)
 refine C1.im (kH l k hp (by omega) (by omega)) (by rfl) (by rfl) ?_
 rw [lvlC,if_neg (by omega),Int.toNat_natCast]
 refine sW ?_
 exact .oA [] []
end Go.Proofs
namespace Go.Proofs
open Go Go.TL
def atN (cs:List Cod) (lev:Int) (n:Nat):List Int:=List.map (fun i:Nat=>(i:Int)) ((List.range n).filter fun i=>(dep cs i:Int) == lev)
theorem zz0 (cs:List Cod) (lev:Int) (n:Nat):atN cs lev (n + 1) = atN cs lev n ++ (if (dep cs n:Int) = lev then [(n:Int)] else []):=by
 unfold atN
 rw [List.range_succ,List.filter_append,List.map_append]
 congr 1
 by_cases h:(dep cs n:Int) = lev <;> simp [h]
theorem zU9 (cs:List Cod) (lev:Int) (n:Nat):(atN cs lev n).length≤n:=by
 unfold atN
 rw [List.length_map]
 exact Nat.le_trans (List.length_filter_le _ _) (by simp)
theorem zF0 (l:CodL) (lev:Int) (hl:l.codes.length < 4611686018427387904):Spc Tryz.prog qn9 [cdlT l,vI lev] [] (vIs (atL l lev)) []:=by
 refine qd zn9 mixm (by simp) fun e _ hst=>qj ?_
 unfold qd0
 refine sW ?_
 refine C1.im (yq l hl) (by rfl) (by rfl) ?_
 simp only [tZ,↓un_u,simprocAttr,bne_iff_ne,bne_eq_false_iff_eq]
 refine ⟨fun h=>?_,fun h=>?_⟩
 ·rw [atL,if_pos h]
  exact .oA [] []
 obtain ⟨hp,h1,h2⟩:=zc h
 have e:atL l lev = atN l.codes lev l.codes.length:=by rw [atL,if_neg (by rw [h];simp)];rfl
 rw [e]
 refine qw mixm (α:=Nat) [5,6] (fun i=>i≤l.codes.length) (fun i=>[(5,.asl 1 (atN l.codes lev i).length),(6,vI i)]) (fun i=>[(4096,.arr 2 [cdlT l] false),(1,.arr 1 ((atN l.codes lev i).map vI) false)]) (fun i=>l.codes.length - i) 0 (by omega) ?_ fun i hi=>?_
 ·simp only [atN,List.range_zero,List.filter_nil,List.map_nil,List.length_nil]
  exact .oA [(4096,some 4096),(1,none)] []
 have hli:=zU9 l.codes lev i
 refine sD ?_
 refine ⟨fun h3=>?_,fun h3=>?_⟩
 ·have hi2:i < l.codes.length:=by omega
  have hwi:=qk (i:=i) (by omega)
  have hs:=zz0 l.codes lev i
  refine C1.im (kH l i hp hi2 (by omega)) (by rfl) (by rfl) ?_
  simp only [tZ,↓un_u,simprocAttr,beq_iff_eq,beq_eq_false_iff_ne,hwi]
  refine ⟨fun h4=>?_,fun h4=>?_⟩
  ·rw [if_pos h4] at hs
   refine ⟨by omega,i + 1,by omega,by omega,?_⟩
   rw [hs]
   exact .oA [(4096,some 4096),(1,some 1)] []
  ·rw [if_neg h4,List.append_nil] at hs
   refine ⟨i + 1,by omega,by omega,?_⟩
   rw [hs]
   exact .oA [(4096,some 4096),(1,some 1)] []
 ·have hil:i = l.codes.length:=by omega
  subst hil
  exact .oA [] [1]
end Go.Proofs
namespace Go.Proofs
open Go Go.TL
open So
theorem jd3 {cs:List Cod} (h:qv8 cs) (lev:Nat):∀ (c f g:Nat),c < cs.length→c < f→c < g→upF cs lev f c = upF cs lev g c:=by
 intro c
 induction c using Nat.strongRecOn with
 | _ c ih=>
   intro f g hc hf hg
   obtain ⟨f,rfl⟩:∃ k,f = k + 1:=⟨f - 1,by omega⟩
   obtain ⟨g,rfl⟩:∃ k,g = k + 1:=⟨g - 1,by omega⟩
   simp only [upF]
   have hp:=h c hc
   split
   ·rename_i h1
    have h0:¬ parC cs c < 0:=fun e=>by rw [qk0 e] at h1;omega
    rw [ih (parC cs c).toNat (by omega) f g (by omega) (by omega) (by omega)]
   ·rfl
theorem up_step {cs:List Cod} (h:qv8 cs) {lev c:Nat} (hc:c < cs.length) (hl:lev < dep cs c):0≤parC cs c∧parC cs c < c∧dep cs c = dep cs (parC cs c).toNat + 1∧upF cs lev (c + 1) c = upF cs lev ((parC cs c).toNat + 1) (parC cs c).toNat:=by
 have hp:=h c hc
 have h0:¬ parC cs c < 0:=fun e=>by rw [qk0 e] at hl;omega
 refine ⟨by omega,by omega,qd8 h hc (by omega),?_⟩
 rw [upF,if_pos hl]
 exact jd3 h lev _ _ _ (by omega) (by omega) (by omega)
theorem zz1 {cs:List Cod} {lev c:Nat} (hl:dep cs c≤lev) (f:Nat):upF cs lev f c = c:=by
 cases f with
 | zero=>rfl
 | succ f=>rw [upF,if_neg (by omega)]
theorem qM1 (l:CodL) (c:Int) (hp:qv8 l.codes) (hc:0≤c∧c < l.codes.length) (hl:l.codes.length≤1000):Spc Tryz.prog zo [cdlT l,vI c] [] (vI (dep l.codes c.toNat)) []:=by
 obtain ⟨k,rfl⟩:=Int.eq_ofNat_of_zero_le hc.1
 rw [Int.toNat_natCast]
 exact kH l k hp (by omega) hl
theorem qQ3 (l:CodL) (c lev:Int) (hl:l.codes.length < 4611686018427387904):Spc Tryz.prog YG [cdlT l,vI c,vI lev] [] (vI (upC l c lev)) []:=by
 have hdp:(lstE l != 0 || decide (c < 0) || decide ((l.codes.length:Int)≤c) || decide (lev < 0)) = false→Spc Tryz.prog zo [cdlT l,vI c] [] (vI (dep l.codes c.toNat)) []:=fun hg=>by
  simp only [tD,bne_eq_false_iff_eq] at hg
  obtain ⟨hp,_,h2⟩:=zc hg.1.1.1
  exact qM1 l c hp (by omega) (by omega)
 refine qd zn7 mixm (by simp) fun e _ hst=>qj ?_
 unfold qc7
 refine sW ?_
 refine C1.im (yq l hl) (by rfl) (by rfl) ?_
 refine sW ?_
 refine C2.im hdp (fun _=>rfl) (by rfl) ?_
 simp only [tZ,↓un_u,simprocAttr,tD,bne_iff_ne,bne_eq_false_iff_eq]
 refine ⟨fun h=>?_,fun h=>?_⟩
 ·rw [upC,if_pos (by omega)]
  exact .oA [] []
 obtain ⟨hp,h1,h2⟩:=zc h.1.1.1.1
 obtain ⟨k,rfl⟩:=Int.eq_ofNat_of_zero_le (show 0≤c by omega)
 obtain ⟨v,rfl⟩:=Int.eq_ofNat_of_zero_le (show 0≤lev by omega)
 rw [upC,if_neg (by omega),Int.toNat_natCast,Int.toNat_natCast]
 rw [Int.toNat_natCast] at h
 refine qw mixm (α:=Nat) [1,31] (fun x=>x < l.codes.length∧upF l.codes v (k + 1) k = upF l.codes v (x + 1) x) (fun x=>[(1,vI x)]) (fun x=>[(4096,.arr 2 [cdlT l] false)]) (fun x=>x) k ⟨by omega,rfl⟩ ?_ fun x hx=>?_
 ·exact .oA [(4096,some 4096)] []
 obtain ⟨x1,x2⟩:=hx
 have hcd:l.codes[x].par = parC l.codes x:=by rw [parC,cdAt,qh x1]
 refine sW ?_
 refine C1.im (kH l x hp x1 (by omega)) (by rfl) (by rfl) ?_
 refine sD ?_
 refine ⟨fun h3=>?_,fun h3=>?_⟩
 ·obtain ⟨u1,u2,u3,u4⟩:=up_step hp (lev:=v) x1 (by omega)
  obtain ⟨p,hpe⟩:=Int.eq_ofNat_of_zero_le u1
  simp only [tZ,↓un_u,simprocAttr,Int.toNat_natCast,qe x1,hcd,hpe]
  rw [hpe,Int.toNat_natCast] at u4
  refine ⟨by omega,p,⟨by omega,x2.trans u4⟩,by omega,?_⟩
  exact .oA [(4096,some 4096)] []
 ·rw [x2,zz1 (by omega)]
  exact .oA [] []
theorem qV8 (l:CodL) (c a:Int) (hl:l.codes.length < 4611686018427387904):Spc Tryz.prog KB [cdlT l,vI c,vI a] [] (vB (Yn l c a)) []:=by
 refine qd qJ6 mixm (by simp) fun e _ hst=>qj ?_
 unfold Jx
 refine sW ?_
 refine C1.im (KV l a hl) (by rfl) (by rfl) ?_
 refine sW ?_
 refine C2.im (fun _=>KV l c hl) (fun _=>rfl) (by rfl) ?_
 refine sW ?_
 refine C2.im (fun _=>qQ3 l c (lvlC l a) hl) (fun _=>rfl) (by rfl) ?_
 refine sW ?_
 rw [show (decide (0≤lvlC l a) && decide (lvlC l a≤lvlC l c) && (upC l c (lvlC l a) == a)) = Yn l c a from rfl]
 exact .oA [] []
end Go.Proofs
