/- A part of the proof: trees of Go values, short forms, contracts. -/
import Derived.WalkKit
import Derived.Still
import Derived.MapKept
import GoSem.Builtin.Cap
import Derived.Laws.Externs
import GoSem.Extern.SlicesOverlaps
import Derived.Carry
import Derived.ProofKit
import Derived.OpenShut
import Derived.HandedShaped
import Derived.Lay
import Derived.LaidLaws
import Derived.MakeChecks
import Derived.SevenTiedAt
import Derived.Test.YtnfagfikoblhfaaGreatDoorChecked
import Derived.Test.YtnfagfikoblhfaaGreatDoorK14
set_option linter.unusedSimpArgs false
set_option linter.unusedVariables false
namespace Go.Proofs
open Go Go.TL
theorem mid {K G:Prop} (main:K→G) (rest:K):G:=main rest
theorem mixm:Tryz.prog.follows .mixedOrders=true:=by kernel_rfl
theorem jr5 (l:List UInt8):Spc Tryz.prog qL9 [vL l] [] (.ptr 0 1 0 0) [(0,oC (l.take 400) 0)]:=by
 refine qd zZ4 mixm (by simp) fun e _ hst=>qg ?_;unfold qx6;obtain⟨m,hm,hm2⟩:∃ m:Nat,minI (l.length:Int) 400=m∧m≤l.length∧l.take m=l.take 400:=by
  unfold minI;split
  ·exact⟨400,rfl,by omega,rfl⟩
  ·exact⟨l.length,rfl,by omega,by rw[Bw,List.take_of_length_le (by omega)]⟩
 simp only[tZ,↓un_u,simprocAttr,hm,qk6,zd3,hm2];refine⟨by omega,.of [(0,some 8216)] [] rfl rfl ?_ ?_⟩
 ·simp only[tL,simprocAttr];exact qV ⟨rfl,rfl,rfl,rfl,trivial⟩ zb
 ·simp only[tL,simprocAttr]
theorem jf (l:List UInt8) (at_:Nat) (n:Int) (hl:l.length≤400) (ha:at_≤l.length) (hn:n≤1000000):Spc Tryz.prog qz [.ptr 0 1 0 0,vI n] [(0,oC l at_)] (vI (nx l at_ n).1) [(0,oC l (nx l at_ n).2)]:=by
 refine qd qD9 mixm (by simp) fun e _ hst=>qg ?_;unfold QB;simp only[tZ,↓un_u,simprocAttr,DZ,FX,AZ,Ay];refine⟨by kernel_rfl,fun h1=>?_,fun h1=>?_⟩
 ·have e:nx l at_ n=(0,at_):=by unfold nx;rw[Aj (by omega)]
  rw[e];refine .of [(0,some 0)] [] rfl rfl ?_ ?_
  ·simp only[tL,simprocAttr];exact qV ⟨rfl,rfl,rfl,rfl,trivial⟩ zb
  ·simp only[tL,simprocAttr]
 ·have h2:at_<l.length:=by omega
  have hw1:IntKind.i64.wrap ((at_:Int)+1)=((at_+1:Nat):Int):=by rw[AK _ (by omega)];omega
  have hw2:IntKind.i64.wrap (((at_+1:Nat):Int)-1)=(at_:Int):=by rw[AK _ (by omega)];omega
  simp only[tZ,↓un_u,simprocAttr,hw1,hw2,Ax,zv6 h2];refine⟨by omega,by kernel_rfl,by kernel_rfl,fun h3=>?_,fun h3=>?_⟩
  ·simp only[Bq,AZ] at h3;have h4:at_+1<l.length:=by omega
   have hb:=zY7 (l.getD at_ 0);have hb2:=zY7 (l.getD (at_+1) 0);have e:nx l at_ n=(((l.getD at_ 0).toNat*256+(l.getD (at_+1) 0).toNat) % n,at_+2):=by
    unfold nx;rw[Aq (by omega),Aj (by omega)]
   have hw3:IntKind.i64.wrap (((at_+1:Nat):Int)+1)=((at_+2:Nat):Int):=by rw[AK _ (by omega)];omega
   have hv1:IntKind.i64.wrap ((l.getD at_ 0).toNat:Int)=(l.getD at_ 0).toNat:=AK _ (by omega);have hv2:IntKind.i64.wrap ((l.getD (at_+1) 0).toNat:Int)=(l.getD (at_+1) 0).toNat:=AK _ (by omega);have hv3:IntKind.i64.wrap (((l.getD at_ 0).toNat:Int)*256)=(l.getD at_ 0).toNat*256:=AK _ (by omega);have hv4:IntKind.i64.wrap (((l.getD at_ 0).toNat:Int)*256+(l.getD (at_+1) 0).toNat)=(l.getD at_ 0).toNat*256+(l.getD (at_+1) 0).toNat:=AK _ (by omega);simp only[tZ,↓un_u,simprocAttr,hw3,Ax,zv6 h4,hv1,hv2,hv3,hv4];rw[e,Int.tmod_eq_emod_of_nonneg (by omega)];refine⟨by omega,by kernel_rfl,by omega,.of [(0,some 0)] [] rfl rfl ?_ ?_⟩
   ·simp only[tL,simprocAttr];exact qV ⟨rfl,rfl,rfl,rfl,trivial⟩ zb
   ·simp only[tL,simprocAttr]
  ·have e:nx l at_ n=((l.getD at_ 0).toNat % n,at_+1):=by
    unfold nx;rw[Aq (by omega),Aq];simp only[FJ,Ay] at h3;omega
   have hb:=zY7 (l.getD at_ 0);rw[e,AK _ (by omega),Int.tmod_eq_emod_of_nonneg (by omega)];refine⟨by omega,.of [(0,some 0)] [] rfl rfl ?_ ?_⟩
   ·simp only[tL,simprocAttr];exact qV ⟨rfl,rfl,rfl,rfl,trivial⟩ zb
   ·simp only[tL,simprocAttr]
end Go.Proofs
namespace Go.Proofs
open Go Go.TL
theorem zM (l:List UInt8) (at_:Nat) (lo hi:Int) (hl:l.length≤400) (ha:at_≤l.length) (hlo : -1000000≤lo∧lo≤1000000) (hhi:lo≤hi∧hi≤lo+100000) :
 Spc Tryz.prog qO [.ptr 0 1 0 0,vI lo,vI hi] [(0,oC l at_)] (vI (lo+(nx l at_ (hi-lo+1)).1)) [(0,oC l (nx l at_ (hi-lo+1)).2)]:=by
 refine qd qx9 mixm (by simp) fun e _ hst=>qg ?_;unfold yI;have hw1:IntKind.i64.wrap (hi-lo)=hi-lo:=AK _ (by omega);have hw2:IntKind.i64.wrap (hi-lo+1)=hi-lo+1:=AK _ (by omega);simp only[tZ,↓un_u,simprocAttr,hw1,hw2];refine C1.draw 0 l at_ _ (jf l at_ (hi-lo+1) hl ha (by omega)) rfl rfl rfl ?_;have hr:=yp l at_ (hi-lo+1) (by omega);have hw3:IntKind.i64.wrap (lo+(nx l at_ (hi-lo+1)).1)=lo+(nx l at_ (hi-lo+1)).1:=AK _ (by omega);simp only[tZ,↓un_u,simprocAttr,hw3];refine .of [(0,some 0)] [] rfl rfl ?_ ?_
 ·simp only[tL,simprocAttr];exact qV ⟨rfl,rfl,rfl,rfl,trivial⟩ zb
 ·simp only[tL,simprocAttr]
end Go.Proofs
namespace Go.Proofs
open Go Go.TL
structure Cod where
 name:ByteArray
 par:Int
structure CodL where
 name:ByteArray
 codes:List Cod
structure Col where
 name:ByteArray
 kind:Int
 list:Int
 low:Int
 high:Int
 widths:List Int
 opt:Bool
structure Sch where
 lists:List CodL
 cols:List Col
structure Pk where
 col:Int
 lev:Int
inductive Cnd where
 | mk (op col code lo hi:Int) (kids:List Cnd)
structure Qst where
 name:ByteArray
 kind:Int
 filt:Cnd
 dims:List Pk
 meas:Int
 terms:List Int
 event:Cnd
structure Smp where
 part:Int
 of:Int
 seed:Int
structure Dcl where
 proj:ByteArray
 src:ByteArray
 coh:Cnd
 smp:Smp
 qs:List Qst
structure Src where
 sch:Sch
 rows:List (List Int)
 gone:List Int
 ver:Int
structure Edt where
 kind:Int
 row:List Int
 id:Int
structure Ext where
 proj:ByteArray
 ver:Int
 picks:List Pk
 rows:List (List Int)
structure Chg where
 ver:Int
 gone:List Int
 rows:List (List Int)
namespace Cnd
def op:Cnd→Int | .mk a _ _ _ _ _=>a
def col:Cnd→Int | .mk _ a _ _ _ _=>a
def code:Cnd→Int | .mk _ _ a _ _ _=>a
def lo:Cnd→Int | .mk _ _ _ a _ _=>a
def hi:Cnd→Int | .mk _ _ _ _ a _=>a
def kids:Cnd→List Cnd | .mk _ _ _ _ _ a=>a
end Cnd
abbrev cnd0:Cnd:=.mk 0 0 0 0 0 []
instance:Inhabited Cod:=⟨⟨⟨#[]⟩,0⟩⟩
instance:Inhabited CodL:=⟨⟨⟨#[]⟩,[]⟩⟩
instance:Inhabited Col:=⟨⟨⟨#[]⟩,0,0,0,0,[],false⟩⟩
instance:Inhabited Sch:=⟨⟨[],[]⟩⟩
instance:Inhabited Pk:=⟨⟨0,0⟩⟩
instance:Inhabited Cnd:=⟨cnd0⟩
instance:Inhabited Qst:=⟨⟨⟨#[]⟩,0,cnd0,[],0,[],cnd0⟩⟩
instance:Inhabited Edt:=⟨⟨0,[],0⟩⟩
abbrev codT (c:Cod):T:=.agg [vS c.name,vI c.par]
abbrev cdlT (l:CodL):T:=.agg [vS l.name,.sl 2 (l.codes.map codT)]
abbrev colT (c:Col):T:=.agg [vS c.name,vI c.kind,vI c.list,vI c.low,vI c.high,vIs c.widths,vB c.opt]
abbrev schT (s:Sch):T:=.agg [.sl 2 (s.lists.map cdlT),.sl 7 (s.cols.map colT)]
abbrev pkT (p:Pk):T:=.agg [vI p.col,vI p.lev]
abbrev vPs (l:List Pk):T:=.sl 2 (l.map pkT)
mutual
def cndT:Cnd→T
 | .mk op col code lo hi kids=>.agg [vI op,vI col,vI code,vI lo,vI hi,.sl 6 (jH8 kids)]
def jH8:List Cnd→List T
 | []=>[]
 | c::r=>cndT c::jH8 r
end
theorem zR7:∀ l:List Cnd,jH8 l=l.map cndT
 | []=>by simp [jH8]
 | c::r=>by simp [jH8,zR7 r]
theorem zp (c:Cnd):cndT c = .agg [vI c.op,vI c.col,vI c.code,vI c.lo,vI c.hi,.sl 6 (c.kids.map cndT)]:=by
 cases c;simp only[cndT,zR7,Cnd.op,Cnd.col,Cnd.code,Cnd.lo,Cnd.hi,Cnd.kids]
abbrev vCs (l:List Cnd):T:=.sl 6 (l.map cndT)
abbrev qstT (q:Qst):T:=.agg [vS q.name,vI q.kind,vI q.filt.op,vI q.filt.col,vI q.filt.code,vI q.filt.lo,vI q.filt.hi,vCs q.filt.kids,vPs q.dims,vI q.meas,vIs q.terms,vI q.event.op,vI q.event.col,vI q.event.code,vI q.event.lo,vI q.event.hi,vCs q.event.kids]
abbrev smpT (x:Smp):T:=.agg [vI x.part,vI x.of,vI x.seed]
abbrev dclT (d:Dcl):T:=.agg [vS d.proj,vS d.src,vI d.coh.op,vI d.coh.col,vI d.coh.code,vI d.coh.lo,vI d.coh.hi,vCs d.coh.kids,vI d.smp.part,vI d.smp.of,vI d.smp.seed,.sl 17 (d.qs.map qstT)]
abbrev vRw (l:List (List Int)):T:=.sl 1 (l.map vIs)
abbrev srcT (s:Src):T:=.agg [.sl 2 (s.sch.lists.map cdlT),.sl 7 (s.sch.cols.map colT),vRw s.rows,vIs s.gone,vI s.ver]
abbrev extT (x:Ext):T:=.agg [vS x.proj,vI x.ver,vPs x.picks,vRw x.rows]
end Go.Proofs
namespace Go.Proofs
open Go Go.TL
def zh1 (c:UInt8):Bool:=(decide ((c.toNat:Int)<97)||decide ((c.toNat:Int)>122))&&(decide ((c.toNat:Int)<48)||decide ((c.toNat:Int)>57))&&!((c.toNat:Int)==95)
def ja9 (s:ByteArray):Bool:=decide ((s.size:Int)<1)||decide ((s.size:Int)>16)||decide (((s.data.toList.getD 0 0).toNat:Int)<97)||decide (((s.data.toList.getD 0 0).toNat:Int)>122)
def resW:List (List UInt8):=[[97,108,108],[97,110,100],[101,118,101,110,116],[102,114,111,109],[109,105,115,115,105,110,103],[110,111,116],[111,110],[111,114],[116,111],[117,110,100,101,114],[119,104,101,114,101]]
def jt (s:ByteArray):Bool:=!ja9 s&&!(s.data.toList.any zh1)&&!(resW.contains s.toList)
theorem yZ (s:ByteArray):Spc Tryz.prog kh [vS s] [] (vB (jt s)) []:=by
 have hsl:s.size=s.data.toList.length:=by rw[Array.length_toList];rfl
 refine qd zB9 mixm (by simp) fun e _ hst=>qg ?_;unfold qe7;refine sW ?_;refine⟨fun h=>?_,fun h=>?_,fun h=>?_,fun h=>?_⟩
 ·simp at h;omega
 ·simp at h;omega
 ·have:jt s=false:=by unfold jt ja9;rw[h];rfl
  rw[this];exact .oA [] []
 have hd:ja9 s=false:=h;have hs16:s.data.toList.length≤16:=by
  unfold ja9 at hd;simp only[FX,Ay] at hd;omega
 refine qu mixm (α:=Nat) [3] (fun i=>i≤s.data.toList.length∧((s.data.toList.take i).any zh1=false)) (fun i=>[(3,vI i)]) (fun i=>[]) (fun i=>s.data.toList.length-i) 0 ⟨by omega,?_⟩ ?_ fun i hi=>?_
 ·rfl
 ·exact .oA [] []
 refine sD ?_;refine⟨fun h5=>?_,fun h5=>?_⟩
 ·have hi2:i<s.data.toList.length:=by omega
  have hwi:=qj (i:=i) (by omega);simp only[tZ,↓un_u,simprocAttr,Ax,hwi,Zg];have hg:s.data.toList.getD i 0=s.data.toList[i]:=qh hi2;simp only[hg];refine⟨by omega,?_⟩
  repeat (refine⟨fun _=>by omega,?_⟩)
  refine⟨fun h6=>?_,fun h6=>?_⟩
  ·have hb:zh1 s.data.toList[i]=true:=by
    simp only[Ak] at h6;generalize s.data.toList[i]=c at h6 ⊢
    unfold zh1;simp;omega
   have:jt s=false:=by
    unfold jt;rw[show s.data.toList.any zh1=true from DJ.2 ⟨_,AX hi2,hb⟩];simp
   rw[this];exact .oA [] []
  ·have hb:zh1 s.data.toList[i]=false:=by
    rw[← h6,Bool.eq_iff_iff];generalize s.data.toList[i]=c;unfold zh1;simp
    try omega
   refine⟨i+1,⟨by omega,ki hi2 hi.2 hb⟩,by omega,?_⟩;exact .oA [] []
 ·have h3:=hi.2;have:i=s.data.toList.length:=by omega
  rw[this,Bw] at h3;have hn:jt s=!(resW.contains s.toList):=by unfold jt;rw[hd,h3];rfl
  rw[hn];simp only[resW,List.contains_cons,List.contains_nil]
  repeat' (first | with_reducible apply Az | with_reducible intro _)
  all_goals first
   | (exfalso;simp_all;done)
   | (simp only[*,Bool.true_or,Bool.or_true,Bool.false_or,Bool.or_false,Bool.not_true,Bool.not_false];exact .imR rfl rfl)
end Go.Proofs
namespace Go.Proofs
open Go Go.TL
abbrev cdAt (cs:List Cod) (i:Nat):Cod:=cs.getD i default
def parC (cs:List Cod) (i:Nat):Int:=(cdAt cs i).par
def depF (cs:List Cod):Nat→Nat→Nat
 | 0,_=>0
 | f+1,c=>if parC cs c<0 then 0 else depF cs f (parC cs c).toNat+1
def dep (cs:List Cod) (c:Nat):Nat:=depF cs (c+1) c
def qX4 (cs:List Cod):Prop:=∀ i,i<cs.length→-1≤parC cs i∧parC cs i<i
theorem jH9 {cs:List Cod} (h:qX4 cs):∀ (c f g:Nat),c<cs.length→c<f→c<g→depF cs f c=depF cs g c:=by
 intro c
 induction c using Nat.strongRecOn with
 | _ c ih=>
   intro f g hc hf hg;obtain⟨f,rfl⟩:∃ k,f=k+1:=⟨f-1,by omega⟩;obtain⟨g,rfl⟩:∃ k,g=k+1:=⟨g-1,by omega⟩;simp only[depF];have hp:=h c hc;split
   ·rfl
   ·rw[ih (parC cs c).toNat (by omega) f g (by omega) (by omega) (by omega)]
theorem qH4 {cs:List Cod} {c:Nat} (h:parC cs c<0):dep cs c=0:=by simp [dep,depF,h]
theorem qO9 {cs:List Cod} (h:qX4 cs) {c:Nat} (hc:c<cs.length) (h0:0≤parC cs c):dep cs c=dep cs (parC cs c).toNat+1:=by
 have hp:=h c hc;unfold dep;rw[depF,Aq (by omega),jH9 h _ c ((parC cs c).toNat+1) (by omega) (by omega) (by omega)]
theorem qS9 {cs:List Cod} (h:qX4 cs):∀ c,c<cs.length→dep cs c≤c:=by
 intro c
 induction c using Nat.strongRecOn with
 | _ c ih=>
   intro hc;by_cases h0:parC cs c<0
   ·rw[qH4 h0];omega
   ·have hp:=h c hc;have:=ih (parC cs c).toNat (by omega) (by omega);rw[qO9 h hc (by omega)];omega
def qA2 (cs:List Cod) (c:Nat):Bool:=!(cs.any fun x=>x.par==(c:Int))
def eqB (a b:ByteArray):Bool:=a.toList==b.toList
def cdE (cs:List Cod) (i:Nat):Int:=
 if jt (cdAt cs i).name=false then 3
 else if ((cs.take i).any fun x=>eqB x.name (cdAt cs i).name)=true then 10
 else if (i=0∧parC cs i≠-1)∨(0<i∧(parC cs i<0∨parC cs i≥i)) then 6 else 0
def cdEs (cs:List Cod):Nat→Int
 | 0=>0
 | n+1=>if cdEs cs n≠0 then cdEs cs n else cdE cs n
def lvS (cs:List Cod) (o:Option Int) (i:Nat):Option Int:=match o with
 | none=>none
 | some v=>if qA2 cs i=true then (if v≥0∧(dep cs i:Int)≠v then none else some (dep cs i)) else some v
def lvs (cs:List Cod) (n:Nat):Option Int:=(List.range n).foldl (lvS cs) (some (-1))
def lstE (l:CodL):Int:=
 if jt l.name=false then 3 else if l.codes.length=0 then 5 else if l.codes.length>60 then 1
 else if cdEs l.codes l.codes.length≠0 then cdEs l.codes l.codes.length else match lvs l.codes l.codes.length with | none=>5 | some _=>0
theorem zw4 {cs:List Cod} {i:Nat} (h:cdEs cs i≠0):∀ n,i≤n→cdEs cs n=cdEs cs i:=by
 intro n hn
 induction n with
 | zero=>have:i=0:=by omega
         rw[this]
 | succ n ih=>
   by_cases e:i=n+1
   ·rw[e]
   ·have:=ih (by omega);rw[cdEs,this,Aj h]
theorem qH5 {cs:List Cod}:∀ {n:Nat},cdEs cs n=0→∀ i,i<n→cdE cs i=0
 | 0,_,i,h=>by omega
 | n+1,h,i,hi=>by
   rw[cdEs] at h;split at h
   ·rename_i h2;exact absurd h h2
   ·rename_i h2;by_cases e:i=n
    ·rw[e];exact h
    ·exact qH5 (AQ h2) i (by omega)
theorem zD7 {cs:List Cod} {i:Nat} (h:cdE cs i=0) : -1≤parC cs i∧parC cs i<i∧(i=0→parC cs i = -1)∧(0<i→0≤parC cs i):=by
 unfold cdE at h;split at h
 ·cases h
 ·split at h
  ·cases h
  ·split at h
   ·cases h
   ·rename_i h1;omega
theorem zg {l:CodL} (h:lstE l=0):qX4 l.codes∧0<l.codes.length∧l.codes.length≤60:=by
 unfold lstE at h;split at h
 ·cases h
 ·split at h
  ·cases h
  ·split at h
   ·cases h
   ·split at h
    ·rename_i h2;exact absurd h h2
    ·rename_i h1 h2 h3 h4;refine⟨fun i hi=>?_,by omega,by omega⟩;have:=zD7 (qH5 (AQ h4) i hi);exact⟨this.1,this.2.1⟩
def zh (l:CodL):Int:=if lstE l≠0 then -1 else (dep l.codes (l.codes.length-1):Int)+1
def lvlC (l:CodL) (c:Int):Int:=if lstE l≠0∨c<0∨c≥l.codes.length then -1 else dep l.codes c.toNat
def upF (cs:List Cod) (lev:Nat):Nat→Nat→Nat
 | 0,c=>c
 | f+1,c=>if lev<dep cs c then upF cs lev f (parC cs c).toNat else c
def upC (l:CodL) (c lev:Int):Int:=if lstE l≠0∨c<0∨c≥l.codes.length∨lev<0∨lev>dep l.codes c.toNat then -1 else upF l.codes lev.toNat (c.toNat+1) c.toNat
def atL (l:CodL) (lev:Int):List Int:=if lstE l≠0 then [] else List.map (fun i:Nat=>(i:Int)) ((List.range l.codes.length).filter fun i=>(dep l.codes i:Int)==lev)
def qo3 (l:CodL) (c above:Int):Bool:=decide (0≤lvlC l above)&&decide (lvlC l above≤lvlC l c)&&(upC l c (lvlC l above)==above)
end Go.Proofs
namespace Go.Proofs
open Go Go.TL
def inB (n lo hi:Int):Bool:=decide (lo≤n)&&decide (n≤hi)
def wdOk (ws:List Int) (i:Nat):Bool:=if i=0 then ws.getD 0 0==1 else decide (ws.getD (i-1) 0<ws.getD i 0)&&decide (ws.getD i 0≤1000000)&&((ws.getD i 0).tmod (ws.getD (i-1) 0)==0)
def jT0 (ws:List Int):Bool:=(List.range ws.length).all (wdOk ws)
def measE (c:Col):Int:=
 if inB c.low (-1000000) 1000000=false∨inB c.high (-1000000) 1000000=false∨c.low>c.high then 2
 else if c.widths.length<1∨c.widths.length>4 then 1 else if jT0 c.widths=false then 2 else 0
abbrev qk (s:Sch) (i:Nat):Col:=s.cols.getD i default
def colE (s:Sch) (i:Nat):Int:=
 if jt (qk s i).name=false then 3
 else if ((s.cols.take i).any fun x=>eqB x.name (qk s i).name)=true then 10
 else if inB (qk s i).kind 1 3=false∨(0<i∧(qk s i).kind=1) then 4
 else if (qk s i).kind=2∧inB (qk s i).list 0 (s.lists.length-1)=false then 5
 else if (qk s i).kind=3∧measE (qk s i)≠0 then measE (qk s i)
 else if ((qk s i).kind≠2∧(qk s i).list≠0)∨((qk s i).kind≠3∧((qk s i).low≠0∨(qk s i).high≠0∨0<(qk s i).widths.length∨(qk s i).opt=true)) then 11 else 0
def Qe (s:Sch):Nat→Int
 | 0=>0
 | n+1=>if Qe s n≠0 then Qe s n else if lstE (s.lists.getD n default)≠0 then lstE (s.lists.getD n default)
   else if ((s.lists.take n).any fun x=>eqB x.name (s.lists.getD n default).name)=true then 10 else 0
def qa5 (s:Sch):Nat→Int
 | 0=>0
 | n+1=>if qa5 s n≠0 then qa5 s n else colE s n
def schE (s:Sch):Int:=
 if s.lists.length>6∨s.cols.length>8 then 1 else if Qe s s.lists.length≠0 then Qe s s.lists.length
 else if s.cols.length=0∨(qk s 0).kind≠1 then 7 else qa5 s s.cols.length
abbrev qJ (s:Sch) (i:Nat):CodL:=s.lists.getD (qk s i).list.toNat default
def yk:Int:=-1099511627776
def jo (s:Sch) (i:Nat) (v:Int):Bool:=
 if (qk s i).kind=1 then inB v 1 1048575
 else if (qk s i).kind=2 then inB v 0 ((qJ s i).codes.length-1)&&(lvlC (qJ s i) v==zh (qJ s i)-1)
 else ((qk s i).opt&&(v==yk))||inB v (qk s i).low (qk s i).high
def rowE (s:Sch) (row:List Int):Int:=
 if schE s≠0 then schE s else if row.length≠s.cols.length then 9
 else if ((List.range row.length).all fun i=>jo s i (row.getD i 0))=false then 9 else 0
def finI (s:Sch) (c:Int):Int:=
 if schE s≠0∨c<1∨c≥s.cols.length then -1
 else if (qk s c.toNat).kind=2 then zh (qJ s c.toNat)-1 else (qk s c.toNat).widths.length
def qG (a b:Int):Int:=a.fdiv b
def qQ (s:Sch) (c:Nat):List Int:=atL (qJ s c) (zh (qJ s c)-1)
def qD (c:Col) (lev:Int):Int:=c.widths.getD (c.widths.length-lev).toNat 0
def qK (s:Sch) (c lev v:Int):Int:=
 if inB lev 0 (finI s c)=false then -1
 else if (qk s c.toNat).kind=2 then (if jo s c.toNat v=false then -1 else upC (qJ s c.toNat) v lev)
 else if v≠yk∧inB v (-1000000) 1000000=false then -1
 else if lev=0 then 0 else if v=yk then v else qG v (qD (qk s c.toNat) lev)*qD (qk s c.toNat) lev
def eqPk (x y:Pk):Bool:=(x.col==y.col)&&(x.lev==y.lev)
def qH6 (a b:List Pk):Bool:=WC eqPk a b
end Go.Proofs
namespace Go.Proofs
open Go Go.TL
def dgt (n:Nat):UInt8:=UInt8.ofNat (48+n)
def topC:Cod:=⟨⟨#[116,111,112]⟩,-1⟩
def kidC (i:Nat):Cod:=⟨⟨#[107,dgt i]⟩,0⟩
def lefC (n i:Nat):Cod:=⟨⟨#[108,dgt n]⟩,1+i⟩
def qj0 (k:Nat):List Cod:=topC::(List.range k).map kidC
def addL (cs:List Cod) (i:Nat):List Cod:=cs++[lefC cs.length i]
def lefL:List Cod→Nat→List Nat→List Cod
 | cs,_,[]=>cs
 | cs,i,n::r=>lefL ((List.range n).foldl (fun cs _=>addL cs i) cs) (i+1) r
def allN:Nat→List (List Nat)
 | 0=>[[]]
 | n+1=>(allN n).flatMap fun l=>[1::l,2::l]
theorem jl7:∀ {n:Nat} {l:List Nat},l.length=n→(∀ x∈l,x=1∨x=2)→l∈allN n
 | 0,[],_,_=>by simp [allN]
 | n+1,x::l,h,hx=>by
   have h1:=jl7 (n:=n) (l:=l) (by simpa using h) fun y hy=>hx y (CQ _ hy);rw[allN,Ek];refine⟨l,h1,?_⟩;rcases hx x (by simp) with h | h <;> subst h <;> simp
 | 0,_::_,h,_=>by simp at h
 | n+1,[],h,_=>by simp at h
def zR8:ByteArray:=⟨#[111,110,101]⟩
def zR9:ByteArray:=⟨#[116,119,111]⟩
theorem jT1:([zR8,zR9].all fun nm=>[1,2,3].all fun k=>lstE ⟨nm,qj0 k⟩==0&&(allN k).all fun l=>lstE ⟨nm,lefL (qj0 k) 0 l⟩==0)=true:=by decide +kernel
structure DrL (nm:ByteArray) (l:CodL):Prop where
 nm:l.name=nm
 ok:lstE l=0
 len:2≤l.codes.length∧l.codes.length≤10
theorem jI0 {nm:ByteArray} (hn:nm=zR8∨nm=zR9) {k:Nat} (hk:1≤k∧k≤3):lstE ⟨nm,qj0 k⟩=0∧∀ l,l.length=k→(∀ x∈l,x=1∨x=2)→lstE ⟨nm,lefL (qj0 k) 0 l⟩=0:=by
 have h1:=Bk.1 jT1 nm (by rcases hn with h | h <;> subst h <;> simp);have hk3:k∈[1,2,3]:=by
  have:k=1∨k=2∨k=3:=by omega
  rcases this with h | h | h <;> subst h <;> simp
 have h2:=Bk.1 h1 k hk3;rw[Bq,Bk] at h2;exact⟨by simpa using h2.1,fun l hl hx=>by simpa using h2.2 l (jl7 hl hx)⟩
end Go.Proofs
namespace Go.Proofs
open Go Go.TL
theorem jl8 {s:Sch}:∀ {n:Nat},(∀ i,i<n→colE s i=0)→qa5 s n=0
 | 0,_=>rfl
 | n+1,h=>by
   rw[qa5,jl8 fun i hi=>h i (by omega),Aq (by simp)];exact h n (by omega)
theorem jI1 {s:Sch} {i:Nat} (h1:jt (qk s i).name=true) (h2:((s.cols.take i).any fun x=>eqB x.name (qk s i).name)=false) (h3:(qk s i).kind=3) (h4:(qk s i).list=0) (h5:measE (qk s i)=0):colE s i=0:=by
 rw[colE,Aq (by rw[h1];simp),Aq (by rw[h2];simp),Aq (by rw[h3];simp [inB]),Aq (by rw[h3];simp),Aq (by rw[h5];simp),Aq (by rw[h3,h4];simp)]
theorem zh2 {s:Sch} {i:Nat} (h1:jt (qk s i).name=true) (h2:((s.cols.take i).any fun x=>eqB x.name (qk s i).name)=false) (h3:(qk s i).kind=2) (h4:inB (qk s i).list 0 (s.lists.length-1)=true)
 (h5:(qk s i).low=0∧(qk s i).high=0∧(qk s i).widths=[]∧(qk s i).opt=false):colE s i=0:=by
 rw[colE,Aq (by rw[h1];simp),Aq (by rw[h2];simp),Aq (by rw[h3];simp [inB]),Aq (by rw[h4];simp),Aq (by rw[h3];simp),Aq (by rw[h3,h5.1,h5.2.1,h5.2.2.1,h5.2.2.2];simp)]
theorem jI2 {s:Sch} (h1:jt (qk s 0).name=true) (h3:(qk s 0).kind=1) (h5:(qk s 0).list=0∧(qk s 0).low=0∧(qk s 0).high=0∧(qk s 0).widths=[]∧(qk s 0).opt=false):colE s 0=0:=by
 rw[colE,Aq (by rw[h1];simp),Aq (by simp),Aq (by rw[h3];simp [inB]),Aq (by rw[h3];simp),Aq (by rw[h3];simp),Aq (by rw[h3,h5.1,h5.2.1,h5.2.2.1,h5.2.2.2.1,h5.2.2.2.2];simp)]
def whoC:Col:=⟨⟨#[119,104,111]⟩,1,0,0,0,[],false⟩
def sexC:Col:=⟨⟨#[115,101,120]⟩,2,0,0,0,[],false⟩
def jobC:Col:=⟨⟨#[106,111,98]⟩,2,1,0,0,[],false⟩
def wTab:List (List Int):=[[1],[1,5],[1,5,20],[1,2,4,12]]
structure DrM (n:Nat) (c:Col):Prop where
 nm:c.name=⟨#[109,dgt n]⟩
 kind:c.kind=3
 list:c.list=0
 low : -4≤c.low∧c.low≤2
 high:c.low≤c.high∧c.high≤c.low+44
 wid:c.widths∈wTab
theorem DrM.measE {n:Nat} {c:Col} (h:DrM n c):measE c=0:=by
 have hl:=h.low;have hh:=h.high;have hw:=h.wid;have h1:inB c.low (-1000000) 1000000=true:=by simp only[inB,Bq,AZ];omega
 have h2:inB c.high (-1000000) 1000000=true:=by simp only[inB,Bq,AZ];omega
 have h3:1≤c.widths.length∧c.widths.length≤4∧jT0 c.widths=true:=by
  simp only[wTab,Ck,List.not_mem_nil,or_false] at hw;rcases hw with hw | hw | hw | hw <;> rw[hw] <;> decide
 rw[_root_.Go.Proofs.measE,Aq (by rw[h1,h2];simp;omega),Aq (by omega),Aq (by rw[h3.2.2];simp)]
structure DrS (s:Sch):Prop where
 ls:∃ a b,s.lists=[a,b]∧DrL zR8 a∧DrL zR9 b
 cs:∃ ms,(s.cols=whoC::sexC::ms∧(∀ i (h:i<ms.length),DrM (2+i) ms[i])∨s.cols=whoC::sexC::jobC::ms∧∀ i (h:i<ms.length),DrM (3+i) ms[i])∧1≤ms.length∧ms.length≤3
theorem kp3:∀ n:Nat,n<10→jt ⟨#[109,dgt n]⟩=true:=by
 have:∀ n:Fin 10,jt ⟨#[109,dgt n.1]⟩=true:=by decide +kernel
 exact fun n h=>this ⟨n,h⟩
theorem kp4:∀ i j:Nat,i<10→j<10→i≠j→eqB ⟨#[109,dgt i]⟩ ⟨#[109,dgt j]⟩=false:=by
 have:∀ i j:Fin 10,i.1≠j.1→eqB ⟨#[109,dgt i.1]⟩ ⟨#[109,dgt j.1]⟩=false:=by decide +kernel
 exact fun i j hi hj h=>this ⟨i,hi⟩ ⟨j,hj⟩ h
theorem km6:∀ j:Nat,j<10→eqB whoC.name ⟨#[109,dgt j]⟩=false∧eqB sexC.name ⟨#[109,dgt j]⟩=false∧eqB jobC.name ⟨#[109,dgt j]⟩=false:=by
 have:∀ j:Fin 10,eqB whoC.name ⟨#[109,dgt j.1]⟩=false∧eqB sexC.name ⟨#[109,dgt j.1]⟩=false∧eqB jobC.name ⟨#[109,dgt j.1]⟩=false:=by decide +kernel
 exact fun j hj=>this ⟨j,hj⟩
theorem kf9 {s:Sch} {a b:CodL} (h:s.lists=[a,b]) (ha:DrL zR8 a) (hb:DrL zR9 b):Qe s s.lists.length=0:=by
 have e1:Qe s 1=0:=by
  rw[Qe,Qe,Aq (by simp),h];show (if lstE a≠0 then lstE a else _)=0;rw[Aq (by rw[ha.ok];simp)]
  rfl
 rw[h];show Qe s 2=0;rw[Qe,e1,Aq (by simp),h];show (if lstE b≠0 then lstE b else if ([a].any fun x=>eqB x.name b.name)=true then (10:Int) else 0)=0;rw[Aq (by rw[hb.ok];simp),Aq];simp only[List.any_cons,List.any_nil,Bool.or_false,ha.nm,hb.nm];rw[show eqB zR8 zR9=false by decide +kernel];simp
theorem qH7:jt whoC.name=true∧jt sexC.name=true∧jt jobC.name=true∧eqB whoC.name sexC.name=false∧eqB whoC.name jobC.name=false∧eqB sexC.name jobC.name=false∧eqB zR8 zR9=false:=by decide +kernel
theorem kg0 {s:Sch} {pre ms:List Col} (hl:s.lists.length=2) (hc:s.cols=pre++ms) (hp:pre=[whoC,sexC]∨pre=[whoC,sexC,jobC]) (hm:∀ i (h:i<ms.length),DrM (pre.length+i) ms[i]) (hn:ms.length≤3):qa5 s s.cols.length=0:=by
 refine jl8 fun i hi=>?_;by_cases h:i<pre.length
 ·have ha:qk s i=pre[i]:=by
   rw[qk,hc,CY,BK h,CK h];rfl
  have ht:s.cols.take i=pre.take i:=by rw[hc,List.take_append_of_le_length (by omega)]
  rcases hp with hp | hp
  ·subst hp;have h2:i=0∨i=1:=by simp at h;omega
   rcases h2 with h2 | h2 <;> subst h2
   ·exact jI2 (by rw[ha];exact qH7.1) (by rw[ha];rfl) (by rw[ha];exact⟨rfl,rfl,rfl,rfl,rfl⟩)
   ·exact zh2 (by rw[ha];exact qH7.2.1) (by rw[ha,ht];show (eqB whoC.name sexC.name||false)=false;rw[qH7.2.2.2.1];rfl) (by rw[ha];rfl) (by rw[ha,hl];rfl) (by rw[ha];exact⟨rfl,rfl,rfl,rfl⟩)
  ·subst hp;have h2:i=0∨i=1∨i=2:=by simp at h;omega
   rcases h2 with h2 | h2 | h2 <;> subst h2
   ·exact jI2 (by rw[ha];exact qH7.1) (by rw[ha];rfl) (by rw[ha];exact⟨rfl,rfl,rfl,rfl,rfl⟩)
   ·exact zh2 (by rw[ha];exact qH7.2.1) (by rw[ha,ht];show (eqB whoC.name sexC.name||false)=false;rw[qH7.2.2.2.1];rfl) (by rw[ha];rfl) (by rw[ha,hl];rfl) (by rw[ha];exact⟨rfl,rfl,rfl,rfl⟩)
   ·exact zh2 (by rw[ha];exact qH7.2.2.1) (by rw[ha,ht];show (eqB whoC.name jobC.name||(eqB sexC.name jobC.name||false))=false;rw[qH7.2.2.2.2.1,qH7.2.2.2.2.2.1];rfl) (by rw[ha];rfl) (by rw[ha,hl];rfl) (by rw[ha];exact⟨rfl,rfl,rfl,rfl⟩)
 ·have hi2:i-pre.length<ms.length:=by rw[hc,AW] at hi;omega
  have hpl:pre.length≤3:=by rcases hp with hp | hp <;> subst hp <;> simp
  have ha:qk s i=ms[i-pre.length]:=by
   rw[qk,hc,CY,BJ (by omega),CK hi2];rfl
  have d:=hm _ hi2;rw[show pre.length+(i-pre.length)=i by omega] at d;refine jI1 (by rw[ha,d.nm];exact kp3 i (by omega)) ?_ (by rw[ha];exact d.kind) (by rw[ha];exact d.list) (by rw[ha];exact d.measE);rw[ha,d.nm,hc,List.any_eq_false];intro x hx;rw[List.take_append] at hx;rcases Dz.1 hx with hx | hx
  ·have hx:=EX hx;have hf:=km6 i (by omega);have:x=whoC∨x=sexC∨x=jobC:=by
    rcases hp with hp | hp <;> subst hp <;> simp at hx <;> rcases hx with h | h | h <;> simp [h]
   rcases this with h | h | h <;> subst h <;> simp [hf.1,hf.2.1,hf.2.2]
  ·obtain⟨j,hj,rfl⟩:=List.mem_take_iff_getElem.1 hx;have dj:=hm j (by omega);rw[dj.nm,kp4 (pre.length+j) i (by omega) (by omega) (by omega)];simp
theorem DrS.ok {s:Sch} (h:DrS s):schE s=0:=by
 obtain⟨a,b,hl,ha,hb⟩:=h.ls;obtain⟨ms,hc,hm1,hm3⟩:=h.cs;have h2:s.lists.length=2:=by rw[hl];rfl
 have key:∀ pre:List Col,(pre=[whoC,sexC]∨pre=[whoC,sexC,jobC])→s.cols=pre++ms→(∀ i (h:i<ms.length),DrM (pre.length+i) ms[i])→schE s=0:=by
  intro pre hp hc hd;have hpl:2≤pre.length∧pre.length≤3:=by rcases hp with hp | hp <;> subst hp <;> simp
  have h0:(qk s 0).kind=1:=by
   rw[qk,hc];rcases hp with hp | hp <;> subst hp <;> rfl
  rw[schE,Aq (by rw[h2,hc,AW];omega),Aq (by rw[kf9 hl ha hb];simp),Aq (by rw[hc,AW];omega)];exact kg0 h2 hc hp hd hm3
 rcases hc with⟨hc,hd⟩ | ⟨hc,hd⟩
 ·exact key [whoC,sexC] (.inl rfl) hc hd
 ·exact key [whoC,sexC,jobC] (.inr rfl) hc hd
end Go.Proofs
namespace Go.Proofs
open Go Go.TL
theorem jb0 {l:CodL} (h:lstE l=0) {lev v:Int}:v∈atL l lev↔∃ i:Nat,i<l.codes.length∧(dep l.codes i:Int)=lev∧v=(i:Int):=by
 rw[atL,Aq (by rw[h];simp)];simp only[Cj,Fz,Dk,AY];constructor
 ·rintro ⟨i,⟨h1,h2⟩,rfl⟩;exact⟨i,h1,h2,rfl⟩
 ·rintro ⟨i,h1,h2,rfl⟩;exact⟨i,⟨h1,h2⟩,rfl⟩
theorem zD8 {l:CodL} (h:lstE l=0):zh l-1=(dep l.codes (l.codes.length-1):Int):=by
 rw[zh,Aq (by rw[h];simp)];omega
theorem jI3 {l:CodL} (h:lstE l=0):0<(atL l (zh l-1)).length:=by
 obtain⟨_,h1,_⟩:=zg h;have:((l.codes.length-1:Nat):Int)∈atL l (zh l-1):=(jb0 h).2 ⟨l.codes.length-1,by omega,(zD8 h).symm,rfl⟩;exact List.length_pos_of_mem this
theorem qr4 {s:Sch} {i:Nat} (hk:(qk s i).kind=2) (hl:lstE (qJ s i)=0) {v:Int} (hv:v∈qQ s i):jo s i v=true:=by
 obtain⟨j,h1,h2,rfl⟩:=(jb0 hl).1 hv;rw[jo,Aq (by rw[hk];decide),Aj hk,Bq];refine⟨by simp only[inB,Bq,AZ];omega,?_⟩;rw[AY,lvlC,Aq (by rw[hl];omega),Ax,h2]
theorem zD9 {s:Sch} {row:List Int} (hs:schE s=0) (hl:row.length=s.cols.length) (h:∀ i,i<row.length→jo s i (row.getD i 0)=true):rowE s row=0:=by
 rw[rowE,Aq (by rw[hs];simp),Aq (by rw[hl];simp),Aq];rw[Ez,Bk];intro i hi;exact h i (Dk.1 hi)
theorem qg2 {s:Sch} {row:List Int} (h:rowE s row=0):schE s=0∧row.length=s.cols.length∧∀ i,i<row.length→jo s i (row.getD i 0)=true:=by
 unfold rowE at h;split at h
 ·rename_i h1;exact absurd h h1
 ·split at h
  ·cases h
  ·split at h
   ·cases h
   ·rename_i h1 h2 h3;rw[Ez,Bk] at h3;exact⟨AQ h1,by omega,fun i hi=>h3 i (Dk.2 hi)⟩
theorem zS0 {s:Sch}:∀ {n:Nat},qa5 s n=0→∀ i,i<n→colE s i=0
 | 0,_,i,h=>by omega
 | n+1,h,i,hi=>by
   rw[qa5] at h;split at h
   ·rename_i h2;exact absurd h h2
   ·rename_i h2;by_cases e:i=n
    ·rw[e];exact h
    ·exact zS0 (AQ h2) i (by omega)
theorem zS1 {s:Sch}:∀ {n:Nat},Qe s n=0→∀ i,i<n→lstE (s.lists.getD i default)=0
 | 0,_,i,h=>by omega
 | n+1,h,i,hi=>by
   rw[Qe] at h;split at h
   ·rename_i h2;exact absurd h h2
   ·rename_i h2;split at h
    ·rename_i h3;exact absurd h h3
    ·rename_i h3;by_cases e:i=n
     ·rw[e];exact AQ h3
     ·exact zS1 (AQ h2) i (by omega)
structure SchOk (s:Sch):Prop where
 nl:s.lists.length≤6
 nc:1≤s.cols.length∧s.cols.length≤8
 ls:∀ i,i<s.lists.length→lstE (s.lists.getD i default)=0
 c0:(qk s 0).kind=1
 cs:∀ i,i<s.cols.length→colE s i=0
theorem qR {s:Sch} (h:schE s=0):SchOk s:=by
 unfold schE at h;split at h
 ·cases h
 ·split at h
  ·rename_i h2;exact absurd h h2
  ·split at h
   ·cases h
   ·rename_i h1 h2 h3;refine⟨by omega,by omega,zS1 (AQ h2),?_,zS0 h⟩;exact AQ fun e=>h3 (.inr e)
theorem za {s:Sch} {i:Nat} (h:colE s i=0):1≤(qk s i).kind∧(qk s i).kind≤3∧(0<i→(qk s i).kind≠1)∧((qk s i).kind=2→0≤(qk s i).list∧(qk s i).list<s.lists.length)∧((qk s i).kind=3→measE (qk s i)=0):=by
 unfold colE at h;split at h
 ·cases h
 ·split at h
  ·cases h
  ·split at h
   ·cases h
   ·split at h
    ·cases h
    ·rename_i h1 h2 h3 h4;have hk:inB (qk s i).kind 1 3=true:=by
      cases e:inB (qk s i).kind 1 3 with
      | true=>rfl
      | false=>exact absurd (.inl e) h3
     simp only[inB,Bq,AZ] at hk;refine⟨hk.1,hk.2,fun h0 e=>h3 (.inr ⟨h0,e⟩),fun e=>?_,fun e=>?_⟩
     ·have:inB (qk s i).list 0 (s.lists.length-1)=true:=by
       cases e2:inB (qk s i).list 0 (s.lists.length-1) with
       | true=>rfl
       | false=>exact absurd ⟨e,e2⟩ h4
      simp only[inB,Bq,AZ] at this;omega
     ·split at h
      ·rename_i h5;exact absurd h h5.2
      ·rename_i h5;exact AQ fun e2=>h5 ⟨e,e2⟩
theorem SchOk.cdl {s:Sch} (h:SchOk s) {i:Nat} (hi:i<s.cols.length) (hk:(qk s i).kind=2):(qk s i).list.toNat<s.lists.length∧lstE (qJ s i)=0:=by
 have h1:=(za (h.cs i hi)).2.2.2.1 hk;exact⟨by omega,h.ls _ (by omega)⟩
end Go.Proofs
namespace Go.Proofs
open Go Go.TL
theorem wL (l:CodL) (c:Nat) (hp:qX4 l.codes) (hc:c<l.codes.length) (hl:l.codes.length≤1000):Spc Tryz.prog zt [cdlT l,vI c] [] (vI (dep l.codes c)) []:=by
 refine qd zp0 mixm (by simp) fun e _ hst=>qg ?_;unfold Yr;refine sW ?_;refine qu mixm (α:=Nat×Nat) [1,5] (fun x=>x.1<l.codes.length∧dep l.codes c=x.2+dep l.codes x.1∧x.2+x.1≤1000) (fun x=>[(1,vI x.1),(5,vI x.2)]) (fun x=>[(4096,.arr 2 [cdlT l] false)]) (fun x=>x.1) (c,0) ⟨hc,by simp,by simp;omega⟩ ?_ fun x hx=>?_
 ·exact .oA [(4096,some 4096)] []
 obtain⟨k,n⟩:=x;obtain⟨h1,h2,h3⟩:=hx;dsimp only at h1 h2 h3;have hpk:=hp k h1;have hcd:l.codes[k].par=parC l.codes k:=by rw[parC,cdAt,qh h1]
 have hwn:=qj (i:=n) (by omega);simp only[tZ,↓un_u,simprocAttr,Ax,qe h1,hcd,tD,hwn];refine⟨by omega,fun h4=>?_,fun h4=>?_⟩
 ·obtain⟨p,hpe⟩:=AJ h4;rw[qO9 hp h1 (by omega),hpe,Ax] at h2;rw[hpe] at hpk ⊢
  refine⟨by omega,(p,n+1),⟨by dsimp only;omega,by dsimp only;omega,by dsimp only;omega⟩,by dsimp only;omega,?_⟩;exact .oA [(4096,some 4096)] []
 ·rw[qH4 (c:=k) (by omega),Nat.add_zero] at h2;rw[h2];exact .oA [] []
def jr6 (l:CodL) (c:Int):Bool:=!(l.codes.any fun x=>x.par==c)
theorem zS2 (l:CodL) (c:Int) (hl:l.codes.length≤1000):Spc Tryz.prog ql8 [cdlT l,vI c] [] (vB (jr6 l c)) []:=by
 refine qd zD2 mixm (by simp) fun e _ hst=>qg ?_;unfold qf7;refine sW ?_;refine qu mixm (α:=Nat) [5] (fun i=>i≤l.codes.length∧(l.codes.take i).any (fun x=>x.par==c)=false) (fun i=>[(5,vI i)]) (fun i=>[(4096,.arr 2 [cdlT l] false)]) (fun i=>l.codes.length-i) 0 ⟨by omega,rfl⟩ ?_ fun i hi=>?_
 ·exact .oA [(4096,some 4096)] []
 obtain⟨h1,h2⟩:=hi;refine sD ?_;refine⟨fun h3=>?_,fun h3=>?_⟩
 ·have hi2:i<l.codes.length:=by omega
  have hwi:=qj (i:=i) (by omega);simp only[tZ,↓un_u,simprocAttr,Ax,qe hi2,hwi];refine⟨by omega,fun h4=>?_,fun h4=>?_⟩
  ·have:jr6 l c=false:=by
    unfold jr6;rw[DJ.2 ⟨_,AX hi2,h4⟩];rfl
   rw[this];exact .oA [] []
  ·refine⟨i+1,⟨by omega,ki hi2 h2 h4⟩,by omega,?_⟩;exact .oA [(4096,some 4096)] []
 ·have hil:i=l.codes.length:=by omega
  subst hil;rw[Bw] at h2;have:jr6 l c=true:=by unfold jr6;rw[h2];rfl
  rw[this];exact .oA [] []
end Go.Proofs
namespace Go.Proofs
open Go Go.TL
theorem qZ4 (cs:List Cod) (n:Nat):lvs cs (n+1)=lvS cs (lvs cs n) n:=by
 unfold lvs;rw[List.range_succ,Gx]
 rfl
theorem jl9 {cs:List Cod} {n:Nat} (h:lvs cs n=none):∀ m,n≤m→lvs cs m=none:=by
 intro m hm
 induction m with
 | zero=>have:n=0:=by omega
         rw[← this];exact h
 | succ m ih=>
   by_cases e:n=m+1
   ·rw[← e];exact h
   ·rw[qZ4,ih (by omega)];rfl
theorem kb7 {cs:List Cod} (h:cdEs cs cs.length=0):qX4 cs:=fun i hi=>by
 have:=zD7 (qH5 h i hi);exact⟨this.1,this.2.1⟩
theorem QS (l:CodL) (hl:l.codes.length<4611686018427387904):Spc Tryz.prog kv [cdlT l] [] (vI (lstE l)) []:=by
 refine qd zo8 mixm (by simp) fun e _ hst=>qg ?_;unfold Yq;refine sW ?_;refine C1.im (yZ l.name) (by rfl) (by rfl) ?_;simp only[tZ,↓un_u,simprocAttr,Bx,Bz];refine⟨fun h=>?_,fun h1=>?_⟩
 ·rw[lstE,Aj h];exact .oA [] []
 simp only[tZ,↓un_u,simprocAttr,AY,Ak];refine⟨fun h=>?_,fun h2=>?_⟩
 ·rw[lstE,Aq (by rw[h1];simp),Aj (by omega)];exact .oA [] []
 refine sD ?_;refine⟨fun h=>?_,fun h3=>?_⟩
 ·rw[lstE,Aq (by rw[h1];simp),Aq (by omega),Aj (by omega)];exact .oA [] []
 have hE1:cdEs l.codes l.codes.length≠0→lstE l=cdEs l.codes l.codes.length:=fun h=>by
  rw[lstE,Aq (by rw[h1];simp),Aq (by omega),Aq (by omega),Aj h]
 have hE2:cdEs l.codes l.codes.length=0→lvs l.codes l.codes.length=none→lstE l=5:=fun h k=>by
  rw[lstE,Aq (by rw[h1];simp),Aq (by omega),Aq (by omega),Aq (by rw[h];simp),k]
 have hE3:∀ v,cdEs l.codes l.codes.length=0→lvs l.codes l.codes.length=some v→lstE l=0:=fun v h k=>by
  rw[lstE,Aq (by rw[h1];simp),Aq (by omega),Aq (by omega),Aq (by rw[h];simp),k]
 refine qu mixm (α:=Nat) [3] (fun i=>i≤l.codes.length∧cdEs l.codes i=0) (fun i=>[(3,vI i)]) (fun i=>[(4096,.arr 2 [cdlT l] false)]) (fun i=>l.codes.length-i) 0 ⟨by omega,rfl⟩ ?_ fun i hi=>?_
 ·exact .oA [(4096,some 4096)] []
 obtain⟨i1,i2⟩:=hi;refine sD ?_;refine⟨fun h4=>?_,fun h4=>?_⟩
 ·have hi2:i<l.codes.length:=by omega
  have hwi:=qj (i:=i) (by omega);have hat:cdAt l.codes i=l.codes[i]:=by rw[cdAt,qh hi2]
  have hs:cdEs l.codes (i+1)=cdE l.codes i:=by rw[cdEs,Aq (by rw[i2];simp)]
  have hbad:cdE l.codes i≠0→lstE l=cdE l.codes i:=fun hb=>by
   have:=zw4 (by rw[hs];exact hb) l.codes.length (show i+1≤l.codes.length by omega);rw[hE1 (by rw[this,hs];exact hb),this,hs]
  simp only[tZ,↓un_u,simprocAttr,Ax,qe hi2];refine⟨by omega,?_⟩;refine C1.im (yZ l.codes[i].name) (by rfl) (by rfl) ?_;simp only[tZ,↓un_u,simprocAttr,Bx,Bz];refine⟨fun h5=>?_,fun h5=>?_⟩
  ·have hc:cdE l.codes i=3:=by rw[cdE,hat,Aj h5]
   rw[hbad (by rw[hc];decide),hc];exact .oA [] []
  refine qu mixm (α:=Nat) [4] (fun k=>k≤i∧(l.codes.take k).any (fun x=>eqB x.name l.codes[i].name)=false) (fun k=>[(4,vI k)]) (fun k=>[(4096,.arr 2 [cdlT l] false)]) (fun k=>i-k) 0 ⟨by omega,rfl⟩ ?_ fun k hk=>?_
  ·exact .oA [(4096,some 4096)] []
  obtain⟨k1,k2⟩:=hk;refine sD ?_;refine⟨fun h6=>?_,fun h6=>?_⟩
  ·have hk2:k<l.codes.length:=by omega
   have hwk:=qj (i:=k) (by omega);simp only[tZ,↓un_u,simprocAttr,Ax,qe hi2,qe hk2,hwk];refine⟨by omega,by omega,by kernel_rfl,fun h7=>?_,fun h7=>?_⟩
   ·have hc:cdE l.codes i=10:=by
     rw[cdE,hat,Aq (by rw[h5];simp),Aj (DJ.2 ⟨l.codes[k],List.mem_take_iff_getElem.2 ⟨k,by omega,rfl⟩,h7⟩)]
    rw[hbad (by rw[hc];decide),hc];exact .oA [] []
   ·refine⟨k+1,⟨by omega,ki hk2 k2 h7⟩,by omega,?_⟩;exact .oA [(4096,some 4096)] []
  ·have hki:k=i:=by omega
   subst hki;have hpar:l.codes[k].par=parC l.codes k:=by rw[parC,hat]
   have hcE:cdE l.codes k=if (k=0∧parC l.codes k≠-1)∨(0<k∧(parC l.codes k<0∨parC l.codes k≥k)) then 6 else 0:=by
    rw[cdE,hat,Aq (by rw[h5];simp),Aq (by rw[k2];simp)]
   simp only[tZ,↓un_u,simprocAttr,Ax,qe hi2,hpar,hwi,tD,AY,Ak,Bj,Aw];refine⟨by omega,fun h7=>?_,fun h7=>?_⟩
   ·have hc:cdE l.codes k=6:=by rw[hcE,Aj (by omega)]
    rw[hbad (by rw[hc];decide),hc];exact .oA [] []
   ·refine⟨k+1,⟨by omega,by rw[hs,hcE,Aq (by omega)]⟩,by omega,?_⟩;exact .oA [(4096,some 4096)] []
 ·have hil:i=l.codes.length:=by omega
  subst hil;have hp:=kb7 i2;refine qu mixm (α:=Nat×Int) [6,7] (fun x=>x.1≤l.codes.length∧lvs l.codes x.1=some x.2) (fun x=>[(6,vI x.2),(7,vI x.1)]) (fun x=>[(4096,.arr 2 [cdlT l] false)]) (fun x=>l.codes.length-x.1) (0,-1) ⟨by simp,rfl⟩ ?_ fun x hx=>?_
  ·exact .oA [(4096,some 4096)] []
  obtain⟨j,v⟩:=x;obtain⟨j1,j2⟩:=hx;dsimp only at j1 j2;refine sD ?_;refine⟨fun h5=>?_,fun h5=>?_⟩
  ·have hj2:j<l.codes.length:=by omega
   have hwj:=qj (i:=j) (by omega);have hs:=qZ4 l.codes j;rw[j2,lvS] at hs;have hlf:=zS2 l (j:Int) (by omega);have hdp:=wL l j hp hj2 (by omega);rw[show jr6 l (j:Int)=qA2 l.codes j from rfl] at hlf;refine C1.im hlf (by rfl) (by rfl) ?_;simp only[tZ,↓un_u,simprocAttr,hwj];refine⟨fun h6=>?_,fun h6=>?_⟩
   ·rw[Aj h6] at hs;refine C2.im (fun _=>hdp) (fun _=>rfl) (by rfl) ?_;simp only[tZ,↓un_u,simprocAttr,tD,Bj,Aw];refine⟨fun h7=>?_,fun h7=>?_⟩
    ·rw[Aj (by omega)] at hs;rw[hE2 i2 (jl9 hs _ (by omega))];exact .oA [] []
    ·rw[Aq (by omega)] at hs;refine C1.im hdp (by rfl) (by rfl) ?_;simp only[tZ,↓un_u,simprocAttr,hwj];refine⟨(j+1,(dep l.codes j:Int)),⟨by dsimp only;omega,hs⟩,by dsimp only;omega,?_⟩;exact .oA [(4096,some 4096)] []
   ·rw[Aq (by rw[h6];simp)] at hs;refine⟨(j+1,v),⟨by dsimp only;omega,hs⟩,by dsimp only;omega,?_⟩;exact .oA [(4096,some 4096)] []
  ·have hjl:j=l.codes.length:=by omega
   subst hjl;rw[hE3 v i2 j2];exact .oA [] []
end Go.Proofs
namespace Go.Proofs
open Go Go.TL
theorem YK (l:CodL) (hl:l.codes.length<4611686018427387904):Spc Tryz.prog yi [cdlT l] [] (vI (zh l)) []:=by
 refine qd zf2 mixm (by simp) fun e _ hst=>qg ?_;unfold KY;refine sW ?_;refine C1.im (QS l hl) (by rfl) (by rfl) ?_;simp only[tZ,↓un_u,simprocAttr,Bj,Aw];refine⟨fun h=>?_,fun h=>?_⟩
 ·rw[zh,Aj h];exact .oA [] []
 obtain⟨hp,h1,h2⟩:=zg h;have hw:=jp (i:=l.codes.length) h1 (by omega);have hd:=qS9 hp (l.codes.length-1) (by omega);have hw2:=qj (i:=dep l.codes (l.codes.length-1)) (by omega);simp only[tZ,↓un_u,simprocAttr,hw];refine C1.im (wL l (l.codes.length-1) hp (by omega) (by omega)) (by rfl) (by rfl) ?_;rw[zh,Aq (by rw[h];simp)];simp only[tZ,↓un_u,simprocAttr,hw2];exact .oA [] []
theorem qg3 (l:CodL) (c:Int) (hl:l.codes.length<4611686018427387904):Spc Tryz.prog Qs [cdlT l,vI c] [] (vI (lvlC l c)) []:=by
 refine qd zo6 mixm (by simp) fun e _ hst=>qg ?_;unfold Yp;refine sW ?_;refine C1.im (QS l hl) (by rfl) (by rfl) ?_;simp only[tZ,↓un_u,simprocAttr,tD,Bj,Aw];refine⟨fun h=>?_,fun h=>?_⟩
 ·rw[lvlC,Aj (by omega)];exact .oA [] []
 obtain⟨hp,h1,h2⟩:=zg h.1.1;obtain⟨k,rfl⟩:=AJ (show 0≤c by omega);refine C1.im (wL l k hp (by omega) (by omega)) (by rfl) (by rfl) ?_;rw[lvlC,Aq (by omega),Ax];refine sW ?_;exact .oA [] []
end Go.Proofs
namespace Go.Proofs
open Go Go.TL
def atN (cs:List Cod) (lev:Int) (n:Nat):List Int:=List.map (fun i:Nat=>(i:Int)) ((List.range n).filter fun i=>(dep cs i:Int)==lev)
theorem jm0 (cs:List Cod) (lev:Int) (n:Nat):atN cs lev (n+1)=atN cs lev n++(if (dep cs n:Int)=lev then [(n:Int)] else []):=by
 unfold atN;rw[List.range_succ,FY,By]
 congr 1
 by_cases h:(dep cs n:Int)=lev <;> simp [h]
theorem jI4 (cs:List Cod) (lev:Int) (n:Nat):(atN cs lev n).length≤n:=by
 unfold atN;rw[BY];exact FZ (Fx _ _) (by simp)
theorem jr7 (l:CodL) (lev:Int) (hl:l.codes.length<4611686018427387904):Spc Tryz.prog qM1 [cdlT l,vI lev] [] (vIs (atL l lev)) []:=by
 refine qd ja4 mixm (by simp) fun e _ hst=>qg ?_;unfold qz4;refine sW ?_;refine C1.im (QS l hl) (by rfl) (by rfl) ?_;simp only[tZ,↓un_u,simprocAttr,Bj,Aw];refine⟨fun h=>?_,fun h=>?_⟩
 ·rw[atL,Aj h];exact .oA [] []
 obtain⟨hp,h1,h2⟩:=zg h;have e:atL l lev=atN l.codes lev l.codes.length:=by rw[atL,Aq (by rw[h];simp)];rfl
 rw[e];refine qu mixm (α:=Nat) [5,6] (fun i=>i≤l.codes.length) (fun i=>[(5,.asl 1 (atN l.codes lev i).length),(6,vI i)]) (fun i=>[(4096,.arr 2 [cdlT l] false),(1,.arr 1 ((atN l.codes lev i).map vI) false)]) (fun i=>l.codes.length-i) 0 (by omega) ?_ fun i hi=>?_
 ·simp only[atN,List.range_zero,List.filter_nil,List.map_nil,Cw];exact .oA [(4096,some 4096),(1,none)] []
 have hli:=jI4 l.codes lev i;refine sD ?_;refine⟨fun h3=>?_,fun h3=>?_⟩
 ·have hi2:i<l.codes.length:=by omega
  have hwi:=qj (i:=i) (by omega);have hs:=jm0 l.codes lev i;refine C1.im (wL l i hp hi2 (by omega)) (by rfl) (by rfl) ?_;simp only[tZ,↓un_u,simprocAttr,AY,Ak,hwi];refine⟨fun h4=>?_,fun h4=>?_⟩
  ·rw[Aj h4] at hs;refine⟨by omega,i+1,by omega,by omega,?_⟩;rw[hs];exact .oA [(4096,some 4096),(1,some 1)] []
  ·rw[Aq h4,CW] at hs;refine⟨i+1,by omega,by omega,?_⟩;rw[hs];exact .oA [(4096,some 4096),(1,some 1)] []
 ·have hil:i=l.codes.length:=by omega
  subst hil;exact .oA [] [1]
end Go.Proofs
namespace Go.Proofs
open Go Go.TL
open So
theorem jT2 {cs:List Cod} (h:qX4 cs) (lev:Nat):∀ (c f g:Nat),c<cs.length→c<f→c<g→upF cs lev f c=upF cs lev g c:=by
 intro c
 induction c using Nat.strongRecOn with
 | _ c ih=>
   intro f g hc hf hg;obtain⟨f,rfl⟩:∃ k,f=k+1:=⟨f-1,by omega⟩;obtain⟨g,rfl⟩:∃ k,g=k+1:=⟨g-1,by omega⟩;simp only[upF];have hp:=h c hc;split
   ·rename_i h1;have h0:¬ parC cs c<0:=fun e=>by rw[qH4 e] at h1;omega
    rw[ih (parC cs c).toNat (by omega) f g (by omega) (by omega) (by omega)]
   ·rfl
theorem up_step {cs:List Cod} (h:qX4 cs) {lev c:Nat} (hc:c<cs.length) (hl:lev<dep cs c):0≤parC cs c∧parC cs c<c∧dep cs c=dep cs (parC cs c).toNat+1∧upF cs lev (c+1) c=upF cs lev ((parC cs c).toNat+1) (parC cs c).toNat:=by
 have hp:=h c hc;have h0:¬ parC cs c<0:=fun e=>by rw[qH4 e] at hl;omega
 refine⟨by omega,by omega,qO9 h hc (by omega),?_⟩;rw[upF,Aj hl];exact jT2 h lev _ _ _ (by omega) (by omega) (by omega)
theorem jm1 {cs:List Cod} {lev c:Nat} (hl:dep cs c≤lev) (f:Nat):upF cs lev f c=c:=by
 cases f with
 | zero=>rfl
 | succ f=>rw[upF,Aq (by omega)]
theorem zs3 (l:CodL) (c:Int) (hp:qX4 l.codes) (hc:0≤c∧c<l.codes.length) (hl:l.codes.length≤1000):Spc Tryz.prog zt [cdlT l,vI c] [] (vI (dep l.codes c.toNat)) []:=by
 obtain⟨k,rfl⟩:=AJ hc.1;rw[Ax];exact wL l k hp (by omega) hl
theorem zw5 (l:CodL) (c lev:Int) (hl:l.codes.length<4611686018427387904):Spc Tryz.prog qr3 [cdlT l,vI c,vI lev] [] (vI (upC l c lev)) []:=by
 have hdp:(lstE l != 0||decide (c<0)||decide ((l.codes.length:Int)≤c)||decide (lev<0))=false→Spc Tryz.prog zt [cdlT l,vI c] [] (vI (dep l.codes c.toNat)) []:=fun hg=>by
  simp only[tD,Aw] at hg;obtain⟨hp,_,h2⟩:=zg hg.1.1.1;exact zs3 l c hp (by omega) (by omega)
 refine qd zZ8 mixm (by simp) fun e _ hst=>qg ?_;unfold qy3;refine sW ?_;refine C1.im (QS l hl) (by rfl) (by rfl) ?_;refine sW ?_;refine C2.im hdp (fun _=>rfl) (by rfl) ?_;simp only[tZ,↓un_u,simprocAttr,tD,Bj,Aw];refine⟨fun h=>?_,fun h=>?_⟩
 ·rw[upC,Aj (by omega)];exact .oA [] []
 obtain⟨hp,h1,h2⟩:=zg h.1.1.1.1;obtain⟨k,rfl⟩:=AJ (show 0≤c by omega);obtain⟨v,rfl⟩:=AJ (show 0≤lev by omega);rw[upC,Aq (by omega),Ax,Ax];rw[Ax] at h;refine qu mixm (α:=Nat) [1,31] (fun x=>x<l.codes.length∧upF l.codes v (k+1) k=upF l.codes v (x+1) x) (fun x=>[(1,vI x)]) (fun x=>[(4096,.arr 2 [cdlT l] false)]) (fun x=>x) k ⟨by omega,rfl⟩ ?_ fun x hx=>?_
 ·exact .oA [(4096,some 4096)] []
 obtain⟨x1,x2⟩:=hx;have hcd:l.codes[x].par=parC l.codes x:=by rw[parC,cdAt,qh x1]
 refine sW ?_;refine C1.im (wL l x hp x1 (by omega)) (by rfl) (by rfl) ?_;refine sD ?_;refine⟨fun h3=>?_,fun h3=>?_⟩
 ·obtain⟨u1,u2,u3,u4⟩:=up_step hp (lev:=v) x1 (by omega);obtain⟨p,hpe⟩:=AJ u1;simp only[tZ,↓un_u,simprocAttr,Ax,qe x1,hcd,hpe];rw[hpe,Ax] at u4;refine⟨by omega,p,⟨by omega,x2.trans u4⟩,by omega,?_⟩;exact .oA [(4096,some 4096)] []
 ·rw[x2,jm1 (by omega)];exact .oA [] []
theorem zE0 (l:CodL) (c a:Int) (hl:l.codes.length<4611686018427387904):Spc Tryz.prog qc9 [cdlT l,vI c,vI a] [] (vB (qo3 l c a)) []:=by
 refine qd zp6 mixm (by simp) fun e _ hst=>qg ?_;unfold Yu;refine sW ?_;refine C1.im (qg3 l a hl) (by rfl) (by rfl) ?_;refine sW ?_;refine C2.im (fun _=>qg3 l c hl) (fun _=>rfl) (by rfl) ?_;refine sW ?_;refine C2.im (fun _=>zw5 l c (lvlC l a) hl) (fun _=>rfl) (by rfl) ?_;refine sW ?_;rw[show (decide (0≤lvlC l a)&&decide (lvlC l a≤lvlC l c)&&(upC l c (lvlC l a)==a))=qo3 l c a from rfl];exact .oA [] []
def zE1:List Int→List Int→Bool:=WC fun x y:Int=>x==y
theorem zS3 {a b:List Int}:zE1 a b=true↔a=b:=qD1 fun x y=>AY
theorem qo4 (a b:List Int) (ha:a.length<4611686018427387904):Spc Tryz.prog Jd [vIs a,vIs b] [] (vB (zE1 a b)) []:=by
 refine qd zA4 mixm (by simp) fun e _ hst=>qg ?_;unfold qd8;simp only[tZ,↓un_u,simprocAttr,Bj,Aw];refine⟨fun h=>?_,fun h=>?_⟩
 ·rw[zE1,qZ3 (by omega)];exact .oA [] []
 have hl:a.length=b.length:=by omega
 refine qu mixm (α:=Nat) [5] (fun i=>i≤a.length∧(zE1 (a.take i) (b.take i)=true)) (fun i=>[(5,vI i)]) (fun i=>[]) (fun i=>a.length-i) 0 ⟨by omega,?_⟩ ?_ fun i hi=>?_
 ·rfl
 ·exact .oA [] []
 simp only[tZ,↓un_u,simprocAttr,AZ,Ay];refine⟨fun h=>?_,fun h=>?_⟩
 ·have hib:i<b.length:=by omega
  have hi2:i<a.length:=by omega
  have hwi:=qj (i:=i) (by omega);simp only[tZ,↓un_u,simprocAttr,Ax,qe hi2,hwi,qe hib];refine⟨by omega,by omega,by kernel_rfl,fun h3=>?_,fun h3=>⟨i+1,⟨by omega,?_⟩,by omega,?_⟩⟩
  ·rw[zE1,qx1 (i:=i) hl (by omega) (by simpa using h3)];exact .oA [] []
  ·rw[zE1,qr2 hi2 hib,← zE1,hi.2];simpa using h3
  ·exact .oA [] []
 ·have hi2:i=a.length:=by omega
  subst hi2;have h3:=hi.2;rw[Bw,List.take_of_length_le (by omega)] at h3;rw[h3];exact .oA [] []
def qT0:List (List Int)→List (List Int)→Bool:=WC zE1
theorem jr8 {a b:List (List Int)}:qT0 a b=true↔a=b:=qD1 fun x y=>zS3
theorem zS4 (a b:List (List Int)) (ha:a.length<4611686018427387904) (hr:∀ r∈a,r.length<4611686018427387904):Spc Tryz.prog ql3 [vRw a,vRw b] [] (vB (qT0 a b)) []:=by
 refine qd zB5 mixm (by simp) fun e _ hst=>qg ?_;unfold qe5;simp only[tZ,↓un_u,simprocAttr,Bj,Aw];refine⟨fun h=>?_,fun h=>?_⟩
 ·rw[qT0,qZ3 (by omega)];exact .oA [] []
 have hl:a.length=b.length:=by omega
 refine qu mixm (α:=Nat) [5] (fun i=>i≤a.length∧(qT0 (a.take i) (b.take i)=true)) (fun i=>[(5,vI i)]) (fun i=>[]) (fun i=>a.length-i) 0 ⟨by omega,?_⟩ ?_ fun i hi=>?_
 ·rfl
 ·exact .oA [] []
 simp only[tZ,↓un_u,simprocAttr,AZ,Ay];refine⟨fun h=>?_,fun h=>?_⟩
 ·have hib:i<b.length:=by omega
  have hi2:i<a.length:=by omega
  have hwi:=qj (i:=i) (by omega);simp only[tZ,↓un_u,simprocAttr,Ax,qe hi2,hwi,qe hib];refine⟨by omega,by omega,?_⟩;refine C1.im (qo4 a[i] b[i] (hr _ (AX hi2))) (by rfl) (by rfl) ?_;simp only[tZ,↓un_u,simprocAttr,Bx,Bz];refine⟨by kernel_rfl,fun h3=>?_,fun h3=>⟨i+1,⟨by omega,?_⟩,by omega,?_⟩⟩
  ·rw[qT0,qx1 (i:=i) hl (by omega) h3];exact .oA [] []
  ·rw[qT0,qr2 hi2 hib,← qT0,hi.2,h3]
   rfl
  ·exact .oA [] []
 ·have hi2:i=a.length:=by omega
  subst hi2;have h3:=hi.2;rw[Bw,List.take_of_length_le (by omega)] at h3;rw[h3];exact .oA [] []
theorem qA3 (l:List Int) (n:Int) (hl:l.length<4611686018427387904):Spc Tryz.prog Zn [vIs l,vI n] [] (vB (l.contains n)) []:=by
 refine qd zQ6 mixm (by simp) fun e _ hst=>qg ?_;unfold qm2;refine sW ?_;refine qu mixm (α:=Nat) [5] (fun i=>i≤l.length∧((l.take i).any (fun x=>x==n)=false)) (fun i=>[(5,vI i)]) (fun i=>[]) (fun i=>l.length-i) 0 ⟨by omega,?_⟩ ?_ fun i hi=>?_
 ·rfl
 ·exact .oA [] []
 simp only[tZ,↓un_u,simprocAttr,AZ,Ay];refine⟨fun h=>?_,fun h=>?_⟩
 ·have hi2:i<l.length:=by omega
  have hwi:=qj (i:=i) (by omega);simp only[tZ,↓un_u,simprocAttr,Ax,qe hi2,hwi];refine⟨by omega,fun h3=>?_,fun h3=>⟨i+1,⟨by omega,ki hi2 hi.2 h3⟩,by omega,?_⟩⟩
  ·rw[show l.contains n=true from FQ.2 ((AY.1 h3) ▸ AX hi2)];exact .oA [] []
  ·exact .oA [] []
 ·have hi2:i=l.length:=by omega
  subst hi2;have h3:=hi.2;rw[Bw] at h3;have:l.contains n=false:=by
   rw[← h3,Bool.eq_iff_iff,FQ,DJ];exact⟨fun h=>⟨n,h,by simp⟩,fun ⟨x,h,e⟩=>AY.1 e ▸ h⟩
  rw[this];exact .oA [] []
end Go.Proofs
