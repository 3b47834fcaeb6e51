/- A part of the proof: trees of Go values, short forms, contracts. -/
import Derived.Test.YtnfagfikoblhfaaGreatDoorK14
namespace Go.Proofs
open Go Go.TL
theorem mid {K G:Prop} (main:K→G) (rest:K):G:=main rest
abbrev Sp (f:FuncId) (ts:List T) (s:Sto) (r:T) (s':Sto):Prop:=Spc (Tryz.prog) f ts s r s'
abbrev aR (i k:Nat) (l:List T):Nat×Ob:=(i,.arr k l false)
abbrev U1 (a:Nat):Ren:=[(a,some a)]
abbrev U2 (a b:Nat):Ren:=[(a,some a),(b,some b)]
abbrev U3 (a b c:Nat):Ren:=[(a,some a),(b,some b),(c,some c)]
abbrev U4 (a b c d:Nat):Ren:=[(a,some a),(b,some b),(c,some c),(d,some d)]
abbrev U5 (a b c d e:Nat):Ren:=[(a,some a),(b,some b),(c,some c),(d,some d),(e,some e)]
abbrev uI (a:Nat):Nat×Option Nat:=(a,some a)
theorem mixm:Tryz.prog.follows .mixedOrders=true:=by kernel_rfl
theorem sIr {f:FuncId} {n:Nat} {kss:List (Nat×List Nat)} {rc:RC} {rs:List RR} (h:FnIR Tryz.prog f n kss rc rs) {ts:List T} {st st':Sto} {r:T} (hw:∀ e:Env,e.n=n→e.st0=st→W Tryz.prog e kss (endR st rs r st') rc [] (WK 0 ts) st) (hn:ts.length≤n:=by simp) (hnm:noMp st=true:=by rfl):Sp f ts st r st':=zX6 h mixm hn (fun e he hst=>qy8 (hw e he hst)) hnm
theorem zY3 (l:List UInt8):Sp 10 [vL l] [] (.ptr 0 1 0 0) [(0,oC (l.take 400) 0)]:=by
 refine sIr zG6 fun e _ hst=>?_;unfold ql6;obtain⟨m,hm,hm2⟩:∃ m:Nat,minI (l.length:Int) 400=m∧m≤l.length∧l.take m=l.take 400:=by
  unfold minI;split
  ·exact⟨400,rfl,oM,rfl⟩
  ·exact⟨l.length,rfl,oM,by rw[Bw,List.take_of_length_le oM]⟩
 simp only[tZ,↓uU,simprocAttr,hm,qc1,qO6,hm2];refine⟨oM,.of [(0,some 8216)] [] rfl rfl ?_ ?_⟩
 ·simp only[tL,simprocAttr];exact zd ⟨rfl,rfl,rfl,rfl,trivial⟩ zk
 ·simp only[tL,simprocAttr]
theorem jS (l:List UInt8) (at_:Nat) (n:Int) (hl:l.length≤400) (ha:at_≤l.length) (hn:n≤1000000):Sp 47 [.ptr 0 1 0 0,vI n] [(0,oC l at_)] (vI (nx l at_ n).1) [(0,oC l (nx l at_ n).2)]:=by
 refine sIr qr5 fun e _ hst=>?_;unfold yC;simp only[tZ,↓uU,simprocAttr,DZ,FQ,AZ,Ay];refine⟨kR,fun h1=>?_,fun h1=>?_⟩
 ·have e:nx l at_ n=(0,at_):=by unfold nx;rw[Aj oM]
  rw[e];refine .of (U1 0) [] rfl rfl ?_ ?_
  ·simp only[tL,simprocAttr];exact zd ⟨rfl,rfl,rfl,rfl,trivial⟩ zk
  ·simp only[tL,simprocAttr]
 ·have h2:at_<l.length:=by omega
  have hw1:IntKind.i64.wrap ((at_:Int)+1)=((at_+1:Nat):Int):=by rw[AK _ oM];omega
  have hw2:IntKind.i64.wrap (((at_+1:Nat):Int)-1)=(at_:Int):=by rw[AK _ oM];omega
  simp only[tZ,↓uU,simprocAttr,hw1,hw2,Ax,zf3 h2];refine⟨oM,kR,kR,fun h3=>?_,fun h3=>?_⟩
  ·simp only[Bq,AZ] at h3;have h4:at_+1<l.length:=by omega
   have hb:=zF4 (l.getD at_ 0);have hb2:=zF4 (l.getD (at_+1) 0);have e:nx l at_ n=(((l.getD at_ 0).toNat*256+(l.getD (at_+1) 0).toNat) % n,at_+2):=by
    unfold nx;rw[Aq oM,Aj oM]
   have hw3:IntKind.i64.wrap (((at_+1:Nat):Int)+1)=((at_+2:Nat):Int):=by rw[AK _ oM];omega
   have hv1:IntKind.i64.wrap ((l.getD at_ 0).toNat:Int)=(l.getD at_ 0).toNat:=AK _ oM;have hv2:IntKind.i64.wrap ((l.getD (at_+1) 0).toNat:Int)=(l.getD (at_+1) 0).toNat:=AK _ oM;have hv3:IntKind.i64.wrap (((l.getD at_ 0).toNat:Int)*256)=(l.getD at_ 0).toNat*256:=AK _ oM;have hv4:IntKind.i64.wrap (((l.getD at_ 0).toNat:Int)*256+(l.getD (at_+1) 0).toNat)=(l.getD at_ 0).toNat*256+(l.getD (at_+1) 0).toNat:=AK _ oM;simp only[tZ,↓uU,simprocAttr,hw3,Ax,zf3 h4,hv1,hv2,hv3,hv4];rw[e,Int.tmod_eq_emod_of_nonneg oM];refine⟨oM,kR,oM,.of (U1 0) [] rfl rfl ?_ ?_⟩
   ·simp only[tL,simprocAttr];exact zd ⟨rfl,rfl,rfl,rfl,trivial⟩ zk
   ·simp only[tL,simprocAttr]
  ·have e:nx l at_ n=((l.getD at_ 0).toNat % n,at_+1):=by
    unfold nx;rw[Aq oM,Aq];simp only[FK,Ay] at h3;omega
   have hb:=zF4 (l.getD at_ 0);rw[e,AK _ oM,Int.tmod_eq_emod_of_nonneg oM];refine⟨oM,.of (U1 0) [] rfl rfl ?_ ?_⟩
   ·simp only[tL,simprocAttr];exact zd ⟨rfl,rfl,rfl,rfl,trivial⟩ zk
   ·simp only[tL,simprocAttr]
theorem jD (l:List UInt8) (at_:Nat) (lo hi:Int) (hl:l.length≤400) (ha:at_≤l.length) (hlo : -1000000≤lo∧lo≤1000000) (hhi:lo≤hi∧hi≤lo+100000) :
 Sp 54 [.ptr 0 1 0 0,vI lo,vI hi] [(0,oC l at_)] (vI (lo+(nx l at_ (hi-lo+1)).1)) [(0,oC l (nx l at_ (hi-lo+1)).2)]:=by
 refine sIr qm2 fun e _ hst=>?_;unfold wR;have hw1:IntKind.i64.wrap (hi-lo)=hi-lo:=AK _ oM;have hw2:IntKind.i64.wrap (hi-lo+1)=hi-lo+1:=AK _ oM;simp only[tZ,↓uU,simprocAttr,hw1,hw2];refine C1.draw 0 l at_ _ (jS l at_ (hi-lo+1) hl ha oM) rfl rfl rfl ?_;have hr:=QL l at_ (hi-lo+1) oM;have hw3:IntKind.i64.wrap (lo+(nx l at_ (hi-lo+1)).1)=lo+(nx l at_ (hi-lo+1)).1:=AK _ oM;simp only[tZ,↓uU,simprocAttr,hw3];refine .of (U1 0) [] rfl rfl ?_ ?_
 ·simp only[tL,simprocAttr];exact zd ⟨rfl,rfl,rfl,rfl,trivial⟩ zk
 ·simp only[tL,simprocAttr]
structure Cod where
 name:ByteArray
 par:Int
structure CodL where
 name:ByteArray
 codes:List Cod
structure Col where
 name:ByteArray
 kind:Int
 list:Int
 low:Int
 high:Int
 widths:List Int
 opt:Bool
structure Sch where
 lists:List CodL
 cols:List Col
structure Pk where
 col:Int
 lev:Int
inductive Cnd where
 | mk (op col code lo hi:Int) (kids:List Cnd)
structure Qst where
 name:ByteArray
 kind:Int
 filt:Cnd
 dims:List Pk
 meas:Int
 terms:List Int
 event:Cnd
structure Smp where
 part:Int
 of:Int
 seed:Int
structure Dcl where
 proj:ByteArray
 src:ByteArray
 coh:Cnd
 smp:Smp
 qs:List Qst
structure Src where
 sch:Sch
 rows:List (List Int)
 gone:List Int
 ver:Int
structure Edt where
 kind:Int
 row:List Int
 id:Int
structure Ext where
 proj:ByteArray
 ver:Int
 picks:List Pk
 rows:List (List Int)
structure Chg where
 ver:Int
 gone:List Int
 rows:List (List Int)
namespace Cnd
def op:Cnd→Int | .mk a _ _ _ _ _=>a
def col:Cnd→Int | .mk _ a _ _ _ _=>a
def code:Cnd→Int | .mk _ _ a _ _ _=>a
def lo:Cnd→Int | .mk _ _ _ a _ _=>a
def hi:Cnd→Int | .mk _ _ _ _ a _=>a
def kids:Cnd→List Cnd | .mk _ _ _ _ _ a=>a
end Cnd
abbrev cnd0:Cnd:=.mk 0 0 0 0 0 []
instance:Inhabited Cod:=⟨⟨⟨#[]⟩,0⟩⟩
instance:Inhabited CodL:=⟨⟨⟨#[]⟩,[]⟩⟩
instance:Inhabited Col:=⟨⟨⟨#[]⟩,0,0,0,0,[],false⟩⟩
instance:Inhabited Sch:=⟨⟨[],[]⟩⟩
instance:Inhabited Pk:=⟨⟨0,0⟩⟩
instance:Inhabited Cnd:=⟨cnd0⟩
instance:Inhabited Qst:=⟨⟨⟨#[]⟩,0,cnd0,[],0,[],cnd0⟩⟩
instance:Inhabited Edt:=⟨⟨0,[],0⟩⟩
abbrev codT (c:Cod):T:=.agg [vS c.name,vI c.par]
abbrev cdlT (l:CodL):T:=.agg [vS l.name,.sl 2 (l.codes.map codT)]
abbrev colT (c:Col):T:=.agg [vS c.name,vI c.kind,vI c.list,vI c.low,vI c.high,vIs c.widths,vB c.opt]
abbrev schT (s:Sch):T:=.agg [.sl 2 (s.lists.map cdlT),.sl 7 (s.cols.map colT)]
abbrev pkT (p:Pk):T:=.agg [vI p.col,vI p.lev]
abbrev vPs (l:List Pk):T:=.sl 2 (l.map pkT)
mutual
def cndT:Cnd→T
 | .mk op col code lo hi kids=>.agg [vI op,vI col,vI code,vI lo,vI hi,.sl 6 (jp0 kids)]
def jp0:List Cnd→List T
 | []=>[]
 | c::r=>cndT c::jp0 r
end
theorem zz9:∀ l:List Cnd,jp0 l=l.map cndT
 | []=>by simp [jp0]
 | c::r=>by simp [jp0,zz9 r]
theorem zh (c:Cnd):cndT c = .agg [vI c.op,vI c.col,vI c.code,vI c.lo,vI c.hi,.sl 6 (c.kids.map cndT)]:=by
 cases c;simp only[cndT,zz9,Cnd.op,Cnd.col,Cnd.code,Cnd.lo,Cnd.hi,Cnd.kids]
abbrev vCs (l:List Cnd):T:=.sl 6 (l.map cndT)
abbrev qstT (q:Qst):T:=.agg [vS q.name,vI q.kind,vI q.filt.op,vI q.filt.col,vI q.filt.code,vI q.filt.lo,vI q.filt.hi,vCs q.filt.kids,vPs q.dims,vI q.meas,vIs q.terms,vI q.event.op,vI q.event.col,vI q.event.code,vI q.event.lo,vI q.event.hi,vCs q.event.kids]
abbrev dclT (d:Dcl):T:=.agg [vS d.proj,vS d.src,vI d.coh.op,vI d.coh.col,vI d.coh.code,vI d.coh.lo,vI d.coh.hi,vCs d.coh.kids,vI d.smp.part,vI d.smp.of,vI d.smp.seed,.sl 17 (d.qs.map qstT)]
theorem cQ:type_of% (Az @Cnd.op.eq_1 (Az @Cnd.col.eq_1 (Az @Cnd.code.eq_1 (Az @Cnd.lo.eq_1 (Az @Cnd.hi.eq_1 @Cnd.kids.eq_1))))):=Az @Cnd.op.eq_1 (Az @Cnd.col.eq_1 (Az @Cnd.code.eq_1 (Az @Cnd.lo.eq_1 (Az @Cnd.hi.eq_1 @Cnd.kids.eq_1))))
def qS3 (c:UInt8):Bool:=(decide ((c.toNat:Int)<97)||decide ((c.toNat:Int)>122))&&(decide ((c.toNat:Int)<48)||decide ((c.toNat:Int)>57))&&!((c.toNat:Int)==95)
def zH9 (s:ByteArray):Bool:=decide ((s.size:Int)<1)||decide ((s.size:Int)>16)||decide (((s.data.toList.getD 0 0).toNat:Int)<97)||decide (((s.data.toList.getD 0 0).toNat:Int)>122)
def resW:List (List UInt8):=[[97,108,108],[97,110,100],[101,118,101,110,116],[102,114,111,109],[109,105,115,115,105,110,103],[110,111,116],[111,110],[111,114],[116,111],[117,110,100,101,114],[119,104,101,114,101]]
def jE (s:ByteArray):Bool:=!zH9 s&&!(s.data.toList.any qS3)&&!(resW.contains s.toList)
theorem yh (s:ByteArray):Sp 103 [vS s] [] (vB (jE s)) []:=by
 have hsl:s.size=s.data.toList.length:=by rw[Array.length_toList];rfl
 refine sIr zl1 fun e _ hst=>?_;unfold WY;refine sW ?_;refine⟨fun h=>?_,fun h=>?_,fun h=>?_,fun h=>?_⟩
 ·simp at h;omega
 ·simp at h;omega
 ·have:jE s=false:=by unfold jE zH9;rw[h];rfl
  rw[this];exact .oA [] []
 have hd:zH9 s=false:=h;have hs16:s.data.toList.length≤16:=by
  unfold zH9 at hd;simp only[FQ,Ay] at hd;omega
 refine qt mixm (α:=Nat) [3] (fun i=>i≤s.data.toList.length∧((s.data.toList.take i).any qS3=false)) (fun i=>[(3,vI i)]) (fun i=>[]) (fun i=>s.data.toList.length-i) 0 ⟨oM,?_⟩ ?_ fun i hi=>?_
 ·rfl
 ·exact .oA [] []
 refine sD ?_;refine⟨fun h5=>?_,fun h5=>?_⟩
 ·have hi2:i<s.data.toList.length:=by omega
  have hwi:=qh (i:=i) oM;simp only[tZ,↓uU,simprocAttr,Ax,hwi,Qm];have hg:s.data.toList.getD i 0=s.data.toList[i]:=qj hi2;simp only[hg];refine⟨oM,?_⟩
  repeat (refine⟨fun _=>by omega,?_⟩)
  refine⟨fun h6=>?_,fun h6=>?_⟩
  ·have hb:qS3 s.data.toList[i]=true:=by
    simp only[Ak] at h6;generalize s.data.toList[i]=c at h6 ⊢
    unfold qS3;simp;omega
   have:jE s=false:=by
    unfold jE;rw[show s.data.toList.any qS3=true from DJ.2 ⟨_,AX hi2,hb⟩];simp
   rw[this];exact .oA [] []
  ·have hb:qS3 s.data.toList[i]=false:=by
    rw[← h6,Bool.eq_iff_iff];generalize s.data.toList[i]=c;unfold qS3;simp
    try omega
   refine⟨i+1,⟨oM,zS hi2 hi.2 hb⟩,oM,?_⟩;exact .oA [] []
 ·have h3:=hi.2;have:i=s.data.toList.length:=by omega
  rw[this,Bw] at h3;have hn:jE s=!(resW.contains s.toList):=by unfold jE;rw[hd,h3];rfl
  rw[hn];simp only[resW,List.contains_cons,List.contains_nil]
  repeat' (first | with_reducible apply Az | with_reducible intro _)
  all_goals first
   | (exfalso;simp_all;done)
   | (simp only[*,Bool.true_or,Bool.or_true,Bool.false_or,Bool.or_false,Bool.not_true,Bool.not_false];exact .imR rfl rfl)
abbrev cdAt (cs:List Cod) (i:Nat):Cod:=cs.getD i default
def parC (cs:List Cod) (i:Nat):Int:=(cdAt cs i).par
def depF (cs:List Cod):Nat→Nat→Nat
 | 0,_=>0
 | f+1,c=>if parC cs c<0 then 0 else depF cs f (parC cs c).toNat+1
def dep (cs:List Cod) (c:Nat):Nat:=depF cs (c+1) c
def qJ2 (cs:List Cod):Prop:=∀ i,i<cs.length→-1≤parC cs i∧parC cs i<i
theorem jp1 {cs:List Cod} (h:qJ2 cs):∀ (c f g:Nat),c<cs.length→c<f→c<g→depF cs f c=depF cs g c:=by
 intro c
 induction c using Nat.strongRecOn with
 | _ c ih=>
   intro f g hc hf hg;obtain⟨f,rfl⟩:∃ k,f=k+1:=⟨f-1,oM⟩;obtain⟨g,rfl⟩:∃ k,g=k+1:=⟨g-1,oM⟩;simp only[depF];have hp:=h c hc;split
   ·rfl
   ·rw[ih (parC cs c).toNat oM f g oM oM oM]
theorem qu4 {cs:List Cod} {c:Nat} (h:parC cs c<0):dep cs c=0:=by simp [dep,depF,h]
theorem qB6 {cs:List Cod} (h:qJ2 cs) {c:Nat} (hc:c<cs.length) (h0:0≤parC cs c):dep cs c=dep cs (parC cs c).toNat+1:=by
 have hp:=h c hc;unfold dep;rw[depF,Aq oM,jp1 h _ c ((parC cs c).toNat+1) oM oM oM]
theorem qE9 {cs:List Cod} (h:qJ2 cs):∀ c,c<cs.length→dep cs c≤c:=by
 intro c
 induction c using Nat.strongRecOn with
 | _ c ih=>
   intro hc;by_cases h0:parC cs c<0
   ·rw[qu4 h0];omega
   ·have hp:=h c hc;have:=ih (parC cs c).toNat oM oM;rw[qB6 h hc oM];omega
def qo2 (cs:List Cod) (c:Nat):Bool:=!(cs.any fun x=>x.par==(c:Int))
def eqB (a b:ByteArray):Bool:=a.toList==b.toList
def cdE (cs:List Cod) (i:Nat):Int:=
 if jE (cdAt cs i).name=false then 3
 else if ((cs.take i).any fun x=>eqB x.name (cdAt cs i).name)=true then 10
 else if (i=0∧parC cs i≠-1)∨(0<i∧(parC cs i<0∨parC cs i≥i)) then 6 else 0
def cdEs (cs:List Cod):Nat→Int
 | 0=>0
 | n+1=>if cdEs cs n≠0 then cdEs cs n else cdE cs n
def lvS (cs:List Cod) (o:Option Int) (i:Nat):Option Int:=match o with
 | none=>none
 | some v=>if qo2 cs i=true then (if v≥0∧(dep cs i:Int)≠v then none else some (dep cs i)) else some v
def lvs (cs:List Cod) (n:Nat):Option Int:=(List.range n).foldl (lvS cs) (some (-1))
def lstE (l:CodL):Int:=
 if jE l.name=false then 3 else if l.codes.length=0 then 5 else if l.codes.length>60 then 1
 else if cdEs l.codes l.codes.length≠0 then cdEs l.codes l.codes.length else match lvs l.codes l.codes.length with | none=>5 | some _=>0
theorem zg4 {cs:List Cod} {i:Nat} (h:cdEs cs i≠0):∀ n,i≤n→cdEs cs n=cdEs cs i:=by
 intro n hn
 induction n with
 | zero=>have:i=0:=by omega
         rw[this]
 | succ n ih=>
   by_cases e:i=n+1
   ·rw[e]
   ·have:=ih oM;rw[cdEs,this,Aj h]
theorem qu5 {cs:List Cod}:∀ {n:Nat},cdEs cs n=0→∀ i,i<n→cdE cs i=0
 | 0,_,i,h=>by omega
 | n+1,h,i,hi=>by
   rw[cdEs] at h;split at h
   ·rename_i h2;exact absurd h h2
   ·rename_i h2;by_cases e:i=n
    ·rw[e];exact h
    ·exact qu5 (AQ h2) i oM
theorem zm4 {cs:List Cod} {i:Nat} (h:cdE cs i=0) : -1≤parC cs i∧parC cs i<i∧(i=0→parC cs i = -1)∧(0<i→0≤parC cs i):=by
 unfold cdE at h;split at h
 ·cases h
 ·split at h
  ·cases h
  ·split at h
   ·cases h
   ·rename_i h1;omega
theorem zm {l:CodL} (h:lstE l=0):qJ2 l.codes∧0<l.codes.length∧l.codes.length≤60:=by
 unfold lstE at h;split at h
 ·cases h
 ·split at h
  ·cases h
  ·split at h
   ·cases h
   ·split at h
    ·rename_i h2;exact absurd h h2
    ·rename_i h1 h2 h3 h4;refine⟨fun i hi=>?_,oM,oM⟩;have:=zm4 (qu5 (AQ h4) i hi);exact⟨this.1,this.2.1⟩
def zy (l:CodL):Int:=if lstE l≠0 then -1 else (dep l.codes (l.codes.length-1):Int)+1
def lvlC (l:CodL) (c:Int):Int:=if lstE l≠0∨c<0∨c≥l.codes.length then -1 else dep l.codes c.toNat
def upF (cs:List Cod) (lev:Nat):Nat→Nat→Nat
 | 0,c=>c
 | f+1,c=>if lev<dep cs c then upF cs lev f (parC cs c).toNat else c
def upC (l:CodL) (c lev:Int):Int:=if lstE l≠0∨c<0∨c≥l.codes.length∨lev<0∨lev>dep l.codes c.toNat then -1 else upF l.codes lev.toNat (c.toNat+1) c.toNat
def atL (l:CodL) (lev:Int):List Int:=if lstE l≠0 then [] else List.map (fun i:Nat=>(i:Int)) ((List.range l.codes.length).filter fun i=>(dep l.codes i:Int)==lev)
def qe4 (l:CodL) (c above:Int):Bool:=decide (0≤lvlC l above)&&decide (lvlC l above≤lvlC l c)&&(upC l c (lvlC l above)==above)
def inB (n lo hi:Int):Bool:=decide (lo≤n)&&decide (n≤hi)
def wdOk (ws:List Int) (i:Nat):Bool:=if i=0 then ws.getD 0 0==1 else decide (ws.getD (i-1) 0<ws.getD i 0)&&decide (ws.getD i 0≤1000000)&&((ws.getD i 0).tmod (ws.getD (i-1) 0)==0)
def jz8 (ws:List Int):Bool:=(List.range ws.length).all (wdOk ws)
def measE (c:Col):Int:=
 if inB c.low (-1000000) 1000000=false∨inB c.high (-1000000) 1000000=false∨c.low>c.high then 2
 else if c.widths.length<1∨c.widths.length>4 then 1 else if jz8 c.widths=false then 2 else 0
abbrev qg (s:Sch) (i:Nat):Col:=s.cols.getD i default
def colE (s:Sch) (i:Nat):Int:=
 if jE (qg s i).name=false then 3
 else if ((s.cols.take i).any fun x=>eqB x.name (qg s i).name)=true then 10
 else if inB (qg s i).kind 1 3=false∨(0<i∧(qg s i).kind=1) then 4
 else if (qg s i).kind=2∧inB (qg s i).list 0 (s.lists.length-1)=false then 5
 else if (qg s i).kind=3∧measE (qg s i)≠0 then measE (qg s i)
 else if ((qg s i).kind≠2∧(qg s i).list≠0)∨((qg s i).kind≠3∧((qg s i).low≠0∨(qg s i).high≠0∨0<(qg s i).widths.length∨(qg s i).opt=true)) then 11 else 0
def yo (s:Sch):Nat→Int
 | 0=>0
 | n+1=>if yo s n≠0 then yo s n else if lstE (s.lists.getD n default)≠0 then lstE (s.lists.getD n default)
   else if ((s.lists.take n).any fun x=>eqB x.name (s.lists.getD n default).name)=true then 10 else 0
def Ws (s:Sch):Nat→Int
 | 0=>0
 | n+1=>if Ws s n≠0 then Ws s n else colE s n
def schE (s:Sch):Int:=
 if s.lists.length>6∨s.cols.length>8 then 1 else if yo s s.lists.length≠0 then yo s s.lists.length
 else if s.cols.length=0∨(qg s 0).kind≠1 then 7 else Ws s s.cols.length
abbrev qU (s:Sch) (i:Nat):CodL:=s.lists.getD (qg s i).list.toNat default
def zn:Int:=-1099511627776
def qT (s:Sch) (i:Nat) (v:Int):Bool:=
 if (qg s i).kind=1 then inB v 1 1048575
 else if (qg s i).kind=2 then inB v 0 ((qU s i).codes.length-1)&&(lvlC (qU s i) v==zy (qU s i)-1)
 else ((qg s i).opt&&(v==zn))||inB v (qg s i).low (qg s i).high
def rowE (s:Sch) (row:List Int):Int:=
 if schE s≠0 then schE s else if row.length≠s.cols.length then 9
 else if ((List.range row.length).all fun i=>qT s i (row.getD i 0))=false then 9 else 0
def finI (s:Sch) (c:Int):Int:=
 if schE s≠0∨c<1∨c≥s.cols.length then -1
 else if (qg s c.toNat).kind=2 then zy (qU s c.toNat)-1 else (qg s c.toNat).widths.length
def qJ (a b:Int):Int:=a.fdiv b
def qE (s:Sch) (c:Nat):List Int:=atL (qU s c) (zy (qU s c)-1)
def qK (c:Col) (lev:Int):Int:=c.widths.getD (c.widths.length-lev).toNat 0
def qk (s:Sch) (c lev v:Int):Int:=
 if inB lev 0 (finI s c)=false then -1
 else if (qg s c.toNat).kind=2 then (if qT s c.toNat v=false then -1 else upC (qU s c.toNat) v lev)
 else if v≠zn∧inB v (-1000000) 1000000=false then -1
 else if lev=0 then 0 else if v=zn then v else qJ v (qK (qg s c.toNat) lev)*qK (qg s c.toNat) lev
def eqPk (x y:Pk):Bool:=(x.col==y.col)&&(x.lev==y.lev)
def qF0 (a b:List Pk):Bool:=Wg eqPk a b
def dgt (n:Nat):UInt8:=UInt8.ofNat (48+n)
def topC:Cod:=⟨⟨#[116,111,112]⟩,-1⟩
def kidC (i:Nat):Cod:=⟨⟨#[107,dgt i]⟩,0⟩
def lefC (n i:Nat):Cod:=⟨⟨#[108,dgt n]⟩,1+i⟩
def qa2 (k:Nat):List Cod:=topC::(List.range k).map kidC
def addL (cs:List Cod) (i:Nat):List Cod:=cs++[lefC cs.length i]
def lefL:List Cod→Nat→List Nat→List Cod
 | cs,_,[]=>cs
 | cs,i,n::r=>lefL ((List.range n).foldl (fun cs _=>addL cs i) cs) (i+1) r
def allN:Nat→List (List Nat)
 | 0=>[[]]
 | n+1=>(allN n).flatMap fun l=>[1::l,2::l]
theorem zS8:∀ {n:Nat} {l:List Nat},l.length=n→(∀ x∈l,x=1∨x=2)→l∈allN n
 | 0,[],_,_=>by simp [allN]
 | n+1,x::l,h,hx=>by
   have h1:=zS8 (n:=n) (l:=l) (by simpa using h) fun y hy=>hx y (CQ _ hy);rw[allN,Ew];refine⟨l,h1,?_⟩;rcases hx x sMp with h | h <;> subst h <;> simp
 | 0,_::_,h,_=>by simp at h
 | n+1,[],h,_=>by simp at h
def zA0:ByteArray:=⟨#[111,110,101]⟩
def zA1:ByteArray:=⟨#[116,119,111]⟩
theorem jz9:([zA0,zA1].all fun nm=>[1,2,3].all fun k=>lstE ⟨nm,qa2 k⟩==0&&(allN k).all fun l=>lstE ⟨nm,lefL (qa2 k) 0 l⟩==0)=true:=by decide +kernel
structure DrL (nm:ByteArray) (l:CodL):Prop where
 nm:l.name=nm
 ok:lstE l=0
 len:2≤l.codes.length∧l.codes.length≤10
theorem jp2 {nm:ByteArray} (hn:nm=zA0∨nm=zA1) {k:Nat} (hk:1≤k∧k≤3):lstE ⟨nm,qa2 k⟩=0∧∀ l,l.length=k→(∀ x∈l,x=1∨x=2)→lstE ⟨nm,lefL (qa2 k) 0 l⟩=0:=by
 have h1:=Bk.1 jz9 nm (by rcases hn with h | h <;> subst h <;> simp);have hk3:k∈[1,2,3]:=by
  have:k=1∨k=2∨k=3:=by omega
  rcases this with h | h | h <;> subst h <;> simp
 have h2:=Bk.1 h1 k hk3;rw[Bq,Bk] at h2;exact⟨by simpa using h2.1,fun l hl hx=>by simpa using h2.2 l (zS8 hl hx)⟩
theorem zS9 {s:Sch}:∀ {n:Nat},(∀ i,i<n→colE s i=0)→Ws s n=0
 | 0,_=>rfl
 | n+1,h=>by
   rw[Ws,zS9 fun i hi=>h i oM,Aq sMp];exact h n oM
theorem jp3 {s:Sch} {i:Nat} (h1:jE (qg s i).name=true) (h2:((s.cols.take i).any fun x=>eqB x.name (qg s i).name)=false) (h3:(qg s i).kind=3) (h4:(qg s i).list=0) (h5:measE (qg s i)=0):colE s i=0:=by
 rw[colE,Aq (by rw[h1];simp),Aq (by rw[h2];simp),Aq (by rw[h3];simp [inB]),Aq (by rw[h3];simp),Aq (by rw[h5];simp),Aq (by rw[h3,h4];simp)]
theorem qS4 {s:Sch} {i:Nat} (h1:jE (qg s i).name=true) (h2:((s.cols.take i).any fun x=>eqB x.name (qg s i).name)=false) (h3:(qg s i).kind=2) (h4:inB (qg s i).list 0 (s.lists.length-1)=true)
 (h5:(qg s i).low=0∧(qg s i).high=0∧(qg s i).widths=[]∧(qg s i).opt=false):colE s i=0:=by
 rw[colE,Aq (by rw[h1];simp),Aq (by rw[h2];simp),Aq (by rw[h3];simp [inB]),Aq (by rw[h4];simp),Aq (by rw[h3];simp),Aq (by rw[h3,h5.1,h5.2.1,h5.2.2.1,h5.2.2.2];simp)]
theorem jp4 {s:Sch} (h1:jE (qg s 0).name=true) (h3:(qg s 0).kind=1) (h5:(qg s 0).list=0∧(qg s 0).low=0∧(qg s 0).high=0∧(qg s 0).widths=[]∧(qg s 0).opt=false):colE s 0=0:=by
 rw[colE,Aq (by rw[h1];simp),Aq sMp,Aq (by rw[h3];simp [inB]),Aq (by rw[h3];simp),Aq (by rw[h3];simp),Aq (by rw[h3,h5.1,h5.2.1,h5.2.2.1,h5.2.2.2.1,h5.2.2.2.2];simp)]
def whoC:Col:=⟨⟨#[119,104,111]⟩,1,0,0,0,[],false⟩
def sexC:Col:=⟨⟨#[115,101,120]⟩,2,0,0,0,[],false⟩
def jobC:Col:=⟨⟨#[106,111,98]⟩,2,1,0,0,[],false⟩
def wTab:List (List Int):=[[1],[1,5],[1,5,20],[1,2,4,12]]
structure DrM (n:Nat) (c:Col):Prop where
 nm:c.name=⟨#[109,dgt n]⟩
 kind:c.kind=3
 list:c.list=0
 low : -4≤c.low∧c.low≤2
 high:c.low≤c.high∧c.high≤c.low+44
 wid:c.widths∈wTab
theorem DrM.measE {n:Nat} {c:Col} (h:DrM n c):measE c=0:=by
 have hl:=h.low;have hh:=h.high;have hw:=h.wid;have h1:inB c.low (-1000000) 1000000=true:=by simp only[inB,Bq,AZ];omega
 have h2:inB c.high (-1000000) 1000000=true:=by simp only[inB,Bq,AZ];omega
 have h3:1≤c.widths.length∧c.widths.length≤4∧jz8 c.widths=true:=by
  simp only[wTab,Ck,List.not_mem_nil,or_false] at hw;rcases hw with hw | hw | hw | hw <;> rw[hw] <;> decide
 rw[_root_.Go.Proofs.measE,Aq (by rw[h1,h2];simp;omega),Aq oM,Aq (by rw[h3.2.2];simp)]
structure DrS (s:Sch):Prop where
 ls:∃ a b,s.lists=[a,b]∧DrL zA0 a∧DrL zA1 b
 cs:∃ ms,(s.cols=whoC::sexC::ms∧(∀ i (h:i<ms.length),DrM (2+i) ms[i])∨s.cols=whoC::sexC::jobC::ms∧∀ i (h:i<ms.length),DrM (3+i) ms[i])∧1≤ms.length∧ms.length≤3
theorem jX6:∀ n:Nat,n<10→jE ⟨#[109,dgt n]⟩=true:=by
 have:∀ n:Fin 10,jE ⟨#[109,dgt n.1]⟩=true:=by decide +kernel
 exact fun n h=>this ⟨n,h⟩
theorem jX7:∀ i j:Nat,i<10→j<10→i≠j→eqB ⟨#[109,dgt i]⟩ ⟨#[109,dgt j]⟩=false:=by
 have:∀ i j:Fin 10,i.1≠j.1→eqB ⟨#[109,dgt i.1]⟩ ⟨#[109,dgt j.1]⟩=false:=by decide +kernel
 exact fun i j hi hj h=>this ⟨i,hi⟩ ⟨j,hj⟩ h
theorem jU9:∀ j:Nat,j<10→eqB whoC.name ⟨#[109,dgt j]⟩=false∧eqB sexC.name ⟨#[109,dgt j]⟩=false∧eqB jobC.name ⟨#[109,dgt j]⟩=false:=by
 have:∀ j:Fin 10,eqB whoC.name ⟨#[109,dgt j.1]⟩=false∧eqB sexC.name ⟨#[109,dgt j.1]⟩=false∧eqB jobC.name ⟨#[109,dgt j.1]⟩=false:=by decide +kernel
 exact fun j hj=>this ⟨j,hj⟩
theorem jO3 {s:Sch} {a b:CodL} (h:s.lists=[a,b]) (ha:DrL zA0 a) (hb:DrL zA1 b):yo s s.lists.length=0:=by
 have e1:yo s 1=0:=by
  rw[yo,yo,Aq sMp,h];show (if lstE a≠0 then lstE a else _)=0;rw[Aq (by rw[ha.ok];simp)]
  rfl
 rw[h];show yo s 2=0;rw[yo,e1,Aq sMp,h];show (if lstE b≠0 then lstE b else if ([a].any fun x=>eqB x.name b.name)=true then (10:Int) else 0)=0;rw[Aq (by rw[hb.ok];simp),Aq];simp only[List.any_cons,List.any_nil,Bool.or_false,ha.nm,hb.nm];rw[show eqB zA0 zA1=false by decide +kernel];simp
theorem qu6:jE whoC.name=true∧jE sexC.name=true∧jE jobC.name=true∧eqB whoC.name sexC.name=false∧eqB whoC.name jobC.name=false∧eqB sexC.name jobC.name=false∧eqB zA0 zA1=false:=by decide +kernel
theorem jO4 {s:Sch} {pre ms:List Col} (hl:s.lists.length=2) (hc:s.cols=pre++ms) (hp:pre=[whoC,sexC]∨pre=[whoC,sexC,jobC]) (hm:∀ i (h:i<ms.length),DrM (pre.length+i) ms[i]) (hn:ms.length≤3):Ws s s.cols.length=0:=by
 refine zS9 fun i hi=>?_;by_cases h:i<pre.length
 ·have ha:qg s i=pre[i]:=by
   rw[qg,hc,CY,BK h,CK h];rfl
  have ht:s.cols.take i=pre.take i:=by rw[hc,List.take_append_of_le_length oM]
  rcases hp with hp | hp
  ·subst hp;have h2:i=0∨i=1:=by simp at h;omega
   rcases h2 with h2 | h2 <;> subst h2
   ·exact jp4 (by rw[ha];exact qu6.1) (by rw[ha];rfl) (by rw[ha];exact⟨rfl,rfl,rfl,rfl,rfl⟩)
   ·exact qS4 (by rw[ha];exact qu6.2.1) (by rw[ha,ht];show (eqB whoC.name sexC.name||false)=false;rw[qu6.2.2.2.1];rfl) (by rw[ha];rfl) (by rw[ha,hl];rfl) (by rw[ha];exact⟨rfl,rfl,rfl,rfl⟩)
  ·subst hp;have h2:i=0∨i=1∨i=2:=by simp at h;omega
   rcases h2 with h2 | h2 | h2 <;> subst h2
   ·exact jp4 (by rw[ha];exact qu6.1) (by rw[ha];rfl) (by rw[ha];exact⟨rfl,rfl,rfl,rfl,rfl⟩)
   ·exact qS4 (by rw[ha];exact qu6.2.1) (by rw[ha,ht];show (eqB whoC.name sexC.name||false)=false;rw[qu6.2.2.2.1];rfl) (by rw[ha];rfl) (by rw[ha,hl];rfl) (by rw[ha];exact⟨rfl,rfl,rfl,rfl⟩)
   ·exact qS4 (by rw[ha];exact qu6.2.2.1) (by rw[ha,ht];show (eqB whoC.name jobC.name||(eqB sexC.name jobC.name||false))=false;rw[qu6.2.2.2.2.1,qu6.2.2.2.2.2.1];rfl) (by rw[ha];rfl) (by rw[ha,hl];rfl) (by rw[ha];exact⟨rfl,rfl,rfl,rfl⟩)
 ·have hi2:i-pre.length<ms.length:=by rw[hc,AW] at hi;omega
  have hpl:pre.length≤3:=by rcases hp with hp | hp <;> subst hp <;> simp
  have ha:qg s i=ms[i-pre.length]:=by
   rw[qg,hc,CY,BJ oM,CK hi2];rfl
  have d:=hm _ hi2;rw[show pre.length+(i-pre.length)=i by omega] at d;refine jp3 (by rw[ha,d.nm];exact jX6 i oM) ?_ (by rw[ha];exact d.kind) (by rw[ha];exact d.list) (by rw[ha];exact d.measE);rw[ha,d.nm,hc,List.any_eq_false];intro x hx;rw[List.take_append] at hx;rcases Dz.1 hx with hx | hx
  ·have hx:=EQ hx;have hf:=jU9 i oM;have:x=whoC∨x=sexC∨x=jobC:=by
    rcases hp with hp | hp <;> subst hp <;> simp at hx <;> rcases hx with h | h | h <;> simp [h]
   rcases this with h | h | h <;> subst h <;> simp [hf.1,hf.2.1,hf.2.2]
  ·obtain⟨j,hj,rfl⟩:=List.mem_take_iff_getElem.1 hx;have dj:=hm j oM;rw[dj.nm,jX7 (pre.length+j) i oM oM oM];simp
theorem DrS.ok {s:Sch} (h:DrS s):schE s=0:=by
 obtain⟨a,b,hl,ha,hb⟩:=h.ls;obtain⟨ms,hc,hm1,hm3⟩:=h.cs;have h2:s.lists.length=2:=by rw[hl];rfl
 have key:∀ pre:List Col,(pre=[whoC,sexC]∨pre=[whoC,sexC,jobC])→s.cols=pre++ms→(∀ i (h:i<ms.length),DrM (pre.length+i) ms[i])→schE s=0:=by
  intro pre hp hc hd;have hpl:2≤pre.length∧pre.length≤3:=by rcases hp with hp | hp <;> subst hp <;> simp
  have h0:(qg s 0).kind=1:=by
   rw[qg,hc];rcases hp with hp | hp <;> subst hp <;> rfl
  rw[schE,Aq (by rw[h2,hc,AW];omega),Aq (by rw[jO3 hl ha hb];simp),Aq (by rw[hc,AW];omega)];exact jO4 h2 hc hp hd hm3
 rcases hc with⟨hc,hd⟩ | ⟨hc,hd⟩
 ·exact key [whoC,sexC] (.inl rfl) hc hd
 ·exact key [whoC,sexC,jobC] (.inr rfl) hc hd
theorem jp5 {l:CodL} (h:lstE l=0) {lev v:Int}:v∈atL l lev↔∃ i:Nat,i<l.codes.length∧(dep l.codes i:Int)=lev∧v=(i:Int):=by
 rw[atL,Aq (by rw[h];simp)];simp only[Cj,Fx,Dk,AY];constructor
 ·rintro ⟨i,⟨h1,h2⟩,rfl⟩;exact⟨i,h1,h2,rfl⟩
 ·rintro ⟨i,h1,h2,rfl⟩;exact⟨i,⟨h1,h2⟩,rfl⟩
theorem zT0 {l:CodL} (h:lstE l=0):zy l-1=(dep l.codes (l.codes.length-1):Int):=by
 rw[zy,Aq (by rw[h];simp)];omega
theorem Wt {s:Sch} {i:Nat} (hk:(qg s i).kind=2) (hl:lstE (qU s i)=0) {v:Int} (hv:v∈qE s i):qT s i v=true:=by
 obtain⟨j,h1,h2,rfl⟩:=(jp5 hl).1 hv;rw[qT,Aq (by rw[hk];decide),Aj hk,Bq];refine⟨by simp only[inB,Bq,AZ];omega,?_⟩;rw[AY,lvlC,Aq (by rw[hl];omega),Ax,h2]
theorem zA2 {s:Sch}:∀ {n:Nat},Ws s n=0→∀ i,i<n→colE s i=0
 | 0,_,i,h=>by omega
 | n+1,h,i,hi=>by
   rw[Ws] at h;split at h
   ·rename_i h2;exact absurd h h2
   ·rename_i h2;by_cases e:i=n
    ·rw[e];exact h
    ·exact zA2 (AQ h2) i oM
theorem zA3 {s:Sch}:∀ {n:Nat},yo s n=0→∀ i,i<n→lstE (s.lists.getD i default)=0
 | 0,_,i,h=>by omega
 | n+1,h,i,hi=>by
   rw[yo] at h;split at h
   ·rename_i h2;exact absurd h h2
   ·rename_i h2;split at h
    ·rename_i h3;exact absurd h h3
    ·rename_i h3;by_cases e:i=n
     ·rw[e];exact AQ h3
     ·exact zA3 (AQ h2) i oM
structure SchOk (s:Sch):Prop where
 nl:s.lists.length≤6
 nc:1≤s.cols.length∧s.cols.length≤8
 ls:∀ i,i<s.lists.length→lstE (s.lists.getD i default)=0
 c0:(qg s 0).kind=1
 cs:∀ i,i<s.cols.length→colE s i=0
theorem qV {s:Sch} (h:schE s=0):SchOk s:=by
 unfold schE at h;split at h
 ·cases h
 ·split at h
  ·rename_i h2;exact absurd h h2
  ·split at h
   ·cases h
   ·rename_i h1 h2 h3;refine⟨oM,oM,zA3 (AQ h2),?_,zA2 h⟩;exact AQ fun e=>h3 (.inr e)
theorem zj {s:Sch} {i:Nat} (h:colE s i=0):1≤(qg s i).kind∧(qg s i).kind≤3∧(0<i→(qg s i).kind≠1)∧((qg s i).kind=2→0≤(qg s i).list∧(qg s i).list<s.lists.length)∧((qg s i).kind=3→measE (qg s i)=0):=by
 unfold colE at h;split at h
 ·cases h
 ·split at h
  ·cases h
  ·split at h
   ·cases h
   ·split at h
    ·cases h
    ·rename_i h1 h2 h3 h4;have hk:inB (qg s i).kind 1 3=true:=by
      cases e:inB (qg s i).kind 1 3 with
      | true=>rfl
      | false=>exact absurd (.inl e) h3
     simp only[inB,Bq,AZ] at hk;refine⟨hk.1,hk.2,fun h0 e=>h3 (.inr ⟨h0,e⟩),fun e=>?_,fun e=>?_⟩
     ·have:inB (qg s i).list 0 (s.lists.length-1)=true:=by
       cases e2:inB (qg s i).list 0 (s.lists.length-1) with
       | true=>rfl
       | false=>exact absurd ⟨e,e2⟩ h4
      simp only[inB,Bq,AZ] at this;omega
     ·split at h
      ·rename_i h5;exact absurd h h5.2
      ·rename_i h5;exact AQ fun e2=>h5 ⟨e,e2⟩
theorem SchOk.cdl {s:Sch} (h:SchOk s) {i:Nat} (hi:i<s.cols.length) (hk:(qg s i).kind=2):(qg s i).list.toNat<s.lists.length∧lstE (qU s i)=0:=by
 have h1:=(zj (h.cs i hi)).2.2.2.1 hk;exact⟨oM,h.ls _ oM⟩
theorem wh (l:CodL) (c:Nat) (hp:qJ2 l.codes) (hc:c<l.codes.length) (hl:l.codes.length≤1000):Sp 145 [cdlT l,vI c] [] (vI (dep l.codes c)) []:=by
 refine sIr qZ8 fun e _ hst=>?_;unfold KG;refine sW ?_;refine qt mixm (α:=Nat×Nat) [1,5] (fun x=>x.1<l.codes.length∧dep l.codes c=x.2+dep l.codes x.1∧x.2+x.1≤1000) (fun x=>[(1,vI x.1),(5,vI x.2)]) (fun x=>[aR 4096 2 [cdlT l]]) (fun x=>x.1) (c,0) ⟨hc,sMp,by simp;omega⟩ ?_ fun x hx=>?_
 ·exact .oA (U1 4096) []
 obtain⟨k,n⟩:=x;obtain⟨h1,h2,h3⟩:=hx;dsimp only at h1 h2 h3;have hpk:=hp k h1;have hcd:l.codes[k].par=parC l.codes k:=by rw[parC,cdAt,qj h1]
 have hwn:=qh (i:=n) oM;simp only[tZ,↓uU,simprocAttr,Ax,qd h1,hcd,tD,hwn];refine⟨oM,fun h4=>?_,fun h4=>?_⟩
 ·obtain⟨p,hpe⟩:=AJ h4;rw[qB6 hp h1 oM,hpe,Ax] at h2;rw[hpe] at hpk ⊢
  refine⟨oM,(p,n+1),⟨by dsimp only;omega,by dsimp only;omega,by dsimp only;omega⟩,by dsimp only;omega,?_⟩;exact .oA (U1 4096) []
 ·rw[qu4 (c:=k) oM,Nat.add_zero] at h2;rw[h2];exact .oA [] []
def zY4 (l:CodL) (c:Int):Bool:=!(l.codes.any fun x=>x.par==c)
theorem zA4 (l:CodL) (c:Int) (hl:l.codes.length≤1000):Sp 202 [cdlT l,vI c] [] (vB (zY4 l c)) []:=by
 refine sIr zl9 fun e _ hst=>?_;unfold Yg;refine sW ?_;refine qt mixm (α:=Nat) [5] (fun i=>i≤l.codes.length∧(l.codes.take i).any (fun x=>x.par==c)=false) (fun i=>[(5,vI i)]) (fun i=>[aR 4096 2 [cdlT l]]) (fun i=>l.codes.length-i) 0 ⟨oM,rfl⟩ ?_ fun i hi=>?_
 ·exact .oA (U1 4096) []
 obtain⟨h1,h2⟩:=hi;refine sD ?_;refine⟨fun h3=>?_,fun h3=>?_⟩
 ·have hi2:i<l.codes.length:=by omega
  have hwi:=qh (i:=i) oM;simp only[tZ,↓uU,simprocAttr,Ax,qd hi2,hwi];refine⟨oM,fun h4=>?_,fun h4=>?_⟩
  ·have:zY4 l c=false:=by
    unfold zY4;rw[DJ.2 ⟨_,AX hi2,h4⟩];rfl
   rw[this];exact .oA [] []
  ·refine⟨i+1,⟨oM,zS hi2 h2 h4⟩,oM,?_⟩;exact .oA (U1 4096) []
 ·have hil:i=l.codes.length:=by omega
  subst hil;rw[Bw] at h2;have:zY4 l c=true:=by unfold zY4;rw[h2];rfl
  rw[this];exact .oA [] []
theorem qK7 (cs:List Cod) (n:Nat):lvs cs (n+1)=lvS cs (lvs cs n) n:=by
 unfold lvs;rw[List.range_succ,Gq]
 rfl
theorem zT1 {cs:List Cod} {n:Nat} (h:lvs cs n=none):∀ m,n≤m→lvs cs m=none:=by
 intro m hm
 induction m with
 | zero=>have:n=0:=by omega
         rw[← this];exact h
 | succ m ih=>
   by_cases e:n=m+1
   ·rw[← e];exact h
   ·rw[qK7,ih oM];rfl
theorem jJ4 {cs:List Cod} (h:cdEs cs cs.length=0):qJ2 cs:=fun i hi=>by
 have:=zm4 (qu5 h i hi);exact⟨this.1,this.2.1⟩
theorem yT (l:CodL) (hl:l.codes.length<4611686018427387904):Sp 144 [cdlT l] [] (vI (lstE l)) []:=by
 refine sIr qZ6 fun e _ hst=>?_;unfold KE;refine sW ?_;refine C1.im (yh l.name) rF rF ?_;simp only[tZ,↓uU,simprocAttr,Bx,Bz];refine⟨fun h=>?_,fun h1=>?_⟩
 ·rw[lstE,Aj h];exact .oA [] []
 simp only[tZ,↓uU,simprocAttr,AY,Ak];refine⟨fun h=>?_,fun h2=>?_⟩
 ·rw[lstE,Aq (by rw[h1];simp),Aj oM];exact .oA [] []
 refine sD ?_;refine⟨fun h=>?_,fun h3=>?_⟩
 ·rw[lstE,Aq (by rw[h1];simp),Aq oM,Aj oM];exact .oA [] []
 have hE1:cdEs l.codes l.codes.length≠0→lstE l=cdEs l.codes l.codes.length:=fun h=>by
  rw[lstE,Aq (by rw[h1];simp),Aq oM,Aq oM,Aj h]
 have hE2:cdEs l.codes l.codes.length=0→lvs l.codes l.codes.length=none→lstE l=5:=fun h k=>by
  rw[lstE,Aq (by rw[h1];simp),Aq oM,Aq oM,Aq (by rw[h];simp),k]
 have hE3:∀ v,cdEs l.codes l.codes.length=0→lvs l.codes l.codes.length=some v→lstE l=0:=fun v h k=>by
  rw[lstE,Aq (by rw[h1];simp),Aq oM,Aq oM,Aq (by rw[h];simp),k]
 refine qt mixm (α:=Nat) [3] (fun i=>i≤l.codes.length∧cdEs l.codes i=0) (fun i=>[(3,vI i)]) (fun i=>[aR 4096 2 [cdlT l]]) (fun i=>l.codes.length-i) 0 ⟨oM,rfl⟩ ?_ fun i hi=>?_
 ·exact .oA (U1 4096) []
 obtain⟨i1,i2⟩:=hi;refine sD ?_;refine⟨fun h4=>?_,fun h4=>?_⟩
 ·have hi2:i<l.codes.length:=by omega
  have hwi:=qh (i:=i) oM;have hat:cdAt l.codes i=l.codes[i]:=by rw[cdAt,qj hi2]
  have hs:cdEs l.codes (i+1)=cdE l.codes i:=by rw[cdEs,Aq (by rw[i2];simp)]
  have hbad:cdE l.codes i≠0→lstE l=cdE l.codes i:=fun hb=>by
   have:=zg4 (by rw[hs];exact hb) l.codes.length (show i+1≤l.codes.length by omega);rw[hE1 (by rw[this,hs];exact hb),this,hs]
  simp only[tZ,↓uU,simprocAttr,Ax,qd hi2];refine⟨oM,?_⟩;refine C1.im (yh l.codes[i].name) rF rF ?_;simp only[tZ,↓uU,simprocAttr,Bx,Bz];refine⟨fun h5=>?_,fun h5=>?_⟩
  ·have hc:cdE l.codes i=3:=by rw[cdE,hat,Aj h5]
   rw[hbad (by rw[hc];decide),hc];exact .oA [] []
  refine qt mixm (α:=Nat) [4] (fun k=>k≤i∧(l.codes.take k).any (fun x=>eqB x.name l.codes[i].name)=false) (fun k=>[(4,vI k)]) (fun k=>[aR 4096 2 [cdlT l]]) (fun k=>i-k) 0 ⟨oM,rfl⟩ ?_ fun k hk=>?_
  ·exact .oA (U1 4096) []
  obtain⟨k1,k2⟩:=hk;refine sD ?_;refine⟨fun h6=>?_,fun h6=>?_⟩
  ·have hk2:k<l.codes.length:=by omega
   have hwk:=qh (i:=k) oM;simp only[tZ,↓uU,simprocAttr,Ax,qd hi2,qd hk2,hwk];refine⟨oM,oM,kR,fun h7=>?_,fun h7=>?_⟩
   ·have hc:cdE l.codes i=10:=by
     rw[cdE,hat,Aq (by rw[h5];simp),Aj (DJ.2 ⟨l.codes[k],List.mem_take_iff_getElem.2 ⟨k,oM,rfl⟩,h7⟩)]
    rw[hbad (by rw[hc];decide),hc];exact .oA [] []
   ·refine⟨k+1,⟨oM,zS hk2 k2 h7⟩,oM,?_⟩;exact .oA (U1 4096) []
  ·have hki:k=i:=by omega
   subst hki;have hpar:l.codes[k].par=parC l.codes k:=by rw[parC,hat]
   have hcE:cdE l.codes k=if (k=0∧parC l.codes k≠-1)∨(0<k∧(parC l.codes k<0∨parC l.codes k≥k)) then 6 else 0:=by
    rw[cdE,hat,Aq (by rw[h5];simp),Aq (by rw[k2];simp)]
   simp only[tZ,↓uU,simprocAttr,Ax,qd hi2,hpar,hwi,tD,AY,Ak,Bj,Aw];refine⟨oM,fun h7=>?_,fun h7=>?_⟩
   ·have hc:cdE l.codes k=6:=by rw[hcE,Aj oM]
    rw[hbad (by rw[hc];decide),hc];exact .oA [] []
   ·refine⟨k+1,⟨oM,by rw[hs,hcE,Aq oM]⟩,oM,?_⟩;exact .oA (U1 4096) []
 ·have hil:i=l.codes.length:=by omega
  subst hil;have hp:=jJ4 i2;refine qt mixm (α:=Nat×Int) [6,7] (fun x=>x.1≤l.codes.length∧lvs l.codes x.1=some x.2) (fun x=>[(6,vI x.2),(7,vI x.1)]) (fun x=>[aR 4096 2 [cdlT l]]) (fun x=>l.codes.length-x.1) (0,-1) ⟨sMp,rfl⟩ ?_ fun x hx=>?_
  ·exact .oA (U1 4096) []
  obtain⟨j,v⟩:=x;obtain⟨j1,j2⟩:=hx;dsimp only at j1 j2;refine sD ?_;refine⟨fun h5=>?_,fun h5=>?_⟩
  ·have hj2:j<l.codes.length:=by omega
   have hwj:=qh (i:=j) oM;have hs:=qK7 l.codes j;rw[j2,lvS] at hs;have hlf:=zA4 l (j:Int) oM;have hdp:=wh l j hp hj2 oM;rw[show zY4 l (j:Int)=qo2 l.codes j from rfl] at hlf;refine C1.im hlf rF rF ?_;simp only[tZ,↓uU,simprocAttr,hwj];refine⟨fun h6=>?_,fun h6=>?_⟩
   ·rw[Aj h6] at hs;refine C2.im (fun _=>hdp) (fun _=>rfl) rF ?_;simp only[tZ,↓uU,simprocAttr,tD,Bj,Aw];refine⟨fun h7=>?_,fun h7=>?_⟩
    ·rw[Aj oM] at hs;rw[hE2 i2 (zT1 hs _ oM)];exact .oA [] []
    ·rw[Aq oM] at hs;refine C1.im hdp rF rF ?_;simp only[tZ,↓uU,simprocAttr,hwj];refine⟨(j+1,(dep l.codes j:Int)),⟨by dsimp only;omega,hs⟩,by dsimp only;omega,?_⟩;exact .oA (U1 4096) []
   ·rw[Aq (by rw[h6];simp)] at hs;refine⟨(j+1,v),⟨by dsimp only;omega,hs⟩,by dsimp only;omega,?_⟩;exact .oA (U1 4096) []
  ·have hjl:j=l.codes.length:=by omega
   subst hjl;rw[hE3 v i2 j2];exact .oA [] []
theorem KT (l:CodL) (hl:l.codes.length<4611686018427387904):Sp 107 [cdlT l] [] (vI (zy l)) []:=by
 refine sIr qQ4 fun e _ hst=>?_;unfold Jk;refine sW ?_;refine C1.im (yT l hl) rF rF ?_;simp only[tZ,↓uU,simprocAttr,Bj,Aw];refine⟨fun h=>?_,fun h=>?_⟩
 ·rw[zy,Aj h];exact .oA [] []
 obtain⟨hp,h1,h2⟩:=zm h;have hw:=wJ (i:=l.codes.length) h1 oM;have hd:=qE9 hp (l.codes.length-1) oM;have hw2:=qh (i:=dep l.codes (l.codes.length-1)) oM;simp only[tZ,↓uU,simprocAttr,hw];refine C1.im (wh l (l.codes.length-1) hp oM oM) rF rF ?_;rw[zy,Aq (by rw[h];simp)];simp only[tZ,↓uU,simprocAttr,hw2];exact .oA [] []
theorem Yp (l:CodL) (c:Int) (hl:l.codes.length<4611686018427387904):Sp 143 [cdlT l,vI c] [] (vI (lvlC l c)) []:=by
 refine sIr qZ4 fun e _ hst=>?_;unfold KD;refine sW ?_;refine C1.im (yT l hl) rF rF ?_;simp only[tZ,↓uU,simprocAttr,tD,Bj,Aw];refine⟨fun h=>?_,fun h=>?_⟩
 ·rw[lvlC,Aj oM];exact .oA [] []
 obtain⟨hp,h1,h2⟩:=zm h.1.1;obtain⟨k,rfl⟩:=AJ (show 0≤c by omega);refine C1.im (wh l k hp oM oM) rF rF ?_;rw[lvlC,Aq oM,Ax];refine sW ?_;exact .oA [] []
def atN (cs:List Cod) (lev:Int) (n:Nat):List Int:=List.map (fun i:Nat=>(i:Int)) ((List.range n).filter fun i=>(dep cs i:Int)==lev)
theorem zT2 (cs:List Cod) (lev:Int) (n:Nat):atN cs lev (n+1)=atN cs lev n++(if (dep cs n:Int)=lev then [(n:Int)] else []):=by
 unfold atN;rw[List.range_succ,Gz,By]
 congr 1
 by_cases h:(dep cs n:Int)=lev <;> simp [h]
theorem jp6 (cs:List Cod) (lev:Int) (n:Nat):(atN cs lev n).length≤n:=by
 unfold atN;rw[BY];exact FX (Fq _ _) sMp
theorem zY5 (l:CodL) (lev:Int) (hl:l.codes.length<4611686018427387904):Sp 177 [cdlT l,vI lev] [] (vIs (atL l lev)) []:=by
 refine sIr zH4 fun e _ hst=>?_;unfold qn4;refine sW ?_;refine C1.im (yT l hl) rF rF ?_;simp only[tZ,↓uU,simprocAttr,Bj,Aw];refine⟨fun h=>?_,fun h=>?_⟩
 ·rw[atL,Aj h];exact .oA [] []
 obtain⟨hp,h1,h2⟩:=zm h;have e:atL l lev=atN l.codes lev l.codes.length:=by rw[atL,Aq (by rw[h];simp)];rfl
 rw[e];refine qt mixm (α:=Nat) [5,6] (fun i=>i≤l.codes.length) (fun i=>[(5,.asl 1 (atN l.codes lev i).length),(6,vI i)]) (fun i=>[aR 4096 2 [cdlT l],aR 1 1 ((atN l.codes lev i).map vI)]) (fun i=>l.codes.length-i) 0 oM ?_ fun i hi=>?_
 ·simp only[atN,List.range_zero,List.filter_nil,List.map_nil,Cw];exact .oA [uI 4096,(1,none)] []
 have hli:=jp6 l.codes lev i;refine sD ?_;refine⟨fun h3=>?_,fun h3=>?_⟩
 ·have hi2:i<l.codes.length:=by omega
  have hwi:=qh (i:=i) oM;have hs:=zT2 l.codes lev i;refine C1.im (wh l i hp hi2 oM) rF rF ?_;simp only[tZ,↓uU,simprocAttr,AY,Ak,hwi];refine⟨fun h4=>?_,fun h4=>?_⟩
  ·rw[Aj h4] at hs;refine⟨oM,i+1,oM,oM,?_⟩;rw[hs];exact .oA (U2 4096 1) []
  ·rw[Aq h4,CW] at hs;refine⟨i+1,oM,oM,?_⟩;rw[hs];exact .oA (U2 4096 1) []
 ·have hil:i=l.codes.length:=by omega
  subst hil;exact .oA [] [1]
open So
theorem jA0 {cs:List Cod} (h:qJ2 cs) (lev:Nat):∀ (c f g:Nat),c<cs.length→c<f→c<g→upF cs lev f c=upF cs lev g c:=by
 intro c
 induction c using Nat.strongRecOn with
 | _ c ih=>
   intro f g hc hf hg;obtain⟨f,rfl⟩:∃ k,f=k+1:=⟨f-1,oM⟩;obtain⟨g,rfl⟩:∃ k,g=k+1:=⟨g-1,oM⟩;simp only[upF];have hp:=h c hc;split
   ·rename_i h1;have h0:¬ parC cs c<0:=fun e=>by rw[qu4 e] at h1;omega
    rw[ih (parC cs c).toNat oM f g oM oM oM]
   ·rfl
theorem up_step {cs:List Cod} (h:qJ2 cs) {lev c:Nat} (hc:c<cs.length) (hl:lev<dep cs c):0≤parC cs c∧parC cs c<c∧dep cs c=dep cs (parC cs c).toNat+1∧upF cs lev (c+1) c=upF cs lev ((parC cs c).toNat+1) (parC cs c).toNat:=by
 have hp:=h c hc;have h0:¬ parC cs c<0:=fun e=>by rw[qu4 e] at hl;omega
 refine⟨oM,oM,qB6 h hc oM,?_⟩;rw[upF,Aj hl];exact jA0 h lev _ _ _ oM oM oM
theorem zT3 {cs:List Cod} {lev c:Nat} (hl:dep cs c≤lev) (f:Nat):upF cs lev f c=c:=by
 cases f with
 | zero=>rfl
 | succ f=>rw[upF,Aq oM]
theorem zc0 (l:CodL) (c:Int) (hp:qJ2 l.codes) (hc:0≤c∧c<l.codes.length) (hl:l.codes.length≤1000):Sp 145 [cdlT l,vI c] [] (vI (dep l.codes c.toNat)) []:=by
 obtain⟨k,rfl⟩:=AJ hc.1;rw[Ax];exact wh l k hp oM hl
theorem zg5 (l:CodL) (c lev:Int) (hl:l.codes.length<4611686018427387904):Sp 78 [cdlT l,vI c,vI lev] [] (vI (upC l c lev)) []:=by
 have hdp:(lstE l != 0||decide (c<0)||decide ((l.codes.length:Int)≤c)||decide (lev<0))=false→Sp 145 [cdlT l,vI c] [] (vI (dep l.codes c.toNat)) []:=fun hg=>by
  simp only[tD,Aw] at hg;obtain⟨hp,_,h2⟩:=zm hg.1.1.1;exact zc0 l c hp oM oM
 refine sIr zH0 fun e _ hst=>?_;unfold qm6;refine sW ?_;refine C1.im (yT l hl) rF rF ?_;refine sW ?_;refine C2.im hdp (fun _=>rfl) rF ?_;simp only[tZ,↓uU,simprocAttr,tD,Bj,Aw];refine⟨fun h=>?_,fun h=>?_⟩
 ·rw[upC,Aj oM];exact .oA [] []
 obtain⟨hp,h1,h2⟩:=zm h.1.1.1.1;obtain⟨k,rfl⟩:=AJ (show 0≤c by omega);obtain⟨v,rfl⟩:=AJ (show 0≤lev by omega);rw[upC,Aq oM,Ax,Ax];rw[Ax] at h;refine qt mixm (α:=Nat) [1,31] (fun x=>x<l.codes.length∧upF l.codes v (k+1) k=upF l.codes v (x+1) x) (fun x=>[(1,vI x)]) (fun x=>[aR 4096 2 [cdlT l]]) (fun x=>x) k ⟨oM,rfl⟩ ?_ fun x hx=>?_
 ·exact .oA (U1 4096) []
 obtain⟨x1,x2⟩:=hx;have hcd:l.codes[x].par=parC l.codes x:=by rw[parC,cdAt,qj x1]
 refine sW ?_;refine C1.im (wh l x hp x1 oM) rF rF ?_;refine sD ?_;refine⟨fun h3=>?_,fun h3=>?_⟩
 ·obtain⟨u1,u2,u3,u4⟩:=up_step hp (lev:=v) x1 oM;obtain⟨p,hpe⟩:=AJ u1;simp only[tZ,↓uU,simprocAttr,Ax,qd x1,hcd,hpe];rw[hpe,Ax] at u4;refine⟨oM,p,⟨oM,x2.trans u4⟩,oM,?_⟩;exact .oA (U1 4096) []
 ·rw[x2,zT3 oM];exact .oA [] []
theorem zm5 (l:CodL) (c a:Int) (hl:l.codes.length<4611686018427387904):Sp 149 [cdlT l,vI c,vI a] [] (vB (qe4 l c a)) []:=by
 refine sIr za3 fun e _ hst=>?_;unfold KI;refine sW ?_;refine C1.im (Yp l a hl) rF rF ?_;refine sW ?_;refine C2.im (fun _=>Yp l c hl) (fun _=>rfl) rF ?_;refine sW ?_;refine C2.im (fun _=>zg5 l c (lvlC l a) hl) (fun _=>rfl) rF ?_;refine sW ?_;rw[show (decide (0≤lvlC l a)&&decide (lvlC l a≤lvlC l c)&&(upC l c (lvlC l a)==a))=qe4 l c a from rfl];exact .oA [] []
theorem qS5 (l:List Int) (n:Int) (hl:l.length<4611686018427387904):Sp 45 [vIs l,vI n] [] (vB (l.contains n)) []:=by
 refine sIr zz4 fun e _ hst=>?_;unfold qc5;refine sW ?_;refine qt mixm (α:=Nat) [5] (fun i=>i≤l.length∧((l.take i).any (fun x=>x==n)=false)) (fun i=>[(5,vI i)]) (fun i=>[]) (fun i=>l.length-i) 0 ⟨oM,?_⟩ ?_ fun i hi=>?_
 ·rfl
 ·exact .oA [] []
 simp only[tZ,↓uU,simprocAttr,AZ,Ay];refine⟨fun h=>?_,fun h=>?_⟩
 ·have hi2:i<l.length:=by omega
  have hwi:=qh (i:=i) oM;simp only[tZ,↓uU,simprocAttr,Ax,qd hi2,hwi];refine⟨oM,fun h3=>?_,fun h3=>⟨i+1,⟨oM,zS hi2 hi.2 h3⟩,oM,?_⟩⟩
  ·rw[show l.contains n=true from FJ.2 ((AY.1 h3) ▸ AX hi2)];exact .oA [] []
  ·exact .oA [] []
 ·have hi2:i=l.length:=by omega
  subst hi2;have h3:=hi.2;rw[Bw] at h3;have:l.contains n=false:=by
   rw[← h3,Bool.eq_iff_iff,FJ,DJ];exact⟨fun h=>⟨n,h,sMp⟩,fun ⟨x,h,e⟩=>AY.1 e ▸ h⟩
  rw[this];exact .oA [] []
theorem jT (n lo hi:Int):Sp 76 [vI n,vI lo,vI hi] [] (vB (inB n lo hi)) []:=by
 refine sIr zG8 fun e _ hst=>?_;unfold qm5;refine sW ?_;rw[show (decide (lo≤n)&&decide (n≤hi))=inB n lo hi from rfl];exact .oA [] []
theorem zA5 {ws:List Int}:∀ {i:Nat},(∀ j,j<i→wdOk ws j=true)→∀ j,j<i→1≤ws.getD j 0
 | 0,_,j,h=>by omega
 | i+1,hw,j,h=>by
   have ih:=zA5 (ws:=ws) (i:=i) fun j hj=>hw j oM;have:=hw j h;unfold wdOk at this;split at this
   ·rename_i e;subst e;have:ws.getD 0 0=1:=by simpa using this
    omega
   ·simp only[Bq,AZ] at this;have:=ih (j-1) oM;omega
theorem qS6 (c:Col):Sp 236 [colT c] [] (vI (measE c)) []:=by
 refine sIr qI9 fun e _ hst=>?_;unfold Zu;refine sW ?_;refine C1.im (jT c.low (-1000000) 1000000) rF rF ?_;refine sW ?_;refine C2.im (fun _=>jT c.high (-1000000) 1000000) (fun _=>rfl) rF ?_;simp only[tZ,↓uU,simprocAttr,tD,Bx,Bz];refine⟨fun h=>?_,fun h=>?_⟩
 ·rw[measE,Aj (by grind)];exact .oA [] []
 ·refine⟨fun h2=>?_,fun h2=>?_⟩
  ·rw[measE,Aq (by grind),Aj (by grind)];exact .oA [] []
  ·have hm:measE c=if jz8 c.widths=false then 2 else 0:=by rw[measE,Aq (by grind),Aq (by grind)]
   refine qt mixm (α:=Nat) [3] (fun i=>i≤c.widths.length∧(∀ j,j<i→wdOk c.widths j=true)) (fun i=>[(3,vI i)]) (fun i=>[aR 4096 7 [colT c]]) (fun i=>c.widths.length-i) 0 ⟨oM,?_⟩ ?_ fun i hi=>?_
   ·intro j hj;omega
   ·exact .oA (U1 4096) []
   have hbad:i<c.widths.length→wdOk c.widths i=false→measE c=2:=fun h1 h2=>by
    rw[hm,Aj];exact List.all_eq_false.2 ⟨i,Dk.2 h1,by rw[h2];simp⟩
   have hok:wdOk c.widths i=true→∀ j,j<i+1→wdOk c.widths j=true:=fun h1 j hj=>by
    by_cases e:j=i
    ·rw[e];exact h1
    ·exact hi.2 j oM
   simp only[tZ,↓uU,simprocAttr,AZ,Ay];refine⟨fun h=>?_,fun h=>?_⟩
   ·rcases DQ i with h0 | h0
    ·subst h0;have hw0:wdOk c.widths 0=(c.widths.getD 0 0==1):=by rw[wdOk,Aj rfl]
     have hlen:0<c.widths.length:=by omega
     rw[qj hlen] at hw0;have hz:((0:Nat):Int)=0:=rfl;have hz2:(IntKind.i64.wrap (-1)).toNat=0:=by decide
     have hz3:=qh (i:=0) oM;rw[hz] at hz3;simp only[tZ,↓uU,simprocAttr,Ax,hz,beq_self_eq_true,gt_iff_lt,Int.lt_irrefl,Fj,hz2,qd hlen,hz3];refine⟨oM,fun h3=>?_,fun h3=>?_⟩
     ·rw[hbad hlen (by rw[hw0];simpa using h3)];exact .oA [] []
     ·refine⟨1,⟨oM,hok (by rw[hw0];simpa using h3)⟩,oM,?_⟩;exact .oA (U1 4096) []
    ·obtain⟨k,rfl⟩:∃ k,i=k+1:=⟨i-1,oM⟩;have hk2:k+1<c.widths.length:=by omega
     have hk3:k<c.widths.length:=by omega
     have e1:(((k+1:Nat):Int)==0)=false:=Ak.2 oM;have e2:decide (((k+1:Nat):Int)>0)=true:=Cx oM;have hw1:wdOk c.widths (k+1)=(decide (c.widths[k]<c.widths[k+1])&&decide (c.widths[k+1]≤1000000)&&(c.widths[k+1].tmod c.widths[k]==0)):=by
          rw[wdOk,Aq oM,Nat.add_sub_cancel,qj hk2,qj hk3]
     have hp1:=zA5 (ws:=c.widths) hi.2 k oM;rw[qj hk3] at hp1;have hws:=qh (i:=k+1) oM;have e3:=wJ (i:=k+1) oM oM;rw[Nat.add_sub_cancel] at e3;simp only[tZ,↓uU,simprocAttr,Ax,qd hk2,qd hk3,e1,e2,e3,hws];refine⟨oM,oM,fun _=>by omega,fun _=>by omega,fun h3=>?_,fun h3=>?_⟩
     ·rw[hbad hk2 (by rw[hw1];grind)];exact .oA [] []
     ·refine⟨k+2,⟨oM,hok (by rw[hw1];grind)⟩,oM,?_⟩;exact .oA (U1 4096) []
   ·have hi2:i=c.widths.length:=by omega
    subst hi2;rw[hm,Aq]
    ·exact .oA [] []
    ·rw[Ez];exact Bk.2 fun j hj=>hi.2 j (Dk.1 hj)
theorem zc1 (s:Sch) (i:Nat) (hi:i<s.cols.length) (hn:s.cols.length<4611686018427387904) (hl:s.lists.length<4611686018427387904):Sp 172 [schT s,vI i] [] (vI (colE s i)) []:=by
 have hat:qg s i=s.cols[i]:=by rw[qg,qj hi]
 have hE:colE s i=if jE s.cols[i].name=false then 3
  else if ((s.cols.take i).any fun x=>eqB x.name s.cols[i].name)=true then 10
  else if inB s.cols[i].kind 1 3=false∨(0<i∧s.cols[i].kind=1) then 4
  else if s.cols[i].kind=2∧inB s.cols[i].list 0 (s.lists.length-1)=false then 5
  else if s.cols[i].kind=3∧measE s.cols[i]≠0 then measE s.cols[i]
  else if (s.cols[i].kind≠2∧s.cols[i].list≠0)∨(s.cols[i].kind≠3∧(s.cols[i].low≠0∨s.cols[i].high≠0∨0<s.cols[i].widths.length∨s.cols[i].opt=true)) then 11 else 0:=by rw[colE,hat]
 rw[hE];refine sIr qR2 fun e _ hst=>?_;unfold Jq;simp only[tZ,↓uU,simprocAttr,Ax,qd hi];generalize s.cols[i]=c;refine⟨oM,?_⟩;refine C1.im (yh c.name) rF rF ?_;simp only[tZ,↓uU,simprocAttr,Bx,Bz];refine⟨fun h=>?_,fun h=>?_⟩
 ·rw[Aj h];exact .oA [] []
 rw[Aq (by rw[h];simp)];refine qt mixm (α:=Nat) [6] (fun k=>k≤i∧(s.cols.take k).any (fun x=>eqB x.name c.name)=false) (fun k=>[(6,vI k)]) (fun k=>[aR 4096 2 [schT s],aR 8212 7 [colT c]]) (fun k=>i-k) 0 ⟨oM,rfl⟩ ?_ fun k hk=>?_
 ·exact .oA (U2 4096 8212) []
 simp only[tZ,↓uU,simprocAttr,AZ,Ay];refine⟨fun h=>?_,fun h=>?_⟩
 ·have hk2:k<s.cols.length:=by omega
  have hwk:=qh (i:=k) oM;simp only[tZ,↓uU,simprocAttr,Ax,qd hk2,hwk];refine⟨oM,kR,fun h7=>?_,fun h7=>?_⟩
  ·rw[Aj (DJ.2 ⟨s.cols[k],List.mem_take_iff_getElem.2 ⟨k,oM,rfl⟩,h7⟩)];exact .oA [] []
  ·refine⟨k+1,⟨oM,zS hk2 hk.2 h7⟩,oM,?_⟩;exact .oA (U2 4096 8212) []
 ·have hki:k=i:=by omega
  subst hki;rw[Aq (by rw[hk.2];simp)];refine C1.im (jT c.kind 1 3) rF rF ?_;simp only[tZ,↓uU,simprocAttr,tD,Bx,Bz,AY,Ak];refine⟨fun h7=>?_,fun h7=>?_⟩
  ·rw[Aj (by grind)];exact .oA [] []
  rw[Aq (by grind)];have hw:IntKind.i64.wrap ((s.lists.length:Int)-1)=(s.lists.length:Int)-1:=AK _ oM;simp only[tZ,↓uU,simprocAttr,hw];refine C2.im (fun _=>jT c.list 0 ((s.lists.length:Int)-1)) (fun _=>rfl) rF ?_;simp only[tZ,↓uU,simprocAttr,tD,Bx,Bz,AY,Ak];refine⟨fun h8=>?_,fun h8=>?_⟩
  ·rw[Aj (by grind)];exact .oA [] []
  rw[Aq (by grind)];have hend:∀ v:Int,(if c.kind=3∧¬measE c=0 then measE c else if ¬c.kind=2∧¬c.list=0∨¬c.kind=3∧(¬c.low=0∨¬c.high=0∨0<c.widths.length∨c.opt=true) then 11 else 0)=v→yx [] (T.v (Value.int IntKind.i64 v)) [(4096,Ob.arr 2 [schT s] false),(8212,Ob.arr 7 [colT c] false)] (vI (if c.kind=3∧¬measE c=0 then measE c else if ¬c.kind=2∧¬c.list=0∨¬c.kind=3∧(¬c.low=0∨¬c.high=0∨0<c.widths.length∨c.opt=true) then 11 else 0)) []:=fun v hv=>by
   rw[hv];exact .oA [] []
  refine⟨fun h9=>?_,fun h9=>?_⟩
  ·refine C1.im (qS6 c) rF rF ?_;simp only[tZ,↓uU,simprocAttr,Bj,Aw];refine⟨fun h10=>hend _ (by rw[Aj ⟨h9,h10⟩]),fun h10=>?_⟩;simp only[tZ,↓uU,simprocAttr,tD,Bj,Aw];exact⟨fun h11=>hend _ (by rw[Aq (by grind),Aj (by grind)]),fun h11=>hend _ (by rw[Aq (by grind),Aq (by grind)])⟩
  ·simp only[tZ,↓uU,simprocAttr,tD,Bj,Aw];exact⟨fun h11=>hend _ (by rw[Aq (by grind),Aj (by grind)]),fun h11=>hend _ (by rw[Aq (by grind),Aq (by grind)])⟩
theorem qS7 {s:Sch} {i:Nat} (h:yo s i≠0):∀ n,i≤n→yo s n=yo s i:=by
 intro n hn
 induction n with
 | zero=>have:i=0:=by omega
         rw[this]
 | succ n ih=>
   by_cases e:i=n+1
   ·rw[e]
   ·have:=ih oM;rw[yo,this,Aj h]
theorem qS8 {s:Sch} {i:Nat} (h:Ws s i≠0):∀ n,i≤n→Ws s n=Ws s i:=by
 intro n hn
 induction n with
 | zero=>have:i=0:=by omega
         rw[this]
 | succ n ih=>
   by_cases e:i=n+1
   ·rw[e]
   ·have:=ih oM;rw[Ws,this,Aj h]
def ki (s:Sch):Prop:=s.lists.length<4611686018427387904∧s.cols.length<4611686018427387904∧∀ l∈s.lists,l.codes.length<4611686018427387904
theorem wi (s:Sch) (hs:ki s):Sp 102 [schT s] [] (vI (schE s)) []:=by
 obtain⟨hs1,hs2,hs3⟩:=hs;refine sIr qY4 fun e _ hst=>?_;unfold Kw;refine sD ?_;refine⟨fun h=>?_,fun h=>?_⟩
 ·rw[schE,Aj oM];exact .oA [] []
 have hE1:yo s s.lists.length≠0→schE s=yo s s.lists.length:=fun k=>by rw[schE,Aq oM,Aj k]
 refine qt mixm (α:=Nat) [3,17] (fun i=>i≤s.lists.length∧yo s i=0) (fun i=>[(3,vI i)]) (fun i=>[aR 4096 2 [schT s]]) (fun i=>s.lists.length-i) 0 ⟨oM,rfl⟩ ?_ fun i hi=>?_
 ·exact .oA (U1 4096) []
 obtain⟨i1,i2⟩:=hi;refine sD ?_;refine⟨fun h2=>?_,fun h2=>?_⟩
 ·have hi2:i<s.lists.length:=by omega
  have hwi:=qh (i:=i) oM;have hat:s.lists.getD i default=s.lists[i]:=qj hi2;have hstep:yo s (i+1)=if lstE s.lists[i]≠0 then lstE s.lists[i] else if ((s.lists.take i).any fun x=>eqB x.name s.lists[i].name)=true then 10 else 0:=by
   rw[yo,Aq (by rw[i2];simp),hat]
  have hbad:yo s (i+1)≠0→schE s=yo s (i+1):=fun k=>by
   have:=qS7 k s.lists.length oM;rw[hE1 (by rw[this];exact k),this]
  simp only[tZ,↓uU,simprocAttr,Ax,qd hi2,hwi];refine⟨oM,?_⟩;refine C1.im (yT s.lists[i] (hs3 _ (AX hi2))) rF rF ?_;simp only[tZ,↓uU,simprocAttr,Bj,Aw];refine⟨fun h3=>?_,fun h3=>?_⟩
  ·rw[Aj h3] at hstep;rw[hbad (by rw[hstep];exact h3),hstep];exact .oA [] []
  rw[Aq (by rw[h3];simp)] at hstep;refine qt mixm (α:=Nat) [5] (fun k=>k≤i∧(s.lists.take k).any (fun x=>eqB x.name s.lists[i].name)=false) (fun k=>[(5,vI k)]) (fun k=>[aR 4096 2 [schT s]]) (fun k=>i-k) 0 ⟨oM,rfl⟩ ?_ fun k hk=>?_
  ·exact .oA (U1 4096) []
  simp only[tZ,↓uU,simprocAttr,AZ,Ay];refine⟨fun h=>?_,fun h=>?_⟩
  ·have hk2:k<s.lists.length:=by omega
   have hwk:=qh (i:=k) oM;simp only[tZ,↓uU,simprocAttr,Ax,qd hk2,qd hi2,hwk];refine⟨oM,oM,kR,fun h7=>?_,fun h7=>?_⟩
   ·rw[Aj (DJ.2 ⟨s.lists[k],List.mem_take_iff_getElem.2 ⟨k,oM,rfl⟩,h7⟩)] at hstep;rw[hbad (by rw[hstep];simp),hstep];exact .oA [] []
   ·refine⟨k+1,⟨oM,zS hk2 hk.2 h7⟩,oM,?_⟩;exact .oA (U1 4096) []
  ·have hki:k=i:=by omega
   subst hki;rw[Aq (by rw[hk.2];simp)] at hstep;simp only[tZ,↓uU,simprocAttr,hwi];refine⟨k+1,⟨oM,hstep⟩,oM,?_⟩;exact .oA (U1 4096) []
 ·have hil:i=s.lists.length:=by omega
  subst hil;have hE2:s.cols.length=0∨(qg s 0).kind≠1→schE s=7:=fun k=>by rw[schE,Aq oM,Aq (by rw[i2];simp),Aj k]
  have hE3:¬ (s.cols.length=0∨(qg s 0).kind≠1)→schE s=Ws s s.cols.length:=fun k=>by rw[schE,Aq oM,Aq (by rw[i2];simp),Aq k]
  have hz:((0:Nat):Int)=0:=rfl;by_cases h0:s.cols.length=0
  ·have hn:s.cols=[]:=Dy.1 h0;rw[hE2 (.inl h0)];simp only[tZ,↓uU,simprocAttr,hn,Cw,hz,beq_self_eq_true];exact .oA [] []
  ·have h0p:0<s.cols.length:=by omega
   have e0:((s.cols.length:Int)==0)=false:=Ak.2 oM;have hc0:qg s 0=s.cols[0]:=by rw[qg,qj h0p]
   simp only[tZ,↓uU,simprocAttr,e0,qd h0p,Bj,Aw,Bool.false_or];refine⟨oM,fun h3=>?_,fun h3=>?_⟩
   ·rw[hE2 (.inr (by rw[hc0];exact h3))];exact .oA [] []
   have hE4:=hE3 (by rw[hc0];grind);refine qt mixm (α:=Nat) [6,63] (fun i=>i≤s.cols.length∧Ws s i=0) (fun i=>[(6,vI i)]) (fun i=>[aR 4096 2 [schT s]]) (fun i=>s.cols.length-i) 0 ⟨oM,rfl⟩ ?_ fun i hi=>?_
   ·exact .oA (U1 4096) []
   simp only[tZ,↓uU,simprocAttr,AZ,Ay];refine⟨fun h=>?_,fun h=>?_⟩
   ·have hi2:i<s.cols.length:=by omega
    have hwi:=qh (i:=i) oM;have hstep:Ws s (i+1)=colE s i:=by rw[Ws,Aq (by rw[hi.2];simp)]
    refine C1.im (zc1 s i hi2 hs2 hs1) rF rF ?_;simp only[tZ,↓uU,simprocAttr,Bj,Aw,hwi];refine⟨fun h4=>?_,fun h4=>?_⟩
    ·have:=qS8 (s:=s) (i:=i+1) (by rw[hstep];exact h4) s.cols.length oM;rw[hE4,this,hstep];exact .oA [] []
    ·refine⟨i+1,⟨oM,by rw[hstep];exact h4⟩,oM,?_⟩;exact .oA (U1 4096) []
   ·have hi2:i=s.cols.length:=by omega
    subst hi2;rw[hE4,hi.2];exact .oA [] []
end Go.Proofs
