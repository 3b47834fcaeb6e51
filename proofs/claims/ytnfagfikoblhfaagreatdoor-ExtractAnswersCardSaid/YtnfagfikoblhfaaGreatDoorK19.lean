/- A part of the proof: trees of Go values, short forms, contracts. -/
import Derived.WalkKit
import Derived.Still
import Derived.MapKept
import GoSem.Builtin.Cap
import Derived.Laws.Externs
import GoSem.Extern.SlicesOverlaps
import Derived.Carry
import Derived.ProofKit
import Derived.OpenShut
import Derived.HandedShaped
import Derived.Lay
import Derived.LaidLaws
import Derived.MakeChecks
import Derived.SevenTiedAt
import Derived.Test.YtnfagfikoblhfaaGreatDoorChecked
import Derived.Test.YtnfagfikoblhfaaGreatDoorK18
set_option linter.unusedSimpArgs false
set_option linter.unusedVariables false
namespace Go.Proofs
open Go Go.TL
set_option maxRecDepth 4000
set_option maxHeartbeats 4000000
theorem DrS.col {s:Sch} (h:DrS s) {i:Nat} (hi:i<s.cols.length) (hk:(qj s i).kind=3):∃ n,DrM n (qj s i):=by
 obtain⟨ms,hc,h1,h3⟩:=h.cs;have key:∀ (pre:List Col) (n:Nat),(∀ c∈pre,c.kind≠3)→s.cols=pre++ms→(∀ j (hj:j<ms.length),DrM (n+j) ms[j])→∃ n,DrM n (qj s i):=by
  intro pre n hp he hm;rw[qj,qg hi] at hk ⊢
  by_cases c:i<pre.length
  ·have e:s.cols[i]=pre[i]:=by simp only[he];exact List.getElem_append_left c
   rw[e] at hk;exact absurd hk (hp _ (AX c))
  ·have hl:i-pre.length<ms.length:=by rw[he,AW] at hi;omega
   have e:s.cols[i]=ms[i-pre.length]:=by simp only[he];exact List.getElem_append_right (by omega)
   rw[e];exact⟨_,hm _ hl⟩
 rcases hc with⟨hc,hm⟩ | ⟨hc,hm⟩
 ·exact key [whoC,sexC] 2 (by simp [whoC,sexC]) (by rw[hc];rfl) hm
 ·exact key [whoC,sexC,jobC] 3 (by simp [whoC,sexC,jobC]) (by rw[hc];rfl) hm
theorem DrS.nl {s:Sch} (h:DrS s):s.lists.length=2:=by
 obtain⟨a,b,e,_⟩:=h.ls;rw[e];rfl
theorem qz1 (s:Sch) (hd:DrS s) (i:Nat) (hi:i<s.cols.length) (l:List UInt8) (a:Nat) (hl:l.length≤400) (ha:a≤l.length) :
 ∃ r:Int×Nat,(qS s i r.1=true∧(i=0→r.1≤60)∧r.2≤l.length)∧Spc Tryz.prog Qu [.ptr 0 1 0 0,schT s,vI i] [(0,oC l a)] (vI r.1) [(0,oC l r.2)]:=by
 have hE:=hd.ok;have hok:=qO hE;have hat:qj s i=s.cols[i]:=by rw[qj,qg hi]
 have hk:=qZ (hok.cs i hi);have hH:∀ v,qS s i v=if s.cols[i].kind=1 then inB v 1 1048575
  else if s.cols[i].kind=2 then inB v 0 ((qK s i).codes.length-1)&&(lvlC (qK s i) v==zk (qK s i)-1)
  else (s.cols[i].opt&&(v==zz))||inB v s.cols[i].low s.cols[i].high:=fun v=>by rw[qS,hat]
 by_cases k1:s.cols[i].kind=1
 ·have h1:=zQ l a 1 60 hl ha (by omega) (by omega);have r1:=yw l a (60-1+1) (by omega);have b1:=qB3 l a (60-1+1) ha;generalize nx l a (60-1+1)=x1 at h1 r1 b1;refine⟨(1+x1.1,x1.2),⟨by rw[hH,Aj k1,wB];dsimp only;omega,fun _=>by dsimp only;omega,b1⟩,?_⟩;have q:(s.cols[i].kind==1)=true:=AY.2 k1;refine qd jn mixm (by simp) fun e _ hst=>qh ?_;unfold zo;simp only[tZ,↓un_u,simprocAttr,Ax,qe hi,q];refine⟨by omega,?_⟩;refine C1.draw 0 l a _ h1 rfl rfl rfl ?_;refine sW ?_;exact .oA [(0,some 0)] []
 have q1:(s.cols[i].kind==1)=false:=Ak.2 k1;have hi0:∀ v:Int,i=0→v≤60:=fun v e=>by
  subst e;have:=hok.c0;rw[hat] at this;exact absurd this k1
 by_cases k2:s.cols[i].kind=2
 ·have q2:(s.cols[i].kind==2)=true:=AY.2 k2;have hlv:=YJ s hok i hi (by rw[hat];exact k2);have hll:=qa8 hok hi (by rw[hat];exact k2);obtain⟨d1,d2⟩:=hok.cdl hi (by rw[hat];exact k2);have hne:0<(qJ s i).length:=jD3 d2;have hlh:=fun v=>qa4 (s:=s) (i:=i) (by rw[hat];exact k2) d2 (v:=v);generalize qJ s i=L at hlv hll hne hlh;have h1:=jh l a L.length hl ha (by omega);have r1:=yw l a L.length (by omega);have b1:=qB3 l a L.length ha;generalize nx l a L.length=x1 at h1 r1 b1;obtain⟨m,hm⟩:=AJ r1.1;have hmL:m<L.length:=by omega
  rw[hm] at h1;refine⟨(L[m],x1.2),⟨hlh _ (AX hmL),hi0 _,b1⟩,?_⟩;refine qd jn mixm (by simp) fun e _ hst=>qh ?_;unfold zo;simp only[tZ,↓un_u,simprocAttr,Ax,qe hi,q1,q2];refine⟨by omega,?_⟩;refine C1.im hlv (by rfl) (by rfl) ?_;refine sW ?_;refine C1.draw 0 l a _ h1 rfl rfl rfl ?_;simp only[tZ,↓un_u,simprocAttr,Ax,qe hmL];refine⟨by omega,?_⟩;exact .oA [(0,some 0)] []
 have q2:(s.cols[i].kind==2)=false:=Ak.2 k2;have k3:s.cols[i].kind=3:=by rw[hat] at hk;omega
 obtain⟨n,hM⟩:=hd.col hi (by rw[hat];exact k3);rw[hat] at hM;have hlo:=hM.low;have hhi:=hM.high;have hin:∀ v,s.cols[i].low≤v→v≤s.cols[i].high→qS s i v=true:=fun v h1 h2=>by
  rw[hH,Aq k1,Aq k2,DZ,wB];exact .inr ⟨h1,h2⟩
 cases ho:s.cols[i].opt with
 | false=>
   obtain⟨v,a2,v1,v2,ha2,sR⟩:=YL l a s.cols[i].low s.cols[i].high hl ha (by omega) (by omega);refine⟨(v,a2),⟨hin v v1 v2,hi0 _,ha2⟩,?_⟩;refine qd jn mixm (by simp) fun e _ hst=>qh ?_;unfold zo;simp only[tZ,↓un_u,simprocAttr,Ax,qe hi,q1,q2,ho];refine⟨by omega,?_⟩;refine C2.no (by simp) ?_;refine sW ?_;refine C1.draw 0 l a _ sR rfl rfl rfl ?_;refine sW ?_;exact .oA [(0,some 0)] []
 | true=>
   obtain⟨o,a1,b1,h1⟩:=jE5 l a 4 hl ha (by omega);cases o with
   | true=>
     refine⟨(zz,a1),⟨by rw[hH,Aq k1,Aq k2,ho];simp,hi0 _,b1⟩,?_⟩;refine qd jn mixm (by simp) fun e _ hst=>qh ?_;unfold zo;simp only[tZ,↓un_u,simprocAttr,Ax,qe hi,q1,q2,ho];refine⟨by omega,?_⟩;refine C2.one (by trivial) (C1.draw 0 l a _ h1 rfl rfl rfl ?_);refine sW ?_;exact .oA [(0,some 0)] []
   | false=>
     obtain⟨v,a2,v1,v2,ha2,sR⟩:=YL l a1 s.cols[i].low s.cols[i].high hl b1 (by omega) (by omega);refine⟨(v,a2),⟨hin v v1 v2,hi0 _,ha2⟩,?_⟩;refine qd jn mixm (by simp) fun e _ hst=>qh ?_;unfold zo;simp only[tZ,↓un_u,simprocAttr,Ax,qe hi,q1,q2,ho];refine⟨by omega,?_⟩;refine C2.one (by trivial) (C1.draw 0 l a _ h1 rfl rfl rfl ?_);refine sW ?_;refine C1.draw 0 l a1 _ sR rfl rfl rfl ?_;refine sW ?_;exact .oA [(0,some 0)] []
theorem qN7 (s:Sch) (hD:DrS s) (l:List UInt8) (a:Nat) (hl:l.length≤400) (ha:a≤l.length) :
 ∃ r:List Int×Nat,(rowE s r.1=0∧hd r.1≤60∧r.2≤l.length)∧Spc Tryz.prog yz [.ptr 0 1 0 0,schT s] [(0,oC l a)] (.asl 1 r.1.length) [(0,oC l r.2),(1,.arr 1 (r.1.map vI) false)]:=by
 have hE:=hD.ok;have hnc:=(qO hE).nc;refine jd qL2 mixm (fun r:List Int×Nat=>.asl 1 r.1.length) (fun r=>[(0,oC l r.2),(1,.arr 1 (r.1.map vI) false)]) (by simp) ?_;unfold ZH;refine sW ?_;refine XE.loopF mixm [5,10] (fun y:List Int×Nat=>y.1.length≤s.cols.length∧(∀ i,i<y.1.length→qS s i (y.1.getD i 0)=true)∧hd y.1≤60∧y.2≤l.length) (fun y=>[(5,.asl 1 y.1.length),(10,vI y.1.length)]) (fun y=>[(0,oC l y.2),(4096,.arr 2 [schT s] false),(1,.arr 1 (y.1.map vI) false)]) (fun y=>s.cols.length-y.1.length) ([],a) ⟨by simp,by simp,by simp [hd],ha⟩ (fun e ⟨_,hst⟩=>?_) fun T' y hy ih=>?_
 ·exact .oA [(0,some 0),(4096,some 4096),(1,none)] []
 obtain⟨rs,a1⟩:=y;obtain⟨y1,y2,y5,y3⟩:=hy;dsimp only at y1 y2 y3 y5;simp only[tZ,↓un_u,simprocAttr,AZ,Ay];refine XE.brN (fun h4=>?_) (fun h4=>?_)
 ·have hlt:rs.length<s.cols.length:=by omega
  obtain⟨⟨v,a2⟩,⟨hv,hv6,ha2⟩,sV⟩:=qz1 s hD rs.length hlt l a1 hl y3;dsimp only at hv hv6 ha2 sV;have hwi:=qk (i:=rs.length) (by omega);refine XE.mp (fun _ _=>C1.draw 0 l a1 _ sV rfl rfl rfl) ?_;simp only[tZ,↓un_u,simprocAttr,hwi];refine XE.sd (by omega) ?_;refine XE.next ih (rs++[v],a2) ⟨by simp;omega,fun i h=>?_,?_,ha2⟩ (by simp;omega) fun e ⟨_,hst⟩=>?_
  ·dsimp only at h ⊢
   by_cases hi:i<rs.length
   ·rw[CY,BK hi,← CY];exact y2 i hi
   ·have he:i=rs.length:=by rw[AW] at h;simp at h;omega
    subst he;rw[CY,BJ (BZ _)];simpa using hv
  ·cases rs with
   | nil=>exact hv6 rfl
   | cons r0 rs=>exact y5
  ·exact .oA [(0,some 0),(4096,some 4096),(1,some 1)] []
 ·have hnl:rs.length=s.cols.length:=by omega
  refine XE.fin (rs,a1) ⟨jD4 hE hnl y2,y5,y3⟩ fun e ⟨_,hst⟩=>?_;exact .oA [(0,some 0),(1,some 1)] []
theorem qG9 (s:Sch) (hD:DrS s) (l:List UInt8) (a:Nat) (hl:l.length≤400) (ha:a≤l.length) :
 ∃ r:List Int×Nat,(rowE s r.1=0∧hd r.1≤60∧r.2≤l.length)∧Spc Tryz.prog yz [.ptr 0 1 0 0,schT s] [(0,oC l a)] (vIs r.1) [(0,oC l r.2)]:=by
 obtain⟨r,hr,hs⟩:=qN7 s hD l a hl ha;refine⟨r,hr,hs.weaken ?_⟩;refine .of [(0,some 0)] [1] rfl rfl ?_ ?_
 all_goals (try exact clA)
structure DrX (x:Src):Prop where
 sch:DrS x.sch
 ok:SrcOk x
 gone:x.gone=[]
 ver:x.ver=0
abbrev srcZ (s:Src):T:=.agg [.sl 2 (s.sch.lists.map cdlT),.sl 7 (s.sch.cols.map colT),vRw s.rows,.v (.slice none 0 0),vI s.ver]
theorem qs8 (most:Int) (l:List UInt8) (a:Nat) (hl:l.length≤400) (ha:a≤l.length) (hm:0≤most∧most≤100) :
 ∃ r:Src×Nat,((DrX r.1∧(r.1.rows.length:Int)≤most∧∀ r2∈r.1.rows,hd r2≤60)∧r.2≤l.length)∧Spc Tryz.prog jk [.ptr 0 1 0 0,vI most] [(0,oC l a)] (srcZ r.1) [(0,oC l r.2)]:=by
 obtain⟨⟨s,a1⟩,⟨hD,ha1⟩,sS⟩:=qz0 l a hl ha;dsimp only at hD ha1 sS;obtain⟨v,a2,v1,v2,ha2,sN⟩:=yu l a1 (most+1) hl ha1 (by omega);obtain⟨N,rfl⟩:=AJ v1;have hE:=hD.ok;have hw:IntKind.i64.wrap (most+1)=most+1:=AK _ (by omega);refine jd qr0 mixm (fun r:Src×Nat=>srcZ r.1) (fun r=>[(0,oC l r.2)]) (by simp) ?_;unfold yc;refine sW ?_;refine XE.mp (fun _ _=>C1.draw 0 l a _ sS rfl rfl rfl) ?_;simp only[tZ,↓un_u,simprocAttr,hw];refine XE.mp (fun _ _=>C1.draw 0 l a1 _ sN rfl rfl rfl) ?_;refine sW ?_;refine XE.loopF mixm [7] (fun y:Nat×List (List Int)×Nat=>y.1≤N∧y.2.1.length+y.1≤N∧AscR y.2.1∧(∀ r∈y.2.1,rowE s r=0∧hd r≤60)∧y.2.2≤l.length) (fun y=>[(7,vI y.1)]) (fun y=>[(0,oC l y.2.2),(4096,.arr 5 [srcT src0] false),(8200,.arr 2 [schT s] false),(12296,.arr 5 [.agg [.sl 2 (s.lists.map cdlT),.sl 7 (s.cols.map colT),vRw y.2.1,.v (.slice none 0 0),vI 0]] false)]) (fun y=>y.1) (N,[],a2) ⟨by simp,by simp,.nil,by simp,ha2⟩ (fun e ⟨_,hst⟩=>?_) fun T' y hy ih=>?_
 ·exact .oA [(0,some 0),(4096,some 4096),(8200,some 8200),(12296,some 12296)] []
 obtain⟨k,rs,a3⟩:=y;obtain⟨y0,y1,y2,y3,y4⟩:=hy;dsimp only at y0 y1 y2 y3 y4;simp only[tZ,↓un_u,simprocAttr,AZ,Ay];refine XE.brN (fun h4=>?_) (fun h4=>?_)
 ·obtain⟨⟨row,a4⟩,⟨hr,hr6,ha4⟩,sR⟩:=qG9 s hD l a3 hl y4;dsimp only at hr hr6 ha4 sR;have hwk:=kg (i:=k) (by omega) (by omega);refine XE.mp (fun _ _=>C1.draw 0 l a3 _ sR rfl rfl rfl) ?_;refine sW ?_;refine XE.mp (fun _ _=>C1.im (zW2 rs row (by omega) (fun r hr=>YK (y3 r hr).1) (YK hr)) (by rfl) (by rfl)) ?_;simp only[tZ,↓un_u,simprocAttr,hwk];refine XE.sd (by kernel_rfl) ?_;have hpl:=jh7 rs row;refine XE.next ih (k-1,putR rs row,a4) ⟨by dsimp only;omega,by dsimp only;omega,zB9 y2,fun r hr2=>?_,ha4⟩ (by dsimp only;omega) fun e ⟨_,hst⟩=>?_
  ·rcases (zC0 y2).1 hr2 with h | h
   ·rw[h];exact⟨hr,hr6⟩
   ·exact y3 r h.1
  ·exact .oA [(0,some 0),(4096,some 4096),(8200,some 8200),(12296,some 12296)] []
 ·have hk:k=0:=by omega
  refine XE.fin (⟨s,rs,[],0⟩,a3) ⟨⟨⟨hD,⟨hE,by dsimp only;omega,by simp,by simp,fun r hr=>(y3 r hr).1,y2,by simp,.nil⟩,rfl,rfl⟩,by dsimp only;omega,fun r hr=>(y3 r hr).2⟩,y4⟩ fun e ⟨_,hst⟩=>?_;exact .oA [(0,some 0)] []
theorem qs9 (most:Int) (l:List UInt8) (a:Nat) (hl:l.length≤400) (ha:a≤l.length) (hm:0≤most∧most≤100) :
 ∃ r:Src×Nat,((DrX r.1∧(r.1.rows.length:Int)≤most∧∀ r2∈r.1.rows,hd r2≤60)∧r.2≤l.length)∧Spc Tryz.prog jk [.ptr 0 1 0 0,vI most] [(0,oC l a)] (srcT r.1) [(0,oC l r.2)]:=by
 obtain⟨r,hr,hs⟩:=qs8 most l a hl ha hm;refine⟨r,hr,hs.weaken ?_⟩;have hg:r.1.gone.map vI=[]:=by rw[hr.1.1.gone];rfl
 refine .of [(0,some 0)] [] rfl rfl ?_ ?_
 all_goals (try exact clA)
 all_goals (try exact hg)
end Go.Proofs
namespace Go.Proofs
open Go Go.TL
set_option maxRecDepth 4000
set_option maxHeartbeats 4000000
def qf7 (s:Sch) (kind:Int) (n:Nat):List Int:=List.map (fun i:Nat=>(i:Int)) ((List.range n).filter fun i=>(qj s i).kind==kind)
theorem kL (s:Sch) (kind:Int) (n:Nat):qf7 s kind (n+1)=qf7 s kind n++(if (qj s n).kind=kind then [(n:Int)] else []):=by
 unfold qf7;rw[List.range_succ,FY,By]
 congr 1
 by_cases h:(qj s n).kind=kind
 ·rw[Aj h,List.filter_cons,Aj (AY.2 h)];rfl
 ·rw[Aq h,List.filter_cons,Aq (by rw[AY];exact h)];rfl
theorem qH0 (s:Sch) (kind:Int) (n:Nat):(qf7 s kind n).length≤n:=by
 unfold qf7;rw[BY];exact FZ (Fx _ _) (by simp)
def YM (s:Sch) (kind:Int):List Int:=qf7 s kind s.cols.length
theorem Wu {s:Sch} {kind v:Int}:v∈YM s kind↔isB s v kind=true:=by
 unfold YM qf7;rw[zH];simp only[Cj,Fz,Dk,AY];constructor
 ·rintro ⟨i,⟨h1,h2⟩,rfl⟩;exact⟨by omega,by omega,by rw[Ax];exact h2⟩
 ·rintro ⟨h1,h2,h3⟩;exact⟨v.toNat,⟨by omega,h3⟩,by omega⟩
theorem Jc (s:Sch) (kind:Int) (hn:s.cols.length≤1000):Spc Tryz.prog kI [schT s,vI kind] [] (vIs (YM s kind)) []:=by
 refine qd zd8 mixm (by simp) fun e _ hst=>qh ?_;unfold Wf;refine sW ?_;refine qw mixm (α:=Nat) [5,10] (fun i=>i≤s.cols.length) (fun i=>[(5,.asl 1 (qf7 s kind i).length),(10,vI i)]) (fun i=>[(4096,.arr 2 [schT s] false),(1,.arr 1 ((qf7 s kind i).map vI) false)]) (fun i=>s.cols.length-i) 0 (by omega) ?_ fun i hi=>?_
 ·show Le _ _ ⟨_,[(4096,.arr 2 [schT s] false),(1,.arr 1 [] false)]⟩;exact .oA [(4096,some 4096),(1,none)] []
 have hfl:=qH0 s kind i;refine sD ?_;refine⟨fun h=>?_,fun h=>?_⟩
 ·have hi2:i<s.cols.length:=by omega
  have hwi:=qk (i:=i) (by omega);have hat:qj s i=s.cols[i]:=by rw[qj,qg hi2]
  have hsu:=kL s kind i;rw[hat] at hsu;simp only[tZ,↓un_u,simprocAttr,Ax,qe hi2,hwi,AY,Ak];refine⟨by omega,fun h2=>?_,fun h2=>?_⟩
  ·rw[Aj h2] at hsu;refine⟨by omega,i+1,by omega,by omega,?_⟩;rw[hsu];exact .oA [(4096,some 4096),(1,some 1)] []
  ·rw[Aq h2,CW] at hsu;refine⟨i+1,by omega,by omega,?_⟩;rw[hsu];exact .oA [(4096,some 4096),(1,some 1)] []
 ·have hil:i=s.cols.length:=by omega
  subst hil;exact .oA [] [1]
theorem DrS.code {s:Sch} (h:DrS s):0<(YM s 2).length∧(YM s 2).length≤8:=by
 have hnc:=(qO h.ok).nc;have hl:=qH0 s 2 s.cols.length;refine⟨List.length_pos_of_mem (a:=1) (Wu.2 (zH.2 ?_)),by unfold YM;omega⟩;obtain⟨ms,hc,h1,h3⟩:=h.cs;rcases hc with⟨hc,hm⟩ | ⟨hc,hm⟩
 ·refine⟨by omega,by rw[hc];simp;omega,by rw[qj,hc];rfl⟩
 ·refine⟨by omega,by rw[hc];simp;omega,by rw[qj,hc];rfl⟩
theorem DrS.meas {s:Sch} (h:DrS s):0<(YM s 3).length∧(YM s 3).length≤8:=by
 have hnc:=(qO h.ok).nc;have hl:=qH0 s 3 s.cols.length;refine⟨?_,by unfold YM;omega⟩;obtain⟨ms,hc,h1,h3⟩:=h.cs;rcases hc with⟨hc,hm⟩ | ⟨hc,hm⟩
 ·refine List.length_pos_of_mem (a:=2) (Wu.2 (zH.2 ⟨by omega,by rw[hc];simp;omega,?_⟩));have:=(hm 0 h1).kind;rw[qj,hc];show ((whoC::sexC::ms).getD 2 default).kind=3;rw[qg (by simp;omega)];exact this
 ·refine List.length_pos_of_mem (a:=3) (Wu.2 (zH.2 ⟨by omega,by rw[hc];simp;omega,?_⟩));have:=(hm 0 h1).kind;rw[qj,hc];show ((whoC::sexC::jobC::ms).getD 3 default).kind=3;rw[qg (by simp;omega)];exact this
theorem jE6 (s:Sch) (hd:DrS s) (l:List UInt8) (a:Nat) (hl:l.length≤400) (ha:a≤l.length) :
 ∃ (v:Nat) (b:Nat),isB s v 2=true∧b≤l.length∧Spc Tryz.prog Qz [.ptr 0 1 0 0,schT s] [(0,oC l a)] (vI v) [(0,oC l b)]:=by
 have hnc:=(qO hd.ok).nc;have hc:=Jc s 2 (by omega);have hm:=fun v=>(Wu (s:=s) (kind:=2) (v:=v)).1;obtain⟨k1,k2⟩:=hd.code;generalize YM s 2=L at hc hm k1 k2;obtain⟨j,b,j1,j2,hb,sN⟩:=yu l a L.length hl ha (by omega);obtain⟨m,rfl⟩:=AJ j1;have hmL:m<L.length:=by omega
 have hv:=hm _ (AX hmL);obtain⟨v,e⟩:=AJ (zH.1 hv).1;refine⟨v,b,by rw[← e];exact hv,hb,?_⟩;rw[← e];refine qd qw8 mixm (by simp) fun e _ hst=>qh ?_;unfold yQ;refine sW ?_;refine C1.im hc (by rfl) (by rfl) ?_;refine sW ?_;refine C1.draw 0 l a _ sN rfl rfl rfl ?_;simp only[tZ,↓un_u,simprocAttr,Ax,qe hmL];refine⟨by omega,?_⟩;exact .oA [(0,some 0)] []
theorem ZT (s:Sch) (hd:DrS s) (l:List UInt8) (a:Nat) (hl:l.length≤400) (ha:a≤l.length) :
 ∃ (v:Nat) (b:Nat),isB s v 3=true∧b≤l.length∧Spc Tryz.prog zM [.ptr 0 1 0 0,schT s] [(0,oC l a)] (vI v) [(0,oC l b)]:=by
 have hnc:=(qO hd.ok).nc;have hc:=Jc s 3 (by omega);have hm:=fun v=>(Wu (s:=s) (kind:=3) (v:=v)).1;obtain⟨k1,k2⟩:=hd.meas;generalize YM s 3=L at hc hm k1 k2;obtain⟨j,b,j1,j2,hb,sN⟩:=yu l a L.length hl ha (by omega);obtain⟨m,rfl⟩:=AJ j1;have hmL:m<L.length:=by omega
 have hv:=hm _ (AX hmL);obtain⟨v,e⟩:=AJ (zH.1 hv).1;refine⟨v,b,by rw[← e];exact hv,hb,?_⟩;rw[← e];refine qd qh7 mixm (by simp) fun e _ hst=>qh ?_;unfold kR;refine sW ?_;refine C1.im hc (by rfl) (by rfl) ?_;refine sW ?_;refine C1.draw 0 l a _ sN rfl rfl rfl ?_;simp only[tZ,↓un_u,simprocAttr,Ax,qe hmL];refine⟨by omega,?_⟩;exact .oA [(0,some 0)] []
end Go.Proofs
namespace Go.Proofs
open Go Go.TL
set_option maxRecDepth 4000
set_option maxHeartbeats 8000000
mutual
def sizC:Cnd→Nat
 | .mk _ _ _ _ _ ks=>qH1 ks+1
def qH1:List Cnd→Nat
 | []=>0
 | k::r=>sizC k+qH1 r
end
theorem zC1 (c:Cnd):sizC c=qH1 c.kids+1:=by cases c;rw[sizC];rfl
theorem kc0:∀ c,∀ m,1≤m→cntC c m≤sizC c:=by
 refine Cnd.ind' fun c ih m hm=>?_;rw[YI,zC1];have key:∀ l:List Cnd,(∀ k∈l,k∈c.kids)→∀ n,n≤m→wA l m n≤n+qH1 l:=by
  intro l
  induction l with
  | nil=>intro _ n h;rw[wA,qH1];omega
  | cons k r ihl=>
    intro hk n h;rw[wA,qH1];split
    ·have c1:=qQ7 k (m-n) (by omega);have c2:=ih k (hk k (by simp)) (m-n) (by omega);have c3:=ihl (fun x hx=>hk x (CQ _ hx)) (n+cntC k (m-n)) (by omega);omega
    ·omega
 have:=key c.kids (fun k hk=>hk) 1 (by omega);omega
structure CndOk (s:Sch) (n:Nat) (c:Cnd):Prop where
 ok:nodE s c=0
 dep:depC c≤n+1
 siz:sizC c+1≤2 ^ (n+1)
theorem CndOk.chk {s:Sch} {n:Nat} {c:Cnd} (h:CndOk s n c) (hE:schE s=0) (hn:n≤3):chkC s c=0:=by
 have h1:=kc0 c 41 (by omega);have h2:=h.siz;have h3:=h.dep;have h4:2 ^ (n+1)≤2 ^ 4:=Nat.pow_le_pow_right (by omega) (by omega);rw[chkC,Aq (by rw[hE];simp),Aq (by omega),Aq (by omega)];exact h.ok
theorem zW5 {s:Sch} {c:Cnd} (h1:ndE s c=0) (h2:Zk s c.kids=0):nodE s c=0:=by rw[zA4,Aq (by rw[h1];simp)];exact h2
theorem yZ {s:Sch} {c:Cnd} (n:Nat) (h1:ndE s c=0) (h2:c.kids=[]):CndOk s n c:=by
 have h3:2 ^ 1≤2 ^ (n+1):=Nat.pow_le_pow_right (by omega) (by omega);refine⟨zW5 h1 (by rw[h2,Zk]),by rw[qM7,h2,kG];omega,by rw[zC1,h2,qH1];omega⟩
theorem jE7 {s:Sch} {c:Cnd} (h1:¬ (c.op<1∨7<c.op)) (h2:¬ (c.kids.length≠arC c.op∨(c.op≠2∧c.op≠3∧c.op≠4∧c.col≠0)∨(c.op≠2∧c.code≠0)∨(c.op≠3∧(c.lo≠0∨c.hi≠0))))
 (h3:¬ ((c.op=2∧isB s c.col 2=false)∨(c.op=3∧isB s c.col 3=false)∨(c.op=4∧(isB s c.col 3=false∨(qj s c.col.toNat).opt=false))))
 (h4:¬ (c.op=2∧(c.code<0∨c.code≥(qK s c.col.toNat).codes.length))) (h5:¬ (c.op=3∧(c.lo < -1000000∨c.hi>1000000∨c.lo>c.hi))):ndE s c=0:=by
 rw[ndE,Aq h1,Aq h2,Aq h3,Aq h4,Aq h5]
theorem zg6 (s:Sch):ndE s (.mk 1 0 0 0 0 [])=0:=jE7 (by simp [Cnd.op,Cnd.col,Cnd.code,Cnd.lo,Cnd.hi,Cnd.kids]) (by simp [arC,Cnd.op,Cnd.col,Cnd.code,Cnd.lo,Cnd.hi,Cnd.kids]) (by simp [Cnd.op,Cnd.col,Cnd.code,Cnd.lo,Cnd.hi,Cnd.kids]) (by simp [Cnd.op,Cnd.col,Cnd.code,Cnd.lo,Cnd.hi,Cnd.kids]) (by simp [Cnd.op,Cnd.col,Cnd.code,Cnd.lo,Cnd.hi,Cnd.kids])
theorem ji3 {s:Sch} {v:Nat} {k:Int} (h:isB s v 2=true) (h1:0≤k) (h2:k<(qK s v).codes.length):ndE s (.mk 2 v k 0 0 [])=0:=
 jE7 (by simp [Cnd.op,Cnd.col,Cnd.code,Cnd.lo,Cnd.hi,Cnd.kids]) (by simp [arC,Cnd.op,Cnd.col,Cnd.code,Cnd.lo,Cnd.hi,Cnd.kids]) (by simp [Cnd.op,Cnd.col,Cnd.code,Cnd.lo,Cnd.hi,Cnd.kids,h]) (by simp only[Cnd.op,Cnd.col,Cnd.code,Cnd.lo,Cnd.hi,Cnd.kids,Ax];omega) (by simp [Cnd.op,Cnd.col,Cnd.code,Cnd.lo,Cnd.hi,Cnd.kids])
theorem qq0 {s:Sch} {v:Nat} {a b:Int} (h:isB s v 3=true) (h1 : -1000000≤a) (h2:b≤1000000) (h3:a≤b):ndE s (.mk 3 v 0 a b [])=0:=
 jE7 (by simp [Cnd.op,Cnd.col,Cnd.code,Cnd.lo,Cnd.hi,Cnd.kids]) (by simp [arC,Cnd.op,Cnd.col,Cnd.code,Cnd.lo,Cnd.hi,Cnd.kids]) (by simp [Cnd.op,Cnd.col,Cnd.code,Cnd.lo,Cnd.hi,Cnd.kids,h]) (by simp [Cnd.op,Cnd.col,Cnd.code,Cnd.lo,Cnd.hi,Cnd.kids]) (by simp only[Cnd.op,Cnd.col,Cnd.code,Cnd.lo,Cnd.hi,Cnd.kids];omega)
theorem jE8 {s:Sch} {v:Nat} (h:isB s v 3=true) (h1:(qj s v).opt=true):ndE s (.mk 4 v 0 0 0 [])=0:=
 jE7 (by simp [Cnd.op,Cnd.col,Cnd.code,Cnd.lo,Cnd.hi,Cnd.kids]) (by simp [arC,Cnd.op,Cnd.col,Cnd.code,Cnd.lo,Cnd.hi,Cnd.kids]) (by simp only[Cnd.op,Cnd.col,Cnd.code,Cnd.lo,Cnd.hi,Cnd.kids,Ax,h,h1];simp) (by simp [Cnd.op,Cnd.col,Cnd.code,Cnd.lo,Cnd.hi,Cnd.kids]) (by simp [Cnd.op,Cnd.col,Cnd.code,Cnd.lo,Cnd.hi,Cnd.kids])
theorem jE9 {s:Sch} {op:Int} {ks:List Cnd} (h:op=5∨op=6∨op=7) (hk:ks.length=arC op):ndE s (.mk op 0 0 0 0 ks)=0:=
 jE7 (by simp only[Cnd.op,Cnd.col,Cnd.code,Cnd.lo,Cnd.hi,Cnd.kids];omega) (by simp [Cnd.op,Cnd.col,Cnd.code,Cnd.lo,Cnd.hi,Cnd.kids,hk]) (by simp only[Cnd.op,Cnd.col,Cnd.code,Cnd.lo,Cnd.hi,Cnd.kids];omega) (by simp only[Cnd.op,Cnd.col,Cnd.code,Cnd.lo,Cnd.hi,Cnd.kids];omega) (by simp only[Cnd.op,Cnd.col,Cnd.code,Cnd.lo,Cnd.hi,Cnd.kids];omega)
theorem ki8 {s:Sch} {n:Nat} {c:Cnd} (h:CndOk s n c):CndOk s (n+1) (.mk 7 0 0 0 0 [c]):=by
 have h1:=h.dep;have h2:=h.siz;have h3:2 ^ (n+1+1)=2*2 ^ (n+1):=by rw[Nat.pow_succ];omega
 refine⟨zW5 (jE9 (.inr (.inr rfl)) rfl) ?_,?_,?_⟩
 ·show Zk s [c]=0;rw[Zk,Aq (by rw[h.ok];simp),Zk]
 ·rw[qM7];show kG [c]+1≤_;rw[kG,kG];omega
 ·rw[zC1];show qH1 [c]+1+1≤_;rw[qH1,qH1];omega
theorem jW8 {s:Sch} {n:Nat} {c d:Cnd} {op:Int} (ho:op=5∨op=6) (h:CndOk s n c) (g:CndOk s n d):CndOk s (n+1) (.mk op 0 0 0 0 [c,d]):=by
 have h1:=h.dep;have h2:=h.siz;have g1:=g.dep;have g2:=g.siz;have h3:2 ^ (n+1+1)=2*2 ^ (n+1):=by rw[Nat.pow_succ];omega
 refine⟨zW5 (jE9 (by omega) (by rcases ho with h | h <;> subst h <;> rfl)) ?_,?_,?_⟩
 ·show Zk s [c,d]=0;rw[Zk,Aq (by rw[h.ok];simp),Zk,Aq (by rw[g.ok];simp),Zk]
 ·rw[qM7];show kG [c,d]+1≤_;rw[kG,kG,kG];omega
 ·rw[zC1];show qH1 [c,d]+1+1≤_;rw[qH1,qH1,qH1];omega
theorem ZU (s:Sch) (hd:DrS s) (l:List UInt8) (hl:l.length≤400):∀ (n:Nat) (a:Nat),a≤l.length→n≤3→
 ∃ r:Cnd×Nat,(CndOk s n r.1∧r.2≤l.length)∧Spc Tryz.prog zg [.ptr 0 1 0 0,schT s,vI n] [(0,oC l a)] (cnT r.1) [(0,oC l r.2)]:=by
 have hE:=hd.ok;have hok:=qO hE;have hnc:=hok.nc;have hat:∀ i (h:i<s.cols.length),qj s i=s.cols[i]:=fun i h=>by rw[qj,qg h]
 have hnl:=hd.nl;intro n
 induction n with
 | zero=>
   intro a ha _;refine jd WO mixm (fun r:Cnd×Nat=>cnT r.1) (fun r=>[(0,oC l r.2)]) (by simp) ?_;unfold kW;have hz:decide (((0:Nat):Int)>0)=false:=rfl;simp only[tZ,↓un_u,simprocAttr,hz];obtain⟨b,hb2⟩:∃ b,b=a:=⟨_,rfl⟩;rw[← hb2];have hb:b≤l.length:=by omega
   obtain⟨j2,b2,u1,u2,hb2,sN2⟩:=yu l b 5 hl hb (by omega);refine XE.mp (fun _ _=>C1.draw 0 l b _ sN2 rfl rfl rfl) ?_;simp only[tZ,↓un_u,simprocAttr,AY,Ak];refine XE.brN (fun h1=>?_) (fun h1=>?_)
   ·obtain⟨v,b3,hv,hb3,sV⟩:=jE6 s hd l b2 hl hb2;obtain⟨_,v2,v3⟩:=zH.1 hv;rw[Ax] at v3;have hil:v<s.cols.length:=by omega
    obtain⟨d1,d2⟩:=hok.cdl hil v3;obtain⟨d3,d4⟩:=(qZ (hok.cs v hil)).2.2.2.1 v3;have hcl:qK s v=s.lists.getD s.cols[v].list.toNat default:=by rw[qK,hat v hil]
    have hnd:=fun k=>ji3 (k:=k) hv;rw[hat v hil] at d1 d3 d4;rw[hcl,qg d1] at d2 hnd;obtain⟨_,d5,d6⟩:=zf d2;obtain⟨w,b4,w1,w2,hb4,sQ⟩:=yu l b3 s.lists[s.cols[v].list.toNat].codes.length hl hb3 (by omega);refine XE.mp (fun _ _=>C1.draw 0 l b2 _ sV rfl rfl rfl) ?_;simp only[tZ,↓un_u,simprocAttr,Ax,qe hil,qe d1];refine XE.sd (by omega) (XE.sd (by omega) ?_);refine XE.mp (fun _ _=>C1.draw 0 l b3 _ sQ rfl rfl rfl) ?_;refine sW ?_;refine XE.sd (by kernel_rfl) ?_;refine XE.fin (.mk 2 v w 0 0 [],b4) ⟨yZ _ (hnd w w1 w2) rfl,hb4⟩ fun e ⟨_,hst⟩=>?_;exact .oA [(0,some 0)] []
   ·refine XE.brN (fun h2=>?_) (fun h2=>?_)
    ·refine XE.brN (fun _=>?_) (fun k=>absurd h2 k);obtain⟨v,b3,hv,hb3,sV⟩:=ZT s hd l b2 hl hb2;obtain⟨_,v2,v3⟩:=zH.1 hv;rw[Ax] at v3;have hil:v<s.cols.length:=by omega
     obtain⟨_,hM⟩:=hd.col hil v3;have hlo:=hM.low;rw[hat v hil] at hlo;obtain⟨w,b4,w1,w2,hb4,sQ⟩:=YL l b3 (-3) 40 hl hb3 (by omega) (by omega);obtain⟨z,b5,z1,z2,hb5,sZ⟩:=yu l b4 30 hl hb4 (by omega);have hw1:IntKind.i64.wrap (s.cols[v].low+w)=s.cols[v].low+w:=AK _ (by omega);have hw2:IntKind.i64.wrap (s.cols[v].low+w+z)=s.cols[v].low+w+z:=AK _ (by omega);refine XE.mp (fun _ _=>C1.draw 0 l b2 _ sV rfl rfl rfl) ?_;simp only[tZ,↓un_u,simprocAttr,Ax,qe hil];refine XE.sd (by omega) ?_;refine XE.mp (fun _ _=>C1.draw 0 l b3 _ sQ rfl rfl rfl) ?_;simp only[tZ,↓un_u,simprocAttr,hw1];refine XE.sd (by kernel_rfl) ?_;refine XE.mp (fun _ _=>C1.draw 0 l b4 _ sZ rfl rfl rfl) ?_;simp only[tZ,↓un_u,simprocAttr,hw2];refine XE.fin (.mk 3 v 0 (s.cols[v].low+w) (s.cols[v].low+w+z) [],b5) ⟨yZ _ (qq0 hv (by omega) (by omega) (by omega)) rfl,hb5⟩ fun e ⟨_,hst⟩=>?_;exact .oA [(0,some 0)] []
    ·refine XE.brN (fun h3=>?_) (fun h3=>?_)
     ·obtain⟨v,b3,hv,hb3,sV⟩:=ZT s hd l b2 hl hb2;obtain⟨_,v2,v3⟩:=zH.1 hv;rw[Ax] at v3;have hil:v<s.cols.length:=by omega
      obtain⟨_,hM⟩:=hd.col hil v3;have hlo:=hM.low;rw[hat v hil] at hlo;obtain⟨w,b4,w1,w2,hb4,sQ⟩:=YL l b3 (-3) 40 hl hb3 (by omega) (by omega);obtain⟨z,b5,z1,z2,hb5,sZ⟩:=yu l b4 30 hl hb4 (by omega);have hw1:IntKind.i64.wrap (s.cols[v].low+w)=s.cols[v].low+w:=AK _ (by omega);have hw2:IntKind.i64.wrap (s.cols[v].low+w+z)=s.cols[v].low+w+z:=AK _ (by omega);refine XE.mp (fun _ _=>C1.draw 0 l b2 _ sV rfl rfl rfl) ?_;simp only[tZ,↓un_u,simprocAttr,Ax,qe hil];refine XE.sd (by omega) ?_;refine XE.mp (fun _ _=>C1.draw 0 l b3 _ sQ rfl rfl rfl) ?_;simp only[tZ,↓un_u,simprocAttr,hw1];refine XE.sd (by kernel_rfl) ?_;refine XE.mp (fun _ _=>C1.draw 0 l b4 _ sZ rfl rfl rfl) ?_;simp only[tZ,↓un_u,simprocAttr,hw2];refine XE.fin (.mk 3 v 0 (s.cols[v].low+w) (s.cols[v].low+w+z) [],b5) ⟨yZ _ (qq0 hv (by omega) (by omega) (by omega)) rfl,hb5⟩ fun e ⟨_,hst⟩=>?_;exact .oA [(0,some 0)] []
     ·refine XE.brN (fun h4=>?_) (fun h4=>?_)
      ·obtain⟨v,b3,hv,hb3,sV⟩:=ZT s hd l b2 hl hb2;obtain⟨_,v2,v3⟩:=zH.1 hv;rw[Ax] at v3;have hil:v<s.cols.length:=by omega
       refine XE.mp (fun _ _=>C1.draw 0 l b2 _ sV rfl rfl rfl) ?_;simp only[tZ,↓un_u,simprocAttr,Ax,qe hil];refine XE.sd (by omega) ?_;refine XE.brB (fun h5=>?_) (fun h5=>?_)
       ·refine XE.fin (.mk 4 v 0 0 0 [],b3) ⟨yZ _ (jE8 hv (by rw[hat v hil];exact h5)) rfl,hb3⟩ fun e ⟨_,hst⟩=>?_;exact .oA [(0,some 0)] []
       ·refine XE.fin (.mk 1 0 0 0 0 [],b3) ⟨yZ _ (zg6 s) rfl,hb3⟩ fun e ⟨_,hst⟩=>?_;exact .oA [(0,some 0)] []
      ·refine XE.fin (.mk 1 0 0 0 0 [],b2) ⟨yZ _ (zg6 s) rfl,hb2⟩ fun e ⟨_,hst⟩=>?_;exact .oA [(0,some 0)] []
 | succ n ih=>
   intro a ha hn;have hz:decide (((n+1:Nat):Int)>0)=true:=Cx (by omega);have hwp:IntKind.i64.wrap (((n+1:Nat):Int)-1)=n:=by rw[AK _ (by omega)];omega
   obtain⟨j,b,j1,j2,hb,sN⟩:=yu l a 5 hl ha (by omega);obtain⟨⟨c1,b1⟩,⟨hc1,hb1⟩,sC1⟩:=ih b hb (by omega);dsimp only at hc1 hb1 sC1;obtain⟨⟨c2,b2⟩,⟨hc2,hb2⟩,sC2⟩:=ih b1 hb1 (by omega);dsimp only at hc2 hb2 sC2;refine jd WO mixm (fun r:Cnd×Nat=>cnT r.1) (fun r=>[(0,oC l r.2)]) (by simp) ?_;unfold kW;simp only[tZ,↓un_u,simprocAttr,hz];refine XE.mp (fun _ _=>C1.draw 0 l a _ sN rfl rfl rfl) ?_;simp only[tZ,↓un_u,simprocAttr,hwp,AY,Ak];refine XE.brN (fun h2=>?_) (fun h2=>XE.brN (fun h3=>?_) (fun h3=>XE.brN (fun h4=>?_) (fun h4=>?_)))
   ·refine XE.mp (fun _ _=>C1.draw 0 l b _ sC1 rfl rfl rfl) ?_;refine sW ?_;refine XE.fin (.mk 7 0 0 0 0 [c1],b1) ⟨ki8 hc1,hb1⟩ fun e ⟨_,hst⟩=>?_;show Zq _ _ _ (.agg [vI 7,vI 0,vI 0,vI 0,vI 0,.sl 6 [cndT c1]]) _;rw[zw];exact .oA [(0,some 0)] [20500]
   ·refine XE.mp (fun _ _=>C1.draw 0 l b _ sC1 rfl rfl rfl) ?_;simp only[tZ,↓un_u,simprocAttr,hwp];refine XE.mp (fun _ _=>C1.draw 0 l b1 _ sC2 rfl rfl rfl) ?_;refine sW ?_;refine XE.sd (by kernel_rfl) ?_;refine XE.fin (.mk 5 0 0 0 0 [c1,c2],b2) ⟨jW8 (by omega) hc1 hc2,hb2⟩ fun e ⟨_,hst⟩=>?_;show Zq _ _ _ (.agg [vI 5,vI 0,vI 0,vI 0,vI 0,.sl 6 [cndT c1,cndT c2]]) _;rw[zw,zw];exact .oA [(0,some 0)] [28712]
   ·refine XE.mp (fun _ _=>C1.draw 0 l b _ sC1 rfl rfl rfl) ?_;simp only[tZ,↓un_u,simprocAttr,hwp];refine XE.mp (fun _ _=>C1.draw 0 l b1 _ sC2 rfl rfl rfl) ?_;refine sW ?_;refine XE.sd (by kernel_rfl) ?_;refine XE.fin (.mk 6 0 0 0 0 [c1,c2],b2) ⟨jW8 (by omega) hc1 hc2,hb2⟩ fun e ⟨_,hst⟩=>?_;show Zq _ _ _ (.agg [vI 6,vI 0,vI 0,vI 0,vI 0,.sl 6 [cndT c1,cndT c2]]) _;rw[zw,zw];exact .oA [(0,some 0)] [36904]
   ·obtain⟨j2,b2,u1,u2,hb2,sN2⟩:=yu l b 5 hl hb (by omega);refine XE.mp (fun _ _=>C1.draw 0 l b _ sN2 rfl rfl rfl) ?_;simp only[tZ,↓un_u,simprocAttr,AY,Ak];refine XE.brN (fun h1=>?_) (fun h1=>?_)
    ·obtain⟨v,b3,hv,hb3,sV⟩:=jE6 s hd l b2 hl hb2;obtain⟨_,v2,v3⟩:=zH.1 hv;rw[Ax] at v3;have hil:v<s.cols.length:=by omega
     obtain⟨d1,d2⟩:=hok.cdl hil v3;obtain⟨d3,d4⟩:=(qZ (hok.cs v hil)).2.2.2.1 v3;have hcl:qK s v=s.lists.getD s.cols[v].list.toNat default:=by rw[qK,hat v hil]
     have hnd:=fun k=>ji3 (k:=k) hv;rw[hat v hil] at d1 d3 d4;rw[hcl,qg d1] at d2 hnd;obtain⟨_,d5,d6⟩:=zf d2;obtain⟨w,b4,w1,w2,hb4,sQ⟩:=yu l b3 s.lists[s.cols[v].list.toNat].codes.length hl hb3 (by omega);refine XE.mp (fun _ _=>C1.draw 0 l b2 _ sV rfl rfl rfl) ?_;simp only[tZ,↓un_u,simprocAttr,Ax,qe hil,qe d1];refine XE.sd (by omega) (XE.sd (by omega) ?_);refine XE.mp (fun _ _=>C1.draw 0 l b3 _ sQ rfl rfl rfl) ?_;refine sW ?_;refine XE.sd (by kernel_rfl) ?_;refine XE.fin (.mk 2 v w 0 0 [],b4) ⟨yZ _ (hnd w w1 w2) rfl,hb4⟩ fun e ⟨_,hst⟩=>?_;exact .oA [(0,some 0)] []
    ·refine XE.brN (fun h2=>?_) (fun h2=>?_)
     ·refine XE.brN (fun _=>?_) (fun k=>absurd h2 k);obtain⟨v,b3,hv,hb3,sV⟩:=ZT s hd l b2 hl hb2;obtain⟨_,v2,v3⟩:=zH.1 hv;rw[Ax] at v3;have hil:v<s.cols.length:=by omega
      obtain⟨_,hM⟩:=hd.col hil v3;have hlo:=hM.low;rw[hat v hil] at hlo;obtain⟨w,b4,w1,w2,hb4,sQ⟩:=YL l b3 (-3) 40 hl hb3 (by omega) (by omega);obtain⟨z,b5,z1,z2,hb5,sZ⟩:=yu l b4 30 hl hb4 (by omega);have hw1:IntKind.i64.wrap (s.cols[v].low+w)=s.cols[v].low+w:=AK _ (by omega);have hw2:IntKind.i64.wrap (s.cols[v].low+w+z)=s.cols[v].low+w+z:=AK _ (by omega);refine XE.mp (fun _ _=>C1.draw 0 l b2 _ sV rfl rfl rfl) ?_;simp only[tZ,↓un_u,simprocAttr,Ax,qe hil];refine XE.sd (by omega) ?_;refine XE.mp (fun _ _=>C1.draw 0 l b3 _ sQ rfl rfl rfl) ?_;simp only[tZ,↓un_u,simprocAttr,hw1];refine XE.sd (by kernel_rfl) ?_;refine XE.mp (fun _ _=>C1.draw 0 l b4 _ sZ rfl rfl rfl) ?_;simp only[tZ,↓un_u,simprocAttr,hw2];refine XE.fin (.mk 3 v 0 (s.cols[v].low+w) (s.cols[v].low+w+z) [],b5) ⟨yZ _ (qq0 hv (by omega) (by omega) (by omega)) rfl,hb5⟩ fun e ⟨_,hst⟩=>?_;exact .oA [(0,some 0)] []
     ·refine XE.brN (fun h3=>?_) (fun h3=>?_)
      ·obtain⟨v,b3,hv,hb3,sV⟩:=ZT s hd l b2 hl hb2;obtain⟨_,v2,v3⟩:=zH.1 hv;rw[Ax] at v3;have hil:v<s.cols.length:=by omega
       obtain⟨_,hM⟩:=hd.col hil v3;have hlo:=hM.low;rw[hat v hil] at hlo;obtain⟨w,b4,w1,w2,hb4,sQ⟩:=YL l b3 (-3) 40 hl hb3 (by omega) (by omega);obtain⟨z,b5,z1,z2,hb5,sZ⟩:=yu l b4 30 hl hb4 (by omega);have hw1:IntKind.i64.wrap (s.cols[v].low+w)=s.cols[v].low+w:=AK _ (by omega);have hw2:IntKind.i64.wrap (s.cols[v].low+w+z)=s.cols[v].low+w+z:=AK _ (by omega);refine XE.mp (fun _ _=>C1.draw 0 l b2 _ sV rfl rfl rfl) ?_;simp only[tZ,↓un_u,simprocAttr,Ax,qe hil];refine XE.sd (by omega) ?_;refine XE.mp (fun _ _=>C1.draw 0 l b3 _ sQ rfl rfl rfl) ?_;simp only[tZ,↓un_u,simprocAttr,hw1];refine XE.sd (by kernel_rfl) ?_;refine XE.mp (fun _ _=>C1.draw 0 l b4 _ sZ rfl rfl rfl) ?_;simp only[tZ,↓un_u,simprocAttr,hw2];refine XE.fin (.mk 3 v 0 (s.cols[v].low+w) (s.cols[v].low+w+z) [],b5) ⟨yZ _ (qq0 hv (by omega) (by omega) (by omega)) rfl,hb5⟩ fun e ⟨_,hst⟩=>?_;exact .oA [(0,some 0)] []
      ·refine XE.brN (fun h4=>?_) (fun h4=>?_)
       ·obtain⟨v,b3,hv,hb3,sV⟩:=ZT s hd l b2 hl hb2;obtain⟨_,v2,v3⟩:=zH.1 hv;rw[Ax] at v3;have hil:v<s.cols.length:=by omega
        refine XE.mp (fun _ _=>C1.draw 0 l b2 _ sV rfl rfl rfl) ?_;simp only[tZ,↓un_u,simprocAttr,Ax,qe hil];refine XE.sd (by omega) ?_;refine XE.brB (fun h5=>?_) (fun h5=>?_)
        ·refine XE.fin (.mk 4 v 0 0 0 [],b3) ⟨yZ _ (jE8 hv (by rw[hat v hil];exact h5)) rfl,hb3⟩ fun e ⟨_,hst⟩=>?_;exact .oA [(0,some 0)] []
        ·refine XE.fin (.mk 1 0 0 0 0 [],b3) ⟨yZ _ (zg6 s) rfl,hb3⟩ fun e ⟨_,hst⟩=>?_;exact .oA [(0,some 0)] []
       ·refine XE.fin (.mk 1 0 0 0 0 [],b2) ⟨yZ _ (zg6 s) rfl,hb2⟩ fun e ⟨_,hst⟩=>?_;exact .oA [(0,some 0)] []
end Go.Proofs
namespace Go.Proofs
open Go Go.TL
set_option maxRecDepth 4000
set_option maxHeartbeats 8000000
theorem zg7 (s:Sch) (kind:Int):(YM s kind).Nodup:=by
 unfold YM qf7;show List.Pairwise (·≠·) _;rw[List.pairwise_map];exact ((List.nodup_range).filter _).imp fun h e=>h (by omega)
theorem DrS.code2 {s:Sch} (h:DrS s):(YM s 2).length≤2:=by
 obtain⟨ms,hc,h1,h3⟩:=h.cs;have key:∀ (pre:List Col) (n:Nat),s.cols=pre++ms→(∀ j (hj:j<ms.length),DrM (n+j) ms[j])→(YM s 2).length=(qf7 s 2 pre.length).length:=by
  intro pre n he hm;unfold YM;have k2:∀ m,pre.length+m≤s.cols.length→(qf7 s 2 (pre.length+m)).length=(qf7 s 2 pre.length).length:=by
   intro m
   induction m with
   | zero=>intro _;rfl
   | succ m ih=>
     intro hle;have hl:m<ms.length:=by rw[he,AW] at hle;omega
     have hk:(qj s (pre.length+m)).kind=3:=by
      rw[qj,he,CY,BJ (by omega),Nat.add_sub_cancel_left,CK hl];exact (hm m hl).kind
     rw[← Nat.add_assoc,kL,Aq (by rw[hk];decide),CW];exact ih (by omega)
  have:=k2 ms.length (by rw[he,AW];omega);rw[← AW,← he] at this;exact this
 rcases hc with⟨hc,hm⟩ | ⟨hc,hm⟩
 ·rw[key [whoC,sexC] 2 (by rw[hc];rfl) hm];have:=kL s 2 1;have h0:=kL s 2 0;have e0:(qj s 0).kind=1:=by rw[qj,hc];rfl
  rw[e0] at h0;show (qf7 s 2 (1+1)).length≤2;have:=qH0 s 2 2;omega
 ·rw[key [whoC,sexC,jobC] 3 (by rw[hc];rfl) hm];have h2:=kL s 2 2;have h1:=kL s 2 1;have h0:=kL s 2 0;have e0:(qj s 0).kind=1:=by rw[qj,hc];rfl
  have e1:(qj s 1).kind=2:=by rw[qj,hc];rfl
  have e2:(qj s 2).kind=2:=by rw[qj,hc];rfl
  rw[e0,Aq (by decide)] at h0;rw[e1,Aj rfl] at h1;rw[e2,Aj rfl] at h2;show (qf7 s 2 (2+1)).length≤2;rw[h2,h1,h0];simp [qf7]
structure DimOk (s:Sch) (L:List Int) (l:List Pk):Prop where
 cols:l.map (·.col)=L
 pick:∀ p∈l,Ql s p=0
theorem DimOk.dims {s:Sch} {L:List Int} {l:List Pk} (h:DimOk s L l) (h1:1≤L.length) (h2:L.length≤3) (hn:L.Nodup) (hc:∀ v∈L,isB s v 2=true):Wq s l=0:=by
 have hl:l.length=L.length:=by rw[← h.cols,BY]
 rw[Wq,Aq (by omega)];refine Wp fun i hi=>?_;have hpi:pkAt l i=l[i]:=by rw[pkAt,qg hi]
 have hm:l[i]∈l:=AX hi;rw[dimE,hpi,Aq (by rw[h.pick _ hm];simp),Aq (by rw[hc _ (by rw[← h.cols];exact List.mem_map_of_mem hm)];simp),Aq];intro k;obtain⟨x,hx,e⟩:=DJ.1 k;obtain⟨j,hj,rfl⟩:=List.mem_take_iff_getElem.1 hx;rw[← h.cols] at hn;have:=DX.1 hn j i (by simp;omega) (by simp;omega) (by omega);simp only[Fj] at this;exact this (AY.1 e)
theorem jF0 {s:Sch} (hE:schE s=0) {v:Nat} (h:isB s v 2=true∨isB s v 3=true):1≤v∧v<s.cols.length∧0≤finI s v∧finI s v≤59:=by
 have hok:=qO hE;have hb:∃ k,2≤k∧isB s v k=true:=by rcases h with h | h <;> exact⟨_,by omega,h⟩
 obtain⟨k,hk,hb⟩:=hb;obtain⟨_,b2,b3⟩:=zH.1 hb;rw[Ax] at b3;have hv:v≠0:=fun e=>by subst e;have:=hok.c0;omega
 refine⟨by omega,by omega,?_,qn4 hE⟩;rw[finI,Aq (by omega),Ax];split
 ·rename_i h2;have:=zA0 (hok.cdl (by omega) h2).2;omega
 ·omega
theorem wR (s:Sch) (hd:DrS s) (l:List UInt8) (a:Nat) (hl:l.length≤400) (ha:a≤l.length) :
 ∃ r:List Pk×Nat,(Wq s r.1=0∧r.2≤l.length)∧Spc Tryz.prog Zu [.ptr 0 1 0 0,schT s] [(0,oC l a)] (vPs r.1) [(0,oC l r.2)]:=by
 have hE:=hd.ok;have hok:=qO hE;have hnc:=hok.nc;have hc:=Jc s 2 (by omega);have hm:=fun v=>(Wu (s:=s) (kind:=2) (v:=v)).1;have hnd:=zg7 s 2;have hc2:=hd.code2;obtain⟨k1,k2⟩:=hd.code;generalize YM s 2=L at hc hm hnd hc2 k1 k2;obtain⟨o,a1,ha1,sO⟩:=jE5 l a 2 hl ha (by omega);obtain⟨j,a2,j1,j2,ha2,sN⟩:=yu l a1 L.length hl ha1 (by omega);obtain⟨m,rfl⟩:=AJ j1;refine jd qC9 mixm (fun r:List Pk×Nat=>vPs r.1) (fun r=>[(0,oC l r.2)]) (by simp) ?_;unfold QO;refine sW ?_;refine XE.mp (fun _ _=>C1.im hc (by rfl) (by rfl)) ?_;refine sW ?_;refine XE.mp (fun _ _=>C1.draw 0 l a _ sO rfl rfl rfl) ?_;refine sW ?_;refine XE.brB (fun ho=>?_) (fun ho=>?_)
 focus
  refine XE.mp (fun _ _=>C1.draw 0 l a1 _ sN rfl rfl rfl) ?_;simp only[tZ,↓un_u,simprocAttr,qk1,jN0];have hmd:∀ v∈L.drop m,isB s v 2=true:=fun v hv=>hm v (EW hv);have hnd2:(L.drop m).Nodup:=hnd.sublist (List.drop_sublist m L);have hl2:1≤(L.drop m).length∧(L.drop m).length≤2:=by rw[List.length_drop];omega
  generalize L.drop m=M at hmd hnd2 hl2 ⊢
  obtain⟨b,hb⟩:∃ b,b=a2:=⟨_,rfl⟩;rw[← hb];have hb:b≤l.length:=by omega
  refine XE.sd (by omega) ?_
 rotate_left
 focus
  have hmd:=hm;have hnd2:=hnd;have hl2:1≤L.length∧L.length≤2:=by omega
  obtain⟨M,hM⟩:∃ M,M=L:=⟨_,rfl⟩;rw[← hM] at hmd hnd2 hl2 ⊢
  obtain⟨b,hb⟩:∃ b,b=a1:=⟨_,rfl⟩;rw[← hb];have hb:b≤l.length:=by omega
 all_goals (
  refine XE.loopF mixm [5,20] (fun y:List Pk×Nat=>y.1.length≤M.length∧DimOk s (M.take y.1.length) y.1∧y.2≤l.length) (fun y=>[(5,.asl 1 y.1.length),(20,vI y.1.length)]) (fun y=>[(0,oC l y.2),(4096,.arr 2 [schT s] false),(1,.arr 2 (y.1.map pkT) false)]) (fun y=>M.length-y.1.length) ([],b) ⟨by simp,⟨rfl,by simp⟩,hb⟩ (fun e ⟨_,hst⟩=>?_) fun T' y hy ih=>?_
  ·exact .oA [(0,some 0),(4096,some 4096),(1,none)] []
  obtain⟨ps,a4⟩:=y;obtain⟨y1,y2,y3⟩:=hy;dsimp only at y1 y2 y3;simp only[tZ,↓un_u,simprocAttr,AZ,Ay];refine XE.brN (fun h4=>?_) (fun h4=>?_)
  ·have hi2:ps.length<M.length:=by omega
   have hwi:=qk (i:=ps.length) (by omega);have hiB:=hmd _ (AX hi2);have htk:=qM hi2;obtain⟨v,hv⟩:=AJ (zH.1 hiB).1;have hgv:(M.map vI).getD ps.length .junk=vI v:=by rw[qe hi2,hv]
   rw[hv] at hiB htk;obtain⟨f1,f2,f3,f4⟩:=jF0 hE (.inl hiB);have hFin:=kK s hok.sm v;obtain⟨w,a5,w1,w2,hw,sQ⟩:=yu l a4 (finI s v+1) hl y3 (by omega);have hwf:IntKind.i64.wrap (finI s v+1)=finI s v+1:=AK _ (by omega);simp only[tZ,↓un_u,simprocAttr,Ax,hgv];refine XE.sd (by omega) (XE.sd (by omega) ?_);refine XE.mp (fun _ _=>C1.im hFin (by rfl) (by rfl)) ?_;simp only[tZ,↓un_u,simprocAttr,hwf];refine XE.mp (fun _ _=>C1.draw 0 l a4 _ sQ rfl rfl rfl) ?_;simp only[tZ,↓un_u,simprocAttr,hwi];refine XE.sd (by omega) (XE.sd (by kernel_rfl) ?_);refine XE.next ih (ps++[⟨v,w⟩],a5) ⟨by simp;omega,⟨?_,fun p hp=>?_⟩,hw⟩ (by simp;omega) fun e ⟨_,hst⟩=>?_
   ·dsimp only;rw[AW,By,y2.cols];exact htk.symm
   ·rcases Dz.1 hp with hp | hp
    ·exact y2.pick p hp
    ·rw[Ey.1 hp,Ql,Aq (by rw[hE];simp),Aq (by dsimp only;omega),Aq];rw[Ez,wB];dsimp only;omega
   ·exact .oA [(0,some 0),(4096,some 4096),(1,some 1)] []
  ·have hil:ps.length=M.length:=by omega
   rw[hil,Bw] at y2;refine XE.fin (ps,a4) ⟨y2.dims hl2.1 (by omega) hnd2 hmd,y3⟩ fun e ⟨_,hst⟩=>?_;exact .oA [(0,some 0)] [1]
  )
end Go.Proofs
namespace Go.Proofs
open Go Go.TL
set_option maxRecDepth 4000
set_option maxHeartbeats 8000000
theorem DrS.meas3 {s:Sch} (h:DrS s):(YM s 3).length≤3:=by
 obtain⟨ms,hc,h1,h3⟩:=h.cs;have key:∀ n,(qf7 s 3 n).length≤n-2:=by
  have e0:(qj s 0).kind=1:=by rcases hc with⟨hc,_⟩ | ⟨hc,_⟩ <;> (rw[qj,hc];rfl)
  have e1:(qj s 1).kind=2:=by rcases hc with⟨hc,_⟩ | ⟨hc,_⟩ <;> (rw[qj,hc];rfl)
  intro n
  induction n with
  | zero=>simp [qf7]
  | succ n ih=>
    rw[kL,AW];by_cases k0:n=0
    ·subst k0;rw[e0,Aq (by decide),Cw];omega
    ·by_cases k1:n=1
     ·subst k1;rw[e1,Aq (by decide),Cw];omega
     ·split <;> simp <;> omega
 rcases hc with⟨hc,hm⟩ | ⟨hc,hm⟩
 ·have:=key s.cols.length;have hl:s.cols.length=ms.length+2:=by rw[hc];rfl
  unfold YM;omega
 ·have e2:(qj s 2).kind=2:=by rw[qj,hc];rfl
  have k2:∀ n,3≤n→(qf7 s 3 n).length≤n-3:=by
   intro n hn
   induction n with
   | zero=>omega
   | succ n ih=>
     by_cases k:n=2
     ·subst k;rw[kL,e2,Aq (by decide),CW];have:=key 2;omega
     ·rw[kL,AW];have:=ih (by omega);split <;> simp <;> omega
  have hl:s.cols.length=ms.length+3:=by rw[hc];rfl
  have:=k2 s.cols.length (by omega);unfold YM;omega
theorem jO9 {s:Sch} {m:Int} {ts:List Int} (h1:1≤ts.length) (h2:ts.length≤3) (h3:∀ v∈ts,isB s v 3=true∧v≠m) (h4:ts.Nodup):wU s m ts=0:=by
 rw[wU,Aq (by omega)];refine Wp fun i hi=>?_;have hpi:ts.getD i 0=ts[i]:=qg hi;obtain⟨a,b⟩:=h3 _ (AX hi);rw[qV2,hpi,Aq (by rw[a];simp),Aq];rintro (k | k)
 ·exact b k
 ·obtain⟨j,hj,e⟩:=List.mem_take_iff_getElem.1 (FQ.1 k);exact DX.1 h4 j i (by omega) hi (by omega) e
theorem qH2 (s:Sch) (hd:DrS s) (m:Int) (l:List UInt8) (a:Nat) (hl:l.length≤400) (ha:a≤l.length) :
 ∃ r:List Int×Nat,((r.1.length≤3∧(0<r.1.length→wU s m r.1=0))∧r.2≤l.length)∧Spc Tryz.prog QA [.ptr 0 1 0 0,schT s,vI m] [(0,oC l a)] (vIs r.1) [(0,oC l r.2)]:=by
 have hE:=hd.ok;have hnc:=(qO hE).nc;have hc:=Jc s 3 (by omega);have hm:=fun v=>(Wu (s:=s) (kind:=3) (v:=v)).1;have hnd:=zg7 s 3;have hc3:=hd.meas3;generalize YM s 3=L at hc hm hnd hc3;refine jd qx0 mixm (fun r:List Int×Nat=>vIs r.1) (fun r=>[(0,oC l r.2)]) (by simp) ?_;unfold yR;refine sW ?_;refine XE.mp (fun _ _=>C1.im hc (by rfl) (by rfl)) ?_;refine sW ?_;refine XE.loopF mixm [7,14] (fun y:Nat×List Int×Nat=>y.1≤L.length∧y.2.1.Sublist (L.take y.1)∧(∀ v∈y.2.1,v≠m)∧y.2.2≤l.length) (fun y=>[(7,.asl 1 y.2.1.length),(14,vI y.1)]) (fun y=>[(0,oC l y.2.2),(4096,.arr 2 [schT s] false),(1,.arr 1 (y.2.1.map vI) false)]) (fun y=>L.length-y.1) (0,[],a) ⟨by simp,by simp,by simp,ha⟩ (fun e ⟨_,hst⟩=>?_) fun T' y hy ih=>?_
 ·exact .oA [(0,some 0),(4096,some 4096),(1,none)] []
 obtain⟨i,ts,a1⟩:=y;obtain⟨y1,y2,y3,y4⟩:=hy;dsimp only at y1 y2 y3 y4;have hsl:=y2.length_le;rw[Cz] at hsl;simp only[tZ,↓un_u,simprocAttr,AZ,Ay];refine XE.brN (fun h4=>?_) (fun h4=>?_)
 ·have hi2:i<L.length:=by omega
  have hwi:=qk (i:=i) (by omega);have htk:=qM hi2;have hsub:ts.Sublist (L.take (i+1)):=by rw[htk];exact y2.trans (List.sublist_append_left _ _)
  have hsub2:(ts++[L[i]]).Sublist (L.take (i+1)):=by rw[htk];exact y2.append (List.Sublist.refl _)
  have hgi:(L.map vI).getD i .junk=vI L[i]:=qe hi2;obtain⟨o,a2,ha2,sO⟩:=jE5 l a1 2 hl y4 (by omega);generalize L[i]=v at hgi hsub2;simp only[tZ,↓un_u,simprocAttr,Ax,hgi];refine XE.sd (by omega) ?_;by_cases hv:v=m
  ·have q:(v != m)=false:=Aw.2 hv;simp only[tZ,↓un_u,simprocAttr,q];refine XE.mp (fun _ _=>C2.no (by simp)) ?_;simp only[tZ,↓un_u,simprocAttr,hwi];refine XE.next ih (i+1,ts,a1) ⟨by dsimp only;omega,hsub,y3,y4⟩ (by dsimp only;omega) fun e ⟨_,hst⟩=>?_;exact .oA [(0,some 0),(4096,some 4096),(1,some 1)] []
  ·have q:(v != m)=true:=Bj.2 hv;have hin:∀ u∈ts++[v],u≠m:=fun u hu=>by
    rcases Dz.1 hu with h | h
    ·exact y3 u h
    ·rw[Ey.1 h];exact hv
   by_cases hts:ts.length=0
   ·have q2:((ts.length:Int)==0)=true:=AY.2 (by omega);simp only[tZ,↓un_u,simprocAttr,q,q2];refine XE.mp (fun _ _=>C2.no (by simp)) ?_;simp only[tZ,↓un_u,simprocAttr,Ax,hgi,hwi];refine XE.sd (by omega) (XE.sd (by omega) ?_);refine XE.next ih (i+1,ts++[v],a1) ⟨by dsimp only;omega,hsub2,hin,y4⟩ (by dsimp only;omega) fun e ⟨_,hst⟩=>?_;exact .oA [(0,some 0),(4096,some 4096),(1,some 1)] []
   ·have q2:((ts.length:Int)==0)=false:=Ak.2 (by omega);simp only[tZ,↓un_u,simprocAttr,q,q2];refine XE.mp (fun _ _=>C2.one (by trivial)) ?_;refine XE.mp (fun _ _=>C1.draw 0 l a1 _ sO rfl rfl rfl) ?_;simp only[tZ,↓un_u,simprocAttr,Ax,hgi,hwi];refine XE.brB (fun h5=>?_) (fun h5=>?_)
    ·refine XE.sd (by omega) (XE.sd (by omega) ?_);refine XE.next ih (i+1,ts++[v],a2) ⟨by dsimp only;omega,hsub2,hin,ha2⟩ (by dsimp only;omega) fun e ⟨_,hst⟩=>?_;exact .oA [(0,some 0),(4096,some 4096),(1,some 1)] []
    ·refine XE.next ih (i+1,ts,a2) ⟨by dsimp only;omega,hsub,y3,ha2⟩ (by dsimp only;omega) fun e ⟨_,hst⟩=>?_;exact .oA [(0,some 0),(4096,some 4096),(1,some 1)] []
 ·have hil:i=L.length:=by omega
  rw[hil,Bw] at y2;refine XE.fin (ts,a1) ⟨⟨by dsimp only;omega,fun h=>jO9 h (by dsimp only;omega) (fun v hv=>⟨hm v (y2.subset hv),y3 v hv⟩) (hnd.sublist y2)⟩,y4⟩ fun e ⟨_,hst⟩=>?_;exact .oA [(0,some 0)] [1]
end Go.Proofs
namespace Go.Proofs
open Go Go.TL
set_option maxRecDepth 4000
set_option maxHeartbeats 8000000
theorem ki9:qa6 cnd0 cnd0=true:=by decide +kernel
theorem qX1 {s:Sch} {nm:ByteArray} {c:Cnd} {ds:List Pk} {m:Int} (hE:schE s=0) (h1:jq nm=true) (h2:chkC s c=0) (h3:Wq s ds=0) (h4:m = -1∨isB s m 3=true):qstE s ⟨nm,1,c,ds,m,[],cnd0⟩=0:=by
 have hp:wV s ⟨nm,1,c,ds,m,[],cnd0⟩=0:=by
  rw[wV,Aj rfl,Aq (by rw[h3];simp),Aq];rintro ⟨a,b⟩;rcases h4 with h | h
  ·exact a h
  ·rw[h] at b;cases b
 rw[qstE,Aq (by rw[hE];simp),Aq (by rw[h1];simp),Aq (by simp),Aq (by rw[h2];simp),Aq (by rw[hp];simp),Aq (by rw[ki9];simp)]
theorem jP0 {s:Sch} {nm:ByteArray} {c:Cnd} {ts:List Int} {m:Int} (hE:schE s=0) (h1:jq nm=true) (h2:chkC s c=0) (h3:wU s m ts=0) (h4:isB s m 3=true):qstE s ⟨nm,2,c,[],m,ts,cnd0⟩=0:=by
 have hp:wV s ⟨nm,2,c,[],m,ts,cnd0⟩=0:=by
  rw[wV,Aq (by simp),Aj rfl,Aq (by rw[h4];simp)];exact h3
 rw[qstE,Aq (by rw[hE];simp),Aq (by rw[h1];simp),Aq (by simp),Aq (by rw[h2];simp),Aq (by rw[hp];simp),Aq (by rw[ki9];simp)]
theorem jP1 {s:Sch} {nm:ByteArray} {c d:Cnd} {m:Int} (hE:schE s=0) (h1:jq nm=true) (h2:chkC s c=0) (h3:chkC s d=0) (h4:isB s m 3=true) (h5:0≤(qj s m.toNat).low):qstE s ⟨nm,3,c,[],m,[],d⟩=0:=by
 have hp:wV s ⟨nm,3,c,[],m,[],d⟩=0:=by
  rw[wV,Aq (by simp),Aq (by simp),Aq (by rw[h4];simp),Aq (by dsimp only;omega)];exact h3
 rw[qstE,Aq (by rw[hE];simp),Aq (by rw[h1];simp),Aq (by simp),Aq (by rw[h2];simp),Aq (by rw[hp];simp),Aq (by simp)]
theorem CndOk.mono {s:Sch} {n m:Nat} {c:Cnd} (h:CndOk s n c) (hn:n≤m):CndOk s m c:=by
 have h1:=h.dep;have h2:=h.siz;have h3:2 ^ (n+1)≤2 ^ (m+1):=Nat.pow_le_pow_right (by omega) (by omega);exact⟨h.ok,by omega,by omega⟩
theorem qi6 (s:Sch) (hd:DrS s) (nm:ByteArray) (hnm:jq nm=true) (l:List UInt8) (a:Nat) (hl:l.length≤400) (ha:a≤l.length) :
 ∃ r:Qst×Nat,((qstE s r.1=0∧r.1.name=nm∧CndOk s 2 r.1.filt)∧r.2≤l.length)∧Spc Tryz.prog jB [.ptr 0 1 0 0,schT s,vS nm] [(0,oC l a)] (qstT r.1) [(0,oC l r.2)]:=by
 have hE:=hd.ok;have hok:=qO hE;have hnc:=hok.nc;have hat:∀ i (h:i<s.cols.length),qj s i=s.cols[i]:=fun i h=>by rw[qj,qg h]
 obtain⟨j,a1,j1,j2,ha1,sN⟩:=yu l a 3 hl ha (by omega);obtain⟨D,rfl⟩:=AJ j1;obtain⟨⟨c,a2⟩,⟨hc,ha2⟩,sC⟩:=ZU s hd l hl D a1 ha1 (by omega);dsimp only at hc ha2 sC;have hcf:=hc.chk hE (by omega);have hcm:=hc.mono (m:=2) (by omega);obtain⟨v,a3,hv,ha3,sV⟩:=ZT s hd l a2 hl ha2;obtain⟨_,v2,v3⟩:=zH.1 hv;rw[Ax] at v3;have hil:v<s.cols.length:=by omega
 obtain⟨w,a4,w1,w2,ha4,sK⟩:=yu l a3 4 hl ha3 (by omega);refine jd qh3 mixm (fun r:Qst×Nat=>qstT r.1) (fun r=>[(0,oC l r.2)]) (by simp) ?_;unfold kP;refine sW ?_;refine XE.mp (fun _ _=>C1.draw 0 l a _ sN rfl rfl rfl) ?_;refine sW ?_;refine XE.mp (fun _ _=>C1.draw 0 l a1 _ sC rfl rfl rfl) ?_;refine sW ?_;refine XE.sd (by kernel_rfl) ?_;refine XE.mp (fun _ _=>C1.draw 0 l a2 _ sV rfl rfl rfl) ?_;refine sW ?_;refine XE.mp (fun _ _=>C1.draw 0 l a3 _ sK rfl rfl rfl) ?_;simp only[tZ,↓un_u,simprocAttr,AY,Ak];refine XE.brN (fun h1=>?_) (fun h1=>XE.brN (fun h2=>?_) (fun h2=>XE.brN (fun h3=>?_) (fun h3=>?_)))
 ·obtain⟨⟨ds,b2⟩,⟨hds,hb2⟩,sQ⟩:=wR s hd l a4 hl ha4;dsimp only at hds hb2 sQ;refine XE.mp (fun _ _=>C1.draw 0 l a4 _ sQ rfl rfl rfl) ?_;refine sW ?_;refine XE.fin (⟨nm,1,c,ds,v,[],cnd0⟩,b2) ⟨⟨qX1 hE hnm hcf hds (.inr hv),rfl,hcm⟩,hb2⟩ fun e ⟨_,hst⟩=>?_;exact .oA [(0,some 0)] []
 ·obtain⟨⟨ts,a5⟩,⟨⟨ht1,ht2⟩,ha5⟩,sT⟩:=qH2 s hd v l a4 hl ha4;dsimp only at ht1 ht2 ha5 sT;refine XE.mp (fun _ _=>C1.draw 0 l a4 _ sT rfl rfl rfl) ?_;simp only[tZ,↓un_u,simprocAttr,AZ,Ay];refine XE.brN (fun h3=>?_) (fun h3=>?_)
  ·refine XE.fin (⟨nm,2,c,[],v,ts,cnd0⟩,a5) ⟨⟨jP0 hE hnm hcf (ht2 (by omega)) hv,rfl,hcm⟩,ha5⟩ fun e ⟨_,hst⟩=>?_;exact .oA [(0,some 0)] []
  ·obtain⟨⟨ds,b2⟩,⟨hds,hb2⟩,sQ⟩:=wR s hd l a5 hl ha5;dsimp only at hds hb2 sQ;refine XE.mp (fun _ _=>C1.draw 0 l a5 _ sQ rfl rfl rfl) ?_;refine sW ?_;refine XE.fin (⟨nm,1,c,ds,-1,[],cnd0⟩,b2) ⟨⟨qX1 hE hnm hcf hds (.inl rfl),rfl,hcm⟩,hb2⟩ fun e ⟨_,hst⟩=>?_;exact .oA [(0,some 0)] []
 ·simp only[tZ,↓un_u,simprocAttr,Ax,qe hil,AZ,Ay];refine XE.sd (by omega) ?_;refine XE.brN (fun h4=>?_) (fun h4=>?_)
  ·obtain⟨⟨d,a5⟩,⟨hdc,ha5⟩,sE⟩:=ZU s hd l hl 1 a4 ha4 (by omega);dsimp only at hdc ha5 sE;refine XE.mp (fun _ _=>C1.draw 0 l a4 _ sE rfl rfl rfl) ?_;refine sW ?_;refine XE.fin (⟨nm,3,c,[],v,[],d⟩,a5) ⟨⟨jP1 hE hnm hcf (hdc.chk hE (by omega)) hv (by rw[Ax,hat v hil];omega),rfl,hcm⟩,ha5⟩ fun e ⟨_,hst⟩=>?_;exact .oA [(0,some 0)] []
  ·obtain⟨⟨ds,b2⟩,⟨hds,hb2⟩,sQ⟩:=wR s hd l a4 hl ha4;dsimp only at hds hb2 sQ;refine XE.mp (fun _ _=>C1.draw 0 l a4 _ sQ rfl rfl rfl) ?_;refine sW ?_;refine XE.fin (⟨nm,1,c,ds,-1,[],cnd0⟩,b2) ⟨⟨qX1 hE hnm hcf hds (.inl rfl),rfl,hcm⟩,hb2⟩ fun e ⟨_,hst⟩=>?_;exact .oA [(0,some 0)] []
 ·obtain⟨⟨ds,b2⟩,⟨hds,hb2⟩,sQ⟩:=wR s hd l a4 hl ha4;dsimp only at hds hb2 sQ;refine XE.mp (fun _ _=>C1.draw 0 l a4 _ sQ rfl rfl rfl) ?_;refine sW ?_;refine XE.fin (⟨nm,1,c,ds,-1,[],cnd0⟩,b2) ⟨⟨qX1 hE hnm hcf hds (.inl rfl),rfl,hcm⟩,hb2⟩ fun e ⟨_,hst⟩=>?_;exact .oA [(0,some 0)] []
theorem jH (s:Sch) (hd:DrS s) (nm:ByteArray) (hnm:jq nm=true) (l:List UInt8) (a:Nat) (hl:l.length≤400) (ha:a≤l.length) :
 ∃ r:Qst×Nat,((qstE s r.1=0∧r.1.name=nm)∧r.2≤l.length)∧Spc Tryz.prog jB [.ptr 0 1 0 0,schT s,vS nm] [(0,oC l a)] (qstT r.1) [(0,oC l r.2)]:=by
 obtain⟨r,⟨⟨h1,h2,_⟩,h3⟩,h⟩:=qi6 s hd nm hnm l a hl ha;exact⟨r,⟨⟨h1,h2⟩,h3⟩,h⟩
end Go.Proofs
