/- A part of the proof: trees of Go values, short forms, contracts. -/
import Derived.Test.YthbdcffpkbmlaaaGreatDoorK18
namespace Go.Proofs
open Go Go.TL
set_option maxRecDepth 4000
set_option maxHeartbeats 4000000
theorem YV (l:List UInt8) (a:Nat) (hl:l.length≤400) (ha:a≤l.length) :
 ∃ r:Sch×Nat,(DrS r.1∧r.2≤l.length)∧Sp 66 [.ptr 0 1 0 0] [(0,oC l a)] (schT r.1) [(0,oC l r.2)]:=by
 obtain⟨⟨A,a1⟩,⟨dA,ha1⟩,sA⟩:=ZY zp8 (.inl rfl) l a hl ha;obtain⟨⟨B,a2⟩,⟨dB,ha2⟩,sB⟩:=ZY zp9 (.inr rfl) l a1 hl ha1;dsimp only at dA ha1 sA dB ha2 sB;have h1:=kg l a2 2 hl ha2 oM;have b1:=qb7 l a2 2 ha2;generalize (nx l a2 2).2=a3 at h1 b1;generalize oneB l a2 2=o at h1;have h2:=zH l a3 1 3 hl b1 oM oM;have r2:=ke l a3 (3-1+1) oM;have b2:=qb7 l a3 (3-1+1) b1;generalize nx l a3 (3-1+1)=x2 at h2 r2 b2;obtain⟨N,hN⟩:=AJ (show 0≤1+x2.1 by omega);rw[hN] at h2;refine jF WI mixm (fun r:Sch×Nat=>schT r.1) (fun r=>[(0,oC l r.2)]) sMp ?_;unfold jU;refine sW ?_;refine XE.mp (fun _ _=>C1.draw 0 l a _ sA rfl rfl rfl) ?_;refine sW ?_;refine XE.mp (fun _ _=>C1.draw 0 l a1 _ sB rfl rfl rfl) ?_;refine sW ?_;refine XE.mp (fun _ _=>C1.draw 0 l a2 _ h1 rfl rfl rfl) ?_;refine sW ?_;refine XE.brB (fun ho=>?_) (fun ho=>?_)
 ·refine XE.mp (fun _ _=>C1.draw 0 l a3 _ h2 rfl rfl rfl) ?_;refine sW ?_;refine XE.loopF mixm [4,15] (fun y:List Col×Nat=>y.1.length≤N∧(∀ i (h:i<y.1.length),DrM (3+i) y.1[i])∧y.2≤l.length) (fun y=>[(4,vI ((N-y.1.length:Nat):Int))]) (fun y=>[(0,oC l y.2),aR 4096 2 [schT default],aR 8208 2 [cdlT A,cdlT B],aR 8220 7 (([whoC,sexC,jobC]++y.1).map colT),aR 8228 2 [.agg [.asl 8208 2,.asl 8220 (3+y.1.length)]]]) (fun y=>N-y.1.length) ([],x2.2) ⟨sMp,fun i h=>by simp at h,b2⟩ (fun e ⟨_,hst⟩=>?_) fun T' y hy ih=>?_
  ·show Le _ _ ⟨[(4,vI N),(0,_),(2,_),(3,_)],[(0,oC l x2.2),aR 4096 2 [schT default],aR 8208 2 [cdlT A,cdlT B],aR 8220 7 [colT whoC,colT sexC,colT jobC],aR 8228 2 [.agg [.asl 8208 2,.asl 8220 3]]]⟩;exact .oA (U5 0 4096 8208 8220 8228) []
  obtain⟨ms,a4⟩:=y;obtain⟨y1,y2,y3⟩:=hy;dsimp only at y1 y2 y3;simp only[tZ,↓uU,simprocAttr,AZ,Ay];refine XE.brN (fun h4=>?_) (fun h4=>?_)
  ·have hlt:ms.length<N:=by omega
   have hI:=zN6 (3+ms.length) oM;obtain⟨⟨M,a5⟩,⟨dM,ha5⟩,sM⟩:=yr (3+ms.length) l a4 hl y3;dsimp only at dM ha5 sM;have hwk:=kM (i:=N-ms.length) oM oM;refine XE.sd oM ?_;refine XE.mp (fun _ _=>C1.im hI rF rF) ?_;simp only[tZ,↓uU,simprocAttr,zN5];refine XE.sd (show 1+1≤9223372036854775807 by omega) ?_;refine XE.mp (fun _ _=>C1.draw 0 l a4 _ sM rfl rfl rfl) ?_;simp only[tZ,↓uU,simprocAttr,hwk];refine XE.sd oM (XE.sd oM (XE.sd kR ?_));refine XE.next ih (ms++[M],a5) ⟨by simp;omega,fun i h=>?_,ha5⟩ (by simp;omega) fun e ⟨_,hst⟩=>?_
   ·dsimp only at h ⊢
    by_cases hi:i<ms.length
    ·rw[List.getElem_append_left hi];exact y2 i hi
    ·have he:i=ms.length:=by rw[AW] at h;simp at h;omega
     subst he;rw[List.getElem_append_right (BZ _)];simpa using dM
   ·have e1:N-(ms++[M]).length=N-ms.length-1:=by rw[AW];simp;omega
    simp only[e1];exact .oA (U5 0 4096 8208 8220 8228) []
  ·have hnl:ms.length=N:=by omega
   refine XE.fin (⟨[A,B],[whoC,sexC,jobC]++ms⟩,a4) ⟨⟨⟨A,B,rfl,dA,dB⟩,⟨ms,.inr ⟨rfl,y2⟩,oM,oM⟩⟩,y3⟩ fun e ⟨_,hst⟩=>?_;refine⟨oM,?_⟩;exact .oA (U1 0) [8208,8220]
 ·refine XE.mp (fun _ _=>C1.draw 0 l a3 _ h2 rfl rfl rfl) ?_;refine sW ?_;refine XE.loopF mixm [4,15] (fun y:List Col×Nat=>y.1.length≤N∧(∀ i (h:i<y.1.length),DrM (2+i) y.1[i])∧y.2≤l.length) (fun y=>[(4,vI ((N-y.1.length:Nat):Int))]) (fun y=>[(0,oC l y.2),aR 4096 2 [schT default],aR 8208 2 [cdlT A,cdlT B],aR 8220 7 (([whoC,sexC]++y.1).map colT),aR 8228 2 [.agg [.asl 8208 2,.asl 8220 (2+y.1.length)]]]) (fun y=>N-y.1.length) ([],x2.2) ⟨sMp,fun i h=>by simp at h,b2⟩ (fun e ⟨_,hst⟩=>?_) fun T' y hy ih=>?_
  ·show Le _ _ ⟨[(4,vI N),(0,_),(2,_),(3,_)],[(0,oC l x2.2),aR 4096 2 [schT default],aR 8208 2 [cdlT A,cdlT B],aR 8220 7 [colT whoC,colT sexC],aR 8228 2 [.agg [.asl 8208 2,.asl 8220 2]]]⟩;exact .oA (U5 0 4096 8208 8220 8228) []
  obtain⟨ms,a4⟩:=y;obtain⟨y1,y2,y3⟩:=hy;dsimp only at y1 y2 y3;simp only[tZ,↓uU,simprocAttr,AZ,Ay];refine XE.brN (fun h4=>?_) (fun h4=>?_)
  ·have hlt:ms.length<N:=by omega
   have hI:=zN6 (2+ms.length) oM;obtain⟨⟨M,a5⟩,⟨dM,ha5⟩,sM⟩:=yr (2+ms.length) l a4 hl y3;dsimp only at dM ha5 sM;have hwk:=kM (i:=N-ms.length) oM oM;refine XE.sd oM ?_;refine XE.mp (fun _ _=>C1.im hI rF rF) ?_;simp only[tZ,↓uU,simprocAttr,zN5];refine XE.sd (show 1+1≤9223372036854775807 by omega) ?_;refine XE.mp (fun _ _=>C1.draw 0 l a4 _ sM rfl rfl rfl) ?_;simp only[tZ,↓uU,simprocAttr,hwk];refine XE.sd oM (XE.sd oM (XE.sd kR ?_));refine XE.next ih (ms++[M],a5) ⟨by simp;omega,fun i h=>?_,ha5⟩ (by simp;omega) fun e ⟨_,hst⟩=>?_
   ·dsimp only at h ⊢
    by_cases hi:i<ms.length
    ·rw[List.getElem_append_left hi];exact y2 i hi
    ·have he:i=ms.length:=by rw[AW] at h;simp at h;omega
     subst he;rw[List.getElem_append_right (BZ _)];simpa using dM
   ·have e1:N-(ms++[M]).length=N-ms.length-1:=by rw[AW];simp;omega
    simp only[e1];exact .oA (U5 0 4096 8208 8220 8228) []
  ·have hnl:ms.length=N:=by omega
   refine XE.fin (⟨[A,B],[whoC,sexC]++ms⟩,a4) ⟨⟨⟨A,B,rfl,dA,dB⟩,⟨ms,.inl ⟨rfl,y2⟩,oM,oM⟩⟩,y3⟩ fun e ⟨_,hst⟩=>?_;refine⟨oM,?_⟩;exact .oA (U1 0) [8208,8220]
theorem DrS.col {s:Sch} (h:DrS s) {i:Nat} (hi:i<s.cols.length) (hk:(qj s i).kind=3):∃ n,DrM n (qj s i):=by
 obtain⟨ms,hc,h1,h3⟩:=h.cs;have key:∀ (pre:List Col) (n:Nat),(∀ c∈pre,c.kind≠3)→s.cols=pre++ms→(∀ j (hj:j<ms.length),DrM (n+j) ms[j])→∃ n,DrM n (qj s i):=by
  intro pre n hp he hm;rw[qj,qg hi] at hk ⊢
  by_cases c:i<pre.length
  ·have e:s.cols[i]=pre[i]:=by simp only[he];exact List.getElem_append_left c
   rw[e] at hk;exact absurd hk (hp _ (AX c))
  ·have hl:i-pre.length<ms.length:=by rw[he,AW] at hi;omega
   have e:s.cols[i]=ms[i-pre.length]:=by simp only[he];exact List.getElem_append_right oM
   rw[e];exact⟨_,hm _ hl⟩
 rcases hc with⟨hc,hm⟩ | ⟨hc,hm⟩
 ·exact key [whoC,sexC] 2 (by simp [whoC,sexC]) (by rw[hc];rfl) hm
 ·exact key [whoC,sexC,jobC] 3 (by simp [whoC,sexC,jobC]) (by rw[hc];rfl) hm
theorem DrS.nl {s:Sch} (h:DrS s):s.lists.length=2:=by
 obtain⟨a,b,e,_⟩:=h.ls;rw[e];rfl
theorem YW (s:Sch) (hd:DrS s) (i:Nat) (hi:i<s.cols.length) (l:List UInt8) (a:Nat) (hl:l.length≤400) (ha:a≤l.length) :
 ∃ r:Int×Nat,(zn s i r.1=true∧(i=0→r.1≤60)∧r.2≤l.length)∧Sp 118 [.ptr 0 1 0 0,schT s,vI i] [(0,oC l a)] (vI r.1) [(0,oC l r.2)]:=by
 have hE:=hd.ok;have hok:=qU hE;have hat:qj s i=s.cols[i]:=by rw[qj,qg hi]
 have hk:=zi (hok.cs i hi);have hH:∀ v,zn s i v=if s.cols[i].kind=1 then inB v 1 1048575
  else if s.cols[i].kind=2 then inB v 0 ((qQ s i).codes.length-1)&&(lvlC (qQ s i) v==zC (qQ s i)-1)
  else (s.cols[i].opt&&(v==zj))||inB v s.cols[i].low s.cols[i].high:=fun v=>by rw[zn,hat]
 by_cases k1:s.cols[i].kind=1
 ·have h1:=zH l a 1 60 hl ha oM oM;have r1:=ke l a (60-1+1) oM;have b1:=qb7 l a (60-1+1) ha;generalize nx l a (60-1+1)=x1 at h1 r1 b1;refine⟨(1+x1.1,x1.2),⟨by rw[hH,Aj k1,zX];dsimp only;omega,fun _=>by dsimp only;omega,b1⟩,?_⟩;have q:(s.cols[i].kind==1)=true:=AY.2 k1;refine sIr zW fun e _ hst=>?_;unfold zp;simp only[tZ,↓uU,simprocAttr,Ax,qd hi,q];refine⟨oM,?_⟩;refine C1.draw 0 l a _ h1 rfl rfl rfl ?_;refine sW ?_;exact .oA (U1 0) []
 have q1:(s.cols[i].kind==1)=false:=Ak.2 k1;have hi0:∀ v:Int,i=0→v≤60:=fun v e=>by
  subst e;have:=hok.c0;rw[hat] at this;exact absurd this k1
 by_cases k2:s.cols[i].kind=2
 ·have q2:(s.cols[i].kind==2)=true:=AY.2 k2;have hlv:=ju s hok i hi (by rw[hat];exact k2);have hll:=jn hok hi (by rw[hat];exact k2);obtain⟨d1,d2⟩:=hok.cdl hi (by rw[hat];exact k2);have hne:0<(qJ s i).length:=zq0 d2;have hlh:=fun v=>qj5 (s:=s) (i:=i) (by rw[hat];exact k2) d2 (v:=v);generalize qJ s i=L at hlv hll hne hlh;have h1:=zS l a L.length hl ha oM;have r1:=ke l a L.length oM;have b1:=qb7 l a L.length ha;generalize nx l a L.length=x1 at h1 r1 b1;obtain⟨m,hm⟩:=AJ r1.1;have hmL:m<L.length:=by omega
  rw[hm] at h1;refine⟨(L[m],x1.2),⟨hlh _ (AX hmL),hi0 _,b1⟩,?_⟩;refine sIr zW fun e _ hst=>?_;unfold zp;simp only[tZ,↓uU,simprocAttr,Ax,qd hi,q1,q2];refine⟨oM,?_⟩;refine C1.im hlv rF rF ?_;refine sW ?_;refine C1.draw 0 l a _ h1 rfl rfl rfl ?_;simp only[tZ,↓uU,simprocAttr,Ax,qd hmL];refine⟨oM,?_⟩;exact .oA (U1 0) []
 have q2:(s.cols[i].kind==2)=false:=Ak.2 k2;have k3:s.cols[i].kind=3:=by rw[hat] at hk;omega
 obtain⟨n,hM⟩:=hd.col hi (by rw[hat];exact k3);rw[hat] at hM;have hlo:=hM.low;have hhi:=hM.high;have hin:∀ v,s.cols[i].low≤v→v≤s.cols[i].high→zn s i v=true:=fun v h1 h2=>by
  rw[hH,Aq k1,Aq k2,DZ,zX];exact .inr ⟨h1,h2⟩
 cases ho:s.cols[i].opt with
 | false=>
   obtain⟨v,a2,v1,v2,ha2,sR⟩:=qk6 l a s.cols[i].low s.cols[i].high hl ha oM oM;refine⟨(v,a2),⟨hin v v1 v2,hi0 _,ha2⟩,?_⟩;refine sIr zW fun e _ hst=>?_;unfold zp;simp only[tZ,↓uU,simprocAttr,Ax,qd hi,q1,q2,ho];refine⟨oM,?_⟩;refine C2.no sMp ?_;refine sW ?_;refine C1.draw 0 l a _ sR rfl rfl rfl ?_;refine sW ?_;exact .oA (U1 0) []
 | true=>
   obtain⟨o,a1,b1,h1⟩:=jW3 l a 4 hl ha oM;cases o with
   | true=>
     refine⟨(zj,a1),⟨by rw[hH,Aq k1,Aq k2,ho];simp,hi0 _,b1⟩,?_⟩;refine sIr zW fun e _ hst=>?_;unfold zp;simp only[tZ,↓uU,simprocAttr,Ax,qd hi,q1,q2,ho];refine⟨oM,?_⟩;refine C2.one (by trivial) (C1.draw 0 l a _ h1 rfl rfl rfl ?_);refine sW ?_;exact .oA (U1 0) []
   | false=>
     obtain⟨v,a2,v1,v2,ha2,sR⟩:=qk6 l a1 s.cols[i].low s.cols[i].high hl b1 oM oM;refine⟨(v,a2),⟨hin v v1 v2,hi0 _,ha2⟩,?_⟩;refine sIr zW fun e _ hst=>?_;unfold zp;simp only[tZ,↓uU,simprocAttr,Ax,qd hi,q1,q2,ho];refine⟨oM,?_⟩;refine C2.one (by trivial) (C1.draw 0 l a _ h1 rfl rfl rfl ?_);refine sW ?_;refine C1.draw 0 l a1 _ sR rfl rfl rfl ?_;refine sW ?_;exact .oA (U1 0) []
theorem qk7 (s:Sch) (hD:DrS s) (l:List UInt8) (a:Nat) (hl:l.length≤400) (ha:a≤l.length) :
 ∃ r:List Int×Nat,(rowE s r.1=0∧hd r.1≤60∧r.2≤l.length)∧Sp 68 [.ptr 0 1 0 0,schT s] [(0,oC l a)] (.asl 1 r.1.length) [(0,oC l r.2),aR 1 1 (r.1.map vI)]:=by
 have hE:=hD.ok;have hnc:=(qU hE).nc;refine jF qi6 mixm (fun r:List Int×Nat=>.asl 1 r.1.length) (fun r=>[(0,oC l r.2),aR 1 1 (r.1.map vI)]) sMp ?_;unfold wt;refine sW ?_;refine XE.loopF mixm [5,10] (fun y:List Int×Nat=>y.1.length≤s.cols.length∧(∀ i,i<y.1.length→zn s i (y.1.getD i 0)=true)∧hd y.1≤60∧y.2≤l.length) (fun y=>[(5,.asl 1 y.1.length),(10,vI y.1.length)]) (fun y=>[(0,oC l y.2),aR 4096 2 [schT s],aR 1 1 (y.1.map vI)]) (fun y=>s.cols.length-y.1.length) ([],a) ⟨sMp,sMp,by simp [hd],ha⟩ (fun e ⟨_,hst⟩=>?_) fun T' y hy ih=>?_
 ·exact .oA [uI 0,uI 4096,(1,none)] []
 obtain⟨rs,a1⟩:=y;obtain⟨y1,y2,y5,y3⟩:=hy;dsimp only at y1 y2 y3 y5;simp only[tZ,↓uU,simprocAttr,AZ,Ay];refine XE.brN (fun h4=>?_) (fun h4=>?_)
 ·have hlt:rs.length<s.cols.length:=by omega
  obtain⟨⟨v,a2⟩,⟨hv,hv6,ha2⟩,sV⟩:=YW s hD rs.length hlt l a1 hl y3;dsimp only at hv hv6 ha2 sV;have hwi:=qh (i:=rs.length) oM;refine XE.mp (fun _ _=>C1.draw 0 l a1 _ sV rfl rfl rfl) ?_;simp only[tZ,↓uU,simprocAttr,hwi];refine XE.sd oM ?_;refine XE.next ih (rs++[v],a2) ⟨by simp;omega,fun i h=>?_,?_,ha2⟩ (by simp;omega) fun e ⟨_,hst⟩=>?_
  ·dsimp only at h ⊢
   by_cases hi:i<rs.length
   ·rw[CY,BK hi,← CY];exact y2 i hi
   ·have he:i=rs.length:=by rw[AW] at h;simp at h;omega
    subst he;rw[CY,BJ (BZ _)];simpa using hv
  ·cases rs with
   | nil=>exact hv6 rfl
   | cons r0 rs=>exact y5
  ·exact .oA (U3 0 4096 1) []
 ·have hnl:rs.length=s.cols.length:=by omega
  refine XE.fin (rs,a1) ⟨jm3 hE hnl y2,y5,y3⟩ fun e ⟨_,hst⟩=>?_;exact .oA (U2 0 1) []
theorem qf1 (s:Sch) (hD:DrS s) (l:List UInt8) (a:Nat) (hl:l.length≤400) (ha:a≤l.length) :
 ∃ r:List Int×Nat,(rowE s r.1=0∧hd r.1≤60∧r.2≤l.length)∧Sp 68 [.ptr 0 1 0 0,schT s] [(0,oC l a)] (vIs r.1) [(0,oC l r.2)]:=by
 obtain⟨r,hr,hs⟩:=qk7 s hD l a hl ha;refine⟨r,hr,hs.weaken ?_⟩;refine .of (U1 0) [1] rfl rfl ?_ ?_
 all_goals (try exact clA)
structure DrX (x:Src):Prop where
 sch:DrS x.sch
 ok:SrcOk x
 gone:x.gone=[]
 ver:x.ver=0
abbrev srcZ (s:Src):T:=.agg [.sl 2 (s.sch.lists.map cdlT),.sl 7 (s.sch.cols.map colT),vRw s.rows,.v (.slice none 0 0),vI s.ver]
theorem WL (most:Int) (l:List UInt8) (a:Nat) (hl:l.length≤400) (ha:a≤l.length) (hm:0≤most∧most≤100) :
 ∃ r:Src×Nat,((DrX r.1∧(r.1.rows.length:Int)≤most∧∀ r2∈r.1.rows,hd r2≤60)∧r.2≤l.length)∧Sp 23 [.ptr 0 1 0 0,vI most] [(0,oC l a)] (srcZ r.1) [(0,oC l r.2)]:=by
 obtain⟨⟨s,a1⟩,⟨hD,ha1⟩,sS⟩:=YV l a hl ha;dsimp only at hD ha1 sS;obtain⟨v,a2,v1,v2,ha2,sN⟩:=wM l a1 (most+1) hl ha1 oM;obtain⟨N,rfl⟩:=AJ v1;have hE:=hD.ok;have hw:IntKind.i64.wrap (most+1)=most+1:=AK _ oM;refine jF WC mixm (fun r:Src×Nat=>srcZ r.1) (fun r=>[(0,oC l r.2)]) sMp ?_;unfold jR;refine sW ?_;refine XE.mp (fun _ _=>C1.draw 0 l a _ sS rfl rfl rfl) ?_;simp only[tZ,↓uU,simprocAttr,hw];refine XE.mp (fun _ _=>C1.draw 0 l a1 _ sN rfl rfl rfl) ?_;refine sW ?_;refine XE.loopF mixm [7] (fun y:Nat×List (List Int)×Nat=>y.1≤N∧y.2.1.length+y.1≤N∧AscR y.2.1∧(∀ r∈y.2.1,rowE s r=0∧hd r≤60)∧y.2.2≤l.length) (fun y=>[(7,vI y.1)]) (fun y=>[(0,oC l y.2.2),aR 4096 5 [srcT src0],aR 8200 2 [schT s],aR 12296 5 [.agg [.sl 2 (s.lists.map cdlT),.sl 7 (s.cols.map colT),vRw y.2.1,.v (.slice none 0 0),vI 0]]]) (fun y=>y.1) (N,[],a2) ⟨sMp,sMp,.nil,sMp,ha2⟩ (fun e ⟨_,hst⟩=>?_) fun T' y hy ih=>?_
 ·exact .oA (U4 0 4096 8200 12296) []
 obtain⟨k,rs,a3⟩:=y;obtain⟨y0,y1,y2,y3,y4⟩:=hy;dsimp only at y0 y1 y2 y3 y4;simp only[tZ,↓uU,simprocAttr,AZ,Ay];refine XE.brN (fun h4=>?_) (fun h4=>?_)
 ·obtain⟨⟨row,a4⟩,⟨hr,hr6,ha4⟩,sR⟩:=qf1 s hD l a3 hl y4;dsimp only at hr hr6 ha4 sR;have hwk:=kM (i:=k) oM oM;refine XE.mp (fun _ _=>C1.draw 0 l a3 _ sR rfl rfl rfl) ?_;refine sW ?_;refine XE.mp (fun _ _=>C1.im (qD2 rs row oM (fun r hr=>JR (y3 r hr).1) (JR hr)) rF rF) ?_;simp only[tZ,↓uU,simprocAttr,hwk];refine XE.sd kR ?_;have hpl:=zd1 rs row;refine XE.next ih (k-1,putR rs row,a4) ⟨by dsimp only;omega,by dsimp only;omega,zc9 y2,fun r hr2=>?_,ha4⟩ (by dsimp only;omega) fun e ⟨_,hst⟩=>?_
  ·rcases (zd0 y2).1 hr2 with h | h
   ·rw[h];exact⟨hr,hr6⟩
   ·exact y3 r h.1
  ·exact .oA (U4 0 4096 8200 12296) []
 ·have hk:k=0:=by omega
  refine XE.fin (⟨s,rs,[],0⟩,a3) ⟨⟨⟨hD,⟨hE,by dsimp only;omega,sMp,sMp,fun r hr=>(y3 r hr).1,y2,sMp,.nil⟩,rfl,rfl⟩,by dsimp only;omega,fun r hr=>(y3 r hr).2⟩,y4⟩ fun e ⟨_,hst⟩=>?_;exact .oA (U1 0) []
theorem WM (most:Int) (l:List UInt8) (a:Nat) (hl:l.length≤400) (ha:a≤l.length) (hm:0≤most∧most≤100) :
 ∃ r:Src×Nat,((DrX r.1∧(r.1.rows.length:Int)≤most∧∀ r2∈r.1.rows,hd r2≤60)∧r.2≤l.length)∧Sp 23 [.ptr 0 1 0 0,vI most] [(0,oC l a)] (srcT r.1) [(0,oC l r.2)]:=by
 obtain⟨r,hr,hs⟩:=WL most l a hl ha hm;refine⟨r,hr,hs.weaken ?_⟩;have hg:r.1.gone.map vI=[]:=by rw[hr.1.1.gone];rfl
 refine .of (U1 0) [] rfl rfl ?_ ?_
 all_goals (try exact clA)
 all_goals (try exact hg)
def wN (s:Sch) (kind:Int) (n:Nat):List Int:=List.map (fun i:Nat=>(i:Int)) ((List.range n).filter fun i=>(qj s i).kind==kind)
theorem jv (s:Sch) (kind:Int) (n:Nat):wN s kind (n+1)=wN s kind n++(if (qj s n).kind=kind then [(n:Int)] else []):=by
 unfold wN;rw[List.range_succ,FY,By]
 congr 1
 by_cases h:(qj s n).kind=kind
 ·rw[Aj h,List.filter_cons,Aj (AY.2 h)];rfl
 ·rw[Aq h,List.filter_cons,Aq (by rw[AY];exact h)];rfl
theorem Qt (s:Sch) (kind:Int) (n:Nat):(wN s kind n).length≤n:=by
 unfold wN;rw[BY];exact FZ (Fx _ _) sMp
def qK (s:Sch) (kind:Int):List Int:=wN s kind s.cols.length
theorem wO {s:Sch} {kind v:Int}:v∈qK s kind↔isB s v kind=true:=by
 unfold qK wN;rw[zz];simp only[Cj,Fz,Dk,AY];constructor
 ·rintro ⟨i,⟨h1,h2⟩,rfl⟩;exact⟨oM,oM,by rw[Ax];exact h2⟩
 ·rintro ⟨h1,h2,h3⟩;exact⟨v.toNat,⟨oM,h3⟩,oM⟩
theorem ZJ (s:Sch) (kind:Int) (hn:s.cols.length≤1000):Sp 37 [schT s,vI kind] [] (vIs (qK s kind)) []:=by
 refine sIr qx6 fun e _ hst=>?_;unfold yU;refine sW ?_;refine qk mixm (α:=Nat) [5,10] (fun i=>i≤s.cols.length) (fun i=>[(5,.asl 1 (wN s kind i).length),(10,vI i)]) (fun i=>[aR 4096 2 [schT s],aR 1 1 ((wN s kind i).map vI)]) (fun i=>s.cols.length-i) 0 oM ?_ fun i hi=>?_
 ·show Le _ _ ⟨_,[aR 4096 2 [schT s],aR 1 1 []]⟩;exact .oA [uI 4096,(1,none)] []
 have hfl:=Qt s kind i;refine sD ?_;refine⟨fun h=>?_,fun h=>?_⟩
 ·have hi2:i<s.cols.length:=by omega
  have hwi:=qh (i:=i) oM;have hat:qj s i=s.cols[i]:=by rw[qj,qg hi2]
  have hsu:=jv s kind i;rw[hat] at hsu;simp only[tZ,↓uU,simprocAttr,Ax,qd hi2,hwi,AY,Ak];refine⟨oM,fun h2=>?_,fun h2=>?_⟩
  ·rw[Aj h2] at hsu;refine⟨oM,i+1,oM,oM,?_⟩;rw[hsu];exact .oA (U2 4096 1) []
  ·rw[Aq h2,CW] at hsu;refine⟨i+1,oM,oM,?_⟩;rw[hsu];exact .oA (U2 4096 1) []
 ·have hil:i=s.cols.length:=by omega
  subst hil;exact .oA [] [1]
theorem DrS.code {s:Sch} (h:DrS s):0<(qK s 2).length∧(qK s 2).length≤8:=by
 have hnc:=(qU h.ok).nc;have hl:=Qt s 2 s.cols.length;refine⟨List.length_pos_of_mem (a:=1) (wO.2 (zz.2 ?_)),by unfold qK;omega⟩;obtain⟨ms,hc,h1,h3⟩:=h.cs;rcases hc with⟨hc,hm⟩ | ⟨hc,hm⟩
 ·refine⟨oM,by rw[hc];simp;omega,by rw[qj,hc];rfl⟩
 ·refine⟨oM,by rw[hc];simp;omega,by rw[qj,hc];rfl⟩
theorem DrS.meas {s:Sch} (h:DrS s):0<(qK s 3).length∧(qK s 3).length≤8:=by
 have hnc:=(qU h.ok).nc;have hl:=Qt s 3 s.cols.length;refine⟨?_,by unfold qK;omega⟩;obtain⟨ms,hc,h1,h3⟩:=h.cs;rcases hc with⟨hc,hm⟩ | ⟨hc,hm⟩
 ·refine List.length_pos_of_mem (a:=2) (wO.2 (zz.2 ⟨oM,by rw[hc];simp;omega,?_⟩));have:=(hm 0 h1).kind;rw[qj,hc];show ((whoC::sexC::ms).getD 2 default).kind=3;rw[qg (by simp;omega)];exact this
 ·refine List.length_pos_of_mem (a:=3) (wO.2 (zz.2 ⟨oM,by rw[hc];simp;omega,?_⟩));have:=(hm 0 h1).kind;rw[qj,hc];show ((whoC::sexC::jobC::ms).getD 3 default).kind=3;rw[qg (by simp;omega)];exact this
theorem jn5 (s:Sch) (hd:DrS s) (l:List UInt8) (a:Nat) (hl:l.length≤400) (ha:a≤l.length) :
 ∃ (v:Nat) (b:Nat),isB s v 2=true∧b≤l.length∧Sp 40 [.ptr 0 1 0 0,schT s] [(0,oC l a)] (vI v) [(0,oC l b)]:=by
 have hnc:=(qU hd.ok).nc;have hc:=ZJ s 2 oM;have hm:=fun v=>(wO (s:=s) (kind:=2) (v:=v)).1;obtain⟨k1,k2⟩:=hd.code;generalize qK s 2=L at hc hm k1 k2;obtain⟨j,b,j1,j2,hb,sN⟩:=wM l a L.length hl ha oM;obtain⟨m,rfl⟩:=AJ j1;have hmL:m<L.length:=by omega
 have hv:=hm _ (AX hmL);obtain⟨v,e⟩:=AJ (zz.1 hv).1;refine⟨v,b,by rw[← e];exact hv,hb,?_⟩;rw[← e];refine sIr Yt fun e _ hst=>?_;unfold kj;refine sW ?_;refine C1.im hc rF rF ?_;refine sW ?_;refine C1.draw 0 l a _ sN rfl rfl rfl ?_;simp only[tZ,↓uU,simprocAttr,Ax,qd hmL];refine⟨oM,?_⟩;exact .oA (U1 0) []
theorem yM (s:Sch) (hd:DrS s) (l:List UInt8) (a:Nat) (hl:l.length≤400) (ha:a≤l.length) :
 ∃ (v:Nat) (b:Nat),isB s v 3=true∧b≤l.length∧Sp 41 [.ptr 0 1 0 0,schT s] [(0,oC l a)] (vI v) [(0,oC l b)]:=by
 have hnc:=(qU hd.ok).nc;have hc:=ZJ s 3 oM;have hm:=fun v=>(wO (s:=s) (kind:=3) (v:=v)).1;obtain⟨k1,k2⟩:=hd.meas;generalize qK s 3=L at hc hm k1 k2;obtain⟨j,b,j1,j2,hb,sN⟩:=wM l a L.length hl ha oM;obtain⟨m,rfl⟩:=AJ j1;have hmL:m<L.length:=by omega
 have hv:=hm _ (AX hmL);obtain⟨v,e⟩:=AJ (zz.1 hv).1;refine⟨v,b,by rw[← e];exact hv,hb,?_⟩;rw[← e];refine sIr Kf fun e _ hst=>?_;unfold jx;refine sW ?_;refine C1.im hc rF rF ?_;refine sW ?_;refine C1.draw 0 l a _ sN rfl rfl rfl ?_;simp only[tZ,↓uU,simprocAttr,Ax,qd hmL];refine⟨oM,?_⟩;exact .oA (U1 0) []
def ordB (l:List (List Int)):Bool:=(List.range l.length).all fun i=>decide (0<(l.getD i []).length)&&(decide (i=0)||decide (hd (l.getD (i-1) [])<hd (l.getD i [])))
def hasK (l:List (List Int)) (k:Int):Bool:=l.any fun r=>hd r==k
def appR (a:List (List Int)) (g:List Int) (rs:List (List Int)):List (List Int):=rs.foldl putR (a.filter fun r=>!g.contains (hd r))
def ascI (l:List Int):Bool:=(List.range l.length).all fun i=>asc2 l i
def appE (a:Ext) (c:Chg):Int:=
 if ordB a.rows=false∨ordB c.rows=false∨ascI c.gone=false∨(c.rows.any fun r=>decide (r.length≠a.picks.length+1))=true then 11
 else if (c.gone.any fun k=>!hasK a.rows k)=true then 21 else if (c.gone.any fun k=>hasK c.rows k)=true then 10 else 0
structure ExtOk (x:Ext):Prop where
 ord:ordB x.rows=true
 len:∀ r∈x.rows,r.length=x.picks.length+1
set_option maxHeartbeats 8000000
open So
def RwSm (l:List (List Int)):Prop:=l.length≤1000000∧∀ r∈l,r.length*8≤140737488355328
structure ExtSm (x:Ext):Prop where
 rows:RwSm x.rows
 picks:x.picks.length*16≤140737488355328
structure ChgSm (c:Chg):Prop where
 rows:RwSm c.rows
 gone:c.gone.length≤1000000
theorem qf2 (a b:List Int) (ha:a.length<4611686018427387904):Sp 109 [vIs a,vIs b] [] (vB (ZH a b)) []:=by
 refine sIr YH fun e _ hst=>?_;unfold ky;simp only[tZ,↓uU,simprocAttr,Bj,Aw];refine⟨fun h=>?_,fun h=>?_⟩
 ·rw[ZH,qs0 oM];exact .oA [] []
 have hl:a.length=b.length:=by omega
 refine qk mixm (α:=Nat) [13] (fun i=>i≤a.length∧(ZH (a.take i) (b.take i)=true)) (fun i=>[(13,vI i)]) (fun i=>[]) (fun i=>a.length-i) 0 ⟨oM,?_⟩ ?_ fun i hi=>?_
 ·rfl
 ·exact .oA [] []
 simp only[tZ,↓uU,simprocAttr,AZ,Ay];refine⟨fun h=>?_,fun h=>?_⟩
 ·have hib:i<b.length:=by omega
  have hi2:i<a.length:=by omega
  have hwi:=qh (i:=i) oM;simp only[tZ,↓uU,simprocAttr,Ax,qd hi2,hwi,qd hib];refine⟨oM,oM,kR,fun h3=>?_,fun h3=>⟨i+1,⟨oM,?_⟩,oM,?_⟩⟩
  ·rw[ZH,Yi (i:=i) hl oM (by simpa using h3)];exact .oA [] []
  ·rw[ZH,Wp hi2 hib,← ZH,hi.2];simpa using h3
  ·exact .oA [] []
 ·have hi2:i=a.length:=by omega
  subst hi2;have h3:=hi.2;rw[Bw,List.take_of_length_le oM] at h3;rw[h3];exact .oA [] []
theorem Km (p:Int→Bool) (f:FuncId) (caps:List T) (hcap:imL caps=true) (l:List Int) (hf:∀ y∈l,Sp f (vI y::caps) [] (vB (p y)) []) (hl:l.length<4611686018427387904) :
 Sp 114 [.sl 1 (l.map vI),.clo f caps] [] (vI (idxI p l)) []:=by
 refine sIr Jy fun e _ hst=>?_;unfold jp;refine sW ?_;refine qk mixm (α:=Nat) [8] (fun i=>i≤l.length∧((l.take i).any p=false)) (fun i=>[(8,vI i)]) (fun i=>[]) (fun i=>l.length-i) 0 ⟨oM,?_⟩ ?_ fun i hi=>?_
 ·simp
 ·exact .oA [] []
 simp only[tZ,↓uU,simprocAttr,AZ,Ay];refine⟨fun h=>?_,fun h=>?_⟩
 ·have hi2:i<l.length:=by omega
  have hwi:=qh (i:=i) oM;simp only[tZ,↓uU,simprocAttr,Ax,qd hi2,hwi,Kz];refine⟨oM,?_⟩;refine C1.im (hf l[i] (AX hi2)) (KC rfl hcap) rfl ?_;refine sW ?_;refine⟨fun h3=>?_,fun h3=>⟨i+1,⟨oM,zG hi2 hi.2 h3⟩,oM,?_⟩⟩
  ·rw[idxI,Aj (qn1 hi2 h3),jt hi2 hi.2 h3];exact .imR rfl rfl
  ·exact .oA [] []
 ·have h2:i=l.length:=by omega
  have h3:=hi.2;rw[h2,Bw] at h3;rw[idxI,Aq (by rw[h3];simp)];exact .imR rfl rfl
theorem jZ (p:Int→Bool) (f:FuncId) (caps:List T) (hcap:imL caps=true) (l:List Int) (hf:∀ y∈l,Sp f (vI y::caps) [] (vB (p y)) []) (hl:l.length<4611686018427387904) :
 Sp 64 [.sl 1 (l.map vI),.clo f caps] [] (vB (l.any p)) []:=by
 refine sIr Qz fun e _ hst=>?_;unfold zY;refine sW ?_;refine C1.im (Km p f caps hcap l hf hl) (qs1 rfl hcap) rfl ?_;refine sW ?_;rw[show decide (idxI p l≥0)=l.any p from qW5 p l];exact .imR rfl rfl
def idxN (n:Int):List Int→Nat
 | []=>0
 | x::r=>if x=n then 0 else idxN n r+1
theorem zB3 {n:Int}:∀ {l:List Int} {i:Nat} (h:i<l.length),n∉l.take i→l[i]=n→idxN n l=i
 | [],i,h,_,_=>by simp at h
 | x::r,0,h,_,hp=>by simp at hp;simp [idxN,hp]
 | x::r,i+1,h,h1,hp=>by
   simp only[List.take_succ_cons,Ck,not_or] at h1;simp only[idxN];rw[Aq (fun e=>h1.1 e.symm),zB3 (l:=r) (i:=i) (by simpa using h) h1.2 (by simpa using hp)]
def qo1 (l:List Int) (n:Int):Int:=if n∈l then idxN n l else -1
theorem QJ (l:List Int) (n:Int) (hl:l.length<4611686018427387904):Sp 102 [vIs l,vI n] [] (vI (qo1 l n)) []:=by
 refine sIr YF fun e _ hst=>?_;unfold kv;refine sW ?_;refine qk mixm (α:=Nat) [8] (fun i=>i≤l.length∧(n∉l.take i)) (fun i=>[(8,vI i)]) (fun i=>[]) (fun i=>l.length-i) 0 ⟨oM,?_⟩ ?_ fun i hi=>?_
 ·simp
 ·exact .oA [] []
 simp only[tZ,↓uU,simprocAttr,AZ,Ay];refine⟨fun h=>?_,fun h=>?_⟩
 ·have hi2:i<l.length:=by omega
  have hwi:=qh (i:=i) oM;simp only[tZ,↓uU,simprocAttr,Ax,qd hi2,hwi,AY,Ak];refine⟨oM,fun h3=>?_,fun h3=>⟨i+1,⟨oM,?_⟩,oM,?_⟩⟩
  ·have hm:n∈l:=by rw[h3];exact AX hi2
   rw[qo1,Aj hm,zB3 hi2 hi.2 h3.symm];exact .imR rfl rfl
  ·rw[qz hi2,Dz];rintro (h4 | h4)
   ·exact hi.2 h4
   ·simp at h4;exact h3 h4
  ·exact .oA [] []
 ·have h2:i=l.length:=by omega
  have h3:=hi.2;rw[h2,Bw] at h3;rw[qo1,Aq h3];exact .imR rfl rfl
theorem Wa (l:List Int) (n:Int) (hl:l.length<4611686018427387904):Sp 180 [vIs l,vI n] [] (vB (l.contains n)) []:=by
 refine sIr Kj fun e _ hst=>?_;unfold jz;refine sW ?_;refine C1.im (QJ l n hl) rfl rF ?_;refine sW ?_;refine .imR ?_ rfl;unfold qo1;by_cases h:n∈l
 ·rw[Aj h,FQ.2 h];simp
 ·rw[Aq h];cases hc:l.contains n
  ·simp
  ·exact absurd (FQ.1 hc) h
set_option maxHeartbeats 4000000
structure TCl where
 codes:List Int
 cnt:Int
 sum:Int
 amt:Int
 fst:Int
 snd:Int
 rows:List Int
structure Tbl where
 dims:List Pk
 meas:Int
 cells:List TCl
abbrev tclT (c:TCl):T:=.agg [vIs c.codes,vI c.cnt,vI c.sum,vI c.amt,vI c.fst,vI c.snd,vIs c.rows]
abbrev tblT (t:Tbl):T:=.agg [vPs t.dims,vI t.meas,.sl 7 (t.cells.map tclT)]
def spSz (s:Sch):List Int:=(qK s 2).map fun c=>((qJ s c.toNat).length:Int)
def spcE (s:Sch):Int:=if schE s≠0 then schE s else chkS (spSz s)
def spcS (s:Sch):List Int:=if spcE s≠0 then [] else spSz s
def spcC (s:Sch):List Int:=if spcE s≠0 then [] else qK s 2
def YX (f:Int→Int) (x:List Int×List Int) (v:Int):List Int×List Int:=
 if f v∈x.2 then (x.1++[(idxN (f v) x.2:Int)],x.2) else (x.1++[(x.2.length:Int)],x.2++[f v])
def grpF (f:Int→Int) (l:List Int):List Int×List Int:=l.foldl (YX f) ([],[])
theorem qf3 (f:Int→Int) {l:List Int} {i:Nat} (h:i<l.length):grpF f (l.take (i+1))=YX f (grpF f (l.take i)) l[i]:=by
 unfold grpF;rw[qz h,Gx];rfl
theorem Wb {n:Int}:∀ {l:List Int},n∈l→idxN n l<l.length∧l.getD (idxN n l) 0=n
 | [],h=>by cases h
 | x::r,h=>by
   unfold idxN;split
   ·rename_i e;exact⟨sMp,by simpa using e⟩
   ·rename_i e;have:=Wb (l:=r) (by rcases Ck.1 h with h | h;exact absurd h.symm e;exact h);exact⟨by simp;omega,by simpa using this.2⟩
structure GrpOk (f:Int→Int) (l:List Int) (x:List Int×List Int):Prop where
 len:x.1.length=l.length
 nod:x.2.Nodup
 le:x.2.length≤l.length
 rng:∀ g∈x.1,0≤g∧g<x.2.length
 at_:∀ i,i<l.length→x.2.getD (x.1.getD i 0).toNat 0=f (l.getD i 0)
theorem zs6 (f:Int→Int) (l:List Int):GrpOk f l (grpF f l):=by
 suffices H:∀ i,i≤l.length→GrpOk f (l.take i) (grpF f (l.take i)) by
  have:=H l.length (BZ _)
  rwa [Bw] at this
 intro i
 induction i with
 | zero=>exact fun _=>⟨rfl,by simp [grpF],by simp [grpF],by simp [grpF],sMp⟩
 | succ i ih=>
   intro hi;have hi2:i<l.length:=by omega
   obtain⟨a1,a2,a3,a4,a5⟩:=ih oM;rw[qf3 f hi2,qz hi2];generalize grpF f (l.take i)=x at a1 a2 a3 a4 a5;have hl:(l.take i).length=i:=by rw[Cz];omega
   have key:∀ (g:Int) (y:List Int),(∀ k,k<x.2.length→y.getD k 0=x.2.getD k 0)→y.getD g.toNat 0=f l[i]→∀ j,j<(l.take i++[l[i]]).length→y.getD ((x.1++[g]).getD j 0).toNat 0=f ((l.take i++[l[i]]).getD j 0):=by
    intro g y h1 h2 j hj;rw[AW,List.length_singleton,hl] at hj;by_cases c:j<i
    ·have e1:(x.1++[g]).getD j 0=x.1.getD j 0:=by
      rw[CY,CY,BK oM]
     have e2:(l.take i++[l[i]]).getD j 0=(l.take i).getD j 0:=by
      rw[CY,CY,BK oM]
     rw[e1,e2,← a5 j oM];have hg:x.1.getD j 0∈x.1:=by
      rw[qg (show j<x.1.length by omega)];exact AX _
     have:=a4 _ hg;exact h1 _ oM
    ·have e:j=i:=by omega
     subst e;have e1:(x.1++[g]).getD j 0=g:=by
      rw[CY,BJ oM,a1,hl];simp
     have e2:(l.take j++[l[j]]).getD j 0=l[j]:=by
      rw[CY,BJ oM,hl];simp
     rw[e1,e2];exact h2
   unfold YX;split
   ·rename_i h;obtain⟨b1,b2⟩:=Wb h;refine⟨by rw[AW,AW,a1];rfl,a2,by simp;omega,fun g hg=>?_,key _ _ (fun _ _=>rfl) (by rw[Ax];exact b2)⟩;rcases Dz.1 hg with h | h
    ·exact a4 g h
    ·rw[Ey.1 h];dsimp only;omega
   ·rename_i h;refine⟨by rw[AW,AW,a1];rfl,?_,by simp;omega,fun g hg=>?_,key _ _ (fun k hk=>?_) ?_⟩
    ·rw[List.nodup_append];refine⟨a2,sMp,fun a ha b hb e=>?_⟩;rw[Ey.1 hb] at e;exact h (e ▸ ha)
    ·rw[AW,List.length_singleton];rcases Dz.1 hg with h | h
     ·have:=a4 g h;omega
     ·rw[Ey.1 h];omega
    ·rw[CY,CY,BK hk]
    ·rw[Ax,CY,BJ oM];simp
def grpL (s:Sch) (c:Nat) (lev:Int):List Int×List Int:=grpF (fun v=>upC (qQ s c) v lev) (qJ s c)
def qk8 (s:Sch) (l:List Pk) (i:Nat):Bool:=(jj s (l.getD i default)==0)&&((qj s (l.getD i default).col.toNat).kind==2)&&(l.take i).all fun x=>x.col != (l.getD i default).col
def qf4 (s:Sch) (l:List Pk):Bool:=(List.range l.length).all (qk8 s l)
def dmAt (ds:List Pk) (c:Int):Nat:=ds.findIdx fun d=>d.col==c
def vwG (s:Sch) (ds:List Pk) (c:Int):List Int:=if dmAt ds c<ds.length then (grpL s c.toNat (ds.getD (dmAt ds c) default).lev).1 else List.replicate (qJ s c.toNat).length 0
def tabG (s:Sch) (ds:List Pk):List (List Int):=(qK s 2).map (vwG s ds)
def ofD (s:Sch) (ds:List Pk) (a:Nat):List Int:=(grpL s (ds.getD a default).col.toNat (ds.getD a default).lev).2
def plD (s:Sch) (ds:List Pk) (a:Nat):Nat:=idxN (ds.getD a default).col (qK s 2)
def JS (s:Sch) (ds:List Pk) (k:Nat):List Int:=(List.range ds.length).map fun a=>(ofD s ds a).getD ((zB ((tabG s ds).map gN) k).getD (plD s ds a) 0).toNat 0
def fndC (l:List TCl) (codes:List Int):Int:=if l.any (fun c=>ZH c.codes codes)=true then (l.findIdx (fun c=>ZH c.codes codes):Int) else -1
def tabK (s:Sch) (t:Tbl) (k:Nat):Int:=fndC t.cells (JS s t.dims k)
def tabN (s:Sch) (t:Tbl):Nat:=(pubN (tabG s t.dims)).toNat
def tabV (s:Sch) (t:Tbl) (k:Nat):Int:=(t.cells.getD (tabK s t k).toNat ⟨[],0,0,0,0,0,[]⟩).cnt
set_option maxHeartbeats 8000000
mutual
def sizC:Cnd→Nat
 | .mk _ _ _ _ _ ks=>qf5 ks+1
def qf5:List Cnd→Nat
 | []=>0
 | k::r=>sizC k+qf5 r
end
theorem zd6 (c:Cnd):sizC c=qf5 c.kids+1:=by cases c;rw[sizC];rfl
theorem jO6:∀ c,∀ m,1≤m→cntC c m≤sizC c:=by
 refine Cnd.ind' fun c ih m hm=>?_;rw[YS,zd6];have key:∀ l:List Cnd,(∀ k∈l,k∈c.kids)→∀ n,n≤m→kA l m n≤n+qf5 l:=by
  intro l
  induction l with
  | nil=>intro _ n h;rw[kA,qf5];omega
  | cons k r ihl=>
    intro hk n h;rw[kA,qf5];split
    ·have c1:=qB9 k (m-n) oM;have c2:=ih k (hk k sMp) (m-n) oM;have c3:=ihl (fun x hx=>hk x (CQ _ hx)) (n+cntC k (m-n)) oM;omega
    ·omega
 have:=key c.kids (fun k hk=>hk) 1 oM;omega
structure CndOk (s:Sch) (n:Nat) (c:Cnd):Prop where
 ok:nodE s c=0
 dep:depC c≤n+1
 siz:sizC c+1≤2 ^ (n+1)
theorem CndOk.chk {s:Sch} {n:Nat} {c:Cnd} (h:CndOk s n c) (hE:schE s=0) (hn:n≤3):chkC s c=0:=by
 have h1:=jO6 c 41 oM;have h2:=h.siz;have h3:=h.dep;have h4:2 ^ (n+1)≤2 ^ 4:=Nat.pow_le_pow_right oM oM;rw[chkC,Aq (by rw[hE];simp),Aq oM,Aq oM];exact h.ok
theorem zB4 {s:Sch} {c:Cnd} (h1:ndE s c=0) (h2:wz s c.kids=0):nodE s c=0:=by rw[zA7,Aq (by rw[h1];simp)];exact h2
theorem yp {s:Sch} {c:Cnd} (n:Nat) (h1:ndE s c=0) (h2:c.kids=[]):CndOk s n c:=by
 have h3:2 ^ 1≤2 ^ (n+1):=Nat.pow_le_pow_right oM oM;refine⟨zB4 h1 (by rw[h2,wz]),by rw[qB8,h2,kB];omega,by rw[zd6,h2,qf5];omega⟩
theorem jn6 {s:Sch} {c:Cnd} (h1:¬ (c.op<1∨7<c.op)) (h2:¬ (c.kids.length≠arC c.op∨(c.op≠2∧c.op≠3∧c.op≠4∧c.col≠0)∨(c.op≠2∧c.code≠0)∨(c.op≠3∧(c.lo≠0∨c.hi≠0))))
 (h3:¬ ((c.op=2∧isB s c.col 2=false)∨(c.op=3∧isB s c.col 3=false)∨(c.op=4∧(isB s c.col 3=false∨(qj s c.col.toNat).opt=false))))
 (h4:¬ (c.op=2∧(c.code<0∨c.code≥(qQ s c.col.toNat).codes.length))) (h5:¬ (c.op=3∧(c.lo < -1000000∨c.hi>1000000∨c.lo>c.hi))):ndE s c=0:=by
 rw[ndE,Aq h1,Aq h2,Aq h3,Aq h4,Aq h5]
theorem zN9 (s:Sch):ndE s (.mk 1 0 0 0 0 [])=0:=jn6 (by simp [Cnd.op,Cnd.col,Cnd.code,Cnd.lo,Cnd.hi,Cnd.kids]) (by simp [arC,Cnd.op,Cnd.col,Cnd.code,Cnd.lo,Cnd.hi,Cnd.kids]) (by simp [Cnd.op,Cnd.col,Cnd.code,Cnd.lo,Cnd.hi,Cnd.kids]) (by simp [Cnd.op,Cnd.col,Cnd.code,Cnd.lo,Cnd.hi,Cnd.kids]) (by simp [Cnd.op,Cnd.col,Cnd.code,Cnd.lo,Cnd.hi,Cnd.kids])
theorem zO0 {s:Sch} {v:Nat} {k:Int} (h:isB s v 2=true) (h1:0≤k) (h2:k<(qQ s v).codes.length):ndE s (.mk 2 v k 0 0 [])=0:=
 jn6 (by simp [Cnd.op,Cnd.col,Cnd.code,Cnd.lo,Cnd.hi,Cnd.kids]) (by simp [arC,Cnd.op,Cnd.col,Cnd.code,Cnd.lo,Cnd.hi,Cnd.kids]) (by simp [Cnd.op,Cnd.col,Cnd.code,Cnd.lo,Cnd.hi,Cnd.kids,h]) (by simp only[Cnd.op,Cnd.col,Cnd.code,Cnd.lo,Cnd.hi,Cnd.kids,Ax];omega) (by simp [Cnd.op,Cnd.col,Cnd.code,Cnd.lo,Cnd.hi,Cnd.kids])
theorem Ww {s:Sch} {v:Nat} {a b:Int} (h:isB s v 3=true) (h1 : -1000000≤a) (h2:b≤1000000) (h3:a≤b):ndE s (.mk 3 v 0 a b [])=0:=
 jn6 (by simp [Cnd.op,Cnd.col,Cnd.code,Cnd.lo,Cnd.hi,Cnd.kids]) (by simp [arC,Cnd.op,Cnd.col,Cnd.code,Cnd.lo,Cnd.hi,Cnd.kids]) (by simp [Cnd.op,Cnd.col,Cnd.code,Cnd.lo,Cnd.hi,Cnd.kids,h]) (by simp [Cnd.op,Cnd.col,Cnd.code,Cnd.lo,Cnd.hi,Cnd.kids]) (by simp only[Cnd.op,Cnd.col,Cnd.code,Cnd.lo,Cnd.hi,Cnd.kids];omega)
theorem jn7 {s:Sch} {v:Nat} (h:isB s v 3=true) (h1:(qj s v).opt=true):ndE s (.mk 4 v 0 0 0 [])=0:=
 jn6 (by simp [Cnd.op,Cnd.col,Cnd.code,Cnd.lo,Cnd.hi,Cnd.kids]) (by simp [arC,Cnd.op,Cnd.col,Cnd.code,Cnd.lo,Cnd.hi,Cnd.kids]) (by simp only[Cnd.op,Cnd.col,Cnd.code,Cnd.lo,Cnd.hi,Cnd.kids,Ax,h,h1];simp) (by simp [Cnd.op,Cnd.col,Cnd.code,Cnd.lo,Cnd.hi,Cnd.kids]) (by simp [Cnd.op,Cnd.col,Cnd.code,Cnd.lo,Cnd.hi,Cnd.kids])
theorem jn8 {s:Sch} {op:Int} {ks:List Cnd} (h:op=5∨op=6∨op=7) (hk:ks.length=arC op):ndE s (.mk op 0 0 0 0 ks)=0:=
 jn6 (by simp only[Cnd.op,Cnd.col,Cnd.code,Cnd.lo,Cnd.hi,Cnd.kids];omega) (by simp [Cnd.op,Cnd.col,Cnd.code,Cnd.lo,Cnd.hi,Cnd.kids,hk]) (by simp only[Cnd.op,Cnd.col,Cnd.code,Cnd.lo,Cnd.hi,Cnd.kids];omega) (by simp only[Cnd.op,Cnd.col,Cnd.code,Cnd.lo,Cnd.hi,Cnd.kids];omega) (by simp only[Cnd.op,Cnd.col,Cnd.code,Cnd.lo,Cnd.hi,Cnd.kids];omega)
theorem jW4 {s:Sch} {n:Nat} {c:Cnd} (h:CndOk s n c):CndOk s (n+1) (.mk 7 0 0 0 0 [c]):=by
 have h1:=h.dep;have h2:=h.siz;have h3:2 ^ (n+1+1)=2*2 ^ (n+1):=by rw[Nat.pow_succ];omega
 refine⟨zB4 (jn8 (.inr (.inr rfl)) rfl) ?_,?_,?_⟩
 ·show wz s [c]=0;rw[wz,Aq (by rw[h.ok];simp),wz]
 ·rw[qB8];show kB [c]+1≤_;rw[kB,kB];omega
 ·rw[zd6];show qf5 [c]+1+1≤_;rw[qf5,qf5];omega
theorem jI7 {s:Sch} {n:Nat} {c d:Cnd} {op:Int} (ho:op=5∨op=6) (h:CndOk s n c) (g:CndOk s n d):CndOk s (n+1) (.mk op 0 0 0 0 [c,d]):=by
 have h1:=h.dep;have h2:=h.siz;have g1:=g.dep;have g2:=g.siz;have h3:2 ^ (n+1+1)=2*2 ^ (n+1):=by rw[Nat.pow_succ];omega
 refine⟨zB4 (jn8 oM (by rcases ho with h | h <;> subst h <;> rfl)) ?_,?_,?_⟩
 ·show wz s [c,d]=0;rw[wz,Aq (by rw[h.ok];simp),wz,Aq (by rw[g.ok];simp),wz]
 ·rw[qB8];show kB [c,d]+1≤_;rw[kB,kB,kB];omega
 ·rw[zd6];show qf5 [c,d]+1+1≤_;rw[qf5,qf5,qf5];omega
theorem qk9 (s:Sch) (hd:DrS s) (l:List UInt8) (hl:l.length≤400):∀ (n:Nat) (a:Nat),a≤l.length→n≤3→
 ∃ r:Cnd×Nat,(CndOk s n r.1∧r.2≤l.length)∧Sp 9 [.ptr 0 1 0 0,schT s,vI n] [(0,oC l a)] (cnT r.1) [(0,oC l r.2)]:=by
 have hE:=hd.ok;have hok:=qU hE;have hnc:=hok.nc;have hat:∀ i (h:i<s.cols.length),qj s i=s.cols[i]:=fun i h=>by rw[qj,qg h]
 have hnl:=hd.nl;intro n
 induction n with
 | zero=>
   intro a ha _;refine jF QF mixm (fun r:Cnd×Nat=>cnT r.1) (fun r=>[(0,oC l r.2)]) sMp ?_;unfold jB;have hz:decide (((0:Nat):Int)>0)=false:=rfl;simp only[tZ,↓uU,simprocAttr,hz];obtain⟨b,hb2⟩:∃ b,b=a:=⟨_,rfl⟩;rw[← hb2];have hb:b≤l.length:=by omega
   obtain⟨j2,b2,u1,u2,hb2,sN2⟩:=wM l b 5 hl hb oM;refine XE.mp (fun _ _=>C1.draw 0 l b _ sN2 rfl rfl rfl) ?_;simp only[tZ,↓uU,simprocAttr,AY,Ak];refine XE.brN (fun h1=>?_) (fun h1=>?_)
   ·obtain⟨v,b3,hv,hb3,sV⟩:=jn5 s hd l b2 hl hb2;obtain⟨_,v2,v3⟩:=zz.1 hv;rw[Ax] at v3;have hil:v<s.cols.length:=by omega
    obtain⟨d1,d2⟩:=hok.cdl hil v3;obtain⟨d3,d4⟩:=(zi (hok.cs v hil)).2.2.2.1 v3;have hcl:qQ s v=s.lists.getD s.cols[v].list.toNat default:=by rw[qQ,hat v hil]
    have hnd:=fun k=>zO0 (k:=k) hv;rw[hat v hil] at d1 d3 d4;rw[hcl,qg d1] at d2 hnd;obtain⟨_,d5,d6⟩:=ze d2;obtain⟨w,b4,w1,w2,hb4,sQ⟩:=wM l b3 s.lists[s.cols[v].list.toNat].codes.length hl hb3 oM;refine XE.mp (fun _ _=>C1.draw 0 l b2 _ sV rfl rfl rfl) ?_;simp only[tZ,↓uU,simprocAttr,Ax,qd hil,qd d1];refine XE.sd oM (XE.sd oM ?_);refine XE.mp (fun _ _=>C1.draw 0 l b3 _ sQ rfl rfl rfl) ?_;refine sW ?_;refine XE.sd kR ?_;refine XE.fin (.mk 2 v w 0 0 [],b4) ⟨yp _ (hnd w w1 w2) rfl,hb4⟩ fun e ⟨_,hst⟩=>?_;exact .oA (U1 0) []
   ·refine XE.brN (fun h2=>?_) (fun h2=>?_)
    ·refine XE.brN (fun _=>?_) (fun k=>absurd h2 k);obtain⟨v,b3,hv,hb3,sV⟩:=yM s hd l b2 hl hb2;obtain⟨_,v2,v3⟩:=zz.1 hv;rw[Ax] at v3;have hil:v<s.cols.length:=by omega
     obtain⟨_,hM⟩:=hd.col hil v3;have hlo:=hM.low;rw[hat v hil] at hlo;obtain⟨w,b4,w1,w2,hb4,sQ⟩:=qk6 l b3 (-3) 40 hl hb3 oM oM;obtain⟨z,b5,z1,z2,hb5,sZ⟩:=wM l b4 30 hl hb4 oM;have hw1:IntKind.i64.wrap (s.cols[v].low+w)=s.cols[v].low+w:=AK _ oM;have hw2:IntKind.i64.wrap (s.cols[v].low+w+z)=s.cols[v].low+w+z:=AK _ oM;refine XE.mp (fun _ _=>C1.draw 0 l b2 _ sV rfl rfl rfl) ?_;simp only[tZ,↓uU,simprocAttr,Ax,qd hil];refine XE.sd oM ?_;refine XE.mp (fun _ _=>C1.draw 0 l b3 _ sQ rfl rfl rfl) ?_;simp only[tZ,↓uU,simprocAttr,hw1];refine XE.sd kR ?_;refine XE.mp (fun _ _=>C1.draw 0 l b4 _ sZ rfl rfl rfl) ?_;simp only[tZ,↓uU,simprocAttr,hw2];refine XE.fin (.mk 3 v 0 (s.cols[v].low+w) (s.cols[v].low+w+z) [],b5) ⟨yp _ (Ww hv oM oM oM) rfl,hb5⟩ fun e ⟨_,hst⟩=>?_;exact .oA (U1 0) []
    ·refine XE.brN (fun h3=>?_) (fun h3=>?_)
     ·obtain⟨v,b3,hv,hb3,sV⟩:=yM s hd l b2 hl hb2;obtain⟨_,v2,v3⟩:=zz.1 hv;rw[Ax] at v3;have hil:v<s.cols.length:=by omega
      obtain⟨_,hM⟩:=hd.col hil v3;have hlo:=hM.low;rw[hat v hil] at hlo;obtain⟨w,b4,w1,w2,hb4,sQ⟩:=qk6 l b3 (-3) 40 hl hb3 oM oM;obtain⟨z,b5,z1,z2,hb5,sZ⟩:=wM l b4 30 hl hb4 oM;have hw1:IntKind.i64.wrap (s.cols[v].low+w)=s.cols[v].low+w:=AK _ oM;have hw2:IntKind.i64.wrap (s.cols[v].low+w+z)=s.cols[v].low+w+z:=AK _ oM;refine XE.mp (fun _ _=>C1.draw 0 l b2 _ sV rfl rfl rfl) ?_;simp only[tZ,↓uU,simprocAttr,Ax,qd hil];refine XE.sd oM ?_;refine XE.mp (fun _ _=>C1.draw 0 l b3 _ sQ rfl rfl rfl) ?_;simp only[tZ,↓uU,simprocAttr,hw1];refine XE.sd kR ?_;refine XE.mp (fun _ _=>C1.draw 0 l b4 _ sZ rfl rfl rfl) ?_;simp only[tZ,↓uU,simprocAttr,hw2];refine XE.fin (.mk 3 v 0 (s.cols[v].low+w) (s.cols[v].low+w+z) [],b5) ⟨yp _ (Ww hv oM oM oM) rfl,hb5⟩ fun e ⟨_,hst⟩=>?_;exact .oA (U1 0) []
     ·refine XE.brN (fun h4=>?_) (fun h4=>?_)
      ·obtain⟨v,b3,hv,hb3,sV⟩:=yM s hd l b2 hl hb2;obtain⟨_,v2,v3⟩:=zz.1 hv;rw[Ax] at v3;have hil:v<s.cols.length:=by omega
       refine XE.mp (fun _ _=>C1.draw 0 l b2 _ sV rfl rfl rfl) ?_;simp only[tZ,↓uU,simprocAttr,Ax,qd hil];refine XE.sd oM ?_;refine XE.brB (fun h5=>?_) (fun h5=>?_)
       ·refine XE.fin (.mk 4 v 0 0 0 [],b3) ⟨yp _ (jn7 hv (by rw[hat v hil];exact h5)) rfl,hb3⟩ fun e ⟨_,hst⟩=>?_;exact .oA (U1 0) []
       ·refine XE.fin (.mk 1 0 0 0 0 [],b3) ⟨yp _ (zN9 s) rfl,hb3⟩ fun e ⟨_,hst⟩=>?_;exact .oA (U1 0) []
      ·refine XE.fin (.mk 1 0 0 0 0 [],b2) ⟨yp _ (zN9 s) rfl,hb2⟩ fun e ⟨_,hst⟩=>?_;exact .oA (U1 0) []
 | succ n ih=>
   intro a ha hn;have hz:decide (((n+1:Nat):Int)>0)=true:=Cx oM;have hwp:IntKind.i64.wrap (((n+1:Nat):Int)-1)=n:=by rw[AK _ oM];omega
   obtain⟨j,b,j1,j2,hb,sN⟩:=wM l a 5 hl ha oM;obtain⟨⟨c1,b1⟩,⟨hc1,hb1⟩,sC1⟩:=ih b hb oM;dsimp only at hc1 hb1 sC1;obtain⟨⟨c2,b2⟩,⟨hc2,hb2⟩,sC2⟩:=ih b1 hb1 oM;dsimp only at hc2 hb2 sC2;refine jF QF mixm (fun r:Cnd×Nat=>cnT r.1) (fun r=>[(0,oC l r.2)]) sMp ?_;unfold jB;simp only[tZ,↓uU,simprocAttr,hz];refine XE.mp (fun _ _=>C1.draw 0 l a _ sN rfl rfl rfl) ?_;simp only[tZ,↓uU,simprocAttr,hwp,AY,Ak];refine XE.brN (fun h2=>?_) (fun h2=>XE.brN (fun h3=>?_) (fun h3=>XE.brN (fun h4=>?_) (fun h4=>?_)))
   ·refine XE.mp (fun _ _=>C1.draw 0 l b _ sC1 rfl rfl rfl) ?_;refine sW ?_;refine XE.fin (.mk 7 0 0 0 0 [c1],b1) ⟨jW4 hc1,hb1⟩ fun e ⟨_,hst⟩=>?_;show wW _ _ _ (.agg [vI 7,vI 0,vI 0,vI 0,vI 0,.sl 6 [cndT c1]]) _;rw[jW];exact .oA (U1 0) [20500]
   ·refine XE.mp (fun _ _=>C1.draw 0 l b _ sC1 rfl rfl rfl) ?_;simp only[tZ,↓uU,simprocAttr,hwp];refine XE.mp (fun _ _=>C1.draw 0 l b1 _ sC2 rfl rfl rfl) ?_;refine sW ?_;refine XE.sd kR ?_;refine XE.fin (.mk 5 0 0 0 0 [c1,c2],b2) ⟨jI7 oM hc1 hc2,hb2⟩ fun e ⟨_,hst⟩=>?_;show wW _ _ _ (.agg [vI 5,vI 0,vI 0,vI 0,vI 0,.sl 6 [cndT c1,cndT c2]]) _;rw[jW,jW];exact .oA (U1 0) [28712]
   ·refine XE.mp (fun _ _=>C1.draw 0 l b _ sC1 rfl rfl rfl) ?_;simp only[tZ,↓uU,simprocAttr,hwp];refine XE.mp (fun _ _=>C1.draw 0 l b1 _ sC2 rfl rfl rfl) ?_;refine sW ?_;refine XE.sd kR ?_;refine XE.fin (.mk 6 0 0 0 0 [c1,c2],b2) ⟨jI7 oM hc1 hc2,hb2⟩ fun e ⟨_,hst⟩=>?_;show wW _ _ _ (.agg [vI 6,vI 0,vI 0,vI 0,vI 0,.sl 6 [cndT c1,cndT c2]]) _;rw[jW,jW];exact .oA (U1 0) [36904]
   ·obtain⟨j2,b2,u1,u2,hb2,sN2⟩:=wM l b 5 hl hb oM;refine XE.mp (fun _ _=>C1.draw 0 l b _ sN2 rfl rfl rfl) ?_;simp only[tZ,↓uU,simprocAttr,AY,Ak];refine XE.brN (fun h1=>?_) (fun h1=>?_)
    ·obtain⟨v,b3,hv,hb3,sV⟩:=jn5 s hd l b2 hl hb2;obtain⟨_,v2,v3⟩:=zz.1 hv;rw[Ax] at v3;have hil:v<s.cols.length:=by omega
     obtain⟨d1,d2⟩:=hok.cdl hil v3;obtain⟨d3,d4⟩:=(zi (hok.cs v hil)).2.2.2.1 v3;have hcl:qQ s v=s.lists.getD s.cols[v].list.toNat default:=by rw[qQ,hat v hil]
     have hnd:=fun k=>zO0 (k:=k) hv;rw[hat v hil] at d1 d3 d4;rw[hcl,qg d1] at d2 hnd;obtain⟨_,d5,d6⟩:=ze d2;obtain⟨w,b4,w1,w2,hb4,sQ⟩:=wM l b3 s.lists[s.cols[v].list.toNat].codes.length hl hb3 oM;refine XE.mp (fun _ _=>C1.draw 0 l b2 _ sV rfl rfl rfl) ?_;simp only[tZ,↓uU,simprocAttr,Ax,qd hil,qd d1];refine XE.sd oM (XE.sd oM ?_);refine XE.mp (fun _ _=>C1.draw 0 l b3 _ sQ rfl rfl rfl) ?_;refine sW ?_;refine XE.sd kR ?_;refine XE.fin (.mk 2 v w 0 0 [],b4) ⟨yp _ (hnd w w1 w2) rfl,hb4⟩ fun e ⟨_,hst⟩=>?_;exact .oA (U1 0) []
    ·refine XE.brN (fun h2=>?_) (fun h2=>?_)
     ·refine XE.brN (fun _=>?_) (fun k=>absurd h2 k);obtain⟨v,b3,hv,hb3,sV⟩:=yM s hd l b2 hl hb2;obtain⟨_,v2,v3⟩:=zz.1 hv;rw[Ax] at v3;have hil:v<s.cols.length:=by omega
      obtain⟨_,hM⟩:=hd.col hil v3;have hlo:=hM.low;rw[hat v hil] at hlo;obtain⟨w,b4,w1,w2,hb4,sQ⟩:=qk6 l b3 (-3) 40 hl hb3 oM oM;obtain⟨z,b5,z1,z2,hb5,sZ⟩:=wM l b4 30 hl hb4 oM;have hw1:IntKind.i64.wrap (s.cols[v].low+w)=s.cols[v].low+w:=AK _ oM;have hw2:IntKind.i64.wrap (s.cols[v].low+w+z)=s.cols[v].low+w+z:=AK _ oM;refine XE.mp (fun _ _=>C1.draw 0 l b2 _ sV rfl rfl rfl) ?_;simp only[tZ,↓uU,simprocAttr,Ax,qd hil];refine XE.sd oM ?_;refine XE.mp (fun _ _=>C1.draw 0 l b3 _ sQ rfl rfl rfl) ?_;simp only[tZ,↓uU,simprocAttr,hw1];refine XE.sd kR ?_;refine XE.mp (fun _ _=>C1.draw 0 l b4 _ sZ rfl rfl rfl) ?_;simp only[tZ,↓uU,simprocAttr,hw2];refine XE.fin (.mk 3 v 0 (s.cols[v].low+w) (s.cols[v].low+w+z) [],b5) ⟨yp _ (Ww hv oM oM oM) rfl,hb5⟩ fun e ⟨_,hst⟩=>?_;exact .oA (U1 0) []
     ·refine XE.brN (fun h3=>?_) (fun h3=>?_)
      ·obtain⟨v,b3,hv,hb3,sV⟩:=yM s hd l b2 hl hb2;obtain⟨_,v2,v3⟩:=zz.1 hv;rw[Ax] at v3;have hil:v<s.cols.length:=by omega
       obtain⟨_,hM⟩:=hd.col hil v3;have hlo:=hM.low;rw[hat v hil] at hlo;obtain⟨w,b4,w1,w2,hb4,sQ⟩:=qk6 l b3 (-3) 40 hl hb3 oM oM;obtain⟨z,b5,z1,z2,hb5,sZ⟩:=wM l b4 30 hl hb4 oM;have hw1:IntKind.i64.wrap (s.cols[v].low+w)=s.cols[v].low+w:=AK _ oM;have hw2:IntKind.i64.wrap (s.cols[v].low+w+z)=s.cols[v].low+w+z:=AK _ oM;refine XE.mp (fun _ _=>C1.draw 0 l b2 _ sV rfl rfl rfl) ?_;simp only[tZ,↓uU,simprocAttr,Ax,qd hil];refine XE.sd oM ?_;refine XE.mp (fun _ _=>C1.draw 0 l b3 _ sQ rfl rfl rfl) ?_;simp only[tZ,↓uU,simprocAttr,hw1];refine XE.sd kR ?_;refine XE.mp (fun _ _=>C1.draw 0 l b4 _ sZ rfl rfl rfl) ?_;simp only[tZ,↓uU,simprocAttr,hw2];refine XE.fin (.mk 3 v 0 (s.cols[v].low+w) (s.cols[v].low+w+z) [],b5) ⟨yp _ (Ww hv oM oM oM) rfl,hb5⟩ fun e ⟨_,hst⟩=>?_;exact .oA (U1 0) []
      ·refine XE.brN (fun h4=>?_) (fun h4=>?_)
       ·obtain⟨v,b3,hv,hb3,sV⟩:=yM s hd l b2 hl hb2;obtain⟨_,v2,v3⟩:=zz.1 hv;rw[Ax] at v3;have hil:v<s.cols.length:=by omega
        refine XE.mp (fun _ _=>C1.draw 0 l b2 _ sV rfl rfl rfl) ?_;simp only[tZ,↓uU,simprocAttr,Ax,qd hil];refine XE.sd oM ?_;refine XE.brB (fun h5=>?_) (fun h5=>?_)
        ·refine XE.fin (.mk 4 v 0 0 0 [],b3) ⟨yp _ (jn7 hv (by rw[hat v hil];exact h5)) rfl,hb3⟩ fun e ⟨_,hst⟩=>?_;exact .oA (U1 0) []
        ·refine XE.fin (.mk 1 0 0 0 0 [],b3) ⟨yp _ (zN9 s) rfl,hb3⟩ fun e ⟨_,hst⟩=>?_;exact .oA (U1 0) []
       ·refine XE.fin (.mk 1 0 0 0 0 [],b2) ⟨yp _ (zN9 s) rfl,hb2⟩ fun e ⟨_,hst⟩=>?_;exact .oA (U1 0) []
theorem qD6 (s:Sch) (kind:Int):(qK s kind).Nodup:=by
 unfold qK wN;show List.Pairwise (·≠·) _;rw[List.pairwise_map];exact ((List.nodup_range).filter _).imp fun h e=>h oM
theorem DrS.code2 {s:Sch} (h:DrS s):(qK s 2).length≤2:=by
 obtain⟨ms,hc,h1,h3⟩:=h.cs;have key:∀ (pre:List Col) (n:Nat),s.cols=pre++ms→(∀ j (hj:j<ms.length),DrM (n+j) ms[j])→(qK s 2).length=(wN s 2 pre.length).length:=by
  intro pre n he hm;unfold qK;have k2:∀ m,pre.length+m≤s.cols.length→(wN s 2 (pre.length+m)).length=(wN s 2 pre.length).length:=by
   intro m
   induction m with
   | zero=>intro _;rfl
   | succ m ih=>
     intro hle;have hl:m<ms.length:=by rw[he,AW] at hle;omega
     have hk:(qj s (pre.length+m)).kind=3:=by
      rw[qj,he,CY,BJ oM,Nat.add_sub_cancel_left,CK hl];exact (hm m hl).kind
     rw[← Nat.add_assoc,jv,Aq (by rw[hk];decide),CW];exact ih oM
  have:=k2 ms.length (by rw[he,AW];omega);rw[← AW,← he] at this;exact this
 rcases hc with⟨hc,hm⟩ | ⟨hc,hm⟩
 ·rw[key [whoC,sexC] 2 (by rw[hc];rfl) hm];have:=jv s 2 1;have h0:=jv s 2 0;have e0:(qj s 0).kind=1:=by rw[qj,hc];rfl
  rw[e0] at h0;show (wN s 2 (1+1)).length≤2;have:=Qt s 2 2;omega
 ·rw[key [whoC,sexC,jobC] 3 (by rw[hc];rfl) hm];have h2:=jv s 2 2;have h1:=jv s 2 1;have h0:=jv s 2 0;have e0:(qj s 0).kind=1:=by rw[qj,hc];rfl
  have e1:(qj s 1).kind=2:=by rw[qj,hc];rfl
  have e2:(qj s 2).kind=2:=by rw[qj,hc];rfl
  rw[e0,Aq (by decide)] at h0;rw[e1,Aj rfl] at h1;rw[e2,Aj rfl] at h2;show (wN s 2 (2+1)).length≤2;rw[h2,h1,h0];simp [wN]
structure DimOk (s:Sch) (L:List Int) (l:List Pk):Prop where
 cols:l.map (·.col)=L
 pick:∀ p∈l,jj s p=0
theorem DimOk.dims {s:Sch} {L:List Int} {l:List Pk} (h:DimOk s L l) (h1:1≤L.length) (h2:L.length≤3) (hn:L.Nodup) (hc:∀ v∈L,isB s v 2=true):yB s l=0:=by
 have hl:l.length=L.length:=by rw[← h.cols,BY]
 rw[yB,Aq oM];refine Qr fun i hi=>?_;have hpi:pkAt l i=l[i]:=by rw[pkAt,qg hi]
 have hm:l[i]∈l:=AX hi;rw[dimE,hpi,Aq (by rw[h.pick _ hm];simp),Aq (by rw[hc _ (by rw[← h.cols];exact List.mem_map_of_mem hm)];simp),Aq];intro k;obtain⟨x,hx,e⟩:=DJ.1 k;obtain⟨j,hj,rfl⟩:=List.mem_take_iff_getElem.1 hx;rw[← h.cols] at hn;have:=DX.1 hn j i (by simp;omega) (by simp;omega) oM;simp only[Fj] at this;exact this (AY.1 e)
theorem jn9 {s:Sch} (hE:schE s=0) {v:Nat} (h:isB s v 2=true∨isB s v 3=true):1≤v∧v<s.cols.length∧0≤finI s v∧finI s v≤59:=by
 have hok:=qU hE;have hb:∃ k,2≤k∧isB s v k=true:=by rcases h with h | h <;> exact⟨_,oM,h⟩
 obtain⟨k,hk,hb⟩:=hb;obtain⟨_,b2,b3⟩:=zz.1 hb;rw[Ax] at b3;have hv:v≠0:=fun e=>by subst e;have:=hok.c0;omega
 refine⟨oM,oM,?_,qk2 hE⟩;rw[finI,Aq oM,Ax];split
 ·rename_i h2;have:=qs2 (hok.cdl oM h2).2;omega
 ·omega
theorem ql0 (s:Sch) (hd:DrS s) (l:List UInt8) (a:Nat) (hl:l.length≤400) (ha:a≤l.length) :
 ∃ r:List Pk×Nat,(yB s r.1=0∧r.2≤l.length)∧Sp 8 [.ptr 0 1 0 0,schT s] [(0,oC l a)] (vPs r.1) [(0,oC l r.2)]:=by
 have hE:=hd.ok;have hok:=qU hE;have hnc:=hok.nc;have hc:=ZJ s 2 oM;have hm:=fun v=>(wO (s:=s) (kind:=2) (v:=v)).1;have hnd:=qD6 s 2;have hc2:=hd.code2;obtain⟨k1,k2⟩:=hd.code;generalize qK s 2=L at hc hm hnd hc2 k1 k2;obtain⟨o,a1,ha1,sO⟩:=jW3 l a 2 hl ha oM;obtain⟨j,a2,j1,j2,ha2,sN⟩:=wM l a1 L.length hl ha1 oM;obtain⟨m,rfl⟩:=AJ j1;refine jF qc0 mixm (fun r:List Pk×Nat=>vPs r.1) (fun r=>[(0,oC l r.2)]) sMp ?_;unfold kN;refine sW ?_;refine XE.mp (fun _ _=>C1.im hc rF rF) ?_;refine sW ?_;refine XE.mp (fun _ _=>C1.draw 0 l a _ sO rfl rfl rfl) ?_;refine sW ?_;refine XE.brB (fun ho=>?_) (fun ho=>?_)
 focus
  refine XE.mp (fun _ _=>C1.draw 0 l a1 _ sN rfl rfl rfl) ?_;simp only[tZ,↓uU,simprocAttr,QO,qW2];have hmd:∀ v∈L.drop m,isB s v 2=true:=fun v hv=>hm v (EW hv);have hnd2:(L.drop m).Nodup:=hnd.sublist (List.drop_sublist m L);have hl2:1≤(L.drop m).length∧(L.drop m).length≤2:=by rw[List.length_drop];omega
  generalize L.drop m=M at hmd hnd2 hl2 ⊢
  obtain⟨b,hb⟩:∃ b,b=a2:=⟨_,rfl⟩;rw[← hb];have hb:b≤l.length:=by omega
  refine XE.sd oM ?_
 rotate_left
 focus
  have hmd:=hm;have hnd2:=hnd;have hl2:1≤L.length∧L.length≤2:=by omega
  obtain⟨M,hM⟩:∃ M,M=L:=⟨_,rfl⟩;rw[← hM] at hmd hnd2 hl2 ⊢
  obtain⟨b,hb⟩:∃ b,b=a1:=⟨_,rfl⟩;rw[← hb];have hb:b≤l.length:=by omega
 all_goals (
  refine XE.loopF mixm [5,20] (fun y:List Pk×Nat=>y.1.length≤M.length∧DimOk s (M.take y.1.length) y.1∧y.2≤l.length) (fun y=>[(5,.asl 1 y.1.length),(20,vI y.1.length)]) (fun y=>[(0,oC l y.2),aR 4096 2 [schT s],aR 1 2 (y.1.map pkT)]) (fun y=>M.length-y.1.length) ([],b) ⟨sMp,⟨rfl,sMp⟩,hb⟩ (fun e ⟨_,hst⟩=>?_) fun T' y hy ih=>?_
  ·exact .oA [uI 0,uI 4096,(1,none)] []
  obtain⟨ps,a4⟩:=y;obtain⟨y1,y2,y3⟩:=hy;dsimp only at y1 y2 y3;simp only[tZ,↓uU,simprocAttr,AZ,Ay];refine XE.brN (fun h4=>?_) (fun h4=>?_)
  ·have hi2:ps.length<M.length:=by omega
   have hwi:=qh (i:=ps.length) oM;have hiB:=hmd _ (AX hi2);have htk:=qz hi2;obtain⟨v,hv⟩:=AJ (zz.1 hiB).1;have hgv:(M.map vI).getD ps.length .junk=vI v:=by rw[qd hi2,hv]
   rw[hv] at hiB htk;obtain⟨f1,f2,f3,f4⟩:=jn9 hE (.inl hiB);have hFin:=zQ s hok.sm v;obtain⟨w,a5,w1,w2,hw,sQ⟩:=wM l a4 (finI s v+1) hl y3 oM;have hwf:IntKind.i64.wrap (finI s v+1)=finI s v+1:=AK _ oM;simp only[tZ,↓uU,simprocAttr,Ax,hgv];refine XE.sd oM (XE.sd oM ?_);refine XE.mp (fun _ _=>C1.im hFin rF rF) ?_;simp only[tZ,↓uU,simprocAttr,hwf];refine XE.mp (fun _ _=>C1.draw 0 l a4 _ sQ rfl rfl rfl) ?_;simp only[tZ,↓uU,simprocAttr,hwi];refine XE.sd oM (XE.sd kR ?_);refine XE.next ih (ps++[⟨v,w⟩],a5) ⟨by simp;omega,⟨?_,fun p hp=>?_⟩,hw⟩ (by simp;omega) fun e ⟨_,hst⟩=>?_
   ·dsimp only;rw[AW,By,y2.cols];exact htk.symm
   ·rcases Dz.1 hp with hp | hp
    ·exact y2.pick p hp
    ·rw[Ey.1 hp,jj,Aq (by rw[hE];simp),Aq (by dsimp only;omega),Aq];rw[Ez,zX];dsimp only;omega
   ·exact .oA (U3 0 4096 1) []
  ·have hil:ps.length=M.length:=by omega
   rw[hil,Bw] at y2;refine XE.fin (ps,a4) ⟨y2.dims hl2.1 oM hnd2 hmd,y3⟩ fun e ⟨_,hst⟩=>?_;exact .oA (U1 0) [1]
  )
theorem Wc (s:ByteArray):Sp 146 [vS s] [] (vB (js s)) []:=by
 refine sIr za2 fun e _ hst=>?_;unfold JE;refine sW ?_;refine⟨fun h=>?_,fun h=>?_,fun h=>?_,fun h=>?_⟩
 ·simp at h;omega
 ·simp at h;omega
 ·have:js s=false:=by unfold js zA4;rw[h];rfl
  rw[this];exact .oA [] []
 have hd:zA4 s=false:=h;have hs16:s.data.toList.length≤16:=by
  unfold zA4 at hd;simp only[FX,Ay] at hd;have:s.size=s.data.toList.length:=by rw[Array.length_toList];rfl
  omega
 refine qk mixm (α:=Nat) [26] (fun i=>i≤s.data.toList.length∧((s.data.toList.take i).any qB1=false)) (fun i=>[(26,vI i)]) (fun i=>[]) (fun i=>s.data.toList.length-i) 0 ⟨oM,?_⟩ ?_ fun i hi=>?_
 ·rfl
 ·exact .oA [] []
 refine sD ?_;refine⟨fun h5=>?_,fun h5=>?_⟩
 ·have hi2:i<s.data.toList.length:=by omega
  have hwi:=qh (i:=i) oM;simp only[tZ,↓uU,simprocAttr,Ax,qd hi2,hwi,wh];refine⟨oM,fun h6=>?_,fun h6=>?_⟩
  ·have hb:qB1 s.data.toList[i]=true:=h6;have:js s=false:=by
    unfold js;rw[show s.data.toList.any qB1=true from DJ.2 ⟨_,AX hi2,hb⟩];simp
   rw[this];exact .oA [] []
  ·have hb:qB1 s.data.toList[i]=false:=h6;refine⟨i+1,⟨oM,zG hi2 hi.2 hb⟩,oM,?_⟩;exact .oA [] []
 ·have h3:=hi.2;have:i=s.data.toList.length:=by omega
  rw[this,Bw] at h3;have hn:js s=!(resW.contains s.toList):=by unfold js;rw[hd,h3];rfl
  rw[hn];simp only[resW,List.contains_cons,List.contains_nil]
  repeat' (first | with_reducible apply Az | with_reducible intro _)
  all_goals first
   | (exfalso;simp_all;done)
   | (simp only[*,Bool.true_or,Bool.or_true,Bool.false_or,Bool.or_false,Bool.not_true,Bool.not_false];exact .imR rfl rfl)
end Go.Proofs
