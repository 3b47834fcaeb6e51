/- A part of the proof: trees of Go values, short forms, contracts. -/
import Derived.Test.YtomoecbcgacncaaGreatDoorK20
namespace Go.Proofs
open Go Go.TL
set_option maxRecDepth 4000
set_option maxHeartbeats 4000000
theorem Ko (l:List UInt8) (a:Nat) (hl:l.length≤400) (ha:a≤l.length) :
 ∃ r:Sch×Nat,(DrS r.1∧r.2≤l.length)∧Sp 18 [.ptr 0 1 0 0] [(0,oC l a)] (schT r.1) [(0,oC l r.2)]:=by
 obtain⟨⟨A,a1⟩,⟨dA,ha1⟩,sA⟩:=QN qC7 (.inl rfl) l a hl ha;obtain⟨⟨B,a2⟩,⟨dB,ha2⟩,sB⟩:=QN qC8 (.inr rfl) l a1 hl ha1;dsimp only at dA ha1 sA dB ha2 sB;have h1:=kg l a2 2 hl ha2 oM;have b1:=KG l a2 2 ha2;generalize (nx l a2 2).2=a3 at h1 b1;generalize oneB l a2 2=o at h1;have h2:=zz l a3 1 3 hl b1 oM oM;have r2:=ka l a3 (3-1+1) oM;have b2:=KG l a3 (3-1+1) b1;generalize nx l a3 (3-1+1)=x2 at h2 r2 b2;obtain⟨N,hN⟩:=AJ (show 0≤1+x2.1 by omega);rw[hN] at h2;refine Qe Jv mixm (fun r:Sch×Nat=>schT r.1) (fun r=>[(0,oC l r.2)]) sMp ?_;unfold jP;refine sW ?_;refine XE.mp (fun _ _=>C1.draw 0 l a _ sA rfl rfl rfl) ?_;refine sW ?_;refine XE.mp (fun _ _=>C1.draw 0 l a1 _ sB rfl rfl rfl) ?_;refine sW ?_;refine XE.mp (fun _ _=>C1.draw 0 l a2 _ h1 rfl rfl rfl) ?_;refine sW ?_;refine XE.brB (fun ho=>?_) (fun ho=>?_)
 ·refine XE.mp (fun _ _=>C1.draw 0 l a3 _ h2 rfl rfl rfl) ?_;refine sW ?_;refine XE.loopF mixm [4,15] (fun y:List Col×Nat=>y.1.length≤N∧(∀ i (h:i<y.1.length),DrM (3+i) y.1[i])∧y.2≤l.length) (fun y=>[(4,vI ((N-y.1.length:Nat):Int))]) (fun y=>[(0,oC l y.2),aR 4096 2 [schT default],aR 8208 2 [cdlT A,cdlT B],aR 8220 7 (([whoC,sexC,jobC]++y.1).map colT),aR 8228 2 [.agg [.asl 8208 2,.asl 8220 (3+y.1.length)]]]) (fun y=>N-y.1.length) ([],x2.2) ⟨sMp,fun i h=>by simp at h,b2⟩ (fun e ⟨_,hst⟩=>?_) fun T' y hy ih=>?_
  ·show Le _ _ ⟨[(4,vI N),(0,_),(2,_),(3,_)],[(0,oC l x2.2),aR 4096 2 [schT default],aR 8208 2 [cdlT A,cdlT B],aR 8220 7 [colT whoC,colT sexC,colT jobC],aR 8228 2 [.agg [.asl 8208 2,.asl 8220 3]]]⟩;exact .oA (U5 0 4096 8208 8220 8228) []
  obtain⟨ms,a4⟩:=y;obtain⟨y1,y2,y3⟩:=hy;dsimp only at y1 y2 y3;simp only[tZ,↓uU,simprocAttr,AZ,Ay];refine XE.brN (fun h4=>?_) (fun h4=>?_)
  ·have hlt:ms.length<N:=by omega
   have hI:=qU7 (3+ms.length) oM;obtain⟨⟨M,a5⟩,⟨dM,ha5⟩,sM⟩:=wY (3+ms.length) l a4 hl y3;dsimp only at dM ha5 sM;have hwk:=jM (i:=N-ms.length) oM oM;refine XE.sd oM ?_;refine XE.mp (fun _ _=>C1.im hI rF rF) ?_;simp only[tZ,↓uU,simprocAttr,qU6];refine XE.sd (show 1+1≤9223372036854775807 by omega) ?_;refine XE.mp (fun _ _=>C1.draw 0 l a4 _ sM rfl rfl rfl) ?_;simp only[tZ,↓uU,simprocAttr,hwk];refine XE.sd oM (XE.sd oM (XE.sd kR ?_));refine XE.next ih (ms++[M],a5) ⟨by simp;omega,fun i h=>?_,ha5⟩ (by simp;omega) fun e ⟨_,hst⟩=>?_
   ·dsimp only at h ⊢
    by_cases hi:i<ms.length
    ·rw[List.getElem_append_left hi];exact y2 i hi
    ·have he:i=ms.length:=by rw[AW] at h;simp at h;omega
     subst he;rw[List.getElem_append_right (BZ _)];simpa using dM
   ·have e1:N-(ms++[M]).length=N-ms.length-1:=by rw[AW];simp;omega
    simp only[e1];exact .oA (U5 0 4096 8208 8220 8228) []
  ·have hnl:ms.length=N:=by omega
   refine XE.fin (⟨[A,B],[whoC,sexC,jobC]++ms⟩,a4) ⟨⟨⟨A,B,rfl,dA,dB⟩,⟨ms,.inr ⟨rfl,y2⟩,oM,oM⟩⟩,y3⟩ fun e ⟨_,hst⟩=>?_;refine⟨oM,?_⟩;exact .oA (U1 0) [8208,8220]
 ·refine XE.mp (fun _ _=>C1.draw 0 l a3 _ h2 rfl rfl rfl) ?_;refine sW ?_;refine XE.loopF mixm [4,15] (fun y:List Col×Nat=>y.1.length≤N∧(∀ i (h:i<y.1.length),DrM (2+i) y.1[i])∧y.2≤l.length) (fun y=>[(4,vI ((N-y.1.length:Nat):Int))]) (fun y=>[(0,oC l y.2),aR 4096 2 [schT default],aR 8208 2 [cdlT A,cdlT B],aR 8220 7 (([whoC,sexC]++y.1).map colT),aR 8228 2 [.agg [.asl 8208 2,.asl 8220 (2+y.1.length)]]]) (fun y=>N-y.1.length) ([],x2.2) ⟨sMp,fun i h=>by simp at h,b2⟩ (fun e ⟨_,hst⟩=>?_) fun T' y hy ih=>?_
  ·show Le _ _ ⟨[(4,vI N),(0,_),(2,_),(3,_)],[(0,oC l x2.2),aR 4096 2 [schT default],aR 8208 2 [cdlT A,cdlT B],aR 8220 7 [colT whoC,colT sexC],aR 8228 2 [.agg [.asl 8208 2,.asl 8220 2]]]⟩;exact .oA (U5 0 4096 8208 8220 8228) []
  obtain⟨ms,a4⟩:=y;obtain⟨y1,y2,y3⟩:=hy;dsimp only at y1 y2 y3;simp only[tZ,↓uU,simprocAttr,AZ,Ay];refine XE.brN (fun h4=>?_) (fun h4=>?_)
  ·have hlt:ms.length<N:=by omega
   have hI:=qU7 (2+ms.length) oM;obtain⟨⟨M,a5⟩,⟨dM,ha5⟩,sM⟩:=wY (2+ms.length) l a4 hl y3;dsimp only at dM ha5 sM;have hwk:=jM (i:=N-ms.length) oM oM;refine XE.sd oM ?_;refine XE.mp (fun _ _=>C1.im hI rF rF) ?_;simp only[tZ,↓uU,simprocAttr,qU6];refine XE.sd (show 1+1≤9223372036854775807 by omega) ?_;refine XE.mp (fun _ _=>C1.draw 0 l a4 _ sM rfl rfl rfl) ?_;simp only[tZ,↓uU,simprocAttr,hwk];refine XE.sd oM (XE.sd oM (XE.sd kR ?_));refine XE.next ih (ms++[M],a5) ⟨by simp;omega,fun i h=>?_,ha5⟩ (by simp;omega) fun e ⟨_,hst⟩=>?_
   ·dsimp only at h ⊢
    by_cases hi:i<ms.length
    ·rw[List.getElem_append_left hi];exact y2 i hi
    ·have he:i=ms.length:=by rw[AW] at h;simp at h;omega
     subst he;rw[List.getElem_append_right (BZ _)];simpa using dM
   ·have e1:N-(ms++[M]).length=N-ms.length-1:=by rw[AW];simp;omega
    simp only[e1];exact .oA (U5 0 4096 8208 8220 8228) []
  ·have hnl:ms.length=N:=by omega
   refine XE.fin (⟨[A,B],[whoC,sexC]++ms⟩,a4) ⟨⟨⟨A,B,rfl,dA,dB⟩,⟨ms,.inl ⟨rfl,y2⟩,oM,oM⟩⟩,y3⟩ fun e ⟨_,hst⟩=>?_;refine⟨oM,?_⟩;exact .oA (U1 0) [8208,8220]
theorem DrS.col {s:Sch} (h:DrS s) {i:Nat} (hi:i<s.cols.length) (hk:(qA s i).kind=3):∃ n,DrM n (qA s i):=by
 obtain⟨ms,hc,h1,h3⟩:=h.cs;have key:∀ (pre:List Col) (n:Nat),(∀ c∈pre,c.kind≠3)→s.cols=pre++ms→(∀ j (hj:j<ms.length),DrM (n+j) ms[j])→∃ n,DrM n (qA s i):=by
  intro pre n hp he hm;rw[qA,qt hi] at hk ⊢
  by_cases c:i<pre.length
  ·have e:s.cols[i]=pre[i]:=by simp only[he];exact List.getElem_append_left c
   rw[e] at hk;exact absurd hk (hp _ (AX c))
  ·have hl:i-pre.length<ms.length:=by rw[he,AW] at hi;omega
   have e:s.cols[i]=ms[i-pre.length]:=by simp only[he];exact List.getElem_append_right oM
   rw[e];exact⟨_,hm _ hl⟩
 rcases hc with⟨hc,hm⟩ | ⟨hc,hm⟩
 ·exact key [whoC,sexC] 2 (by simp [whoC,sexC]) (by rw[hc];rfl) hm
 ·exact key [whoC,sexC,jobC] 3 (by simp [whoC,sexC,jobC]) (by rw[hc];rfl) hm
theorem DrS.nl {s:Sch} (h:DrS s):s.lists.length=2:=by
 obtain⟨a,b,e,_⟩:=h.ls;rw[e];rfl
theorem Kp (s:Sch) (hd:DrS s) (i:Nat) (hi:i<s.cols.length) (l:List UInt8) (a:Nat) (hl:l.length≤400) (ha:a≤l.length) :
 ∃ r:Int×Nat,(jX s i r.1=true∧(i=0→r.1≤60)∧r.2≤l.length)∧Sp 43 [.ptr 0 1 0 0,schT s,vI i] [(0,oC l a)] (vI r.1) [(0,oC l r.2)]:=by
 have hE:=hd.ok;have hok:=jn hE;have hat:qA s i=s.cols[i]:=by rw[qA,qt hi]
 have hk:=wI (hok.cs i hi);have hH:∀ v,jX s i v=if s.cols[i].kind=1 then inB v 1 1048575
  else if s.cols[i].kind=2 then inB v 0 ((kI s i).codes.length-1)&&(lvlC (kI s i) v==wa (kI s i)-1)
  else (s.cols[i].opt&&(v==qd4))||inB v s.cols[i].low s.cols[i].high:=fun v=>by rw[jX,hat]
 by_cases k1:s.cols[i].kind=1
 ·have h1:=zz l a 1 60 hl ha oM oM;have r1:=ka l a (60-1+1) oM;have b1:=KG l a (60-1+1) ha;generalize nx l a (60-1+1)=x1 at h1 r1 b1;refine⟨(1+x1.1,x1.2),⟨by rw[hH,Aj k1,zq1];dsimp only;omega,fun _=>by dsimp only;omega,b1⟩,?_⟩;have q:(s.cols[i].kind==1)=true:=AY.2 k1;refine sIr zO fun e _ hst=>?_;unfold zi;simp only[tZ,↓uU,simprocAttr,Ax,qd hi,q];refine⟨oM,?_⟩;refine C1.draw 0 l a _ h1 rfl rfl rfl ?_;refine sW ?_;exact .oA (U1 0) []
 have q1:(s.cols[i].kind==1)=false:=Ak.2 k1;have hi0:∀ v:Int,i=0→v≤60:=fun v e=>by
  subst e;have:=hok.c0;rw[hat] at this;exact absurd this k1
 by_cases k2:s.cols[i].kind=2
 ·have q2:(s.cols[i].kind==2)=true:=AY.2 k2;have hlv:=qi0 s hok i hi (by rw[hat];exact k2);have hll:=qY7 hok hi (by rw[hat];exact k2);obtain⟨d1,d2⟩:=hok.cdl hi (by rw[hat];exact k2);have hne:0<(kV s i).length:=zp6 d2;have hlh:=fun v=>qY6 (s:=s) (i:=i) (by rw[hat];exact k2) d2 (v:=v);generalize kV s i=L at hlv hll hne hlh;have h1:=zK l a L.length hl ha oM;have r1:=ka l a L.length oM;have b1:=KG l a L.length ha;generalize nx l a L.length=x1 at h1 r1 b1;obtain⟨m,hm⟩:=AJ r1.1;have hmL:m<L.length:=by omega
  rw[hm] at h1;refine⟨(L[m],x1.2),⟨hlh _ (AX hmL),hi0 _,b1⟩,?_⟩;refine sIr zO fun e _ hst=>?_;unfold zi;simp only[tZ,↓uU,simprocAttr,Ax,qd hi,q1,q2];refine⟨oM,?_⟩;refine C1.im hlv rF rF ?_;refine sW ?_;refine C1.draw 0 l a _ h1 rfl rfl rfl ?_;simp only[tZ,↓uU,simprocAttr,Ax,qd hmL];refine⟨oM,?_⟩;exact .oA (U1 0) []
 have q2:(s.cols[i].kind==2)=false:=Ak.2 k2;have k3:s.cols[i].kind=3:=by rw[hat] at hk;omega
 obtain⟨n,hM⟩:=hd.col hi (by rw[hat];exact k3);rw[hat] at hM;have hlo:=hM.low;have hhi:=hM.high;have hin:∀ v,s.cols[i].low≤v→v≤s.cols[i].high→jX s i v=true:=fun v h1 h2=>by
  rw[hH,Aq k1,Aq k2,Dy,zq1];exact .inr ⟨h1,h2⟩
 cases ho:s.cols[i].opt with
 | false=>
   obtain⟨v,a2,v1,v2,ha2,sR⟩:=zs5 l a s.cols[i].low s.cols[i].high hl ha oM oM;refine⟨(v,a2),⟨hin v v1 v2,hi0 _,ha2⟩,?_⟩;refine sIr zO fun e _ hst=>?_;unfold zi;simp only[tZ,↓uU,simprocAttr,Ax,qd hi,q1,q2,ho];refine⟨oM,?_⟩;refine C2.no sMp ?_;refine sW ?_;refine C1.draw 0 l a _ sR rfl rfl rfl ?_;refine sW ?_;exact .oA (U1 0) []
 | true=>
   obtain⟨o,a1,b1,h1⟩:=zV3 l a 4 hl ha oM;cases o with
   | true=>
     refine⟨(qd4,a1),⟨by rw[hH,Aq k1,Aq k2,ho];simp,hi0 _,b1⟩,?_⟩;refine sIr zO fun e _ hst=>?_;unfold zi;simp only[tZ,↓uU,simprocAttr,Ax,qd hi,q1,q2,ho];refine⟨oM,?_⟩;refine C2.one (by trivial) (C1.draw 0 l a _ h1 rfl rfl rfl ?_);refine sW ?_;exact .oA (U1 0) []
   | false=>
     obtain⟨v,a2,v1,v2,ha2,sR⟩:=zs5 l a1 s.cols[i].low s.cols[i].high hl b1 oM oM;refine⟨(v,a2),⟨hin v v1 v2,hi0 _,ha2⟩,?_⟩;refine sIr zO fun e _ hst=>?_;unfold zi;simp only[tZ,↓uU,simprocAttr,Ax,qd hi,q1,q2,ho];refine⟨oM,?_⟩;refine C2.one (by trivial) (C1.draw 0 l a _ h1 rfl rfl rfl ?_);refine sW ?_;refine C1.draw 0 l a1 _ sR rfl rfl rfl ?_;refine sW ?_;exact .oA (U1 0) []
theorem WC (s:Sch) (hD:DrS s) (l:List UInt8) (a:Nat) (hl:l.length≤400) (ha:a≤l.length) :
 ∃ r:List Int×Nat,(rowE s r.1=0∧hd r.1≤60∧r.2≤l.length)∧Sp 21 [.ptr 0 1 0 0,schT s] [(0,oC l a)] (.asl 1 r.1.length) [(0,oC l r.2),aR 1 1 (r.1.map vI)]:=by
 have hE:=hD.ok;have hnc:=(jn hE).nc;refine Qe Wq mixm (fun r:List Int×Nat=>.asl 1 r.1.length) (fun r=>[(0,oC l r.2),aR 1 1 (r.1.map vI)]) sMp ?_;unfold wi;refine sW ?_;refine XE.loopF mixm [5,10] (fun y:List Int×Nat=>y.1.length≤s.cols.length∧(∀ i,i<y.1.length→jX s i (y.1.getD i 0)=true)∧hd y.1≤60∧y.2≤l.length) (fun y=>[(5,.asl 1 y.1.length),(10,vI y.1.length)]) (fun y=>[(0,oC l y.2),aR 4096 2 [schT s],aR 1 1 (y.1.map vI)]) (fun y=>s.cols.length-y.1.length) ([],a) ⟨sMp,sMp,by simp [hd],ha⟩ (fun e ⟨_,hst⟩=>?_) fun T' y hy ih=>?_
 ·exact .oA [uI 0,uI 4096,(1,none)] []
 obtain⟨rs,a1⟩:=y;obtain⟨y1,y2,y5,y3⟩:=hy;dsimp only at y1 y2 y3 y5;simp only[tZ,↓uU,simprocAttr,AZ,Ay];refine XE.brN (fun h4=>?_) (fun h4=>?_)
 ·have hlt:rs.length<s.cols.length:=by omega
  obtain⟨⟨v,a2⟩,⟨hv,hv6,ha2⟩,sV⟩:=Kp s hD rs.length hlt l a1 hl y3;dsimp only at hv hv6 ha2 sV;have hwi:=qg (i:=rs.length) oM;refine XE.mp (fun _ _=>C1.draw 0 l a1 _ sV rfl rfl rfl) ?_;simp only[tZ,↓uU,simprocAttr,hwi];refine XE.sd oM ?_;refine XE.next ih (rs++[v],a2) ⟨by simp;omega,fun i h=>?_,?_,ha2⟩ (by simp;omega) fun e ⟨_,hst⟩=>?_
  ·dsimp only at h ⊢
   by_cases hi:i<rs.length
   ·rw[CY,BK hi,← CY];exact y2 i hi
   ·have he:i=rs.length:=by rw[AW] at h;simp at h;omega
    subst he;rw[CY,BJ (BZ _)];simpa using hv
  ·cases rs with
   | nil=>exact hv6 rfl
   | cons r0 rs=>exact y5
  ·exact .oA (U3 0 4096 1) []
 ·have hnl:rs.length=s.cols.length:=by omega
  refine XE.fin (rs,a1) ⟨qI4 hE hnl y2,y5,y3⟩ fun e ⟨_,hst⟩=>?_;exact .oA (U2 0 1) []
theorem KZ (s:Sch) (hD:DrS s) (l:List UInt8) (a:Nat) (hl:l.length≤400) (ha:a≤l.length) :
 ∃ r:List Int×Nat,(rowE s r.1=0∧hd r.1≤60∧r.2≤l.length)∧Sp 21 [.ptr 0 1 0 0,schT s] [(0,oC l a)] (vIs r.1) [(0,oC l r.2)]:=by
 obtain⟨r,hr,hs⟩:=WC s hD l a hl ha;refine⟨r,hr,hs.weaken ?_⟩;refine .of (U1 0) [1] rfl rfl ?_ ?_
 all_goals (try exact clA)
structure DrX (x:Src):Prop where
 sch:DrS x.sch
 ok:SrcOk x
 gone:x.gone=[]
 ver:x.ver=0
abbrev srcZ (s:Src):T:=.agg [.sl 2 (s.sch.lists.map cdlT),.sl 7 (s.sch.cols.map colT),vRw s.rows,.v (.slice none 0 0),vI s.ver]
theorem wZ (most:Int) (l:List UInt8) (a:Nat) (hl:l.length≤400) (ha:a≤l.length) (hm:0≤most∧most≤100) :
 ∃ r:Src×Nat,((DrX r.1∧(r.1.rows.length:Int)≤most∧∀ r2∈r.1.rows,hd r2≤60)∧r.2≤l.length)∧Sp 6 [.ptr 0 1 0 0,vI most] [(0,oC l a)] (srcZ r.1) [(0,oC l r.2)]:=by
 obtain⟨⟨s,a1⟩,⟨hD,ha1⟩,sS⟩:=Ko l a hl ha;dsimp only at hD ha1 sS;obtain⟨v,a2,v1,v2,ha2,sN⟩:=zI1 l a1 (most+1) hl ha1 oM;obtain⟨N,rfl⟩:=AJ v1;have hE:=hD.ok;have hw:IntKind.i64.wrap (most+1)=most+1:=AK _ oM;refine Qe Jt mixm (fun r:Src×Nat=>srcZ r.1) (fun r=>[(0,oC l r.2)]) sMp ?_;unfold jO;refine sW ?_;refine XE.mp (fun _ _=>C1.draw 0 l a _ sS rfl rfl rfl) ?_;simp only[tZ,↓uU,simprocAttr,hw];refine XE.mp (fun _ _=>C1.draw 0 l a1 _ sN rfl rfl rfl) ?_;refine sW ?_;refine XE.loopF mixm [7] (fun y:Nat×List (List Int)×Nat=>y.1≤N∧y.2.1.length+y.1≤N∧AscR y.2.1∧(∀ r∈y.2.1,rowE s r=0∧hd r≤60)∧y.2.2≤l.length) (fun y=>[(7,vI y.1)]) (fun y=>[(0,oC l y.2.2),aR 4096 5 [srcT src0],aR 8200 2 [schT s],aR 12296 5 [.agg [.sl 2 (s.lists.map cdlT),.sl 7 (s.cols.map colT),vRw y.2.1,.v (.slice none 0 0),vI 0]]]) (fun y=>y.1) (N,[],a2) ⟨sMp,sMp,.nil,sMp,ha2⟩ (fun e ⟨_,hst⟩=>?_) fun T' y hy ih=>?_
 ·exact .oA (U4 0 4096 8200 12296) []
 obtain⟨k,rs,a3⟩:=y;obtain⟨y0,y1,y2,y3,y4⟩:=hy;dsimp only at y0 y1 y2 y3 y4;simp only[tZ,↓uU,simprocAttr,AZ,Ay];refine XE.brN (fun h4=>?_) (fun h4=>?_)
 ·obtain⟨⟨row,a4⟩,⟨hr,hr6,ha4⟩,sR⟩:=KZ s hD l a3 hl y4;dsimp only at hr hr6 ha4 sR;have hwk:=jM (i:=k) oM oM;refine XE.mp (fun _ _=>C1.draw 0 l a3 _ sR rfl rfl rfl) ?_;refine sW ?_;refine XE.mp (fun _ _=>C1.im (qe3 rs row oM (fun r hr=>kz (y3 r hr).1) (kz hr)) rF rF) ?_;simp only[tZ,↓uU,simprocAttr,hwk];refine XE.sd kR ?_;have hpl:=qT8 rs row;refine XE.next ih (k-1,putR rs row,a4) ⟨by dsimp only;omega,by dsimp only;omega,Yv y2,fun r hr2=>?_,ha4⟩ (by dsimp only;omega) fun e ⟨_,hst⟩=>?_
  ·rcases (Yw y2).1 hr2 with h | h
   ·rw[h];exact⟨hr,hr6⟩
   ·exact y3 r h.1
  ·exact .oA (U4 0 4096 8200 12296) []
 ·have hk:k=0:=by omega
  refine XE.fin (⟨s,rs,[],0⟩,a3) ⟨⟨⟨hD,⟨hE,by dsimp only;omega,sMp,sMp,fun r hr=>(y3 r hr).1,y2,sMp,.nil⟩,rfl,rfl⟩,by dsimp only;omega,fun r hr=>(y3 r hr).2⟩,y4⟩ fun e ⟨_,hst⟩=>?_;exact .oA (U1 0) []
theorem JD (most:Int) (l:List UInt8) (a:Nat) (hl:l.length≤400) (ha:a≤l.length) (hm:0≤most∧most≤100) :
 ∃ r:Src×Nat,((DrX r.1∧(r.1.rows.length:Int)≤most∧∀ r2∈r.1.rows,hd r2≤60)∧r.2≤l.length)∧Sp 6 [.ptr 0 1 0 0,vI most] [(0,oC l a)] (srcT r.1) [(0,oC l r.2)]:=by
 obtain⟨r,hr,hs⟩:=wZ most l a hl ha hm;refine⟨r,hr,hs.weaken ?_⟩;have hg:r.1.gone.map vI=[]:=by rw[hr.1.1.gone];rfl
 refine .of (U1 0) [] rfl rfl ?_ ?_
 all_goals (try exact clA)
 all_goals (try exact hg)
structure DrE (x:Src) (d:Edt):Prop where
 kind:1≤d.kind∧d.kind≤4
 len:d.row.length≤8
 id:0≤d.id∧d.id≤1048575
def modI (n m:Int):Int:=if m<1 then 0 else n % m
theorem QO (n m:Int) (hm:m≤1000000000):Sp 12 [vI n,vI m] [] (vI (modI n m)) []:=by
 refine sIr qH7 fun e _ hst=>?_;unfold JY;simp only[tZ,↓uU,simprocAttr,AZ,Ay];refine⟨fun h=>?_,fun h=>?_⟩
 ·rw[modI,Aj h];exact .imR rfl rfl
 rw[modI,Aq h];have h1:=Int.tmod_lt_of_pos n (show 0<m by omega);have h2:=Int.lt_tmod_of_pos n (show 0<m by omega);have h3:=Int.emod_nonneg n (b:=m) oM;have h4:=Int.emod_lt_of_pos n (b:=m) oM;have h5:n % m=n.tmod m∨n % m=n.tmod m+m:=by
  rw[Int.tmod_eq_emod];split
  ·left;omega
  ·right
   rw[show (m.natAbs:Int)=m by omega];omega
 refine⟨oM,fun h=>?_,fun h=>?_⟩
 ·have hw:IntKind.i64.wrap (n.tmod m+m)=n % m:=by rw[AK _ oM];omega
  rw[hw];exact .imR rfl rfl
 ·have hw:n.tmod m=n % m:=by omega
  rw[hw];exact .imR rfl rfl
set_option maxHeartbeats 8000000
theorem qs5 (n:Int) {m:Int} (h:0<m):0≤modI n m∧modI n m<m:=by
 unfold modI;rw[Aq oM];exact⟨Int.emod_nonneg n oM,Int.emod_lt_of_pos n h⟩
open So
theorem zB0 (l:List UInt8) (n1 n2:Int):∃ y:Src,SmS y∧Sp 11 [vL l,vI n1,vI n2] [] (srcT y) []:=by
 have hl4:(l.take 400).length≤400:=by rw[Cz];omega
 obtain⟨⟨x,a1⟩,⟨⟨hX,hx6,_⟩,ha1⟩,sS⟩:=wZ 6 (l.take 400) 0 hl4 oM oM;dsimp only at hX hx6 ha1 sS;obtain⟨v,a2,v1,v2,ha2,sN⟩:=zI1 (l.take 400) a1 8 hl4 ha1 oM;have hx:=hX.ok;have hsm:=hx.same;have hfit:∀ r∈x.rows,0<r.length∧r.length≤8:=fun r hr=>by
  have h1:=(Jg (hx.rows r hr)).2.1;have h2:=(jn hx.sch).nc;omega
 by_cases e1:v=1
 ·refine⟨⟨x.sch,x.rows,[],n2⟩,⟨hsm.sch,hsm.wid,hsm.rows,hsm.row,sMp⟩,?_⟩;have q1:(v==1)=true:=AY.2 e1;refine sIr zM fun e _ hst=>?_;unfold zm;refine sW ?_;refine C1.newdraw 8196 (kD l) rfl rfl ?_;generalize l.take 400=m at hl4 sS sN ha1 ha2 ⊢
  refine sW ?_;refine C1.draw 8196 m 0 _ sS rfl rfl rfl ?_;refine sW ?_;refine C1.draw 8196 m a1 _ sN rfl rfl rfl ?_;simp only[tZ,↓uU,simprocAttr,q1];exact .oA [] []
 have q1:(v==1)=false:=Ak.2 e1;by_cases e2:v=2
 ·refine⟨⟨x.sch,x.rows,[n2],x.ver⟩,⟨hsm.sch,hsm.wid,hsm.rows,hsm.row,sMp⟩,?_⟩;have q2:(v==2)=true:=AY.2 e2;refine sIr zM fun e _ hst=>?_;unfold zm;refine sW ?_;refine C1.newdraw 8196 (kD l) rfl rfl ?_;generalize l.take 400=m at hl4 sS sN ha1 ha2 ⊢
  refine sW ?_;refine C1.draw 8196 m 0 _ sS rfl rfl rfl ?_;refine sW ?_;refine C1.draw 8196 m a1 _ sN rfl rfl rfl ?_;simp only[tZ,↓uU,simprocAttr,q1,q2]
  repeat (first | refine⟨oM,?_⟩ | refine⟨kR,?_⟩)
  exact .oA [] [32784]
 have q2:(v==2)=false:=Ak.2 e2;by_cases e3:v=3
 ·have q3:(v==3)=true:=AY.2 e3;by_cases h0:x.rows.length=0
  ·refine⟨⟨x.sch,x.rows,[],x.ver⟩,⟨hsm.sch,hsm.wid,hsm.rows,hsm.row,sMp⟩,?_⟩;have e0:decide ((x.rows.length:Int)>0)=false:=Cq oM;refine sIr zM fun e _ hst=>?_;unfold zm;refine sW ?_;refine C1.newdraw 8196 (kD l) rfl rfl ?_;generalize l.take 400=m at hl4 sS sN ha1 ha2 ⊢
   refine sW ?_;refine C1.draw 8196 m 0 _ sS rfl rfl rfl ?_;refine sW ?_;refine C1.draw 8196 m a1 _ sN rfl rfl rfl ?_;simp only[tZ,↓uU,simprocAttr,q1,q2,q3,e0];exact .oA [] []
  ·have e0:decide ((x.rows.length:Int)>0)=true:=Cx oM;have hM:=qs5 n1 (m:=(x.rows.length:Int)) oM;have sM:=QO n1 (x.rows.length:Int) oM;obtain⟨k,hk⟩:=AJ hM.1;rw[hk] at sM hM;have hk2:k<x.rows.length:=by omega
   obtain⟨r1,r2⟩:=hfit _ (AX hk2);have hQ:=qs5 (IntKind.i64.wrap (n1.tdiv 7)) (m:=(x.rows[k].length:Int)) oM;have sQ:=QO (IntKind.i64.wrap (n1.tdiv 7)) (x.rows[k].length:Int) oM;obtain⟨j,hj⟩:=AJ hQ.1;rw[hj] at sQ hQ;have hj2:j<x.rows[k].length:=by omega
   refine⟨⟨x.sch,x.rows.take k++x.rows[k].set j n2::x.rows.drop (k+1),[],x.ver⟩,⟨hsm.sch,hsm.wid,by simp;omega,fun r hr=>?_,sMp⟩,?_⟩
   ·rcases Dz.1 hr with h | h
    ·have:=hsm.row r (EX h);omega
    ·rcases Ck.1 h with h | h
     ·rw[h,Fw];omega
     ·have:=hsm.row r (EW h);omega
   refine jj [18] zM mixm sMp fun e _ hst=>QR ?_;unfold zm;simp only[yA,List.contains_cons,List.contains_nil,Nat.reduceBEq,Bool.or_false,Bool.or_true,Bool.true_or,Bool.false_or,cond_true,cond_false];refine sW ?_;refine C1.newdraw 8196 (kD l) rfl rfl ?_;generalize l.take 400=m at hl4 sS sN ha1 ha2 ⊢
   refine sW ?_;refine C1.draw 8196 m 0 _ sS rfl rfl rfl ?_;refine sW ?_;refine C1.draw 8196 m a1 _ sN rfl rfl rfl ?_;simp only[tZ,↓uU,simprocAttr,q1,q2,q3,e0];refine C1.im sM rF rF ?_;simp only[tZ,↓uU,simprocAttr,Ax,qd hk2];refine⟨oM,oM,?_⟩;refine C1.im sQ rF rF ?_;have hws:=qg (i:=k) oM;simp only[tZ,↓uU,simprocAttr,Ax,qd hj2,hws,show ∀ a b:Int,repl (vI a) 0 (vI b)=vI b from fun _ _=>rfl];have hc1:cutT 0 (k:Int) (x.rows.map vIs)=(x.rows.take k).map vIs:=by rw[qa3,qR2]
   have hc2:cutT ((k+1:Nat):Int) (x.rows.length:Int) (x.rows.map vIs)=(x.rows.drop (k+1)).map vIs:=by rw[qa3,zx4]
   have hc3:((x.rows.take k).map vIs).length=k:=by rw[BY,Cz];omega
   have hc4:((x.rows.drop (k+1)).map vIs).length=x.rows.length-(k+1):=by rw[BY,List.length_drop]
   rw[hc1,hc2,hc3,hc4,← List.map_set];refine⟨oM,oM,oM,oM,by rw[BY,Fw],oM,oM,oM,kR,?_⟩;have hRl:(x.rows.take k++x.rows[k].set j n2::x.rows.drop (k+1)).length=k+1+(x.rows.length-(k+1)):=by rw[AW,CJ,Cz,List.length_drop];omega
   have hsl:(x.rows[k].set j n2).length=x.rows[k].length:=Fw;refine zN9 [aR 4096 5 [srcT src0],aR 12296 5 [.agg [.sl 2 (x.sch.lists.map cdlT),.sl 7 (x.sch.cols.map colT),.asl 57360 (k+1+(x.rows.length-(k+1))),.v (.slice none 0 0),vI x.ver]],aR 57360 1 ((x.rows.take k++x.rows[k].set j n2::x.rows.drop (k+1)).map vIs)] ?_ ?_
   ·rw[By,List.map_cons,Dj];refine .of (U3 4096 12296 57360) [49172] rfl (by first | rfl | (rw[hst];rfl)) ?_ ?_
    all_goals (try simp only[tL,simprocAttr,By,List.map_cons,List.map_nil,BW,Cy])
    all_goals (try (repeat' (first | exact zl | (apply zC;intro _;exact⟨rfl,rfl⟩) | (apply qh;intro _;exact⟨rfl,rfl⟩) | with_reducible apply zh | with_reducible refine qE ⟨rfl,rfl⟩ ?_ | exact qK | with_reducible apply zb | with_reducible refine za ⟨rfl,rfl,?_⟩ ?_ | with_reducible apply Az | exact zc rfl | exact zc (by assumption) | (refine⟨⟨?_,rfl,?_,rfl,?_⟩,trivial⟩ <;> first | (simp;done) | (apply qh;intro _;exact⟨rfl,rfl⟩)) | trivial | rfl | (rw[qg oM]) | omega)))
    done
   refine sW ?_;refine⟨by rw[Cz,List.length_drop];omega,?_⟩;generalize x.rows.take k++x.rows[k].set j n2::x.rows.drop (k+1)=R at hRl ⊢
   exact .oA [] [57360]
 have q3:(v==3)=false:=Ak.2 e3;by_cases e4:v=4
 ·refine⟨⟨x.sch,x.rows,[1+modI n1 60,1+modI n2 60],x.ver⟩,⟨hsm.sch,hsm.wid,hsm.rows,hsm.row,sMp⟩,?_⟩;have q4:(v==4)=true:=AY.2 e4;have hM1:=qs5 n1 (m:=60) (by decide);have hM2:=qs5 n2 (m:=60) (by decide);have w1:IntKind.i64.wrap (1+modI n1 60)=1+modI n1 60:=AK _ oM;have w2:IntKind.i64.wrap (1+modI n2 60)=1+modI n2 60:=AK _ oM;have sM1:=QO n1 60 (by decide);have sM2:=QO n2 60 (by decide);refine sIr zM fun e _ hst=>?_;unfold zm;refine sW ?_;refine C1.newdraw 8196 (kD l) rfl rfl ?_;generalize l.take 400=m at hl4 sS sN ha1 ha2 ⊢
  refine sW ?_;refine C1.draw 8196 m 0 _ sS rfl rfl rfl ?_;refine sW ?_;refine C1.draw 8196 m a1 _ sN rfl rfl rfl ?_;simp only[tZ,↓uU,simprocAttr,q1,q2,q3,q4];refine C1.im sM1 rF rF ?_;simp only[tZ,↓uU,simprocAttr,w1];refine C1.im sM2 rF rF ?_;simp only[tZ,↓uU,simprocAttr,w1,w2]
  repeat (first | refine⟨oM,?_⟩ | refine⟨kR,?_⟩)
  exact .oA [] [65560]
 have q4:(v==4)=false:=Ak.2 e4;by_cases e5:v=5
 ·refine⟨⟨x.sch,x.rows,[],300⟩,⟨hsm.sch,hsm.wid,hsm.rows,hsm.row,sMp⟩,?_⟩;have q5:(v==5)=true:=AY.2 e5;refine sIr zM fun e _ hst=>?_;unfold zm;refine sW ?_;refine C1.newdraw 8196 (kD l) rfl rfl ?_;generalize l.take 400=m at hl4 sS sN ha1 ha2 ⊢
  refine sW ?_;refine C1.draw 8196 m 0 _ sS rfl rfl rfl ?_;refine sW ?_;refine C1.draw 8196 m a1 _ sN rfl rfl rfl ?_;simp only[tZ,↓uU,simprocAttr,q1,q2,q3,q4,q5];exact .oA [] []
 have q5:(v==5)=false:=Ak.2 e5
 ·refine⟨⟨x.sch,x.rows,[],x.ver⟩,⟨hsm.sch,hsm.wid,hsm.rows,hsm.row,sMp⟩,?_⟩;refine sIr zM fun e _ hst=>?_;unfold zm;refine sW ?_;refine C1.newdraw 8196 (kD l) rfl rfl ?_;generalize l.take 400=m at hl4 sS sN ha1 ha2 ⊢
  refine sW ?_;refine C1.draw 8196 m 0 _ sS rfl rfl rfl ?_;refine sW ?_;refine C1.draw 8196 m a1 _ sN rfl rfl rfl ?_;simp only[tZ,↓uU,simprocAttr,q1,q2,q3,q4,q5];exact .oA [] []
theorem Wa (l:List (List Int)) (hl:l.length≤1000000):Sp 7 [vRw l] [] (.asl 0 l.length) [aR 0 1 (l.reverse.map vIs)]:=by
 have hw:IntKind.i64.wrap ((l.length:Int)-1)=(l.length:Int)-1:=AK _ oM;refine sIr QC fun e _ hst=>?_;unfold je;simp only[tZ,↓uU,simprocAttr,hw];refine qy mixm (α:=Nat) [3,4] (fun i=>i≤l.length) (fun i=>[(3,.asl 1 (l.drop i).reverse.length),(4,vI ((i:Int)-1))]) (fun i=>[aR 1 1 ((l.drop i).reverse.map vIs)]) (fun i=>i) l.length oM ?_ fun i hi=>?_
 ·simp only[List.drop_length,List.reverse_nil,Cw,List.map_nil];exact .oA [(1,none)] []
 refine sD ?_;refine⟨fun h2=>?_,fun h2=>?_⟩
 ·obtain⟨k,rfl⟩:∃ k,i=k+1:=⟨i-1,oM⟩;have hk2:k<l.length:=by omega
  have e1:((k+1:Nat):Int)-1=(k:Int):=by omega
  have hw2:IntKind.i64.wrap ((k:Int)-1)=(k:Int)-1:=AK _ oM;have hs:(l.drop k).reverse=(l.drop (k+1)).reverse++[l[k]]:=by rw[List.drop_eq_getElem_cons hk2,List.reverse_cons]
  have hll:(l.drop (k+1)).reverse.length=l.length-(k+1):=by rw[List.length_reverse,List.length_drop]
  have hspl:=congrArg List.length hs;simp only[AW,CJ,Cw] at hspl;simp only[e1];simp only[tZ,↓uU,simprocAttr,Ax,qd hk2,hw2];refine⟨oM,oM,k,oM,oM,?_⟩;rw[hs];exact .oA (U1 1) []
 ·have:i=0:=by omega
  subst this;rw[List.drop_zero,List.length_reverse];exact .oA [(0,some 1)] []
theorem zs6 {s:Sch} {l:List (List Int)} (hs:qC5 s) (hw:∀ c∈s.cols,c.widths.length<4611686018427387904) (hl:l.length≤1000000) (hr:∀ r∈l,r.length<4611686018427387904):SmS (newS s l):=by
 by_cases h:newE s l=0
 ·have hD:dupB l=false:=by
   cases e:dupB l with
   | false=>rfl
   | true=>
     exfalso
     rw[newE,e] at h;split at h
     ·rename_i k;exact k h
     ·split at h
      ·cases h
      ·split at h <;> cases h
  have hn:(l.map hd).Nodup:=by
   unfold dupB at hD;rw[Bz,AZ] at hD;exact hD
  obtain⟨_,q2⟩:=qe7 l [] List.Pairwise.nil hn;have e1:accN l l.length=newL l:=by unfold accN newL;rw[Bw]
  have h2:=Yx l l.length;rw[e1] at h2;rw[newS,Aq (by rw[h];simp)];refine⟨hs,hw,by dsimp only;omega,fun r hr2=>hr r ?_,sMp⟩;have h3:=(q2 r).1 hr2;simpa using h3
 ·rw[newS,Aj h];exact zr9
theorem JE (l:List UInt8) (rows:List (List Int)) (n1 n2:Int) (hrn:rows.length<4611686018427387904) (hrl:∀ r∈rows,r.length<4611686018427387904):Sp 3 [vL l,vRw rows,vI n1,vI n2] [] (vB true) []:=by
 have hl4:(l.take 400).length≤400:=by rw[Cz];omega
 obtain⟨⟨x,a1⟩,⟨⟨hX,hx8,hx6⟩,ha1⟩,sS⟩:=JD 8 (l.take 400) 0 hl4 oM oM;dsimp only at hX hx8 hx6 ha1 sS;obtain⟨y,hy,sY⟩:=zB0 l n1 n2;have hx:=hX.ok;have hxs:=hx.same;have hnc:=(jn hX.sch.ok).nc;have hnl:=(jn hX.sch.ok).nl;have sM:=QO n2 64 (by decide);refine jj [6] ZO mixm sMp fun e _ hst=>QR ?_;unfold jD;simp only[yA,List.contains_cons,List.contains_nil,Nat.reduceBEq,Bool.or_false,Bool.or_true,Bool.true_or,Bool.false_or,cond_true,cond_false];refine sW ?_;refine⟨fun h20=>?_,fun h20=>?_⟩
 ·refine C1.im KY rF rF ?_;refine sW ?_;exact .oA [] []
 rw[Ay] at h20;refine C1.newdraw 16388 (kD l) rfl rfl ?_;generalize l.take 400=m at hl4 sS ha1 ⊢
 refine sW ?_;refine C1.draw 16388 m 0 _ sS rfl rfl rfl ?_;refine sW ?_;have v1:=wz y hy.sch.2.1 hy.sch.1 hy.row;have v2:=qr8 y ⟨hy.sch,hy.row⟩;have v3:=wz x hxs.sch.2.1 hxs.sch.1 hxs.row;rw[qe2.2 hx] at v3;have f1:=yp y (modI n2 64) hy.rows;have f2:=Qg y (modI n2 64) hy.rows;have f3:=yp ⟨⟨[],[]⟩,rows,[],0⟩ n2 hrn;have f4:=Qg ⟨⟨[],[]⟩,rows,[],0⟩ n2 hrn;have hrI:ImXs 1 (x.rows.reverse.map vIs):=(by apply qh;intro _;exact⟨rfl,rfl⟩);have hxI:ImXs 1 (x.rows.map vIs):=(by apply qh;intro _;exact⟨rfl,rfl⟩);by_cases hx0:x.rows.length=0
 rotate_left
 focus
  refine C1.of [] [(24584,some 0)] [] [aR 24584 1 (x.rows.reverse.map vIs)] (Wa x.rows oM) (yB rF) rF trivial rF rF ?_ rF rF (val:=.vw 24584 x.rows.length 0 x.rows.length) ?_ (.inl rF) ?_
  ·all_goals (try exact clA)
  ·all_goals (try exact clA)
  refine sW ?_;refine zK0 24584 rF rF fun c hc1 hc2=>?_;simp only[qu9,JS,qX5];rw[BY,List.length_reverse] at hc1;obtain⟨J,hJ⟩:∃ J,J=List.replicate (c-x.rows.length) (Wi 1):=⟨_,rfl⟩;have hJl:J.length=c-x.rows.length:=by rw[hJ,List.length_replicate]
  have hJI:ImXs 1 J:=fun z hz=>by
   rw[hJ] at hz;rw[(List.mem_replicate.1 hz).2];exact⟨rfl,rfl⟩
  simp only[BY,List.length_reverse,← hJ];have e1:List.take x.rows.length (List.map vIs x.rows.reverse++J)=List.map vIs x.rows.reverse:=by
   rw[List.take_append_of_le_length (by rw[BY,List.length_reverse];exact BZ _),List.take_of_length_le (by rw[BY,List.length_reverse];exact BZ _)]
  have hrj:ImXs 1 (List.map vIs x.rows.reverse++J):=fun z hz=>by
   rcases Dz.1 hz with h | h
   ·exact hrI z h
   ·exact hJI z h
  by_cases hc:x.rows.length+x.rows.length≤c
  focus
   have hcT:(x.rows.length+x.rows.length≤c)=True:=eq_true hc;simp only[tZ,↓uU,simprocAttr,hcT,e1];refine⟨⟨by rw[List.length_reverse];omega,oM⟩,by rw[List.length_reverse,List.length_drop,AW,BY,List.length_reverse];omega,?_⟩;have e2:List.map vIs (x.rows.reverse++x.rows)=List.take (x.rows.length+x.rows.length) (List.map vIs x.rows.reverse++List.map vIs x.rows++List.drop (x.rows.length+x.rows.length) (List.map vIs x.rows.reverse++J)):=by
    rw[By,List.take_append_of_le_length (by rw[AW,BY,BY,List.length_reverse];exact BZ _),List.take_of_length_le (by rw[AW,BY,BY,List.length_reverse];exact BZ _)]
   have e3:List.map vIs x.rows.reverse=List.take x.rows.length (List.map vIs x.rows.reverse++List.map vIs x.rows++List.drop (x.rows.length+x.rows.length) (List.map vIs x.rows.reverse++J)):=by
    rw[Dj,List.take_append_of_le_length (by rw[BY,List.length_reverse];exact BZ _),List.take_of_length_le (by rw[BY,List.length_reverse];exact BZ _)]
   have hI:ImXs 1 (List.map vIs x.rows.reverse++List.map vIs x.rows++List.drop (x.rows.length+x.rows.length) (List.map vIs x.rows.reverse++J)):=fun z hz=>by
    rcases Dz.1 hz with h | h
    ·rcases Dz.1 h with h | h
     ·exact hrI z h
     ·exact hxI z h
    ·exact hrj z (EW h)
   have hL:(List.map vIs x.rows.reverse++List.map vIs x.rows++List.drop (x.rows.length+x.rows.length) (List.map vIs x.rows.reverse++J)).length=c:=by
    rw[AW,AW,List.length_drop,AW,BY,BY,List.length_reverse];omega
   generalize List.map vIs x.rows.reverse++List.map vIs x.rows++List.drop (x.rows.length+x.rows.length) (List.map vIs x.rows.reverse++J)=V at e2 e3 hI hL ⊢
   refine qy mixm (α:=Nat) [39] (fun i=>i≤3) (fun i=>[(39,vI i)]) (fun i=>[aR 20488 5 [.agg [.sl 2 (x.sch.lists.map cdlT),.sl 7 (x.sch.cols.map colT),vRw x.rows,vIs x.gone,vI x.ver]],aR 28696 1 [vRw rows,vRw x.rows.reverse,vRw (x.rows.reverse++x.rows)]]) (fun i=>3-i) 0 oM ?_ fun i hi=>?_
   ·refine .of (U2 20488 28696) [24584] rfl (by first | rfl | (rw[hst];rfl)) ?_ ?_
    all_goals (try simp only[tL,simprocAttr,By,List.map_cons,List.map_nil,BW,Cy])
    all_goals (try (repeat' (first | exact zl | (apply zC;intro _;exact⟨rfl,rfl⟩) | (apply qh;intro _;exact⟨rfl,rfl⟩) | with_reducible apply zh | with_reducible refine qE ⟨rfl,rfl⟩ ?_ | exact qK | with_reducible apply zb | with_reducible refine za ⟨rfl,rfl,?_⟩ ?_ | with_reducible apply Az | exact zc rfl | exact zc (by assumption) | (refine⟨⟨?_,rfl,?_,rfl,?_⟩,trivial⟩ <;> first | (simp;done) | (apply qh;intro _;exact⟨rfl,rfl⟩)) | trivial | rfl | (rw[qg oM]) | omega)))
    ·exact⟨⟨sMp,⟨rfl,hL,e3,oM,hI⟩⟩,trivial⟩
    ·exact⟨⟨sMp,⟨rfl,hL,e2,oM,hI⟩⟩,trivial⟩
  rotate_left
  focus
   have hcT:(x.rows.length+x.rows.length≤c)=False:=eq_false hc;simp only[tZ,↓uU,simprocAttr,hcT,e1];refine⟨⟨by rw[List.length_reverse];omega,oM,oM⟩,⟨by rw[List.length_reverse];omega,by rw[List.length_reverse]⟩,?_⟩;refine qy mixm (α:=Nat) [39] (fun i=>i≤3) (fun i=>[(39,vI i)]) (fun i=>[aR 20488 5 [.agg [.sl 2 (x.sch.lists.map cdlT),.sl 7 (x.sch.cols.map colT),vRw x.rows,vIs x.gone,vI x.ver]],aR 28696 1 [vRw rows,vRw x.rows.reverse,vRw (x.rows.reverse++x.rows)]]) (fun i=>3-i) 0 oM ?_ fun i hi=>?_
   ·refine .of (U2 20488 28696) [24584,28692] rfl (by first | rfl | (rw[hst];rfl)) ?_ ?_
    all_goals (try simp only[tL,simprocAttr,By,List.map_cons,List.map_nil,BW,Cy])
    all_goals (try (repeat' (first | exact zl | (apply zC;intro _;exact⟨rfl,rfl⟩) | (apply qh;intro _;exact⟨rfl,rfl⟩) | with_reducible apply zh | with_reducible refine qE ⟨rfl,rfl⟩ ?_ | exact qK | with_reducible apply zb | with_reducible refine za ⟨rfl,rfl,?_⟩ ?_ | with_reducible apply Az | exact zc rfl | exact zc (by assumption) | (refine⟨⟨?_,rfl,?_,rfl,?_⟩,trivial⟩ <;> first | (simp;done) | (apply qh;intro _;exact⟨rfl,rfl⟩)) | trivial | rfl | (rw[qg oM]) | omega)))
    ·exact⟨⟨sMp,⟨rfl,by rw[AW,BY,List.length_reverse,hJl];omega,e1.symm,oM,hrj⟩⟩,trivial⟩
    ·refine⟨⟨sMp,⟨rfl,by rw[AW,BY,BY,List.length_reverse],By,?_⟩⟩,trivial⟩;intro z hz;rcases Dz.1 hz with h | h
     ·exact hrI z h
     ·exact hxI z h
 rotate_left 2
 focus
  have hx1:x.rows=[]:=DJ hx0;refine C1.fresh 24584 (Wa x.rows oM) rF (by apply qh;intro _;exact⟨rfl,rfl⟩) rF ?_;refine sW ?_;rw[hx0,hx1,List.reverse_nil,List.map_nil];refine zN9 [aR 20488 5 [.agg [.sl 2 (x.sch.lists.map cdlT),.sl 7 (x.sch.cols.map colT),vRw [],vIs x.gone,vI x.ver]],aR 24584 1 []] ?_ ?_
  ·rw[← hx1];exact .oA (U2 20488 24584) []
  simp only[tZ,↓uU,simprocAttr,hx1];refine qy mixm (α:=Nat) [39] (fun i=>i≤3) (fun i=>[(39,vI i)]) (fun i=>[aR 20488 5 [.agg [.sl 2 (x.sch.lists.map cdlT),.sl 7 (x.sch.cols.map colT),vRw x.rows,vIs x.gone,vI x.ver]],aR 28696 1 [vRw rows,vRw x.rows.reverse,vRw (x.rows.reverse++x.rows)]]) (fun i=>3-i) 0 oM ?_ fun i hi=>?_
  ·rw[hx1];simp only[List.reverse_nil,CW];refine .of (U2 20488 28696) [24584] rfl (by first | rfl | (rw[hst];rfl)) ?_ ?_
   all_goals (try simp only[tL,simprocAttr,By,List.map_cons,List.map_nil,BW,Cy])
   all_goals (try (repeat' (first | exact zl | (apply zC;intro _;exact⟨rfl,rfl⟩) | (apply qh;intro _;exact⟨rfl,rfl⟩) | with_reducible apply zh | with_reducible refine qE ⟨rfl,rfl⟩ ?_ | exact qK | with_reducible apply zb | with_reducible refine za ⟨rfl,rfl,?_⟩ ?_ | with_reducible apply Az | exact zc rfl | exact zc (by assumption) | (refine⟨⟨?_,rfl,?_,rfl,?_⟩,trivial⟩ <;> first | (simp;done) | (apply qh;intro _;exact⟨rfl,rfl⟩)) | trivial | rfl | (rw[qg oM]) | omega)))
   ·exact⟨⟨sMp,⟨rfl,rfl,rfl,fun z hz=>by cases hz⟩⟩,trivial⟩
   ·exact⟨⟨sMp,⟨rfl,rfl,rfl,fun z hz=>by cases hz⟩⟩,trivial⟩
 all_goals
  refine sD ?_;refine⟨fun h2=>?_,fun h2=>?_⟩
  ·have hi2:i<3:=by omega
   have hwi:=qg (i:=i) oM;obtain⟨r,hr,hr20,hrl2⟩:∃ r:List (List Int),[vRw rows,vRw x.rows.reverse,vRw (x.rows.reverse++x.rows)].getD i .junk=vRw r∧r.length≤20∧∀ q∈r,q.length<4611686018427387904:=by
    have hq:∀ q∈x.rows,q.length<4611686018427387904:=fun q hq=>hxs.row q hq
    match i,hi2 with
    | 0,_=>exact⟨rows,rfl,oM,hrl⟩
    | 1,_=>exact⟨_,rfl,by rw[List.length_reverse];omega,fun q h=>hq q (List.mem_reverse.1 h)⟩
    | 2,_=>
      refine⟨_,rfl,by rw[AW,List.length_reverse];omega,fun q h=>?_⟩;rcases Dz.1 h with h | h
      ·exact hq q (List.mem_reverse.1 h)
      ·exact hq q h
   have sN:=qi3 x.sch r oM oM hrl2 hr20;have sO:=qI9 x.sch r hxs.sch hrl2 oM;have sE:=WB (newS x.sch r) (zs6 hxs.sch hxs.wid oM hrl2);generalize newS x.sch r=w at sN sO sE;generalize newE x.sch r=v at sN sO;simp only[tZ,↓uU,simprocAttr,Ax,hr,hwi];refine⟨oM,oM,?_⟩;refine C1.im sN rF rF ?_;refine sW ?_;refine C1.im sO rF rF ?_;simp only[tZ,↓uU,simprocAttr,bne_self_eq_false];refine C2.im (fun _=>sE) (fun _=>rfl) rF ?_;simp only[tZ,↓uU,simprocAttr,bne_self_eq_false,hwi];refine⟨i+1,oM,oM,?_⟩;exact .oA (U2 20488 28696) []
  ·refine C1.im sY rF rF ?_;refine sW ?_;refine C1.im sM rF rF ?_;refine sW ?_;refine C1.im v1 rF rF ?_;refine sW ?_;refine C1.im v2 rF rF ?_;simp only[tZ,↓uU,simprocAttr,beq_self_eq_true];refine C2.one trivial (C1.im v3 rF rF ?_);refine sW ?_;refine C2.one trivial (C1.im f1 rF rF ?_);refine sW ?_;refine C2.one trivial (C1.im f2 rF rF ?_);simp only[tZ,↓uU,simprocAttr,beq_self_eq_true];refine C2.one trivial (C1.shut [] f3 ?_ rF rfl ?_)
   ·all_goals (try exact clA)
   simp only[tZ,↓uU,simprocAttr,beq_self_eq_true];refine C2.one trivial (C1.shut [] f4 ?_ rF rfl ?_)
   ·all_goals (try exact clA)
   simp only[tZ,↓uU,simprocAttr,beq_self_eq_true];refine C2.one trivial (C1.im KY rF rF ?_);refine sW ?_
   repeat (first | refine⟨oM,?_⟩ | refine⟨kR,?_⟩)
   exact .oA [] []
end Go.Proofs
