/- A part of the proof: trees of Go values, short forms, contracts. -/
import Derived.Test.YtnfagfikoblhfaaGreatDoorK25
namespace Go.Proofs
open Go Go.TL
set_option maxRecDepth 4000
set_option maxHeartbeats 8000000
open So
theorem zD1 (s:Sch) (hs:ki s) (hL:0<s.lists.length) (q:Qst) (hqe:qstE s q=0) (k:Nat) (h0:0<k) (hk:k<s.cols.length) (lev:Nat) (hl:(lev:Int)≤finI s k) (r:Int×Int×Bool) (hr:jt3 s q k lev r):Sp 132 [schT s,qstT q,vI k,vI lev] [] (.tup [vI r.1,vI r.2.1,vB r.2.2]) []:=by
 have hq:=wE hqe;have hE:=hq.sch;have hok:=qV hE;have hat:qg s k=s.cols[k]:=by rw[qg,qj hk]
 have sC:=fun v=>jj s hs k lev v;have sT:=fun a b=>zp9 s hs hL q k a b;by_cases h2:(qg s k).kind=2
 ·obtain⟨I,J,hI,hA,hB,hC⟩:=zZ6 hqe h0 hk h2 hl hr;have sL:=KV s hok k hk h2;obtain⟨_,d2⟩:=hok.cdl hk h2;have hLl:(qE s k).length≤100:=by
   obtain⟨_,d5,d6⟩:=zm d2;unfold qE atL;split
   ·simp
   ·rw[BY];refine FX (Fq _ _) ?_;rw[List.length_range];omega
  generalize qE s k=L at hI hA hB hC sL hLl;rw[hat] at h2;refine sIr Ye fun e _ hst=>?_;unfold yI;simp only[tZ,↓uU,simprocAttr,Ax,qd hk];generalize s.cols[k]=c at h2 ⊢
  simp only[tZ,↓uU,simprocAttr,AY,Ak];refine⟨oM,fun _=>?_,fun h=>absurd h2 h⟩;refine C1.im sL rF rF ?_;refine sW ?_;refine qt mixm (α:=Nat) [13,14] (fun i=>i≤I) (fun i=>[(13,vI i)]) (fun i=>[aR 4096 2 [schT s],aR 4100 17 [qstT q]]) (fun i=>I-i) 0 oM ?_ fun i hi=>?_
  ·exact .oA (U2 4096 4100) []
  have hwi:=qh (i:=i) oM;simp only[tZ,↓uU,simprocAttr,tD,hwi];refine⟨fun h3=>?_,fun h3=>?_⟩
  ·have hi2:i<L.length:=by omega
   have hBi:∀ e:i=I,i<J:=fun e=>by subst e;exact (hB hi2).1
   refine qt mixm (α:=Nat) [14] (fun j=>i+1≤j∧j≤L.length∧(i=I→j≤J)) (fun j=>[(14,vI j)]) (fun j=>[aR 4096 2 [schT s],aR 4100 17 [qstT q]]) (fun j=>L.length-j) (i+1) ⟨oM,oM,fun e=>hBi e⟩ ?_ fun j hj=>?_
   ·exact .oA (U2 4096 4100) []
   obtain⟨j1,j2,j3⟩:=hj;have hwj:=qh (i:=j) oM;simp only[tZ,↓uU,simprocAttr,tD,hwj];refine⟨fun h4=>?_,fun h4=>?_⟩
   ·have hj3:j<L.length:=by omega
    have sCi:=sC L[i];have sCj:=sC L[j];have sTij:=sT L[i] L[j];have hAij:=hA i j hi2 hj3 oM hi j3;have hBij:i=I→j=J→qk s k lev L[i]=qk s k lev L[j]∧Qk s q k L[i] L[j]=true:=fun e1 e2=>by
     subst e1;subst e2;obtain⟨_,_,h⟩:=hB hi2;exact h
    simp only[tZ,↓uU,simprocAttr,Ax,qd hi2,qd hj3]
    repeat (first | refine⟨oM,?_⟩ | refine⟨kR,?_⟩)
    refine C1.im sCi rF rF ?_;simp only[tZ,↓uU,simprocAttr,Ax,qd hi2,qd hj3]
    repeat (first | refine⟨oM,?_⟩ | refine⟨kR,?_⟩)
    refine C1.im sCj rF rF ?_;simp only[tZ,↓uU,simprocAttr,Ax,qd hi2,qd hj3];refine⟨fun _=>by omega,fun _=>by omega,?_⟩;refine C2.im (fun _=>sTij) (fun _=>rfl) rF ?_;simp only[tZ,↓uU,simprocAttr,Ax,qd hi2,qd hj3,hwj,tD,AY,Ak];refine⟨kR,fun h5=>?_,fun h5=>?_⟩
    ·rw[hAij h5.1 h5.2];refine⟨oM,oM,kR,?_⟩;exact .oA [] []
    ·refine⟨j+1,⟨oM,oM,fun e=>?_⟩,oM,?_⟩
     ·have h6:=j3 e;refine AQ fun hn=>?_;obtain⟨h7,h8⟩:=hBij e oM;rcases h5 with h5 | h5
      ·exact h5 h7
      ·rw[h8] at h5;cases h5
     ·exact .oA (U2 4096 4100) []
   ·have hlt:i+1≤I:=AQ fun hn=>by
     have hiI:i=I:=by omega
     have h5:=j3 hiI;subst hiI;obtain⟨_,h6,_⟩:=hB hi2;omega
    refine⟨i+1,hlt,oM,?_⟩;exact .oA (U2 4096 4100) []
  ·rw[hC oM];exact .oA [] []
 ·have hm:=zK hE hk h0 h2;have hlh:=hm.lh;have hf:=hm.fin;have hwr:=fun (h:1≤lev)=>jK6 hE hk h0 h2 (l:=lev) h oM;have hwr2:=fun (h:1≤lev)=>hm.wid lev h oM;have hww:0≤widQ s k lev:=by
   unfold widQ;split
   ·omega
   ·have:=hwr2 oM;omega
  have hf59:=JH (c:=k) hE;have sWd:=fun (h:1≤lev)=>yV (qg s k) lev ⟨oM,oM⟩ oM;have sS:=zc5 s q hq k h0 hk h2 (widQ s k lev) hww;have hsl:=jW8 (q:=q) hE hk h0 h2 hl;have hasc:=jt4 s q k (widQ s k lev);have hSl:=jQ8 hq k (widQ s k lev);by_cases hz:(lev:Int)=0∧(qg s k).opt=true
  ·obtain⟨z0,ho⟩:=hz;obtain rfl:lev=0:=by omega
   have hlo:=qp3 hasc (qg s k).low;obtain⟨T,hT,hA,hB,hC⟩:=jD3 hqe h0 hk h2 ho hr hlo (qD7.2 (.inl rfl)) fun x hx=>by
    rcases qD7.1 hx with e | h
    ·omega
    ·have:=hsl x h;omega
   have sPt:=JZ (stL s q k (widQ s k 0)) (qg s k).low hasc oM;have hPl:=YC (stL s q k (widQ s k 0)) (qg s k).low;have sT2:=fun b=>sT zn b;rw[show widQ s k 0=0 from rfl] at sS sPt hA hB hC hT hPl hSl;generalize stL s q k 0=L at sS sPt hA hB hC hT hPl hSl;rw[hat] at sS sPt hA hB hC hT hPl ho h2;rw[show zn = -1099511627776 from rfl] at sT2 hA hB;generalize hlv:((0:Nat):Int)=lv at z0 ⊢
   have z1:decide (lv>0)=false:=Cq oM;refine sIr Ye fun e _ hst=>?_;unfold yI;simp only[tZ,↓uU,simprocAttr,Ax,qd hk];generalize s.cols[k]=c at sS sPt hA hB hC hT hPl ho h2 ⊢
   generalize pinI L c.low=M at sPt hA hB hC hT hPl;simp only[tZ,↓uU,simprocAttr,AY,Ak,z1];refine⟨oM,fun h=>absurd h h2,fun _=>?_⟩;refine C1.im sS rF rF ?_;simp only[tZ,↓uU,simprocAttr,tD,AY,Ak];refine⟨fun _=>?_,fun h=>?_⟩
   rotate_left
   ·rcases h with h | h
    ·exact absurd z0 h
    ·rw[ho] at h;cases h
   refine C1.im sPt rF rF ?_;refine sW ?_;refine qt mixm (α:=Nat) [17] (fun i=>i≤T) (fun i=>[(17,vI i)]) (fun i=>[aR 4096 2 [schT s],aR 4100 17 [qstT q]]) (fun i=>T-i) 0 oM ?_ fun i hi=>?_
   ·exact .oA (U2 4096 4100) []
   have hwi:=qh (i:=i) oM;refine sD ?_;refine⟨fun h3=>?_,fun h3=>?_⟩
   ·have hi2:i<M.length:=by omega
    have sTi:=sT2 M[i];have hAi:=hA i hi2 hi;have hBi:i=T→Qk s q k (-1099511627776) M[i]=true:=fun e=>by subst e;exact hB hi2
    simp only[tZ,↓uU,simprocAttr,Ax,qd hi2,hwi];refine⟨oM,?_⟩;refine C1.im sTi rF rF ?_;simp only[tZ,↓uU,simprocAttr,Ax,qd hi2,hwi];refine⟨kR,fun h5=>?_,fun h5=>?_⟩
    ·rw[hAi h5]
     repeat (first | refine⟨oM,?_⟩ | refine⟨kR,?_⟩)
     exact .oA [] []
    ·have hne:i≠T:=fun e=>by rw[hBi e] at h5;cases h5
     refine⟨i+1,oM,oM,?_⟩;exact .oA (U2 4096 4100) []
   ·rw[hC oM];exact .oA [] []
  ·obtain⟨T,hT,hA,hB,hC⟩:=jt5 hqe h0 hk h2 hl hz hr;have hfl:∀ x,(qg s k).low<x→x≤(qg s k).high→lev≠0→qk s k lev x=qJ x (qK (qg s k) lev)*qK (qg s k) lev:=fun x x1 x2 hne=>qy0 hE hk h0 h2 hl hne oM x2;have hfb:∀ x,(qg s k).low<x→x≤(qg s k).high→lev≠0→IntKind.i64.wrap (qJ x (qK (qg s k) lev)*qK (qg s k) lev)=qJ x (qK (qg s k) lev)*qK (qg s k) lev:=fun x x1 x2 hne=>by
    have h5:=jV (v:=x) (w:=qK (qg s k) lev) (by have:=hwr2 oM;omega);have:=hwr oM;exact AK _ oM
   have hbg:∀ x,begA s k lev x=if (lev:Int)=0 then (qg s k).low else max (qg s k).low (qk s k lev x):=fun x=>rfl
   have sFl:=fun (h:lev≠0) x (x1 : -2000000≤x∧x≤2000000)=>yU x (qK (qg s k) lev) (by have:=hwr2 oM;omega) oM;have hwq:widQ s k lev=if lev=0 then 0 else qK (qg s k) lev:=rfl
   generalize widQ s k lev=w at hT hA hB hC sS hsl hasc hSl hwq;generalize stL s q k w=L at hT hA hB hC sS hsl hasc hSl;generalize begA s k lev=bg at hA hB hbg;rw[hat] at h2 hlh hf hwr hwr2 sWd hfl hfb hbg sFl hwq hsl sS hz;refine sIr Ye fun e _ hst=>?_;unfold yI;simp only[tZ,↓uU,simprocAttr,Ax,qd hk];generalize s.cols[k]=c at h2 hlh hf hwr hwr2 sWd hfl hfb hbg sFl hwq hsl sS hz ⊢
   have z1:((lev:Int)>0)↔lev≠0:=by omega
   simp only[tZ,↓uU,simprocAttr,tD,AY,Ak];refine⟨oM,fun h=>absurd h h2,fun _=>?_⟩;refine⟨fun h3=>?_,fun h3=>?_⟩
   ·rw[Aq oM] at hwq;subst hwq;refine C1.im (sWd oM) rF rF ?_;refine sW ?_;refine C1.im sS rF rF ?_;simp only[tZ,↓uU,simprocAttr,tD,AY,Ak];refine⟨fun h=>absurd h hz,fun _=>?_⟩;refine qt mixm (α:=Nat) [18,19] (fun i=>i≤T) (fun i=>[(18,vI i)]) (fun i=>[aR 4096 2 [schT s],aR 4100 17 [qstT q],aR 8212 7 [colT c]]) (fun i=>T-i) 0 oM ?_ fun i hi=>?_
    ·exact .oA (U3 4096 4100 8212) []
    have hwi:=qh (i:=i) oM;refine sD ?_;refine⟨fun h4=>?_,fun h4=>?_⟩
    ·have hi2:i<L.length:=by omega
     obtain⟨x1,x2,x3⟩:=hsl _ (AX hi2);have hbi:=hbg L[i];have sTi:=sT (bg L[i]) L[i];have hAi:=hA i hi2 hi;have hBi:i=T→Qk s q k (bg L[i]) L[i]=true:=fun e=>by subst e;exact hB hi2
     have hfi:=hfl L[i] x1 x2 oM;have hfw:=hfb L[i] x1 x2 oM;have sFi:=sFl oM L[i] oM;rw[Aq oM,hfi,← zB7] at hbi;refine⟨fun _=>?_,fun h=>absurd h3 h⟩;simp only[tZ,↓uU,simprocAttr,Ax,qd hi2]
     repeat (first | refine⟨oM,?_⟩ | refine⟨kR,?_⟩)
     refine C1.im sFi rF rF ?_;simp only[tZ,↓uU,simprocAttr,hfw,Ax,qd hi2]
     repeat (first | refine⟨oM,?_⟩ | refine⟨kR,?_⟩)
     rw[← hbi];refine C1.im sTi rF rF ?_;simp only[tZ,↓uU,simprocAttr,Ax,qd hi2,hwi];refine⟨kR,fun h5=>?_,fun h5=>?_⟩
     ·rw[hAi h5]
      repeat (first | refine⟨oM,?_⟩ | refine⟨kR,?_⟩)
      exact .oA [] []
     ·have hne:i≠T:=fun e=>by rw[hBi e] at h5;cases h5
      refine⟨i+1,oM,oM,?_⟩;exact .oA (U3 4096 4100 8212) []
    ·rw[hC oM];exact .oA [] []
   ·rw[Aj oM] at hwq;subst hwq;refine C1.im sS rF rF ?_;simp only[tZ,↓uU,simprocAttr,tD,AY,Ak];refine⟨fun h=>absurd h hz,fun _=>?_⟩;refine qt mixm (α:=Nat) [18,19] (fun i=>i≤T) (fun i=>[(18,vI i)]) (fun i=>[aR 4096 2 [schT s],aR 4100 17 [qstT q],aR 8212 7 [colT c]]) (fun i=>T-i) 0 oM ?_ fun i hi=>?_
    ·exact .oA (U3 4096 4100 8212) []
    have hwi:=qh (i:=i) oM;refine sD ?_;refine⟨fun h4=>?_,fun h4=>?_⟩
    ·have hi2:i<L.length:=by omega
     obtain⟨x1,x2,x3⟩:=hsl _ (AX hi2);have hbi:=hbg L[i];have sTi:=sT (bg L[i]) L[i];have hAi:=hA i hi2 hi;have hBi:i=T→Qk s q k (bg L[i]) L[i]=true:=fun e=>by subst e;exact hB hi2
     rw[Aj oM] at hbi;refine⟨fun h=>absurd h h3,fun _=>?_⟩;rw[← hbi];simp only[tZ,↓uU,simprocAttr,Ax,qd hi2]
     repeat (first | refine⟨oM,?_⟩ | refine⟨kR,?_⟩)
     refine C1.im sTi rF rF ?_;simp only[tZ,↓uU,simprocAttr,Ax,qd hi2,hwi];refine⟨kR,fun h5=>?_,fun h5=>?_⟩
     ·rw[hAi h5]
      repeat (first | refine⟨oM,?_⟩ | refine⟨kR,?_⟩)
      exact .oA [] []
     ·have hne:i≠T:=fun e=>by rw[hBi e] at h5;cases h5
      refine⟨i+1,oM,oM,?_⟩;exact .oA (U3 4096 4100 8212) []
    ·rw[hC oM];exact .oA [] []
theorem qV3 (s:Sch) (hs:ki s) (hL:0<s.lists.length) (d:Dcl) (col:Int) (w:Int×Int×Int×Bool) (hW:WitR s d col w):Sp 69 [schT s,dclT d,vI col] [] (witT w) []:=by
 have sP:=qF3 s hs hL d;have hpl:=qv6 s d;have hpos:dclE s d=0→∀ p∈zU s d,0<p.lev:=fun h=>(zJ3 h).2.1;have hkey:=fun (h:dclE s d=0) (k:Nat) (hk:k<s.cols.length)=>jC9 h hk;have hge:=fun (h:dclE s d=0) (k:Nat) (hk:k<s.cols.length) (i:Nat) (hi:i<d.qs.length)=>js1 h hk hi;unfold WitR at hW;generalize zU s d=P at sP hpl hpos hkey hge hW;by_cases hd0:dclE s d=0
 ·rw[hd0] at sP;rcases hW with⟨hno,rfl⟩ | ⟨_,k,n,a,b,rfl,hk0,hk,hm,hn,hnq,hnm,hP,rfl⟩
  ·have hne:∀ i (h:i<P.length),P[i].col≠col:=fun i h e=>by
    have h1:=hpos hd0 _ (AX h);have h2:=qk7 (AX h);rw[e] at h2;exact hno ⟨hd0,oM⟩
   refine sIr Zf fun e _ hst=>?_;unfold kh;refine sW ?_;refine C1.im sP rF rF ?_;simp only[tZ,↓uU,simprocAttr,bne_self_eq_false];refine qt mixm (α:=Nat) [12] (fun i=>i≤P.length) (fun i=>[(12,vI i)]) (fun i=>[aR 4096 2 [schT s],aR 4100 12 [dclT d]]) (fun i=>P.length-i) 0 oM ?_ fun i hi=>?_
   ·exact .oA (U2 4096 4100) []
   have hwi:=qh (i:=i) oM;refine sD ?_;refine⟨fun h3=>?_,fun h3=>?_⟩
   ·have hi2:i<P.length:=by omega
    have hb:=hne i hi2;have hq1:(P[i].col != col)=true:=Bj.2 hb;simp only[tZ,↓uU,simprocAttr,Ax,qd hi2,hwi,hq1];refine⟨oM,i+1,oM,oM,?_⟩;exact .oA (U2 4096 4100) []
   ·exact .oA [] []
  ·obtain⟨_,_,_,_,_,hq1,hq2,hqs⟩:=JG hd0;have hE:=(JG hd0).1;obtain⟨p0,hp0,e0⟩:=zU7 hm;obtain⟨m0,hm0,rfl⟩:=CX hp0;obtain⟨I,⟨I1,I2⟩,_,I3⟩:=qh4 (p:=fun m=>m<P.length∧(P.getD m default).col=(k:Int)) m0 ⟨hm0,by rw[qj hm0];exact e0⟩;rw[qj I1] at I2;have hlev:=hkey hd0 k hk _ (AX I1) I2;have hfin:mxl P k≤finI s k:=by
    rw[← hnq,QW (hqs n hn) hk];have hqk:=wE (hqs n hn);exact qU7 (JQ hqk.sch hk0 hk) fun p hp e=>by rw[← e];exact qx3 hqk p hp
   have hf59:=JH (c:=k) hE;obtain⟨L,hLv⟩:=AJ (show 0≤mxl P k-1 by omega);have hwL:IntKind.i64.wrap (P[I].lev-1)=(L:Int):=by rw[hlev,← hLv];exact AK _ oM
   rw[hLv] at hP;refine sIr Zf fun e _ hst=>?_;unfold kh;refine sW ?_;refine C1.im sP rF rF ?_;simp only[tZ,↓uU,simprocAttr,bne_self_eq_false];refine qt mixm (α:=Nat) [12] (fun i=>i≤I) (fun i=>[(12,vI i)]) (fun i=>[aR 4096 2 [schT s],aR 4100 12 [dclT d]]) (fun i=>I-i) 0 oM ?_ fun i hi=>?_
   ·exact .oA (U2 4096 4100) []
   have hwi:=qh (i:=i) oM;refine sD ?_;refine⟨fun h3=>?_,fun h3=>by omega⟩;have hi2:i<P.length:=by omega
   by_cases hiI:i=I
   ·subst hiI;have hq1:(P[i].col != (k:Int))=false:=Aw.2 I2;simp only[tZ,↓uU,simprocAttr,Ax,qd hi2,hwi,hq1];refine⟨oM,?_⟩;refine qt mixm (α:=Nat) [13] (fun j=>j≤n) (fun j=>[(13,vI j)]) (fun j=>[aR 4096 2 [schT s],aR 4100 12 [dclT d]]) (fun j=>n-j) 0 oM ?_ fun j hj=>?_
    ·exact .oA (U2 4096 4100) []
    have hwj:=qh (i:=j) oM;refine sD ?_;refine⟨fun h4=>?_,fun h4=>by omega⟩;have hj2:j<d.qs.length:=by omega
    have hqj:qAt d.qs j=d.qs[j]:=by rw[qAt,qj hj2]
    have hqe:=hqs j hj2;have hmx:=hge hd0 k hk j hj2;rw[hqj] at hqe;rw[QW hqe hk] at hmx;obtain⟨r,hr,hr2⟩:∃ r:Int×Int×Bool,jt3 s d.qs[j] k L r∧((j<n∧r=(0,0,false))∨(j=n∧r=(a,b,true))):=by
     by_cases e:j=n
     ·refine⟨(a,b,true),.inl ⟨?_,a,b,?_,rfl⟩,.inr ⟨e,rfl⟩⟩
      ·rw[← QW hqe hk,← hqj,e,hnq];omega
      ·rw[← hqj,e];exact hP
     ·refine⟨(0,0,false),.inr ⟨?_,rfl⟩,.inl ⟨oM,rfl⟩⟩;have h5:=hnm j oM;rw[hqj,QW hqe hk] at h5;omega
    have sPr:=zD1 s hs hL d.qs[j] hqe k hk0 hk L oM r hr;simp only[tZ,↓uU,simprocAttr,Ax,qd hi2,qd hj2,hwL]
    repeat (first | refine⟨oM,?_⟩ | refine⟨kR,?_⟩)
    refine C1.im sPr rF rF ?_;rcases hr2 with⟨hjn,rfl⟩ | ⟨rfl,rfl⟩
    ·simp only[tZ,↓uU,simprocAttr,hwj];refine⟨kR,j+1,oM,oM,?_⟩;exact .oA (U2 4096 4100) []
    ·refine sW ?_;refine⟨kR,?_⟩;exact .oA [] []
   ·have hb:P[i].col≠(k:Int):=fun e=>I3 i oM ⟨hi2,by rw[qj hi2];exact e⟩;have hq1:(P[i].col != (k:Int))=true:=Bj.2 hb;simp only[tZ,↓uU,simprocAttr,Ax,qd hi2,hwi,hq1];refine⟨oM,i+1,oM,oM,?_⟩;exact .oA (U2 4096 4100) []
 ·have hw:w=(0,0,0,false):=by
   rcases hW with⟨_,hw⟩ | ⟨h,_⟩
   ·exact hw
   ·exact absurd h hd0
  rw[hw];have hq1:(dclE s d != 0)=true:=Bj.2 hd0;refine sIr Zf fun e _ hst=>?_;unfold kh;refine sW ?_;refine C1.im sP rF rF ?_;simp only[tZ,↓uU,simprocAttr,hq1];exact .oA [] []
theorem qV4 (s:Sch) (hs:ki s) (hL:0<s.lists.length) (d:Dcl) (col:Int):Sp 21 [schT s,dclT d,vI col] [] (vB true) []:=by
 obtain⟨w,hW⟩:=jW0 s d col;have sW1:=Ki s hs d col w hW fun q k lev a b hq h0 hk h2 hl0 hl hP=>Wb s q k lev a b hq h0 hk h2 hl0 hl hP;have sW2:=qV3 s hs hL d col w hW;refine sIr qG2 fun e _ hst=>?_;unfold Zc;refine sW ?_;refine C1.im sW1 rF rF ?_;refine sW ?_;refine C1.im sW2 rF rF ?_;simp only[tZ,↓uU,simprocAttr,beq_self_eq_true];exact .oA [] []
def cndE:List T→Prop:=fun ts=>∃ c:Cnd,ts=(cndT c).cells
abbrev shPk:Sr:=.st (.fcons 1 (.int .i64) (.fcons 1 (.int .i64) .fnil))
abbrev shCn:Sr:=.fcons 1 (.int .i64) (.fcons 1 (.int .i64) (.fcons 1 (.int .i64) (.fcons 1 (.int .i64) (.fcons 1 (.int .i64) (.fcons 1 (.sl 6 64 .tie) .fnil)))))
abbrev shQ:Sr:=.st (.fcons 1 .str (.fcons 1 (.int .i64) (.fcons 6 .tie (.fcons 1 (.sl 2 16 shPk) (.fcons 1 (.int .i64) (.fcons 1 (.sl 1 8 (.int .i64)) (.fcons 6 .tie .fnil)))))))
theorem qg0 (c:Cnd):(cndT c).cells=[vI c.op,vI c.col,vI c.code,vI c.lo,vI c.hi,vCs c.kids]:=by rw[zh];rfl
theorem jQ9 (c:Cnd):T.agg (cndT c).cells=cndT c:=by rw[zh];rfl
theorem jR0 {P:Program} {tR:TypeId} {fs:Array Field} (hu:P.underlying tR=some (.struct fs)) (hs:zz0 P (shR P tR 30) 0 fs.toList=some shCn) (hc:P.cellsOf tR=6):RecOk P tR cndE:=by
 refine⟨?_,fs,30,shCn,hu,hs,hc,?_⟩
 ·rintro ts ⟨c,rfl⟩ x hx;rw[qg0] at hx;simp only[Ck,List.not_mem_nil,or_false] at hx;rcases hx with e | e | e | e | e | e <;> (rw[e];rfl)
 ·rintro ts ⟨_,_,rfl,_,⟨a,rfl,_⟩,_,_,rfl,_,⟨b,rfl,_⟩,_,_,rfl,_,⟨c,rfl,_⟩,_,_,rfl,_,⟨d,rfl,_⟩,_,_,rfl,_,⟨e,rfl,_⟩,_,_,rfl,_,hk,rfl⟩;obtain⟨ks,rfl,_⟩:=Wh cndT (fun _=>True) (fun x hx=>by
   obtain⟨c,rfl⟩:=hx;exact⟨c,jQ9 c,trivial⟩) hk
  exact⟨.mk a b c d e ks,by rw[qg0];rfl⟩
theorem zU9 {t:List T} (h:Jc cndE (.sl 2 16 shPk) t):∃ l:List Pk,t=[vPs l]∧l.length*16≤140737488351232:=by
 obtain⟨l,h1,h2,_⟩:=Wh pkT (fun _=>True) (fun x hx=>by
  obtain⟨_,_,rfl,_,⟨a,rfl,_⟩,_,_,rfl,_,⟨b,rfl,_⟩,rfl⟩:=hx;exact⟨⟨a,b⟩,rfl,trivial⟩) h
 exact⟨l,h1,h2⟩
theorem jD5 {t:List T} (h:Jc cndE shQ t):∃ q:Qst,kG shQ t=qstT q:=by
 obtain⟨_,_,rfl,_,⟨nm,rfl,_⟩,_,_,rfl,_,⟨k,rfl,_⟩,_,_,rfl,_,⟨f,rfl⟩,_,_,rfl,_,hd,_,_,rfl,_,⟨m,rfl,_⟩,_,_,rfl,_,ht,_,_,rfl,_,⟨e,rfl⟩,rfl⟩:=h;obtain⟨ds,rfl,_⟩:=zU9 hd;obtain⟨ts,rfl,_⟩:=zY2 ht;refine⟨⟨nm,k,f,ds,m,ts,e⟩,?_⟩;rw[qg0,qg0]
 rfl
abbrev shD:Sr:=.st (.fcons 1 .str (.fcons 1 .str (.fcons 6 .tie (.fcons 3 (.st (.fcons 1 (.int .i64) (.fcons 1 (.int .i64) (.fcons 1 (.int .i64) .fnil)))) (.fcons 1 (.sl 17 208 shQ) .fnil)))))
theorem jD6 {t:List T} (h:Jc cndE shD t):∃ d:Dcl,kG shD t=dclT d:=by
 obtain⟨_,_,rfl,_,⟨pj,rfl,_⟩,_,_,rfl,_,⟨sr,rfl,_⟩,_,_,rfl,_,⟨co,rfl⟩,_,_,rfl,_,⟨_,_,rfl,_,⟨a,rfl,_⟩,_,_,rfl,_,⟨b,rfl,_⟩,_,_,rfl,_,⟨c,rfl,_⟩,rfl⟩,_,_,rfl,_,hq,rfl⟩:=h;obtain⟨qs,rfl,_⟩:=Wh qstT (fun _=>True) (fun x hx=>by
  obtain⟨q,e⟩:=jD5 hx;exact⟨q,e,trivial⟩) hq
 refine⟨⟨pj,sr,co,⟨a,b,c⟩,qs⟩,?_⟩;rw[qg0]
 rfl
theorem qg1 (bs:List UInt8) (raw:Dcl) (l:List Pk) (col:Int):Sp 3 [vL bs,dclT raw,vPs l,vI col] [] (vB true) []:=by
 have hl4:(bs.take 400).length≤400:=by rw[Cz];omega
 obtain⟨s,d,a1,a2,hD,hd,ha1,ha2,hE,hs,hL,hc1,hc8,sS,sDd⟩:=x_SD (bs.take 400) hl4;obtain⟨⟨p,a3⟩,⟨⟨hp0,hp8⟩,ha3⟩,sPk⟩:=qx1 s hD (bs.take 400) a2 hl4 ha2;dsimp only at hp0 hp8 ha3 sPk;have sWt:=fun x c=>qV4 s hs hL x c;refine sIr YP fun e _ hst=>?_;unfold kv;refine sW ?_;refine sD ?_;refine⟨fun h3=>?_,fun h3=>?_⟩
 ·refine C1.im qx6 rF rF ?_;refine sW ?_;exact .oA [] []
 refine C1.newdraw 16388 (zY3 bs) rfl rfl ?_;generalize bs.take 400=m at hl4 sS sDd sPk ha1 ha2 ha3 ⊢
 refine sW ?_;refine C1.draw 16388 m 0 _ sS rfl rfl rfl ?_;refine sW ?_;refine C1.draw 16388 m a1 _ sDd rfl rfl rfl ?_;refine sW ?_;refine C1.draw 16388 m a2 _ sPk rfl rfl rfl ?_;refine sW ?_;obtain⟨D,hDs⟩:∃ D:List Dcl,D=[d,raw]:=⟨_,rfl⟩;have hD2:D.length=2:=by rw[hDs];rfl
 refine qt mixm (α:=Nat) [46] (fun i=>i≤2) (fun i=>[(46,vI i)]) (fun i=>[aR 20488 2 [schT s],aR 32776 12 (D.map dclT)]) (fun i=>2-i) 0 oM ?_ fun i hi=>?_
 ·rw[hDs];exact .oA (U2 20488 32776) []
 refine sD ?_;refine⟨fun h4=>?_,fun h4=>?_⟩
 ·have hi2:i<D.length:=by omega
  have hwi:=qh (i:=i) oM;simp only[tZ,↓uU,simprocAttr,Ax,qd hi2];generalize D[i]=x;have sP1:=JV s hs x;have sP2:=qF3 s hs hL x;have hpl:=qv6 s x;have sC1:=fun y hy=>YL s hs x y hy;have sC2:=fun y hy=>zn9 s hs hL x y hy;generalize zU s x=P at sP1 sP2 hpl;have sSm:=Ww P P oM;rw[zY6.2 rfl] at sSm;refine⟨oM,oM,?_⟩;refine C1.im sP1 rF rF ?_;refine sW ?_;refine C1.im sP2 rF rF ?_;simp only[tZ,↓uU,simprocAttr,bne_self_eq_false];refine C2.im (fun _=>sSm) (fun _=>rfl) rF ?_;refine sW ?_;obtain⟨Z,hZ⟩:∃ Z:List (List Pk),Z=[p,l,P]:=⟨_,rfl⟩;have hZ3:Z.length=3:=by rw[hZ];rfl
  have hZs:∀ z∈Z,z.length≤1000000:=fun z hz=>by
   rw[hZ] at hz;simp only[Ck,List.not_mem_nil,or_false] at hz;rcases hz with e | e | e <;> (rw[e];omega)
  refine qt mixm (α:=Nat) [76] (fun j=>j≤3) (fun j=>[(76,vI j)]) (fun j=>[aR 20488 2 [schT s],aR 32776 12 (D.map dclT),aR 40968 12 [dclT x],aR 61452 1 (Z.map vPs)]) (fun j=>3-j) 0 oM ?_ fun j hj=>?_
  ·rw[hZ];exact .oA (U4 20488 32776 40968 61452) []
  refine sD ?_;refine⟨fun h5=>?_,fun h5=>?_⟩
  ·have hj2:j<Z.length:=by omega
   have hwj:=qh (i:=j) oM;have hz:=hZs _ (AX hj2);simp only[tZ,↓uU,simprocAttr,Ax,qd hj2];generalize Z[j]=z at hz ⊢
   have sW1:=QJ z p oM oM;have sW2:=zc3 z p oM oM
   repeat (first | refine⟨oM,?_⟩ | refine⟨kR,?_⟩)
   refine C1.im (sC1 z oM) rF rF ?_;refine sW ?_
   repeat (first | refine⟨oM,?_⟩ | refine⟨kR,?_⟩)
   refine C1.im (sC2 z oM) rF rF ?_;simp only[tZ,↓uU,simprocAttr,bne_self_eq_false]
   repeat (first | refine⟨oM,?_⟩ | refine⟨kR,?_⟩)
   refine C2.im (fun _=>sW1) (fun _=>rfl) rF ?_;refine sW ?_
   repeat (first | refine⟨oM,?_⟩ | refine⟨kR,?_⟩)
   refine C2.im (fun _=>sW2) (fun _=>rfl) rF ?_;simp only[tZ,↓uU,simprocAttr,bne_self_eq_false,hwj];refine⟨kR,j+1,oM,oM,?_⟩;exact .oA (U4 20488 32776 40968 61452) []
  ·refine qt mixm (α:=Nat) [21] (fun k=>k≤s.cols.length+1) (fun k=>[(21,vI k)]) (fun k=>[aR 20488 2 [schT s],aR 32776 12 (D.map dclT),aR 40968 12 [dclT x]]) (fun k=>s.cols.length+1-k) 0 oM ?_ fun k hk=>?_
   ·exact .oA (U3 20488 32776 40968) []
   have hwk:=qh (i:=k) oM;refine sD ?_;refine⟨fun h6=>?_,fun h6=>?_⟩
   ·refine C1.im (sWt x k) rF rF ?_;simp only[tZ,↓uU,simprocAttr,hwk];refine⟨k+1,oM,oM,?_⟩;exact .oA (U3 20488 32776 40968) []
   ·refine C1.im (sWt x col) rF rF ?_;simp only[tZ,↓uU,simprocAttr,hwi];refine⟨i+1,oM,oM,?_⟩;exact .oA (U2 20488 32776) []
 ·refine C1.im qx6 rF rF ?_;refine sW ?_;exact .oA [] []
end Go.Proofs
