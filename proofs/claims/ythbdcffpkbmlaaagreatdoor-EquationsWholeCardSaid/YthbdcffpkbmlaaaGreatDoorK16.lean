/- A part of the proof: trees of Go values, short forms, contracts. -/
import Derived.Test.YthbdcffpkbmlaaaGreatDoorK15
namespace Go.Proofs
open Go Go.TL
theorem qq9 (cs:List Cod) (n:Nat):lvs cs (n+1)=lvS cs (lvs cs n) n:=by
 unfold lvs;rw[List.range_succ,Gx]
 rfl
theorem zK5 {cs:List Cod} {n:Nat} (h:lvs cs n=none):∀ m,n≤m→lvs cs m=none:=by
 intro m hm
 induction m with
 | zero=>have:n=0:=by omega
         rw[← this];exact h
 | succ m ih=>
   by_cases e:n=m+1
   ·rw[← e];exact h
   ·rw[qq9,ih oM];rfl
theorem jH4 {cs:List Cod} (h:cdEs cs cs.length=0):qi6 cs:=fun i hi=>by
 have:=qZ4 (Wk h i hi);exact⟨this.1,this.2.1⟩
theorem kZ (l:CodL) (hl:l.codes.length<4611686018427387904):Sp 87 [cdlT l] [] (vI (lstE l)) []:=by
 refine sIr qG6 fun e _ hst=>?_;unfold Zb;refine sW ?_;refine C1.im (jF l.name) rF rF ?_;simp only[tZ,↓uU,simprocAttr,Bx,Bz];refine⟨fun h=>?_,fun h1=>?_⟩
 ·rw[lstE,Aj h];exact .oA [] []
 simp only[tZ,↓uU,simprocAttr,AY,Ak];refine⟨fun h=>?_,fun h2=>?_⟩
 ·rw[lstE,Aq (by rw[h1];simp),Aj oM];exact .oA [] []
 refine sD ?_;refine⟨fun h=>?_,fun h3=>?_⟩
 ·rw[lstE,Aq (by rw[h1];simp),Aq oM,Aj oM];exact .oA [] []
 have hE1:cdEs l.codes l.codes.length≠0→lstE l=cdEs l.codes l.codes.length:=fun h=>by
  rw[lstE,Aq (by rw[h1];simp),Aq oM,Aq oM,Aj h]
 have hE2:cdEs l.codes l.codes.length=0→lvs l.codes l.codes.length=none→lstE l=5:=fun h k=>by
  rw[lstE,Aq (by rw[h1];simp),Aq oM,Aq oM,Aq (by rw[h];simp),k]
 have hE3:∀ v,cdEs l.codes l.codes.length=0→lvs l.codes l.codes.length=some v→lstE l=0:=fun v h k=>by
  rw[lstE,Aq (by rw[h1];simp),Aq oM,Aq oM,Aq (by rw[h];simp),k]
 refine qt mixm (α:=Nat) [3] (fun i=>i≤l.codes.length∧cdEs l.codes i=0) (fun i=>[(3,vI i)]) (fun i=>[aR 4096 2 [cdlT l]]) (fun i=>l.codes.length-i) 0 ⟨oM,rfl⟩ ?_ fun i hi=>?_
 ·exact .oA (U1 4096) []
 obtain⟨i1,i2⟩:=hi;refine sD ?_;refine⟨fun h4=>?_,fun h4=>?_⟩
 ·have hi2:i<l.codes.length:=by omega
  have hwi:=qh (i:=i) oM;have hat:cdAt l.codes i=l.codes[i]:=by rw[cdAt,qg hi2]
  have hs:cdEs l.codes (i+1)=cdE l.codes i:=by rw[cdEs,Aq (by rw[i2];simp)]
  have hbad:cdE l.codes i≠0→lstE l=cdE l.codes i:=fun hb=>by
   have:=qQ4 (by rw[hs];exact hb) l.codes.length (show i+1≤l.codes.length by omega);rw[hE1 (by rw[this,hs];exact hb),this,hs]
  simp only[tZ,↓uU,simprocAttr,Ax,qd hi2];refine⟨oM,?_⟩;refine C1.im (jF l.codes[i].name) rF rF ?_;simp only[tZ,↓uU,simprocAttr,Bx,Bz];refine⟨fun h5=>?_,fun h5=>?_⟩
  ·have hc:cdE l.codes i=3:=by rw[cdE,hat,Aj h5]
   rw[hbad (by rw[hc];decide),hc];exact .oA [] []
  refine qt mixm (α:=Nat) [4] (fun k=>k≤i∧(l.codes.take k).any (fun x=>eqB x.name l.codes[i].name)=false) (fun k=>[(4,vI k)]) (fun k=>[aR 4096 2 [cdlT l]]) (fun k=>i-k) 0 ⟨oM,rfl⟩ ?_ fun k hk=>?_
  ·exact .oA (U1 4096) []
  obtain⟨k1,k2⟩:=hk;refine sD ?_;refine⟨fun h6=>?_,fun h6=>?_⟩
  ·have hk2:k<l.codes.length:=by omega
   have hwk:=qh (i:=k) oM;simp only[tZ,↓uU,simprocAttr,Ax,qd hi2,qd hk2,hwk];refine⟨oM,oM,kR,fun h7=>?_,fun h7=>?_⟩
   ·have hc:cdE l.codes i=10:=by
     rw[cdE,hat,Aq (by rw[h5];simp),Aj (DJ.2 ⟨l.codes[k],List.mem_take_iff_getElem.2 ⟨k,oM,rfl⟩,h7⟩)]
    rw[hbad (by rw[hc];decide),hc];exact .oA [] []
   ·refine⟨k+1,⟨oM,zV hk2 k2 h7⟩,oM,?_⟩;exact .oA (U1 4096) []
  ·have hki:k=i:=by omega
   subst hki;have hpar:l.codes[k].par=parC l.codes k:=by rw[parC,hat]
   have hcE:cdE l.codes k=if (k=0∧parC l.codes k≠-1)∨(0<k∧(parC l.codes k<0∨parC l.codes k≥k)) then 6 else 0:=by
    rw[cdE,hat,Aq (by rw[h5];simp),Aq (by rw[k2];simp)]
   simp only[tZ,↓uU,simprocAttr,Ax,qd hi2,hpar,hwi,tD,AY,Ak,Bj,Aw];refine⟨oM,fun h7=>?_,fun h7=>?_⟩
   ·have hc:cdE l.codes k=6:=by rw[hcE,Aj oM]
    rw[hbad (by rw[hc];decide),hc];exact .oA [] []
   ·refine⟨k+1,⟨oM,by rw[hs,hcE,Aq oM]⟩,oM,?_⟩;exact .oA (U1 4096) []
 ·have hil:i=l.codes.length:=by omega
  subst hil;have hp:=jH4 i2;refine qt mixm (α:=Nat×Int) [6,7] (fun x=>x.1≤l.codes.length∧lvs l.codes x.1=some x.2) (fun x=>[(6,vI x.2),(7,vI x.1)]) (fun x=>[aR 4096 2 [cdlT l]]) (fun x=>l.codes.length-x.1) (0,-1) ⟨sMp,rfl⟩ ?_ fun x hx=>?_
  ·exact .oA (U1 4096) []
  obtain⟨j,v⟩:=x;obtain⟨j1,j2⟩:=hx;dsimp only at j1 j2;refine sD ?_;refine⟨fun h5=>?_,fun h5=>?_⟩
  ·have hj2:j<l.codes.length:=by omega
   have hwj:=qh (i:=j) oM;have hs:=qq9 l.codes j;rw[j2,lvS] at hs;have hlf:=zo6 l (j:Int) oM;have hdp:=jL l j hp hj2 oM;rw[show zR9 l (j:Int)=qp7 l.codes j from rfl] at hlf;refine C1.im hlf rF rF ?_;simp only[tZ,↓uU,simprocAttr,hwj];refine⟨fun h6=>?_,fun h6=>?_⟩
   ·rw[Aj h6] at hs;refine C2.im (fun _=>hdp) (fun _=>rfl) rF ?_;simp only[tZ,↓uU,simprocAttr,tD,Bj,Aw];refine⟨fun h7=>?_,fun h7=>?_⟩
    ·rw[Aj oM] at hs;rw[hE2 i2 (zK5 hs _ oM)];exact .oA [] []
    ·rw[Aq oM] at hs;refine C1.im hdp rF rF ?_;simp only[tZ,↓uU,simprocAttr,hwj];refine⟨(j+1,(dep l.codes j:Int)),⟨by dsimp only;omega,hs⟩,by dsimp only;omega,?_⟩;exact .oA (U1 4096) []
   ·rw[Aq (by rw[h6];simp)] at hs;refine⟨(j+1,v),⟨by dsimp only;omega,hs⟩,by dsimp only;omega,?_⟩;exact .oA (U1 4096) []
  ·have hjl:j=l.codes.length:=by omega
   subst hjl;rw[hE3 v i2 j2];exact .oA [] []
theorem wH (l:CodL) (hl:l.codes.length<4611686018427387904):Sp 58 [cdlT l] [] (vI (zA l)) []:=by
 refine sIr qw5 fun e _ hst=>?_;unfold yW;refine sW ?_;refine C1.im (kZ l hl) rF rF ?_;simp only[tZ,↓uU,simprocAttr,Bj,Aw];refine⟨fun h=>?_,fun h=>?_⟩
 ·rw[zA,Aj h];exact .oA [] []
 obtain⟨hp,h1,h2⟩:=ze h;have hw:=kK (i:=l.codes.length) h1 oM;have hd:=qQ3 hp (l.codes.length-1) oM;have hw2:=qh (i:=dep l.codes (l.codes.length-1)) oM;simp only[tZ,↓uU,simprocAttr,hw];refine C1.im (jL l (l.codes.length-1) hp oM oM) rF rF ?_;rw[zA,Aq (by rw[h];simp)];simp only[tZ,↓uU,simprocAttr,hw2];exact .oA [] []
theorem JG (l:CodL) (c:Int) (hl:l.codes.length<4611686018427387904):Sp 164 [cdlT l,vI c] [] (vI (lvlC l c)) []:=by
 refine sIr qK4 fun e _ hst=>?_;unfold Zw;refine sW ?_;refine C1.im (kZ l hl) rF rF ?_;simp only[tZ,↓uU,simprocAttr,tD,Bj,Aw];refine⟨fun h=>?_,fun h=>?_⟩
 ·rw[lvlC,Aj oM];exact .oA [] []
 obtain⟨hp,h1,h2⟩:=ze h.1.1;obtain⟨k,rfl⟩:=AJ (show 0≤c by omega);refine C1.im (jL l k hp oM oM) rF rF ?_;rw[lvlC,Aq oM,Ax];refine sW ?_;exact .oA [] []
def atN (cs:List Cod) (lev:Int) (n:Nat):List Int:=List.map (fun i:Nat=>(i:Int)) ((List.range n).filter fun i=>(dep cs i:Int)==lev)
theorem zK6 (cs:List Cod) (lev:Int) (n:Nat):atN cs lev (n+1)=atN cs lev n++(if (dep cs n:Int)=lev then [(n:Int)] else []):=by
 unfold atN;rw[List.range_succ,FY,By]
 congr 1
 by_cases h:(dep cs n:Int)=lev <;> simp [h]
theorem jk6 (cs:List Cod) (lev:Int) (n:Nat):(atN cs lev n).length≤n:=by
 unfold atN;rw[BY];exact FZ (Fx _ _) sMp
theorem Wm (l:CodL) (lev:Int) (hl:l.codes.length<4611686018427387904):Sp 31 [cdlT l,vI lev] [] (vIs (atL l lev)) []:=by
 refine sIr zx7 fun e _ hst=>?_;unfold Yd;refine sW ?_;refine C1.im (kZ l hl) rF rF ?_;simp only[tZ,↓uU,simprocAttr,Bj,Aw];refine⟨fun h=>?_,fun h=>?_⟩
 ·rw[atL,Aj h];exact .oA [] []
 obtain⟨hp,h1,h2⟩:=ze h;have e:atL l lev=atN l.codes lev l.codes.length:=by rw[atL,Aq (by rw[h];simp)];rfl
 rw[e];refine qt mixm (α:=Nat) [5,6] (fun i=>i≤l.codes.length) (fun i=>[(5,.asl 1 (atN l.codes lev i).length),(6,vI i)]) (fun i=>[aR 4096 2 [cdlT l],aR 1 1 ((atN l.codes lev i).map vI)]) (fun i=>l.codes.length-i) 0 oM ?_ fun i hi=>?_
 ·simp only[atN,List.range_zero,List.filter_nil,List.map_nil,Cw];exact .oA [uI 4096,(1,none)] []
 have hli:=jk6 l.codes lev i;refine sD ?_;refine⟨fun h3=>?_,fun h3=>?_⟩
 ·have hi2:i<l.codes.length:=by omega
  have hwi:=qh (i:=i) oM;have hs:=zK6 l.codes lev i;refine C1.im (jL l i hp hi2 oM) rF rF ?_;simp only[tZ,↓uU,simprocAttr,AY,Ak,hwi];refine⟨fun h4=>?_,fun h4=>?_⟩
  ·rw[Aj h4] at hs;refine⟨oM,i+1,oM,oM,?_⟩;rw[hs];exact .oA (U2 4096 1) []
  ·rw[Aq h4,CW] at hs;refine⟨i+1,oM,oM,?_⟩;rw[hs];exact .oA (U2 4096 1) []
 ·have hil:i=l.codes.length:=by omega
  subst hil;exact .oA [] [1]
open So
theorem jx4 {cs:List Cod} (h:qi6 cs) (lev:Nat):∀ (c f g:Nat),c<cs.length→c<f→c<g→upF cs lev f c=upF cs lev g c:=by
 intro c
 induction c using Nat.strongRecOn with
 | _ c ih=>
   intro f g hc hf hg;obtain⟨f,rfl⟩:∃ k,f=k+1:=⟨f-1,oM⟩;obtain⟨g,rfl⟩:∃ k,g=k+1:=⟨g-1,oM⟩;simp only[upF];have hp:=h c hc;split
   ·rename_i h1;have h0:¬ parC cs c<0:=fun e=>by rw[qd4 e] at h1;omega
    rw[ih (parC cs c).toNat oM f g oM oM oM]
   ·rfl
theorem up_step {cs:List Cod} (h:qi6 cs) {lev c:Nat} (hc:c<cs.length) (hl:lev<dep cs c):0≤parC cs c∧parC cs c<c∧dep cs c=dep cs (parC cs c).toNat+1∧upF cs lev (c+1) c=upF cs lev ((parC cs c).toNat+1) (parC cs c).toNat:=by
 have hp:=h c hc;have h0:¬ parC cs c<0:=fun e=>by rw[qd4 e] at hl;omega
 refine⟨oM,oM,YC h hc oM,?_⟩;rw[upF,Aj hl];exact jx4 h lev _ _ _ oM oM oM
theorem zo7 {cs:List Cod} {lev c:Nat} (hl:dep cs c≤lev) (f:Nat):upF cs lev f c=c:=by
 cases f with
 | zero=>rfl
 | succ f=>rw[upF,Aq oM]
theorem qK9 (l:CodL) (c:Int) (hp:qi6 l.codes) (hc:0≤c∧c<l.codes.length) (hl:l.codes.length≤1000):Sp 88 [cdlT l,vI c] [] (vI (dep l.codes c.toNat)) []:=by
 obtain⟨k,rfl⟩:=AJ hc.1;rw[Ax];exact jL l k hp oM hl
theorem qQ5 (l:CodL) (c lev:Int) (hl:l.codes.length<4611686018427387904):Sp 110 [cdlT l,vI c,vI lev] [] (vI (upC l c lev)) []:=by
 have hdp:(lstE l != 0||decide (c<0)||decide ((l.codes.length:Int)≤c)||decide (lev<0))=false→Sp 88 [cdlT l,vI c] [] (vI (dep l.codes c.toNat)) []:=fun hg=>by
  simp only[tD,Aw] at hg;obtain⟨hp,_,h2⟩:=ze hg.1.1.1;exact qK9 l c hp oM oM
 refine sIr zy3 fun e _ hst=>?_;unfold Ys;refine sW ?_;refine C1.im (kZ l hl) rF rF ?_;refine sW ?_;refine C2.im hdp (fun _=>rfl) rF ?_;simp only[tZ,↓uU,simprocAttr,tD,Bj,Aw];refine⟨fun h=>?_,fun h=>?_⟩
 ·rw[upC,Aj oM];exact .oA [] []
 obtain⟨hp,h1,h2⟩:=ze h.1.1.1.1;obtain⟨k,rfl⟩:=AJ (show 0≤c by omega);obtain⟨v,rfl⟩:=AJ (show 0≤lev by omega);rw[upC,Aq oM,Ax,Ax];rw[Ax] at h;refine qt mixm (α:=Nat) [1,31] (fun x=>x<l.codes.length∧upF l.codes v (k+1) k=upF l.codes v (x+1) x) (fun x=>[(1,vI x)]) (fun x=>[aR 4096 2 [cdlT l]]) (fun x=>x) k ⟨oM,rfl⟩ ?_ fun x hx=>?_
 ·exact .oA (U1 4096) []
 obtain⟨x1,x2⟩:=hx;have hcd:l.codes[x].par=parC l.codes x:=by rw[parC,cdAt,qg x1]
 refine sW ?_;refine C1.im (jL l x hp x1 oM) rF rF ?_;refine sD ?_;refine⟨fun h3=>?_,fun h3=>?_⟩
 ·obtain⟨u1,u2,u3,u4⟩:=up_step hp (lev:=v) x1 oM;obtain⟨p,hpe⟩:=AJ u1;simp only[tZ,↓uU,simprocAttr,Ax,qd x1,hcd,hpe];rw[hpe,Ax] at u4;refine⟨oM,p,⟨oM,x2.trans u4⟩,oM,?_⟩;exact .oA (U1 4096) []
 ·rw[x2,zo7 oM];exact .oA [] []
theorem qZ7 (l:CodL) (c a:Int) (hl:l.codes.length<4611686018427387904):Sp 178 [cdlT l,vI c,vI a] [] (vB (zK2 l c a)) []:=by
 refine sIr qK8 fun e _ hst=>?_;unfold Zy;refine sW ?_;refine C1.im (JG l a hl) rF rF ?_;refine sW ?_;refine C2.im (fun _=>JG l c hl) (fun _=>rfl) rF ?_;refine sW ?_;refine C2.im (fun _=>qQ5 l c (lvlC l a) hl) (fun _=>rfl) rF ?_;refine sW ?_;rw[show (decide (0≤lvlC l a)&&decide (lvlC l a≤lvlC l c)&&(upC l c (lvlC l a)==a))=zK2 l c a from rfl];exact .oA [] []
def KQ:List Int→List Int→Bool:=wM fun x y:Int=>x==y
theorem zo8 {a b:List Int}:KQ a b=true↔a=b:=zl5 fun x y=>AY
theorem qz2 (l:List Int) (n:Int) (hl:l.length<4611686018427387904):Sp 141 [vIs l,vI n] [] (vB (l.contains n)) []:=by
 refine sIr zn2 fun e _ hst=>?_;unfold KK;refine sW ?_;refine qt mixm (α:=Nat) [5] (fun i=>i≤l.length∧((l.take i).any (fun x=>x==n)=false)) (fun i=>[(5,vI i)]) (fun i=>[]) (fun i=>l.length-i) 0 ⟨oM,?_⟩ ?_ fun i hi=>?_
 ·rfl
 ·exact .oA [] []
 simp only[tZ,↓uU,simprocAttr,AZ,Ay];refine⟨fun h=>?_,fun h=>?_⟩
 ·have hi2:i<l.length:=by omega
  have hwi:=qh (i:=i) oM;simp only[tZ,↓uU,simprocAttr,Ax,qd hi2,hwi];refine⟨oM,fun h3=>?_,fun h3=>⟨i+1,⟨oM,zV hi2 hi.2 h3⟩,oM,?_⟩⟩
  ·rw[show l.contains n=true from FQ.2 ((AY.1 h3) ▸ AX hi2)];exact .oA [] []
  ·exact .oA [] []
 ·have hi2:i=l.length:=by omega
  subst hi2;have h3:=hi.2;rw[Bw] at h3;have:l.contains n=false:=by
   rw[← h3,Bool.eq_iff_iff,FQ,DJ];exact⟨fun h=>⟨n,h,sMp⟩,fun ⟨x,h,e⟩=>AY.1 e ▸ h⟩
  rw[this];exact .oA [] []
theorem zF (n lo hi:Int):Sp 126 [vI n,vI lo,vI hi] [] (vB (inB n lo hi)) []:=by
 refine sIr zy7 fun e _ hst=>?_;unfold Yv;refine sW ?_;rw[show (decide (lo≤n)&&decide (n≤hi))=inB n lo hi from rfl];exact .oA [] []
theorem zo9 {ws:List Int}:∀ {i:Nat},(∀ j,j<i→wdOk ws j=true)→∀ j,j<i→1≤ws.getD j 0
 | 0,_,j,h=>by omega
 | i+1,hw,j,h=>by
   have ih:=zo9 (ws:=ws) (i:=i) fun j hj=>hw j oM;have:=hw j h;unfold wdOk at this;split at this
   ·rename_i e;subst e;have:ws.getD 0 0=1:=by simpa using this
    omega
   ·simp only[Bq,AZ] at this;have:=ih (j-1) oM;omega
theorem qz3 (c:Col):Sp 153 [colT c] [] (vI (measE c)) []:=by
 refine sIr qo9 fun e _ hst=>?_;unfold yj;refine sW ?_;refine C1.im (zF c.low (-1000000) 1000000) rF rF ?_;refine sW ?_;refine C2.im (fun _=>zF c.high (-1000000) 1000000) (fun _=>rfl) rF ?_;simp only[tZ,↓uU,simprocAttr,tD,Bx,Bz];refine⟨fun h=>?_,fun h=>?_⟩
 ·rw[measE,Aj (by grind)];exact .oA [] []
 ·refine⟨fun h2=>?_,fun h2=>?_⟩
  ·rw[measE,Aq (by grind),Aj (by grind)];exact .oA [] []
  ·have hm:measE c=if jx2 c.widths=false then 2 else 0:=by rw[measE,Aq (by grind),Aq (by grind)]
   refine qt mixm (α:=Nat) [3] (fun i=>i≤c.widths.length∧(∀ j,j<i→wdOk c.widths j=true)) (fun i=>[(3,vI i)]) (fun i=>[aR 4096 7 [colT c]]) (fun i=>c.widths.length-i) 0 ⟨oM,?_⟩ ?_ fun i hi=>?_
   ·intro j hj;omega
   ·exact .oA (U1 4096) []
   have hbad:i<c.widths.length→wdOk c.widths i=false→measE c=2:=fun h1 h2=>by
    rw[hm,Aj];exact List.all_eq_false.2 ⟨i,Dk.2 h1,by rw[h2];simp⟩
   have hok:wdOk c.widths i=true→∀ j,j<i+1→wdOk c.widths j=true:=fun h1 j hj=>by
    by_cases e:j=i
    ·rw[e];exact h1
    ·exact hi.2 j oM
   simp only[tZ,↓uU,simprocAttr,AZ,Ay];refine⟨fun h=>?_,fun h=>?_⟩
   ·rcases DQ i with h0 | h0
    ·subst h0;have hw0:wdOk c.widths 0=(c.widths.getD 0 0==1):=by rw[wdOk,Aj rfl]
     have hlen:0<c.widths.length:=by omega
     rw[qg hlen] at hw0;have hz:((0:Nat):Int)=0:=rfl;have hz2:(IntKind.i64.wrap (-1)).toNat=0:=by decide
     have hz3:=qh (i:=0) oM;rw[hz] at hz3;simp only[tZ,↓uU,simprocAttr,Ax,hz,beq_self_eq_true,gt_iff_lt,Int.lt_irrefl,Fq,hz2,qd hlen,hz3];refine⟨oM,fun h3=>?_,fun h3=>?_⟩
     ·rw[hbad hlen (by rw[hw0];simpa using h3)];exact .oA [] []
     ·refine⟨1,⟨oM,hok (by rw[hw0];simpa using h3)⟩,oM,?_⟩;exact .oA (U1 4096) []
    ·obtain⟨k,rfl⟩:∃ k,i=k+1:=⟨i-1,oM⟩;have hk2:k+1<c.widths.length:=by omega
     have hk3:k<c.widths.length:=by omega
     have e1:(((k+1:Nat):Int)==0)=false:=Ak.2 oM;have e2:decide (((k+1:Nat):Int)>0)=true:=Cx oM;have hw1:wdOk c.widths (k+1)=(decide (c.widths[k]<c.widths[k+1])&&decide (c.widths[k+1]≤1000000)&&(c.widths[k+1].tmod c.widths[k]==0)):=by
          rw[wdOk,Aq oM,Nat.add_sub_cancel,qg hk2,qg hk3]
     have hp1:=zo9 (ws:=c.widths) hi.2 k oM;rw[qg hk3] at hp1;have hws:=qh (i:=k+1) oM;have e3:=kK (i:=k+1) oM oM;rw[Nat.add_sub_cancel] at e3;simp only[tZ,↓uU,simprocAttr,Ax,qd hk2,qd hk3,e1,e2,e3,hws];refine⟨oM,oM,fun _=>by omega,fun _=>by omega,fun h3=>?_,fun h3=>?_⟩
     ·rw[hbad hk2 (by rw[hw1];grind)];exact .oA [] []
     ·refine⟨k+2,⟨oM,hok (by rw[hw1];grind)⟩,oM,?_⟩;exact .oA (U1 4096) []
   ·have hi2:i=c.widths.length:=by omega
    subst hi2;rw[hm,Aq]
    ·exact .oA [] []
    ·rw[Ez];exact Bk.2 fun j hj=>hi.2 j (Dk.1 hj)
theorem qL0 (s:Sch) (i:Nat) (hi:i<s.cols.length) (hn:s.cols.length<4611686018427387904) (hl:s.lists.length<4611686018427387904):Sp 97 [schT s,vI i] [] (vI (colE s i)) []:=by
 have hat:qj s i=s.cols[i]:=by rw[qj,qg hi]
 have hE:colE s i=if jr s.cols[i].name=false then 3
  else if ((s.cols.take i).any fun x=>eqB x.name s.cols[i].name)=true then 10
  else if inB s.cols[i].kind 1 3=false∨(0<i∧s.cols[i].kind=1) then 4
  else if s.cols[i].kind=2∧inB s.cols[i].list 0 (s.lists.length-1)=false then 5
  else if s.cols[i].kind=3∧measE s.cols[i]≠0 then measE s.cols[i]
  else if (s.cols[i].kind≠2∧s.cols[i].list≠0)∨(s.cols[i].kind≠3∧(s.cols[i].low≠0∨s.cols[i].high≠0∨0<s.cols[i].widths.length∨s.cols[i].opt=true)) then 11 else 0:=by rw[colE,hat]
 rw[hE];refine sIr qx5 fun e _ hst=>?_;unfold Qc;simp only[tZ,↓uU,simprocAttr,Ax,qd hi];generalize s.cols[i]=c;refine⟨oM,?_⟩;refine C1.im (jF c.name) rF rF ?_;simp only[tZ,↓uU,simprocAttr,Bx,Bz];refine⟨fun h=>?_,fun h=>?_⟩
 ·rw[Aj h];exact .oA [] []
 rw[Aq (by rw[h];simp)];refine qt mixm (α:=Nat) [6] (fun k=>k≤i∧(s.cols.take k).any (fun x=>eqB x.name c.name)=false) (fun k=>[(6,vI k)]) (fun k=>[aR 4096 2 [schT s],aR 8212 7 [colT c]]) (fun k=>i-k) 0 ⟨oM,rfl⟩ ?_ fun k hk=>?_
 ·exact .oA (U2 4096 8212) []
 simp only[tZ,↓uU,simprocAttr,AZ,Ay];refine⟨fun h=>?_,fun h=>?_⟩
 ·have hk2:k<s.cols.length:=by omega
  have hwk:=qh (i:=k) oM;simp only[tZ,↓uU,simprocAttr,Ax,qd hk2,hwk];refine⟨oM,kR,fun h7=>?_,fun h7=>?_⟩
  ·rw[Aj (DJ.2 ⟨s.cols[k],List.mem_take_iff_getElem.2 ⟨k,oM,rfl⟩,h7⟩)];exact .oA [] []
  ·refine⟨k+1,⟨oM,zV hk2 hk.2 h7⟩,oM,?_⟩;exact .oA (U2 4096 8212) []
 ·have hki:k=i:=by omega
  subst hki;rw[Aq (by rw[hk.2];simp)];refine C1.im (zF c.kind 1 3) rF rF ?_;simp only[tZ,↓uU,simprocAttr,tD,Bx,Bz,AY,Ak];refine⟨fun h7=>?_,fun h7=>?_⟩
  ·rw[Aj (by grind)];exact .oA [] []
  rw[Aq (by grind)];have hw:IntKind.i64.wrap ((s.lists.length:Int)-1)=(s.lists.length:Int)-1:=AK _ oM;simp only[tZ,↓uU,simprocAttr,hw];refine C2.im (fun _=>zF c.list 0 ((s.lists.length:Int)-1)) (fun _=>rfl) rF ?_;simp only[tZ,↓uU,simprocAttr,tD,Bx,Bz,AY,Ak];refine⟨fun h8=>?_,fun h8=>?_⟩
  ·rw[Aj (by grind)];exact .oA [] []
  rw[Aq (by grind)];have hend:∀ v:Int,(if c.kind=3∧¬measE c=0 then measE c else if ¬c.kind=2∧¬c.list=0∨¬c.kind=3∧(¬c.low=0∨¬c.high=0∨0<c.widths.length∨c.opt=true) then 11 else 0)=v→Qx [] (T.v (Value.int IntKind.i64 v)) [(4096,Ob.arr 2 [schT s] false),(8212,Ob.arr 7 [colT c] false)] (vI (if c.kind=3∧¬measE c=0 then measE c else if ¬c.kind=2∧¬c.list=0∨¬c.kind=3∧(¬c.low=0∨¬c.high=0∨0<c.widths.length∨c.opt=true) then 11 else 0)) []:=fun v hv=>by
   rw[hv];exact .oA [] []
  refine⟨fun h9=>?_,fun h9=>?_⟩
  ·refine C1.im (qz3 c) rF rF ?_;simp only[tZ,↓uU,simprocAttr,Bj,Aw];refine⟨fun h10=>hend _ (by rw[Aj ⟨h9,h10⟩]),fun h10=>?_⟩;simp only[tZ,↓uU,simprocAttr,tD,Bj,Aw];exact⟨fun h11=>hend _ (by rw[Aq (by grind),Aj (by grind)]),fun h11=>hend _ (by rw[Aq (by grind),Aq (by grind)])⟩
  ·simp only[tZ,↓uU,simprocAttr,tD,Bj,Aw];exact⟨fun h11=>hend _ (by rw[Aq (by grind),Aj (by grind)]),fun h11=>hend _ (by rw[Aq (by grind),Aq (by grind)])⟩
theorem qz4 {s:Sch} {i:Nat} (h:kE s i≠0):∀ n,i≤n→kE s n=kE s i:=by
 intro n hn
 induction n with
 | zero=>have:i=0:=by omega
         rw[this]
 | succ n ih=>
   by_cases e:i=n+1
   ·rw[e]
   ·have:=ih oM;rw[kE,this,Aj h]
theorem qz5 {s:Sch} {i:Nat} (h:ZN s i≠0):∀ n,i≤n→ZN s n=ZN s i:=by
 intro n hn
 induction n with
 | zero=>have:i=0:=by omega
         rw[this]
 | succ n ih=>
   by_cases e:i=n+1
   ·rw[e]
   ·have:=ih oM;rw[ZN,this,Aj h]
def jY (s:Sch):Prop:=s.lists.length<4611686018427387904∧s.cols.length<4611686018427387904∧∀ l∈s.lists,l.codes.length<4611686018427387904
theorem zy (s:Sch) (hs:jY s):Sp 47 [schT s] [] (vI (schE s)) []:=by
 obtain⟨hs1,hs2,hs3⟩:=hs;refine sIr qE7 fun e _ hst=>?_;unfold QS;refine sD ?_;refine⟨fun h=>?_,fun h=>?_⟩
 ·rw[schE,Aj oM];exact .oA [] []
 have hE1:kE s s.lists.length≠0→schE s=kE s s.lists.length:=fun k=>by rw[schE,Aq oM,Aj k]
 refine qt mixm (α:=Nat) [3,17] (fun i=>i≤s.lists.length∧kE s i=0) (fun i=>[(3,vI i)]) (fun i=>[aR 4096 2 [schT s]]) (fun i=>s.lists.length-i) 0 ⟨oM,rfl⟩ ?_ fun i hi=>?_
 ·exact .oA (U1 4096) []
 obtain⟨i1,i2⟩:=hi;refine sD ?_;refine⟨fun h2=>?_,fun h2=>?_⟩
 ·have hi2:i<s.lists.length:=by omega
  have hwi:=qh (i:=i) oM;have hat:s.lists.getD i default=s.lists[i]:=qg hi2;have hstep:kE s (i+1)=if lstE s.lists[i]≠0 then lstE s.lists[i] else if ((s.lists.take i).any fun x=>eqB x.name s.lists[i].name)=true then 10 else 0:=by
   rw[kE,Aq (by rw[i2];simp),hat]
  have hbad:kE s (i+1)≠0→schE s=kE s (i+1):=fun k=>by
   have:=qz4 k s.lists.length oM;rw[hE1 (by rw[this];exact k),this]
  simp only[tZ,↓uU,simprocAttr,Ax,qd hi2,hwi];refine⟨oM,?_⟩;refine C1.im (kZ s.lists[i] (hs3 _ (AX hi2))) rF rF ?_;simp only[tZ,↓uU,simprocAttr,Bj,Aw];refine⟨fun h3=>?_,fun h3=>?_⟩
  ·rw[Aj h3] at hstep;rw[hbad (by rw[hstep];exact h3),hstep];exact .oA [] []
  rw[Aq (by rw[h3];simp)] at hstep;refine qt mixm (α:=Nat) [5] (fun k=>k≤i∧(s.lists.take k).any (fun x=>eqB x.name s.lists[i].name)=false) (fun k=>[(5,vI k)]) (fun k=>[aR 4096 2 [schT s]]) (fun k=>i-k) 0 ⟨oM,rfl⟩ ?_ fun k hk=>?_
  ·exact .oA (U1 4096) []
  simp only[tZ,↓uU,simprocAttr,AZ,Ay];refine⟨fun h=>?_,fun h=>?_⟩
  ·have hk2:k<s.lists.length:=by omega
   have hwk:=qh (i:=k) oM;simp only[tZ,↓uU,simprocAttr,Ax,qd hk2,qd hi2,hwk];refine⟨oM,oM,kR,fun h7=>?_,fun h7=>?_⟩
   ·rw[Aj (DJ.2 ⟨s.lists[k],List.mem_take_iff_getElem.2 ⟨k,oM,rfl⟩,h7⟩)] at hstep;rw[hbad (by rw[hstep];simp),hstep];exact .oA [] []
   ·refine⟨k+1,⟨oM,zV hk2 hk.2 h7⟩,oM,?_⟩;exact .oA (U1 4096) []
  ·have hki:k=i:=by omega
   subst hki;rw[Aq (by rw[hk.2];simp)] at hstep;simp only[tZ,↓uU,simprocAttr,hwi];refine⟨k+1,⟨oM,hstep⟩,oM,?_⟩;exact .oA (U1 4096) []
 ·have hil:i=s.lists.length:=by omega
  subst hil;have hE2:s.cols.length=0∨(qj s 0).kind≠1→schE s=7:=fun k=>by rw[schE,Aq oM,Aq (by rw[i2];simp),Aj k]
  have hE3:¬ (s.cols.length=0∨(qj s 0).kind≠1)→schE s=ZN s s.cols.length:=fun k=>by rw[schE,Aq oM,Aq (by rw[i2];simp),Aq k]
  have hz:((0:Nat):Int)=0:=rfl;by_cases h0:s.cols.length=0
  ·have hn:s.cols=[]:=Dy.1 h0;rw[hE2 (.inl h0)];simp only[tZ,↓uU,simprocAttr,hn,Cw,hz,beq_self_eq_true];exact .oA [] []
  ·have h0p:0<s.cols.length:=by omega
   have e0:((s.cols.length:Int)==0)=false:=Ak.2 oM;have hc0:qj s 0=s.cols[0]:=by rw[qj,qg h0p]
   simp only[tZ,↓uU,simprocAttr,e0,qd h0p,Bj,Aw,Bool.false_or];refine⟨oM,fun h3=>?_,fun h3=>?_⟩
   ·rw[hE2 (.inr (by rw[hc0];exact h3))];exact .oA [] []
   have hE4:=hE3 (by rw[hc0];grind);refine qt mixm (α:=Nat) [6,63] (fun i=>i≤s.cols.length∧ZN s i=0) (fun i=>[(6,vI i)]) (fun i=>[aR 4096 2 [schT s]]) (fun i=>s.cols.length-i) 0 ⟨oM,rfl⟩ ?_ fun i hi=>?_
   ·exact .oA (U1 4096) []
   simp only[tZ,↓uU,simprocAttr,AZ,Ay];refine⟨fun h=>?_,fun h=>?_⟩
   ·have hi2:i<s.cols.length:=by omega
    have hwi:=qh (i:=i) oM;have hstep:ZN s (i+1)=colE s i:=by rw[ZN,Aq (by rw[hi.2];simp)]
    refine C1.im (qL0 s i hi2 hs2 hs1) rF rF ?_;simp only[tZ,↓uU,simprocAttr,Bj,Aw,hwi];refine⟨fun h4=>?_,fun h4=>?_⟩
    ·have:=qz5 (s:=s) (i:=i+1) (by rw[hstep];exact h4) s.cols.length oM;rw[hE4,this,hstep];exact .oA [] []
    ·refine⟨i+1,⟨oM,by rw[hstep];exact h4⟩,oM,?_⟩;exact .oA (U1 4096) []
   ·have hi2:i=s.cols.length:=by omega
    subst hi2;rw[hE4,hi.2];exact .oA [] []
theorem SchOk.sm {s:Sch} (h:SchOk s):jY s:=by
 have h1:=h.nl;have h2:=h.nc;refine⟨oM,oM,fun l hl=>?_⟩;obtain⟨i,hi,rfl⟩:=CX hl;have h3:=h.ls i hi;rw[qg hi] at h3;have:=(ze h3).2.2;omega
theorem YD {l:CodL} : -1≤zA l∧zA l≤60:=by
 unfold zA;split
 ·omega
 ·rename_i h;obtain⟨hp,h1,h2⟩:=ze (AQ h);have:=qQ3 hp (l.codes.length-1) oM;omega
theorem qd6 (s:Sch) (h:SchOk s) (i:Nat) (hi:i<s.cols.length) (v:Int):Sp 127 [schT s,vI i,vI v] [] (vB (qS s i v)) []:=by
 have hat:qj s i=s.cols[i]:=by rw[qj,qg hi]
 have hk:=zo (h.cs i hi);have hcd:=fun e=>h.cdl hi e;have hE:qS s i v=if s.cols[i].kind=1 then inB v 1 1048575
  else if s.cols[i].kind=2 then inB v 0 ((qK s i).codes.length-1)&&(lvlC (qK s i) v==zA (qK s i)-1)
  else (s.cols[i].opt&&(v==qW))||inB v s.cols[i].low s.cols[i].high:=by rw[qS,hat]
 have hcl:qK s i=s.lists.getD s.cols[i].list.toNat default:=by rw[qK,hat]
 rw[hat] at hk hcd;rw[hE];rw[hcl] at hcd ⊢
 refine sIr qI2 fun e _ hst=>?_;unfold Zl;simp only[tZ,↓uU,simprocAttr,Ax,qd hi];generalize s.cols[i]=c at hk hcd ⊢
 simp only[tZ,↓uU,simprocAttr,AY,Ak];refine⟨oM,fun h1=>?_,fun h1=>⟨fun h2=>?_,fun h2=>?_⟩⟩
 ·rw[Aj h1];refine C1.im (zF v 1 1048575) rF rF ?_;refine sW ?_;exact .oA [] []
 ·obtain⟨d1,d2⟩:=hcd h2;obtain⟨d3,d4⟩:=hk.2.2.2.1 h2;have hgl:s.lists.getD c.list.toNat default=s.lists[c.list.toNat]:=qg d1;rw[Aq h1,Aj h2];rw[hgl] at d2 ⊢
  obtain⟨_,d5,d6⟩:=ze d2;simp only[tZ,↓uU,simprocAttr,qd d1];generalize s.lists[c.list.toNat]=l at d2 d5 d6 ⊢
  have hw:IntKind.i64.wrap ((l.codes.length:Int)-1)=(l.codes.length:Int)-1:=AK _ oM;have hlv:=YD (l:=l);have hw2:IntKind.i64.wrap (zA l-1)=zA l-1:=AK _ oM;simp only[tZ,↓uU,simprocAttr,hw];refine⟨oM,?_⟩;refine C1.im (zF v 0 _) rF rF ?_;refine sW ?_;refine C2.im (fun _=>JG l v oM) (fun _=>rfl) rF ?_;refine sW ?_;refine C2.im (fun _=>wH l oM) (fun _=>rfl) rF ?_;simp only[tZ,↓uU,simprocAttr,hw2];refine⟨kR,?_⟩;exact .oA [] []
 ·rw[Aq h1,Aq h2];refine C2.im (fun _=>zF v c.low c.high) (fun _=>rfl) rF ?_;refine sW ?_;rw[show (c.opt&&v == -1099511627776)=(c.opt&&(v==qW)) from rfl];exact .oA [] []
theorem jx5 {s:Sch} {row:List Int} {i:Nat} (h1:schE s=0) (h2:row.length=s.cols.length) (hi:i<row.length) (h:qS s i row[i]=false):rowE s row=9:=by
 rw[rowE,Aq (by rw[h1];simp),Aq oM,Aj];exact List.all_eq_false.2 ⟨i,Dk.2 hi,by rw[qg hi,h];simp⟩
theorem qz6 (s:Sch) (hs:jY s) (row:List Int) (hr:row.length<4611686018427387904):Sp 119 [schT s,vIs row] [] (vI (rowE s row)) []:=by
 refine sIr zm8 fun e _ hst=>?_;unfold KI;refine sW ?_;refine C1.im (zy s hs) rF rF ?_;simp only[tZ,↓uU,simprocAttr,Bj,Aw];refine⟨fun h=>?_,fun h=>⟨fun h2=>?_,fun h2=>?_⟩⟩
 ·rw[rowE,Aj h];exact .oA [] []
 ·rw[rowE,Aq (by rw[h];simp),Aj oM];exact .oA [] []
 have hok:=qO h;have h0:=h;refine qt mixm (α:=Nat) [6] (fun i=>i≤row.length∧(∀ j,j<i→qS s j (row.getD j 0)=true)) (fun i=>[(6,vI i)]) (fun i=>[aR 4096 2 [schT s]]) (fun i=>row.length-i) 0 ⟨oM,?_⟩ ?_ fun i hi=>?_
 ·intro j hj;omega
 ·exact .oA (U1 4096) []
 simp only[tZ,↓uU,simprocAttr,AZ,Ay];refine⟨fun h=>?_,fun h=>?_⟩
 ·have hi2:i<row.length:=by omega
  have hwi:=qh (i:=i) oM;simp only[tZ,↓uU,simprocAttr,Ax,qd hi2,hwi];refine⟨oM,?_⟩;refine C1.im (qd6 s hok i oM row[i]) rF rF ?_;simp only[tZ,↓uU,simprocAttr,Bx,Bz];refine⟨kR,fun h3=>?_,fun h3=>?_⟩
  ·rw[jx5 h0 oM hi2 h3];exact .oA [] []
  ·refine⟨i+1,⟨oM,fun j hj=>?_⟩,oM,?_⟩
   ·by_cases e:j=i
    ·rw[e,qg hi2];exact h3
    ·exact hi.2 j oM
   ·exact .oA (U1 4096) []
 ·have hi2:i=row.length:=by omega
  subst hi2;rw[jk5 h0 oM hi.2];exact .oA [] []
theorem zM (s:Sch) (hs:jY s) (c:Int):Sp 34 [schT s,vI c] [] (vI (finI s c)) []:=by
 have hs2:=hs.2.1;refine sIr qv7 fun e _ hst=>?_;unfold yS;refine sW ?_;refine C1.im (zy s hs) rF rF ?_;simp only[tZ,↓uU,simprocAttr,tD,Bj,Aw];refine⟨fun h=>?_,fun h=>?_⟩
 ·rw[finI,Aj oM];exact .oA [] []
 have hok:=qO h.1.1;obtain⟨i,rfl⟩:=AJ (show 0≤c by omega);have hi:i<s.cols.length:=by omega
 have hat:qj s i=s.cols[i]:=by rw[qj,qg hi]
 have hk:=zo (hok.cs i hi);have hcd:=fun e=>hok.cdl hi e;have hcl:qK s i=s.lists.getD s.cols[i].list.toNat default:=by rw[qK,hat]
 rw[hat] at hk hcd;rw[hcl] at hcd;rw[finI,Aq oM,Ax,hcl,hat];simp only[tZ,↓uU,simprocAttr,Ax,qd hi];generalize s.cols[i]=x at hk hcd ⊢
 simp only[tZ,↓uU,simprocAttr,AY,Ak];refine⟨oM,fun h2=>?_,fun h2=>?_⟩
 ·obtain⟨d1,d2⟩:=hcd h2;obtain⟨d3,d4⟩:=hk.2.2.2.1 h2;have hgl:s.lists.getD x.list.toNat default=s.lists[x.list.toNat]:=qg d1;rw[Aj h2];rw[hgl] at d2 ⊢
  obtain⟨_,d5,d6⟩:=ze d2;simp only[tZ,↓uU,simprocAttr,qd d1];generalize s.lists[x.list.toNat]=l at d2 d5 d6 ⊢
  have hlv:=YD (l:=l);have hw2:IntKind.i64.wrap (zA l-1)=zA l-1:=AK _ oM;refine⟨oM,?_⟩;refine C1.im (wH l oM) rF rF ?_;simp only[tZ,↓uU,simprocAttr,hw2];exact .oA [] []
 ·rw[Aq h2];exact .oA [] []
theorem zK7 {a b:Int} (hb:0<b):qU a b=if a.tmod b<0 then a.tdiv b-1 else a.tdiv b:=by
 have h1:=Int.mul_tdiv_add_tmod a b;have h2:=Int.tmod_lt_of_pos a hb;have h3:=Int.lt_tmod_of_pos a hb;unfold qU;rw[DW _ oM];split
 ·refine ((Int.ediv_emod_unique (r:=a.tmod b+b) hb).2 ⟨?_,oM,oM⟩).1;rw[Int.mul_sub];omega
 ·refine ((Int.ediv_emod_unique (r:=a.tmod b) hb).2 ⟨oM,oM,oM⟩).1
theorem qd7 (a b:Int) (hb:0<b) (ha : -4611686018427387904<a∧a<4611686018427387904):Sp 129 [vI a,vI b] [] (vI (qU a b)) []:=by
 rw[zK7 hb];have hq:=Int.natAbs_tdiv_le_natAbs a b;have hw:IntKind.i64.wrap (a.tdiv b)=a.tdiv b:=AK _ oM;have hw2:IntKind.i64.wrap (a.tdiv b-1)=a.tdiv b-1:=AK _ oM;refine sIr qI6 fun e _ hst=>?_;unfold Zn;simp only[tZ,↓uU,simprocAttr,hw,hw2,tD];refine⟨oM,oM,fun h=>?_,fun h=>?_⟩
 ·rw[Aj h];exact .oA [] []
 ·rw[Aq h];exact .oA [] []
theorem wa (c:Col) (lev:Int) (h1:1≤lev∧lev≤c.widths.length) (h2:c.widths.length<4611686018427387904):Sp 128 [colT c,vI lev] [] (vI (qJ c lev)) []:=by
 have hw:IntKind.i64.wrap ((c.widths.length:Int)-lev)=(c.widths.length:Int)-lev:=AK _ oM;have hk:((c.widths.length:Int)-lev).toNat<c.widths.length:=by omega
 refine sIr qI4 fun e _ hst=>?_;unfold Zm;simp only[tZ,↓uU,simprocAttr,hw,qd hk];rw[qJ,qg hk];refine⟨oM,?_⟩;exact .oA [] []
namespace Cnd
mutual
theorem ind' {p:Cnd→Prop} (h:∀ c,(∀ k∈c.kids,p k)→p c):∀ c,p c
 | .mk _ _ _ _ _ ks=>h _ (inds h ks)
theorem inds {p:Cnd→Prop} (h:∀ c,(∀ k∈c.kids,p k)→p c):∀ ks:List Cnd,∀ k∈ks,p k
 | [],_,hk=>absurd hk sMp
 | x::r,k,hk=>by
   rcases Ck.1 hk with e | hk
   ·rw[e];exact ind' h x
   ·exact inds h r k hk
end
end Cnd
mutual
def cntC:Cnd→Int→Int
 | .mk _ _ _ _ _ ks,m=>wg ks m 1
def wg:List Cnd→Int→Int→Int
 | [],_,n=>n
 | k::r,m,n=>if n<m then wg r m (n+cntC k (m-n)) else n
end
theorem qi7 (c:Cnd) (m:Int):cntC c m=wg c.kids m 1:=by cases c;rw[cntC];rfl
mutual
def depC:Cnd→Nat
 | .mk _ _ _ _ _ ks=>Qp ks+1
def Qp:List Cnd→Nat
 | []=>0
 | k::r=>max (depC k) (Qp r)
end
theorem jk7 (c:Cnd):depC c=Qp c.kids+1:=by cases c;rw[depC];rfl
def isB (s:Sch) (col kind:Int):Bool:=decide (0≤col)&&decide (col<s.cols.length)&&((qj s col.toNat).kind==kind)
def arC (op:Int):Nat:=if op=5∨op=6 then 2 else if op=7 then 1 else 0
def ndE (s:Sch) (c:Cnd):Int:=
 if c.op<1∨7<c.op then 4
 else if c.kids.length≠arC c.op∨(c.op≠2∧c.op≠3∧c.op≠4∧c.col≠0)∨(c.op≠2∧c.code≠0)∨(c.op≠3∧(c.lo≠0∨c.hi≠0)) then 11
 else if (c.op=2∧isB s c.col 2=false)∨(c.op=3∧isB s c.col 3=false)∨(c.op=4∧(isB s c.col 3=false∨(qj s c.col.toNat).opt=false)) then 7
 else if c.op=2∧(c.code<0∨c.code≥(qK s c.col.toNat).codes.length) then 6
 else if c.op=3∧(c.lo < -1000000∨c.hi>1000000∨c.lo>c.hi) then 2 else 0
mutual
def nodE (s:Sch):Cnd→Int
 | .mk op col code lo hi ks=>if ndE s (.mk op col code lo hi ks)≠0 then ndE s (.mk op col code lo hi ks) else Ka s ks
def Ka (s:Sch):List Cnd→Int
 | []=>0
 | k::r=>if nodE s k≠0 then nodE s k else Ka s r
end
theorem jk8 (s:Sch) (c:Cnd):nodE s c=if ndE s c≠0 then ndE s c else Ka s c.kids:=by cases c;rw[nodE];rfl
def chkC (s:Sch) (c:Cnd):Int:=if schE s≠0 then schE s else if cntC c 41>40 then 1 else if depC c>10 then 22 else nodE s c
theorem zp0 {s:Sch}:∀ {l:List Cnd},Ka s l=0→∀ k∈l,nodE s k=0
 | [],_,k,hk=>absurd hk sMp
 | x::r,h,k,hk=>by
   rw[Ka] at h;split at h
   ·rename_i h1;exact absurd h h1
   ·rename_i h1;rcases Ck.1 hk with e | hk
    ·rw[e];exact AQ h1
    ·exact zp0 h k hk
theorem zz4 {s:Sch} {c:Cnd} (h:nodE s c=0):ndE s c=0∧∀ k∈c.kids,nodE s k=0:=by
 rw[jk8] at h;split at h
 ·rename_i h1;exact absurd h h1
 ·rename_i h1;exact⟨AQ h1,zp0 h⟩
theorem jk {s:Sch} {col kind:Int}:isB s col kind=true↔0≤col∧col<s.cols.length∧(qj s col.toNat).kind=kind:=by
 unfold isB;simp only[Bq,AZ,AY,and_assoc]
structure NdOk (s:Sch) (c:Cnd):Prop where
 op:1≤c.op∧c.op≤7
 nk:c.kids.length=arC c.op
 under:c.op=2→isB s c.col 2=true∧0≤c.code∧c.code<(qK s c.col.toNat).codes.length
 between:c.op=3→isB s c.col 3=true∧-1000000≤c.lo∧c.hi≤1000000∧c.lo≤c.hi
 miss:c.op=4→isB s c.col 3=true∧(qj s c.col.toNat).opt=true
theorem jk9 {s:Sch} {c:Cnd} (h:ndE s c=0):NdOk s c:=by
 unfold ndE at h;split at h
 ·cases h
 rename_i h1;split at h
 ·cases h
 rename_i h2;split at h
 ·cases h
 rename_i h3;split at h
 ·cases h
 rename_i h4;split at h
 ·cases h
 rename_i h5;refine⟨oM,AQ fun e=>h2 (.inl e),fun e=>⟨?_,oM,oM⟩,fun e=>⟨?_,oM,oM,oM⟩,fun e=>⟨?_,?_⟩⟩
 ·cases e2:isB s c.col 2 with
  | true=>rfl
  | false=>exact absurd (.inl ⟨e,e2⟩) h3
 ·cases e2:isB s c.col 3 with
  | true=>rfl
  | false=>exact absurd (.inr (.inl ⟨e,e2⟩)) h3
 ·cases e2:isB s c.col 3 with
  | true=>rfl
  | false=>exact absurd (.inr (.inr ⟨e,.inl e2⟩)) h3
 ·cases e2:(qj s c.col.toNat).opt with
  | true=>rfl
  | false=>exact absurd (.inr (.inr ⟨e,.inr e2⟩)) h3
def isAt (c:Cnd):Bool:=(c.op==2)||(c.op==3)||(c.op==4)
def tf (b:Bool):Int:=if b then 1 else -1
def Qq (s:Sch) (c:Cnd) (v:Int):Int:=
 if c.op=2 then tf (zK2 (qK s c.col.toNat) v c.code)
 else if c.op=3 then (if v=qW then 0 else tf (decide (c.lo≤v)&&decide (v≤c.hi)))
 else if c.op=4 then tf (v==qW) else -1
def qL1 (op:Int) (ks:List Int):Int:=if op=7 then-ks.getD 0 0 else if op=5 then min (ks.getD 0 0) (ks.getD 1 0) else if op=6 then max (ks.getD 0 0) (ks.getD 1 0) else 1
mutual
def evC (s:Sch) (row:List Int):Cnd→Int
 | .mk op col code lo hi ks=>if isAt (.mk op col code lo hi ks)=true then Qq s (.mk op col code lo hi ks) (row.getD col.toNat 0) else qL1 op (evCs s row ks)
def evCs (s:Sch) (row:List Int):List Cnd→List Int
 | []=>[]
 | k::r=>evC s row k::evCs s row r
end
theorem zK8 (s:Sch) (row:List Int):∀ l,evCs s row l=l.map (evC s row)
 | []=>by simp [evCs]
 | k::r=>by simp [evCs,zK8 s row r]
theorem jl0 (s:Sch) (row:List Int) (c:Cnd):evC s row c=if isAt c=true then Qq s c (row.getD c.col.toNat 0) else qL1 c.op (c.kids.map (evC s row)):=by
 cases c;rw[evC,zK8];rfl
def qZ8 (s:Sch) (c:Cnd) (row:List Int):Int:=if chkC s c≠0∨rowE s row≠0 then 0 else evC s row c
mutual
def atsC:Cnd→List Cnd
 | .mk op col code lo hi ks=>if isAt (.mk op col code lo hi ks)=true then [.mk op col code lo hi ks] else QC ks
def QC:List Cnd→List Cnd
 | []=>[]
 | k::r=>atsC k++QC r
end
theorem qi8 (c:Cnd):atsC c=if isAt c=true then [c] else QC c.kids:=by cases c;rw[atsC];rfl
theorem qi9:∀ (l:List Cnd) (k:Cnd),QC (l++[k])=QC l++atsC k
 | [],k=>by simp [QC]
 | x::r,k=>by simp [QC,qi9 r k]
theorem zK9 {s:Sch}:∀ c,nodE s c=0→∀ a∈atsC c,NdOk s a∧isAt a=true:=by
 refine Cnd.ind' fun c ih h a ha=>?_;obtain⟨h1,h2⟩:=zz4 h;rw[qi8] at ha;split at ha
 ·rename_i h3;rw[Ey] at ha;rw[ha];exact⟨jk9 h1,h3⟩
 ·have key:∀ l:List Cnd,(∀ k∈l,k∈c.kids)→a∈QC l→NdOk s a∧isAt a=true:=by
   intro l
   induction l with
   | nil=>intro _ h;simp [QC] at h
   | cons k r ihl=>
     intro hk h;rw[QC,Dz] at h;rcases h with h | h
     ·exact ih k (hk k sMp) (h2 k (hk k sMp)) a h
     ·exact ihl (fun x hx=>hk x (CQ _ hx)) h
  exact key c.kids (fun k hk=>hk) ha
def qj0 (n:Nat) (p:Nat→Nat→Bool):Bool:=(List.range n).all fun i=>(List.range i).all fun k=>p i k
theorem qd8 {p:Nat→Bool} {n:Nat}:(List.range (n+1)).all p=((List.range n).all p&&p n):=by rw[List.range_succ,FK];simp
theorem zL0 {p:Nat→Bool} {n i:Nat} (h:i<n) (hp:p i=false):(List.range n).all p=false:=List.all_eq_false.2 ⟨i,Dk.2 h,by rw[hp];simp⟩
theorem qQ6 {p:Nat→Nat→Bool} {n:Nat}:qj0 (n+1) p=(qj0 n p&&(List.range n).all (p n)):=qd8
theorem zL1 {p:Nat→Nat→Bool} {n i k:Nat} (h:i<n) (hk:k<i) (hp:p i k=false):qj0 n p=false:=zL0 h (zL0 hk hp)
def decP (s:Sch) (c:Cnd) (lev:Nat) (i k:Nat):Bool:=
 !((qk s c.col lev ((qA s c.col.toNat).getD i 0)==qk s c.col lev ((qA s c.col.toNat).getD k 0))&&!(Qq s c ((qA s c.col.toNat).getD i 0)==Qq s c ((qA s c.col.toNat).getD k 0)))
def decB (s:Sch) (c:Cnd) (lev:Nat):Bool:=
 if c.op=2 then qj0 (qA s c.col.toNat).length (decP s c lev)
 else if c.op=4 then decide (0<lev)
 else
  let x:=qj s c.col.toNat
  let first:=decide (x.low<c.lo)&&decide (c.lo≤x.high)
  let behind:=decide (x.low≤c.hi)&&decide (c.hi<x.high)
  if lev=0 then !x.opt&&!first&&!behind
  else (!first||(c.lo.tmod (qJ x lev)==0))&&(!behind||((c.hi+1).tmod (qJ x lev)==0))
def JT (p:Nat→Bool):Nat→Nat→Nat
 | 0,n=>n
 | f+1,n=>if p n=true then n else JT p f (n+1)
theorem YE {p:Nat→Bool} {N:Nat} (h:p N=true):∀ (f n:Nat),n≤N→N-n≤f→p (JT p f n)=true∧JT p f n≤N∧n≤JT p f n∧∀ m,n≤m→m<JT p f n→p m=false
 | 0,n,h1,h2=>by
   have:n=N:=by omega
   subst this;exact⟨h,BZ _,BZ _,fun m h3 h4=>by rw[JT] at h4;omega⟩
 | f+1,n,h1,h2=>by
   rw[JT];split
   ·rename_i hp;exact⟨hp,h1,BZ _,fun m h3 h4=>by omega⟩
   ·rename_i hp;have hn:n≠N:=fun e=>hp (e ▸ h);obtain⟨a,b,c,d⟩:=YE h f (n+1) oM oM;refine⟨a,b,oM,fun m h3 h4=>?_⟩;by_cases e:m=n
    ·rw[e];simpa using hp
    ·exact d m oM h4
def decN (s:Sch) (c:Cnd):Nat:=JT (decB s c) 64 0
def Kb (col lev:Int):List Pk×Bool→Pk→List Pk×Bool:=fun x p=>
 let y:=if p.col>col∧x.2=false then (x.1++[⟨col,lev⟩],true) else x
 if p.col=col then (y.1++[⟨p.col,max p.lev lev⟩],true) else (y.1++[p],y.2)
def jz (l:List Pk) (col lev:Int):List Pk:=
 let x:=l.foldl (Kb col lev) ([],decide (lev≤0))
 if x.2 then x.1 else x.1++[⟨col,lev⟩]
def zu (s:Sch) (c:Cnd):List Pk:=if chkC s c≠0 then [] else (atsC c).foldl (fun l a=>jz l a.col (decN s a)) []
def covB (a b:List Pk):Bool:=a.all fun x=>b.any fun y=>(y.col==x.col)&&decide (y.lev≥x.lev)
mutual
def qj1:Cnd→Cnd→Bool
 | .mk a1 a2 a3 a4 a5 ks,.mk b1 b2 b3 b4 b5 ls=>(a1==b1)&&(a2==b2)&&(a3==b3)&&(a4==b4)&&(a5==b5)&&wh ks ls
def wh:List Cnd→List Cnd→Bool
 | [],[]=>true
 | k::r,l::t=>qj1 k l&&wh r t
 | [],_::_=>false
 | _::_,[]=>false
end
theorem jx6 (a b:Cnd):qj1 a b=((a.op==b.op)&&(a.col==b.col)&&(a.code==b.code)&&(a.lo==b.lo)&&(a.hi==b.hi)&&wh a.kids b.kids):=by cases a;cases b;rw[qj1];rfl
theorem qQ7:∀ c,∀ m,1≤m→1≤cntC c m∧cntC c m≤m:=by
 refine Cnd.ind' fun c ih m hm=>?_;rw[qi7];have key:∀ l:List Cnd,(∀ k∈l,k∈c.kids)→∀ n,1≤n→n≤m→1≤wg l m n∧wg l m n≤m:=by
  intro l
  induction l with
  | nil=>intro _ n h1 h2;rw[wg];exact⟨h1,h2⟩
  | cons k r ihl=>
    intro hk n h1 h2;rw[wg];split
    ·have:=ih k (hk k sMp) (m-n) oM;exact ihl (fun x hx=>hk x (CQ _ hx)) _ oM oM
    ·exact⟨h1,h2⟩
 exact key c.kids (fun k hk=>hk) 1 oM hm
theorem qZ9:∀ (l:List Cnd) (m n:Int),n≤m→n≤wg l m n
 | [],m,n,_=>by rw[wg];omega
 | k::r,m,n,h=>by
   rw[wg];split
   ·have:=qQ7 k (m-n) oM;have:=qZ9 r m (n+cntC k (m-n)) oM;omega
   ·omega
theorem jM4:∀ c,∀ m,1≤m→cntC c m<m→(depC c:Int)≤cntC c m:=by
 refine Cnd.ind' fun c ih m hm h=>?_;rw[qi7] at h ⊢
 rw[jk7];have key:∀ l:List Cnd,(∀ k∈l,k∈c.kids)→∀ n,1≤n→n≤m→wg l m n<m→n+Qp l≤wg l m n:=by
  intro l
  induction l with
  | nil=>intro _ n h1 h2 _;rw[wg,Qp];omega
  | cons k r ihl=>
    intro hk n h1 h2 h3;rw[wg] at h3 ⊢
    rw[Qp];split at h3
    ·rename_i h4;rw[Aj h4];have c1:=qQ7 k (m-n) oM;have c2:=qZ9 r m (n+cntC k (m-n)) oM;have c3:=ih k (hk k sMp) (m-n) oM oM;have c4:=ihl (fun x hx=>hk x (CQ _ hx)) (n+cntC k (m-n)) oM oM h3;omega
    ·omega
 have:=key c.kids (fun k hk=>hk) 1 oM oM h;omega
def jh (f:Nat→Int):Nat→Int
 | 0=>0
 | n+1=>if jh f n≠0 then jh f n else f n
theorem zp1 {f:Nat→Int} {i:Nat} (h:jh f i≠0):∀ n,i≤n→jh f n=jh f i:=by
 intro n hn
 induction n with
 | zero=>have:i=0:=by omega
         rw[this]
 | succ n ih=>
   by_cases e:i=n+1
   ·rw[e]
   ·have:=ih oM;rw[jh,this,Aj h]
theorem yI {f:Nat→Int}:∀ {n:Nat},jh f n=0→∀ i,i<n→f i=0
 | 0,_,i,h=>by omega
 | n+1,h,i,hi=>by
   rw[jh] at h;split at h
   ·rename_i h2;exact absurd h h2
   ·rename_i h2;by_cases e:i=n
    ·rw[e];exact h
    ·exact yI (AQ h2) i oM
theorem wO {f:Nat→Int}:∀ {n:Nat},(∀ i,i<n→f i=0)→jh f n=0
 | 0,_=>rfl
 | n+1,h=>by
   rw[jh,wO fun i hi=>h i oM,Aq sMp];exact h n oM
theorem jG {f:Nat→Int} {n:Nat} (h:jh f n=0):jh f (n+1)=f n:=by rw[jh,Aq (by rw[h];simp)]
theorem yJ {f:Nat→Int} {i n:Nat} (h:jh f i=0) (hi:i<n) (hf:f i≠0):jh f n=f i:=by
 rw[zp1 (i:=i+1) (by rw[jG h];exact hf) n oM,jG h]
def js (s:Sch) (p:Pk):Int:=if schE s≠0 then schE s else if p.col<1∨p.col≥s.cols.length then 7 else if inB p.lev 0 (finI s p.col)=false then 8 else 0
abbrev pkAt (l:List Pk) (i:Nat):Pk:=l.getD i default
def qz7 (s:Sch) (l:List Pk) (i:Nat):Int:=if js s (pkAt l i)≠0 then js s (pkAt l i) else if 0<i∧(pkAt l i).col≤(pkAt l (i-1)).col then 10 else 0
def jH (s:Sch) (l:List Pk):Int:=if schE s≠0 then schE s else jh (qz7 s l) l.length
def dimE (s:Sch) (l:List Pk) (i:Nat):Int:=if js s (pkAt l i)≠0 then js s (pkAt l i) else if isB s (pkAt l i).col 2=false then 7 else if ((l.take i).any fun x=>x.col==(pkAt l i).col)=true then 10 else 0
def wB (s:Sch) (l:List Pk):Int:=if l.length<1∨l.length>3 then 1 else jh (dimE s l) l.length
def jx7 (s:Sch) (m:Int) (l:List Int) (i:Nat):Int:=if isB s (l.getD i 0) 3=false then 7 else if l.getD i 0=m∨(l.take i).contains (l.getD i 0)=true then 10 else 0
def qz8 (s:Sch) (m:Int) (l:List Int):Int:=if l.length<1∨l.length>3 then 1 else jh (jx7 s m l) l.length
def qm3 (s:Sch) (q:Qst):Int:=
 if q.kind=1 then (if wB s q.dims≠0 then wB s q.dims else if q.meas≠-1∧isB s q.meas 3=false then 7 else 0)
 else if q.kind=2 then (if isB s q.meas 3=false then 7 else qz8 s q.meas q.terms)
 else if isB s q.meas 3=false then 7 else if (qj s q.meas.toNat).low<0 then 2 else chkC s q.event
def qstE (s:Sch) (q:Qst):Int:=
 if schE s≠0 then schE s else if jr q.name=false then 3 else if q.kind<1∨3<q.kind then 4
 else if chkC s q.filt≠0 then chkC s q.filt else if qm3 s q≠0 then qm3 s q
 else if (q.kind≠1∧0<q.dims.length)∨(q.kind≠2∧0<q.terms.length)∨(q.kind≠3∧qj1 q.event cnd0=false) then 11 else 0
abbrev qAt (l:List Qst) (i:Nat):Qst:=l.getD i default
def qsE (s:Sch) (l:List Qst) (i:Nat):Int:=if qstE s (qAt l i)≠0 then qstE s (qAt l i) else if ((l.take i).any fun x=>eqB x.name (qAt l i).name)=true then 10 else 0
def smpE (x:Smp):Int:=if x.of<1∨x.of>1000∨x.part<1∨x.part>x.of∨x.seed<0∨x.seed>1099511627776 then 2 else 0
def dclE (s:Sch) (d:Dcl):Int:=
 if schE s≠0 then schE s else if jr d.proj=false∨jr d.src=false then 3 else if chkC s d.coh≠0 then chkC s d.coh
 else if smpE d.smp≠0 then 2 else if d.qs.length<1∨d.qs.length>8 then 1 else jh (qsE s d.qs) d.qs.length
theorem jl1 {s:Sch} {d:Dcl} (h:dclE s d=0):schE s=0∧jr d.proj=true∧jr d.src=true∧chkC s d.coh=0∧smpE d.smp=0∧1≤d.qs.length∧d.qs.length≤8∧∀ i,i<d.qs.length→qstE s (qAt d.qs i)=0:=by
 unfold dclE at h;split at h
 ·rename_i h1;exact absurd h h1
 rename_i h1;split at h
 ·cases h
 rename_i h2;split at h
 ·rename_i h3;exact absurd h h3
 rename_i h3;split at h
 ·cases h
 rename_i h4;split at h
 ·cases h
 rename_i h5;refine⟨AQ h1,?_,?_,AQ h3,AQ h4,oM,oM,fun i hi=>?_⟩
 ·cases e:jr d.proj with
  | true=>rfl
  | false=>exact absurd (.inl e) h2
 ·cases e:jr d.src with
  | true=>rfl
  | false=>exact absurd (.inr e) h2
 ·have:=yI h i hi;unfold qsE at this;split at this
  ·rename_i h6;exact absurd this h6
  ·rename_i h6;exact AQ h6
theorem wP {s:Sch} {l:List Pk} (h:jH s l=0):schE s=0∧(∀ p∈l,js s p=0)∧l.Pairwise fun a b=>a.col<b.col:=by
 unfold jH at h;split at h
 ·rename_i h1;exact absurd h h1
 rename_i h1;have key:∀ i,i<l.length→js s (pkAt l i)=0∧¬ (0<i∧(pkAt l i).col≤(pkAt l (i-1)).col):=fun i hi=>by
  have:=yI h i hi;unfold qz7 at this;split at this
  ·rename_i h2;exact absurd this h2
  rename_i h2;split at this
  ·cases this
  ·rename_i h3;exact⟨AQ h2,h3⟩
 refine⟨AQ h1,fun p hp=>?_,?_⟩
 ·obtain⟨i,hi,rfl⟩:=CX hp;have:=(key i hi).1;rw[pkAt,qg hi] at this;exact this
 ·rw[DX];have k2:∀ (d i:Nat) (hj:i+d+1<l.length),(l[i]'oM).col<l[i+d+1].col:=by
   intro d
   induction d with
   | zero=>
     intro i hj;have:=(key (i+1) oM).2;rw[pkAt,pkAt,qg oM,qg oM] at this;simp at this;simpa using this
   | succ d ih=>
     intro i hj;have h1:=ih i oM;have h2:=(key (i+d+1+1) oM).2;rw[pkAt,pkAt,qg oM,qg oM] at h2;simp only[Nat.add_sub_cancel] at h2;have e:i+(d+1)+1=i+d+1+1:=by omega
     simp only[e];omega
  intro i j hi hj hij;have:=k2 (j-i-1) i oM;have e:i+(j-i-1)+1=j:=by omega
  simp only[e] at this;exact this
theorem zW {s:Sch} {p:Pk} (h:js s p=0):schE s=0∧1≤p.col∧p.col<s.cols.length∧0≤p.lev∧p.lev≤finI s p.col:=by
 unfold js at h;split at h
 ·rename_i h1;exact absurd h h1
 rename_i h1;split at h
 ·cases h
 rename_i h2;split at h
 ·cases h
 rename_i h3;rw[Ez,inB,Bq,AZ,AZ] at h3;exact⟨AQ h1,oM,oM,h3.1,h3.2⟩
def divM (high w wo:Int):Nat→Int→Bool
 | 0,_=>true
 | k+1,f=>if f>high then true else if f.tmod wo≠0 then false else divM high w wo k (f+w)
def divP (s:Sch) (col:Nat) (L:List Int) (other lev:Nat) (i k:Nat):Bool:=
 !(!(qk s col lev (L.getD i 0)==qk s col lev (L.getD k 0))&&(qk s col other (L.getD i 0)==qk s col other (L.getD k 0)))
def divB (s:Sch) (col other lev:Nat):Bool:=
 if lev=0∨lev≤other then true
 else if (qj s col).kind=2 then qj0 (qA s col).length (divP s col (qA s col) other lev)
 else
  let x:=qj s col
  let w:=qJ x lev
  let first:=(qU x.low w+1)*w
  if other=0 then !x.opt&&decide (first>x.high)
  else divM x.high w (qJ x other) 2 first
def zO (s:Sch) (col lev:Int):Int:=if inB lev 0 (finI s col)=false then -1 else JT (fun n=>divB s col.toNat n lev.toNat) 64 0
def zz5 (q:Qst) (k:Int):Bool:=(q.meas==k)||q.terms.contains k
def Qr (l m:List Pk):List Pk:=m.foldl (fun l p=>jz l p.col p.lev) l
def jZ (s:Sch) (q:Qst):List Pk→Nat→List Pk:=fun l k=>if zz5 q (k+1)=true then jz l (k+1) (zO s (k+1) (finI s (k+1))) else l
def jl2 (s:Sch) (q:Qst) (l:List Pk):List Pk:=(List.range (s.cols.length-1)).foldl (jZ s q) l
def YF (s:Sch) (q:Qst):List Pk:=if qstE s q≠0 then [] else
 jl2 s q (q.dims.foldl (fun l p=>jz l p.col (zO s p.col p.lev)) (if q.kind=3 then Qr (zu s q.filt) (zu s q.event) else zu s q.filt))
def sufB (s:Sch) (q:Qst) (l:List Pk):Bool:=(qstE s q==0)&&(jH s l==0)&&covB (YF s q) l
def zp2 (s:Sch) (d:Dcl) (l:List Pk):Int:=if dclE s d≠0 then dclE s d else if jH s l≠0 then jH s l else jh (fun i=>if sufB s (qAt d.qs i) l=true then 0 else 23) d.qs.length
theorem kz {s:Sch} {c:Int} (h:0≤finI s c):schE s=0∧1≤c∧c<s.cols.length∧finI s c=(if (qj s c.toNat).kind=2 then zA (qK s c.toNat)-1 else (qj s c.toNat).widths.length):=by
 unfold finI at h ⊢
 split at h
 ·omega
 ·rename_i h1;rw[Aq h1];exact⟨oM,oM,oM,rfl⟩
theorem zP {n lo hi:Int}:inB n lo hi=true↔lo≤n∧n≤hi:=by simp [inB]
theorem qm4 {n lo hi:Int}:inB n lo hi=false↔n<lo∨hi<n:=by
 rw[← Bool.not_eq_true,zP];omega
theorem SchOk.wid {s:Sch} (h:SchOk s) {i:Nat} (hi:i<s.cols.length) (h0:0<i) (hk:(qj s i).kind≠2) {lev:Int} (hl:1≤lev∧lev≤(qj s i).widths.length) :
 1≤qJ (qj s i) lev∧qJ (qj s i) lev≤1000000∧(qj s i).kind=3∧(qj s i).widths.length≤4∧-1000000≤(qj s i).low∧(qj s i).high≤1000000∧(qj s i).low≤(qj s i).high∧qJ (qj s i) (qj s i).widths.length=1:=by
 have hk2:=zo (h.cs i hi);have hk3:(qj s i).kind=3:=by have:=hk2.2.2.1 h0;omega
 have hm:=hk2.2.2.2.2 hk3;generalize qj s i=c at hl hm hk3 ⊢
 unfold measE at hm;split at hm
 ·cases hm
 rename_i h1;split at hm
 ·cases hm
 rename_i h2;split at hm
 ·cases hm
 rename_i h3;rw[Ez] at h3;have hw:∀ j,j<c.widths.length→wdOk c.widths j=true:=fun j hj=>Bk.1 h3 j (Dk.2 hj);have e1:inB c.low (-1000000) 1000000=true:=by grind
 have e2:inB c.high (-1000000) 1000000=true:=by grind
 rw[zP] at e1 e2;have hn:((c.widths.length:Int)-lev).toNat<c.widths.length:=by omega
 have hp:=zo9 (ws:=c.widths) hw _ hn;have h0:=hw 0 oM;rw[wdOk,Aj rfl,AY] at h0;have hmax:c.widths.getD ((c.widths.length:Int)-lev).toNat 0≤1000000:=by
  have:=hw _ hn;unfold wdOk at this;split at this
  ·rename_i e;rw[e,h0];omega
  ·simp only[Bq,AZ] at this;omega
 refine⟨hp,hmax,hk3,oM,oM,oM,oM,?_⟩;rw[qJ,show ((c.widths.length:Int)-c.widths.length).toNat=0 by omega,h0]
theorem ZO {v w:Int} (hw:0<w):v-w<qU v w*w∧qU v w*w≤v:=by
 unfold qU;rw[DW _ oM,Int.mul_comm];have h1:=Int.mul_ediv_add_emod v w;have h2:=Int.emod_nonneg v (b:=w) oM;have h3:=Int.emod_lt_of_pos v hw;omega
theorem jx8 {v w:Int} (hw:0<w) (hv : -4611686018427387904<v∧v<4611686018427387904) : -4611686018427387904<qU v w∧qU v w<4611686018427387904:=by
 have hq:=Int.natAbs_tdiv_le_natAbs v w;have h1:=Int.mul_tdiv_add_tmod v w;rw[zK7 hw];unfold qU at *
 split
 ·rename_i h;have h2:v<0:=AQ fun k=>by
   have:=Int.tmod_nonneg w (show 0≤v by omega);omega
  have h3 : -4611686018427387904<v.tdiv w-1:=by
   by_cases e:w=1
   ·subst e;rw[Int.tmod_one] at h;omega
   ·refine AQ fun k=>?_;have h4:v.tdiv w≤-4611686018427387903:=by omega
    have h5:w*v.tdiv w≤2*v.tdiv w:=Int.mul_le_mul_of_nonpos_right oM oM;have h6:=Int.lt_tmod_of_pos v hw;have h7:=Int.tmod_lt_of_pos v hw;omega
  omega
 ·omega
theorem zk (s:Sch) (hs:jY s) (c lev v:Int):Sp 74 [schT s,vI c,vI lev,vI v] [] (vI (qk s c lev v)) []:=by
 refine sIr qw9 fun e _ hst=>?_;unfold yY;refine sW ?_;refine C1.im (zM s hs c) rF rF ?_;refine sW ?_;refine C1.im (zF lev 0 (finI s c)) rF rF ?_;simp only[tZ,↓uU,simprocAttr,Bx,Bz];refine⟨fun h=>?_,fun h=>?_⟩
 ·rw[qk,Aj h];exact .oA [] []
 rw[zP] at h;obtain⟨hE,c1,c2,hfin⟩:=kz (s:=s) (c:=c) oM;have hok:=qO hE;obtain⟨i,rfl⟩:=AJ (show 0≤c by omega);rw[Ax] at hfin;have hi:i<s.cols.length:=by omega
 have hat:qj s i=s.cols[i]:=by rw[qj,qg hi]
 have hk:=zo (hok.cs i hi);have hcd:=fun e=>hok.cdl hi e;have hwd:=fun e l=>hok.wid hi oM e (lev:=l);have hcl:qK s i=s.lists.getD s.cols[i].list.toNat default:=by rw[qK,hat]
 have hE2:qk s i lev v=if s.cols[i].kind=2 then (if qS s i v=false then -1 else upC (qK s i) v lev)
  else if v≠qW∧inB v (-1000000) 1000000=false then -1
  else if lev=0 then 0 else if v=qW then v else qU v (qJ s.cols[i] lev)*qJ s.cols[i] lev:=by
  rw[qk,Aq (by rw[Ez,zP];exact h),Ax,hat]
 rw[hE2];rw[hat] at hk hcd hwd hfin;rw[hcl] at hcd ⊢
 simp only[tZ,↓uU,simprocAttr,Ax,qd hi];have hho:=qd6 s hok i hi v;generalize s.cols[i]=x at hk hcd hwd hfin ⊢
 simp only[tZ,↓uU,simprocAttr,AY,Ak];refine⟨oM,fun h2=>?_,fun h2=>?_⟩
 ·rw[Aj h2];obtain⟨d1,d2⟩:=hcd h2;obtain⟨d3,d4⟩:=hk.2.2.2.1 h2;have hgl:s.lists.getD x.list.toNat default=s.lists[x.list.toNat]:=qg d1;rw[hgl] at d2 ⊢
  obtain⟨_,d5,d6⟩:=ze d2;refine C1.im hho rF rF ?_;simp only[tZ,↓uU,simprocAttr,Bx,Bz];refine⟨fun h3=>?_,fun h3=>?_⟩
  ·rw[Aj h3];exact .oA [] []
  rw[Aq (by rw[h3];simp)];simp only[tZ,↓uU,simprocAttr,qd d1];generalize s.lists[x.list.toNat]=l at d2 d5 d6 ⊢
  refine⟨oM,?_⟩;refine C1.im (qQ5 l v lev oM) rF rF ?_;refine sW ?_;exact .oA [] []
 rw[Aq h2];rw[Aq h2] at hfin;refine C2.im (fun _=>zF v (-1000000) 1000000) (fun _=>rfl) rF ?_;simp only[tZ,↓uU,simprocAttr,tD,Bj,Aw,Bx,Bz,AY,Ak];rw[show (-1099511627776:Int)=qW from rfl];refine⟨fun h3=>?_,fun h3=>?_⟩
 ·rw[Aj h3];exact .oA [] []
 rw[Aq (by grind)];refine⟨fun h4=>?_,fun h4=>?_⟩
 ·rw[Aj h4];exact .oA [] []
 rw[Aq h4];refine⟨fun h5=>?_,fun h5=>?_⟩
 ·rw[Aj h5];exact .oA [] []
 rw[Aq h5];have hv:inB v (-1000000) 1000000=true:=by grind
 rw[zP] at hv;obtain⟨w1,w2,w3,w4,_⟩:=hwd h2 lev oM;have hfm:=ZO (v:=v) (w:=qJ x lev) oM;have hw:IntKind.i64.wrap (qU v (qJ x lev)*qJ x lev)=qU v (qJ x lev)*qJ x lev:=AK _ oM;refine C1.im (wa x lev oM oM) rF rF ?_;refine sW ?_;refine C1.im (qd7 v (qJ x lev) oM oM) rF rF ?_;simp only[tZ,↓uU,simprocAttr,hw];exact .oA [] []
theorem jv (s:Sch) (hok:SchOk s) (i:Nat) (hi:i<s.cols.length) (h2:(qj s i).kind=2):Sp 131 [schT s,vI i] [] (vIs (qA s i)) []:=by
 have hat:qj s i=s.cols[i]:=by rw[qj,qg hi]
 obtain⟨d1,d2⟩:=hok.cdl hi h2;obtain⟨d3,d4⟩:=(zo (hok.cs i hi)).2.2.2.1 h2;have hcl:qK s i=s.lists.getD s.cols[i].list.toNat default:=by rw[qK,hat]
 rw[hcl] at d2;rw[hat] at d1 d3 d4;have hgl:s.lists.getD s.cols[i].list.toNat default=s.lists[s.cols[i].list.toNat]:=qg d1;rw[hgl] at d2;obtain⟨_,d5,d6⟩:=ze d2;rw[qA,hcl,hgl];have hlv:=YD (l:=s.lists[s.cols[i].list.toNat]);have hw2:IntKind.i64.wrap (zA s.lists[s.cols[i].list.toNat]-1)=zA s.lists[s.cols[i].list.toNat]-1:=AK _ oM;refine sIr qx9 fun e _ hst=>?_;unfold Qg;simp only[tZ,↓uU,simprocAttr,Ax,qd hi,qd d1];refine⟨oM,oM,kR,?_⟩;refine C1.im (wH _ oM) rF rF ?_;simp only[tZ,↓uU,simprocAttr,hw2];refine C1.im (Wm _ _ oM) rF rF ?_;refine sW ?_;refine⟨kR,?_⟩;exact .oA [] []
theorem qm5 (s:Sch) (hs:jY s) (p:Pk):Sp 130 [schT s,pkT p] [] (vI (js s p)) []:=by
 refine sIr qW8 fun e _ hst=>?_;unfold Jt;refine sW ?_;refine C1.im (zy s hs) rF rF ?_;simp only[tZ,↓uU,simprocAttr,tD,Bj,Aw];refine⟨fun h=>?_,fun h=>⟨fun h2=>?_,fun h2=>?_⟩⟩
 ·rw[js,Aj h];exact .oA [] []
 ·rw[js,Aq (by rw[h];simp),Aj oM];exact .oA [] []
 rw[js,Aq (by rw[h];simp),Aq oM];refine C1.im (zM s hs p.col) rF rF ?_;refine sW ?_;refine C1.im (zF p.lev 0 (finI s p.col)) rF rF ?_;simp only[tZ,↓uU,simprocAttr,Bx,Bz];refine⟨kR,fun h3=>?_,fun h3=>?_⟩
 ·rw[Aj h3];exact .oA [] []
 ·rw[Aq (by rw[h3];simp)];exact .oA [] []
theorem yB (s:Sch) (hs:jY s) (l:List Pk) (hl:l.length<4611686018427387904):Sp 76 [schT s,vPs l] [] (vI (jH s l)) []:=by
 refine sIr qF5 fun e _ hst=>?_;unfold QW;refine sW ?_;refine C1.im (zy s hs) rF rF ?_;simp only[tZ,↓uU,simprocAttr,Bj,Aw];refine⟨fun h=>?_,fun hE=>?_⟩
 ·rw[jH,Aj h];exact .oA [] []
 rw[jH,Aq (by rw[hE];simp)];refine qt mixm (α:=Nat) [6] (fun i=>i≤l.length∧(jh (qz7 s l) i=0)) (fun i=>[(6,vI i)]) (fun i=>[aR 4096 2 [schT s]]) (fun i=>l.length-i) 0 ⟨oM,?_⟩ ?_ fun i hi=>?_
 ·rfl
 ·exact .oA (U1 4096) []
 simp only[tZ,↓uU,simprocAttr,AZ,Ay];refine⟨fun h=>?_,fun h=>?_⟩
 ·have hi2:i<l.length:=by omega
  have hpi:pkAt l i=l[i]:=by rw[pkAt,qg hi2]
  have hstep:=yJ hi.2 hi2;have hnext:=jG hi.2;have hA:qz7 s l i=if js s l[i]≠0 then js s l[i] else if 0<i∧l[i].col≤(pkAt l (i-1)).col then 10 else 0:=by rw[qz7,hpi]
  have hi2:i<l.length:=by omega
  have hwi:=qh (i:=i) oM;simp only[tZ,↓uU,simprocAttr,Ax,qd hi2,hwi];refine⟨oM,?_⟩;refine C1.im (qm5 s hs l[i]) rF rF ?_;simp only[tZ,↓uU,simprocAttr,Bj,Aw];refine⟨kR,fun h3=>?_,fun h3=>?_⟩
  ·rw[Aj h3] at hA;rw[hstep (by rw[hA];exact h3),hA];exact .oA [] []
  rw[Aq (by rw[h3];simp)] at hA;rcases DQ i with h0 | h0
  ·subst h0;rw[Aq oM] at hA;have hz:((0:Nat):Int)=0:=rfl;have hz2:(IntKind.i64.wrap (-1)).toNat=0:=by decide
   have hz3:=qh (i:=0) oM;rw[hz] at hz3;simp only[tZ,↓uU,simprocAttr,Ax,hz,beq_self_eq_true,gt_iff_lt,Int.lt_irrefl,Fq,hz2,qd hi2,hz3];refine⟨kR,1,⟨oM,by rw[hnext,hA]⟩,oM,?_⟩;exact .oA (U1 4096) []
  ·obtain⟨k,rfl⟩:∃ k,i=k+1:=⟨i-1,oM⟩;have hk3:k<l.length:=by omega
   have e2:decide (((k+1:Nat):Int)>0)=true:=Cx oM;have e3:=kK (i:=k+1) oM oM;rw[Nat.add_sub_cancel] at e3 hA;rw[pkAt,qg hk3] at hA;simp only[tZ,↓uU,simprocAttr,Ax,qd hi2,qd hk3,e2,e3,hwi,tD];refine⟨oM,oM,kR,fun h4=>?_,fun h4=>?_⟩
   ·rw[Aj ⟨oM,h4⟩] at hA;rw[hstep (by rw[hA];simp),hA];exact .oA [] []
   ·rw[Aq oM] at hA;refine⟨k+2,⟨oM,by rw[hnext,hA]⟩,oM,?_⟩;exact .oA (U1 4096) []
 ·have hi2:i=l.length:=by omega
  subst hi2;rw[hi.2];exact .oA [] []
end Go.Proofs
