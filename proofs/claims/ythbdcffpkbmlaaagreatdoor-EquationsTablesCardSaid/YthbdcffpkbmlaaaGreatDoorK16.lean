/- A part of the proof: trees of Go values, short forms, contracts. -/
import Derived.Test.YthbdcffpkbmlaaaGreatDoorK15
namespace Go.Proofs
open Go Go.TL
def atN (cs:List Cod) (lev:Int) (n:Nat):List Int:=List.map (fun i:Nat=>(i:Int)) ((List.range n).filter fun i=>(dep cs i:Int)==lev)
theorem zM6 (cs:List Cod) (lev:Int) (n:Nat):atN cs lev (n+1)=atN cs lev n++(if (dep cs n:Int)=lev then [(n:Int)] else []):=by
 unfold atN;rw[List.range_succ,FY,By]
 congr 1
 by_cases h:(dep cs n:Int)=lev <;> simp [h]
theorem jm4 (cs:List Cod) (lev:Int) (n:Nat):(atN cs lev n).length≤n:=by
 unfold atN;rw[BY];exact FZ (Fx _ _) sMp
theorem Wt (l:CodL) (lev:Int) (hl:l.codes.length<4611686018427387904):Sp 31 [cdlT l,vI lev] [] (vIs (atL l lev)) []:=by
 refine sIr zy8 fun e _ hst=>?_;unfold Yr;refine sW ?_;refine C1.im (wa l hl) rF rF ?_;simp only[tZ,↓uU,simprocAttr,Bj,Aw];refine⟨fun h=>?_,fun h=>?_⟩
 ·rw[atL,Aj h];exact .oA [] []
 obtain⟨hp,h1,h2⟩:=ze h;have e:atL l lev=atN l.codes lev l.codes.length:=by rw[atL,Aq (by rw[h];simp)];rfl
 rw[e];refine qk mixm (α:=Nat) [5,6] (fun i=>i≤l.codes.length) (fun i=>[(5,.asl 1 (atN l.codes lev i).length),(6,vI i)]) (fun i=>[aR 4096 2 [cdlT l],aR 1 1 ((atN l.codes lev i).map vI)]) (fun i=>l.codes.length-i) 0 oM ?_ fun i hi=>?_
 ·simp only[atN,List.range_zero,List.filter_nil,List.map_nil,Cw];exact .oA [uI 4096,(1,none)] []
 have hli:=jm4 l.codes lev i;refine sD ?_;refine⟨fun h3=>?_,fun h3=>?_⟩
 ·have hi2:i<l.codes.length:=by omega
  have hwi:=qh (i:=i) oM;have hs:=zM6 l.codes lev i;refine C1.im (jN l i hp hi2 oM) rF rF ?_;simp only[tZ,↓uU,simprocAttr,AY,Ak,hwi];refine⟨fun h4=>?_,fun h4=>?_⟩
  ·rw[Aj h4] at hs;refine⟨oM,i+1,oM,oM,?_⟩;rw[hs];exact .oA (U2 4096 1) []
  ·rw[Aq h4,CW] at hs;refine⟨i+1,oM,oM,?_⟩;rw[hs];exact .oA (U2 4096 1) []
 ·have hil:i=l.codes.length:=by omega
  subst hil;exact .oA [] [1]
open So
theorem jy6 {cs:List Cod} (h:qq8 cs) (lev:Nat):∀ (c f g:Nat),c<cs.length→c<f→c<g→upF cs lev f c=upF cs lev g c:=by
 intro c
 induction c using Nat.strongRecOn with
 | _ c ih=>
   intro f g hc hf hg;obtain⟨f,rfl⟩:∃ k,f=k+1:=⟨f-1,oM⟩;obtain⟨g,rfl⟩:∃ k,g=k+1:=⟨g-1,oM⟩;simp only[upF];have hp:=h c hc;split
   ·rename_i h1;have h0:¬ parC cs c<0:=fun e=>by rw[qe2 e] at h1;omega
    rw[ih (parC cs c).toNat oM f g oM oM oM]
   ·rfl
theorem up_step {cs:List Cod} (h:qq8 cs) {lev c:Nat} (hc:c<cs.length) (hl:lev<dep cs c):0≤parC cs c∧parC cs c<c∧dep cs c=dep cs (parC cs c).toNat+1∧upF cs lev (c+1) c=upF cs lev ((parC cs c).toNat+1) (parC cs c).toNat:=by
 have hp:=h c hc;have h0:¬ parC cs c<0:=fun e=>by rw[qe2 e] at hl;omega
 refine⟨oM,oM,YP h hc oM,?_⟩;rw[upF,Aj hl];exact jy6 h lev _ _ _ oM oM oM
theorem zM7 {cs:List Cod} {lev c:Nat} (hl:dep cs c≤lev) (f:Nat):upF cs lev f c=c:=by
 cases f with
 | zero=>rfl
 | succ f=>rw[upF,Aq oM]
theorem qN9 (l:CodL) (c:Int) (hp:qq8 l.codes) (hc:0≤c∧c<l.codes.length) (hl:l.codes.length≤1000):Sp 88 [cdlT l,vI c] [] (vI (dep l.codes c.toNat)) []:=by
 obtain⟨k,rfl⟩:=AJ hc.1;rw[Ax];exact jN l k hp oM hl
theorem qj6 (l:CodL) (c lev:Int) (hl:l.codes.length<4611686018427387904):Sp 110 [cdlT l,vI c,vI lev] [] (vI (upC l c lev)) []:=by
 have hdp:(lstE l != 0||decide (c<0)||decide ((l.codes.length:Int)≤c)||decide (lev<0))=false→Sp 88 [cdlT l,vI c] [] (vI (dep l.codes c.toNat)) []:=fun hg=>by
  simp only[tD,Aw] at hg;obtain⟨hp,_,h2⟩:=ze hg.1.1.1;exact qN9 l c hp oM oM
 refine sIr zz4 fun e _ hst=>?_;unfold YI;refine sW ?_;refine C1.im (wa l hl) rF rF ?_;refine sW ?_;refine C2.im hdp (fun _=>rfl) rF ?_;simp only[tZ,↓uU,simprocAttr,tD,Bj,Aw];refine⟨fun h=>?_,fun h=>?_⟩
 ·rw[upC,Aj oM];exact .oA [] []
 obtain⟨hp,h1,h2⟩:=ze h.1.1.1.1;obtain⟨k,rfl⟩:=AJ (show 0≤c by omega);obtain⟨v,rfl⟩:=AJ (show 0≤lev by omega);rw[upC,Aq oM,Ax,Ax];rw[Ax] at h;refine qk mixm (α:=Nat) [1,31] (fun x=>x<l.codes.length∧upF l.codes v (k+1) k=upF l.codes v (x+1) x) (fun x=>[(1,vI x)]) (fun x=>[aR 4096 2 [cdlT l]]) (fun x=>x) k ⟨oM,rfl⟩ ?_ fun x hx=>?_
 ·exact .oA (U1 4096) []
 obtain⟨x1,x2⟩:=hx;have hcd:l.codes[x].par=parC l.codes x:=by rw[parC,cdAt,qg x1]
 refine sW ?_;refine C1.im (jN l x hp x1 oM) rF rF ?_;refine sD ?_;refine⟨fun h3=>?_,fun h3=>?_⟩
 ·obtain⟨u1,u2,u3,u4⟩:=up_step hp (lev:=v) x1 oM;obtain⟨p,hpe⟩:=AJ u1;simp only[tZ,↓uU,simprocAttr,Ax,qd x1,hcd,hpe];rw[hpe,Ax] at u4;refine⟨oM,p,⟨oM,x2.trans u4⟩,oM,?_⟩;exact .oA (U1 4096) []
 ·rw[x2,zM7 oM];exact .oA [] []
theorem zb8 (l:CodL) (c a:Int) (hl:l.codes.length<4611686018427387904):Sp 178 [cdlT l,vI c,vI a] [] (vB (zM2 l c a)) []:=by
 refine sIr qN8 fun e _ hst=>?_;unfold ZE;refine sW ?_;refine C1.im (JO l a hl) rF rF ?_;refine sW ?_;refine C2.im (fun _=>JO l c hl) (fun _=>rfl) rF ?_;refine sW ?_;refine C2.im (fun _=>qj6 l c (lvlC l a) hl) (fun _=>rfl) rF ?_;refine sW ?_;rw[show (decide (0≤lvlC l a)&&decide (lvlC l a≤lvlC l c)&&(upC l c (lvlC l a)==a))=zM2 l c a from rfl];exact .oA [] []
def ZH:List Int→List Int→Bool:=QP fun x y:Int=>x==y
theorem zq4 (a b:List Int) (ha:a.length<4611686018427387904):Sp 111 [vIs a,vIs b] [] (vB (ZH a b)) []:=by
 refine sIr qY9 fun e _ hst=>?_;unfold Jw;simp only[tZ,↓uU,simprocAttr,Bj,Aw];refine⟨fun h=>?_,fun h=>?_⟩
 ·rw[ZH,qs0 oM];exact .oA [] []
 have hl:a.length=b.length:=by omega
 refine qk mixm (α:=Nat) [5] (fun i=>i≤a.length∧(ZH (a.take i) (b.take i)=true)) (fun i=>[(5,vI i)]) (fun i=>[]) (fun i=>a.length-i) 0 ⟨oM,?_⟩ ?_ fun i hi=>?_
 ·rfl
 ·exact .oA [] []
 simp only[tZ,↓uU,simprocAttr,AZ,Ay];refine⟨fun h=>?_,fun h=>?_⟩
 ·have hib:i<b.length:=by omega
  have hi2:i<a.length:=by omega
  have hwi:=qh (i:=i) oM;simp only[tZ,↓uU,simprocAttr,Ax,qd hi2,hwi,qd hib];refine⟨oM,oM,kR,fun h3=>?_,fun h3=>⟨i+1,⟨oM,?_⟩,oM,?_⟩⟩
  ·rw[ZH,Yi (i:=i) hl oM (by simpa using h3)];exact .oA [] []
  ·rw[ZH,Wp hi2 hib,← ZH,hi.2];simpa using h3
  ·exact .oA [] []
 ·have hi2:i=a.length:=by omega
  subst hi2;have h3:=hi.2;rw[Bw,List.take_of_length_le oM] at h3;rw[h3];exact .oA [] []
theorem qB3 (l:List Int) (n:Int) (hl:l.length<4611686018427387904):Sp 141 [vIs l,vI n] [] (vB (l.contains n)) []:=by
 refine sIr zp1 fun e _ hst=>?_;unfold KS;refine sW ?_;refine qk mixm (α:=Nat) [5] (fun i=>i≤l.length∧((l.take i).any (fun x=>x==n)=false)) (fun i=>[(5,vI i)]) (fun i=>[]) (fun i=>l.length-i) 0 ⟨oM,?_⟩ ?_ fun i hi=>?_
 ·rfl
 ·exact .oA [] []
 simp only[tZ,↓uU,simprocAttr,AZ,Ay];refine⟨fun h=>?_,fun h=>?_⟩
 ·have hi2:i<l.length:=by omega
  have hwi:=qh (i:=i) oM;simp only[tZ,↓uU,simprocAttr,Ax,qd hi2,hwi];refine⟨oM,fun h3=>?_,fun h3=>⟨i+1,⟨oM,zG hi2 hi.2 h3⟩,oM,?_⟩⟩
  ·rw[show l.contains n=true from FQ.2 ((AY.1 h3) ▸ AX hi2)];exact .oA [] []
  ·exact .oA [] []
 ·have hi2:i=l.length:=by omega
  subst hi2;have h3:=hi.2;rw[Bw] at h3;have:l.contains n=false:=by
   rw[← h3,Bool.eq_iff_iff,FQ,DJ];exact⟨fun h=>⟨n,h,sMp⟩,fun ⟨x,h,e⟩=>AY.1 e ▸ h⟩
  rw[this];exact .oA [] []
theorem zJ (n lo hi:Int):Sp 126 [vI n,vI lo,vI hi] [] (vB (inB n lo hi)) []:=by
 refine sIr zz8 fun e _ hst=>?_;unfold YL;refine sW ?_;rw[show (decide (lo≤n)&&decide (n≤hi))=inB n lo hi from rfl];exact .oA [] []
theorem zq5 {ws:List Int}:∀ {i:Nat},(∀ j,j<i→wdOk ws j=true)→∀ j,j<i→1≤ws.getD j 0
 | 0,_,j,h=>by omega
 | i+1,hw,j,h=>by
   have ih:=zq5 (ws:=ws) (i:=i) fun j hj=>hw j oM;have:=hw j h;unfold wdOk at this;split at this
   ·rename_i e;subst e;have:ws.getD 0 0=1:=by simpa using this
    omega
   ·simp only[Bq,AZ] at this;have:=ih (j-1) oM;omega
theorem qB4 (c:Col):Sp 153 [colT c] [] (vI (measE c)) []:=by
 refine sIr qq0 fun e _ hst=>?_;unfold yj;refine sW ?_;refine C1.im (zJ c.low (-1000000) 1000000) rF rF ?_;refine sW ?_;refine C2.im (fun _=>zJ c.high (-1000000) 1000000) (fun _=>rfl) rF ?_;simp only[tZ,↓uU,simprocAttr,tD,Bx,Bz];refine⟨fun h=>?_,fun h=>?_⟩
 ·rw[measE,Aj (by grind)];exact .oA [] []
 ·refine⟨fun h2=>?_,fun h2=>?_⟩
  ·rw[measE,Aq (by grind),Aj (by grind)];exact .oA [] []
  ·have hm:measE c=if jy4 c.widths=false then 2 else 0:=by rw[measE,Aq (by grind),Aq (by grind)]
   refine qk mixm (α:=Nat) [3] (fun i=>i≤c.widths.length∧(∀ j,j<i→wdOk c.widths j=true)) (fun i=>[(3,vI i)]) (fun i=>[aR 4096 7 [colT c]]) (fun i=>c.widths.length-i) 0 ⟨oM,?_⟩ ?_ fun i hi=>?_
   ·intro j hj;omega
   ·exact .oA (U1 4096) []
   have hbad:i<c.widths.length→wdOk c.widths i=false→measE c=2:=fun h1 h2=>by
    rw[hm,Aj];exact List.all_eq_false.2 ⟨i,Dk.2 h1,by rw[h2];simp⟩
   have hok:wdOk c.widths i=true→∀ j,j<i+1→wdOk c.widths j=true:=fun h1 j hj=>by
    by_cases e:j=i
    ·rw[e];exact h1
    ·exact hi.2 j oM
   simp only[tZ,↓uU,simprocAttr,AZ,Ay];refine⟨fun h=>?_,fun h=>?_⟩
   ·rcases DQ i with h0 | h0
    ·subst h0;have hw0:wdOk c.widths 0=(c.widths.getD 0 0==1):=by rw[wdOk,Aj rfl]
     have hlen:0<c.widths.length:=by omega
     rw[qg hlen] at hw0;have hz:((0:Nat):Int)=0:=rfl;have hz2:(IntKind.i64.wrap (-1)).toNat=0:=by decide
     have hz3:=qh (i:=0) oM;rw[hz] at hz3;simp only[tZ,↓uU,simprocAttr,Ax,hz,beq_self_eq_true,gt_iff_lt,Int.lt_irrefl,Fq,hz2,qd hlen,hz3];refine⟨oM,fun h3=>?_,fun h3=>?_⟩
     ·rw[hbad hlen (by rw[hw0];simpa using h3)];exact .oA [] []
     ·refine⟨1,⟨oM,hok (by rw[hw0];simpa using h3)⟩,oM,?_⟩;exact .oA (U1 4096) []
    ·obtain⟨k,rfl⟩:∃ k,i=k+1:=⟨i-1,oM⟩;have hk2:k+1<c.widths.length:=by omega
     have hk3:k<c.widths.length:=by omega
     have e1:(((k+1:Nat):Int)==0)=false:=Ak.2 oM;have e2:decide (((k+1:Nat):Int)>0)=true:=Cx oM;have hw1:wdOk c.widths (k+1)=(decide (c.widths[k]<c.widths[k+1])&&decide (c.widths[k+1]≤1000000)&&(c.widths[k+1].tmod c.widths[k]==0)):=by
          rw[wdOk,Aq oM,Nat.add_sub_cancel,qg hk2,qg hk3]
     have hp1:=zq5 (ws:=c.widths) hi.2 k oM;rw[qg hk3] at hp1;have hws:=qh (i:=k+1) oM;have e3:=kM (i:=k+1) oM oM;rw[Nat.add_sub_cancel] at e3;simp only[tZ,↓uU,simprocAttr,Ax,qd hk2,qd hk3,e1,e2,e3,hws];refine⟨oM,oM,fun _=>by omega,fun _=>by omega,fun h3=>?_,fun h3=>?_⟩
     ·rw[hbad hk2 (by rw[hw1];grind)];exact .oA [] []
     ·refine⟨k+2,⟨oM,hok (by rw[hw1];grind)⟩,oM,?_⟩;exact .oA (U1 4096) []
   ·have hi2:i=c.widths.length:=by omega
    subst hi2;rw[hm,Aq]
    ·exact .oA [] []
    ·rw[Ez];exact Bk.2 fun j hj=>hi.2 j (Dk.1 hj)
theorem qO0 (s:Sch) (i:Nat) (hi:i<s.cols.length) (hn:s.cols.length<4611686018427387904) (hl:s.lists.length<4611686018427387904):Sp 97 [schT s,vI i] [] (vI (colE s i)) []:=by
 have hat:qj s i=s.cols[i]:=by rw[qj,qg hi]
 have hE:colE s i=if js s.cols[i].name=false then 3
  else if ((s.cols.take i).any fun x=>eqB x.name s.cols[i].name)=true then 10
  else if inB s.cols[i].kind 1 3=false∨(0<i∧s.cols[i].kind=1) then 4
  else if s.cols[i].kind=2∧inB s.cols[i].list 0 (s.lists.length-1)=false then 5
  else if s.cols[i].kind=3∧measE s.cols[i]≠0 then measE s.cols[i]
  else if (s.cols[i].kind≠2∧s.cols[i].list≠0)∨(s.cols[i].kind≠3∧(s.cols[i].low≠0∨s.cols[i].high≠0∨0<s.cols[i].widths.length∨s.cols[i].opt=true)) then 11 else 0:=by rw[colE,hat]
 rw[hE];refine sIr qz4 fun e _ hst=>?_;unfold Qe;simp only[tZ,↓uU,simprocAttr,Ax,qd hi];generalize s.cols[i]=c;refine⟨oM,?_⟩;refine C1.im (jJ c.name) rF rF ?_;simp only[tZ,↓uU,simprocAttr,Bx,Bz];refine⟨fun h=>?_,fun h=>?_⟩
 ·rw[Aj h];exact .oA [] []
 rw[Aq (by rw[h];simp)];refine qk mixm (α:=Nat) [6] (fun k=>k≤i∧(s.cols.take k).any (fun x=>eqB x.name c.name)=false) (fun k=>[(6,vI k)]) (fun k=>[aR 4096 2 [schT s],aR 8212 7 [colT c]]) (fun k=>i-k) 0 ⟨oM,rfl⟩ ?_ fun k hk=>?_
 ·exact .oA (U2 4096 8212) []
 simp only[tZ,↓uU,simprocAttr,AZ,Ay];refine⟨fun h=>?_,fun h=>?_⟩
 ·have hk2:k<s.cols.length:=by omega
  have hwk:=qh (i:=k) oM;simp only[tZ,↓uU,simprocAttr,Ax,qd hk2,hwk];refine⟨oM,kR,fun h7=>?_,fun h7=>?_⟩
  ·rw[Aj (DJ.2 ⟨s.cols[k],List.mem_take_iff_getElem.2 ⟨k,oM,rfl⟩,h7⟩)];exact .oA [] []
  ·refine⟨k+1,⟨oM,zG hk2 hk.2 h7⟩,oM,?_⟩;exact .oA (U2 4096 8212) []
 ·have hki:k=i:=by omega
  subst hki;rw[Aq (by rw[hk.2];simp)];refine C1.im (zJ c.kind 1 3) rF rF ?_;simp only[tZ,↓uU,simprocAttr,tD,Bx,Bz,AY,Ak];refine⟨fun h7=>?_,fun h7=>?_⟩
  ·rw[Aj (by grind)];exact .oA [] []
  rw[Aq (by grind)];have hw:IntKind.i64.wrap ((s.lists.length:Int)-1)=(s.lists.length:Int)-1:=AK _ oM;simp only[tZ,↓uU,simprocAttr,hw];refine C2.im (fun _=>zJ c.list 0 ((s.lists.length:Int)-1)) (fun _=>rfl) rF ?_;simp only[tZ,↓uU,simprocAttr,tD,Bx,Bz,AY,Ak];refine⟨fun h8=>?_,fun h8=>?_⟩
  ·rw[Aj (by grind)];exact .oA [] []
  rw[Aq (by grind)];have hend:∀ v:Int,(if c.kind=3∧¬measE c=0 then measE c else if ¬c.kind=2∧¬c.list=0∨¬c.kind=3∧(¬c.low=0∨¬c.high=0∨0<c.widths.length∨c.opt=true) then 11 else 0)=v→wW [] (T.v (Value.int IntKind.i64 v)) [(4096,Ob.arr 2 [schT s] false),(8212,Ob.arr 7 [colT c] false)] (vI (if c.kind=3∧¬measE c=0 then measE c else if ¬c.kind=2∧¬c.list=0∨¬c.kind=3∧(¬c.low=0∨¬c.high=0∨0<c.widths.length∨c.opt=true) then 11 else 0)) []:=fun v hv=>by
   rw[hv];exact .oA [] []
  refine⟨fun h9=>?_,fun h9=>?_⟩
  ·refine C1.im (qB4 c) rF rF ?_;simp only[tZ,↓uU,simprocAttr,Bj,Aw];refine⟨fun h10=>hend _ (by rw[Aj ⟨h9,h10⟩]),fun h10=>?_⟩;simp only[tZ,↓uU,simprocAttr,tD,Bj,Aw];exact⟨fun h11=>hend _ (by rw[Aq (by grind),Aj (by grind)]),fun h11=>hend _ (by rw[Aq (by grind),Aq (by grind)])⟩
  ·simp only[tZ,↓uU,simprocAttr,tD,Bj,Aw];exact⟨fun h11=>hend _ (by rw[Aq (by grind),Aj (by grind)]),fun h11=>hend _ (by rw[Aq (by grind),Aq (by grind)])⟩
theorem qB5 {s:Sch} {i:Nat} (h:kG s i≠0):∀ n,i≤n→kG s n=kG s i:=by
 intro n hn
 induction n with
 | zero=>have:i=0:=by omega
         rw[this]
 | succ n ih=>
   by_cases e:i=n+1
   ·rw[e]
   ·have:=ih oM;rw[kG,this,Aj h]
theorem qB6 {s:Sch} {i:Nat} (h:ZX s i≠0):∀ n,i≤n→ZX s n=ZX s i:=by
 intro n hn
 induction n with
 | zero=>have:i=0:=by omega
         rw[this]
 | succ n ih=>
   by_cases e:i=n+1
   ·rw[e]
   ·have:=ih oM;rw[ZX,this,Aj h]
def jO (s:Sch):Prop:=s.lists.length<4611686018427387904∧s.cols.length<4611686018427387904∧∀ l∈s.lists,l.codes.length<4611686018427387904
theorem zt (s:Sch) (hs:jO s):Sp 47 [schT s] [] (vI (schE s)) []:=by
 obtain⟨hs1,hs2,hs3⟩:=hs;refine sIr qH5 fun e _ hst=>?_;unfold QX;refine sD ?_;refine⟨fun h=>?_,fun h=>?_⟩
 ·rw[schE,Aj oM];exact .oA [] []
 have hE1:kG s s.lists.length≠0→schE s=kG s s.lists.length:=fun k=>by rw[schE,Aq oM,Aj k]
 refine qk mixm (α:=Nat) [3,17] (fun i=>i≤s.lists.length∧kG s i=0) (fun i=>[(3,vI i)]) (fun i=>[aR 4096 2 [schT s]]) (fun i=>s.lists.length-i) 0 ⟨oM,rfl⟩ ?_ fun i hi=>?_
 ·exact .oA (U1 4096) []
 obtain⟨i1,i2⟩:=hi;refine sD ?_;refine⟨fun h2=>?_,fun h2=>?_⟩
 ·have hi2:i<s.lists.length:=by omega
  have hwi:=qh (i:=i) oM;have hat:s.lists.getD i default=s.lists[i]:=qg hi2;have hstep:kG s (i+1)=if lstE s.lists[i]≠0 then lstE s.lists[i] else if ((s.lists.take i).any fun x=>eqB x.name s.lists[i].name)=true then 10 else 0:=by
   rw[kG,Aq (by rw[i2];simp),hat]
  have hbad:kG s (i+1)≠0→schE s=kG s (i+1):=fun k=>by
   have:=qB5 k s.lists.length oM;rw[hE1 (by rw[this];exact k),this]
  simp only[tZ,↓uU,simprocAttr,Ax,qd hi2,hwi];refine⟨oM,?_⟩;refine C1.im (wa s.lists[i] (hs3 _ (AX hi2))) rF rF ?_;simp only[tZ,↓uU,simprocAttr,Bj,Aw];refine⟨fun h3=>?_,fun h3=>?_⟩
  ·rw[Aj h3] at hstep;rw[hbad (by rw[hstep];exact h3),hstep];exact .oA [] []
  rw[Aq (by rw[h3];simp)] at hstep;refine qk mixm (α:=Nat) [5] (fun k=>k≤i∧(s.lists.take k).any (fun x=>eqB x.name s.lists[i].name)=false) (fun k=>[(5,vI k)]) (fun k=>[aR 4096 2 [schT s]]) (fun k=>i-k) 0 ⟨oM,rfl⟩ ?_ fun k hk=>?_
  ·exact .oA (U1 4096) []
  simp only[tZ,↓uU,simprocAttr,AZ,Ay];refine⟨fun h=>?_,fun h=>?_⟩
  ·have hk2:k<s.lists.length:=by omega
   have hwk:=qh (i:=k) oM;simp only[tZ,↓uU,simprocAttr,Ax,qd hk2,qd hi2,hwk];refine⟨oM,oM,kR,fun h7=>?_,fun h7=>?_⟩
   ·rw[Aj (DJ.2 ⟨s.lists[k],List.mem_take_iff_getElem.2 ⟨k,oM,rfl⟩,h7⟩)] at hstep;rw[hbad (by rw[hstep];simp),hstep];exact .oA [] []
   ·refine⟨k+1,⟨oM,zG hk2 hk.2 h7⟩,oM,?_⟩;exact .oA (U1 4096) []
  ·have hki:k=i:=by omega
   subst hki;rw[Aq (by rw[hk.2];simp)] at hstep;simp only[tZ,↓uU,simprocAttr,hwi];refine⟨k+1,⟨oM,hstep⟩,oM,?_⟩;exact .oA (U1 4096) []
 ·have hil:i=s.lists.length:=by omega
  subst hil;have hE2:s.cols.length=0∨(qj s 0).kind≠1→schE s=7:=fun k=>by rw[schE,Aq oM,Aq (by rw[i2];simp),Aj k]
  have hE3:¬ (s.cols.length=0∨(qj s 0).kind≠1)→schE s=ZX s s.cols.length:=fun k=>by rw[schE,Aq oM,Aq (by rw[i2];simp),Aq k]
  have hz:((0:Nat):Int)=0:=rfl;by_cases h0:s.cols.length=0
  ·have hn:s.cols=[]:=Dy.1 h0;rw[hE2 (.inl h0)];simp only[tZ,↓uU,simprocAttr,hn,Cw,hz,beq_self_eq_true];exact .oA [] []
  ·have h0p:0<s.cols.length:=by omega
   have e0:((s.cols.length:Int)==0)=false:=Ak.2 oM;have hc0:qj s 0=s.cols[0]:=by rw[qj,qg h0p]
   simp only[tZ,↓uU,simprocAttr,e0,qd h0p,Bj,Aw,Bool.false_or];refine⟨oM,fun h3=>?_,fun h3=>?_⟩
   ·rw[hE2 (.inr (by rw[hc0];exact h3))];exact .oA [] []
   have hE4:=hE3 (by rw[hc0];grind);refine qk mixm (α:=Nat) [6,63] (fun i=>i≤s.cols.length∧ZX s i=0) (fun i=>[(6,vI i)]) (fun i=>[aR 4096 2 [schT s]]) (fun i=>s.cols.length-i) 0 ⟨oM,rfl⟩ ?_ fun i hi=>?_
   ·exact .oA (U1 4096) []
   simp only[tZ,↓uU,simprocAttr,AZ,Ay];refine⟨fun h=>?_,fun h=>?_⟩
   ·have hi2:i<s.cols.length:=by omega
    have hwi:=qh (i:=i) oM;have hstep:ZX s (i+1)=colE s i:=by rw[ZX,Aq (by rw[hi.2];simp)]
    refine C1.im (qO0 s i hi2 hs2 hs1) rF rF ?_;simp only[tZ,↓uU,simprocAttr,Bj,Aw,hwi];refine⟨fun h4=>?_,fun h4=>?_⟩
    ·have:=qB6 (s:=s) (i:=i+1) (by rw[hstep];exact h4) s.cols.length oM;rw[hE4,this,hstep];exact .oA [] []
    ·refine⟨i+1,⟨oM,by rw[hstep];exact h4⟩,oM,?_⟩;exact .oA (U1 4096) []
   ·have hi2:i=s.cols.length:=by omega
    subst hi2;rw[hE4,hi.2];exact .oA [] []
theorem SchOk.sm {s:Sch} (h:SchOk s):jO s:=by
 have h1:=h.nl;have h2:=h.nc;refine⟨oM,oM,fun l hl=>?_⟩;obtain⟨i,hi,rfl⟩:=CX hl;have h3:=h.ls i hi;rw[qg hi] at h3;have:=(ze h3).2.2;omega
theorem YR {l:CodL} : -1≤zC l∧zC l≤60:=by
 unfold zC;split
 ·omega
 ·rename_i h;obtain⟨hp,h1,h2⟩:=ze (AQ h);have:=qS9 hp (l.codes.length-1) oM;omega
theorem qe4 (s:Sch) (h:SchOk s) (i:Nat) (hi:i<s.cols.length) (v:Int):Sp 127 [schT s,vI i,vI v] [] (vB (zn s i v)) []:=by
 have hat:qj s i=s.cols[i]:=by rw[qj,qg hi]
 have hk:=zi (h.cs i hi);have hcd:=fun e=>h.cdl hi e;have hE:zn s i v=if s.cols[i].kind=1 then inB v 1 1048575
  else if s.cols[i].kind=2 then inB v 0 ((qQ s i).codes.length-1)&&(lvlC (qQ s i) v==zC (qQ s i)-1)
  else (s.cols[i].opt&&(v==zj))||inB v s.cols[i].low s.cols[i].high:=by rw[zn,hat]
 have hcl:qQ s i=s.lists.getD s.cols[i].list.toNat default:=by rw[qQ,hat]
 rw[hat] at hk hcd;rw[hE];rw[hcl] at hcd ⊢
 refine sIr qL2 fun e _ hst=>?_;unfold Zr;simp only[tZ,↓uU,simprocAttr,Ax,qd hi];generalize s.cols[i]=c at hk hcd ⊢
 simp only[tZ,↓uU,simprocAttr,AY,Ak];refine⟨oM,fun h1=>?_,fun h1=>⟨fun h2=>?_,fun h2=>?_⟩⟩
 ·rw[Aj h1];refine C1.im (zJ v 1 1048575) rF rF ?_;refine sW ?_;exact .oA [] []
 ·obtain⟨d1,d2⟩:=hcd h2;obtain⟨d3,d4⟩:=hk.2.2.2.1 h2;have hgl:s.lists.getD c.list.toNat default=s.lists[c.list.toNat]:=qg d1;rw[Aq h1,Aj h2];rw[hgl] at d2 ⊢
  obtain⟨_,d5,d6⟩:=ze d2;simp only[tZ,↓uU,simprocAttr,qd d1];generalize s.lists[c.list.toNat]=l at d2 d5 d6 ⊢
  have hw:IntKind.i64.wrap ((l.codes.length:Int)-1)=(l.codes.length:Int)-1:=AK _ oM;have hlv:=YR (l:=l);have hw2:IntKind.i64.wrap (zC l-1)=zC l-1:=AK _ oM;simp only[tZ,↓uU,simprocAttr,hw];refine⟨oM,?_⟩;refine C1.im (zJ v 0 _) rF rF ?_;refine sW ?_;refine C2.im (fun _=>JO l v oM) (fun _=>rfl) rF ?_;refine sW ?_;refine C2.im (fun _=>jY l oM) (fun _=>rfl) rF ?_;simp only[tZ,↓uU,simprocAttr,hw2];refine⟨kR,?_⟩;exact .oA [] []
 ·rw[Aq h1,Aq h2];refine C2.im (fun _=>zJ v c.low c.high) (fun _=>rfl) rF ?_;refine sW ?_;rw[show (c.opt&&v == -1099511627776)=(c.opt&&(v==zj)) from rfl];exact .oA [] []
theorem jy7 {s:Sch} {row:List Int} {i:Nat} (h1:schE s=0) (h2:row.length=s.cols.length) (hi:i<row.length) (h:zn s i row[i]=false):rowE s row=9:=by
 rw[rowE,Aq (by rw[h1];simp),Aq oM,Aj];exact List.all_eq_false.2 ⟨i,Dk.2 hi,by rw[qg hi,h];simp⟩
theorem qB7 (s:Sch) (hs:jO s) (row:List Int) (hr:row.length<4611686018427387904):Sp 119 [schT s,vIs row] [] (vI (rowE s row)) []:=by
 refine sIr zo7 fun e _ hst=>?_;unfold KQ;refine sW ?_;refine C1.im (zt s hs) rF rF ?_;simp only[tZ,↓uU,simprocAttr,Bj,Aw];refine⟨fun h=>?_,fun h=>⟨fun h2=>?_,fun h2=>?_⟩⟩
 ·rw[rowE,Aj h];exact .oA [] []
 ·rw[rowE,Aq (by rw[h];simp),Aj oM];exact .oA [] []
 have hok:=qU h;have h0:=h;refine qk mixm (α:=Nat) [6] (fun i=>i≤row.length∧(∀ j,j<i→zn s j (row.getD j 0)=true)) (fun i=>[(6,vI i)]) (fun i=>[aR 4096 2 [schT s]]) (fun i=>row.length-i) 0 ⟨oM,?_⟩ ?_ fun i hi=>?_
 ·intro j hj;omega
 ·exact .oA (U1 4096) []
 simp only[tZ,↓uU,simprocAttr,AZ,Ay];refine⟨fun h=>?_,fun h=>?_⟩
 ·have hi2:i<row.length:=by omega
  have hwi:=qh (i:=i) oM;simp only[tZ,↓uU,simprocAttr,Ax,qd hi2,hwi];refine⟨oM,?_⟩;refine C1.im (qe4 s hok i oM row[i]) rF rF ?_;simp only[tZ,↓uU,simprocAttr,Bx,Bz];refine⟨kR,fun h3=>?_,fun h3=>?_⟩
  ·rw[jy7 h0 oM hi2 h3];exact .oA [] []
  ·refine⟨i+1,⟨oM,fun j hj=>?_⟩,oM,?_⟩
   ·by_cases e:j=i
    ·rw[e,qg hi2];exact h3
    ·exact hi.2 j oM
   ·exact .oA (U1 4096) []
 ·have hi2:i=row.length:=by omega
  subst hi2;rw[jm3 h0 oM hi.2];exact .oA [] []
theorem zQ (s:Sch) (hs:jO s) (c:Int):Sp 34 [schT s,vI c] [] (vI (finI s c)) []:=by
 have hs2:=hs.2.1;refine sIr qx4 fun e _ hst=>?_;unfold yT;refine sW ?_;refine C1.im (zt s hs) rF rF ?_;simp only[tZ,↓uU,simprocAttr,tD,Bj,Aw];refine⟨fun h=>?_,fun h=>?_⟩
 ·rw[finI,Aj oM];exact .oA [] []
 have hok:=qU h.1.1;obtain⟨i,rfl⟩:=AJ (show 0≤c by omega);have hi:i<s.cols.length:=by omega
 have hat:qj s i=s.cols[i]:=by rw[qj,qg hi]
 have hk:=zi (hok.cs i hi);have hcd:=fun e=>hok.cdl hi e;have hcl:qQ s i=s.lists.getD s.cols[i].list.toNat default:=by rw[qQ,hat]
 rw[hat] at hk hcd;rw[hcl] at hcd;rw[finI,Aq oM,Ax,hcl,hat];simp only[tZ,↓uU,simprocAttr,Ax,qd hi];generalize s.cols[i]=x at hk hcd ⊢
 simp only[tZ,↓uU,simprocAttr,AY,Ak];refine⟨oM,fun h2=>?_,fun h2=>?_⟩
 ·obtain⟨d1,d2⟩:=hcd h2;obtain⟨d3,d4⟩:=hk.2.2.2.1 h2;have hgl:s.lists.getD x.list.toNat default=s.lists[x.list.toNat]:=qg d1;rw[Aj h2];rw[hgl] at d2 ⊢
  obtain⟨_,d5,d6⟩:=ze d2;simp only[tZ,↓uU,simprocAttr,qd d1];generalize s.lists[x.list.toNat]=l at d2 d5 d6 ⊢
  have hlv:=YR (l:=l);have hw2:IntKind.i64.wrap (zC l-1)=zC l-1:=AK _ oM;refine⟨oM,?_⟩;refine C1.im (jY l oM) rF rF ?_;simp only[tZ,↓uU,simprocAttr,hw2];exact .oA [] []
 ·rw[Aq h2];exact .oA [] []
theorem zM8 {a b:Int} (hb:0<b):zc a b=if a.tmod b<0 then a.tdiv b-1 else a.tdiv b:=by
 have h1:=Int.mul_tdiv_add_tmod a b;have h2:=Int.tmod_lt_of_pos a hb;have h3:=Int.lt_tmod_of_pos a hb;unfold zc;rw[DW _ oM];split
 ·refine ((Int.ediv_emod_unique (r:=a.tmod b+b) hb).2 ⟨?_,oM,oM⟩).1;rw[Int.mul_sub];omega
 ·refine ((Int.ediv_emod_unique (r:=a.tmod b) hb).2 ⟨oM,oM,oM⟩).1
theorem qe5 (a b:Int) (hb:0<b) (ha : -4611686018427387904<a∧a<4611686018427387904):Sp 129 [vI a,vI b] [] (vI (zc a b)) []:=by
 rw[zM8 hb];have hq:=Int.natAbs_tdiv_le_natAbs a b;have hw:IntKind.i64.wrap (a.tdiv b)=a.tdiv b:=AK _ oM;have hw2:IntKind.i64.wrap (a.tdiv b-1)=a.tdiv b-1:=AK _ oM;refine sIr qL6 fun e _ hst=>?_;unfold Zt;simp only[tZ,↓uU,simprocAttr,hw,hw2,tD];refine⟨oM,oM,fun h=>?_,fun h=>?_⟩
 ·rw[Aj h];exact .oA [] []
 ·rw[Aq h];exact .oA [] []
theorem wb (c:Col) (lev:Int) (h1:1≤lev∧lev≤c.widths.length) (h2:c.widths.length<4611686018427387904):Sp 128 [colT c,vI lev] [] (vI (qO c lev)) []:=by
 have hw:IntKind.i64.wrap ((c.widths.length:Int)-lev)=(c.widths.length:Int)-lev:=AK _ oM;have hk:((c.widths.length:Int)-lev).toNat<c.widths.length:=by omega
 refine sIr qL4 fun e _ hst=>?_;unfold Zs;simp only[tZ,↓uU,simprocAttr,hw,qd hk];rw[qO,qg hk];refine⟨oM,?_⟩;exact .oA [] []
namespace Cnd
mutual
theorem ind' {p:Cnd→Prop} (h:∀ c,(∀ k∈c.kids,p k)→p c):∀ c,p c
 | .mk _ _ _ _ _ ks=>h _ (inds h ks)
theorem inds {p:Cnd→Prop} (h:∀ c,(∀ k∈c.kids,p k)→p c):∀ ks:List Cnd,∀ k∈ks,p k
 | [],_,hk=>absurd hk sMp
 | x::r,k,hk=>by
   rcases Ck.1 hk with e | hk
   ·rw[e];exact ind' h x
   ·exact inds h r k hk
end
end Cnd
mutual
def cntC:Cnd→Int→Int
 | .mk _ _ _ _ _ ks,m=>kA ks m 1
def kA:List Cnd→Int→Int→Int
 | [],_,n=>n
 | k::r,m,n=>if n<m then kA r m (n+cntC k (m-n)) else n
end
theorem YS (c:Cnd) (m:Int):cntC c m=kA c.kids m 1:=by cases c;rw[cntC];rfl
mutual
def depC:Cnd→Nat
 | .mk _ _ _ _ _ ks=>kB ks+1
def kB:List Cnd→Nat
 | []=>0
 | k::r=>max (depC k) (kB r)
end
theorem qB8 (c:Cnd):depC c=kB c.kids+1:=by cases c;rw[depC];rfl
def isB (s:Sch) (col kind:Int):Bool:=decide (0≤col)&&decide (col<s.cols.length)&&((qj s col.toNat).kind==kind)
def arC (op:Int):Nat:=if op=5∨op=6 then 2 else if op=7 then 1 else 0
def ndE (s:Sch) (c:Cnd):Int:=
 if c.op<1∨7<c.op then 4
 else if c.kids.length≠arC c.op∨(c.op≠2∧c.op≠3∧c.op≠4∧c.col≠0)∨(c.op≠2∧c.code≠0)∨(c.op≠3∧(c.lo≠0∨c.hi≠0)) then 11
 else if (c.op=2∧isB s c.col 2=false)∨(c.op=3∧isB s c.col 3=false)∨(c.op=4∧(isB s c.col 3=false∨(qj s c.col.toNat).opt=false)) then 7
 else if c.op=2∧(c.code<0∨c.code≥(qQ s c.col.toNat).codes.length) then 6
 else if c.op=3∧(c.lo < -1000000∨c.hi>1000000∨c.lo>c.hi) then 2 else 0
mutual
def nodE (s:Sch):Cnd→Int
 | .mk op col code lo hi ks=>if ndE s (.mk op col code lo hi ks)≠0 then ndE s (.mk op col code lo hi ks) else wz s ks
def wz (s:Sch):List Cnd→Int
 | []=>0
 | k::r=>if nodE s k≠0 then nodE s k else wz s r
end
theorem zA7 (s:Sch) (c:Cnd):nodE s c=if ndE s c≠0 then ndE s c else wz s c.kids:=by cases c;rw[nodE];rfl
def chkC (s:Sch) (c:Cnd):Int:=if schE s≠0 then schE s else if cntC c 41>40 then 1 else if depC c>10 then 22 else nodE s c
theorem zq6 {s:Sch}:∀ {l:List Cnd},wz s l=0→∀ k∈l,nodE s k=0
 | [],_,k,hk=>absurd hk sMp
 | x::r,h,k,hk=>by
   rw[wz] at h;split at h
   ·rename_i h1;exact absurd h h1
   ·rename_i h1;rcases Ck.1 hk with e | hk
    ·rw[e];exact AQ h1
    ·exact zq6 h k hk
theorem zA8 {s:Sch} {c:Cnd} (h:nodE s c=0):ndE s c=0∧∀ k∈c.kids,nodE s k=0:=by
 rw[zA7] at h;split at h
 ·rename_i h1;exact absurd h h1
 ·rename_i h1;exact⟨AQ h1,zq6 h⟩
theorem zz {s:Sch} {col kind:Int}:isB s col kind=true↔0≤col∧col<s.cols.length∧(qj s col.toNat).kind=kind:=by
 unfold isB;simp only[Bq,AZ,AY,and_assoc]
structure NdOk (s:Sch) (c:Cnd):Prop where
 op:1≤c.op∧c.op≤7
 nk:c.kids.length=arC c.op
 under:c.op=2→isB s c.col 2=true∧0≤c.code∧c.code<(qQ s c.col.toNat).codes.length
 between:c.op=3→isB s c.col 3=true∧-1000000≤c.lo∧c.hi≤1000000∧c.lo≤c.hi
 miss:c.op=4→isB s c.col 3=true∧(qj s c.col.toNat).opt=true
theorem jm5 {s:Sch} {c:Cnd} (h:ndE s c=0):NdOk s c:=by
 unfold ndE at h;split at h
 ·cases h
 rename_i h1;split at h
 ·cases h
 rename_i h2;split at h
 ·cases h
 rename_i h3;split at h
 ·cases h
 rename_i h4;split at h
 ·cases h
 rename_i h5;refine⟨oM,AQ fun e=>h2 (.inl e),fun e=>⟨?_,oM,oM⟩,fun e=>⟨?_,oM,oM,oM⟩,fun e=>⟨?_,?_⟩⟩
 ·cases e2:isB s c.col 2 with
  | true=>rfl
  | false=>exact absurd (.inl ⟨e,e2⟩) h3
 ·cases e2:isB s c.col 3 with
  | true=>rfl
  | false=>exact absurd (.inr (.inl ⟨e,e2⟩)) h3
 ·cases e2:isB s c.col 3 with
  | true=>rfl
  | false=>exact absurd (.inr (.inr ⟨e,.inl e2⟩)) h3
 ·cases e2:(qj s c.col.toNat).opt with
  | true=>rfl
  | false=>exact absurd (.inr (.inr ⟨e,.inr e2⟩)) h3
def isAt (c:Cnd):Bool:=(c.op==2)||(c.op==3)||(c.op==4)
def tf (b:Bool):Int:=if b then 1 else -1
def Qq (s:Sch) (c:Cnd) (v:Int):Int:=
 if c.op=2 then tf (zM2 (qQ s c.col.toNat) v c.code)
 else if c.op=3 then (if v=zj then 0 else tf (decide (c.lo≤v)&&decide (v≤c.hi)))
 else if c.op=4 then tf (v==zj) else -1
def qO1 (op:Int) (ks:List Int):Int:=if op=7 then-ks.getD 0 0 else if op=5 then min (ks.getD 0 0) (ks.getD 1 0) else if op=6 then max (ks.getD 0 0) (ks.getD 1 0) else 1
mutual
def evC (s:Sch) (row:List Int):Cnd→Int
 | .mk op col code lo hi ks=>if isAt (.mk op col code lo hi ks)=true then Qq s (.mk op col code lo hi ks) (row.getD col.toNat 0) else qO1 op (evCs s row ks)
def evCs (s:Sch) (row:List Int):List Cnd→List Int
 | []=>[]
 | k::r=>evC s row k::evCs s row r
end
theorem zM9 (s:Sch) (row:List Int):∀ l,evCs s row l=l.map (evC s row)
 | []=>by simp [evCs]
 | k::r=>by simp [evCs,zM9 s row r]
theorem jm6 (s:Sch) (row:List Int) (c:Cnd):evC s row c=if isAt c=true then Qq s c (row.getD c.col.toNat 0) else qO1 c.op (c.kids.map (evC s row)):=by
 cases c;rw[evC,zM9];rfl
def zb9 (s:Sch) (c:Cnd) (row:List Int):Int:=if chkC s c≠0∨rowE s row≠0 then 0 else evC s row c
mutual
def atsC:Cnd→List Cnd
 | .mk op col code lo hi ks=>if isAt (.mk op col code lo hi ks)=true then [.mk op col code lo hi ks] else QC ks
def QC:List Cnd→List Cnd
 | []=>[]
 | k::r=>atsC k++QC r
end
theorem qj7 (c:Cnd):atsC c=if isAt c=true then [c] else QC c.kids:=by cases c;rw[atsC];rfl
theorem qj8:∀ (l:List Cnd) (k:Cnd),QC (l++[k])=QC l++atsC k
 | [],k=>by simp [QC]
 | x::r,k=>by simp [QC,qj8 r k]
theorem zN0 {s:Sch}:∀ c,nodE s c=0→∀ a∈atsC c,NdOk s a∧isAt a=true:=by
 refine Cnd.ind' fun c ih h a ha=>?_;obtain⟨h1,h2⟩:=zA8 h;rw[qj7] at ha;split at ha
 ·rename_i h3;rw[Ey] at ha;rw[ha];exact⟨jm5 h1,h3⟩
 ·have key:∀ l:List Cnd,(∀ k∈l,k∈c.kids)→a∈QC l→NdOk s a∧isAt a=true:=by
   intro l
   induction l with
   | nil=>intro _ h;simp [QC] at h
   | cons k r ihl=>
     intro hk h;rw[QC,Dz] at h;rcases h with h | h
     ·exact ih k (hk k sMp) (h2 k (hk k sMp)) a h
     ·exact ihl (fun x hx=>hk x (CQ _ hx)) h
  exact key c.kids (fun k hk=>hk) ha
def qj9 (n:Nat) (p:Nat→Nat→Bool):Bool:=(List.range n).all fun i=>(List.range i).all fun k=>p i k
theorem qe6 {p:Nat→Bool} {n:Nat}:(List.range (n+1)).all p=((List.range n).all p&&p n):=by rw[List.range_succ,FK];simp
theorem zN1 {p:Nat→Bool} {n i:Nat} (h:i<n) (hp:p i=false):(List.range n).all p=false:=List.all_eq_false.2 ⟨i,Dk.2 h,by rw[hp];simp⟩
theorem qT1 {p:Nat→Nat→Bool} {n:Nat}:qj9 (n+1) p=(qj9 n p&&(List.range n).all (p n)):=qe6
theorem zN2 {p:Nat→Nat→Bool} {n i k:Nat} (h:i<n) (hk:k<i) (hp:p i k=false):qj9 n p=false:=zN1 h (zN1 hk hp)
def decP (s:Sch) (c:Cnd) (lev:Nat) (i k:Nat):Bool:=
 !((qw s c.col lev ((qJ s c.col.toNat).getD i 0)==qw s c.col lev ((qJ s c.col.toNat).getD k 0))&&!(Qq s c ((qJ s c.col.toNat).getD i 0)==Qq s c ((qJ s c.col.toNat).getD k 0)))
def decB (s:Sch) (c:Cnd) (lev:Nat):Bool:=
 if c.op=2 then qj9 (qJ s c.col.toNat).length (decP s c lev)
 else if c.op=4 then decide (0<lev)
 else
  let x:=qj s c.col.toNat
  let first:=decide (x.low<c.lo)&&decide (c.lo≤x.high)
  let behind:=decide (x.low≤c.hi)&&decide (c.hi<x.high)
  if lev=0 then !x.opt&&!first&&!behind
  else (!first||(c.lo.tmod (qO x lev)==0))&&(!behind||((c.hi+1).tmod (qO x lev)==0))
def Kc (p:Nat→Bool):Nat→Nat→Nat
 | 0,n=>n
 | f+1,n=>if p n=true then n else Kc p f (n+1)
theorem YT {p:Nat→Bool} {N:Nat} (h:p N=true):∀ (f n:Nat),n≤N→N-n≤f→p (Kc p f n)=true∧Kc p f n≤N∧n≤Kc p f n∧∀ m,n≤m→m<Kc p f n→p m=false
 | 0,n,h1,h2=>by
   have:n=N:=by omega
   subst this;exact⟨h,BZ _,BZ _,fun m h3 h4=>by rw[Kc] at h4;omega⟩
 | f+1,n,h1,h2=>by
   rw[Kc];split
   ·rename_i hp;exact⟨hp,h1,BZ _,fun m h3 h4=>by omega⟩
   ·rename_i hp;have hn:n≠N:=fun e=>hp (e ▸ h);obtain⟨a,b,c,d⟩:=YT h f (n+1) oM oM;refine⟨a,b,oM,fun m h3 h4=>?_⟩;by_cases e:m=n
    ·rw[e];simpa using hp
    ·exact d m oM h4
def decN (s:Sch) (c:Cnd):Nat:=Kc (decB s c) 64 0
def Kl (col lev:Int):List Pk×Bool→Pk→List Pk×Bool:=fun x p=>
 let y:=if p.col>col∧x.2=false then (x.1++[⟨col,lev⟩],true) else x
 if p.col=col then (y.1++[⟨p.col,max p.lev lev⟩],true) else (y.1++[p],y.2)
def jA (l:List Pk) (col lev:Int):List Pk:=
 let x:=l.foldl (Kl col lev) ([],decide (lev≤0))
 if x.2 then x.1 else x.1++[⟨col,lev⟩]
def zD (s:Sch) (c:Cnd):List Pk:=if chkC s c≠0 then [] else (atsC c).foldl (fun l a=>jA l a.col (decN s a)) []
def covB (a b:List Pk):Bool:=a.all fun x=>b.any fun y=>(y.col==x.col)&&decide (y.lev≥x.lev)
mutual
def qk0:Cnd→Cnd→Bool
 | .mk a1 a2 a3 a4 a5 ks,.mk b1 b2 b3 b4 b5 ls=>(a1==b1)&&(a2==b2)&&(a3==b3)&&(a4==b4)&&(a5==b5)&&wg ks ls
def wg:List Cnd→List Cnd→Bool
 | [],[]=>true
 | k::r,l::t=>qk0 k l&&wg r t
 | [],_::_=>false
 | _::_,[]=>false
end
theorem jy8 (a b:Cnd):qk0 a b=((a.op==b.op)&&(a.col==b.col)&&(a.code==b.code)&&(a.lo==b.lo)&&(a.hi==b.hi)&&wg a.kids b.kids):=by cases a;cases b;rw[qk0];rfl
theorem qB9:∀ c,∀ m,1≤m→1≤cntC c m∧cntC c m≤m:=by
 refine Cnd.ind' fun c ih m hm=>?_;rw[YS];have key:∀ l:List Cnd,(∀ k∈l,k∈c.kids)→∀ n,1≤n→n≤m→1≤kA l m n∧kA l m n≤m:=by
  intro l
  induction l with
  | nil=>intro _ n h1 h2;rw[kA];exact⟨h1,h2⟩
  | cons k r ihl=>
    intro hk n h1 h2;rw[kA];split
    ·have:=ih k (hk k sMp) (m-n) oM;exact ihl (fun x hx=>hk x (CQ _ hx)) _ oM oM
    ·exact⟨h1,h2⟩
 exact key c.kids (fun k hk=>hk) 1 oM hm
theorem zc0:∀ (l:List Cnd) (m n:Int),n≤m→n≤kA l m n
 | [],m,n,_=>by rw[kA];omega
 | k::r,m,n,h=>by
   rw[kA];split
   ·have:=qB9 k (m-n) oM;have:=zc0 r m (n+cntC k (m-n)) oM;omega
   ·omega
theorem jN8:∀ c,∀ m,1≤m→cntC c m<m→(depC c:Int)≤cntC c m:=by
 refine Cnd.ind' fun c ih m hm h=>?_;rw[YS] at h ⊢
 rw[qB8];have key:∀ l:List Cnd,(∀ k∈l,k∈c.kids)→∀ n,1≤n→n≤m→kA l m n<m→n+kB l≤kA l m n:=by
  intro l
  induction l with
  | nil=>intro _ n h1 h2 _;rw[kA,kB];omega
  | cons k r ihl=>
    intro hk n h1 h2 h3;rw[kA] at h3 ⊢
    rw[kB];split at h3
    ·rename_i h4;rw[Aj h4];have c1:=qB9 k (m-n) oM;have c2:=zc0 r m (n+cntC k (m-n)) oM;have c3:=ih k (hk k sMp) (m-n) oM oM;have c4:=ihl (fun x hx=>hk x (CQ _ hx)) (n+cntC k (m-n)) oM oM h3;omega
    ·omega
 have:=key c.kids (fun k hk=>hk) 1 oM oM h;omega
def ji (f:Nat→Int):Nat→Int
 | 0=>0
 | n+1=>if ji f n≠0 then ji f n else f n
theorem zq7 {f:Nat→Int} {i:Nat} (h:ji f i≠0):∀ n,i≤n→ji f n=ji f i:=by
 intro n hn
 induction n with
 | zero=>have:i=0:=by omega
         rw[this]
 | succ n ih=>
   by_cases e:i=n+1
   ·rw[e]
   ·have:=ih oM;rw[ji,this,Aj h]
theorem yK {f:Nat→Int}:∀ {n:Nat},ji f n=0→∀ i,i<n→f i=0
 | 0,_,i,h=>by omega
 | n+1,h,i,hi=>by
   rw[ji] at h;split at h
   ·rename_i h2;exact absurd h h2
   ·rename_i h2;by_cases e:i=n
    ·rw[e];exact h
    ·exact yK (AQ h2) i oM
theorem Qr {f:Nat→Int}:∀ {n:Nat},(∀ i,i<n→f i=0)→ji f n=0
 | 0,_=>rfl
 | n+1,h=>by
   rw[ji,Qr fun i hi=>h i oM,Aq sMp];exact h n oM
theorem jK {f:Nat→Int} {n:Nat} (h:ji f n=0):ji f (n+1)=f n:=by rw[ji,Aq (by rw[h];simp)]
theorem yL {f:Nat→Int} {i n:Nat} (h:ji f i=0) (hi:i<n) (hf:f i≠0):ji f n=f i:=by
 rw[zq7 (i:=i+1) (by rw[jK h];exact hf) n oM,jK h]
def jj (s:Sch) (p:Pk):Int:=if schE s≠0 then schE s else if p.col<1∨p.col≥s.cols.length then 7 else if inB p.lev 0 (finI s p.col)=false then 8 else 0
abbrev pkAt (l:List Pk) (i:Nat):Pk:=l.getD i default
def qC0 (s:Sch) (l:List Pk) (i:Nat):Int:=if jj s (pkAt l i)≠0 then jj s (pkAt l i) else if 0<i∧(pkAt l i).col≤(pkAt l (i-1)).col then 10 else 0
def kF (s:Sch) (l:List Pk):Int:=if schE s≠0 then schE s else ji (qC0 s l) l.length
def dimE (s:Sch) (l:List Pk) (i:Nat):Int:=if jj s (pkAt l i)≠0 then jj s (pkAt l i) else if isB s (pkAt l i).col 2=false then 7 else if ((l.take i).any fun x=>x.col==(pkAt l i).col)=true then 10 else 0
def yB (s:Sch) (l:List Pk):Int:=if l.length<1∨l.length>3 then 1 else ji (dimE s l) l.length
def jy9 (s:Sch) (m:Int) (l:List Int) (i:Nat):Int:=if isB s (l.getD i 0) 3=false then 7 else if l.getD i 0=m∨(l.take i).contains (l.getD i 0)=true then 10 else 0
def qC1 (s:Sch) (m:Int) (l:List Int):Int:=if l.length<1∨l.length>3 then 1 else ji (jy9 s m l) l.length
def qn5 (s:Sch) (q:Qst):Int:=
 if q.kind=1 then (if yB s q.dims≠0 then yB s q.dims else if q.meas≠-1∧isB s q.meas 3=false then 7 else 0)
 else if q.kind=2 then (if isB s q.meas 3=false then 7 else qC1 s q.meas q.terms)
 else if isB s q.meas 3=false then 7 else if (qj s q.meas.toNat).low<0 then 2 else chkC s q.event
def qstE (s:Sch) (q:Qst):Int:=
 if schE s≠0 then schE s else if js q.name=false then 3 else if q.kind<1∨3<q.kind then 4
 else if chkC s q.filt≠0 then chkC s q.filt else if qn5 s q≠0 then qn5 s q
 else if (q.kind≠1∧0<q.dims.length)∨(q.kind≠2∧0<q.terms.length)∨(q.kind≠3∧qk0 q.event cnd0=false) then 11 else 0
abbrev qAt (l:List Qst) (i:Nat):Qst:=l.getD i default
def qsE (s:Sch) (l:List Qst) (i:Nat):Int:=if qstE s (qAt l i)≠0 then qstE s (qAt l i) else if ((l.take i).any fun x=>eqB x.name (qAt l i).name)=true then 10 else 0
def smpE (x:Smp):Int:=if x.of<1∨x.of>1000∨x.part<1∨x.part>x.of∨x.seed<0∨x.seed>1099511627776 then 2 else 0
def dclE (s:Sch) (d:Dcl):Int:=
 if schE s≠0 then schE s else if js d.proj=false∨js d.src=false then 3 else if chkC s d.coh≠0 then chkC s d.coh
 else if smpE d.smp≠0 then 2 else if d.qs.length<1∨d.qs.length>8 then 1 else ji (qsE s d.qs) d.qs.length
theorem jm7 {s:Sch} {d:Dcl} (h:dclE s d=0):schE s=0∧js d.proj=true∧js d.src=true∧chkC s d.coh=0∧smpE d.smp=0∧1≤d.qs.length∧d.qs.length≤8∧∀ i,i<d.qs.length→qstE s (qAt d.qs i)=0:=by
 unfold dclE at h;split at h
 ·rename_i h1;exact absurd h h1
 rename_i h1;split at h
 ·cases h
 rename_i h2;split at h
 ·rename_i h3;exact absurd h h3
 rename_i h3;split at h
 ·cases h
 rename_i h4;split at h
 ·cases h
 rename_i h5;refine⟨AQ h1,?_,?_,AQ h3,AQ h4,oM,oM,fun i hi=>?_⟩
 ·cases e:js d.proj with
  | true=>rfl
  | false=>exact absurd (.inl e) h2
 ·cases e:js d.src with
  | true=>rfl
  | false=>exact absurd (.inr e) h2
 ·have:=yK h i hi;unfold qsE at this;split at this
  ·rename_i h6;exact absurd this h6
  ·rename_i h6;exact AQ h6
theorem qe7 {s:Sch} {l:List Pk} (h:kF s l=0):schE s=0∧(∀ p∈l,jj s p=0)∧l.Pairwise fun a b=>a.col<b.col:=by
 unfold kF at h;split at h
 ·rename_i h1;exact absurd h h1
 rename_i h1;have key:∀ i,i<l.length→jj s (pkAt l i)=0∧¬ (0<i∧(pkAt l i).col≤(pkAt l (i-1)).col):=fun i hi=>by
  have:=yK h i hi;unfold qC0 at this;split at this
  ·rename_i h2;exact absurd this h2
  rename_i h2;split at this
  ·cases this
  ·rename_i h3;exact⟨AQ h2,h3⟩
 refine⟨AQ h1,fun p hp=>?_,?_⟩
 ·obtain⟨i,hi,rfl⟩:=CX hp;have:=(key i hi).1;rw[pkAt,qg hi] at this;exact this
 ·rw[DX];have k2:∀ (d i:Nat) (hj:i+d+1<l.length),(l[i]'oM).col<l[i+d+1].col:=by
   intro d
   induction d with
   | zero=>
     intro i hj;have:=(key (i+1) oM).2;rw[pkAt,pkAt,qg oM,qg oM] at this;simp at this;simpa using this
   | succ d ih=>
     intro i hj;have h1:=ih i oM;have h2:=(key (i+d+1+1) oM).2;rw[pkAt,pkAt,qg oM,qg oM] at h2;simp only[Nat.add_sub_cancel] at h2;have e:i+(d+1)+1=i+d+1+1:=by omega
     simp only[e];omega
  intro i j hi hj hij;have:=k2 (j-i-1) i oM;have e:i+(j-i-1)+1=j:=by omega
  simp only[e] at this;exact this
theorem jC {s:Sch} {p:Pk} (h:jj s p=0):schE s=0∧1≤p.col∧p.col<s.cols.length∧0≤p.lev∧p.lev≤finI s p.col:=by
 unfold jj at h;split at h
 ·rename_i h1;exact absurd h h1
 rename_i h1;split at h
 ·cases h
 rename_i h2;split at h
 ·cases h
 rename_i h3;rw[Ez,inB,Bq,AZ,AZ] at h3;exact⟨AQ h1,oM,oM,h3.1,h3.2⟩
def divM (high w wo:Int):Nat→Int→Bool
 | 0,_=>true
 | k+1,f=>if f>high then true else if f.tmod wo≠0 then false else divM high w wo k (f+w)
def divP (s:Sch) (col:Nat) (L:List Int) (other lev:Nat) (i k:Nat):Bool:=
 !(!(qw s col lev (L.getD i 0)==qw s col lev (L.getD k 0))&&(qw s col other (L.getD i 0)==qw s col other (L.getD k 0)))
def divB (s:Sch) (col other lev:Nat):Bool:=
 if lev=0∨lev≤other then true
 else if (qj s col).kind=2 then qj9 (qJ s col).length (divP s col (qJ s col) other lev)
 else
  let x:=qj s col
  let w:=qO x lev
  let first:=(zc x.low w+1)*w
  if other=0 then !x.opt&&decide (first>x.high)
  else divM x.high w (qO x other) 2 first
def zR (s:Sch) (col lev:Int):Int:=if inB lev 0 (finI s col)=false then -1 else Kc (fun n=>divB s col.toNat n lev.toNat) 64 0
def zU1 (q:Qst) (k:Int):Bool:=(q.meas==k)||q.terms.contains k
def Qs (l m:List Pk):List Pk:=m.foldl (fun l p=>jA l p.col p.lev) l
def wc (s:Sch) (q:Qst):List Pk→Nat→List Pk:=fun l k=>if zU1 q (k+1)=true then jA l (k+1) (zR s (k+1) (finI s (k+1))) else l
def jN9 (s:Sch) (q:Qst) (l:List Pk):List Pk:=(List.range (s.cols.length-1)).foldl (wc s q) l
def qk1 (s:Sch) (q:Qst):List Pk:=if qstE s q≠0 then [] else
 jN9 s q (q.dims.foldl (fun l p=>jA l p.col (zR s p.col p.lev)) (if q.kind=3 then Qs (zD s q.filt) (zD s q.event) else zD s q.filt))
def sufB (s:Sch) (q:Qst) (l:List Pk):Bool:=(qstE s q==0)&&(kF s l==0)&&covB (qk1 s q) l
def zq8 (s:Sch) (d:Dcl) (l:List Pk):Int:=if dclE s d≠0 then dclE s d else if kF s l≠0 then kF s l else ji (fun i=>if sufB s (qAt d.qs i) l=true then 0 else 23) d.qs.length
theorem wA {s:Sch} {c:Int} (h:0≤finI s c):schE s=0∧1≤c∧c<s.cols.length∧finI s c=(if (qj s c.toNat).kind=2 then zC (qQ s c.toNat)-1 else (qj s c.toNat).widths.length):=by
 unfold finI at h ⊢
 split at h
 ·omega
 ·rename_i h1;rw[Aq h1];exact⟨oM,oM,oM,rfl⟩
theorem zX {n lo hi:Int}:inB n lo hi=true↔lo≤n∧n≤hi:=by simp [inB]
theorem zq9 {n lo hi:Int}:inB n lo hi=false↔n<lo∨hi<n:=by
 rw[← Bool.not_eq_true,zX];omega
theorem SchOk.wid {s:Sch} (h:SchOk s) {i:Nat} (hi:i<s.cols.length) (h0:0<i) (hk:(qj s i).kind≠2) {lev:Int} (hl:1≤lev∧lev≤(qj s i).widths.length) :
 1≤qO (qj s i) lev∧qO (qj s i) lev≤1000000∧(qj s i).kind=3∧(qj s i).widths.length≤4∧-1000000≤(qj s i).low∧(qj s i).high≤1000000∧(qj s i).low≤(qj s i).high∧qO (qj s i) (qj s i).widths.length=1:=by
 have hk2:=zi (h.cs i hi);have hk3:(qj s i).kind=3:=by have:=hk2.2.2.1 h0;omega
 have hm:=hk2.2.2.2.2 hk3;generalize qj s i=c at hl hm hk3 ⊢
 unfold measE at hm;split at hm
 ·cases hm
 rename_i h1;split at hm
 ·cases hm
 rename_i h2;split at hm
 ·cases hm
 rename_i h3;rw[Ez] at h3;have hw:∀ j,j<c.widths.length→wdOk c.widths j=true:=fun j hj=>Bk.1 h3 j (Dk.2 hj);have e1:inB c.low (-1000000) 1000000=true:=by grind
 have e2:inB c.high (-1000000) 1000000=true:=by grind
 rw[zX] at e1 e2;have hn:((c.widths.length:Int)-lev).toNat<c.widths.length:=by omega
 have hp:=zq5 (ws:=c.widths) hw _ hn;have h0:=hw 0 oM;rw[wdOk,Aj rfl,AY] at h0;have hmax:c.widths.getD ((c.widths.length:Int)-lev).toNat 0≤1000000:=by
  have:=hw _ hn;unfold wdOk at this;split at this
  ·rename_i e;rw[e,h0];omega
  ·simp only[Bq,AZ] at this;omega
 refine⟨hp,hmax,hk3,oM,oM,oM,oM,?_⟩;rw[qO,show ((c.widths.length:Int)-c.widths.length).toNat=0 by omega,h0]
theorem KX {v w:Int} (hw:0<w):v-w<zc v w*w∧zc v w*w≤v:=by
 unfold zc;rw[DW _ oM,Int.mul_comm];have h1:=Int.mul_ediv_add_emod v w;have h2:=Int.emod_nonneg v (b:=w) oM;have h3:=Int.emod_lt_of_pos v hw;omega
theorem jz0 {v w:Int} (hw:0<w) (hv : -4611686018427387904<v∧v<4611686018427387904) : -4611686018427387904<zc v w∧zc v w<4611686018427387904:=by
 have hq:=Int.natAbs_tdiv_le_natAbs v w;have h1:=Int.mul_tdiv_add_tmod v w;rw[zM8 hw];unfold zc at *
 split
 ·rename_i h;have h2:v<0:=AQ fun k=>by
   have:=Int.tmod_nonneg w (show 0≤v by omega);omega
  have h3 : -4611686018427387904<v.tdiv w-1:=by
   by_cases e:w=1
   ·subst e;rw[Int.tmod_one] at h;omega
   ·refine AQ fun k=>?_;have h4:v.tdiv w≤-4611686018427387903:=by omega
    have h5:w*v.tdiv w≤2*v.tdiv w:=Int.mul_le_mul_of_nonpos_right oM oM;have h6:=Int.lt_tmod_of_pos v hw;have h7:=Int.tmod_lt_of_pos v hw;omega
  omega
 ·omega
theorem zo (s:Sch) (hs:jO s) (c lev v:Int):Sp 74 [schT s,vI c,vI lev,vI v] [] (vI (qw s c lev v)) []:=by
 refine sIr qy8 fun e _ hst=>?_;unfold Qa;refine sW ?_;refine C1.im (zQ s hs c) rF rF ?_;refine sW ?_;refine C1.im (zJ lev 0 (finI s c)) rF rF ?_;simp only[tZ,↓uU,simprocAttr,Bx,Bz];refine⟨fun h=>?_,fun h=>?_⟩
 ·rw[qw,Aj h];exact .oA [] []
 rw[zX] at h;obtain⟨hE,c1,c2,hfin⟩:=wA (s:=s) (c:=c) oM;have hok:=qU hE;obtain⟨i,rfl⟩:=AJ (show 0≤c by omega);rw[Ax] at hfin;have hi:i<s.cols.length:=by omega
 have hat:qj s i=s.cols[i]:=by rw[qj,qg hi]
 have hk:=zi (hok.cs i hi);have hcd:=fun e=>hok.cdl hi e;have hwd:=fun e l=>hok.wid hi oM e (lev:=l);have hcl:qQ s i=s.lists.getD s.cols[i].list.toNat default:=by rw[qQ,hat]
 have hE2:qw s i lev v=if s.cols[i].kind=2 then (if zn s i v=false then -1 else upC (qQ s i) v lev)
  else if v≠zj∧inB v (-1000000) 1000000=false then -1
  else if lev=0 then 0 else if v=zj then v else zc v (qO s.cols[i] lev)*qO s.cols[i] lev:=by
  rw[qw,Aq (by rw[Ez,zX];exact h),Ax,hat]
 rw[hE2];rw[hat] at hk hcd hwd hfin;rw[hcl] at hcd ⊢
 simp only[tZ,↓uU,simprocAttr,Ax,qd hi];have hho:=qe4 s hok i hi v;generalize s.cols[i]=x at hk hcd hwd hfin ⊢
 simp only[tZ,↓uU,simprocAttr,AY,Ak];refine⟨oM,fun h2=>?_,fun h2=>?_⟩
 ·rw[Aj h2];obtain⟨d1,d2⟩:=hcd h2;obtain⟨d3,d4⟩:=hk.2.2.2.1 h2;have hgl:s.lists.getD x.list.toNat default=s.lists[x.list.toNat]:=qg d1;rw[hgl] at d2 ⊢
  obtain⟨_,d5,d6⟩:=ze d2;refine C1.im hho rF rF ?_;simp only[tZ,↓uU,simprocAttr,Bx,Bz];refine⟨fun h3=>?_,fun h3=>?_⟩
  ·rw[Aj h3];exact .oA [] []
  rw[Aq (by rw[h3];simp)];simp only[tZ,↓uU,simprocAttr,qd d1];generalize s.lists[x.list.toNat]=l at d2 d5 d6 ⊢
  refine⟨oM,?_⟩;refine C1.im (qj6 l v lev oM) rF rF ?_;refine sW ?_;exact .oA [] []
 rw[Aq h2];rw[Aq h2] at hfin;refine C2.im (fun _=>zJ v (-1000000) 1000000) (fun _=>rfl) rF ?_;simp only[tZ,↓uU,simprocAttr,tD,Bj,Aw,Bx,Bz,AY,Ak];rw[show (-1099511627776:Int)=zj from rfl];refine⟨fun h3=>?_,fun h3=>?_⟩
 ·rw[Aj h3];exact .oA [] []
 rw[Aq (by grind)];refine⟨fun h4=>?_,fun h4=>?_⟩
 ·rw[Aj h4];exact .oA [] []
 rw[Aq h4];refine⟨fun h5=>?_,fun h5=>?_⟩
 ·rw[Aj h5];exact .oA [] []
 rw[Aq h5];have hv:inB v (-1000000) 1000000=true:=by grind
 rw[zX] at hv;obtain⟨w1,w2,w3,w4,_⟩:=hwd h2 lev oM;have hfm:=KX (v:=v) (w:=qO x lev) oM;have hw:IntKind.i64.wrap (zc v (qO x lev)*qO x lev)=zc v (qO x lev)*qO x lev:=AK _ oM;refine C1.im (wb x lev oM oM) rF rF ?_;refine sW ?_;refine C1.im (qe5 v (qO x lev) oM oM) rF rF ?_;simp only[tZ,↓uU,simprocAttr,hw];exact .oA [] []
theorem ju (s:Sch) (hok:SchOk s) (i:Nat) (hi:i<s.cols.length) (h2:(qj s i).kind=2):Sp 131 [schT s,vI i] [] (vIs (qJ s i)) []:=by
 have hat:qj s i=s.cols[i]:=by rw[qj,qg hi]
 obtain⟨d1,d2⟩:=hok.cdl hi h2;obtain⟨d3,d4⟩:=(zi (hok.cs i hi)).2.2.2.1 h2;have hcl:qQ s i=s.lists.getD s.cols[i].list.toNat default:=by rw[qQ,hat]
 rw[hcl] at d2;rw[hat] at d1 d3 d4;have hgl:s.lists.getD s.cols[i].list.toNat default=s.lists[s.cols[i].list.toNat]:=qg d1;rw[hgl] at d2;obtain⟨_,d5,d6⟩:=ze d2;rw[qJ,hcl,hgl];have hlv:=YR (l:=s.lists[s.cols[i].list.toNat]);have hw2:IntKind.i64.wrap (zC s.lists[s.cols[i].list.toNat]-1)=zC s.lists[s.cols[i].list.toNat]-1:=AK _ oM;refine sIr qz8 fun e _ hst=>?_;unfold Qi;simp only[tZ,↓uU,simprocAttr,Ax,qd hi,qd d1];refine⟨oM,oM,kR,?_⟩;refine C1.im (jY _ oM) rF rF ?_;simp only[tZ,↓uU,simprocAttr,hw2];refine C1.im (Wt _ _ oM) rF rF ?_;refine sW ?_;refine⟨kR,?_⟩;exact .oA [] []
theorem qn6 (s:Sch) (hs:jO s) (p:Pk):Sp 130 [schT s,pkT p] [] (vI (jj s p)) []:=by
 refine sIr qZ3 fun e _ hst=>?_;unfold JA;refine sW ?_;refine C1.im (zt s hs) rF rF ?_;simp only[tZ,↓uU,simprocAttr,tD,Bj,Aw];refine⟨fun h=>?_,fun h=>⟨fun h2=>?_,fun h2=>?_⟩⟩
 ·rw[jj,Aj h];exact .oA [] []
 ·rw[jj,Aq (by rw[h];simp),Aj oM];exact .oA [] []
 rw[jj,Aq (by rw[h];simp),Aq oM];refine C1.im (zQ s hs p.col) rF rF ?_;refine sW ?_;refine C1.im (zJ p.lev 0 (finI s p.col)) rF rF ?_;simp only[tZ,↓uU,simprocAttr,Bx,Bz];refine⟨kR,fun h3=>?_,fun h3=>?_⟩
 ·rw[Aj h3];exact .oA [] []
 ·rw[Aq (by rw[h3];simp)];exact .oA [] []
theorem yC (s:Sch) (hs:jO s) (l:List Pk) (hl:l.length<4611686018427387904):Sp 76 [schT s,vPs l] [] (vI (kF s l)) []:=by
 refine sIr qI5 fun e _ hst=>?_;unfold Zc;refine sW ?_;refine C1.im (zt s hs) rF rF ?_;simp only[tZ,↓uU,simprocAttr,Bj,Aw];refine⟨fun h=>?_,fun hE=>?_⟩
 ·rw[kF,Aj h];exact .oA [] []
 rw[kF,Aq (by rw[hE];simp)];refine qk mixm (α:=Nat) [6] (fun i=>i≤l.length∧(ji (qC0 s l) i=0)) (fun i=>[(6,vI i)]) (fun i=>[aR 4096 2 [schT s]]) (fun i=>l.length-i) 0 ⟨oM,?_⟩ ?_ fun i hi=>?_
 ·rfl
 ·exact .oA (U1 4096) []
 simp only[tZ,↓uU,simprocAttr,AZ,Ay];refine⟨fun h=>?_,fun h=>?_⟩
 ·have hi2:i<l.length:=by omega
  have hpi:pkAt l i=l[i]:=by rw[pkAt,qg hi2]
  have hstep:=yL hi.2 hi2;have hnext:=jK hi.2;have hA:qC0 s l i=if jj s l[i]≠0 then jj s l[i] else if 0<i∧l[i].col≤(pkAt l (i-1)).col then 10 else 0:=by rw[qC0,hpi]
  have hi2:i<l.length:=by omega
  have hwi:=qh (i:=i) oM;simp only[tZ,↓uU,simprocAttr,Ax,qd hi2,hwi];refine⟨oM,?_⟩;refine C1.im (qn6 s hs l[i]) rF rF ?_;simp only[tZ,↓uU,simprocAttr,Bj,Aw];refine⟨kR,fun h3=>?_,fun h3=>?_⟩
  ·rw[Aj h3] at hA;rw[hstep (by rw[hA];exact h3),hA];exact .oA [] []
  rw[Aq (by rw[h3];simp)] at hA;rcases DQ i with h0 | h0
  ·subst h0;rw[Aq oM] at hA;have hz:((0:Nat):Int)=0:=rfl;have hz2:(IntKind.i64.wrap (-1)).toNat=0:=by decide
   have hz3:=qh (i:=0) oM;rw[hz] at hz3;simp only[tZ,↓uU,simprocAttr,Ax,hz,beq_self_eq_true,gt_iff_lt,Int.lt_irrefl,Fq,hz2,qd hi2,hz3];refine⟨kR,1,⟨oM,by rw[hnext,hA]⟩,oM,?_⟩;exact .oA (U1 4096) []
  ·obtain⟨k,rfl⟩:∃ k,i=k+1:=⟨i-1,oM⟩;have hk3:k<l.length:=by omega
   have e2:decide (((k+1:Nat):Int)>0)=true:=Cx oM;have e3:=kM (i:=k+1) oM oM;rw[Nat.add_sub_cancel] at e3 hA;rw[pkAt,qg hk3] at hA;simp only[tZ,↓uU,simprocAttr,Ax,qd hi2,qd hk3,e2,e3,hwi,tD];refine⟨oM,oM,kR,fun h4=>?_,fun h4=>?_⟩
   ·rw[Aj ⟨oM,h4⟩] at hA;rw[hstep (by rw[hA];simp),hA];exact .oA [] []
   ·rw[Aq oM] at hA;refine⟨k+2,⟨oM,by rw[hnext,hA]⟩,oM,?_⟩;exact .oA (U1 4096) []
 ·have hi2:i=l.length:=by omega
  subst hi2;rw[hi.2];exact .oA [] []
theorem jn {s:Sch} (h:SchOk s) {i:Nat} (hi:i<s.cols.length) (h2:(qj s i).kind=2):(qJ s i).length≤60:=by
 obtain⟨d1,d2⟩:=h.cdl hi h2;obtain⟨_,d5,d6⟩:=ze d2;unfold qJ atL;rw[Aq (by rw[d2];simp),BY];have:=Fx (fun i=>(dep (qQ s i).codes i:Int)==zC (qQ s i)-1) (List.range (qQ s i).codes.length);refine FZ (Fx _ _) ?_;rw[List.length_range];exact d6
theorem qC2 (s:Sch) (hok:SchOk s) (i o lev:Nat) (hi:i<s.cols.length) (h0:0<i) (hl:(lev:Int)≤finI s i):Sp 143 [schT s,vI i,vI o,vI lev] [] (vB (divB s i o lev)) []:=by
 have hat:qj s i=s.cols[i]:=by rw[qj,qg hi]
 obtain⟨hE,c1,c2,hfin⟩:=wA (s:=s) (c:=i) oM;rw[Ax,hat] at hfin;have hwd:=fun e l=>hok.wid hi oM e (lev:=l);have hlv:=ju s hok i hi;have hll:=jn hok hi;rw[hat] at hwd hlv hll;have hE2:divB s i o lev=if lev=0∨lev≤o then true
  else if s.cols[i].kind=2 then qj9 (qJ s i).length (divP s i (qJ s i) o lev)
  else if o=0 then !s.cols[i].opt&&decide ((zc s.cols[i].low (qO s.cols[i] lev)+1)*qO s.cols[i] lev>s.cols[i].high)
  else divM s.cols[i].high (qO s.cols[i] lev) (qO s.cols[i] o) 2 ((zc s.cols[i].low (qO s.cols[i] lev)+1)*qO s.cols[i] lev):=by rw[divB,hat]
 rw[hE2];refine sIr qp6 fun e _ hst=>?_;unfold yf;simp only[tZ,↓uU,simprocAttr,Ax,qd hi];generalize s.cols[i]=x at hwd hlv hfin hll ⊢
 simp only[tZ,↓uU,simprocAttr,tD,AY,Ak];refine⟨oM,fun h=>?_,fun h=>?_⟩
 ·rw[Aj oM];exact .oA [] []
 rw[Aq oM];refine⟨fun h2=>?_,fun h2=>?_⟩
 ·rw[Aj h2];refine C1.im (hlv h2) rF rF ?_;generalize qJ s i=L at hll ⊢
  have hll:=hll h2;refine sW ?_;refine qk mixm (α:=Nat) [11] (fun j=>j≤L.length∧qj9 j (divP s i L o lev)=true) (fun j=>[(11,vI j)]) (fun j=>[aR 4096 2 [schT s],aR 8212 7 [colT x]]) (fun j=>L.length-j) 0 ⟨oM,rfl⟩ ?_ fun j hj=>?_
  ·exact .oA (U2 4096 8212) []
  obtain⟨j1,j2⟩:=hj;refine sD ?_;refine⟨fun h3=>?_,fun h3=>?_⟩
  ·have hj2:j<L.length:=by omega
   have hwj:=qh (i:=j) oM;have hgj:L.getD j 0=L[j]:=qg hj2;refine qk mixm (α:=Nat) [12] (fun k=>k≤j∧(List.range k).all (divP s i L o lev j)=true) (fun k=>[(12,vI k)]) (fun k=>[aR 4096 2 [schT s],aR 8212 7 [colT x]]) (fun k=>j-k) 0 ⟨oM,rfl⟩ ?_ fun k hk=>?_
   ·exact .oA (U2 4096 8212) []
   obtain⟨k1,k2⟩:=hk;refine sD ?_;refine⟨fun h4=>?_,fun h4=>?_⟩
   ·have hk2:k<L.length:=by omega
    have hwk:=qh (i:=k) oM;have hgk:L.getD k 0=L[k]:=qg hk2;have hP:divP s i L o lev j k=!(!(qw s i lev L[j]==qw s i lev L[k])&&(qw s i o L[j]==qw s i o L[k])):=by rw[divP,hgj,hgk]
    have hC1:=zo s hok.sm i o L[j];have hC2:=zo s hok.sm i o L[k];simp only[tZ,↓uU,simprocAttr,Ax,qd hj2,qd hk2];refine⟨oM,?_⟩;refine C1.im (zo s hok.sm i lev L[j]) rF rF ?_;simp only[tZ,↓uU,simprocAttr,Ax,qd hj2,qd hk2];refine⟨oM,?_⟩;refine C1.im (zo s hok.sm i lev L[k]) rF rF ?_;simp only[tZ,↓uU,simprocAttr,Ax,qd hj2,qd hk2];refine⟨fun _=>by omega,?_⟩;refine C2.im (fun _=>hC1) (fun _=>rfl) rF ?_;simp only[tZ,↓uU,simprocAttr,Ax,qd hj2,qd hk2];refine⟨fun _=>by omega,?_⟩;refine C2.im (fun _=>hC2) (fun _=>rfl) rF ?_;simp only[tZ,↓uU,simprocAttr,hwk,tD,Bj,Aw,AY,Ak];refine⟨kR,fun h5=>?_,fun h5=>?_⟩
    ·rw[zN2 hj2 (show k<j by omega) (by rw[hP];grind)];exact .oA [] []
    ·refine⟨k+1,⟨oM,?_⟩,oM,?_⟩
     ·rw[qe6,k2,hP];grind
     ·exact .oA (U2 4096 8212) []
   ·have hkj:k=j:=by omega
    subst hkj;simp only[tZ,↓uU,simprocAttr,hwj];refine⟨k+1,⟨oM,?_⟩,oM,?_⟩
    ·rw[qT1,j2,k2];rfl
    ·exact .oA (U2 4096 8212) []
  ·have hjl:j=L.length:=by omega
   subst hjl;rw[j2];exact .oA [] []
 rw[Aq h2] at hfin;rw[Aq h2];obtain⟨w1,w2,w3,w4,w5,w6,w7,_⟩:=hwd h2 lev oM;generalize hW:qO x lev=w at w1 w2 ⊢
 have hfm:=KX (v:=x.low) (w:=w) oM;have hfl:=jz0 (v:=x.low) (w:=w) oM oM;have hw1:IntKind.i64.wrap (zc x.low w+1)=zc x.low w+1:=AK _ oM;have hw2:IntKind.i64.wrap ((zc x.low w+1)*w)=(zc x.low w+1)*w:=AK _ (by rw[Int.add_mul];omega);have hF : -3000000≤(zc x.low w+1)*w∧(zc x.low w+1)*w≤3000000:=by rw[Int.add_mul];omega
 refine C1.im (wb x lev oM oM) rF rF ?_;rw[hW];refine sW ?_;refine C1.im (qe5 x.low w oM oM) rF rF ?_;simp only[tZ,↓uU,simprocAttr,hw1,hw2];generalize (zc x.low w+1)*w=F at hF ⊢
 simp only[tZ,↓uU,simprocAttr,AY,Ak];refine⟨fun h3=>?_,fun h3=>?_⟩
 ·rw[Aj oM];exact .oA [] []
 rw[Aq oM];obtain⟨v1,v2,_⟩:=hwd h2 o oM;have hwo:=wb x o oM oM;generalize qO x o=wo at v1 v2 hwo ⊢
 refine qk mixm (α:=Nat×Int) [14,15] (fun y=>y.1≤2∧divM x.high w wo 2 F=divM x.high w wo (2-y.1) y.2∧-3000000-1000000*y.1≤y.2∧y.2≤3000000+1000000*y.1) (fun y=>[(14,vI y.2),(15,vI y.1)]) (fun y=>[aR 4096 2 [schT s],aR 8212 7 [colT x]]) (fun y=>2-y.1) (0,F) ⟨sMp,rfl,by simp;omega,by simp;omega⟩ ?_ fun y hy=>?_
 ·exact .oA (U2 4096 8212) []
 obtain⟨n,f⟩:=y;obtain⟨y1,y2,y3,y4⟩:=hy;dsimp only at y1 y2 y3 y4;have hwn:=qh (i:=n) oM;have hwf:IntKind.i64.wrap (f+w)=f+w:=AK _ oM;rw[y2];refine sD ?_;refine⟨fun h4=>?_,fun h4=>?_⟩
 ·obtain⟨m,hm⟩:∃ m,2-n=m+1:=⟨1-n,oM⟩;refine C1.im hwo rF rF ?_;simp only[tZ,↓uU,simprocAttr,Bj,Aw];rw[hm,divM,Aq oM];refine⟨oM,fun h5=>?_,fun h5=>?_⟩
  ·rw[Aj h5];exact .oA [] []
  ·simp only[tZ,↓uU,simprocAttr,hwn,hwf];refine⟨(n+1,f+w),⟨by dsimp only;omega,?_,by dsimp only;omega,by dsimp only;omega⟩,by dsimp only;omega,?_⟩
   ·dsimp only;rw[Aq (by rw[h5];simp),show 2-(n+1)=m by omega]
   ·exact .oA (U2 4096 8212) []
 ·have:divM x.high w wo (2-n) f=true:=by
   by_cases e:n=2
   ·subst e;rfl
   ·obtain⟨m,hm⟩:∃ m,2-n=m+1:=⟨1-n,oM⟩;rw[hm,divM,Aj oM]
  rw[this];exact .oA [] []
theorem zN3 (s:Sch) (i lev:Nat):divB s i lev lev=true:=by unfold divB;rw[Aj oM]
theorem qk2 {s:Sch} {c:Int} (h:schE s=0):finI s c≤59:=by
 by_cases h0:0≤finI s c
 ·obtain⟨_,h1,h2,h3⟩:=wA h0;rw[h3];split
  ·have:=YR (l:=qQ s c.toNat);omega
  ·rename_i h4;have hok:=qU h;by_cases e:(qj s c.toNat).widths.length=0
   ·omega
   ·have:=hok.wid (i:=c.toNat) oM oM h4 (lev:=1) oM;omega
 ·omega
theorem JP (s:Sch) (hs:jO s) (c lev:Int):Sp 84 [schT s,vI c,vI lev] [] (vI (zR s c lev)) []:=by
 refine sIr qJ4 fun e _ hst=>?_;unfold Zg;refine sW ?_;refine C1.im (zQ s hs c) rF rF ?_;refine sW ?_;refine C1.im (zJ lev 0 (finI s c)) rF rF ?_;simp only[tZ,↓uU,simprocAttr,Bx,Bz];refine⟨fun h=>?_,fun h=>?_⟩
 ·rw[zR,Aj h];exact .oA [] []
 rw[zR,Aq (by rw[h];simp)];rw[zX] at h;obtain⟨hE,c1,c2,hfin⟩:=wA (s:=s) (c:=c) oM;have hfl:=qk2 (c:=c) hE;have hok:=qU hE;obtain⟨i,rfl⟩:=AJ (show 0≤c by omega);obtain⟨v,rfl⟩:=AJ h.1;simp only[Ax];refine qk mixm (α:=Nat) [7] (fun n=>n≤v∧Kc (fun n=>divB s i n v) 64 0=Kc (fun n=>divB s i n v) (64-n) n) (fun n=>[(7,vI n)]) (fun n=>[aR 4096 2 [schT s]]) (fun n=>v-n) 0 ⟨oM,rfl⟩ ?_ fun n hn=>?_
 ·exact .oA (U1 4096) []
 obtain⟨n1,n2⟩:=hn;have hwn:=qh (i:=n) oM;refine sW ?_;refine C1.im (qC2 s hok i n v oM oM h.2) rF rF ?_;simp only[tZ,↓uU,simprocAttr,Bx,Bz,hwn];have e:64-n=(63-n)+1:=by omega
 rw[n2,e,Kc];refine⟨fun h3=>?_,fun h3=>?_⟩
 ·have hnv:n≠v:=fun k=>by rw[k,zN3] at h3;cases h3
  refine⟨n+1,⟨oM,?_⟩,oM,?_⟩
  ·rw[Aq (by rw[h3];simp),show 63-n=64-(n+1) by omega]
  ·exact .oA (U1 4096) []
 ·rw[Aj h3];exact .oA [] []
end Go.Proofs
