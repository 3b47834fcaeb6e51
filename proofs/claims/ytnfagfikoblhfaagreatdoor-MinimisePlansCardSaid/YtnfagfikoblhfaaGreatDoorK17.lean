/- A part of the proof: trees of Go values, short forms, contracts. -/
import Derived.Test.YtnfagfikoblhfaaGreatDoorK16
namespace Go.Proofs
open Go Go.TL
set_option maxHeartbeats 4000000
theorem ZR (s:Sch) (hs:ki s) (hL:0<s.lists.length) (c:Cnd):Sp 111 [schT s,cnT c] [] (vI (chkC s c)) []:=by
 refine sIr qY6 fun e _ hst=>?_;unfold Kx;refine sW ?_;refine C1.im (wi s hs) rF rF ?_;simp only[tZ,↓uU,simprocAttr,Bj,Aw];refine⟨fun h=>?_,fun h=>?_⟩
 ·rw[chkC,Aj h];exact .oA [] []
 have hok:=qV h;refine C1.im (zn4 c 41 oM oM) rF rF ?_;refine sD ?_;refine⟨fun h2=>?_,fun h2=>?_⟩
 ·rw[chkC,Aq (by rw[h];simp),Aj h2];exact .oA [] []
 refine C1.im (zn5 c 41 oM oM oM) rF rF ?_;refine sD ?_;refine⟨fun h3=>?_,fun h3=>?_⟩
 ·rw[chkC,Aq (by rw[h];simp),Aq h2,Aj oM];exact .oA [] []
 rw[chkC,Aq (by rw[h];simp),Aq h2,Aq oM];refine C1.im (zA9 s hok hL c) rF rF ?_;refine sW ?_;exact .oA [] []
theorem JI {s:Sch} {c:Cnd} (h:chkC s c=0):schE s=0∧cntC c 41<41∧depC c≤10∧nodE s c=0:=by
 unfold chkC at h;split at h
 ·rename_i h1;exact absurd h h1
 rename_i h1;split at h
 ·cases h
 rename_i h2;split at h
 ·cases h
 rename_i h3;exact⟨AQ h1,oM,oM,h⟩
theorem qe5 (s:Sch) (hok:SchOk s) (c:Cnd) (hc:NdOk s c) (v:Int):Sp 83 [schT s,cnT c,vI v] [] (vI (zg s c v)) []:=by
 have hn0:=hok.nl;have hn1:=hok.nc;have hA:zg s c v=if c.op=2 then tf (qe4 (qU s c.col.toNat) v c.code)
 else if c.op=3 then (if v=zn then 0 else tf (decide (c.lo≤v)&&decide (v≤c.hi)))
 else if c.op=4 then tf (v==zn) else -1:=rfl
 rw[hA];by_cases h2:c.op=2
 ·obtain⟨b,b4,b5⟩:=hc.under h2;obtain⟨b1,b2,b3⟩:=zu.1 b;obtain⟨i,hci⟩:=AJ b1;rw[hci] at b2 b5;rw[hci,Ax] at b3;rw[Ax] at b5;have hil:i<s.cols.length:=by omega
  have hat:qg s i=s.cols[i]:=by rw[qg,qj hil]
  have hcd:=hok.cdl hil b3;have hcd2:=(zj (hok.cs i hil)).2.2.2.1 b3;have hcl:qU s i=s.lists.getD s.cols[i].list.toNat default:=by rw[qU,hat]
  rw[hat] at hcd hcd2;rw[Aj h2,hci,Ax];rw[hcl,qj hcd.1] at hcd ⊢
  obtain⟨_,d5,d6⟩:=zm hcd.2;have q:(c.op==2)=true:=AY.2 h2;refine sIr ZJ fun e _ hst=>?_;unfold wg;simp only[tZ,↓uU,simprocAttr,q,hci,Ax,qd hil,qd hcd.1];refine⟨oM,oM,?_⟩;refine C1.im (zm5 _ v c.code oM) rF rF ?_;refine sW ?_;refine⟨kR,fun h=>?_,fun h=>?_⟩
  ·rw[h];exact .oA [] []
  ·rw[h];exact .oA [] []
 have q:(c.op==2)=false:=Ak.2 h2;rw[Aq h2];by_cases h3:c.op=3
 ·have q3:(c.op==3)=true:=AY.2 h3;rw[Aj h3];refine sIr ZJ fun e _ hst=>?_;unfold wg;simp only[tZ,↓uU,simprocAttr,q,q3,AY,Ak];rw[show (-1099511627776:Int)=zn from rfl];refine⟨fun h=>?_,fun h=>?_⟩
  ·rw[Aj h];exact .oA [] []
  ·rw[Aq h];refine⟨fun h=>?_,fun h=>?_⟩
   ·rw[h];exact .oA [] []
   ·rw[h];exact .oA [] []
 have q3:(c.op==3)=false:=Ak.2 h3;rw[Aq h3];by_cases h4:c.op=4
 ·have q4:(c.op==4)=true:=AY.2 h4;rw[Aj h4];refine sIr ZJ fun e _ hst=>?_;unfold wg;simp only[tZ,↓uU,simprocAttr,q,q3,q4];rw[show (-1099511627776:Int)=zn from rfl];refine⟨fun h=>?_,fun h=>?_⟩
  ·rw[h];exact .oA [] []
  ·rw[h];exact .oA [] []
 have q4:(c.op==4)=false:=Ak.2 h4;rw[Aq h4];refine sIr ZJ fun e _ hst=>?_;unfold wg;simp only[tZ,↓uU,simprocAttr,q,q3,q4];exact .oA [] []
theorem kY:∀ c m,1≤m→cntC c m<m→((atsC c).length:Int)≤cntC c m:=by
 refine Cnd.ind' fun c ih m hm h=>?_;have hc:=qF1 c m hm;rw[Yr];split
 ·simp;omega
 ·rw[ZA] at h ⊢
  have key:∀ l:List Cnd,(∀ k∈l,k∈c.kids)→∀ n,1≤n→n≤m→kL l m n<m→n+(ZB l).length≤kL l m n:=by
   intro l
   induction l with
   | nil=>intro _ n h1 h2 _;rw[kL,ZB];simp
   | cons k r ihl=>
     intro hk n h1 h2 h3;rw[kL] at h3 ⊢
     rw[ZB,AW];split at h3
     ·rename_i h4;rw[Aj h4];have c1:=qF1 k (m-n) oM;have c2:=zn1 r m (n+cntC k (m-n)) oM;have c3:=ih k (hk k sMp) (m-n) oM oM;have c4:=ihl (fun x hx=>hk x (CQ _ hx)) (n+cntC k (m-n)) oM oM h3;omega
     ·omega
  have:=key c.kids (fun k hk=>hk) 1 oM hm h;omega
theorem kg:∀ (l:List Cnd) (i:Nat),(ZB (l.take i)).length≤(ZB l).length
 | [],i=>by simp
 | x::r,0=>by simp [ZB]
 | x::r,i+1=>by rw[List.take_succ_cons,ZB,ZB,AW,AW];have:=kg r i;omega
theorem YH (l:List Cnd):ImXs 6 (l.map cndT):=qw jA2 l
theorem KW {st:Sto} {ρ:Ren} {B:List Nat} (l:List Cnd):ltXs st ρ B 6 (l.map cndT) (l.map cndT):=jA (YH l)
theorem Ys:∀ (c:Cnd) (m:Int),1≤m→m≤1000→cntC c m<m→Sp 148 [cnT c] [] (vCs (atsC c)) []:=by
 refine Cnd.ind' fun c ih m hm hm2 hc=>?_;have hal:=kY c m hm hc;rw[ZA] at hc hal;obtain⟨hk1,hk2⟩:=qg9 oM hc;have hi:isAt c=((c.op==2)||(c.op==3)||(c.op==4)):=rfl;refine sIr qk2 fun e _ hst=>?_;unfold QM;refine sW ?_;rw[← hi];refine⟨fun h=>?_,fun h=>?_⟩
 ·rw[Yr,Aj h];show yx [] _ _ (.sl 6 [cndT c]) [];rw[zh];exact .oA [] [12292]
 ·rw[Yr,Aq (by rw[h];simp)] at hal ⊢
  refine qt mixm (α:=Nat) [3,4,17] (fun i=>i≤c.kids.length) (fun i=>[(3,.asl 1 (ZB (c.kids.take i)).length),(4,vI i)]) (fun i=>[aR 4096 6 [cnT c],aR 1 6 ((ZB (c.kids.take i)).map cndT)]) (fun i=>c.kids.length-i) 0 oM ?_ fun i hi2=>?_
  ·exact .oA [uI 4096,(1,none)] []
  have htl:=kg c.kids i;refine sD ?_;refine⟨fun h5=>?_,fun h5=>?_⟩
  ·have hi2:i<c.kids.length:=by omega
   have hwi:=qh (i:=i) oM;obtain⟨m',a1,a2,a3⟩:=hk2 _ (AX hi2);have htl2:=kg c.kids (i+1);rw[qS hi2,QF,AW] at htl2;simp only[tZ,↓uU,simprocAttr,Ax,qd hi2,zh];refine⟨oM,?_⟩;refine C1.im (ih _ (AX hi2) m' a1 oM a3) rF rF ?_;simp only[tZ,↓uU,simprocAttr,hwi];refine⟨oM,i+1,oM,oM,?_⟩;rw[qS hi2,QF,By];refine .of (U2 4096 1) [] rfl (by first | rfl | (rw[hst];rfl)) ?_ ?_
   all_goals (try simp only[tL,simprocAttr,By,List.map_cons,List.map_nil,BW,Cy,Dj])
   all_goals (try (repeat' (first | exact zk | (apply zH;intro _;exact⟨rfl,rfl⟩) | (apply qw;intro _;exact⟨rfl,rfl⟩) | with_reducible apply ze | with_reducible refine qQ ⟨rfl,rfl⟩ ?_ | exact qR | with_reducible apply qZ | with_reducible refine zd ⟨rfl,rfl,?_⟩ ?_ | with_reducible apply Az | exact qY rfl | exact qY (by assumption) | (refine⟨⟨?_,rfl,?_,rfl,?_⟩,trivial⟩ <;> first | (simp;done) | (apply qw;intro _;exact⟨rfl,rfl⟩)) | trivial | rfl | (rw[qh oM]) | omega)))
   all_goals first | exact KW _ | exact YH _
  ·have hil:i=c.kids.length:=by omega
   subst hil;rw[Bw];refine .of [] [1] rfl (by first | rfl | (rw[hst];rfl)) ?_ ?_
   all_goals (try simp only[tL,simprocAttr,By,List.map_cons,List.map_nil,BW,Cy,Dj])
   all_goals (try (repeat' (first | exact zk | (apply zH;intro _;exact⟨rfl,rfl⟩) | (apply qw;intro _;exact⟨rfl,rfl⟩) | with_reducible apply ze | with_reducible refine qQ ⟨rfl,rfl⟩ ?_ | exact qR | with_reducible apply qZ | with_reducible refine zd ⟨rfl,rfl,?_⟩ ?_ | with_reducible apply Az | exact qY rfl | exact qY (by assumption) | (refine⟨⟨?_,rfl,?_,rfl,?_⟩,trivial⟩ <;> first | (simp;done) | (apply qw;intro _;exact⟨rfl,rfl⟩)) | trivial | rfl | (rw[qh oM]) | omega)))
   all_goals first | exact KW _ | exact YH _
theorem qT3 (col lev:Int):∀ (l:List Pk) (x:List Pk×Bool),(l.foldl (qa4 col lev) x).1.length+(if (l.foldl (qa4 col lev) x).2=true then 0 else 1)≤x.1.length+(if x.2=true then 0 else 1)+l.length
 | [],x=>BZ _
 | p::r,x=>by
   have h:=qT3 col lev r (qa4 col lev x p);have h2:(qa4 col lev x p).1.length+(if (qa4 col lev x p).2=true then 0 else 1)≤x.1.length+(if x.2=true then 0 else 1)+1:=by
    unfold qa4;obtain⟨a,b⟩:=x;dsimp only;split <;> split <;> cases b <;> simp_all <;> omega
   rw[Dw,CJ];omega
theorem qv2 (l:List Pk) (col lev:Int):(ZQ l col lev).length≤l.length+1:=by
 have h:=qT3 col lev l ([],decide (lev≤0));unfold ZQ;dsimp only at h ⊢
 split
 ·simp_all
  split at h <;> omega
 ·rename_i k;rw[Aq k] at h;rw[AW];simp at h ⊢
  split at h <;> omega
theorem yY (l:List Pk) (col lev:Int) (hl:l.length<1000000000):Sp 63 [vPs l,vI col,vI lev] [] (vPs (ZQ l col lev)) []:=by
 have hP:ZQ l col lev=if (l.foldl (qa4 col lev) ([],decide (lev≤0))).2 then (l.foldl (qa4 col lev) ([],decide (lev≤0))).1 else (l.foldl (qa4 col lev) ([],decide (lev≤0))).1++[⟨col,lev⟩]:=rfl
 have hS:∀ i,i≤l.length→((l.take i).foldl (qa4 col lev) ([],decide (lev≤0))).1.length≤l.length+1:=fun i hi=>by
  have h:=qT3 col lev (l.take i) ([],decide (lev≤0));simp only[Cw,Cz] at h;split at h <;> split at h <;> omega
 refine sIr qX2 fun e _ hst=>?_;unfold Kq;refine sW ?_;refine qt mixm (α:=Nat×List Pk×Bool) [7,8,9] (fun x=>x.1≤l.length∧x.2=(l.take x.1).foldl (qa4 col lev) ([],decide (lev≤0))) (fun x=>[(7,.asl 1 x.2.1.length),(8,vB x.2.2),(9,vI x.1)]) (fun x=>[aR 1 2 (x.2.1.map pkT)]) (fun x=>l.length-x.1) (0,[],decide (lev≤0)) ⟨sMp,sMp⟩ ?_ fun x hx=>?_
 ·exact .oA [(1,none)] []
 obtain⟨i,a,b⟩:=x;obtain⟨x1,x2⟩:=hx;dsimp only at x1 x2;have hSi:=hS i x1;rw[← x2] at hSi;dsimp only at hSi;refine sD ?_;refine⟨fun h=>?_,fun h=>?_⟩
 ·have hi2:i<l.length:=by omega
  have hwi:=qh (i:=i) oM;have hs:(l.take (i+1)).foldl (qa4 col lev) ([],decide (lev≤0))=qa4 col lev (a,b) l[i]:=by rw[qS hi2,Gq,← x2];rfl
  simp only[tZ,↓uU,simprocAttr,Ax,qd hi2];generalize l[i]=p at hs ⊢
  have hmx:maxI p.lev lev=max p.lev lev:=by unfold maxI;omega
  have hr:qa4 col lev (a,b) p=(if p.col=col then ((if p.col>col∧b=false then (a++[⟨col,lev⟩],true) else (a,b)).1++[⟨p.col,max p.lev lev⟩],true) else ((if p.col>col∧b=false then (a++[⟨col,lev⟩],true) else (a,b)).1++[p],(if p.col>col∧b=false then (a++[(⟨col,lev⟩:Pk)],true) else (a,b)).2)):=rfl;rw[hr] at hs;simp only[tZ,↓uU,simprocAttr,tD,AY,Ak,Bx,Bz,hwi,hmx];refine⟨oM,fun h2=>⟨oM,fun h3=>by omega,fun h3=>?_⟩,fun h2=>⟨fun h3=>?_,fun h3=>?_⟩⟩
  ·rw[Aq h3,Aj h2] at hs;refine⟨oM,(i+1,a++[⟨col,lev⟩]++[p],true),⟨by dsimp only;omega,hs.symm⟩,by dsimp only;omega,?_⟩;exact .oA (U1 1) []
  ·rw[Aj h3,Aq (by grind)] at hs;refine⟨oM,(i+1,a++[⟨p.col,max p.lev lev⟩],true),⟨by dsimp only;omega,hs.symm⟩,by dsimp only;omega,?_⟩;exact .oA (U1 1) []
  ·rw[Aq h3,Aq (by grind)] at hs;refine⟨oM,(i+1,a++[p],b),⟨by dsimp only;omega,hs.symm⟩,by dsimp only;omega,?_⟩;exact .oA (U1 1) []
 ·have hil:i=l.length:=by omega
  subst hil;rw[Bw] at x2;rw[← x2] at hP;dsimp only at hP;simp only[tZ,↓uU,simprocAttr,Bx,Bz];refine⟨fun h2=>?_,fun h2=>?_⟩
  ·rw[hP,h2,Aq sMp];refine⟨oM,?_⟩;show yx [] _ _ (.sl 2 ((a++[(⟨col,lev⟩:Pk)]).map pkT)) [];rw[By];exact .oA [] [1]
  ·rw[hP,Aj h2];exact .oA [] [1]
theorem qk4 (a b:List Pk) (ha:a.length<4611686018427387904) (hb:b.length<4611686018427387904):Sp 68 [vPs a,vPs b] [] (vB (covB a b)) []:=by
 refine sIr qQ0 fun e _ hst=>?_;unfold Ji;refine sW ?_;refine qt mixm (α:=Nat) [5] (fun i=>i≤a.length∧(covB (a.take i) b=true)) (fun i=>[(5,vI i)]) (fun i=>[]) (fun i=>a.length-i) 0 ⟨oM,?_⟩ ?_ fun i hi=>?_
 ·rfl
 ·exact .oA [] []
 simp only[tZ,↓uU,simprocAttr,AZ,Ay];refine⟨fun h=>?_,fun h=>?_⟩
 ·have hi2:i<a.length:=by omega
  have hwi:=qh (i:=i) oM;refine qt mixm (α:=Nat) [6,7] (fun k=>k≤b.length) (fun k=>[(6,vB ((b.take k).any fun y=>(y.col==a[i].col)&&decide (y.lev≥a[i].lev))),(7,vI k)]) (fun k=>[]) (fun k=>b.length-k) 0 oM ?_ fun k hk=>?_
  ·exact .oA [] []
  refine sD ?_;refine⟨fun h4=>?_,fun h4=>?_⟩
  ·have hk2:k<b.length:=by omega
   have hwk:=qh (i:=k) oM;simp only[tZ,↓uU,simprocAttr,Ax,qd hi2,qd hk2,hwk];refine⟨fun _=>by omega,fun _=>by omega,fun _=>by omega,fun _=>by omega,kR,k+1,oM,oM,?_⟩;rw[qS hk2,FY,List.any_cons,List.any_nil,Bool.or_false];exact .oA [] []
  ·have hkl:k=b.length:=by omega
   subst hkl;rw[Bw];have hcs:covB (a.take (i+1)) b=(covB (a.take i) b&&b.any fun y=>(y.col==a[i].col)&&decide (y.lev≥a[i].lev)):=by
    unfold covB;rw[qS hi2,FW];simp
   simp only[tZ,↓uU,simprocAttr,Bx,Bz,hwi];refine⟨fun h5=>?_,fun h5=>?_⟩
   ·have:covB a b=false:=List.all_eq_false.2 ⟨_,AX hi2,by rw[h5];simp⟩;rw[this];exact .oA [] []
   ·refine⟨i+1,⟨oM,by rw[hcs,hi.2,h5];rfl⟩,oM,?_⟩;exact .oA [] []
 ·have hi2:i=a.length:=by omega
  subst hi2;have h3:=hi.2;rw[Bw] at h3;rw[h3];exact .oA [] []
theorem zB0:∀ {a b:List Cnd},a.length≠b.length→wF a b=false
 | [],[],h=>by simp at h
 | x::r,y::t,h=>by rw[wF,zB0 (a:=r) (b:=t) (by simpa using h),Bool.and_false]
 | [],y::t,_=>rfl
 | x::r,[],_=>rfl
theorem qT4:∀ {a b:List Cnd} {i:Nat} (ha:i<a.length) (hb:i<b.length),wF (a.take (i+1)) (b.take (i+1))=(wF (a.take i) (b.take i)&&KU a[i] b[i])
 | x::r,y::t,0,_,_=>by simp [wF]
 | x::r,y::t,i+1,ha,hb=>by
   rw[List.take_succ_cons,List.take_succ_cons,wF,qT4 (a:=r) (b:=t) (by simpa using ha) (by simpa using hb),List.take_succ_cons,List.take_succ_cons,wF];simp [Bool.and_assoc]
theorem zg6:∀ {a b:List Cnd} {i:Nat} (ha:i<a.length) (hb:i<b.length),KU a[i] b[i]=false→wF a b=false
 | x::r,y::t,0,_,_,h=>by
   have h:KU x y=false:=h;rw[wF,h,Bool.false_and]
 | x::r,y::t,i+1,ha,hb,h=>by rw[wF,zg6 (a:=r) (b:=t) (i:=i) (by simpa using ha) (by simpa using hb) h,Bool.and_false]
inductive SmC:Cnd→Prop
 | mk (c:Cnd) (h1:c.kids.length<4611686018427387904) (h2:∀ k∈c.kids,SmC k):SmC c
theorem zB1:∀ (a b:Cnd),(a.kids.length=b.kids.length→SmC a)→Sp 206 [cnT a,cnT b] [] (vB (KU a b)) []:=by
 refine Cnd.ind' fun a ih b hs=>?_;rw[zn0];refine sIr zm3 fun e _ hst=>?_;unfold Yi;simp only[tZ,↓uU,simprocAttr,tD,Bj,Aw];refine⟨fun h=>?_,fun h=>?_⟩
 ·have:((a.op==b.op)&&(a.col==b.col)&&(a.code==b.code)&&(a.lo==b.lo)&&(a.hi==b.hi)&&wF a.kids b.kids)=false:=by
   rcases h with ((((h | h) | h) | h) | h) | h
   ·rw[Ak.2 h];simp
   ·rw[Ak.2 h];simp
   ·rw[Ak.2 h];simp
   ·rw[Ak.2 h];simp
   ·rw[Ak.2 h];simp
   ·rw[zB0 oM];simp
  rw[this];exact .oA [] []
 have e:((a.op==b.op)&&(a.col==b.col)&&(a.code==b.code)&&(a.lo==b.lo)&&(a.hi==b.hi)&&wF a.kids b.kids)=wF a.kids b.kids:=by
  rw[AY.2 h.1.1.1.1.1,AY.2 h.1.1.1.1.2,AY.2 h.1.1.1.2,AY.2 h.1.1.2,AY.2 h.1.2];simp
 have hl:a.kids.length=b.kids.length:=by omega
 obtain⟨_,s1,s2⟩:=hs hl;rw[e];refine qt mixm (α:=Nat) [5,47] (fun i=>i≤a.kids.length∧wF (a.kids.take i) (b.kids.take i)=true) (fun i=>[(5,vI i)]) (fun i=>[aR 4096 6 [cnT a],aR 4100 6 [cnT b]]) (fun i=>a.kids.length-i) 0 ⟨oM,by simp [wF]⟩ ?_ fun i hi=>?_
 ·exact .oA (U2 4096 4100) []
 refine sD ?_;refine⟨fun h5=>?_,fun h5=>?_⟩
 ·have hi2:i<a.kids.length:=by omega
  have hib:i<b.kids.length:=by omega
  have hwi:=qh (i:=i) oM;simp only[tZ,↓uU,simprocAttr,Ax,qd hi2,qd hib,zh];refine⟨oM,oM,?_⟩;refine C1.im (ih _ (AX hi2) b.kids[i] fun _=>s2 _ (AX hi2)) rF rF ?_;simp only[tZ,↓uU,simprocAttr,Bx,Bz,hwi];refine⟨kR,fun h6=>?_,fun h6=>?_⟩
  ·rw[zg6 hi2 hib h6];exact .oA [] []
  ·refine⟨i+1,⟨oM,by rw[qT4 hi2 hib,hi.2,h6];rfl⟩,oM,?_⟩;exact .oA (U2 4096 4100) []
 ·have hil:i=a.kids.length:=by omega
  have h2:=hi.2;rw[hil,Bw,hl,Bw] at h2;rw[h2];exact .oA [] []
theorem qT5 (s:Sch) (hE:schE s=0) (c:Cnd) (hnd:NdOk s c) (ha:isAt c=true) (lev:Nat) (hl:(lev:Int)≤finI s c.col):Sp 188 [schT s,cnT c,vI lev] [] (vB (decB s c lev)) []:=by
 have hok:=qV hE;have hn0:=hok.nl;have hn1:=hok.nc;obtain⟨_,c1,c2,hfin⟩:=yc (s:=s) (c:=c.col) oM;obtain⟨i,hci⟩:=AJ (show 0≤c.col by omega);have hcn:c.col.toNat=i:=by omega
 have hil:i<s.cols.length:=by omega
 have hat:qg s i=s.cols[i]:=by rw[qg,qj hil]
 have hwd:=fun e l=>hok.wid hil oM e (lev:=l);have hlv:=KV s hok i hil;have hll:=qC0 hok hil;rw[hcn,hat] at hfin;rw[hat] at hwd hlv hll;have hi:isAt c=((c.op==2)||(c.op==3)||(c.op==4)):=rfl;have hD:decB s c lev=if c.op=2 then qa3 (qE s i).length (decP s c lev)
 else if c.op=4 then decide (0<lev)
 else if lev=0 then !s.cols[i].opt&&!(decide (s.cols[i].low<c.lo)&&decide (c.lo≤s.cols[i].high))&&!(decide (s.cols[i].low≤c.hi)&&decide (c.hi<s.cols[i].high))
  else (!(decide (s.cols[i].low<c.lo)&&decide (c.lo≤s.cols[i].high))||(c.lo.tmod (qK s.cols[i] lev)==0))&&(!(decide (s.cols[i].low≤c.hi)&&decide (c.hi<s.cols[i].high))||((c.hi+1).tmod (qK s.cols[i] lev)==0)):=by
  rw[decB,hcn,hat]
 have hk2:c.op=2→s.cols[i].kind=2:=fun h=>by
  have:=(zu.1 (hnd.under h).1).2.2;rw[hcn,hat] at this;exact this
 have hk3:c.op=3→s.cols[i].kind=3:=fun h=>by
  have:=(zu.1 (hnd.between h).1).2.2;rw[hcn,hat] at this;exact this
 have hPd:∀ L,qE s i=L→∀ j k,decP s c lev j k=!((qk s c.col lev (L.getD j 0)==qk s c.col lev (L.getD k 0))&&!(zg s c (L.getD j 0)==zg s c (L.getD k 0))):=fun L hL j k=>by rw[decP,hcn,hL]
 rw[hD];have hci2:vI c.col=vI i:=by rw[hci]
 refine sIr qH7 fun e _ hst=>?_;unfold Zm;simp only[tZ,↓uU,simprocAttr,hcn,qd hil];generalize s.cols[i]=x at hwd hlv hfin hll hk2 hk3 ⊢
 simp only[tZ,↓uU,simprocAttr,AY,Ak];refine⟨oM,fun h2=>?_,fun h2=>?_⟩
 ·rw[Aj h2];rw[← hci2] at hlv;refine C1.im (hlv (hk2 h2)) rF rF ?_;have hPd:=hPd _ rfl;generalize qE s i=L at hll hPd ⊢
  have hll:=hll (hk2 h2);refine sW ?_;refine qt mixm (α:=Nat) [9] (fun j=>j≤L.length∧qa3 j (decP s c lev)=true) (fun j=>[(9,vI j)]) (fun j=>[aR 4096 2 [schT s],aR 4100 6 [cnT c],aR 8216 7 [colT x]]) (fun j=>L.length-j) 0 ⟨oM,rfl⟩ ?_ fun j hj=>?_
  ·exact .oA (U3 4096 4100 8216) []
  obtain⟨j1,j2⟩:=hj;refine sD ?_;refine⟨fun h3=>?_,fun h3=>?_⟩
  ·have hj2:j<L.length:=by omega
   have hwj:=qh (i:=j) oM;have hgj:L.getD j 0=L[j]:=qj hj2;refine qt mixm (α:=Nat) [10] (fun k=>k≤j∧(List.range k).all (decP s c lev j)=true) (fun k=>[(10,vI k)]) (fun k=>[aR 4096 2 [schT s],aR 4100 6 [cnT c],aR 8216 7 [colT x]]) (fun k=>j-k) 0 ⟨oM,rfl⟩ ?_ fun k hk=>?_
   ·exact .oA (U3 4096 4100 8216) []
   obtain⟨k1,k2⟩:=hk;refine sD ?_;refine⟨fun h4=>?_,fun h4=>?_⟩
   ·have hk2:k<L.length:=by omega
    have hwk:=qh (i:=k) oM;have hgk:L.getD k 0=L[k]:=qj hk2;have hP:=hPd j k;rw[hgj,hgk] at hP;have hC1:=qe5 s hok c hnd L[j];have hC2:=qe5 s hok c hnd L[k];simp only[tZ,↓uU,simprocAttr,Ax,qd hj2,qd hk2];refine⟨oM,?_⟩;refine C1.im (jj s hok.sm c.col lev L[j]) rF rF ?_;simp only[tZ,↓uU,simprocAttr,Ax,qd hj2,qd hk2];refine⟨oM,?_⟩;refine C1.im (jj s hok.sm c.col lev L[k]) rF rF ?_;simp only[tZ,↓uU,simprocAttr,Ax,qd hj2,qd hk2];refine⟨fun _=>by omega,?_⟩;refine C2.im (fun _=>hC1) (fun _=>rfl) rF ?_;simp only[tZ,↓uU,simprocAttr,Ax,qd hj2,qd hk2];refine⟨fun _=>by omega,?_⟩;refine C2.im (fun _=>hC2) (fun _=>rfl) rF ?_;simp only[tZ,↓uU,simprocAttr,hwk,tD,Bj,Aw,AY,Ak];refine⟨kR,fun h5=>?_,fun h5=>?_⟩
    ·rw[zm9 hj2 (show k<j by omega) (by rw[hP];grind)];exact .oA [] []
    ·refine⟨k+1,⟨oM,?_⟩,oM,?_⟩
     ·rw[zm8,k2,hP];grind
     ·exact .oA (U3 4096 4100 8216) []
   ·have hkj:k=j:=by omega
    subst hkj;simp only[tZ,↓uU,simprocAttr,hwj];refine⟨k+1,⟨oM,?_⟩,oM,?_⟩
    ·rw[qB8,j2,k2];rfl
    ·exact .oA (U3 4096 4100 8216) []
  ·have hjl:j=L.length:=by omega
   subst hjl;rw[j2];exact .oA [] []
 rw[Aq h2];refine⟨fun h4=>?_,fun h4=>?_⟩
 ·rw[Aj h4];rw[show decide ((lev:Int)>0)=decide (0<lev) from by rw[Bool.eq_iff_iff,AZ,AZ];omega];exact .oA [] []
 rw[Aq h4];have h3:c.op=3:=by
  rw[hi] at ha;simp only[tD,AY] at ha;omega
 have hk3:=hk3 h3;have hb:=hnd.between h3;rw[Aq oM] at hfin;refine⟨kR,fun h5=>?_,fun h5=>?_⟩
 ·rw[Aj oM,show decide (c.lo>x.low)=decide (x.low<c.lo) from rfl];exact .oA [] []
 ·rw[Aq oM];have hw:=hwd oM lev oM;refine C1.im (yV x lev oM oM) rF rF ?_;have hwh:IntKind.i64.wrap (c.hi+1)=c.hi+1:=AK _ oM;simp only[tZ,↓uU,simprocAttr,hwh];rw[show decide (c.lo>x.low)=decide (x.low<c.lo) from rfl];refine⟨fun _=>by omega,fun _=>by omega,?_⟩;exact .oA [] []
theorem Yt {s:Sch} (hE:schE s=0) {i:Nat} (h1:0<i) (h2:i<s.cols.length) (hk:(qg s i).kind=2) {v:Int} (hv:v∈qE s i):qk s i (finI s i) v=v:=by
 have hok:=qV hE;obtain⟨d1,d2⟩:=hok.cdl h2 hk;have hf:finI s i=zy (qU s i)-1:=by
  rw[finI,Aq oM,Ax,Aj hk]
 have hh:=Wt hk d2 hv;obtain⟨j,j1,j2,rfl⟩:=(jp5 d2).1 hv;rw[qk,Aq,Ax,Aj hk,Aq (by rw[hh];simp),upC,Aq,hf,← j2,Ax,Ax,zT3 oM]
 ·rw[hf,← j2,Ax];omega
 ·rw[Ez,yi,hf,← j2];omega
theorem jO7 {s:Sch} (hE:schE s=0) {c:Cnd} (hnd:NdOk s c) (ha:isAt c=true):0≤finI s c.col∧decB s c (finI s c.col).toNat=true:=by
 have hok:=qV hE;have hlv:∀ k,isB s c.col k=true→2≤k→∃ i:Nat,c.col=i∧0<i∧i<s.cols.length∧(qg s i).kind=k:=fun k hb hk=>by
  obtain⟨b1,b2,b3⟩:=zu.1 hb;obtain⟨i,hci⟩:=AJ b1;rw[hci,Ax] at b3;refine⟨i,hci,?_,oM,b3⟩;refine Nat.pos_of_ne_zero fun e=>?_;subst e;have:=hok.c0;omega
 have hm:∀ i:Nat,0<i→i<s.cols.length→(qg s i).kind=3→finI s i=(qg s i).widths.length∧1≤(qg s i).widths.length:=fun i h1 h2 h3=>by
  refine⟨by rw[finI,Aq oM,Ax,Aq oM],?_⟩;have:=(zj (hok.cs i h2)).2.2.2.2 h3;unfold measE at this
  grind
 have hop:c.op=2∨c.op=3∨c.op=4:=by
  unfold isAt at ha;simp only[DZ,AY] at ha;omega
 rcases hop with h | h | h
 ·obtain⟨i,hci,h1,h2,hk⟩:=hlv 2 (hnd.under h).1 oM;obtain⟨d1,d2⟩:=hok.cdl h2 hk;have hf:finI s i=zy (qU s i)-1:=by
   rw[finI,Aq oM,Ax,Aj hk]
  have hf0:0≤finI s i:=by rw[hf,zT0 d2];omega
  rw[hci];refine⟨hf0,?_⟩;rw[decB,Aj h,hci,Ax,qa3,Bk];intro j hj;rw[Dk] at hj;rw[Bk];intro k hk2;rw[Dk] at hk2;have e:(((finI s i).toNat:Nat):Int)=finI s i:=by omega
  rw[decP,hci,Ax,e,qj hj,qj oM,Yt hE h1 h2 hk (AX _),Yt hE h1 h2 hk (AX _)]
  grind
 ·obtain⟨i,hci,h1,h2,hk⟩:=hlv 3 (hnd.between h).1 oM;obtain⟨m1,m2⟩:=hm i h1 h2 hk;have hw:=hok.wid h2 h1 oM (lev:=(qg s i).widths.length) oM;rw[hci,m1];refine⟨oM,?_⟩;rw[decB,Aq oM,Aq oM,hci,Ax,Ax];dsimp only;rw[Aq oM,hw.2.2.2.2.2.2.2];simp
 ·obtain⟨i,hci,h1,h2,hk⟩:=hlv 3 (hnd.miss h).1 oM;obtain⟨m1,m2⟩:=hm i h1 h2 hk;rw[hci,m1];refine⟨oM,?_⟩;rw[decB,Aq oM,Aj h,Ax];exact Cx oM
theorem Wx {s:Sch} (hE:schE s=0) {c:Cnd} (hnd:NdOk s c) (ha:isAt c=true):(decN s c:Int)≤finI s c.col∧decB s c (decN s c)=true∧(∀ m,m<decN s c→decB s c m=false):=by
 obtain⟨h1,h2⟩:=jO7 hE hnd ha;have h3:=JH (c:=c.col) hE;obtain⟨a,b,_,d⟩:=qo4 h2 64 0 oM oM;unfold decN;exact⟨oM,a,fun m hm=>d m oM hm⟩
def qJ3 (s:Sch):List Pk→Cnd→List Pk:=fun l a=>ZQ l a.col (decN s a)
theorem qT6 (s:Sch):∀ (L:List Cnd) (l:List Pk),(L.foldl (qJ3 s) l).length≤l.length+L.length
 | [],l=>BZ _
 | a::L,l=>by
   have h1:=qT6 s L (qJ3 s l a);have h2:=qv2 l a.col (decN s a);rw[Dw,CJ];unfold qJ3 at h1 ⊢
   omega
theorem qv3 (s:Sch) (hs:ki s) (hL:0<s.lists.length) (c:Cnd):Sp 125 [schT s,cnT c] [] (vPs (ji s c)) []:=by
 refine sIr qY8 fun e _ hst=>?_;unfold Ky;refine sW ?_;refine C1.im (ZR s hs hL c) rF rF ?_;simp only[tZ,↓uU,simprocAttr,Bj,Aw];refine⟨fun h=>?_,fun h=>?_⟩
 ·rw[ji,Aj h];exact .oA [] []
 obtain⟨hE,k2,k3,k4⟩:=JI h;have hal:=kY c 41 oM k2;have hao:=qk3 c k4;have hN:ji s c=(atsC c).foldl (qJ3 s) []:=by rw[ji,Aq (by rw[h];simp)];rfl
 rw[hN];refine C1.im (Ys c 41 oM oM k2) rF rF ?_;generalize atsC c=L at hal hao ⊢
 refine sW ?_;refine qt mixm (α:=Nat) [5,7,12] (fun i=>i≤L.length) (fun i=>[(5,vPs ((L.take i).foldl (qJ3 s) [])),(7,vI i)]) (fun i=>[aR 4096 2 [schT s]]) (fun i=>L.length-i) 0 oM ?_ fun i hi=>?_
 ·exact .oA (U1 4096) []
 have hlen:=qT6 s (L.take i) [];rw[Cz] at hlen;refine sD ?_;refine⟨fun h3=>?_,fun h3=>?_⟩
 ·have hi2:i<L.length:=by omega
  have hwi:=qh (i:=i) oM;obtain⟨hnd,ha⟩:=hao _ (AX hi2);obtain⟨n1,n2,n3⟩:=Wx hE hnd ha;have h59:=JH (c:=L[i].col) hE;refine qt mixm (α:=Nat) [8] (fun n=>n≤decN s L[i]) (fun n=>[(8,vI n)]) (fun n=>[aR 4096 2 [schT s]]) (fun n=>decN s L[i]-n) 0 oM ?_ fun n hn=>?_
  ·exact .oA (U1 4096) []
  have hwn:=qh (i:=n) oM;simp only[tZ,↓uU,simprocAttr,Ax,qd hi2,zh];refine⟨oM,?_⟩;refine C1.im (qT5 s hE L[i] hnd ha n oM) rF rF ?_;simp only[tZ,↓uU,simprocAttr,Bx,Bz,hwn];refine⟨kR,fun h4=>?_,fun h4=>?_⟩
  ·have:n≠decN s L[i]:=fun e=>by rw[e,n2] at h4;cases h4
   refine⟨n+1,oM,oM,?_⟩;exact .oA (U1 4096) []
  ·have:n=decN s L[i]:=by
    refine Nat.le_antisymm hn (Nat.le_of_not_lt fun e=>?_);rw[n3 n e] at h4;cases h4
   subst this;simp only[tZ,↓uU,simprocAttr,Ax,qd hi2,zh];refine⟨oM,?_⟩;refine C1.im (yY ((L.take i).foldl (qJ3 s) []) L[i].col (decN s L[i]) (by simp at hlen;omega)) rF rF ?_;simp only[tZ,↓uU,simprocAttr,hwi];refine⟨i+1,oM,oM,?_⟩;rw[qS hi2,Gq];show Le _ _ ⟨(5,vPs (ZQ ((L.take i).foldl (qJ3 s) []) L[i].col (decN s L[i])))::_,_⟩;exact .oA (U1 4096) []
 ·have hil:i=L.length:=by omega
  subst hil;rw[Bw];exact .oA [] []
theorem qC4 (s:Sch) (col kind:Int):Sp 203 [schT s,vI col,vI kind] [] (vB (isB s col kind)) []:=by
 by_cases h:0≤col∧col<s.cols.length
 ·obtain⟨i,rfl⟩:=AJ h.1;have hi:i<s.cols.length:=by omega
  have e1:decide ((i:Int)≥0)=true:=Cx oM;have e2:decide ((i:Int)<s.cols.length)=true:=Cx oM;have e3:isB s i kind=(s.cols[i].kind==kind):=by
   rw[isB,Ax,qg,qj hi,Cx h.1,Cx h.2];rfl
  refine sIr qn7 fun e _ hst=>?_;unfold Jt;simp only[tZ,↓uU,simprocAttr,e1,e2,Ax,qd hi];rw[e3];refine⟨oM,?_⟩;exact .oA [] []
 ·have e1:(decide (col≥0)&&decide (col<(s.cols.length:Int)))=false:=by
   rw[FK,Ay,Ay];omega
  have e3:isB s col kind=false:=by
   unfold isB;rw[show (decide (0≤col)&&decide (col<(s.cols.length:Int)))=false from e1];rfl
  rcases Nat.lt_or_ge col.toNat s.cols.length with hk | hk
  ·refine sIr qn7 fun e _ hst=>?_;unfold Jt;simp only[tZ,↓uU,simprocAttr,e1,qd hk];rw[e3];exact .oA [] []
  ·have hj:(s.cols.map colT).getD col.toNat .junk = .junk:=qv1 hk;refine sIr qn7 fun e _ hst=>?_;unfold Jt;simp only[tZ,↓uU,simprocAttr,e1,hj,List.drop_succ_cons,List.drop_nil];rw[e3];exact .oA [] []
theorem zB2 (s:Sch) (hs:ki s) (l:List Pk):Sp 204 [schT s,vPs l] [] (vI (JF s l)) []:=by
 refine sIr zm1 fun e _ hst=>?_;unfold Yh;refine sD ?_;refine⟨fun h=>?_,fun h=>?_⟩
 ·rw[JF,Aj oM];exact .oA [] []
 rw[JF,Aq oM];refine qt mixm (α:=Nat) [5,15] (fun i=>i≤l.length∧zW (dimE s l) i=0) (fun i=>[(5,vI i)]) (fun i=>[aR 4096 2 [schT s]]) (fun i=>l.length-i) 0 ⟨oM,rfl⟩ ?_ fun i hi=>?_
 ·exact .oA (U1 4096) []
 refine sD ?_;refine⟨fun h3=>?_,fun h3=>?_⟩
 ·have hi2:i<l.length:=by omega
  have hwi:=qh (i:=i) oM;have hpi:pkAt l i=l[i]:=by rw[pkAt,qj hi2]
  have hstep:=wj hi.2 hi2;have hnext:=jp hi.2;have hA:dimE s l i=if wD s l[i]≠0 then wD s l[i] else if isB s l[i].col 2=false then 7 else if ((l.take i).any fun x=>x.col==l[i].col)=true then 10 else 0:=by rw[dimE,hpi]
  simp only[tZ,↓uU,simprocAttr,Ax,qd hi2];refine⟨oM,?_⟩;refine C1.im (qF2 s hs l[i]) rF rF ?_;simp only[tZ,↓uU,simprocAttr,Bj,Aw];refine⟨kR,fun h4=>?_,fun h4=>?_⟩
  ·rw[Aj h4] at hA;rw[hstep (by rw[hA];exact h4),hA];exact .oA [] []
  rw[Aq (by rw[h4];simp)] at hA;simp only[tZ,↓uU,simprocAttr,Ax,qd hi2];refine⟨oM,?_⟩;refine C1.im (qC4 s l[i].col 2) rF rF ?_;simp only[tZ,↓uU,simprocAttr,Bx,Bz];refine⟨kR,fun h5=>?_,fun h5=>?_⟩
  ·rw[Aj h5] at hA;rw[hstep (by rw[hA];simp),hA];exact .oA [] []
  rw[Aq (by rw[h5];simp)] at hA;refine qt mixm (α:=Nat) [7] (fun k=>k≤i∧(l.take k).any (fun x=>x.col==l[i].col)=false) (fun k=>[(7,vI k)]) (fun k=>[aR 4096 2 [schT s]]) (fun k=>i-k) 0 ⟨oM,rfl⟩ ?_ fun k hk=>?_
  ·exact .oA (U1 4096) []
  refine sD ?_;refine⟨fun h6=>?_,fun h6=>?_⟩
  ·have hk2:k<l.length:=by omega
   have hwk:=qh (i:=k) oM;simp only[tZ,↓uU,simprocAttr,Ax,qd hi2,qd hk2,hwk];refine⟨oM,oM,kR,fun h7=>?_,fun h7=>?_⟩
   ·rw[Aj (DJ.2 ⟨l[k],List.mem_take_iff_getElem.2 ⟨k,oM,rfl⟩,h7⟩)] at hA;rw[hstep (by rw[hA];simp),hA];exact .oA [] []
   ·refine⟨k+1,⟨oM,zS hk2 hk.2 h7⟩,oM,?_⟩;exact .oA (U1 4096) []
  ·have hki:k=i:=by omega
   subst hki;rw[Aq (by rw[hk.2];simp)] at hA;simp only[tZ,↓uU,simprocAttr,hwi];refine⟨k+1,⟨oM,by rw[hnext,hA]⟩,oM,?_⟩;exact .oA (U1 4096) []
 ·have hil:i=l.length:=by omega
  subst hil;rw[hi.2];exact .oA [] []
theorem zn6 (s:Sch) (m:Int) (l:List Int):Sp 205 [schT s,vI m,vIs l] [] (vI (wG s m l)) []:=by
 refine sIr zb5 fun e _ hst=>?_;unfold KO;refine sD ?_;refine⟨fun h=>?_,fun h=>?_⟩
 ·rw[wG,Aj oM];exact .oA [] []
 rw[wG,Aq oM];refine qt mixm (α:=Nat) [7,15] (fun i=>i≤l.length∧zW (qS9 s m l) i=0) (fun i=>[(7,vI i)]) (fun i=>[aR 4096 2 [schT s]]) (fun i=>l.length-i) 0 ⟨oM,rfl⟩ ?_ fun i hi=>?_
 ·exact .oA (U1 4096) []
 refine sD ?_;refine⟨fun h3=>?_,fun h3=>?_⟩
 ·have hi2:i<l.length:=by omega
  have hwi:=qh (i:=i) oM;have hpi:l.getD i 0=l[i]:=qj hi2;have hstep:=wj hi.2 hi2;have hnext:=jp hi.2;have hA:qS9 s m l i=if isB s l[i] 3=false then 7 else if l[i]=m∨(l.take i).contains l[i]=true then 10 else 0:=by rw[qS9,hpi]
  have hH:=qS5 (l.take i) l[i] (by rw[Cz];omega);simp only[tZ,↓uU,simprocAttr,Ax,qd hi2];refine⟨oM,?_⟩;refine C1.im (qC4 s l[i] 3) rF rF ?_;simp only[tZ,↓uU,simprocAttr,Bx,Bz];refine⟨kR,fun h5=>?_,fun h5=>?_⟩
  ·rw[Aj h5] at hA;rw[hstep (by rw[hA];simp),hA];exact .oA [] []
  rw[Aq (by rw[h5];simp)] at hA;simp only[tZ,↓uU,simprocAttr,Ax,qd hi2,qc1,qO6];refine⟨oM,fun _=>by omega,fun _=>by omega,?_⟩;refine C2.im (fun _=>hH) (fun _=>rfl) rF ?_;simp only[tZ,↓uU,simprocAttr,tD,AY,Ak,hwi];refine⟨kR,fun h6=>?_,fun h6=>?_⟩
  ·rw[Aj h6] at hA;rw[hstep (by rw[hA];simp),hA];exact .oA [] []
  ·rw[Aq (by grind)] at hA;refine⟨i+1,⟨oM,by rw[hnext,hA]⟩,oM,?_⟩;exact .oA (U1 4096) []
 ·have hil:i=l.length:=by omega
  subst hil;rw[hi.2];exact .oA [] []
theorem zB3 (c:Cnd):Sp 147 [cnT c] [] (vB (KU c cnd0)) []:=by
 have h:=zB1 c cnd0 fun h=>.mk c (by rw[h];decide) (by rw[Dy.1 (show c.kids.length=0 from h)];simp);refine sIr zl6 fun e _ hst=>?_;unfold Yf;refine sW ?_;refine C1.shut [] h ?_ rF rfl ?_
 ·all_goals (try exact clA)
 refine sW ?_;exact .oA [] []
theorem zn7 (s:Sch) (hE:schE s=0) (hL:0<s.lists.length) (q:Qst):Sp 146 [schT s,qstT q] [] (vI (wv s q)) []:=by
 have hok:=qV hE;refine sIr za0 fun e _ hst=>?_;unfold KH;refine sW ?_;refine C1.im (qC4 s q.meas 3) rF rF ?_;simp only[tZ,↓uU,simprocAttr,AY,Ak];refine⟨fun h=>?_,fun h=>?_⟩
 ·rw[wv,Aj h];refine C1.im (zB2 s hok.sm q.dims) rF rF ?_;simp only[tZ,↓uU,simprocAttr,Bj,Aw];refine⟨fun h2=>?_,fun h2=>?_⟩
  ·rw[Aj h2];exact .oA [] []
  rw[Aq (by rw[h2];simp)];simp only[tZ,↓uU,simprocAttr,Bj,Aw,tD,Bx,Bz];refine⟨fun h3=>?_,fun h3=>?_⟩
  ·rw[Aj h3];exact .oA [] []
  ·rw[Aq (by grind)];exact .oA [] []
 rw[wv,Aq h];refine⟨fun h2=>?_,fun h2=>?_⟩
 ·rw[Aj h2];simp only[tZ,↓uU,simprocAttr,Bx,Bz];refine⟨fun h3=>?_,fun h3=>?_⟩
  ·rw[Aj h3];exact .oA [] []
  rw[Aq (by rw[h3];simp)];refine C1.im (zn6 s q.meas q.terms) rF rF ?_;refine sW ?_;exact .oA [] []
 rw[Aq h2];simp only[tZ,↓uU,simprocAttr,Bx,Bz];refine⟨fun h3=>?_,fun h3=>?_⟩
 ·rw[Aj h3];exact .oA [] []
 rw[Aq (by rw[h3];simp)];obtain⟨b1,b2,b3⟩:=zu.1 h3;have hil:q.meas.toNat<s.cols.length:=by omega
 rw[qg,qj hil];simp only[tZ,↓uU,simprocAttr,qd hil,tD];refine⟨oM,fun h4=>?_,fun h4=>?_⟩
 ·rw[Aj h4];exact .oA [] []
 rw[Aq h4];refine C1.im (ZR s hok.sm hL q.event) rF rF ?_;refine sW ?_;exact .oA [] []
theorem wK (s:Sch) (hs:ki s) (hL:0<s.lists.length) (q:Qst):Sp 81 [schT s,qstT q] [] (vI (qstE s q)) []:=by
 refine sIr qz8 fun e _ hst=>?_;unfold Qr;refine sW ?_;refine C1.im (wi s hs) rF rF ?_;simp only[tZ,↓uU,simprocAttr,Bj,Aw];refine⟨fun h=>?_,fun h=>?_⟩
 ·rw[qstE,Aj h];exact .oA [] []
 rw[qstE,Aq (by rw[h];simp)];refine C1.im (yh q.name) rF rF ?_;simp only[tZ,↓uU,simprocAttr,Bx,Bz];refine⟨fun h2=>?_,fun h2=>?_⟩
 ·rw[Aj h2];exact .oA [] []
 rw[Aq (by rw[h2];simp)];refine sD ?_;refine⟨fun h3=>?_,fun h3=>?_⟩
 ·rw[Aj oM];exact .oA [] []
 rw[Aq oM];refine C1.im (ZR s hs hL q.filt) rF rF ?_;simp only[tZ,↓uU,simprocAttr,Bj,Aw];refine⟨fun h4=>?_,fun h4=>?_⟩
 ·rw[Aj h4];exact .oA [] []
 rw[Aq (by rw[h4];simp)];refine C1.im (zn7 s h hL q) rF rF ?_;simp only[tZ,↓uU,simprocAttr,Bj,Aw];refine⟨fun h5=>?_,fun h5=>?_⟩
 ·rw[Aj h5];exact .oA [] []
 rw[Aq (by rw[h5];simp)];refine C2.im (fun _=>zB3 q.event) (fun _=>rfl) rF ?_;simp only[tZ,↓uU,simprocAttr,tD,Bj,Aw,Bx,Bz];refine⟨fun h6=>?_,fun h6=>?_⟩
 ·rw[Aj (by grind)];exact .oA [] []
 ·rw[Aq (by grind)];exact .oA [] []
theorem qv4 (s:Sch) (hs:ki s) (hL:0<s.lists.length) (d:Dcl):Sp 61 [schT s,dclT d] [] (vI (dclE s d)) []:=by
 refine sIr qW8 fun e _ hst=>?_;unfold Ko;refine sW ?_;refine C1.im (wi s hs) rF rF ?_;simp only[tZ,↓uU,simprocAttr,Bj,Aw];refine⟨fun h=>?_,fun h=>?_⟩
 ·rw[dclE,Aj h];exact .oA [] []
 rw[dclE,Aq (by rw[h];simp)];refine C1.im (yh d.proj) rF rF ?_;refine sW ?_;refine C2.im (fun _=>yh d.src) (fun _=>rfl) rF ?_;simp only[tZ,↓uU,simprocAttr,tD,Bx,Bz];refine⟨fun h2=>?_,fun h2=>?_⟩
 ·rw[Aj h2];exact .oA [] []
 rw[Aq (by grind)];refine C1.im (ZR s hs hL d.coh) rF rF ?_;simp only[tZ,↓uU,simprocAttr,Bj,Aw];refine⟨fun h3=>?_,fun h3=>?_⟩
 ·rw[Aj h3];exact .oA [] []
 rw[Aq (by rw[h3];simp)];refine sD ?_;refine⟨fun h4=>?_,fun h4=>?_⟩
 ·rw[Aj (by unfold smpE;grind)];exact .oA [] []
 rw[Aq (by unfold smpE;grind)];refine⟨fun h5=>?_,fun h5=>?_⟩
 ·rw[Aj oM];exact .oA [] []
 rw[Aq oM];refine qt mixm (α:=Nat) [8,74] (fun i=>i≤d.qs.length∧zW (qsE s d.qs) i=0) (fun i=>[(8,vI i)]) (fun i=>[aR 4096 2 [schT s],aR 4100 12 [dclT d]]) (fun i=>d.qs.length-i) 0 ⟨oM,rfl⟩ ?_ fun i hi=>?_
 ·exact .oA (U2 4096 4100) []
 refine sD ?_;refine⟨fun h6=>?_,fun h6=>?_⟩
 ·have hi2:i<d.qs.length:=by omega
  have hwi:=qh (i:=i) oM;have hpi:qAt d.qs i=d.qs[i]:=by rw[qAt,qj hi2]
  have hstep:=wj hi.2 hi2;have hnext:=jp hi.2;have hA:qsE s d.qs i=if qstE s d.qs[i]≠0 then qstE s d.qs[i] else if ((d.qs.take i).any fun x=>eqB x.name d.qs[i].name)=true then 10 else 0:=by rw[qsE,hpi]
  simp only[tZ,↓uU,simprocAttr,Ax,qd hi2];refine⟨oM,?_⟩;refine C1.im (wK s hs hL d.qs[i]) rF rF ?_;simp only[tZ,↓uU,simprocAttr,Bj,Aw];refine⟨kR,fun h7=>?_,fun h7=>?_⟩
  ·rw[Aj h7] at hA;rw[hstep (by rw[hA];exact h7),hA];exact .oA [] []
  rw[Aq (by rw[h7];simp)] at hA;refine qt mixm (α:=Nat) [10] (fun k=>k≤i∧(d.qs.take k).any (fun x=>eqB x.name d.qs[i].name)=false) (fun k=>[(10,vI k)]) (fun k=>[aR 4096 2 [schT s],aR 4100 12 [dclT d]]) (fun k=>i-k) 0 ⟨oM,rfl⟩ ?_ fun k hk=>?_
  ·exact .oA (U2 4096 4100) []
  refine sD ?_;refine⟨fun h8=>?_,fun h8=>?_⟩
  ·have hk2:k<d.qs.length:=by omega
   have hwk:=qh (i:=k) oM;simp only[tZ,↓uU,simprocAttr,Ax,qd hi2,qd hk2,hwk];refine⟨oM,oM,kR,fun h9=>?_,fun h9=>?_⟩
   ·rw[Aj (DJ.2 ⟨d.qs[k],List.mem_take_iff_getElem.2 ⟨k,oM,rfl⟩,h9⟩)] at hA;rw[hstep (by rw[hA];simp),hA];exact .oA [] []
   ·refine⟨k+1,⟨oM,zS hk2 hk.2 h9⟩,oM,?_⟩;exact .oA (U2 4096 4100) []
  ·have hki:k=i:=by omega
   subst hki;rw[Aq (by rw[hk.2];simp)] at hA;simp only[tZ,↓uU,simprocAttr,hwi];refine⟨k+1,⟨oM,by rw[hnext,hA]⟩,oM,?_⟩;exact .oA (U2 4096 4100) []
 ·have hil:i=d.qs.length:=by omega
  subst hil;rw[hi.2];exact .oA [] []
theorem qe6 (q:Qst) (k:Int) (ht:q.terms.length<4611686018427387904):Sp 84 [qstT q,vI k] [] (vB (qB9 q k)) []:=by
 refine sIr zk7 fun e _ hst=>?_;unfold WW;refine sW ?_;refine C2.im (fun _=>qS5 q.terms k ht) (fun _=>rfl) rF ?_;refine sW ?_;rw[show (q.meas==k||q.terms.contains k)=qB9 q k from rfl];exact .oA [] []
theorem qe7:∀ (m l:List Pk),(yp l m).length≤l.length+m.length
 | [],l=>BZ _
 | p::m,l=>by
   have h1:=qe7 m (ZQ l p.col p.lev);have h2:=qv2 l p.col p.lev;unfold yp at h1 ⊢
   rw[Dw,CJ];omega
theorem zg7 (l m:List Pk) (p:Pk):yp l (m++[p])=ZQ (yp l m) p.col p.lev:=by rw[yp,Gq];rfl
theorem qe8 (s:Sch) (c:Cnd):(ji s c).length≤40:=by
 unfold ji;split
 ·simp
 ·rename_i h;obtain⟨hE,k2,k3,k4⟩:=JI (AQ h);have h1:=kY c 41 oM k2;have h2:=qT6 s (atsC c) [];simp only[Cw] at h2;unfold qJ3 at h2;omega
structure QstOk (s:Sch) (q:Qst):Prop where
 sch:schE s=0
 kind:1≤q.kind∧q.kind≤3
 filt:chkC s q.filt=0
 dims:q.kind=1→JF s q.dims=0∧(q.meas = -1∨isB s q.meas 3=true)
 nd:q.dims.length≤3
 terms:q.kind=2→isB s q.meas 3=true∧wG s q.meas q.terms=0
 nt:q.terms.length≤3
 event:q.kind=3→isB s q.meas 3=true∧0≤(qg s q.meas.toNat).low∧chkC s q.event=0
 d0:q.kind≠1→q.dims=[]
 t0:q.kind≠2→q.terms=[]
 e0:q.kind≠3→KU q.event cnd0=true
theorem wE {s:Sch} {q:Qst} (h:qstE s q=0):QstOk s q:=by
 unfold qstE at h;split at h
 ·rename_i h1;exact absurd h h1
 rename_i h1;split at h
 ·cases h
 rename_i h2;split at h
 ·cases h
 rename_i h3;split at h
 ·rename_i h4;exact absurd h h4
 rename_i h4;split at h
 ·rename_i h5;exact absurd h h5
 rename_i h5;split at h
 ·cases h
 rename_i h6;have hp:wv s q=0:=AQ h5;unfold wv at hp;have hd:q.kind=1→JF s q.dims=0∧(q.meas = -1∨isB s q.meas 3=true):=fun k=>by
  rw[Aj k] at hp
  grind
 have ht:q.kind=2→isB s q.meas 3=true∧wG s q.meas q.terms=0:=fun k=>by
  rw[Aq oM,Aj k] at hp
  grind
 have hd0:q.kind≠1→q.dims=[]:=fun k=>Dy.1 oM;have ht0:q.kind≠2→q.terms=[]:=fun k=>Dy.1 oM;refine⟨AQ h1,oM,AQ h4,hd,?_,ht,?_,fun k=>?_,hd0,ht0,fun k=>?_⟩
 ·by_cases k:q.kind=1
  ·have:=(hd k).1;unfold JF at this
   grind
  ·rw[hd0 k];simp
 ·by_cases k:q.kind=2
  ·have:=(ht k).2;unfold wG at this
   grind
  ·rw[ht0 k];simp
 ·rw[Aq oM,Aq oM] at hp
  grind
 ·grind
theorem qh0 (s:Sch):∀ (m l:List Pk),(m.foldl (fun l p=>ZQ l p.col (zR s p.col p.lev)) l).length≤l.length+m.length
 | [],l=>BZ _
 | p::m,l=>by
   have h1:=qh0 s m (ZQ l p.col (zR s p.col p.lev));have h2:=qv2 l p.col (zR s p.col p.lev);rw[Dw,CJ];omega
theorem qC5 (s:Sch) (q:Qst):∀ (m:List Nat) (l:List Pk),(m.foldl (yX s q) l).length≤l.length+m.length
 | [],l=>BZ _
 | k::m,l=>by
   have h1:=qC5 s q m (yX s q l k);have h2:(yX s q l k).length≤l.length+1:=by
    unfold yX;split
    ·exact qv2 _ _ _
    ·omega
   rw[Dw,CJ];omega
def zg8 (s:Sch) (q:Qst):List Pk:=if q.kind=3 then yp (ji s q.filt) (ji s q.event) else ji s q.filt
theorem zg9 (s:Sch) (q:Qst):(zg8 s q).length≤80:=by
 have h1:=qe8 s q.filt;have h2:=qe8 s q.event;have h3:=qe7 (ji s q.event) (ji s q.filt);unfold zg8;split <;> omega
theorem qe9 (s:Sch) (q:Qst):(jU s q).length≤100:=by
 unfold jU jO6;split
 ·simp
 ·rename_i h;have hq:=wE (AQ h);have h1:=zg9 s q;unfold zg8 at h1;have h2:=qh0 s q.dims (if q.kind=3 then yp (ji s q.filt) (ji s q.event) else ji s q.filt);have h3:=qC5 s q (List.range (s.cols.length-1)) (q.dims.foldl (fun l p=>ZQ l p.col (zR s p.col p.lev)) (if q.kind=3 then yp (ji s q.filt) (ji s q.event) else ji s q.filt));have h4:=(qV hq.sch).nc;have h5:=hq.nd;rw[List.length_range] at h3;omega
theorem qv5 (s:Sch) (hs:ki s) (hL:0<s.lists.length) (q:Qst):Sp 62 [schT s,qstT q] [] (vPs (jU s q)) []:=by
 refine sIr qX0 fun e _ hst=>?_;unfold Kp;refine sW ?_;refine C1.im (wK s hs hL q) rF rF ?_;simp only[tZ,↓uU,simprocAttr,Bj,Aw];refine⟨fun h=>?_,fun h=>?_⟩
 ·rw[jU,Aj h];exact .oA [] []
 have hq:=wE h;have hnc:=(qV hq.sch).nc;have hnd:=hq.nd;have hnt:=hq.nt;have hN:jU s q=(List.range (s.cols.length-1)).foldl (yX s q) (q.dims.foldl (fun l p=>ZQ l p.col (zR s p.col p.lev)) (zg8 s q)):=by
  rw[jU,Aq (by rw[h];simp)];rfl
 have h0:=zg9 s q;have hQ0:zg8 s q=if q.kind=3 then yp (ji s q.filt) (ji s q.event) else ji s q.filt:=rfl
 rw[hN];generalize zg8 s q=A at h0 hQ0 ⊢
 refine C1.im (qv3 s hs hL q.filt) rF rF ?_;have hcl:=qe8 s q.filt;generalize ji s q.filt=C at hQ0 hcl ⊢
 simp only[tZ,↓uU,simprocAttr,AY,Ak];apply mid
 ·intro hmain;refine⟨fun h1=>?_,fun h1=>?_⟩
  ·rw[Aj h1] at hQ0;refine C1.im (qv3 s hs hL q.event) rF rF ?_;have hel:=qe8 s q.event;generalize ji s q.event=V at hQ0 hel ⊢
   refine sW ?_;refine qt mixm (α:=Nat) [5,7,20] (fun i=>i≤V.length) (fun i=>[(5,vPs (yp C (V.take i))),(7,vI i)]) (fun i=>[aR 4096 2 [schT s],aR 4100 17 [qstT q]]) (fun i=>V.length-i) 0 oM ?_ fun i hi=>?_
   ·exact .oA (U2 4096 4100) []
   have hrl:=qe7 (V.take i) C;rw[Cz] at hrl;refine sD ?_;refine⟨fun h3=>?_,fun h3=>?_⟩
   ·have hi2:i<V.length:=by omega
    have hwi:=qh (i:=i) oM;simp only[tZ,↓uU,simprocAttr,Ax,qd hi2];refine⟨oM,oM,?_⟩;refine C1.im (yY (yp C (V.take i)) V[i].col V[i].lev oM) rF rF ?_;simp only[tZ,↓uU,simprocAttr,hwi];refine⟨kR,i+1,oM,oM,?_⟩;rw[qS hi2,zg7];exact .oA (U2 4096 4100) []
   ·have hil:i=V.length:=by omega
    subst hil;rw[Bw,← hQ0];exact hmain
  ·rw[Aq h1] at hQ0;rw[← hQ0];exact hmain
 ·clear hQ0;refine qt mixm (α:=Nat) [5,8] (fun i=>i≤q.dims.length) (fun i=>[(5,vPs ((q.dims.take i).foldl (fun l p=>ZQ l p.col (zR s p.col p.lev)) A)),(8,vI i)]) (fun i=>[aR 4096 2 [schT s],aR 4100 17 [qstT q]]) (fun i=>q.dims.length-i) 0 oM ?_ fun i hi=>?_
  ·exact .oA (U2 4096 4100) []
  have hrl:=qh0 s (q.dims.take i) A;rw[Cz] at hrl;refine sD ?_;refine⟨fun h3=>?_,fun h3=>?_⟩
  ·have hi2:i<q.dims.length:=by omega
   have hwi:=qh (i:=i) oM;simp only[tZ,↓uU,simprocAttr,Ax,qd hi2];refine⟨oM,oM,oM,?_⟩;refine C1.im (qv0 s hs q.dims[i].col q.dims[i].lev) rF rF ?_;refine sW ?_;refine C1.im (yY _ q.dims[i].col (zR s q.dims[i].col q.dims[i].lev) oM) rF rF ?_;simp only[tZ,↓uU,simprocAttr,hwi];refine⟨kR,i+1,oM,oM,?_⟩;rw[qS hi2,Gq];simp only[Dw,List.foldl_nil];exact .oA (U2 4096 4100) []
  ·have hil:i=q.dims.length:=by omega
   subst hil;rw[Bw];have hB:=qh0 s q.dims A;generalize q.dims.foldl (fun l p=>ZQ l p.col (zR s p.col p.lev)) A=B at hB ⊢
   refine qt mixm (α:=Nat) [5,9] (fun i=>i≤s.cols.length-1) (fun i=>[(5,vPs ((List.range i).foldl (yX s q) B)),(9,vI ((i+1:Nat):Int))]) (fun i=>[aR 4096 2 [schT s],aR 4100 17 [qstT q]]) (fun i=>s.cols.length-1-i) 0 oM ?_ fun i hi=>?_
   ·exact .oA (U2 4096 4100) []
   have hrl:=qC5 s q (List.range i) B;rw[List.length_range] at hrl;have hsu:(List.range (i+1)).foldl (yX s q) B=yX s q ((List.range i).foldl (yX s q) B) i:=by rw[List.range_succ,Gq];rfl
   have hwi:=qh (i:=i+1) oM;have hU:=qe6 q ((i+1:Nat):Int) oM;refine sD ?_;refine⟨fun h3=>?_,fun h3=>?_⟩
   ·refine C1.im hU rF rF ?_;refine sW ?_;refine⟨fun h4=>?_,fun h4=>?_⟩
    ·have hsu:(List.range (i+1)).foldl (yX s q) B=ZQ ((List.range i).foldl (yX s q) B) ((i+1:Nat):Int) (zR s ((i+1:Nat):Int) (finI s ((i+1:Nat):Int))):=by
      rw[hsu,yX];exact Aj h4
     refine C1.im (ko s hs ((i+1:Nat):Int)) rF rF ?_;refine sW ?_;refine C1.im (qv0 s hs ((i+1:Nat):Int) (finI s ((i+1:Nat):Int))) rF rF ?_;refine sW ?_;refine C1.im (yY _ ((i+1:Nat):Int) (zR s ((i+1:Nat):Int) (finI s ((i+1:Nat):Int))) oM) rF rF ?_;simp only[tZ,↓uU,simprocAttr,hwi];refine⟨kR,i+1,oM,oM,?_⟩;rw[hsu];exact .oA (U2 4096 4100) []
    ·have hsu:(List.range (i+1)).foldl (yX s q) B=(List.range i).foldl (yX s q) B:=by
      rw[hsu,yX];exact Aq (by show ¬ qB9 q ((i+1:Nat):Int)=true;rw[h4];simp)
     simp only[tZ,↓uU,simprocAttr,hwi];refine⟨i+1,oM,oM,?_⟩;rw[hsu];exact .oA (U2 4096 4100) []
   ·have hil:i=s.cols.length-1:=by omega
    subst hil;exact .oA [] []
theorem qT7 (s:Sch) (hs:ki s) (hL:0<s.lists.length) (q:Qst) (l:List Pk) (hl:l.length<4611686018427387904):Sp 66 [schT s,qstT q,vPs l] [] (vB (sufB s q l)) []:=by
 have hnl:=qe9 s q;refine sIr qG6 fun e _ hst=>?_;unfold Ze;refine sW ?_;refine C1.im (wK s hs hL q) rF rF ?_;refine sW ?_;refine C2.im (fun _=>qu8 s hs l hl) (fun _=>rfl) rF ?_;refine sW ?_;refine C2.im (fun _=>qv5 s hs hL q) (fun _=>rfl) rF ?_;refine sW ?_;refine C2.im (fun _=>qk4 (jU s q) l oM hl) (fun _=>rfl) rF ?_;refine sW ?_;rw[show (qstE s q==0&&yW s l==0&&covB (jU s q) l)=sufB s q l from rfl];exact .oA [] []
def zn8 (s:Sch):List Pk→Qst→List Pk:=fun l q=>yp l (jU s q)
theorem qT8 (s:Sch):∀ (m:List Qst) (l:List Pk),(m.foldl (zn8 s) l).length≤l.length+100*m.length
 | [],l=>BZ _
 | q::m,l=>by
   have h1:=qT8 s m (zn8 s l q);have h2:=qe7 (jU s q) l;have h3:=qe9 s q;rw[Dw,CJ];unfold zn8 at h1 ⊢
   omega
theorem qv6 (s:Sch) (d:Dcl):(zU s d).length≤800:=by
 unfold zU;split
 ·simp
 ·rename_i h;have hd:=JG (AQ h);have:=qT8 s d.qs [];simp only[Cw] at this;unfold zn8 at this;omega
theorem qF3 (s:Sch) (hs:ki s) (hL:0<s.lists.length) (d:Dcl):Sp 15 [schT s,dclT d] [] (.tup [vPs (zU s d),vI (dclE s d)]) []:=by
 refine sIr zk4 fun e _ hst=>?_;unfold WR;refine sW ?_;refine C1.im (qv4 s hs hL d) rF rF ?_;simp only[tZ,↓uU,simprocAttr,Bj,Aw];refine⟨fun h=>?_,fun h=>?_⟩
 ·rw[zU,Aj h];exact .oA [] []
 obtain⟨hE,_,_,_,_,hq1,hq2,_⟩:=JG h;have hP:zU s d=d.qs.foldl (zn8 s) []:=by rw[zU,Aq (by rw[h];simp)];rfl
 rw[hP,h];refine qt mixm (α:=Nat) [7,8,6] (fun i=>i≤d.qs.length) (fun i=>[(7,vPs ((d.qs.take i).foldl (zn8 s) [])),(8,vI i)]) (fun i=>[aR 4096 2 [schT s],aR 4100 12 [dclT d]]) (fun i=>d.qs.length-i) 0 oM ?_ fun i hi=>?_
 ·exact .oA (U2 4096 4100) []
 have hpl:=qT8 s (d.qs.take i) [];rw[Cz,Cw] at hpl;refine sD ?_;refine⟨fun h3=>?_,fun h3=>?_⟩
 ·have hi2:i<d.qs.length:=by omega
  have hwi:=qh (i:=i) oM;have hsu:(d.qs.take (i+1)).foldl (zn8 s) []=yp ((d.qs.take i).foldl (zn8 s) []) (jU s d.qs[i]):=by rw[qS hi2,Gq];rfl
  simp only[tZ,↓uU,simprocAttr,Ax,qd hi2];refine⟨oM,?_⟩;refine C1.im (qv5 s hs hL d.qs[i]) rF rF ?_;have hnl:=qe9 s d.qs[i];generalize jU s d.qs[i]=V at hsu hnl ⊢
  generalize (d.qs.take i).foldl (zn8 s) []=C at hsu hpl ⊢
  refine sW ?_;refine⟨kR,?_⟩;refine qt mixm (α:=Nat) [7,10] (fun k=>k≤V.length) (fun k=>[(7,vPs (yp C (V.take k))),(10,vI k)]) (fun k=>[aR 4096 2 [schT s],aR 4100 12 [dclT d]]) (fun k=>V.length-k) 0 oM ?_ fun k hk=>?_
  ·exact .oA (U2 4096 4100) []
  have hrl:=qe7 (V.take k) C;rw[Cz] at hrl;refine sD ?_;refine⟨fun h4=>?_,fun h4=>?_⟩
  ·have hk2:k<V.length:=by omega
   have hwk:=qh (i:=k) oM;simp only[tZ,↓uU,simprocAttr,Ax,qd hk2];refine⟨oM,oM,?_⟩;refine C1.im (yY (yp C (V.take k)) V[k].col V[k].lev oM) rF rF ?_;simp only[tZ,↓uU,simprocAttr,hwk];refine⟨kR,k+1,oM,oM,?_⟩;rw[qS hk2,zg7];exact .oA (U2 4096 4100) []
  ·have hkl:k=V.length:=by omega
   subst hkl;rw[Bw,← hsu];simp only[tZ,↓uU,simprocAttr,hwi];refine⟨i+1,oM,oM,?_⟩;exact .oA (U2 4096 4100) []
 ·have hil:i=d.qs.length:=by omega
  subst hil;rw[Bw];exact .oA [] []
theorem zn9 (s:Sch) (hs:ki s) (hL:0<s.lists.length) (d:Dcl) (l:List Pk) (hl:l.length<4611686018427387904):Sp 18 [schT s,dclT d,vPs l] [] (vI (qT0 s d l)) []:=by
 refine sIr qW4 fun e _ hst=>?_;unfold Km;refine sW ?_;refine C1.im (qv4 s hs hL d) rF rF ?_;simp only[tZ,↓uU,simprocAttr,Bj,Aw];refine⟨fun h=>?_,fun h=>?_⟩
 ·rw[qT0,Aj h];exact .oA [] []
 obtain⟨hE,_,_,_,_,hq1,hq2,_⟩:=JG h;rw[qT0,Aq (by rw[h];simp)];refine C1.im (qu8 s hs l hl) rF rF ?_;simp only[tZ,↓uU,simprocAttr,Bj,Aw];refine⟨fun h2=>?_,fun h2=>?_⟩
 ·rw[Aj h2];exact .oA [] []
 rw[Aq (by rw[h2];simp)];refine qt mixm (α:=Nat) [9,7,8] (fun i=>i≤d.qs.length∧zW (fun i=>if sufB s (qAt d.qs i) l=true then 0 else 23) i=0) (fun i=>[(9,vI i)]) (fun i=>[aR 4096 2 [schT s],aR 4100 12 [dclT d]]) (fun i=>d.qs.length-i) 0 ⟨oM,rfl⟩ ?_ fun i hi=>?_
 ·exact .oA (U2 4096 4100) []
 refine sD ?_;refine⟨fun h3=>?_,fun h3=>?_⟩
 ·have hi2:i<d.qs.length:=by omega
  have hwi:=qh (i:=i) oM;have hpi:qAt d.qs i=d.qs[i]:=by rw[qAt,qj hi2]
  have hstep:=wj hi.2 hi2;have hnext:=jp hi.2;rw[hpi] at hstep hnext;simp only[tZ,↓uU,simprocAttr,Ax,qd hi2];refine⟨oM,?_⟩;refine C1.im (qT7 s hs hL d.qs[i] l hl) rF rF ?_;simp only[tZ,↓uU,simprocAttr,Bx,Bz,hwi];refine⟨kR,fun h4=>?_,fun h4=>?_⟩
  ·rw[Aq (by rw[h4];simp)] at hstep;rw[hstep (by decide)];exact .oA [] []
  ·rw[Aj h4] at hnext;refine⟨i+1,⟨oM,hnext⟩,oM,?_⟩;exact .oA (U2 4096 4100) []
 ·have hil:i=d.qs.length:=by omega
  subst hil;rw[hi.2];exact .oA [] []
def hd (r:List Int):Int:=r.getD 0 0
def putS (row:List Int):List (List Int)×Bool→List Int→List (List Int)×Bool:=fun x r=>
 if hd r=hd row then x
 else if hd r>hd row∧x.2=false then (x.1++[row]++[r],true)
 else (x.1++[r],x.2)
def putR (l:List (List Int)) (row:List Int):List (List Int):=
 let x:=l.foldl (putS row) ([],false)
 if x.2 then x.1 else x.1++[row]
def atR (id:Int) (r:List Int):Bool:=decide (0<r.length)&&(hd r==id)
def jV0 (s:Src) (id:Int):Int:=if s.rows.any (atR id)=true then (s.rows.findIdx (atR id):Int) else -1
def asc2 (l:List Int) (i:Nat):Bool:=decide (i=0)||decide (l.getD (i-1) 0<l.getD i 0)
def jO8 (s:Src):Bool:=(List.range s.rows.length).all fun i=>(rowE s.sch (s.rows.getD i [])==0)&&(decide (i=0)||decide (hd (s.rows.getD (i-1) [])<hd (s.rows.getD i [])))
def jV1 (s:Src):Bool:=(List.range s.gone.length).all fun i=>decide (1≤s.gone.getD i 0)&&decide (s.gone.getD i 0≤1048575)&&asc2 s.gone i&&decide (jV0 s (s.gone.getD i 0)<0)
def srcB (s:Src):Bool:=(schE s.sch==0)&&decide (s.rows.length≤200)&&decide (s.gone.length≤300)&&decide (0≤s.ver)&&decide (s.ver≤300)&&jO8 s&&jV1 s
def AscR (l:List (List Int)):Prop:=l.Pairwise fun a b=>hd a<hd b
structure SrcOk (s:Src):Prop where
 sch:schE s.sch=0
 nr:s.rows.length≤200
 ng:s.gone.length≤300
 ver:0≤s.ver∧s.ver≤300
 rows:∀ r∈s.rows,rowE s.sch r=0
 asc:AscR s.rows
 gone:∀ g∈s.gone,1≤g∧g≤1048575∧jV0 s g<0
 gasc:s.gone.Pairwise fun a b=>a<b
open So
set_option maxRecDepth 4000
def iter {α:Type} (f:α→α):Nat→α→α
 | 0,x=>x
 | n+1,x=>f (iter f n x)
def tie (p:Int×Int):Int:=p.1*1024+p.2
def cut (n:Int):Int×Int:=(n / 1024,n % 1024)
def drw0 (seed id:Int):Int:=IntKind.u64.wrap (IntKind.u64.wrap (IntKind.u64.wrap (IntKind.u64.wrap seed*2654435761)+IntKind.u64.wrap (IntKind.u64.wrap id*40503))+97)
def drwA (h:Int):Int:=IntKind.u64.wrap (IntKind.u64.wrap (h*6364136223846793005)+1442695040888963407)
def drwX (h:Int):Int:=xorI .u64 (drwA h) (shrI .u64 (drwA h) 29)
def drwI (seed id:Int):Int:=IntKind.i64.wrap (shrI .u64 (iter drwX 3 (drw0 seed id)) 32)
def inS (x:Smp) (id:Int):Bool:=(smpE x==0)&&decide (1≤id)&&decide (id≤1048575)&&decide ((drwI x.seed id).tmod x.of<x.part)
def ownP (s:Src) (d:Dcl) (r:List Int):Bool:=(jX9 s.sch d.coh r==1)&&inS d.smp (hd r)
def ownR (s:Src) (d:Dcl):List (List Int):=if srcB s=false∨dclE s.sch d≠0 then [] else s.rows.filter (ownP s d)
def ownS (s:Src) (d:Dcl):List Int:=(ownR s d).map hd
def buildE (s:Src) (d:Dcl) (l:List Pk) (k:Int):Int:=if srcB s=false then 13 else if qT0 s.sch d l≠0 then qT0 s.sch d l else if k<0∨k≥1152921504606846976 then 2 else 0
end Go.Proofs
