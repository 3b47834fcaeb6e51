/- A part of the proof: C13 SB1. -/
import Derived.Test.YtomoecbcgacncaaGreatDoorK18
namespace Go.Proofs
open Go Go.TL
set_option maxRecDepth 4000
set_option maxHeartbeats 8000000
open So
def dupB (l:List (List Int)):Bool:=!decide ((l.map hd).Nodup)
def newL (l:List (List Int)):List (List Int):=l.foldl putR []
def newE (s:Sch) (l:List (List Int)):Int:=
 if schE s≠0 then schE s else if l.length>200 then 1 else if (l.any fun r=>rowE s r != 0)=true then 9 else if dupB l=true then 10 else 0
def newS (s:Sch) (l:List (List Int)):Src:=if newE s l≠0 then src0 else ⟨s,newL l,[],0⟩
theorem qe7:∀ (l a:List (List Int)),AscR a→((a++l).map hd).Nodup→AscR (l.foldl putR a)∧∀ x,x∈l.foldl putR a↔x∈a∨x∈l
 | [],a,h,_=>⟨h,fun x=>by simp⟩
 | r::l,a,h,hn=>by
   have hn1:∀ x∈a,hd x≠hd r:=fun x hx e=>by
    rw[By,List.map_cons,List.nodup_append] at hn;exact hn.2.2 (hd x) (Cj.2 ⟨x,hx,rfl⟩) (hd r) sMp e
   have hm:∀ x,x∈putR a r↔x=r∨x∈a:=fun x=>by
    rw[Yw h];constructor
    ·rintro (k | ⟨k,_⟩)
     ·exact .inl k
     ·exact .inr k
    ·rintro (k | k)
     ·exact .inl k
     ·exact .inr ⟨k,hn1 x k⟩
   have hp:(putR a r).Perm (r::a):=by
    rw[qI5 h];have e1:(a.filter fun x=>decide (hd r<hd x))=a.filter fun x=>!decide (hd x<hd r):=List.filter_congr fun x hx=>by
     have:=hn1 x hx;rw[Bool.eq_iff_iff,AZ,Bx,Ay];omega
    rw[e1];exact List.perm_middle.trans ((List.filter_append_perm (fun x=>decide (hd x<hd r)) a).cons r)
   have hn2:((putR a r++l).map hd).Nodup:=by
    have h1:(putR a r++l).Perm (a++r::l):=(hp.append_right l).trans (by rw[BW];exact List.perm_middle.symm);exact (h1.map hd).nodup_iff.2 hn
   obtain⟨k1,k2⟩:=qe7 l (putR a r) (Yv h) hn2;refine⟨k1,fun x=>?_⟩;rw[Dw,k2,hm,Ck];constructor
   ·rintro ((k | k) | k)
    ·exact .inr (.inl k)
    ·exact .inl k
    ·exact .inr (.inr k)
   ·rintro (k | k | k)
    ·exact .inl (.inr k)
    ·exact .inl (.inl k)
    ·exact .inr k
def bidV (x y:List Int):Int:=hd x-hd y
def bidP (x:List Int):Prop:=0<x.length∧1≤hd x∧hd x≤1048575
theorem qs3 (x y:List Int) (hx:bidP x) (hy:bidP y):Sp 27 [vIs x,vIs y] [] (vI (bidV x y)) []:=by
 have h1:=zJ hx.1;have h2:=zJ hy.1;have a1:=hx.1;have a2:=hy.1;have hw:IntKind.i64.wrap (hd x-hd y)=hd x-hd y:=AK _ (by have:=hx.2;have:=hy.2;omega);refine sIr JJ fun e _ hst=>?_;unfold wy;simp only[tZ,↓uU,simprocAttr,h1,h2,hw];refine⟨oM,oM,kR,?_⟩;rw[show bidV x y=hd x-hd y from rfl];exact .oA [] []
theorem qU4 (x y:List Int):ltV bidV x y=decide (hd x<hd y):=by
 unfold ltV bidV;exact decide_eq_decide.2 oM
theorem zM7:SWOrd (ltV bidV):=by
 refine⟨fun x y h=>?_,fun x y z h1 h2=>?_⟩
 ·rw[qU4] at h ⊢
  have:=of_decide_eq_true h;exact Cq oM
 ·rw[qU4] at h1 h2 ⊢
  have k1:=of_decide_eq_false h1;have k2:=of_decide_eq_false h2;exact Cq oM
theorem zr7 {ys:List (List Int)} (h:Srt (ltV bidV) ys 0 ys.length) (hn:∀ i,0<i→i<ys.length→hd (ys.getD i default)≠hd (ys.getD (i-1) default)):AscR ys:=by
 refine zq4 (f:=hd) fun i h0 hi=>?_;have h1:=h (i-1) i oM oM hi;have h2:=hn i h0 hi;have e1:gd ys i=ys.getD i default:=rfl;have e2:gd ys (i-1)=ys.getD (i-1) default:=rfl;unfold lew at h1;rw[e1,e2,qU4] at h1;have:=of_decide_eq_false h1;omega
theorem qD5 (s:Sch) (l:List (List Int)) (hn:s.cols.length<4611686018427387904) (hl:s.lists.length<4611686018427387904) (hr:∀ r∈l,r.length<4611686018427387904) (h12:l.length≤12):Sp 8 [schT s,vRw l] [] (.tup [srcT (newS s l),vI (newE s l)]) []:=by
 have hC:=Qx s hn hl;have hbad:∀ v,v≠0→newE s l=v→newS s l=src0:=fun v h1 h2=>by rw[newS,h2,Aj h1]
 refine sIr KI fun e _ hst=>?_;unfold ye;refine sW ?_;refine C1.im hC rF rF ?_;simp only[tZ,↓uU,simprocAttr,Bj,Aw,tD];refine⟨fun h=>?_,fun h=>⟨fun h2=>by omega,fun _=>?_⟩⟩
 ·have hE:newE s l=schE s:=by rw[newE,Aj h]
  rw[hbad _ h hE,hE];exact .oA [] []
 refine qy mixm (α:=Nat) [23] (fun i=>i≤l.length∧(l.take i).any (fun r=>rowE s r != 0)=false) (fun i=>[(23,vI i)]) (fun i=>[aR 4096 2 [schT s],aR 4100 5 [srcT src0]]) (fun i=>l.length-i) 0 ⟨oM,rfl⟩ ?_ fun i hi=>?_
 ·exact .oA (U2 4096 4100) []
 refine sD ?_;refine⟨fun h2=>?_,fun h2=>?_⟩
 ·have hi2:i<l.length:=by omega
  have hwi:=qg (i:=i) oM;have hF:=yo s h l[i] (hr _ (AX hi2));simp only[tZ,↓uU,simprocAttr,Ax,qd hi2];refine⟨oM,?_⟩;refine C1.im hF rF rF ?_;simp only[tZ,↓uU,simprocAttr,Bx,Bz,hwi];refine⟨fun h3=>?_,fun h3=>?_⟩
  ·have h4:(rowE s l[i] != 0)=true:=by rw[bne,h3];rfl
   have hE:newE s l=9:=by rw[newE,Aq (by rw[h];simp),Aq oM,Aj (WO (p:=fun r=>rowE s r != 0) hi2 h4)]
   rw[hbad 9 (by decide) hE,hE];exact .oA [] []
  ·refine⟨i+1,⟨oM,jz hi2 hi.2 (by rw[bne,h3];rfl)⟩,oM,?_⟩;exact .oA (U2 4096 4100) []
 have hil:i=l.length:=by omega
 subst hil;have h5:=hi.2;rw[Bw] at h5;have hfit:∀ r∈l,rowE s r=0:=fun r hr=>by
  have:=List.any_eq_false.1 h5 r hr;simpa using this
 have hok:=jn h;have hnc:=hok.nc;have hP:∀ r∈l,bidP r:=fun r hr=>⟨kz (hfit r hr),zz9 (hfit r hr)⟩;have hEv:newE s l=if dupB l=true then 10 else 0:=by rw[newE,Aq (by rw[h];simp),Aq oM,Aq (by rw[h5];simp)]
 have hrw:=yS l oM (fun r hr=>by have:=(Jg (hfit r hr)).2.1;omega);obtain⟨ys,⟨hp,hso⟩,hS⟩:=ZA bidV bidP 27 (fun x y hx hy=>qs3 x y hx hy) l hP h12;have hso:=hso zM7;have hpl:=hp.length_eq;rw[← hpl] at hso;have hPy:∀ r∈ys,bidP r:=fun r hr=>hP r (hp.mem_iff.1 hr);refine C1.im (jS s hok) rF rF ?_;refine sW ?_;refine C1.fresh 53260 hrw rF (by apply qh;intro _;exact⟨rfl,rfl⟩) rF ?_;refine sW ?_;refine C1.upd 53260 1 _ _ hS rF (by apply qh;intro _;exact⟨rfl,rfl⟩) (by apply qh;intro _;exact⟨rfl,rfl⟩) ⟨by simp [ltA,ltC,ltC0,TL.get],yB rF⟩ rF ?_;refine sW ?_;rw[← hpl];refine⟨rfl,?_⟩;have hdup:dupB l=dupB ys:=by
  unfold dupB;have:=(hp.map hd).nodup_iff;by_cases k:(l.map hd).Nodup
  ·rw[Cx k,Cx (this.2 k)]
  ·rw[Cq k,Cq (fun e=>k (this.1 e))]
 rw[hdup] at hEv;have hy12:ys.length≤12:=by omega
 refine qy mixm (α:=Nat) [44] (fun i=>i≤ys.length∧∀ j,0<j→j<i→hd (ys.getD j default)≠hd (ys.getD (j-1) default)) (fun i=>[(44,vI i)]) (fun i=>[aR 4100 5 [srcT src0],aR 53260 1 (ys.map vIs),aR 53268 5 [.agg [.sl 2 (s.lists.map cdlT),.sl 7 (s.cols.map colT),.asl 53260 ys.length,.v (.slice none 0 0),vI 0]]]) (fun i=>ys.length-i) 0 ⟨oM,fun j h0 h1=>by omega⟩ ?_ fun i hi=>?_
 ·exact .oA (U3 4100 53260 53268) []
 obtain⟨i1,i2⟩:=hi;refine sD ?_;refine⟨fun h2=>?_,fun h2=>?_⟩
 ·have hi2:i<ys.length:=by omega
  have hwi:=qg (i:=i) oM;obtain⟨k,hk1,hk2,hk3⟩:∃ k:Nat,(IntKind.i64.wrap ((i:Int)-1)).toNat=k∧k<ys.length∧(i=0∧k=0∨0<i∧k+1=i∧IntKind.i64.wrap ((i:Int)-1)=k):=by
   rcases DX i with h0 | h0
   ·subst h0;exact⟨0,by decide,hi2,.inl ⟨rfl,rfl⟩⟩
   ·have e:=jM h0 (show i<4611686018427387904 by omega);exact⟨i-1,by rw[e];omega,oM,.inr ⟨h0,oM,e⟩⟩
  have hg:ys.getD i default=ys[i]:=qt hi2;have hgk:ys.getD k default=ys[k]:=qt hk2;have hpi:=(hPy _ (AX hi2)).1;have hpk:=(hPy _ (AX hk2)).1;have hgi:=zJ hpi;have hgi2:=zJ hpk;simp only[tZ,↓uU,simprocAttr,Ax,hk1,qd hi2,qd hk2,hgi,hgi2,tD,gt_iff_lt,AY,Ak];refine⟨fun _=>by omega,fun _=>by omega,fun _=>by omega,fun _=>by omega,fun _=>by omega,fun _=>by omega,kR,fun h3=>?_,fun h3=>?_⟩
  ·have hD:dupB ys=true:=by
    unfold dupB;rw[Bx,Ay];intro hn;have:=DZ.1 hn k i (by rw[BY];omega) (by rw[BY];omega) oM;rw[Fj,Fj] at this;exact this h3.2.symm
   rw[Aj hD] at hEv;rw[hbad 10 (by decide) hEv,hEv];exact .oA [] []
  ·simp only[tZ,↓uU,simprocAttr,hwi];refine⟨i+1,⟨oM,fun j h0 hj=>?_⟩,oM,?_⟩
   ·by_cases e:j=i
    ·subst e;rw[hg,show j-1=k by omega,hgk];exact fun e=>by
      rcases h3 with h3 | h3
      ·omega
      ·exact h3 e
    ·exact i2 j h0 oM
   ·exact .oA (U3 4100 53260 53268) []
 ·have hil:i=ys.length:=by omega
  subst hil;have hA:=zr7 hso (fun i h0 hi=>i2 i h0 hi);have hnd:(ys.map hd).Nodup:=List.pairwise_map.2 (hA.imp fun h e=>by omega);have hD:dupB ys=false:=by unfold dupB;rw[Cx hnd];rfl
  rw[Aq (by rw[hD];simp)] at hEv;have hnl:(l.map hd).Nodup:=(hp.map hd).nodup_iff.1 hnd;obtain⟨q1,q2⟩:=qe7 l [] List.Pairwise.nil hnl;have hy:newL l=ys:=KV q1 hA fun x=>by
   show x∈l.foldl putR []↔x∈ys;rw[q2,hp.mem_iff];simp
  have hNS:newS s l=⟨s,ys,[],0⟩:=by rw[newS,hEv,Aq sMp,hy]
  rw[hEv,hNS];exact .oA [] [53260]
abbrev Rw:={r:List Int // 0<r.length∧0≤hd r∧hd r≤1152921504606846976}
instance:Inhabited Rw:=⟨⟨[0],by decide⟩⟩
abbrev rwT (r:Rw):T:=vIs r.1
abbrev ltR (cV:Rw→Rw→Int) (x y:Rw):Bool:=decide (cV x y<0)
theorem qz {xs:List Rw} {i:Nat} (h:i<xs.length):(xs.map rwT).getD i .junk=rwT (gd xs i):=by rw[ZM h];exact qd h
theorem zS (x y:Rw):repl (rwT x) 0 (rwT y)=rwT y:=rfl
theorem qQ (x:Rw):(rwT x).cells.getD 0 .junk=rwT x:=rfl
theorem jw (xs:List Rw) (i:Nat) (v:Rw):(xs.map rwT).set i (rwT v)=(xs.set i v).map rwT:=List.map_set.symm
theorem jx (xs:List Rw) (i j:Nat):((xs.set i (gd xs j)).set j (gd xs i))=swp xs i j:=rfl
theorem kX {st:Sto} {B:List Nat} (n:Nat) (ts:List T) (h:imAL ts=true):ltAs st (U1 0) B (.asl 0 n::ts) (.asl 0 n::ts):=⟨by simp [ltA,ltC,ltC0,TL.get],yB h⟩
section
variable (cV:Rw→Rw→Int) (fV:FuncId) (hV:∀ x y:Rw,Sp fV [rwT x,rwT y] [] (vI (cV x y)) [])
include hV in
theorem wc (xs:List Rw) (a b:Nat) (hab:a≤b) (hb:b≤xs.length) (hl:xs.length<4611686018427387904) :
 Sp 72 [.asl 0 xs.length,vI a,vI b,.clo fV []] [aR 0 1 (xs.map rwT)] (.tup []) [aR 0 1 ((insS (ltR cV) xs a b).map rwT)]:=by
 have hw:=qg (i:=a) oM;refine sIr zQ fun e _ hst=>?_;unfold qR;simp only[tZ,↓uU,simprocAttr,hw];refine qy mixm (α:=List Rw×Nat) [8] (fun q=>q.1.length=xs.length∧a+1≤q.2∧(q.2≤b∨q.2=a+1)∧insF (ltR cV) a (b-q.2) q.2 q.1=insS (ltR cV) xs a b) (fun q=>[(8,vI q.2)]) (fun q=>[aR 0 1 (q.1.map rwT)]) (fun q=>b-q.2) (xs,a+1) ⟨rfl,BZ _,.inr rfl,rfl⟩ ?_ fun q hq=>?_
 ·exact .oA (U1 0) []
 obtain⟨ys,i⟩:=q;obtain⟨h1,h2,h3,h4⟩:=hq;dsimp only at h1 h2 h3 h4;simp only[tZ,↓uU,simprocAttr,AZ,Ay];refine⟨fun h5=>?_,fun h5=>?_⟩
 ·have hi2:i<b:=by omega
  rw[show b-i=(b-(i+1))+1 by omega,insF] at h4;refine qy mixm (α:=List Rw×Nat) [9] (fun q=>q.1.length=xs.length∧a≤q.2∧q.2≤i∧insJ (ltR cV) a q.2 q.1=insJ (ltR cV) a i ys) (fun q=>[(9,vI q.2)]) (fun q=>[aR 0 1 (q.1.map rwT)]) (fun q=>q.2) (ys,i) ⟨h1,oM,BZ _,rfl⟩ ?_ fun q hq=>?_
  ·exact .oA (U1 0) []
  obtain⟨zs,j⟩:=q;obtain⟨g1,g2,g3,g4⟩:=hq;dsimp only at g1 g2 g3 g4;by_cases hj:a<j
  ·obtain⟨j,rfl⟩:∃ k,j=k+1:=⟨j-1,oM⟩;have hwj:IntKind.i64.wrap (((j+1:Nat):Int)-1)=(j:Int):=by rw[AK _ oM];omega
   have hd:decide (((j+1:Nat):Int)>a)=true:=by simp;omega
   simp only[tZ,↓uU,simprocAttr,hwj,hd,Ax,qz (show j<zs.length by omega),qz (show j+1<zs.length by omega)];refine⟨⟨g1,oM,oM⟩,⟨g1,oM⟩,⟨g1,oM,oM⟩,⟨g1,oM⟩,?_⟩;refine C2.one (by trivial) (C1.im (hV (gd zs (j+1)) (gd zs j)) rF rF ?_);have hsl:(zs.set (j+1) (gd zs j)).length=zs.length:=Fw;simp only[tZ,↓uU,simprocAttr,hwj,Ax,qz (show j<zs.length by omega),qz (show j+1<zs.length by omega),zS,qQ,jw,qz (show j<(zs.set (j+1) (gd zs j)).length by omega),jx];have hin:insJ (ltR cV) a (j+1) zs=if a<j+1∧(ltR cV) (gd zs (j+1)) (gd zs j)=true then insJ (ltR cV) a j (swp zs (j+1) j) else zs:=rfl
   refine⟨kR,fun h6=>?_,fun h6=>?_⟩
   ·refine⟨⟨g1,oM,oM⟩,⟨g1,oM⟩,⟨g1,oM,oM⟩,⟨g1,oM⟩,⟨g1,oM,oM⟩,⟨g1,oM⟩,⟨oM,oM,oM⟩,⟨oM,oM⟩,kR,(swp zs (j+1) j,j),⟨by dsimp only;rw[qO];exact g1,by dsimp only;omega,by dsimp only;omega,?_⟩,by dsimp only;omega,?_⟩
    ·rw[← g4,hin,Aj ⟨hj,h6⟩]
    ·exact .oA (U1 0) []
   ·rw[hin,Aq (fun e=>by simp only[ltR] at e;rw[h6] at e;exact absurd e.2 sMp)] at g4;have hwi:=qg (i:=i) oM;refine⟨(zs,i+1),⟨g1,by dsimp only;omega,by dsimp only;omega,?_⟩,by dsimp only;omega,?_⟩
    ·dsimp only;rw[g4];exact h4
    ·rw[hwi];exact .oA (U1 0) []
  ·have hd:decide ((j:Int)>a)=false:=by simp;omega
   have hwi:=qg (i:=i) oM;have hin:insJ (ltR cV) a j zs=zs:=by
    cases j with
    | zero=>rfl
    | succ j=>unfold insJ;rw[Aq (fun e=>hj e.1)]
   rw[hin] at g4;simp only[tZ,↓uU,simprocAttr,hd,hwi];refine C2.no (fun h=>h) ?_;simp only[tZ,↓uU,simprocAttr,hwi];refine⟨kR,(zs,i+1),⟨g1,by dsimp only;omega,by dsimp only;omega,?_⟩,by dsimp only;omega,?_⟩
   ·dsimp only;rw[g4];exact h4
   ·exact .oA (U1 0) []
 ·rw[show b-i=0 by omega,insF] at h4;rw[← h4];exact .oA (U1 0) []
theorem ww (xs:List Rw) (a b:Nat) (hab:a<b) (hb:b≤xs.length) (hl:xs.length<4611686018427387904) :
 Sp 76 [.asl 0 xs.length,vI a,vI b,.clo fV []] [aR 0 1 (xs.map rwT)] (.tup []) [aR 0 1 ((rvs (b-a) a (b-1) xs).map rwT)]:=by
 have hw:IntKind.i64.wrap ((b:Int)-1)=((b-1:Nat):Int):=by rw[AK _ oM];omega
 refine sIr kF fun e _ hst=>?_;unfold zj;simp only[tZ,↓uU,simprocAttr,hw];refine qy mixm (α:=List Rw×Nat×Nat×Nat) [8,9] (fun q=>q.1.length=xs.length∧q.2.2.1<b∧q.2.2.1+1≤q.2.1+q.2.2.2∧rvs q.2.2.2 q.2.1 q.2.2.1 q.1=rvs (b-a) a (b-1) xs) (fun q=>[(8,vI q.2.1),(9,vI q.2.2.1)]) (fun q=>[aR 0 1 (q.1.map rwT)]) (fun q=>q.2.2.2) (xs,a,b-1,b-a) ⟨rfl,by dsimp only;omega,by dsimp only;omega,rfl⟩ ?_ fun q hq=>?_
 ·exact .oA (U1 0) []
 obtain⟨ys,i,j,f⟩:=q;obtain⟨h1,h2,h3,h4⟩:=hq;dsimp only at h1 h2 h3 h4;simp only[tZ,↓uU,simprocAttr,AZ,Ay];refine⟨fun h5=>?_,fun h5=>?_⟩
 ·obtain⟨f,rfl⟩:∃ k,f=k+1:=⟨f-1,oM⟩;have hwi:=qg (i:=i) oM;have hwj:IntKind.i64.wrap ((j:Int)-1)=((j-1:Nat):Int):=by rw[AK _ oM];omega
  have hsl:(ys.set i (gd ys j)).length=ys.length:=Fw;rw[rvs,Aj oM] at h4;simp only[tZ,↓uU,simprocAttr,hwi,hwj,Ax,qz (show j<ys.length by omega),qz (show i<ys.length by omega),zS,qQ,jw,qz (show j<(ys.set i (gd ys j)).length by omega),jx];refine⟨⟨h1,oM,oM⟩,⟨h1,oM⟩,⟨h1,oM,oM⟩,⟨h1,oM⟩,⟨h1,oM,oM⟩,⟨h1,oM⟩,⟨oM,oM,oM⟩,⟨oM,oM⟩,kR,(swp ys i j,i+1,j-1,f),⟨by dsimp only;rw[qO];exact h1,by dsimp only;omega,by dsimp only;omega,h4⟩,by dsimp only;omega,?_⟩;exact .oA (U1 0) []
 ·have h6:rvs f i j ys=ys:=by
   cases f with
   | zero=>rfl
   | succ f=>unfold rvs;rw[Aq oM]
  rw[← h4,h6];exact .oA (U1 0) []
include hV in
theorem jJ (xs:List Rw) (lo hi first:Nat) (hh:first+hi≤xs.length) (hlo:lo≤hi+1) (hl:xs.length<2305843009213693952) :
 Sp 100 [.asl 0 xs.length,vI lo,vI hi,vI first,.clo fV []] [aR 0 1 (xs.map rwT)] (.tup []) [aR 0 1 ((sift (ltR cV) first hi (hi+1) lo xs).map rwT)]:=by
 refine sIr wG fun e _ hst=>?_;unfold zw;refine sW ?_;refine qy mixm (α:=List Rw×Nat×Nat) [10] (fun q=>q.1.length=xs.length∧q.2.1≤hi+1∧hi+1≤q.2.1+q.2.2∧sift (ltR cV) first hi q.2.2 q.2.1 q.1=sift (ltR cV) first hi (hi+1) lo xs) (fun q=>[(10,vI q.2.1)]) (fun q=>[aR 0 1 (q.1.map rwT)]) (fun q=>q.2.2) (xs,lo,hi+1) ⟨rfl,hlo,by dsimp only;omega,rfl⟩ ?_ fun q hq=>?_
 ·exact .oA (U1 0) []
 obtain⟨ys,r,f⟩:=q;obtain⟨h1,h2,h3,h4⟩:=hq;dsimp only at h1 h2 h3 h4;have hw1:IntKind.i64.wrap (2*(r:Int))=2*(r:Int):=AK _ oM;have hw2:IntKind.i64.wrap (2*(r:Int)+1)=((2*r+1:Nat):Int):=by rw[AK _ oM];omega
 simp only[tZ,↓uU,simprocAttr,AZ,Ay,hw1,hw2];refine⟨fun h5=>?_,fun h5=>?_⟩
 ·have h6:sift (ltR cV) first hi f r ys=ys:=by
   cases f with
   | zero=>rfl
   | succ f=>unfold sift;rw[Aj oM]
  rw[← h4,h6];exact .oA (U1 0) []
 ·obtain⟨f,rfl⟩:∃ k,f=k+1:=⟨f-1,oM⟩;rw[sift,Aq oM] at h4;have hc:=zn3 (ltR cV) ys (first:=first) (hi:=hi) (r:=r) oM;have hw3:IntKind.i64.wrap (((2*r+1:Nat):Int)+1)=((2*r+2:Nat):Int):=by rw[AK _ oM];omega
  have hw4:IntKind.i64.wrap ((first:Int)+((2*r+1:Nat):Int))=((first+(2*r+1):Nat):Int):=by rw[AK _ oM];omega
  have hw5:IntKind.i64.wrap (((first+(2*r+1):Nat):Int)+1)=((first+(2*r+2):Nat):Int):=by rw[AK _ oM];omega
  have hw6:IntKind.i64.wrap ((first:Int)+(r:Int))=((first+r:Nat):Int):=by rw[AK _ oM];omega
  have hw7:IntKind.i64.wrap ((first:Int)+((2*r+2:Nat):Int))=((first+(2*r+2):Nat):Int):=by rw[AK _ oM];omega
  have k1:2*r+2<hi→(ltR cV) (gd ys (first+(2*r+1))) (gd ys (first+(2*r+2)))=true→kid (ltR cV) ys first hi r=2*r+2:=fun a b=>by rw[kid,Aj ⟨a,b⟩]
  have k2:¬ (2*r+2<hi∧(ltR cV) (gd ys (first+(2*r+1))) (gd ys (first+(2*r+2)))=true)→kid (ltR cV) ys first hi r=2*r+1:=fun a=>by rw[kid,Aq a]
  by_cases hk:2*r+2<hi
  ·have hd:(((2*r+2:Nat):Int)<(hi:Int))=True:=by simp;omega
   simp only[tZ,↓uU,simprocAttr,hw3,hw4,hw5,hd,Ax,qz (show first+(2*r+1)<ys.length by omega),qz (show first+(2*r+2)<ys.length by omega),qQ];refine⟨⟨h1,oM,oM⟩,⟨h1,oM⟩,⟨h1,oM,oM⟩,⟨h1,oM⟩,?_⟩;refine C2.one (by trivial) (C1.im (hV (gd ys (first+(2*r+1))) (gd ys (first+(2*r+2)))) rF rF ?_);refine sW ?_;refine⟨kR,fun h6=>?_,fun h6=>?_⟩
   ·skip
    have hkc:kid (ltR cV) ys first hi r=2*r+2:=k1 hk h6
    rw[hkc] at h4 hc;have hcl:2*r+2<hi:=hc.2;have hsl:(ys.set (first+r) (gd ys (first+(2*r+2)))).length=ys.length:=Fw;simp only[tZ,↓uU,simprocAttr,hw3,hw7,hw6,Ax,qz (show first+r<ys.length by omega),qz (show first+(2*r+2)<ys.length by omega),qQ];refine⟨⟨h1,oM,oM⟩,⟨h1,oM⟩,⟨h1,oM,oM⟩,⟨h1,oM⟩,?_⟩;refine C1.im (hV (gd ys (first+r)) (gd ys (first+(2*r+2)))) rF rF ?_;simp only[tZ,↓uU,simprocAttr,hw3,hw7,hw6,Ax,qz (show first+r<ys.length by omega),qz (show first+(2*r+2)<ys.length by omega),qQ,zS,jw,qz (show first+(2*r+2)<(ys.set (first+r) (gd ys (first+(2*r+2)))).length by omega),jx,Bx,Bz];refine⟨kR,fun h7=>?_,fun h7=>?_⟩
    ·rw[Aj h7] at h4;rw[← h4];exact .oA (U1 0) []
    ·rw[Aq (by (try simp only[ltR]);rw[h7];simp)] at h4;refine⟨⟨h1,oM,oM⟩,⟨h1,oM⟩,⟨h1,oM,oM⟩,⟨h1,oM⟩,⟨h1,oM,oM⟩,⟨h1,oM⟩,⟨oM,oM,oM⟩,⟨oM,oM⟩,kR,(swp ys (first+r) (first+(2*r+2)),2*r+2,f),⟨by dsimp only;rw[qO];exact h1,by dsimp only;omega,by dsimp only;omega,h4⟩,by dsimp only;omega,?_⟩;exact .oA (U1 0) []
   ·skip
    have hkc:kid (ltR cV) ys first hi r=2*r+1:=k2 (fun e=>by simp only[ltR] at e;rw[h6] at e;exact absurd e.2 sMp)
    rw[hkc] at h4 hc;have hcl:2*r+1<hi:=hc.2;have hsl:(ys.set (first+r) (gd ys (first+(2*r+1)))).length=ys.length:=Fw;simp only[tZ,↓uU,simprocAttr,hw4,hw6,Ax,qz (show first+r<ys.length by omega),qz (show first+(2*r+1)<ys.length by omega),qQ];refine⟨⟨h1,oM,oM⟩,⟨h1,oM⟩,⟨h1,oM,oM⟩,⟨h1,oM⟩,?_⟩;refine C1.im (hV (gd ys (first+r)) (gd ys (first+(2*r+1)))) rF rF ?_;simp only[tZ,↓uU,simprocAttr,hw4,hw6,Ax,qz (show first+r<ys.length by omega),qz (show first+(2*r+1)<ys.length by omega),qQ,zS,jw,qz (show first+(2*r+1)<(ys.set (first+r) (gd ys (first+(2*r+1)))).length by omega),jx,Bx,Bz];refine⟨kR,fun h7=>?_,fun h7=>?_⟩
    ·rw[Aj h7] at h4;rw[← h4];exact .oA (U1 0) []
    ·rw[Aq (by (try simp only[ltR]);rw[h7];simp)] at h4;refine⟨⟨h1,oM,oM⟩,⟨h1,oM⟩,⟨h1,oM,oM⟩,⟨h1,oM⟩,⟨h1,oM,oM⟩,⟨h1,oM⟩,⟨oM,oM,oM⟩,⟨oM,oM⟩,kR,(swp ys (first+r) (first+(2*r+1)),2*r+1,f),⟨by dsimp only;rw[qO];exact h1,by dsimp only;omega,by dsimp only;omega,h4⟩,by dsimp only;omega,?_⟩;exact .oA (U1 0) []
  ·have hd:(((2*r+2:Nat):Int)<(hi:Int))=False:=by simp;omega
   simp only[tZ,↓uU,simprocAttr,hw3,hd];refine C2.no (fun h=>h) ?_;refine sW ?_;refine⟨kR,?_⟩;have hkc:kid (ltR cV) ys first hi r=2*r+1:=k2 (fun e=>hk e.1)
   rw[hkc] at h4 hc;have hcl:2*r+1<hi:=hc.2;have hsl:(ys.set (first+r) (gd ys (first+(2*r+1)))).length=ys.length:=Fw;simp only[tZ,↓uU,simprocAttr,hw4,hw6,Ax,qz (show first+r<ys.length by omega),qz (show first+(2*r+1)<ys.length by omega),qQ];refine⟨⟨h1,oM,oM⟩,⟨h1,oM⟩,⟨h1,oM,oM⟩,⟨h1,oM⟩,?_⟩;refine C1.im (hV (gd ys (first+r)) (gd ys (first+(2*r+1)))) rF rF ?_;simp only[tZ,↓uU,simprocAttr,hw4,hw6,Ax,qz (show first+r<ys.length by omega),qz (show first+(2*r+1)<ys.length by omega),qQ,zS,jw,qz (show first+(2*r+1)<(ys.set (first+r) (gd ys (first+(2*r+1)))).length by omega),jx,Bx,Bz];refine⟨kR,fun h7=>?_,fun h7=>?_⟩
   ·rw[Aj h7] at h4;rw[← h4];exact .oA (U1 0) []
   ·rw[Aq (by (try simp only[ltR]);rw[h7];simp)] at h4;refine⟨⟨h1,oM,oM⟩,⟨h1,oM⟩,⟨h1,oM,oM⟩,⟨h1,oM⟩,⟨h1,oM,oM⟩,⟨h1,oM⟩,⟨oM,oM,oM⟩,⟨oM,oM⟩,kR,(swp ys (first+r) (first+(2*r+1)),2*r+1,f),⟨by dsimp only;rw[qO];exact h1,by dsimp only;omega,by dsimp only;omega,h4⟩,by dsimp only;omega,?_⟩;exact .oA (U1 0) []
include hV in
theorem yT (xs:List Rw) (a b:Nat) (hab:a<b) (hb:b≤xs.length) (hl:xs.length<2305843009213693952) :
 Sp 73 [.asl 0 xs.length,vI a,vI b,.clo fV []] [aR 0 1 (xs.map rwT)] (.tup []) [aR 0 1 ((qo6 (ltR cV) xs a b).map rwT)]:=by
 have hw1:IntKind.i64.wrap ((b:Int)-a)=((b-a:Nat):Int):=by rw[AK _ oM];omega
 have hw2:IntKind.i64.wrap (((b-a:Nat):Int)-1)=((b-a-1:Nat):Int):=by rw[AK _ oM];omega
 have hw3:IntKind.i64.wrap ((((b-a-1:Nat):Int)).tdiv 2)=(((b-a-1) / 2:Nat):Int):=by rw[Int.tdiv_eq_ediv_of_nonneg oM,AK _ oM];omega
 refine sIr wE fun e _ hst=>?_;unfold zu;simp only[tZ,↓uU,simprocAttr,hw1,hw2,hw3];refine qy mixm (α:=List Rw×Nat) [11] (fun q=>q.1.length=xs.length∧q.2≤(b-a-1) / 2+1∧hB (ltR cV) a (b-a) q.2 q.1=hB (ltR cV) a (b-a) ((b-a-1) / 2+1) xs) (fun q=>[(11,vI ((q.2:Int)-1))]) (fun q=>[aR 0 1 (q.1.map rwT)]) (fun q=>q.2) (xs,(b-a-1) / 2+1) ⟨rfl,BZ _,rfl⟩ ?_ fun q hq=>?_
 ·have e0:((((b-a-1) / 2+1:Nat):Int)-1)=(((b-a-1) / 2:Nat):Int):=by omega
  dsimp only;rw[e0];exact .oA (U1 0) []
 obtain⟨ys,k⟩:=q;obtain⟨h1,h2,h3⟩:=hq;dsimp only at h1 h2 h3;simp only[tZ,↓uU,simprocAttr,AZ,Ay];refine⟨fun h5=>?_,fun h5=>?_⟩
 ·obtain⟨k,rfl⟩:∃ j,k=j+1:=⟨k-1,oM⟩;have e1:(((k+1:Nat):Int)-1)=(k:Int):=by omega
  have e2:IntKind.i64.wrap ((k:Int)-1)=(k:Int)-1:=AK _ oM;have h6:=jJ cV fV hV ys k (b-a) a oM oM oM;rw[hB] at h3;have hsl:=(JW (ltR cV) (first:=a) (hi:=b-a) (b-a+1) k ys oM).len;simp only[tZ,↓uU,simprocAttr,e1];refine C1.upd 0 1 _ _ h6 rF (by apply qh;intro _;exact⟨rfl,rfl⟩) (by apply qh;intro _;exact⟨rfl,rfl⟩) (by rw[h1];exact kX _ _ rF) rF ?_;simp only[tZ,↓uU,simprocAttr,e2];refine⟨(sift (ltR cV) a (b-a) (b-a+1) k ys,k),⟨by dsimp only;rw[hsl];exact h1,by dsimp only;omega,h3⟩,by dsimp only;omega,?_⟩;exact .oA (U1 0) []
 ·obtain rfl:k=0:=by omega
  rw[hB] at h3;have hsl:=(zx7 (ltR cV) (first:=a) (hi:=b-a) ((b-a-1) / 2+1) xs oM).len;simp only[tZ,↓uU,simprocAttr,hw1,hw2];refine qy mixm (α:=List Rw×Nat) [12] (fun q=>q.1.length=xs.length∧q.2≤b-a∧hS (ltR cV) a q.2 q.1=hS (ltR cV) a (b-a) ys) (fun q=>[(12,vI ((q.2:Int)-1))]) (fun q=>[aR 0 1 (q.1.map rwT)]) (fun q=>q.2) (ys,b-a) ⟨h1,BZ _,rfl⟩ ?_ fun q hq=>?_
  ·have e0:(((b-a:Nat):Int)-1)=((b-a-1:Nat):Int):=by omega
   dsimp only;rw[e0];exact .oA (U1 0) []
  obtain⟨zs,k⟩:=q;obtain⟨g1,g2,g3⟩:=hq;dsimp only at g1 g2 g3;simp only[tZ,↓uU,simprocAttr,AZ,Ay];refine⟨fun h5=>?_,fun h5=>?_⟩
  ·obtain⟨k,rfl⟩:∃ j,k=j+1:=⟨k-1,oM⟩;have e1:(((k+1:Nat):Int)-1)=(k:Int):=by omega
   have e2:IntKind.i64.wrap ((k:Int)-1)=(k:Int)-1:=AK _ oM;have e3:IntKind.i64.wrap ((a:Int)+(k:Int))=((a+k:Nat):Int):=by rw[AK _ oM];omega
   rw[hS] at g3;have hsw:=qO zs a (a+k);have h6:=jJ cV fV hV (swp zs a (a+k)) 0 k a oM oM oM;have hsl:=(JW (ltR cV) (first:=a) (hi:=k) (k+1) 0 (swp zs a (a+k)) oM).len;have hsl2:(zs.set a (gd zs (a+k))).length=zs.length:=Fw;simp only[tZ,↓uU,simprocAttr,e1,e3,Ax,qz (show a<zs.length by omega),qz (show a+k<zs.length by omega),zS,qQ,jw,qz (show a+k<(zs.set a (gd zs (a+k))).length by omega),jx];refine⟨⟨g1,oM,oM⟩,⟨g1,oM⟩,⟨g1,oM,oM⟩,⟨g1,oM⟩,⟨g1,oM,oM⟩,⟨g1,oM⟩,⟨oM,oM,oM⟩,⟨oM,oM⟩,kR,?_⟩;refine C1.upd 0 1 _ _ h6 rF (by apply qh;intro _;exact⟨rfl,rfl⟩) (by apply qh;intro _;exact⟨rfl,rfl⟩) (by rw[hsw,g1];exact kX _ _ rF) rF ?_;simp only[tZ,↓uU,simprocAttr,e2];refine⟨(sift (ltR cV) a k (k+1) 0 (swp zs a (a+k)),k),⟨by dsimp only;rw[hsl,hsw];exact g1,by dsimp only;omega,g3⟩,by dsimp only;omega,?_⟩;exact .oA (U1 0) []
  ·obtain rfl:k=0:=by omega
   rw[hS] at g3;have h7:zs=qo6 (ltR cV) xs a b:=by rw[g3,h3,qo6]
   rw[h7];exact .oA (U1 0) []
include hV in
theorem yq (xs:List Rw) (a b pv:Nat) (hab:a+1<b) (hp1:a≤pv) (hp2:pv<b) (hb:b≤xs.length) (hl:xs.length<2305843009213693952) :
 Sp 79 [.asl 0 xs.length,vI a,vI b,vI pv,.clo fV []] [aR 0 1 (xs.map rwT)] (.tup [vI (ko (ltR cV) xs a b pv).2,vB (flO (ltR cV) xs a b pv)]) [aR 0 1 ((ko (ltR cV) xs a b pv).1.map rwT)]:=by
 have hw1:IntKind.i64.wrap ((a:Int)+1)=((a+1:Nat):Int):=qg oM;have hw2:IntKind.i64.wrap ((b:Int)-1)=((b-1:Nat):Int):=by rw[AK _ oM];omega
 have hsl:(xs.set a (gd xs pv)).length=xs.length:=Fw;have hgw:gd (swp xs a pv) a=gd xs pv:=by
  rw[wC oM oM];by_cases h:a=pv
  ·subst h;rw[Aj rfl]
  ·rw[Aq h,Aj rfl]
 refine sIr wt fun e _ hst=>?_;unfold zr;simp only[tZ,↓uU,simprocAttr,hw1,hw2,Ax,qz (show a<xs.length by omega),qz (show pv<xs.length by omega),zS,qQ,jw,qz (show pv<(xs.set a (gd xs pv)).length by omega),jx];refine⟨oM,oM,oM,oM,oM,oM,oM,oM,kR,?_⟩;have hys:=qO xs a pv;generalize hYS:swp xs a pv=ys at *
 refine qy mixm (α:=Nat) [12] (fun i=>a+1≤i∧i≤(b-1)+1∧up (fun v=>(ltR cV) v (gd xs pv)) (b-1) ys ((b-1)+1-i) i=up (fun v=>(ltR cV) v (gd xs pv)) (b-1) ys ((b-1)+1-(a+1)) (a+1)) (fun i=>[(12,vI i)]) (fun i=>[aR 0 1 (ys.map rwT)]) (fun i=>(b-1)+1-i) (a+1) ⟨BZ _,oM,rfl⟩ ?_ fun i hi=>?_
 ·exact .oA (U1 0) []
 obtain⟨hu1,hu2,hu3⟩:=hi;have hwu:=qg (i:=i) oM;simp only[tZ,↓uU,simprocAttr,Ax,qz (show a<ys.length by omega),qQ,hgw];refine⟨fun h=>by have:=of_decide_eq_true h;omega,fun h=>by have:=of_decide_eq_true h;omega,fun h=>by have:=of_decide_eq_true h;omega,fun h=>by have:=of_decide_eq_true h;omega,?_⟩;refine C2.im (r:=vI (cV (gd ys i) (gd xs pv))) (fun h=>by have:=of_decide_eq_true h;rw[qz (show i<ys.length by omega)];exact hV (gd ys i) (gd xs pv)) (fun h=>by have:=of_decide_eq_true h;rw[qz (show i<ys.length by omega)];rfl) rfl ?_;simp only[tZ,↓uU,simprocAttr,hwu];refine⟨kR,fun h5=>?_,fun h5=>?_⟩
 ·obtain⟨h5,h6⟩:=dand h5;refine⟨i+1,⟨oM,oM,by first | exact (So.up_step (p:=(fun v=>(ltR cV) v (gd xs pv))) oM h6).symm.trans hu3 | exact ((So.up_step (p:=(fun v=>(ltR cV) v (gd xs pv))) oM h6).symm.trans hu3).trans (by rw[show b-1+1-(a+1)=b-1-a by omega])⟩,oM,?_⟩;exact .oA (U1 0) []
 have hu5:=qB2 h5;have hu4:up (fun v=>(ltR cV) v (gd xs pv)) (b-1) ys ((b-1)+1-(a+1)) (a+1)=i:=hu3.symm.trans (qG8 _ (fun h=>hu5 ⟨oM,h.2⟩));clear h5 hu3;refine qy mixm (α:=Nat) [13,47] (fun j=>j≤(b-1)∧i≤j+1∧dn (fun v=>(ltR cV) v (gd xs pv)) i ys (j+1-i) j=dn (fun v=>(ltR cV) v (gd xs pv)) i ys ((b-1)+1-i) ((b-1))) (fun j=>[(13,vI j)]) (fun j=>[aR 0 1 (ys.map rwT)]) (fun j=>j+1-i) ((b-1)) ⟨BZ _,oM,rfl⟩ ?_ fun j hj=>?_
 ·exact .oA (U1 0) []
 obtain⟨hd1,hd2,hd3⟩:=hj;have hwd:i≤j→IntKind.i64.wrap ((j:Int)-1)=((j-1:Nat):Int):=fun h=>by rw[AK _ oM];omega
 simp only[tZ,↓uU,simprocAttr,Ax,qz (show a<ys.length by omega),qQ,hgw];refine⟨fun h=>by have:=of_decide_eq_true h;omega,fun h=>by have:=of_decide_eq_true h;omega,fun h=>by have:=of_decide_eq_true h;omega,fun h=>by have:=of_decide_eq_true h;omega,?_⟩;refine C2.im (r:=vI (cV (gd ys j) (gd xs pv))) (fun h=>by have:=of_decide_eq_true h;rw[qz (show j<ys.length by omega)];exact hV (gd ys j) (gd xs pv)) (fun h=>by have:=of_decide_eq_true h;rw[qz (show j<ys.length by omega)];rfl) rfl ?_;refine sW ?_;refine⟨kR,fun h5=>?_,fun h5=>?_⟩
 ·obtain⟨h5,h6⟩:=dand h5;rw[Bx] at h6;rw[hwd oM];refine⟨j-1,⟨oM,oM,(qG9 (p:=(fun v=>(ltR cV) v (gd xs pv))) oM oM h6).symm.trans hd3⟩,oM,?_⟩;exact .oA (U1 0) []
 have hd5:=qB2 h5;have hd4:dn (fun v=>(ltR cV) v (gd xs pv)) i ys ((b-1)+1-i) ((b-1))=j:=hd3.symm.trans (qH0 _ (fun h=>hd5 ⟨oM,(by have h7:decide (cV (gd ys j) (gd xs pv)<0)=false:=h.2;rw[h7];rfl)⟩));clear h5 hd3;simp only[tZ,↓uU,simprocAttr,AZ,Ay];have hfl:flO (ltR cV) xs a b pv=decide (j<i):=by rw[flO,hYS,hu4,hd4]
 refine⟨fun h5=>?_,fun h5=>?_⟩
 ·have hpo:ko (ltR cV) xs a b pv=(swp ys j a,j):=by
   obtain⟨f,rfl⟩:∃ f,b=f+1:=⟨b-1,oM⟩;rw[ko,hYS,prt,hu4,hd4,Aj oM]
  rw[hpo,hfl,Cx (show j<i by omega)];have hss:(ys.set j (gd ys a)).length=ys.length:=Fw;simp only[tZ,↓uU,simprocAttr,Ax,qz (show j<ys.length by omega),qz (show a<ys.length by omega),zS,qQ,jw,qz (show a<(ys.set j (gd ys a)).length by omega),jx];refine⟨oM,oM,oM,oM,oM,oM,oM,oM,kR,?_⟩;exact .oA (U1 0) []
 ·skip
  have hij:i<j:=by
   by_cases h:i=j
   ·exfalso;subst h
    cases hv:(ltR cV) (gd ys i) (gd xs pv) with
    | true=>exact hu5 ⟨oM,hv⟩
    | false=>exact hd5 ⟨oM,by (try simp only[ltR] at hv);rw[hv];rfl⟩
   ·omega
  rw[hfl,Cq (show ¬ j<i by omega)];have hpo:ko (ltR cV) xs a b pv=(swp (prt (fun v=>(ltR cV) v (gd xs pv)) (b-1) (swp ys i j) (i+1) (j-1)).1 (prt (fun v=>(ltR cV) v (gd xs pv)) (b-1) (swp ys i j) (i+1) (j-1)).2.2 a,(prt (fun v=>(ltR cV) v (gd xs pv)) (b-1) (swp ys i j) (i+1) (j-1)).2.2):=by
   obtain⟨f,rfl⟩:∃ f,b=f+1:=⟨b-1,oM⟩;rw[ko,hYS,prt,hu4,hd4,Aq oM];rfl
  have hwi:=qg (i:=i) oM;have hwj:IntKind.i64.wrap ((j:Int)-1)=((j-1:Nat):Int):=by rw[AK _ oM];omega
  have hss:(ys.set i (gd ys j)).length=ys.length:=Fw;simp only[tZ,↓uU,simprocAttr,Ax,qz (show i<ys.length by omega),qz (show j<ys.length by omega),zS,qQ,jw,qz (show j<(ys.set i (gd ys j)).length by omega),jx,hwi,hwj];refine⟨oM,oM,oM,oM,oM,oM,oM,oM,kR,?_⟩;have hyl:=qO ys i j;have hgy:gd (swp ys i j) a=gd xs pv:=by rw[wC oM oM,Aq oM,Aq oM,hgw]
  refine qy mixm (α:=List Rw×Nat×Nat×Nat) [12,13,71,66,47] (fun q=>q.1.length=xs.length∧gd q.1 a=gd xs pv∧a+1≤q.2.1∧q.2.1≤q.2.2.1+1∧q.2.2.1≤b-1∧q.2.2.1+1<q.2.1+q.2.2.2∧prt (fun v=>(ltR cV) v (gd xs pv)) q.2.2.2 q.1 q.2.1 q.2.2.1=prt (fun v=>(ltR cV) v (gd xs pv)) (b-1) (swp ys i j) (i+1) (j-1)) (fun q=>[(12,vI q.2.1),(13,vI q.2.2.1)]) (fun q=>[aR 0 1 (q.1.map rwT)]) (fun q=>q.2.2.2) (swp ys i j,i+1,j-1,b-1) ⟨by dsimp only;omega,hgy,by dsimp only;omega,by dsimp only;omega,by dsimp only;omega,by dsimp only;omega,rfl⟩ ?_ fun q hq=>?_
  ·exact .oA (U1 0) []
  clear hu4 hd4 hu5 hd5 hij hu1 hu2 hd1 hd2 hgw hss;generalize prt (fun v=>(ltR cV) v (gd xs pv)) (b-1) (swp ys i j) (i+1) (j-1)=R at *
  obtain⟨zs,m,n,f⟩:=q;obtain⟨g1,g2,g3,g4,g5,g6,g7⟩:=hq;dsimp only at g1 g2 g3 g4 g5 g6 g7;dsimp only;refine sW ?_;refine qy mixm (α:=Nat) [12] (fun i=>m≤i∧i≤n+1∧up (fun v=>(ltR cV) v (gd xs pv)) n zs (n+1-i) i=up (fun v=>(ltR cV) v (gd xs pv)) n zs (n+1-(m)) (m)) (fun i=>[(12,vI i)]) (fun i=>[aR 0 1 (zs.map rwT)]) (fun i=>n+1-i) (m) ⟨BZ _,oM,rfl⟩ ?_ fun i1 hi=>?_
  ·exact .oA (U1 0) []
  obtain⟨hu1,hu2,hu3⟩:=hi;have hwu:=qg (i:=i1) oM;simp only[tZ,↓uU,simprocAttr,Ax,qz (show a<zs.length by omega),qQ,g2];refine⟨fun h=>by have:=of_decide_eq_true h;omega,fun h=>by have:=of_decide_eq_true h;omega,fun h=>by have:=of_decide_eq_true h;omega,fun h=>by have:=of_decide_eq_true h;omega,?_⟩;refine C2.im (r:=vI (cV (gd zs i1) (gd xs pv))) (fun h=>by have:=of_decide_eq_true h;rw[qz (show i1<zs.length by omega)];exact hV (gd zs i1) (gd xs pv)) (fun h=>by have:=of_decide_eq_true h;rw[qz (show i1<zs.length by omega)];rfl) rfl ?_;simp only[tZ,↓uU,simprocAttr,hwu];refine⟨kR,fun h5=>?_,fun h5=>?_⟩
  ·obtain⟨h5,h6⟩:=dand h5;refine⟨i1+1,⟨oM,oM,(So.up_step (p:=(fun v=>(ltR cV) v (gd xs pv))) oM h6).symm.trans hu3⟩,oM,?_⟩;exact .oA (U1 0) []
  have hu5:=qB2 h5;have hu4:up (fun v=>(ltR cV) v (gd xs pv)) n zs (n+1-(m)) (m)=i1:=hu3.symm.trans (qG8 _ (fun h=>hu5 ⟨oM,h.2⟩));clear h5 hu3;refine qy mixm (α:=Nat) [13,120] (fun j=>j≤n∧i1≤j+1∧dn (fun v=>(ltR cV) v (gd xs pv)) i1 zs (j+1-i1) j=dn (fun v=>(ltR cV) v (gd xs pv)) i1 zs (n+1-i1) (n)) (fun j=>[(13,vI j)]) (fun j=>[aR 0 1 (zs.map rwT)]) (fun j=>j+1-i1) (n) ⟨BZ _,oM,rfl⟩ ?_ fun j1 hj=>?_
  ·exact .oA (U1 0) []
  obtain⟨hd1,hd2,hd3⟩:=hj;have hwd:i1≤j1→IntKind.i64.wrap ((j1:Int)-1)=((j1-1:Nat):Int):=fun h=>by rw[AK _ oM];omega
  simp only[tZ,↓uU,simprocAttr,Ax,qz (show a<zs.length by omega),qQ,g2];refine⟨fun h=>by have:=of_decide_eq_true h;omega,fun h=>by have:=of_decide_eq_true h;omega,fun h=>by have:=of_decide_eq_true h;omega,fun h=>by have:=of_decide_eq_true h;omega,?_⟩;refine C2.im (r:=vI (cV (gd zs j1) (gd xs pv))) (fun h=>by have:=of_decide_eq_true h;rw[qz (show j1<zs.length by omega)];exact hV (gd zs j1) (gd xs pv)) (fun h=>by have:=of_decide_eq_true h;rw[qz (show j1<zs.length by omega)];rfl) rfl ?_;refine sW ?_;refine⟨kR,fun h5=>?_,fun h5=>?_⟩
  ·obtain⟨h5,h6⟩:=dand h5;rw[Bx] at h6;rw[hwd oM];refine⟨j1-1,⟨oM,oM,(qG9 (p:=(fun v=>(ltR cV) v (gd xs pv))) oM oM h6).symm.trans hd3⟩,oM,?_⟩;exact .oA (U1 0) []
  have hd5:=qB2 h5;have hd4:dn (fun v=>(ltR cV) v (gd xs pv)) i1 zs (n+1-i1) (n)=j1:=hd3.symm.trans (qH0 _ (fun h=>hd5 ⟨oM,(by have h7:decide (cV (gd zs j1) (gd xs pv)<0)=false:=h.2;rw[h7];rfl)⟩));clear h5 hd3;simp only[tZ,↓uU,simprocAttr,AZ,Ay];obtain⟨f,rfl⟩:∃ k,f=k+1:=⟨f-1,oM⟩;rw[prt,hu4,hd4] at g7;refine⟨fun h5=>?_,fun h5=>?_⟩
  ·rw[Aj oM] at g7;have e1:R.1=zs:=by rw[← g7]
   have e2:R.2.2=j1:=by rw[← g7]
   rw[hpo,e1,e2];have hss:(zs.set j1 (gd zs a)).length=zs.length:=Fw;simp only[tZ,↓uU,simprocAttr,Ax,qz (show j1<zs.length by omega),qz (show a<zs.length by omega),zS,qQ,jw,qz (show a<(zs.set j1 (gd zs a)).length by omega),jx];refine⟨oM,oM,oM,oM,oM,oM,oM,oM,kR,?_⟩;exact .oA (U1 0) []
  ·rw[Aq oM] at g7;have hij:i1<j1:=by
    by_cases h:i1=j1
    ·exfalso;subst h
     cases hv:(ltR cV) (gd zs i1) (gd xs pv) with
     | true=>exact hu5 ⟨oM,hv⟩
     | false=>exact hd5 ⟨oM,by (try simp only[ltR] at hv);rw[hv];rfl⟩
    ·omega
   have hwi:=qg (i:=i1) oM;have hwj:IntKind.i64.wrap ((j1:Int)-1)=((j1-1:Nat):Int):=by rw[AK _ oM];omega
   have hss:(zs.set i1 (gd zs j1)).length=zs.length:=Fw;simp only[tZ,↓uU,simprocAttr,Ax,qz (show i1<zs.length by omega),qz (show j1<zs.length by omega),zS,qQ,jw,qz (show j1<(zs.set i1 (gd zs j1)).length by omega),jx,hwi,hwj];have hzl:=qO zs i1 j1;have hgz:gd (swp zs i1 j1) a=gd xs pv:=by rw[wC oM oM,Aq oM,Aq oM,g2]
   refine⟨oM,oM,oM,oM,oM,oM,oM,oM,kR,(swp zs i1 j1,i1+1,j1-1,f),⟨by dsimp only;omega,hgz,by dsimp only;omega,by dsimp only;omega,by dsimp only;omega,by dsimp only;omega,g7⟩,by dsimp only;omega,?_⟩;exact .oA (U1 0) []
include hV in
theorem kY (xs:List Rw) (a b pv:Nat) (hab:a+1<b) (hp1:a≤pv) (hp2:pv<b) (hb:b≤xs.length) (hl:xs.length<2305843009213693952) :
 Sp 78 [.asl 0 xs.length,vI a,vI b,vI pv,.clo fV []] [aR 0 1 (xs.map rwT)] (vI (Zs (ltR cV) xs a b pv).2) [aR 0 1 ((Zs (ltR cV) xs a b pv).1.map rwT)]:=by
 have hw1:IntKind.i64.wrap ((a:Int)+1)=((a+1:Nat):Int):=qg oM;have hw2:IntKind.i64.wrap ((b:Int)-1)=((b-1:Nat):Int):=by rw[AK _ oM];omega
 have hsl:(xs.set a (gd xs pv)).length=xs.length:=Fw;have hgw:gd (swp xs a pv) a=gd xs pv:=by
  rw[wC oM oM];by_cases h:a=pv
  ·subst h;rw[Aj rfl]
  ·rw[Aq h,Aj rfl]
 refine sIr jU fun e _ hst=>?_;unfold ze;simp only[tZ,↓uU,simprocAttr,hw1,hw2,Ax,qz (show a<xs.length by omega),qz (show pv<xs.length by omega),zS,qQ,jw,qz (show pv<(xs.set a (gd xs pv)).length by omega),jx];refine⟨oM,oM,oM,oM,oM,oM,oM,oM,kR,?_⟩;have hys:=qO xs a pv;have hpo:Zs (ltR cV) xs a b pv=((prt (fun v=>!(ltR cV) (gd xs pv) v) b (swp xs a pv) (a+1) (b-1)).1,(prt (fun v=>!(ltR cV) (gd xs pv) v) b (swp xs a pv) (a+1) (b-1)).2.1):=rfl;generalize hYS:swp xs a pv=ys at *
 refine qy mixm (α:=List Rw×Nat×Nat×Nat) [11,12] (fun q=>q.1.length=xs.length∧gd q.1 a=gd xs pv∧a+1≤q.2.1∧q.2.1≤q.2.2.1+1∧q.2.2.1≤b-1∧q.2.2.1+1<q.2.1+q.2.2.2∧prt (fun v=>!(ltR cV) (gd xs pv) v) q.2.2.2 q.1 q.2.1 q.2.2.1=prt (fun v=>!(ltR cV) (gd xs pv) v) b ys (a+1) (b-1)) (fun q=>[(11,vI q.2.1),(12,vI q.2.2.1)]) (fun q=>[aR 0 1 (q.1.map rwT)]) (fun q=>q.2.2.2) (ys,a+1,b-1,b) ⟨by dsimp only;omega,hgw,by dsimp only;omega,by dsimp only;omega,by dsimp only;omega,by dsimp only;omega,rfl⟩ ?_ fun q hq=>?_
 ·exact .oA (U1 0) []
 clear hgw hYS;generalize prt (fun v=>!(ltR cV) (gd xs pv) v) b ys (a+1) (b-1)=R at *
 obtain⟨zs,m,n,f⟩:=q;obtain⟨g1,g2,g3,g4,g5,g6,g7⟩:=hq;dsimp only at g1 g2 g3 g4 g5 g6 g7;dsimp only;refine sW ?_;refine qy mixm (α:=Nat) [11] (fun i=>m≤i∧i≤n+1∧up (fun v=>!(ltR cV) (gd xs pv) v) n zs (n+1-i) i=up (fun v=>!(ltR cV) (gd xs pv) v) n zs (n+1-(m)) (m)) (fun i=>[(11,vI i)]) (fun i=>[aR 0 1 (zs.map rwT)]) (fun i=>n+1-i) (m) ⟨BZ _,oM,rfl⟩ ?_ fun i1 hi=>?_
 ·exact .oA (U1 0) []
 obtain⟨hu1,hu2,hu3⟩:=hi;have hwu:=qg (i:=i1) oM;simp only[tZ,↓uU,simprocAttr,Ax,qz (show a<zs.length by omega),qQ,g2];refine⟨fun h=>by have:=of_decide_eq_true h;omega,fun h=>by have:=of_decide_eq_true h;omega,fun h=>by have:=of_decide_eq_true h;omega,fun h=>by have:=of_decide_eq_true h;omega,?_⟩;refine C2.im (r:=vI (cV (gd xs pv) (gd zs i1))) (fun h=>by have:=of_decide_eq_true h;rw[qz (show i1<zs.length by omega)];exact hV (gd xs pv) (gd zs i1)) (fun h=>by have:=of_decide_eq_true h;rw[qz (show i1<zs.length by omega)];rfl) rfl ?_;simp only[tZ,↓uU,simprocAttr,hwu];refine⟨kR,fun h5=>?_,fun h5=>?_⟩
 ·obtain⟨h5,h6⟩:=dand h5;refine⟨i1+1,⟨oM,oM,(So.up_step (p:=(fun v=>!(ltR cV) (gd xs pv) v)) oM h6).symm.trans hu3⟩,oM,?_⟩;exact .oA (U1 0) []
 have hu5:=qB2 h5;have hu4:up (fun v=>!(ltR cV) (gd xs pv) v) n zs (n+1-(m)) (m)=i1:=hu3.symm.trans (qG8 _ (fun h=>hu5 ⟨oM,h.2⟩));clear h5 hu3;refine qy mixm (α:=Nat) [12,47] (fun j=>j≤n∧i1≤j+1∧dn (fun v=>!(ltR cV) (gd xs pv) v) i1 zs (j+1-i1) j=dn (fun v=>!(ltR cV) (gd xs pv) v) i1 zs (n+1-i1) (n)) (fun j=>[(12,vI j)]) (fun j=>[aR 0 1 (zs.map rwT)]) (fun j=>j+1-i1) (n) ⟨BZ _,oM,rfl⟩ ?_ fun j1 hj=>?_
 ·exact .oA (U1 0) []
 obtain⟨hd1,hd2,hd3⟩:=hj;have hwd:i1≤j1→IntKind.i64.wrap ((j1:Int)-1)=((j1-1:Nat):Int):=fun h=>by rw[AK _ oM];omega
 simp only[tZ,↓uU,simprocAttr,Ax,qz (show a<zs.length by omega),qQ,g2];refine⟨fun h=>by have:=of_decide_eq_true h;omega,fun h=>by have:=of_decide_eq_true h;omega,fun h=>by have:=of_decide_eq_true h;omega,fun h=>by have:=of_decide_eq_true h;omega,?_⟩;refine C2.im (r:=vI (cV (gd xs pv) (gd zs j1))) (fun h=>by have:=of_decide_eq_true h;rw[qz (show j1<zs.length by omega)];exact hV (gd xs pv) (gd zs j1)) (fun h=>by have:=of_decide_eq_true h;rw[qz (show j1<zs.length by omega)];rfl) rfl ?_;refine sW ?_;refine⟨kR,fun h5=>?_,fun h5=>?_⟩
 ·obtain⟨h5,h6⟩:=dand h5;rw[hwd oM];refine⟨j1-1,⟨oM,oM,(qG9 (p:=(fun v=>!(ltR cV) (gd xs pv) v)) oM oM (by show (!decide (cV (gd xs pv) (gd zs j1)<0))=false;rw[h6];rfl)).symm.trans hd3⟩,oM,?_⟩;exact .oA (U1 0) []
 have hd5:=qB2 h5;have hd4:dn (fun v=>!(ltR cV) (gd xs pv) v) i1 zs (n+1-i1) (n)=j1:=hd3.symm.trans (qH0 _ (fun h=>hd5 ⟨oM,(by have h7:(!(ltR cV) (gd xs pv) (gd zs j1))=false:=h.2;simpa using h7)⟩));clear h5 hd3;simp only[tZ,↓uU,simprocAttr,AZ,Ay];obtain⟨f,rfl⟩:∃ k,f=k+1:=⟨f-1,oM⟩;rw[prt,hu4,hd4] at g7;refine⟨fun h5=>?_,fun h5=>?_⟩
 ·rw[Aj oM] at g7;have e1:R.1=zs:=by rw[← g7]
  have e2:R.2.1=i1:=by rw[← g7]
  rw[hpo,e1,e2];exact .oA (U1 0) []
 ·rw[Aq oM] at g7;have hij:i1<j1:=by
   by_cases h:i1=j1
   ·exfalso;subst h
    cases hv:(ltR cV) (gd xs pv) (gd zs i1) with
    | false=>exact hu5 ⟨oM,by (try simp only[ltR] at hv);rw[hv];rfl⟩
    | true=>exact hd5 ⟨oM,hv⟩
   ·omega
  have hwi:=qg (i:=i1) oM;have hwj:IntKind.i64.wrap ((j1:Int)-1)=((j1-1:Nat):Int):=by rw[AK _ oM];omega
  have hss:(zs.set i1 (gd zs j1)).length=zs.length:=Fw;simp only[tZ,↓uU,simprocAttr,Ax,qz (show i1<zs.length by omega),qz (show j1<zs.length by omega),zS,qQ,jw,qz (show j1<(zs.set i1 (gd zs j1)).length by omega),jx,hwi,hwj];have hzl:=qO zs i1 j1;have hgz:gd (swp zs i1 j1) a=gd xs pv:=by rw[wC oM oM,Aq oM,Aq oM,g2]
  refine⟨oM,oM,oM,oM,oM,oM,oM,oM,kR,(swp zs i1 j1,i1+1,j1-1,f),⟨by dsimp only;omega,hgz,by dsimp only;omega,by dsimp only;omega,by dsimp only;omega,by dsimp only;omega,g7⟩,by dsimp only;omega,?_⟩;exact .oA (U1 0) []
include hV in
theorem jK (xs:List Rw) (a b:Nat) (hab:a<b) (hb:b≤xs.length) (hl:xs.length<2305843009213693952) :
 Sp 77 [.asl 0 xs.length,vI a,vI b,.clo fV []] [aR 0 1 (xs.map rwT)] (vB (pins (ltR cV) a b 5 (a+1) xs).2) [aR 0 1 ((pins (ltR cV) a b 5 (a+1) xs).1.map rwT)]:=by
 have hw1:IntKind.i64.wrap ((a:Int)+1)=((a+1:Nat):Int):=qg oM;refine jj [18] jq mixm sMp fun e _ hst=>QR ?_;unfold qU;simp only[yA,List.contains_cons,List.contains_nil,Nat.reduceBEq,Bool.or_false,Bool.or_true,Bool.true_or,Bool.false_or,cond_true,cond_false];simp only[tZ,↓uU,simprocAttr,hw1];refine qy mixm (α:=List Rw×Nat×Nat) [9,10] (fun q=>q.1.length=xs.length∧a<q.2.1∧q.2.1≤b∧q.2.2≤5∧pins (ltR cV) a b q.2.2 q.2.1 q.1=pins (ltR cV) a b 5 (a+1) xs) (fun q=>[(9,vI q.2.1),(10,vI (5-(q.2.2:Int)))]) (fun q=>[aR 0 1 (q.1.map rwT)]) (fun q=>q.2.2) (xs,a+1,5) ⟨rfl,by dsimp only;omega,by dsimp only;omega,BZ _,rfl⟩ ?_ fun q hq=>?_
 ·exact .oA (U1 0) []
 obtain⟨ys,i,k⟩:=q;obtain⟨h1,h2,h3,h4,h5⟩:=hq;dsimp only at h1 h2 h3 h4 h5;simp only[tZ,↓uU,simprocAttr,AZ,Ay];refine⟨fun h6=>?_,fun h6=>?_⟩
 ·obtain⟨k,rfl⟩:∃ j,k=j+1:=⟨k-1,oM⟩;rw[pins] at h5;refine qy mixm (α:=Nat) [9,16] (fun m=>i≤m∧m≤b∧upA (ltR cV) b ys (b-m) m=upA (ltR cV) b ys (b-i) i) (fun m=>[(9,vI m)]) (fun m=>[aR 0 1 (ys.map rwT)]) (fun m=>b-m) i ⟨BZ _,oM,rfl⟩ ?_ fun m hm=>?_
  ·exact .oA (U1 0) []
  obtain⟨g1,g2,g3⟩:=hm;have hwm:=qg (i:=m) oM;have hwp:IntKind.i64.wrap ((m:Int)-1)=((m-1:Nat):Int):=by rw[AK _ oM];omega
  simp only[tZ,↓uU,simprocAttr,hwp,Ax,qz (show m-1<ys.length by omega),qQ];refine⟨fun h=>by have:=of_decide_eq_true h;omega,fun h=>by have:=of_decide_eq_true h;omega,fun h=>by omega,fun h=>by omega,?_⟩;refine C2.im (r:=vI (cV (gd ys m) (gd ys (m-1)))) (fun h=>by have:=of_decide_eq_true h;rw[qz (show m<ys.length by omega)];exact hV (gd ys m) (gd ys (m-1))) (fun h=>by have:=of_decide_eq_true h;rw[qz (show m<ys.length by omega)];rfl) rfl ?_;simp only[tZ,↓uU,simprocAttr,hwm];refine⟨kR,fun h7=>?_,fun h7=>?_⟩
  ·obtain⟨h7,h8⟩:=dand h7;rw[Bx] at h8;refine⟨m+1,⟨oM,oM,(zx9 oM h8).symm.trans g3⟩,oM,?_⟩;exact .oA (U1 0) []
  have h8:=qB2 h7;rw[← g3,zy0 _ (fun h=>h8 ⟨oM,by have h9:decide (cV (gd ys m) (gd ys (m-1))<0)=false:=h.2;rw[h9];rfl⟩)] at h5;clear h7 h8 g3;simp only[tZ,↓uU,simprocAttr,AZ,Ay];refine⟨fun h7=>?_,fun h7=>?_⟩
  ·have h7:=AY.1 h7;rw[Aj oM] at h5;rw[← h5];exact .oA (U1 0) []
  have h7:=Ak.1 h7;rw[Aq oM] at h5;have hwb:IntKind.i64.wrap ((b:Int)-a)=((b-a:Nat):Int):=by rw[AK _ oM];omega
  simp only[tZ,↓uU,simprocAttr,AZ,Ay,hwb];refine⟨fun h8=>?_,fun h8=>?_⟩
  ·rw[Aj oM] at h5;rw[← h5];exact .oA (U1 0) []
  rw[Aq oM] at h5;have hss:(ys.set m (gd ys (m-1))).length=ys.length:=Fw;have hwma:IntKind.i64.wrap ((m:Int)-a)=((m-a:Nat):Int):=by rw[AK _ oM];omega
  have hswl:=qO ys m (m-1);simp only[tZ,↓uU,simprocAttr,hwp,hwma,Ax,qz (show m<ys.length by omega),qz (show m-1<ys.length by omega),zS,qQ,jw,qz (show m-1<(ys.set m (gd ys (m-1))).length by omega),jx];refine⟨oM,oM,oM,oM,oM,oM,oM,oM,kR,?_⟩;generalize swp ys m (m-1)=zs at *
  have hpl:(pnsL (ltR cV) a m zs).length=xs.length:=by
   rw[pnsL];split
   ·rw[(qa7 (ltR cV) (a:=0) (b:=b) (m-1) zs oM oM oM).len];omega
   ·omega
  refine⟨fun h9=>?_,fun h9=>?_⟩
  rotate_left
  have hL:pnsL (ltR cV) a m zs=zs:=by rw[pnsL,Aq oM]
  refine W_le [(0,.asl 0 xs.length),(1,vI a),(2,vI b),(3,.clo fV []),(9,vI m),(10,vI (5-((k+1:Nat):Int)))] [aR 0 1 ((pnsL (ltR cV) a m zs).map rwT)] ?_ ?_
  ·rw[hL];exact .oA (U1 0) []
  rotate_left
  have hL:pnsL (ltR cV) a m zs=insJ (ltR cV) 0 (m-1) zs:=by rw[pnsL,Aj oM]
  refine qy mixm (α:=List Rw×Nat) [11,65] (fun q=>q.1.length=xs.length∧q.2≤m-1∧insJ (ltR cV) 0 q.2 q.1=insJ (ltR cV) 0 (m-1) zs) (fun q=>[(11,vI q.2)]) (fun q=>[aR 0 1 (q.1.map rwT)]) (fun q=>q.2) (zs,m-1) ⟨by dsimp only;omega,BZ _,rfl⟩ ?_ fun q hq=>?_
  ·exact .oA (U1 0) []
  obtain⟨us,j⟩:=q;obtain⟨e1,e2,e3⟩:=hq;dsimp only at e1 e2 e3;simp only[tZ,↓uU,simprocAttr,AZ,Ay];refine⟨fun h10=>?_,fun h10=>?_⟩
  rotate_left
  obtain rfl:j=0:=by omega
  rw[insJ,← hL] at e3;refine W_le [(0,.asl 0 xs.length),(1,vI a),(2,vI b),(3,.clo fV []),(9,vI m),(10,vI (5-((k+1:Nat):Int)))] [aR 0 1 ((pnsL (ltR cV) a m zs).map rwT)] ?_ ?_
  ·rw[← e3];exact .oA (U1 0) []
  rotate_right
  obtain⟨j,rfl⟩:∃ k,j=k+1:=⟨j-1,oM⟩;have hwj:IntKind.i64.wrap (((j+1:Nat):Int)-1)=(j:Int):=by rw[AK _ oM];omega
  rw[insJ] at e3;simp only[tZ,↓uU,simprocAttr,hwj,Ax,qz (show j<us.length by omega),qz (show j+1<us.length by omega),qQ];refine⟨oM,oM,oM,oM,?_⟩;refine C1.im (hV (gd us (j+1)) (gd us j)) rF rF ?_;simp only[tZ,↓uU,simprocAttr,Bx,Bz];refine⟨kR,fun h11=>?_,fun h11=>?_⟩
  rotate_left
  ·rw[Aj ⟨oM,h11⟩] at e3;have hsu:(us.set (j+1) (gd us j)).length=us.length:=Fw;have hul:=qO us (j+1) j;simp only[tZ,↓uU,simprocAttr,hwj,Ax,qz (show j+1<us.length by omega),qz (show j<us.length by omega),zS,qQ,jw,qz (show j<(us.set (j+1) (gd us j)).length by omega),jx];refine⟨oM,oM,oM,oM,oM,oM,oM,oM,kR,(swp us (j+1) j,j),⟨by dsimp only;omega,by dsimp only;omega,e3⟩,by dsimp only;omega,?_⟩;exact .oA (U1 0) []
  rotate_right
  rw[Aq (fun e=>by simp only[ltR] at e;rw[h11] at e;exact absurd e.2 sMp),← hL] at e3;refine W_le [(0,.asl 0 xs.length),(1,vI a),(2,vI b),(3,.clo fV []),(9,vI m),(10,vI (5-((k+1:Nat):Int)))] [aR 0 1 ((pnsL (ltR cV) a m zs).map rwT)] ?_ ?_
  ·rw[← e3];exact .oA (U1 0) []
  all_goals clear hL
  all_goals generalize pnsL (ltR cV) a m zs=ps at *
  all_goals have hwbm:IntKind.i64.wrap ((b:Int)-m)=((b-m:Nat):Int):=by rw[AK _ oM];omega
  all_goals have hwk:IntKind.i64.wrap ((5:Int)-((k+1:Nat):Int)+1)=5-(k:Int):=by rw[AK _ oM];omega
  all_goals have hwm:=qg (i:=m) oM
  all_goals
   simp only[tZ,↓uU,simprocAttr,AZ,Ay,hwbm,hwk,hwm];refine⟨fun h9=>?_,fun h9=>?_⟩
   ·have hR:pnsR (ltR cV) b m ps=So.shR (ltR cV) b (b-(m+1)) (m+1) ps:=by rw[pnsR,Aj oM]
    refine qy mixm (α:=List Rw×Nat) [12,104] (fun q=>q.1.length=xs.length∧m+1≤q.2∧q.2≤b∧So.shR (ltR cV) b (b-q.2) q.2 q.1=So.shR (ltR cV) b (b-(m+1)) (m+1) ps) (fun q=>[(12,vI q.2)]) (fun q=>[aR 0 1 (q.1.map rwT)]) (fun q=>b-q.2) (ps,m+1) ⟨hpl,BZ _,by dsimp only;omega,rfl⟩ ?_ fun q hq=>?_
    ·exact .oA (U1 0) []
    obtain⟨vs,n⟩:=q;obtain⟨f1,f2,f3,f4⟩:=hq;dsimp only at f1 f2 f3 f4;rw[← hR] at f4;simp only[tZ,↓uU,simprocAttr,AZ,Ay];refine⟨fun h12=>?_,fun h12=>?_⟩
    ·have hwn:IntKind.i64.wrap ((n:Int)-1)=((n-1:Nat):Int):=by rw[AK _ oM];omega
     have hwn1:=qg (i:=n) oM;rw[show b-n=(b-(n+1))+1 by omega,So.shR] at f4;simp only[tZ,↓uU,simprocAttr,hwn,hwn1,hwk,Ax,qz (show n<vs.length by omega),qz (show n-1<vs.length by omega),qQ];refine⟨oM,oM,oM,oM,?_⟩;refine C1.im (hV (gd vs n) (gd vs (n-1))) rF rF ?_;simp only[tZ,↓uU,simprocAttr,Bx,Bz];refine⟨kR,fun h13=>?_,fun h13=>?_⟩
     ·rw[Aq (fun e=>by simp only[ltR] at e;rw[h13] at e;exact absurd e.2 sMp)] at f4;rw[← f4] at h5;simp only[tZ,↓uU,simprocAttr,hwk];refine⟨(vs,m,k),⟨by dsimp only;omega,by dsimp only;omega,by dsimp only;omega,by dsimp only;omega,h5⟩,by dsimp only;omega,?_⟩;exact .oA (U1 0) []
     ·rw[Aj ⟨oM,h13⟩] at f4;have hsu:(vs.set n (gd vs (n-1))).length=vs.length:=Fw;have hul:=qO vs n (n-1);simp only[tZ,↓uU,simprocAttr,hwn,hwn1,Ax,qz (show n<vs.length by omega),qz (show n-1<vs.length by omega),zS,qQ,jw,qz (show n-1<(vs.set n (gd vs (n-1))).length by omega),jx];refine⟨oM,oM,oM,oM,oM,oM,oM,oM,kR,(swp vs n (n-1),n+1),⟨by dsimp only;omega,by dsimp only;omega,by dsimp only;omega,f4.trans hR⟩,by dsimp only;omega,?_⟩;exact .oA (U1 0) []
    ·obtain rfl:n=b:=by omega
     rw[Nat.sub_self,So.shR] at f4;rw[← f4] at h5;simp only[tZ,↓uU,simprocAttr,hwk];refine⟨(vs,m,k),⟨by dsimp only;omega,by dsimp only;omega,by dsimp only;omega,by dsimp only;omega,h5⟩,by dsimp only;omega,?_⟩;exact .oA (U1 0) []
   ·have hR:pnsR (ltR cV) b m ps=ps:=by rw[pnsR,Aq oM]
    rw[hR] at h5;refine⟨(ps,m,k),⟨by dsimp only;omega,by dsimp only;omega,by dsimp only;omega,by dsimp only;omega,h5⟩,by dsimp only;omega,?_⟩;exact .oA (U1 0) []
 ·obtain rfl:k=0:=by omega
  rw[pins] at h5;rw[← h5];exact .oA (U1 0) []
end
end Go.Proofs
