/- A part of the proof: trees of Go values, short forms, contracts. -/
import Derived.WalkKit
import Derived.Still
import Derived.MapKept
import GoSem.Builtin.Cap
import Derived.Laws.Externs
import GoSem.Extern.SlicesOverlaps
import Derived.Carry
import Derived.ProofKit
import Derived.OpenShut
import Derived.HandedShaped
import Derived.Lay
import Derived.LaidLaws
import Derived.MakeChecks
import Derived.SevenTiedAt
import Derived.Test.YtnfagfikoblhfaaGreatDoorChecked
import Derived.Test.YtnfagfikoblhfaaGreatDoorK24
set_option linter.unusedSimpArgs false
set_option linter.unusedVariables false
namespace Go.Proofs
open Go Go.TL
set_option maxRecDepth 4000
set_option maxHeartbeats 8000000
open So
theorem jV1 {c:Col} {a v:Int} (hc:c.low≤c.high) (h:(jl c a v).2.2=true):c.low≤(jl c a v).1∧(jl c a v).1≤(jl c a v).2.1∧(jl c a v).2.1≤c.high:=by
 unfold jl at h ⊢
 split
 ·exact⟨by dsimp only;omega,by dsimp only;omega,by dsimp only;omega⟩
 ·rename_i h0;rw[Aq h0] at h;split
  ·rename_i h1;rw[Aj h1] at h;cases h
  ·rename_i h1;rw[Aq h1,Bq,AZ] at h;dsimp only at h ⊢
   omega
theorem zI7 (s:Sch) (hs:jo s) (c a v b:Int):Spc Tryz.prog 176 [schT s,vI c,vI a,vI v,vI b] [] (.tup [vI (Kb s c a v b).1,vB (Kb s c a v b).2]) []:=by
 have sCan:=qV0 s hs c a v;have sFin:=zB s hs c;have sIn:=zG b 0 (finI s c);by_cases hbad:canR s c a v=false∨inB b 0 (finI s c)=false
 ·have hT:Kb s c a v b=(0,false):=by
   by_cases hin:inB a 0 (finI s c)=false∨inB b 0 (finI s c)=false
   ·rw[Kb,Aj hin]
   ·have hA:inB a 0 (finI s c)=true:=by cases h:inB a 0 (finI s c) with
     | true=>rfl
     | false=>exact absurd (.inl h) hin
    have hB:inB b 0 (finI s c)=true:=by cases h:inB b 0 (finI s c) with
     | true=>rfl
     | false=>exact absurd (.inr h) hin
    have hcn:canR s c a v=false:=by
     rcases hbad with h | h
     ·exact h
     ·rw[hB] at h;cases h
    rw[jj] at hA hB;obtain⟨hE,c1,c2,_⟩:=kf (s:=s) (c:=c) oM;obtain⟨k,rfl⟩:=AJ (show 0≤c by omega);have hk:k<s.cols.length:=by omega
    have hok:=qU hE;rw[Kb,Aq hin,Ax];rw[zu3 hE hk oM hA] at hcn;by_cases h2:(qj s k).kind=2
    ·rw[Aj h2];rw[qz3,Aq oM] at hcn;cases hf:(qO s k).find? fun l=>upC (qK s k) l a==v with
     | some y=>rw[hf] at hcn;cases hcn
     | none=>
       have:(qO s k).filter (fun x=>upC (qK s k) x a==v)=[]:=List.filter_eq_nil_iff.2 fun y hy=>List.find?_eq_none.1 hf y hy;unfold Wx;rw[this]
       rfl
    ·have hM:=zt7 hE hk oM h2;rw[qz3,Aj hM.kind] at hcn;rw[Aq h2,ZO];by_cases hm:0<a∧v=zp
     ·rw[Aj hm] at hcn ⊢
      dsimp only at hcn ⊢
      rw[hcn,Aq sMp]
     ·rw[Aq hm] at hcn ⊢
      rw[Aj hcn]
      rfl
  rw[hT];refine sIr KZ fun e _ hst=>?_;unfold wU;refine sW ?_;refine C1.im sCan rF rF ?_;refine sW ?_;refine C2.im (fun _=>sFin) (fun _=>rfl) rF ?_;refine sW ?_;refine C2.im (fun _=>sIn) (fun _=>rfl) rF ?_;simp only[tZ,↓un_u,simprocAttr,tD,Bx,Bz];refine⟨fun _=>?_,fun k=>by rcases hbad with h | h <;> simp [h] at k⟩;exact .oA [] []
 have hcn:canR s c a v=true:=by cases h:canR s c a v with
  | true=>rfl
  | false=>exact absurd (.inl h) hbad
 have hB:inB b 0 (finI s c)=true:=by cases h:inB b 0 (finI s c) with
  | true=>rfl
  | false=>exact absurd (.inr h) hbad
 have hA:inB a 0 (finI s c)=true:=by cases h:inB a 0 (finI s c) with
  | true=>rfl
  | false=>rw[canR,Aj h] at hcn;cases hcn
 have hT:Kb s c a v b=(let r:=if (qj s c.toNat).kind=2 then Wx (qO s c.toNat) (fun x=>upC (qK s c.toNat) x a) (fun x=>upC (qK s c.toNat) x b) v else ZO (qj s c.toNat) a v b
  (if r.2=true then r.1 else 0,r.2)):=by rw[Kb,Aq (by rw[hA,hB];simp)]
 rw[hT];rw[jj] at hA;have hB2:=jj.1 hB;obtain⟨hE,c1,c2,_⟩:=kf (s:=s) (c:=c) oM;obtain⟨k,rfl⟩:=AJ (show 0≤c by omega);have hk:k<s.cols.length:=by omega
 have hok:=qU hE;have hat:qj s k=s.cols[k]:=by rw[qj,qg hk]
 have hsome:=zu3 hE hk oM hA v;rw[hcn] at hsome
 replace hsome:=hsome.symm
 rw[Ax];dsimp only;rw[hcn] at sCan;rw[hB] at sIn;by_cases h2:(qj s k).kind=2
 ·rw[Aj h2];have hLf:=kO s hok k hk h2;have hLl:=yO hok hk h2;have sCo:=fun l y=>zm s hs k l y;have hco:∀ l,0≤l→l≤finI s k→∀ y∈qO s k,qQ s k l y=upC (qK s k) y l:=fun l l0 hl y hy=>by
   have h3:=(qt6 hok hk h2).2 hy;rw[qQ,Aq (by rw[Ez,jj];omega),Ax,Aj h2,Aq (by rw[h3];simp)]
  have hge:∀ y∈qO s k,0≤upC (qK s k) y b:=fun y hy=>by
   obtain⟨l,rfl⟩:=AJ hB2.1;rw[← hco l oM hB2.2 y hy];obtain⟨c,_,_,_,e⟩:=jU4 hE hk oM h2 hB2.2 ((qt6 hok hk h2).2 hy);rw[e];omega
  have hne:∃ y∈qO s k,upC (qK s k) y a=v:=by
   rw[qz3,Aq oM] at hsome;cases hf:(qO s k).find? fun l=>upC (qK s k) l a==v with
   | none=>rw[hf] at hsome;cases hsome
   | some y=>exact⟨y,List.mem_of_find?_eq_some hf,by simpa using List.find?_some hf⟩
  have hcoA:=hco a hA.1 hA.2;have hcoB:=hco b hB2.1 hB2.2;rw[hat] at h2;generalize qO s k=L at hLf hLl hge hne hcoA hcoB ⊢
  refine sIr KZ fun e _ hst=>?_;unfold wU;refine sW ?_;refine C1.im sCan rF rF ?_;refine sW ?_;refine C2.im (fun _=>sFin) (fun _=>rfl) rF ?_;refine sW ?_;refine C2.im (fun _=>sIn) (fun _=>rfl) rF ?_;simp only[tZ,↓un_u,simprocAttr,Ax,qd hk,AY,Ak];generalize s.cols[k]=x at h2 ⊢
  refine⟨oM,fun _=>?_,fun h=>absurd h2 h⟩;refine C1.im hLf rF rF ?_;refine sW ?_;refine qk mixm (α:=Nat×Int×Bool) [14,15] (fun y=>y.1≤L.length∧TcI (fun x=>upC (qK s k) x b) ((L.take y.1).filter fun x=>upC (qK s k) x a==v) y.2.1 y.2.2∧(y.2.2=true→0≤y.2.1)) (fun y=>[(14,vI (if y.2.2=true then y.2.1 else -1)),(15,vI y.1)]) (fun y=>[(4096,.arr 2 [schT s] false)]) (fun y=>L.length-y.1) (0,0,false) ⟨sMp,.inl ⟨rfl,rfl,rfl⟩,fun h=>by cases h⟩ ?_ fun y hy=>?_
  ·exact .oA [(4096,some 4096)] []
  obtain⟨i,o,t⟩:=y;obtain⟨y1,y2,y3⟩:=hy;dsimp only at y1 y2 y3;refine sD ?_;refine⟨fun h3=>?_,fun h3=>?_⟩
  ·have hi2:i<L.length:=by omega
   have hwi:=qh (i:=i) oM;have hsp:=qU6 (f:=fun x=>upC (qK s k) x a) (v:=v) hi2;have hbd:=fun e=>zj2 (f:=fun x=>upC (qK s k) x a) (g:=fun x=>upC (qK s k) x b) (v:=v) (o:=o) hi2 e;have sA:=sCo a L[i];have sB:=sCo b L[i];rw[hcoA _ (AX hi2)] at sA;rw[hcoB _ (AX hi2)] at sB;have hgi:=hge _ (AX hi2);simp only[tZ,↓un_u,simprocAttr,Ax,qd hi2];refine⟨oM,?_⟩;refine C1.im sA rF rF ?_;simp only[tZ,↓un_u,simprocAttr,Bj,Aw,hwi,Ax,qd hi2];refine⟨kR,fun h4=>?_,fun h4=>?_⟩
   ·rw[Aq (by rw[AY];exact h4),CW] at hsp;refine⟨(i+1,o,t),⟨by dsimp only;omega,by dsimp only;rw[hsp];exact y2,y3⟩,by dsimp only;omega,?_⟩;exact .oA [(4096,some 4096)] []
   rw[Aj (AY.2 h4)] at hsp;refine⟨oM,?_⟩;refine C1.im sB rF rF ?_;generalize L[i]=x at hsp hbd h4 hgi ⊢
   cases t with
   | false=>
     simp only[tZ,↓un_u,simprocAttr,hwi];refine⟨kR,?_⟩;refine⟨(i+1,upC (qK s k) x b,true),⟨by dsimp only;omega,?_,fun _=>hgi⟩,by dsimp only;omega,?_⟩
     ·dsimp only;rw[hsp];rcases y2 with⟨k1,k2,k3⟩ | ⟨z,r,k1,k2,k3,k4⟩
      ·exact .inr ⟨x,[],by rw[k1];rfl,sMp,rfl,rfl⟩
      ·cases k4
     ·exact .oA [(4096,some 4096)] []
   | true=>
     simp only[tZ,↓un_u,simprocAttr,tD,Bj,Aw,hwi];refine⟨kR,fun h5=>?_,fun h5=>?_⟩
     ·rw[hbd y2 (AY.2 h4) h5.2];exact .oA [] []
     ·have hx:upC (qK s k) x b=o:=by
       have:=y3 rfl;omega
      refine⟨(i+1,upC (qK s k) x b,true),⟨by dsimp only;omega,?_,fun _=>hgi⟩,by dsimp only;omega,?_⟩
      ·dsimp only;rw[hsp];rcases y2 with⟨k1,k2,k3⟩ | ⟨z,r,k1,k2,k3,k4⟩
       ·cases k3
       ·refine .inr ⟨z,r++[x],by rw[k1];rfl,fun y hy=>?_,by rw[hx,k3],rfl⟩;rcases Dz.1 hy with hy | hy
        ·exact k2 y hy
        ·rw[Ey.1 hy];dsimp only;rw[hx,k3]
      ·exact .oA [(4096,some 4096)] []
  ·have hil:i=L.length:=by omega
   subst hil;rw[Bw] at y2;rw[TcI.fin y2];have ht:t=true:=by
    rcases y2 with⟨m1,_,_⟩ | ⟨_,_,_,_,_,m⟩
    ·obtain⟨y,q1,q2⟩:=hne;have:=List.filter_eq_nil_iff.1 m1 y q1;rw[q2] at this;simp at this
    ·exact m
   subst ht;exact .oA [] []
 ·rw[Aq h2];have hM:=zt7 hE hk oM h2;rw[qz3,Aj hM.kind] at hsome;have hf:=hM.fin;have hw:=fun lev (h1:0≤lev∧lev≤finI s k)=>show lev=0∨(1≤lev∧lev≤(qj s k).widths.length∧(qj s k).widths.length≤4∧1≤qy (qj s k) lev∧qy (qj s k) lev≤1000000) by
   rcases Int.lt_or_le 0 lev with q | q
   ·right
    obtain⟨w1,w2,_,w4,_⟩:=hok.wid hk oM h2 (lev:=lev) oM;exact⟨oM,oM,w4,w1,w2⟩
   ·left;omega
  have sBk:=qt9 (qj s k) a v (hw a hA);have sCo:=fun y=>zm s hs k b y;rw[hat] at h2 sBk hsome;have hTm:ZO s.cols[k] a v b=ZO (qj s k) a v b:=by rw[hat]
  rw[← hTm];refine sIr KZ fun e _ hst=>?_;unfold wU;refine sW ?_;refine C1.im sCan rF rF ?_;refine sW ?_;refine C2.im (fun _=>sFin) (fun _=>rfl) rF ?_;refine sW ?_;refine C2.im (fun _=>sIn) (fun _=>rfl) rF ?_;simp only[tZ,↓un_u,simprocAttr,Ax,qd hk,AY,Ak];refine⟨oM,fun h=>absurd h h2,fun _=>?_⟩;have hlh:=hM.lh;have hmi:zp = -1099511627776:=rfl;have hkind:=hM.kind;have cT:ZO s.cols[k] a v b=if 0<a∧v=zp then ((if b=0 then 0 else v),s.cols[k].opt)
   else if (jl s.cols[k] a v).2.2=false then (0,false)
   else if b=0 then (0,true)
   else if a=0∧s.cols[k].opt=true then (0,false)
   else (qH (jl s.cols[k] a v).1 (qy s.cols[k] b)*qy s.cols[k] b,qH (jl s.cols[k] a v).1 (qy s.cols[k] b)*qy s.cols[k] b==qH (jl s.cols[k] a v).2.1 (qy s.cols[k] b)*qy s.cols[k] b):=rfl
  refine⟨fun h3=>?_,fun h3=>⟨fun h4=>?_,fun h4=>⟨fun h5=>?_,fun h5=>?_⟩⟩⟩
  ·have e:ZO s.cols[k] a v b=(0,true):=by
    rw[cT];by_cases hm:0<a∧v=zp
    ·rw[Aj hm] at hsome ⊢
     rw[Aj h3];exact Prod.ext rfl hsome
    ·rw[Aq hm] at hsome ⊢
     dsimp only at hsome;rw[Aq (by rw[hsome];simp),Aj h3]
   rw[e];exact .oA [] []
  ·rw[Bq,AZ,AY] at h4;have hm:0<a∧v=zp:=⟨oM,h4.2⟩;have e:ZO s.cols[k] a v b=(-1099511627776,true):=by
    rw[cT];rw[Aj hm] at hsome ⊢
    rw[Aq h3];exact Prod.ext h4.2 hsome
   rw[e];exact .oA [] []
  ·rw[Bq,AY] at h5;have hm:¬ (0<a∧v=zp):=by omega
   rw[Aq hm] at hsome;dsimp only at hsome;have e:ZO s.cols[k] a v b=(0,false):=by
    rw[cT,Aq hm,Aq (by rw[hsome];simp),Aq h3,Aj h5]
   rw[e];exact .oA [] []
  ·have hm:¬ (0<a∧v=zp):=fun q=>by
    rw[Bool.eq_false_iff] at h4;exact h4 (by rw[Bq,AZ,AY];exact⟨oM,q.2⟩)
   have hno:¬ (a=0∧s.cols[k].opt=true):=fun q=>by
    rw[Bool.eq_false_iff] at h5;exact h5 (by rw[Bq,AY];exact q)
   rw[Aq hm] at hsome;dsimp only at hsome;rw[hat] at hlh hkind hw hf;obtain⟨g1,g2,g3⟩:=jV1 oM hsome;obtain⟨b1,b2⟩:=jb1 (c:=s.cols[k]) (a:=a) (v:=v) hlh (by have:=hw a hA;omega) oM;obtain⟨b3,b4⟩:=b2 hsome;have e:ZO s.cols[k] a v b=(qH (jl s.cols[k] a v).1 (qy s.cols[k] b)*qy s.cols[k] b,qH (jl s.cols[k] a v).1 (qy s.cols[k] b)*qy s.cols[k] b==qH (jl s.cols[k] a v).2.1 (qy s.cols[k] b)*qy s.cols[k] b):=by
    rw[cT,Aq hm,Aq (by rw[hsome];simp),Aq h3,Aq hno]
   obtain⟨l,hl⟩:=AJ hB2.1;have hcm:∀ y,s.cols[k].low≤y→y≤s.cols[k].high→qQ s k b y=qH y (qy s.cols[k] b)*qy s.cols[k] b:=fun y y1 y2=>by
    have hy:zy s k y=true:=(zI4 hM.kind).2 (.inr (by rw[hat];exact⟨y1,y2⟩));have:=jU3 hM (lev:=l) oM hy;rw[hl,this,Aq oM,Aq oM,hat]
   have sC1:=sCo (blkR s.cols[k] a v).1;have sC2:=sCo (blkR s.cols[k] a v).2.1;rw[b3] at sC1;rw[b4] at sC2;rw[hcm _ oM oM] at sC1 sC2;rw[e];refine C1.im sBk rF rF ?_;rw[b3,b4];generalize qH (jl s.cols[k] a v).1 (qy s.cols[k] b)*qy s.cols[k] b=X at sC1 ⊢
   generalize qH (jl s.cols[k] a v).2.1 (qy s.cols[k] b)*qy s.cols[k] b=Y at sC2 ⊢
   refine sW ?_;refine C1.im sC1 rF rF ?_;refine sW ?_;refine C1.im sC2 rF rF ?_;simp only[tZ,↓un_u,simprocAttr,Bj,Aw];refine⟨kR,fun h6=>?_,fun h6=>?_⟩
   ·rw[Ak.2 h6,Aq sMp];exact .oA [] []
   ·rw[AY.2 h6,Aj rfl];exact .oA [] []
end Go.Proofs
namespace Go.Proofs
open Go Go.TL
set_option maxRecDepth 4000
set_option maxHeartbeats 8000000
open So
theorem ze6 (x:Ext) (ks:List Int) (hk:ks.length<4611686018427387904) (hrl:x.rows.length≤1000000):Spc Tryz.prog 36 [extT x,vIs ks] [] (extT (nrwX x ks)) []:=by
 rw[show nrwX x ks=⟨x.proj,x.ver,x.picks,x.rows.filter (nrwP ks)⟩ from rfl];refine sIr Yk fun e _ hst=>?_;unfold wG;refine sW ?_;refine qk mixm (α:=Nat) [6] (fun i=>i≤x.rows.length) (fun i=>[(6,vI i)]) (fun i=>[(4096,.arr 4 [extT x] false),(4100,.arr 4 [extT ext0] false),(8220,.arr 4 [.agg [vS x.proj,vI x.ver,vPs x.picks,.asl 1 ((x.rows.take i).filter (nrwP ks)).length]] false),(1,.arr 1 (((x.rows.take i).filter (nrwP ks)).map vIs) false)]) (fun i=>x.rows.length-i) 0 oM ?_ fun i hi=>?_
 ·exact .oA [(4096,some 4096),(4100,some 4100),(8220,some 8220),(1,none)] []
 have hfl:=Fx (nrwP ks) (x.rows.take i);rw[Cz] at hfl;refine sD ?_;refine⟨fun h4=>?_,fun h4=>?_⟩
 ·have hi2:i<x.rows.length:=by omega
  have hwi:=qh (i:=i) oM;have hsp:(x.rows.take (i+1)).filter (nrwP ks)=(x.rows.take i).filter (nrwP ks)++if nrwP ks x.rows[i]=true then [x.rows[i]] else []:=by
   rw[qJ hi2,FY,List.filter_cons,List.filter_nil]
  by_cases h0:0<x.rows[i].length
  ·have hgi:=zn h0;have hCt:=Wh ks (hd x.rows[i]) hk;have q1:decide ((x.rows[i].length:Int)>0)=true:=Cx oM;have hP:nrwP ks x.rows[i]=ks.contains (hd x.rows[i]):=by rw[nrwP,Cx h0,Fq]
   rw[hP] at hsp;simp only[tZ,↓un_u,simprocAttr,Ax,qd hi2,hgi,q1];refine⟨oM,oM,oM,?_⟩;refine C2.im (fun _=>hCt) (fun _=>rfl) rF ?_;simp only[tZ,↓un_u,simprocAttr,hwi];refine⟨fun h6=>?_,fun h6=>?_⟩
   ·rw[Aj h6] at hsp;have hspl:=congrArg List.length hsp;simp only[AW,CJ,Cw] at hspl;simp only[tZ,↓un_u,simprocAttr,Ax,qd hi2];refine⟨oM,oM,kR,?_⟩;refine⟨i+1,oM,oM,?_⟩;rw[hsp];exact .oA [(4096,some 4096),(4100,some 4100),(8220,some 8220),(1,some 1)] []
   ·rw[Aq (by rw[h6];simp),CW] at hsp;refine⟨i+1,oM,oM,?_⟩;rw[hsp];exact .oA [(4096,some 4096),(4100,some 4100),(8220,some 8220),(1,some 1)] []
  ·have q1:decide ((x.rows[i].length:Int)>0)=false:=Cq oM;have hP:nrwP ks x.rows[i]=false:=by rw[nrwP,Cq h0,Bool.false_and]
   rw[hP,Aq sMp,CW] at hsp;simp only[tZ,↓un_u,simprocAttr,Ax,qd hi2,q1];refine⟨oM,?_⟩;refine C2.im (r:=vB false) (fun h=>absurd h sMp) (fun h=>absurd h sMp) rF ?_;simp only[tZ,↓un_u,simprocAttr,hwi];refine⟨i+1,oM,oM,?_⟩;rw[hsp];exact .oA [(4096,some 4096),(4100,some 4100),(8220,some 8220),(1,some 1)] []
 ·have hil:i=x.rows.length:=by omega
  subst hil;rw[Bw];exact .oA [] [1]
theorem zu4 (s:Sch) (hs:jo s) (hE:schE s=0) (x:Ext) (hpl:x.picks.length≤1000) (hrn:x.rows.length≤1000000) (hr:∀ r∈x.rows,r.length=x.picks.length+1) (r c lev:Int):Spc Tryz.prog 109 [schT s,extT x,vI r,vI c,vI lev] [] (.tup [vI (if r<0∨r≥x.rows.length then 0 else (knwI s x r.toNat c lev).1),vB (if r<0∨r≥x.rows.length then false else (knwI s x r.toNat c lev).2)]) []:=by
 by_cases h1:r<0∨r≥x.rows.length
 ·rw[Aj h1,Aj h1];refine sIr Jr fun e _ hst=>?_;unfold kL;refine sD ?_;refine⟨fun _=>?_,fun k=>by omega⟩;exact .oA [] []
 rw[Aq h1,Aq h1];obtain⟨j,rfl⟩:=AJ (show 0≤r by omega);have hj:j<x.rows.length:=by omega
 have hrl:=hr _ (AX hj);rw[Ax];by_cases h2:c<1∨c≥s.cols.length
 ·have hT:knwI s x j c lev=(0,false):=by
   have:finI s c = -1:=by rw[finI,Aj oM]
   rw[knwI,Kb,Aj (by
    right
    rw[this,Wu];omega)]
  rw[hT];refine sIr Jr fun e _ hst=>?_;unfold kL;refine sD ?_;refine⟨fun _=>?_,fun k=>by omega⟩;exact .oA [] []
 have sT:=fun a v=>zI7 s hs c a v lev;have hnone:(x.picks.any fun p=>p.col==c)=false→knwI s x j c lev=Kb s c 0 0 lev:=fun ha=>by rw[knwI,knwP,Aq (by rw[ha];simp)]
 have hhit:∀ i (hi:i<x.picks.length),((x.picks.take i).any fun p=>p.col==c)=false→(x.picks[i].col==c)=true→knwI s x j c lev=Kb s c x.picks[i].lev (x.rows[j].getD (i+1) 0) lev:=fun i hi h3 h4=>by
  have e:=kj (p:=fun p:Pk=>p.col==c) hi h3 h4;rw[knwI,knwP,Aj (qC0 (p:=fun p:Pk=>p.col==c) hi h4),e,qg hi,qg hj]
 generalize knwI s x j c lev=w at hnone hhit ⊢
 refine sIr Jr fun e _ hst=>?_;unfold kL;refine sD ?_;refine⟨fun k=>by omega,fun _=>?_⟩;refine qk mixm (α:=Nat) [12] (fun i=>i≤x.picks.length∧(((x.picks.take i).any fun p=>p.col==c)=false)) (fun i=>[(12,vI i)]) (fun i=>[(4096,.arr 2 [schT s] false),(4100,.arr 4 [extT x] false)]) (fun i=>x.picks.length-i) 0 ⟨oM,?_⟩ ?_ fun i hi=>?_
 ·rfl
 ·exact .oA [(4096,some 4096),(4100,some 4100)] []
 simp only[tZ,↓un_u,simprocAttr,AZ,Ay];refine⟨fun h=>?_,fun h=>?_⟩
 ·have hi2:i<x.picks.length:=by omega
  have hwi:=qh (i:=i) oM;have hil:i+1<x.rows[j].length:=by omega
  have hgr:(x.rows[j].map vI).getD (i+1) .junk=vI (x.rows[j].getD (i+1) 0):=by rw[qd hil,qg hil]
  have hi2:i<x.picks.length:=by omega
  have hwi:=qh (i:=i) oM;simp only[tZ,↓un_u,simprocAttr,Ax,qd hi2,hwi,qd hj];refine⟨oM,fun h3=>?_,fun h3=>?_⟩
  ·have sTi:=sT x.picks[i].lev (x.rows[j].getD (i+1) 0);rw[← hhit i hi2 hi.2 h3] at sTi;simp only[tZ,↓un_u,simprocAttr,Ax,qd hi2,qd hj,hwi,hgr];refine⟨oM,oM,oM,?_⟩;refine C1.im sTi rF rF ?_;refine sW ?_;refine⟨kR,?_⟩;exact .oA [] []
  ·refine⟨i+1,⟨oM,jg hi2 hi.2 h3⟩,oM,?_⟩;exact .oA [(4096,some 4096),(4100,some 4100)] []
 ·have hi2:i=x.picks.length:=by omega
  subst hi2;have sTi:=sT 0 0;have h3:=hi.2;rw[Bw] at h3;rw[← hnone h3] at sTi;refine C1.im sTi rF rF ?_;refine sW ?_;exact .oA [] []
end Go.Proofs
namespace Go.Proofs
open Go Go.TL
set_option maxRecDepth 4000
set_option maxHeartbeats 8000000
open So
theorem Wp (s:Sch) (hs:jo s) (x:Ext) (hp:x.picks.length<4611686018427387904) (hr:∀ r∈x.rows,r.length<4611686018427387904):Spc Tryz.prog 40 [schT s,extT x] [] (vI (extE s x)) []:=by
 refine sIr qW6 fun e _ hst=>?_;unfold Jh;refine sW ?_;refine C1.im (zQ s hs) rF rF ?_;simp only[tZ,↓un_u,simprocAttr,Bj,Aw];refine⟨fun h=>?_,fun h=>?_⟩
 ·rw[extE,Aj h];exact .oA [] []
 rw[extE,Aq (by rw[h];simp)];refine C1.im (jZ x.proj) rF rF ?_;simp only[tZ,↓un_u,simprocAttr,tD,Bx,Bz,gt_iff_lt];refine⟨fun h2=>?_,fun h2=>⟨fun h3=>?_,fun h3=>?_⟩⟩
 ·rw[Aj h2];exact .oA [] []
 ·rw[Aq (by rw[h2];simp),Aj h3];exact .oA [] []
 rw[Aq (by rw[h2];simp),Aq oM];refine C1.im (Wj s hs x.picks hp) rF rF ?_;simp only[tZ,↓un_u,simprocAttr,Bj,Aw];refine⟨fun h4=>?_,fun h4=>?_⟩
 ·rw[Aj h4];exact .oA [] []
 rw[Aq (by rw[h4];simp)];simp only[tZ,↓un_u,simprocAttr,tD,gt_iff_lt];refine⟨fun h5=>?_,fun h5=>?_⟩
 ·rw[Aj oM];exact .oA [] []
 rw[Aq oM];have hpl:=Ks h4;obtain⟨hE,hpk,_⟩:=Kr h4;generalize hEE:zl (qI8 s x) x.rows.length=E;refine qk mixm (α:=Nat) [7] (fun i=>i≤x.rows.length∧(zl (qI8 s x) i=0)) (fun i=>[(7,vI i)]) (fun i=>[(4096,.arr 2 [schT s] false),(4100,.arr 4 [extT x] false)]) (fun i=>x.rows.length-i) 0 ⟨oM,?_⟩ ?_ fun i hi=>?_
 ·rfl
 ·exact .oA [(4096,some 4096),(4100,some 4100)] []
 simp only[tZ,↓un_u,simprocAttr,AZ,Ay];refine⟨fun h=>?_,fun h=>?_⟩
 ·have hi2:i<x.rows.length:=by omega
  have hg:x.rows.getD i []=x.rows[i]:=qg hi2;have hstep:=jv hi.2 hi2;have hnext:=zx hi.2;have hA:qI8 s x i=if fitX s x.picks x.rows[i]=false then 9 else if 0<i∧hd x.rows[i]≤hd (x.rows.getD (i-1) []) then 10 else 0:=by rw[qI8,hg]
  have hprev:0<i→fitX s x.picks (x.rows.getD (i-1) [])=true:=fun h0=>by
   have:=ww hi.2 (i-1) oM;unfold qI8 at this;split at this
   ·cases this
   ·rename_i k;simpa using k
  rw[hEE] at hstep;have hwl:=qh (i:=x.picks.length) oM;have hwi:=qh (i:=i) oM;have hnofit:fitX s x.picks x.rows[i]=false→E=9:=fun hf=>by
   rw[Aj hf] at hA;rw[hstep (by rw[hA];simp),hA]
  by_cases hl:x.rows[i].length=x.picks.length+1
  ·have hip:0<x.rows[i].length:=by omega
   have hgi:=zn hip;have q1:((x.rows[i].length:Int) != ((x.picks.length+1:Nat):Int))=false:=by rw[Aw];omega
   have hX:fitX s x.picks x.rows[i]=(decide (0≤hd x.rows[i])&&decide (hd x.rows[i]≤1048575)&&(List.range x.picks.length).all (fitV s x.picks x.rows[i])):=by
    rw[fitX,AY.2 hl,Fq]
   obtain⟨k,hk1,hk2,hk3⟩:∃ k:Nat,(IntKind.i64.wrap ((i:Int)-1)).toNat=k∧k<x.rows.length∧(i=0∧k=0∨0<i∧k+1=i∧IntKind.i64.wrap ((i:Int)-1)=k):=by
    rcases DQ i with h0 | h0
    ·subst h0;exact⟨0,by decide,hi2,.inl ⟨rfl,rfl⟩⟩
    ·have e:=zD h0 (show i<4611686018427387904 by omega);exact⟨i-1,by rw[e];omega,oM,.inr ⟨h0,oM,e⟩⟩
   have hkp:0<x.rows[k].length:=by
    rcases hk3 with⟨a,b⟩ | ⟨a,b,_⟩
    ·subst a;subst b;exact hip
    ·have:=(qU7 (hprev a)).1;rw[show i-1=k by omega,qg hk2] at this;omega
   have hgk:0<i→x.rows.getD (i-1) []=x.rows[k]:=fun h0=>by
    rw[show i-1=k by omega,qg hk2]
   have hi2:i<x.rows.length:=by omega
   have hwi:=qh (i:=i) oM;simp only[tZ,↓un_u,simprocAttr,Ax,qd hi2,hwi,hwl,q1,hgi];refine⟨oM,oM,fun _=>by omega,fun h6=>?_,fun h6=>?_⟩
   ·rw[hnofit (by
     rw[hX,show (decide (0≤hd x.rows[i])&&decide (hd x.rows[i]≤1048575))=false from by
      rw[Bool.eq_false_iff];intro k;simp only[Bq,AZ,DZ] at k h6;omega,Bool.false_and])]
    exact .oA [] []
   have h6':(decide (0≤hd x.rows[i])&&decide (hd x.rows[i]≤1048575))=true:=by
    simp only[Bq,AZ,FX,Ay] at h6 ⊢
    omega
   rw[h6',Fq] at hX;refine qk mixm (α:=Nat) [9] (fun n=>n≤x.picks.length∧(List.range n).all (fitV s x.picks x.rows[i])=true) (fun n=>[(9,vI n)]) (fun n=>[(4096,.arr 2 [schT s] false),(4100,.arr 4 [extT x] false)]) (fun n=>x.picks.length-n) 0 ⟨oM,rfl⟩ ?_ fun n hn=>?_
   ·exact .oA [(4096,some 4096),(4100,some 4100)] []
   refine sD ?_;refine⟨fun h7=>?_,fun h7=>?_⟩
   ·have hn2:n<x.picks.length:=by omega
    have hwn:=qh (i:=n) oM;have hpn:=Wi (hpk _ (AX hn2));obtain⟨c,hc⟩:=AJ (show 0≤x.picks[n].col by omega);have hrl:n+1<x.rows[i].length:=by omega
    have hgr:(x.rows[i].map vI).getD (n+1) .junk=vI (x.rows[i].getD (n+1) 0):=by rw[qd hrl,qg hrl]
    have sC:=qV0 s hs x.picks[n].col x.picks[n].lev (x.rows[i].getD (n+1) 0);have hV:canR s x.picks[n].col x.picks[n].lev (x.rows[i].getD (n+1) 0)=fitV s x.picks x.rows[i] n:=by
     rw[hc] at hpn ⊢
     rw[zu3 hE oM oM oM,fitV,qg hn2,hc,Ax]
    rw[hV] at sC;simp only[tZ,↓un_u,simprocAttr,Ax,qd hn2,hwn,hgr];refine⟨oM,oM,oM,?_⟩;refine C1.im sC rF rF ?_;simp only[tZ,↓un_u,simprocAttr,Bx,Bz,hwn];refine⟨kR,fun h8=>?_,fun h8=>?_⟩
    ·rw[hnofit (by rw[hX,zI6 hn2 h8])];exact .oA [] []
    ·refine⟨n+1,⟨oM,by rw[zj3,hn.2,h8];rfl⟩,oM,?_⟩;exact .oA [(4096,some 4096),(4100,some 4100)] []
   ·have hnl:n=x.picks.length:=by omega
    subst hnl;have hn2:=hn.2;rw[hn2] at hX;rw[Aq (by rw[hX];simp)] at hA;simp only[tZ,↓un_u,simprocAttr,hk1,qd hk2,hgi,zn hkp,tD,gt_iff_lt,hwi];refine⟨fun _=>by omega,fun _=>by omega,fun _=>by omega,kR,fun h8=>?_,fun h8=>?_⟩
    ·have h9:0<i:=by omega
     rw[Aj ⟨h9,by rw[hgk h9];exact h8.2⟩] at hA;rw[hstep (by rw[hA];simp),hA];exact .oA [] []
    ·rw[Aq (fun k=>by
      have h9:=k.1;rw[hgk h9] at k;omega)] at hA
     refine⟨i+1,⟨oM,by rw[hnext,hA]⟩,oM,?_⟩;exact .oA [(4096,some 4096),(4100,some 4100)] []
  ·have hf:fitX s x.picks x.rows[i]=false:=by
    rw[fitX,Ak.2 hl];rfl
   have q1:((x.rows[i].length:Int) != ((x.picks.length+1:Nat):Int))=true:=by rw[Bj];omega
   rw[hnofit hf];by_cases h0:0<x.rows[i].length
   ·have hgi:=zn h0;have hi2:i<x.rows.length:=by omega
    have hwi:=qh (i:=i) oM;simp only[tZ,↓un_u,simprocAttr,Ax,qd hi2,hwi,hwl,q1,hgi];refine⟨oM,?_⟩;exact .oA [] []
   ·have h0e:x.rows[i]=[]:=Dy.1 oM;have hb1:∀ n,binR BinOp.lss false (((List.map vI ([]:List Int)).getD 0 T.junk).cells.getD 0 T.junk) (T.v (Value.int IntKind.i64 n))=none:=fun _=>rfl;have hb2:∀ n,binR BinOp.gtr false (((List.map vI ([]:List Int)).getD 0 T.junk).cells.getD 0 T.junk) (T.v (Value.int IntKind.i64 n))=none:=fun _=>rfl;have q0:((0:Int) != ((x.picks.length+1:Nat):Int))=true:=by rw[Bj];omega
    have hi2:i<x.rows.length:=by omega
    have hwi:=qh (i:=i) oM;simp only[tZ,↓un_u,simprocAttr,Ax,qd hi2,hwi,h0e,hwl,q0,hb1,hb2];refine⟨oM,?_⟩;exact .oA [] []
 ·have hi2:i=x.rows.length:=by omega
  subst hi2;rw[← hEE,hi.2];exact .oA [] []
theorem zu5 (s:Sch) (hs:jo s) (x:Ext) (hp:x.picks.length<4611686018427387904) (hr:∀ r∈x.rows,r.length<4611686018427387904) (r c lev:Int):Spc Tryz.prog 44 [schT s,extT x,vI r,vI c,vI lev] [] (.tup [vI (valI s x r c lev).1,vB (valI s x r c lev).2]) []:=by
 have sC:=Wp s hs x hp hr;have hV:valI s x r c lev=if extE s x≠0∨r<0∨r≥x.rows.length then (0,false) else knwI s x r.toNat c lev:=rfl
 by_cases h:extE s x≠0
 ·rw[hV,Aj (.inl h)];refine sIr qf1 fun e _ hst=>?_;unfold yW;refine sW ?_;refine C1.im sC rF rF ?_;simp only[tZ,↓un_u,simprocAttr,Bj,Aw];refine⟨fun _=>?_,fun k=>absurd k h⟩;exact .oA [] []
 ·have h0:extE s x=0:=AQ h;obtain⟨hE,_,_,hp0,hn,hf,_⟩:=jy8 h0;have hpl:=Ks hp0;have sI:=zu4 s hs hE x oM oM (fun r hr=>by
   obtain⟨i,hi,rfl⟩:=CX hr;exact (qU7 (hf i hi)).1) r c lev
  have e:valI s x r c lev=((if r<0∨r≥x.rows.length then 0 else (knwI s x r.toNat c lev).1),(if r<0∨r≥x.rows.length then false else (knwI s x r.toNat c lev).2)):=by
   rw[hV];by_cases k:r<0∨r≥x.rows.length
   ·rw[Aj (.inr k),Aj k,Aj k]
   ·rw[Aq (by rw[h0];simpa using k),Aq k,Aq k]
  rw[e];refine sIr qf1 fun e _ hst=>?_;unfold yW;refine sW ?_;refine C1.im sC rF rF ?_;simp only[tZ,↓un_u,simprocAttr,Bj,Aw];refine⟨fun k=>absurd h0 k,fun _=>?_⟩;refine C1.im sI rF rF ?_;refine sW ?_;exact .oA [] []
end Go.Proofs
namespace Go.Proofs
open Go Go.TL
set_option maxRecDepth 4000
set_option maxHeartbeats 8000000
open So
theorem jb2 {e:Env} {s s' s2:St} (h1:Le e s s') (h2:Le e s' s2):Le e s s2:=fun ι a w hR=>by
 obtain⟨ι',hR'⟩:=h1 ι a w hR;exact h2 ι' a w hR'
def qV1 (s:Sch) (n:Nat):List Pk:=(List.range n).map fun k:Nat=>⟨((k+1:Nat):Int),finI s ((k+1:Nat):Int)⟩
theorem jf6 (s:Sch) (n:Nat):qV1 s (n+1)=qV1 s n++[⟨((n+1:Nat):Int),finI s ((n+1:Nat):Int)⟩]:=by
 rw[qV1,List.range_succ,By];rfl
theorem zI8 (s:Sch) (n:Nat):(qV1 s n).length=n:=by rw[qV1,BY,List.length_range]
def allQ:Qst:=⟨⟨#[113]⟩,1,.mk 1 0 0 0 0 [],[⟨1,0⟩],-1,[],cnd0⟩
def allD:Dcl:=⟨⟨#[97,108,108,95,114,111,119,115]⟩,⟨#[115,114,99]⟩,.mk 1 0 0 0 0 [],⟨1,1,0⟩,[allQ]⟩
theorem jf7 (s:Sch) (hs:jo s) (h1:1≤s.cols.length) (hsm2:s.cols.length≤1000000):Spc Tryz.prog 27 [schT s] [] (.tup [dclT allD,vPs (qV1 s (s.cols.length-1))]) []:=by
 have hsm:=hs.2.1;refine kW [8] zM1 mixm sMp fun e _ hst=>yu ?_;unfold qg4;simp only[Jb,List.contains_cons,List.contains_nil,Nat.reduceBEq,Bool.or_false,Bool.or_true,Bool.true_or,Bool.false_or,cond_true,cond_false];refine sW ?_;refine qk mixm (α:=Nat) [5,6] (fun i=>i+1≤s.cols.length) (fun i=>[(5,.asl 1 i),(6,vI (i+1:Nat))]) (fun i=>[(4096,.arr 2 [schT s] false),(4100,.arr 12 [.agg [vS ⟨#[]⟩,vS ⟨#[]⟩,vI 0,vI 0,vI 0,vI 0,vI 0,.v (.slice none 0 0),vI 0,vI 0,vI 0,.v (.slice none 0 0)]] false),(8204,.arr 12 [.agg [vS allD.proj,vS allD.src,vI 1,vI 0,vI 0,vI 0,vI 0,.v (.slice none 0 0),vI 1,vI 1,vI 0,.v (.slice none 0 0)]] false),(1,.arr 2 ((qV1 s i).map pkT) false)]) (fun i=>s.cols.length-i) 0 oM ?_ fun i hi=>?_
 ·exact .oA [(4096,some 4096),(4100,some 4100),(8204,some 8204),(1,none)] []
 have hwi:=qh (i:=i+1) oM;have hfl:=zI8 s i;refine sD ?_;refine⟨fun h4=>?_,fun h4=>?_⟩
 ·have sF:=zB s hs ((i+1:Nat):Int);have hsu:=jf6 s i;refine C1.im sF rF rF ?_;simp only[tZ,↓un_u,simprocAttr,hwi];refine⟨⟨hfl,oM⟩,i+1,oM,oM,?_⟩;rw[hsu,By];exact .oA [(4096,some 4096),(4100,some 4100),(8204,some 8204),(1,some 1)] []
 ·have hil:i=s.cols.length-1:=by omega
  subst hil;refine jR1 [(4100,.arr 12 [.agg [vS ⟨#[]⟩,vS ⟨#[]⟩,vI 0,vI 0,vI 0,vI 0,vI 0,.v (.slice none 0 0),vI 0,vI 0,vI 0,.v (.slice none 0 0)]] false),(8204,.arr 12 [.agg [vS allD.proj,vS allD.src,vI 1,vI 0,vI 0,vI 0,vI 0,.sl 6 [],vI 1,vI 1,vI 0,.sl 17 [qstT allQ]]] false),(1,.arr 2 ((qV1 s (s.cols.length-1)).map pkT) false)] (jb2 (s':=⟨[(2,.ptr 4100 1 0 0),(4,.ptr 8204 1 0 0),(5,.asl 1 (s.cols.length-1))],[(4100,.arr 12 [.agg [vS ⟨#[]⟩,vS ⟨#[]⟩,vI 0,vI 0,vI 0,vI 0,vI 0,.v (.slice none 0 0),vI 0,vI 0,vI 0,.v (.slice none 0 0)]] false),(8204,.arr 12 [.agg [vS allD.proj,vS allD.src,vI 1,vI 0,vI 0,vI 0,vI 0,.v (.slice none 0 0),vI 1,vI 1,vI 0,.asl 32784 1]] false),(1,.arr 2 ((qV1 s (s.cols.length-1)).map pkT) false),(32784,.arr 17 [.agg [vS ⟨#[113]⟩,vI 1,vI 1,vI 0,vI 0,vI 0,vI 0,.sl 6 [],.sl 2 [.agg [vI 1,vI 0]],vI (-1),.sl 1 [],vI 0,vI 0,vI 0,vI 0,vI 0,.sl 6 []]] false)]⟩) ?_ ?_) ?_
  ·refine .of [(4100,some 4100),(8204,some 8204),(1,some 1),(32784,some 32784)] [32776] rfl (by first | rfl | (rw[hst];rfl)) ?_ ?_
   all_goals (try simp only[tL,simprocAttr,By,List.map_cons,List.map_nil,BW,Cy])
   all_goals (try (repeat' (first | exact qZ | (apply ze;intro _;exact⟨rfl,rfl⟩) | (apply qE;intro _;exact⟨rfl,rfl⟩) | with_reducible apply qV | with_reducible refine qT ⟨rfl,rfl⟩ ?_ | exact qY | with_reducible apply qR | with_reducible refine qW ⟨rfl,rfl,?_⟩ ?_ | with_reducible apply Az | exact qS rfl | exact qS (by assumption) | (refine⟨⟨?_,rfl,?_,rfl,?_⟩,trivial⟩ <;> first | (simp;done) | (apply qE;intro _;exact⟨rfl,rfl⟩)) | trivial | rfl | (rw[qh oM]) | omega)))
   simp only[T.cells,tL,simprocAttr]
   all_goals (try exact clA)
  ·refine .of [(4100,some 4100),(8204,some 8204),(1,some 1)] [32784] rfl (by first | rfl | (rw[hst];rfl)) ?_ ?_
   all_goals (try simp only[tL,simprocAttr,By,List.map_cons,List.map_nil,BW,Cy])
   all_goals (try (repeat' (first | exact qZ | (apply ze;intro _;exact⟨rfl,rfl⟩) | (apply qE;intro _;exact⟨rfl,rfl⟩) | with_reducible apply qV | with_reducible refine qT ⟨rfl,rfl⟩ ?_ | exact qY | with_reducible apply qR | with_reducible refine qW ⟨rfl,rfl,?_⟩ ?_ | with_reducible apply Az | exact qS rfl | exact qS (by assumption) | (refine⟨⟨?_,rfl,?_,rfl,?_⟩,trivial⟩ <;> first | (simp;done) | (apply qE;intro _;exact⟨rfl,rfl⟩)) | trivial | rfl | (rw[qh oM]) | omega)))
   simp only[T.cells,tL,simprocAttr]
   all_goals (try exact clA)
  refine sW ?_;have hq:qstT allQ = .agg [vS ⟨#[113]⟩,vI 1,vI 1,vI 0,vI 0,vI 0,vI 0,.sl 6 [],.sl 2 [.agg [vI 1,vI 0]],vI (-1),.sl 1 [],vI 0,vI 0,vI 0,vI 0,vI 0,.sl 6 []]:=rfl;exact .oA [] [1]
end Go.Proofs
namespace Go.Proofs
open Go Go.TL
set_option maxRecDepth 4000
set_option maxHeartbeats 8000000
open So
def jy9 (s:Sch) (P:List Pk) (a b:List Int):Bool:=P.all fun p=>qQ s p.col p.lev (a.getD p.col.toNat 0)==qQ s p.col p.lev (b.getD p.col.toNat 0)
structure RowA (x:Src) (d:Dcl) (P:List Pk) (r0 row:List Int):Prop where
 fit:rowE x.sch row=0
 id:hd row=hd r0
 ev:(zq3 x.sch d.coh row==1)=(zq3 x.sch d.coh r0==1)
 al:ownP x d r0=true→jy9 x.sch P row r0=true
theorem RowA.refl {x:Src} {d:Dcl} {P:List Pk} {r:List Int} (h:rowE x.sch r=0):RowA x d P r r:=⟨h,rfl,rfl,fun _=>by
 unfold jy9;rw[Bk];exact fun p _=>beq_self_eq_true _⟩
theorem RowA.own {x:Src} {d:Dcl} {P:List Pk} {r row:List Int} (h:RowA x d P r row):ownP x d row=ownP x d r:=by
 unfold ownP;rw[h.ev,h.id]
theorem RowA.rowX {x:Src} {d:Dcl} {P:List Pk} {r row:List Int} (k:Int) (h:RowA x d P r row) (ho:ownP x d r=true):rowX x P k row=rowX x P k r:=by
 have h1:=h.al ho;unfold jy9 at h1;rw[Bk] at h1;unfold Go.Proofs.rowX;rw[h.id]
 congr 1
 exact Ew fun p hp=>AY.1 (h1 p hp)
structure OthR (x:Src) (d:Dcl) (P:List Pk) (rs ys:List (List Int)):Prop where
 len:ys.length≤rs.length
 asc:AscR ys
 fro:∀ row∈ys,∃ r∈rs,RowA x d P r row
 own:∀ r∈rs,ownP x d r=true→∃ row∈ys,RowA x d P r row
theorem OthR.nil {x:Src} {d:Dcl} {P:List Pk}:OthR x d P [] []:=⟨BZ _,.nil,sMp,sMp⟩
theorem OthR.skip {x:Src} {d:Dcl} {P:List Pk} {rs ys:List (List Int)} (h:OthR x d P rs ys) {r:List Int} (ho:ownP x d r=false):OthR x d P (rs++[r]) ys:=by
 refine⟨by have:=h.len;simp;omega,h.asc,fun row hr=>?_,fun q hq hq2=>?_⟩
 ·obtain⟨q,a,b⟩:=h.fro row hr;exact⟨q,List.mem_append_left _ a,b⟩
 ·rcases Dz.1 hq with a | a
  ·exact h.own q a hq2
  ·rw[Ey.1 a,ho] at hq2;cases hq2
theorem jb3 {s:Sch} (h:DrS s):2≤s.cols.length∧s.cols.length≤8:=by
 obtain⟨ms,hc,h1,h2⟩:=h.cs;rcases hc with⟨e,_⟩ | ⟨e,_⟩ <;> rw[e] <;> simp <;> omega
end Go.Proofs
namespace Go.Proofs
open Go Go.TL
set_option maxRecDepth 4000
set_option maxHeartbeats 8000000
open So
theorem jV2 {x:Src} (hX:SrcOk x) (d:Dcl) {l:List Pk} (k:Int) (hl:l.length≤1000):(Qf x d l k).picks.length≤1000∧(Qf x d l k).rows.length≤200∧∀ r∈(Qf x d l k).rows,r.length≤1001:=by
 unfold Qf;split
 ·exact⟨by decide,by decide,fun r hr=>by cases hr⟩
 ·obtain⟨_,h2,h3⟩:=zP2 x l k (ownR x d) [] List.Pairwise.nil sMp;have h4:=jI1 hX d;refine⟨hl,?_,fun r hr=>?_⟩
  ·simp only[Cw] at h3;show (List.foldl (ym x l k) [] (ownR x d)).length≤200;omega
  ·have:=h2 r hr;omega
theorem qe5 (n:Int) (hn:0≤n∧n≤12) (l:List UInt8) (a:Nat) (hl:l.length≤400) (ha:a≤l.length) :
 ∃ (x:Src) (d:Dcl) (X:Ext) (b:Nat),(DrX x∧X.picks.length≤1000∧X.rows.length≤200∧∀ r∈X.rows,r.length≤1001)∧b≤l.length∧
  Spc Tryz.prog 35 [.ptr 0 1 0 0,vI n] [(0,oC l a)] (.tup [srcT x,dclT d,extT X]) [(0,oC l b)]:=by
 obtain⟨x,d,a1,a2,hX,h12,hsm,hL,hdE,ha1,ha2,sS,sDd⟩:=kc2 n hn l a hl ha;obtain⟨o,a3,ha3,sO⟩:=jf3 l a2 3 hl ha2 oM;obtain⟨k,a4,hk1,hk2,ha4,sK⟩:=jG3 l a3 hl ha3;have hcl:=jb3 hX.sch;have sP:=zG3 x.sch hsm.1 hL d;have hpl:=zG2 x.sch d;have sA:=jf7 x.sch hsm.1 oM oM;have hfl:=zI8 x.sch (x.sch.cols.length-1);have hQ:∀ L:List Pk,L.length≤1000→Spc Tryz.prog 33 [srcT x,dclT d,vPs L,vI k] [] (.tup [extT (Qf x d L k),vI (buildE x d L k)]) []:=fun L hL2=>zs2 x d L k hsm hL oM;refine⟨x,d,Qf x d (if o=true then qV1 x.sch (x.sch.cols.length-1) else qq9 x.sch d) k,a4,⟨hX,jV2 hX.ok d k (by split <;> omega)⟩,ha4,?_⟩;generalize qq9 x.sch d=P at sP hpl ⊢
 generalize qV1 x.sch (x.sch.cols.length-1)=F at sA hfl ⊢
 refine sIr Yj fun e _ hst=>?_;unfold jQ;refine sW ?_;refine C1.draw 0 l a _ sS rfl rfl rfl ?_;refine sW ?_;refine C1.draw 0 l a1 _ sDd rfl rfl rfl ?_;refine sW ?_;refine C1.im sP rF rF ?_;refine sW ?_;refine C1.draw 0 l a2 _ sO rfl rfl rfl ?_;refine sW ?_;refine⟨fun h=>?_,fun h=>?_⟩
 ·rw[Aj h];have sQ:=hQ F oM;refine C1.im sA rF rF ?_;refine sW ?_;refine C1.draw 0 l a3 _ sK rfl rfl rfl ?_;refine sW ?_;refine C1.im sQ rF rF ?_;refine sW ?_
  repeat (refine⟨kR,?_⟩)
  exact .oA [(0,some 0)] []
 ·rw[Aq (by rw[h];simp)];have sQ:=hQ P oM;refine C1.draw 0 l a3 _ sK rfl rfl rfl ?_;refine sW ?_;refine C1.im sQ rF rF ?_;refine sW ?_
  repeat (refine⟨kR,?_⟩)
  exact .oA [(0,some 0)] []
end Go.Proofs
namespace Go.Proofs
open Go Go.TL
set_option maxRecDepth 4000
set_option maxHeartbeats 8000000
open So
theorem qV2 (x:Ext) (ks:List Int) (hk:ks.length<4611686018427387904) (hrl:x.rows.length≤1000000):Spc Tryz.prog 36 [extT x,vIs ks] [] (.agg [vS x.proj,vI x.ver,vPs x.picks,.asl 0 (x.rows.filter (nrwP ks)).length]) [(0,.arr 1 ((x.rows.filter (nrwP ks)).map vIs) false)]:=by
 refine sIr Yk fun e _ hst=>?_;unfold wG;refine sW ?_;refine qk mixm (α:=Nat) [6] (fun i=>i≤x.rows.length) (fun i=>[(6,vI i)]) (fun i=>[(4096,.arr 4 [extT x] false),(4100,.arr 4 [extT ext0] false),(8220,.arr 4 [.agg [vS x.proj,vI x.ver,vPs x.picks,.asl 1 ((x.rows.take i).filter (nrwP ks)).length]] false),(1,.arr 1 (((x.rows.take i).filter (nrwP ks)).map vIs) false)]) (fun i=>x.rows.length-i) 0 oM ?_ fun i hi=>?_
 ·exact .oA [(4096,some 4096),(4100,some 4100),(8220,some 8220),(1,none)] []
 have hfl:=Fx (nrwP ks) (x.rows.take i);rw[Cz] at hfl;refine sD ?_;refine⟨fun h4=>?_,fun h4=>?_⟩
 ·have hi2:i<x.rows.length:=by omega
  have hwi:=qh (i:=i) oM;have hsp:(x.rows.take (i+1)).filter (nrwP ks)=(x.rows.take i).filter (nrwP ks)++if nrwP ks x.rows[i]=true then [x.rows[i]] else []:=by
   rw[qJ hi2,FY,List.filter_cons,List.filter_nil]
  by_cases h0:0<x.rows[i].length
  ·have hgi:=zn h0;have hCt:=Wh ks (hd x.rows[i]) hk;have q1:decide ((x.rows[i].length:Int)>0)=true:=Cx oM;have hP:nrwP ks x.rows[i]=ks.contains (hd x.rows[i]):=by rw[nrwP,Cx h0,Fq]
   rw[hP] at hsp;simp only[tZ,↓un_u,simprocAttr,Ax,qd hi2,hgi,q1];refine⟨oM,oM,oM,?_⟩;refine C2.im (fun _=>hCt) (fun _=>rfl) rF ?_;simp only[tZ,↓un_u,simprocAttr,hwi];refine⟨fun h6=>?_,fun h6=>?_⟩
   ·rw[Aj h6] at hsp;have hspl:=congrArg List.length hsp;simp only[AW,CJ,Cw] at hspl;simp only[tZ,↓un_u,simprocAttr,Ax,qd hi2];refine⟨oM,oM,kR,?_⟩;refine⟨i+1,oM,oM,?_⟩;rw[hsp];exact .oA [(4096,some 4096),(4100,some 4100),(8220,some 8220),(1,some 1)] []
   ·rw[Aq (by rw[h6];simp),CW] at hsp;refine⟨i+1,oM,oM,?_⟩;rw[hsp];exact .oA [(4096,some 4096),(4100,some 4100),(8220,some 8220),(1,some 1)] []
  ·have q1:decide ((x.rows[i].length:Int)>0)=false:=Cq oM;have hP:nrwP ks x.rows[i]=false:=by rw[nrwP,Cq h0,Bool.false_and]
   rw[hP,Aq sMp,CW] at hsp;simp only[tZ,↓un_u,simprocAttr,Ax,qd hi2,q1];refine⟨oM,?_⟩;refine C2.im (r:=vB false) (fun h=>absurd h sMp) (fun h=>absurd h sMp) rF ?_;simp only[tZ,↓un_u,simprocAttr,hwi];refine⟨i+1,oM,oM,?_⟩;rw[hsp];exact .oA [(4096,some 4096),(4100,some 4100),(8220,some 8220),(1,some 1)] []
 ·have hil:i=x.rows.length:=by omega
  subst hil;rw[Bw];exact .oA [(0,some 1)] []
end Go.Proofs
namespace Go.Proofs
open Go Go.TL
def modI (n m:Int):Int:=if m<1 then 0 else n % m
theorem Ky (n m:Int) (hm:m≤1000000000):Spc Tryz.prog 38 [vI n,vI m] [] (vI (modI n m)) []:=by
 refine sIr zM3 fun e _ hst=>?_;unfold qg5;simp only[tZ,↓un_u,simprocAttr,AZ,Ay];refine⟨fun h=>?_,fun h=>?_⟩
 ·rw[modI,Aj h];exact .imR rfl rfl
 rw[modI,Aq h];have h1:=Int.tmod_lt_of_pos n (show 0<m by omega);have h2:=Int.lt_tmod_of_pos n (show 0<m by omega);have h3:=Int.emod_nonneg n (b:=m) oM;have h4:=Int.emod_lt_of_pos n (b:=m) oM;have h5:n % m=n.tmod m∨n % m=n.tmod m+m:=by
  rw[Int.tmod_eq_emod];split
  ·left;omega
  ·right
   rw[show (m.natAbs:Int)=m by omega];omega
 refine⟨oM,fun h=>?_,fun h=>?_⟩
 ·have hw:IntKind.i64.wrap (n.tmod m+m)=n % m:=by rw[AK _ oM];omega
  rw[hw];exact .imR rfl rfl
 ·have hw:n.tmod m=n % m:=by omega
  rw[hw];exact .imR rfl rfl
end Go.Proofs
namespace Go.Proofs
open Go Go.TL
set_option maxRecDepth 4000
set_option maxHeartbeats 8000000
open So
structure RdOk (z:Ext):Prop where
 pk:z.picks.length*16≤140737488355328
 rn:z.rows.length≤1000
 rl:∀ r∈z.rows,r.length*8≤140737488355328
theorem jI3 {st:Sto} {ρ:Ren} {B:List Nat} {k:Nat} {x y:T} (h:x.cells.length=k∧y.cells.length=k∧ltCs st ρ B x.cells y.cells) {a b:List T} (i:Nat) (h2:ltXs st ρ B k a b):ltXs st ρ B k (a.set i x) (b.set i y):=by
 refine⟨by simp [h2.1],fun j u v hu hv=>?_⟩;rw[List.getElem?_set] at hu hv;by_cases e:i=j
 ·subst e;simp only[if_true] at hu hv;split at hu
  ·split at hv
   ·cases hu;cases hv;exact h
   ·cases hv
  ·cases hu
 ·rw[Aq e] at hu hv;exact h2.2 j u v hu hv
theorem jz0 {n:Int} {m:Nat} (h:0<m):∃ j:Nat,modI n m=j∧j<m:=by
 unfold modI;rw[Aq oM];have h3:=Int.emod_nonneg n (b:=(m:Int)) oM;have h4:=Int.emod_lt_of_pos n (b:=(m:Int)) oM;exact⟨(n % m).toNat,oM,oM⟩
theorem qe6 (bs:List UInt8) (raw:Ext) (ks:List Int) (at_ by_:Int) (h1:raw.picks.length*16≤140737488355328) (h2:∀ r∈raw.rows,r.length*8≤140737488355328):Spc Tryz.prog 6 [vL bs,extT raw,vIs ks,vI at_,vI by_] [] (vB true) []:=by
 have hl4:(bs.take 400).length≤400:=by rw[Cz];omega
 obtain⟨x,d,X,a1,⟨hX,hXp,hXn,hXr⟩,ha1,sX⟩:=qe5 8 oM (bs.take 400) 0 hl4 oM;have hsm:=hX.ok.smx;have hs:=hsm.1;have hcl:=jb3 hX.sch;have hR1:∀ r∈X.rows.filter (nrwP (nmbL X.rows)),0<r.length∧r.length≤1001:=fun r hr=>by
  obtain⟨m1,m2⟩:=Fz.1 hr;unfold nrwP at m2;rw[Bq,AZ] at m2;exact⟨m2.1,hXr r m1⟩
 have hR2:=Fx (nrwP (nmbL X.rows)) X.rows;have hnl:(nmbL X.rows).length≤200:=by
  have:=Fx (fun r:List Int=>decide (0<r.length)) X.rows;rw[nmbL,BY];omega
 have sNm:=qU9 X oM;have sNO:=qV2 X (nmbL X.rows) oM oM;refine kW [12] Yh mixm sMp fun e _ hst=>yu ?_;unfold jP;simp only[Jb,List.contains_cons,List.contains_nil,Nat.reduceBEq,Bool.or_false,Bool.or_true,Bool.true_or,Bool.false_or,cond_true,cond_false];refine sW ?_;refine sD ?_;refine⟨fun h3=>?_,fun h3=>?_⟩
 ·refine C1.im qt8 rF rF ?_;refine sW ?_;exact .oA [] []
 refine C1.newdraw 16388 (je5 bs) rfl rfl ?_;generalize bs.take 400=m at hl4 sX ha1 ⊢
 refine sW ?_;refine C1.draw 16388 m 0 _ sX rfl rfl rfl ?_;refine sW ?_;refine C1.im sNm rF rF ?_;refine sW ?_;generalize nmbL X.rows=nm at hnl hR1 hR2 sNm sNO ⊢
 generalize X.rows.filter (nrwP nm)=R at hR1 hR2 sNO ⊢
 refine C1.of (val:=.agg [vS X.proj,vI X.ver,vPs X.picks,.asl 28684 R.length]) [] [(28684,some 0)] [] [(28684,.arr 1 (R.map vIs) false)] sNO (Yc rF) rfl trivial sMp rF ?_ rF rF ?_ (.inl rF) ?_
 ·simp only[wrOk,wrO,TL.get,ltO1]
  all_goals (try exact clA)
 ·simp only[ltT];simp only[tL,simprocAttr]
  all_goals (try exact clA)
 simp only[tZ,↓un_u,simprocAttr,tD,gt_iff_lt];have sCk:=fun z hz hz2=>yj x.sch hs z hz hz2;have sCr:=fun z hz hz2=>Wp x.sch hs z hz hz2;obtain⟨Y,hY⟩:∃ Y:Ext→Prop,Y=fun y=>RdOk y:=⟨_,rfl⟩
 repeat (first | refine⟨oM,?_⟩ | refine⟨kR,?_⟩)
 refine⟨fun h4=>?_,fun h4=>?_⟩
 focus
  obtain⟨K,hK,hK2⟩:=jz0 (n:=at_) (m:=R.length) oM;have sM1:=Ky at_ (R.length:Int) oM;rw[hK] at sM1;have hKr:=hR1 _ (AX hK2);refine C1.im sM1 rF rF ?_;simp only[tZ,↓un_u,simprocAttr,Ax,qd hK2]
  repeat (first | refine⟨oM,?_⟩ | refine⟨kR,?_⟩)
  obtain⟨J,hJ,hJ2⟩:=jz0 (n:=IntKind.i64.wrap (at_.tdiv 9)) (m:=R[K].length) oM;have sM2:=Ky (IntKind.i64.wrap (at_.tdiv 9)) (R[K].length:Int) oM;rw[hJ] at sM2;refine C1.im sM2 rF rF ?_;simp only[tZ,↓un_u,simprocAttr,Ax,qd hJ2,qd hK2]
  repeat (first | refine⟨oM,?_⟩ | refine⟨kR,?_⟩)
  refine⟨⟨oM,sMp⟩,?_⟩;obtain⟨row,hrow⟩:∃ row,row=R[K].set J by_:=⟨_,rfl⟩;have hrl:row.length=R[K].length:=by rw[hrow,Fw]
  have hm1:(R[K].map vI).set J (vI by_)=row.map vI:=by rw[hrow,List.map_set]
  have hm2:((R.map vIs).set K (vIs row))=(R.set K row).map vIs:=by rw[List.map_set]
  have hRl:(R.set K row).length=R.length:=Fw;obtain⟨Y,hY⟩:∃ Y:Ext,Y=⟨X.proj,X.ver,X.picks,R.set K row⟩:=⟨_,rfl⟩;have hYo:RdOk Y:=by
   rw[hY];refine⟨by dsimp only;omega,by dsimp only;omega,fun r hr=>?_⟩;rcases List.mem_or_eq_of_mem_set hr with h | h
   ·have:=hR1 _ h;omega
   ·rw[h];omega
  refine jR1 [(4096,.arr 4 [extT raw] false),(20512,.arr 4 [extT X] false),(24584,.arr 2 [schT x.sch] false),(28688,.arr 4 [extT Y] false)] (jb2 (s':=⟨[(2,vIs ks),(3,vI at_),(4,vI by_),(6,.ptr 4096 1 0 0),(14,.ptr 20512 1 0 0),(15,.ptr 24584 1 0 0),(16,.ptr 28688 1 0 0)],[(4096,.arr 4 [extT raw] false),(20512,.arr 4 [extT X] false),(24584,.arr 2 [schT x.sch] false),(28684,.arr 1 ((R.map vIs).set K (vIs row)) false),(28688,.arr 4 [.agg [vS X.proj,vI X.ver,vPs X.picks,.asl 28684 R.length]] false)]⟩) ?_ ?_) ?_
  ·rw[hm1,← hrl];refine .of [(4096,some 4096),(20512,some 20512),(24584,some 24584),(28684,some 28684),(28688,some 28688)] [40980] rfl (by first | rfl | (rw[hst];rfl)) ?_ ?_
   all_goals (try simp only[tL,simprocAttr,By,List.map_cons,List.map_nil,BW,Cy])
   all_goals (try (repeat' (first | exact qZ | (apply ze;intro _;exact⟨rfl,rfl⟩) | (apply qE;intro _;exact⟨rfl,rfl⟩) | with_reducible apply qV | with_reducible refine qT ⟨rfl,rfl⟩ ?_ | exact qY | with_reducible apply qR | with_reducible refine qW ⟨rfl,rfl,?_⟩ ?_ | with_reducible apply Az | exact qS rfl | exact qS (by assumption) | (refine⟨⟨?_,rfl,?_,rfl,?_⟩,trivial⟩ <;> first | (simp;done) | (apply qE;intro _;exact⟨rfl,rfl⟩)) | trivial | rfl | (rw[qh oM]) | omega)))
   refine jI3 (k:=1) ⟨rfl,rfl,?_⟩ K (ze (k:=1) (f:=vIs) (fun _=>⟨rfl,rfl⟩) R);simp only[T.cells,tL,simprocAttr]
   all_goals (try exact clA)
  ·rw[hm2,hY,← hRl];refine .of [(4096,some 4096),(20512,some 20512),(24584,some 24584),(28688,some 28688)] [28684] rfl (by first | rfl | (rw[hst];rfl)) ?_ ?_
   all_goals (try simp only[tL,simprocAttr,By,List.map_cons,List.map_nil,BW,Cy])
   all_goals (try (repeat' (first | exact qZ | (apply ze;intro _;exact⟨rfl,rfl⟩) | (apply qE;intro _;exact⟨rfl,rfl⟩) | with_reducible apply qV | with_reducible refine qT ⟨rfl,rfl⟩ ?_ | exact qY | with_reducible apply qR | with_reducible refine qW ⟨rfl,rfl,?_⟩ ?_ | with_reducible apply Az | exact qS rfl | exact qS (by assumption) | (refine⟨⟨?_,rfl,?_,rfl,?_⟩,trivial⟩ <;> first | (simp;done) | (apply qE;intro _;exact⟨rfl,rfl⟩)) | trivial | rfl | (rw[qh oM]) | omega)))
   simp only[T.cells,tL,simprocAttr]
   all_goals (try exact clA)
  clear hm1 hm2 hRl hrl hY hrow hKr sM1 sM2 hJ hJ2 hK hK2 h4
 rotate_left
 focus
  obtain⟨Y,hY⟩:∃ Y:Ext,Y=⟨X.proj,X.ver,X.picks,R⟩:=⟨_,rfl⟩;have hYo:RdOk Y:=by
   rw[hY];exact⟨by dsimp only;omega,by dsimp only;omega,fun r hr=>by have:=hR1 r hr;omega⟩
  refine jR1 [(4096,.arr 4 [extT raw] false),(20512,.arr 4 [extT X] false),(24584,.arr 2 [schT x.sch] false),(28688,.arr 4 [extT Y] false)] ?_ ?_
  ·rw[hY];refine .of [(4096,some 4096),(20512,some 20512),(24584,some 24584),(28688,some 28688)] [28684] rfl (by first | rfl | (rw[hst];rfl)) ?_ ?_
   all_goals (try simp only[tL,simprocAttr,By,List.map_cons,List.map_nil,BW,Cy])
   all_goals (try (repeat' (first | exact qZ | (apply ze;intro _;exact⟨rfl,rfl⟩) | (apply qE;intro _;exact⟨rfl,rfl⟩) | with_reducible apply qV | with_reducible refine qT ⟨rfl,rfl⟩ ?_ | exact qY | with_reducible apply qR | with_reducible refine qW ⟨rfl,rfl,?_⟩ ?_ | with_reducible apply Az | exact qS rfl | exact qS (by assumption) | (refine⟨⟨?_,rfl,?_,rfl,?_⟩,trivial⟩ <;> first | (simp;done) | (apply qE;intro _;exact⟨rfl,rfl⟩)) | trivial | rfl | (rw[qh oM]) | omega)))
   all_goals (try simp only[T.cells,tL,simprocAttr])
   all_goals (try exact clA)
  clear hY h4
 all_goals (
  obtain⟨Z,hZ⟩:∃ Z:List Ext,Z=[X,Y,raw]:=⟨_,rfl⟩;have hZ3:Z.length=3:=by rw[hZ];rfl
  have hZs:∀ z∈Z,RdOk z:=fun z hz=>by
   rw[hZ] at hz;simp only[Ck,List.not_mem_nil,or_false] at hz;rcases hz with e | e | e
   ·rw[e];exact⟨oM,oM,fun r hr=>by have:=hXr r hr;omega⟩
   ·rw[e];exact hYo
   ·rw[e];exact⟨h1,oM,h2⟩
  refine sW ?_;refine qk mixm (α:=Nat) [93] (fun i=>i≤3) (fun i=>[(93,vI i)]) (fun i=>[(24584,.arr 2 [schT x.sch] false),(53260,.arr 4 (Z.map extT) false)]) (fun i=>3-i) 0 oM ?_ fun i hi=>?_
  ·rw[hZ];exact .oA [(24584,some 24584),(53260,some 53260)] []
  refine sD ?_;refine⟨fun h4=>?_,fun h4=>?_⟩
  ·have hi2:i<Z.length:=by omega
   have hwi:=qh (i:=i) oM;have hz:=hZs _ (AX hi2);simp only[tZ,↓un_u,simprocAttr,Ax,qd hi2];generalize Z[i]=z at hz ⊢
   obtain⟨z1,z2,z3⟩:=hz;have hwr:=qh (i:=z.rows.length) oM;have hwc:=qh (i:=x.sch.cols.length) oM;have sE1:=yj x.sch hs z oM (fun r hr=>by have:=z3 r hr;omega);have sE2:=Wp x.sch hs z oM (fun r hr=>by have:=z3 r hr;omega);have sN1:=Wy z ks oM oM oM z3;have sN2:=ze6 z ks oM oM;have hfl:=Fx (nrwP ks) z.rows;have sSm:=zH4 (nrwX z ks) (nrwX z ks) (by show z.picks.length<_;omega) (by show (z.rows.filter (nrwP ks)).length<_;omega) (fun r hr=>by have:=z3 r (Fz.1 hr).1;omega);rw[jI2,zP4,je8.2 rfl,beq_self_eq_true] at sSm;refine⟨oM,oM,?_⟩;refine C1.im sE1 rF rF ?_;refine sW ?_
   repeat (first | refine⟨oM,?_⟩ | refine⟨kR,?_⟩)
   refine C1.im sE2 rF rF ?_;simp only[tZ,↓un_u,simprocAttr,bne_self_eq_false]
   repeat (first | refine⟨oM,?_⟩ | refine⟨kR,?_⟩)
   refine C2.im (fun _=>sN1) (fun _=>rfl) rF ?_;refine sW ?_;refine C2.im (fun _=>sN2) (fun _=>rfl) rF ?_;refine sW ?_;refine C2.im (fun _=>sSm) (fun _=>rfl) rF ?_;simp only[tZ,↓un_u,simprocAttr,hwr];have sMr:=Ky by_ ((z.rows.length+1:Nat):Int) oM;have sMc:=Ky at_ ((x.sch.cols.length+1:Nat):Int) oM;have sM6:=Ky by_ 6 oM
   repeat (first | refine⟨oM,?_⟩ | refine⟨kR,?_⟩)
   refine C1.im sMr rF rF ?_;simp only[tZ,↓un_u,simprocAttr,hwc]
   repeat (first | refine⟨oM,?_⟩ | refine⟨kR,?_⟩)
   refine C1.im sMc rF rF ?_;refine sW ?_
   repeat (first | refine⟨oM,?_⟩ | refine⟨kR,?_⟩)
   generalize modI by_ ((z.rows.length+1:Nat):Int)=rr;obtain⟨C,hC⟩:∃ C:List Int,C=[1,modI at_ ((x.sch.cols.length+1:Nat):Int),IntKind.i64.wrap ((x.sch.cols.length:Int)-1)]:=⟨_,rfl⟩;have hC3:C.length=3:=by rw[hC];rfl
   refine qk mixm (α:=Nat) [132] (fun j=>j≤3) (fun j=>[(132,vI j)]) (fun j=>[(24584,.arr 2 [schT x.sch] false),(53260,.arr 4 (Z.map extT) false),(61448,.arr 4 [extT z] false),(77864,.arr 1 (C.map vI) false)]) (fun j=>3-j) 0 oM ?_ fun j hj=>?_
   ·rw[hC];exact .oA [(24584,some 24584),(53260,some 53260),(61448,some 61448),(77864,some 77864)] []
   refine sD ?_;refine⟨fun h5=>?_,fun h5=>?_⟩
   ·have hj2:j<C.length:=by omega
    have hwj:=qh (i:=j) oM;have sF:=zB x.sch hs C[j];have sV1:=fun lev=>YY x.sch hs z oM (fun r hr=>by have:=z3 r hr;omega) rr C[j] lev;have sV2:=fun lev=>zu5 x.sch hs z oM (fun r hr=>by have:=z3 r hr;omega) rr C[j] lev;simp only[tZ,↓un_u,simprocAttr,Ax,qd hj2];generalize C[j]=cc at sF sV1 sV2 ⊢
    repeat (first | refine⟨oM,?_⟩ | refine⟨kR,?_⟩)
    refine C1.im sM6 rF rF ?_;refine sW ?_
    repeat (first | refine⟨oM,?_⟩ | refine⟨kR,?_⟩)
    refine C1.im sF rF rF ?_;refine sW ?_
    repeat (first | refine⟨oM,?_⟩ | refine⟨kR,?_⟩)
    obtain⟨L,hL⟩:∃ L:List Int,L=[IntKind.i64.wrap (modI by_ 6-1),finI x.sch cc]:=⟨_,rfl⟩;have hL2:L.length=2:=by rw[hL];rfl
    refine qk mixm (α:=Nat) [144] (fun n=>n≤2) (fun n=>[(144,vI n)]) (fun n=>[(24584,.arr 2 [schT x.sch] false),(53260,.arr 4 (Z.map extT) false),(61448,.arr 4 [extT z] false),(77864,.arr 1 (C.map vI) false),(90136,.arr 1 (L.map vI) false)]) (fun n=>2-n) 0 oM ?_ fun n hn=>?_
    ·rw[hL];exact .oA [(24584,some 24584),(53260,some 53260),(61448,some 61448),(77864,some 77864),(90136,some 90136)] []
    refine sD ?_;refine⟨fun h6=>?_,fun h6=>?_⟩
    ·have hn2:n<L.length:=by omega
     have hwn:=qh (i:=n) oM;simp only[tZ,↓un_u,simprocAttr,Ax,qd hn2]
     repeat (first | refine⟨oM,?_⟩ | refine⟨kR,?_⟩)
     refine C1.im (sV1 L[n]) rF rF ?_;refine sW ?_
     repeat (first | refine⟨oM,?_⟩ | refine⟨kR,?_⟩)
     refine C1.im (sV2 L[n]) rF rF ?_;simp only[tZ,↓un_u,simprocAttr,bne_self_eq_false,hwn];refine⟨n+1,oM,oM,?_⟩;exact .oA [(24584,some 24584),(53260,some 53260),(61448,some 61448),(77864,some 77864),(90136,some 90136)] []
    ·simp only[tZ,↓un_u,simprocAttr,hwj];refine⟨j+1,oM,oM,?_⟩;exact .oA [(24584,some 24584),(53260,some 53260),(61448,some 61448),(77864,some 77864)] []
   ·simp only[tZ,↓un_u,simprocAttr,hwi];refine⟨i+1,oM,oM,?_⟩;exact .oA [(24584,some 24584),(53260,some 53260)] []
  ·refine C1.im qt8 rF rF ?_;refine sW ?_;exact .oA [] []
  )
end Go.Proofs
