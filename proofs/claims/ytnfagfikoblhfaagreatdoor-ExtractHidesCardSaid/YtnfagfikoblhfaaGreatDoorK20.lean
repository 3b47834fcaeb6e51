/- A part of the proof: trees of Go values, short forms, contracts. -/
import Derived.WalkKit
import Derived.Still
import Derived.MapKept
import GoSem.Builtin.Cap
import Derived.Laws.Externs
import GoSem.Extern.SlicesOverlaps
import Derived.Carry
import Derived.ProofKit
import Derived.OpenShut
import Derived.HandedShaped
import Derived.Lay
import Derived.LaidLaws
import Derived.MakeChecks
import Derived.SevenTiedAt
import Derived.Test.YtnfagfikoblhfaaGreatDoorChecked
import Derived.Test.YtnfagfikoblhfaaGreatDoorK19
set_option linter.unusedSimpArgs false
set_option linter.unusedVariables false
namespace Go.Proofs
open Go Go.TL
set_option maxRecDepth 4000
set_option maxHeartbeats 8000000
theorem DrS.meas3 {s:Sch} (h:DrS s):(YO s 3).length≤3:=by
 obtain⟨ms,hc,h1,h3⟩:=h.cs;have key:∀ n,(qg5 s 3 n).length≤n-2:=by
  have e0:(qk s 0).kind=1:=by rcases hc with⟨hc,_⟩ | ⟨hc,_⟩ <;> (rw[qk,hc];rfl)
  have e1:(qk s 1).kind=2:=by rcases hc with⟨hc,_⟩ | ⟨hc,_⟩ <;> (rw[qk,hc];rfl)
  intro n
  induction n with
  | zero=>simp [qg5]
  | succ n ih=>
    rw[kL,AW];by_cases k0:n=0
    ·subst k0;rw[e0,Aq (by decide),Cw];omega
    ·by_cases k1:n=1
     ·subst k1;rw[e1,Aq (by decide),Cw];omega
     ·split <;> simp <;> omega
 rcases hc with⟨hc,hm⟩ | ⟨hc,hm⟩
 ·have:=key s.cols.length;have hl:s.cols.length=ms.length+2:=by rw[hc];rfl
  unfold YO;omega
 ·have e2:(qk s 2).kind=2:=by rw[qk,hc];rfl
  have k2:∀ n,3≤n→(qg5 s 3 n).length≤n-3:=by
   intro n hn
   induction n with
   | zero=>omega
   | succ n ih=>
     by_cases k:n=2
     ·subst k;rw[kL,e2,Aq (by decide),CW];have:=key 2;omega
     ·rw[kL,AW];have:=ih (by omega);split <;> simp <;> omega
  have hl:s.cols.length=ms.length+3:=by rw[hc];rfl
  have:=k2 s.cols.length (by omega);unfold YO;omega
theorem jU3 {s:Sch} {m:Int} {ts:List Int} (h1:1≤ts.length) (h2:ts.length≤3) (h3:∀ v∈ts,isB s v 3=true∧v≠m) (h4:ts.Nodup):yn s m ts=0:=by
 rw[yn,Aq (by omega)];refine qa8 fun i hi=>?_;have hpi:ts.getD i 0=ts[i]:=qh hi;obtain⟨a,b⟩:=h3 _ (AX hi);rw[zh8,hpi,Aq (by rw[a];simp),Aq];rintro (k | k)
 ·exact b k
 ·obtain⟨j,hj,e⟩:=List.mem_take_iff_getElem.1 (FQ.1 k);exact DX.1 h4 j i (by omega) hi (by omega) e
theorem qJ5 (s:Sch) (hd:DrS s) (m:Int) (l:List UInt8) (a:Nat) (hl:l.length≤400) (ha:a≤l.length) :
 ∃ r:List Int×Nat,((r.1.length≤3∧(0<r.1.length→yn s m r.1=0))∧r.2≤l.length)∧Spc Tryz.prog Qr [.ptr 0 1 0 0,schT s,vI m] [(0,oC l a)] (vIs r.1) [(0,oC l r.2)]:=by
 have hE:=hd.ok;have hnc:=(qR hE).nc;have hc:=ZY s 3 (by omega);have hm:=fun v=>(Ws (s:=s) (kind:=3) (v:=v)).1;have hnd:=zj2 s 3;have hc3:=hd.meas3;generalize YO s 3=L at hc hm hnd hc3;refine ja qz0 mixm (fun r:List Int×Nat=>vIs r.1) (fun r=>[(0,oC l r.2)]) (by simp) ?_;unfold yM;refine sW ?_;refine XE.mp (fun _ _=>C1.im hc (by rfl) (by rfl)) ?_;refine sW ?_;refine XE.loopF mixm [7,14] (fun y:Nat×List Int×Nat=>y.1≤L.length∧y.2.1.Sublist (L.take y.1)∧(∀ v∈y.2.1,v≠m)∧y.2.2≤l.length) (fun y=>[(7,.asl 1 y.2.1.length),(14,vI y.1)]) (fun y=>[(0,oC l y.2.2),(4096,.arr 2 [schT s] false),(1,.arr 1 (y.2.1.map vI) false)]) (fun y=>L.length-y.1) (0,[],a) ⟨by simp,by simp,by simp,ha⟩ (fun e ⟨_,hst⟩=>?_) fun T' y hy ih=>?_
 ·exact .oA [(0,some 0),(4096,some 4096),(1,none)] []
 obtain⟨i,ts,a1⟩:=y;obtain⟨y1,y2,y3,y4⟩:=hy;dsimp only at y1 y2 y3 y4;have hsl:=y2.length_le;rw[Cz] at hsl;simp only[tZ,↓un_u,simprocAttr,AZ,Ay];refine XE.brN (fun h4=>?_) (fun h4=>?_)
 ·have hi2:i<L.length:=by omega
  have hwi:=qj (i:=i) (by omega);have htk:=qH hi2;have hsub:ts.Sublist (L.take (i+1)):=by rw[htk];exact y2.trans (List.sublist_append_left _ _)
  have hsub2:(ts++[L[i]]).Sublist (L.take (i+1)):=by rw[htk];exact y2.append (List.Sublist.refl _)
  have hgi:(L.map vI).getD i .junk=vI L[i]:=qe hi2;obtain⟨o,a2,ha2,sO⟩:=js3 l a1 2 hl y4 (by omega);generalize L[i]=v at hgi hsub2;simp only[tZ,↓un_u,simprocAttr,Ax,hgi];refine XE.sd (by omega) ?_;by_cases hv:v=m
  ·have q:(v != m)=false:=Aw.2 hv;simp only[tZ,↓un_u,simprocAttr,q];refine XE.mp (fun _ _=>C2.no (by simp)) ?_;simp only[tZ,↓un_u,simprocAttr,hwi];refine XE.next ih (i+1,ts,a1) ⟨by dsimp only;omega,hsub,y3,y4⟩ (by dsimp only;omega) fun e ⟨_,hst⟩=>?_;exact .oA [(0,some 0),(4096,some 4096),(1,some 1)] []
  ·have q:(v != m)=true:=Bj.2 hv;have hin:∀ u∈ts++[v],u≠m:=fun u hu=>by
    rcases Dz.1 hu with h | h
    ·exact y3 u h
    ·rw[Ey.1 h];exact hv
   by_cases hts:ts.length=0
   ·have q2:((ts.length:Int)==0)=true:=AY.2 (by omega);simp only[tZ,↓un_u,simprocAttr,q,q2];refine XE.mp (fun _ _=>C2.no (by simp)) ?_;simp only[tZ,↓un_u,simprocAttr,Ax,hgi,hwi];refine XE.sd (by omega) (XE.sd (by omega) ?_);refine XE.next ih (i+1,ts++[v],a1) ⟨by dsimp only;omega,hsub2,hin,y4⟩ (by dsimp only;omega) fun e ⟨_,hst⟩=>?_;exact .oA [(0,some 0),(4096,some 4096),(1,some 1)] []
   ·have q2:((ts.length:Int)==0)=false:=Ak.2 (by omega);simp only[tZ,↓un_u,simprocAttr,q,q2];refine XE.mp (fun _ _=>C2.one (by trivial)) ?_;refine XE.mp (fun _ _=>C1.draw 0 l a1 _ sO rfl rfl rfl) ?_;simp only[tZ,↓un_u,simprocAttr,Ax,hgi,hwi];refine XE.brB (fun h5=>?_) (fun h5=>?_)
    ·refine XE.sd (by omega) (XE.sd (by omega) ?_);refine XE.next ih (i+1,ts++[v],a2) ⟨by dsimp only;omega,hsub2,hin,ha2⟩ (by dsimp only;omega) fun e ⟨_,hst⟩=>?_;exact .oA [(0,some 0),(4096,some 4096),(1,some 1)] []
    ·refine XE.next ih (i+1,ts,a2) ⟨by dsimp only;omega,hsub,y3,ha2⟩ (by dsimp only;omega) fun e ⟨_,hst⟩=>?_;exact .oA [(0,some 0),(4096,some 4096),(1,some 1)] []
 ·have hil:i=L.length:=by omega
  rw[hil,Bw] at y2;refine XE.fin (ts,a1) ⟨⟨by dsimp only;omega,fun h=>jU3 h (by dsimp only;omega) (fun v hv=>⟨hm v (y2.subset hv),y3 v hv⟩) (hnd.sublist y2)⟩,y4⟩ fun e ⟨_,hst⟩=>?_;exact .oA [(0,some 0)] [1]
end Go.Proofs
namespace Go.Proofs
open Go Go.TL
set_option maxRecDepth 4000
set_option maxHeartbeats 8000000
theorem kn0:qa7 cnd0 cnd0=true:=by decide +kernel
theorem qZ5 {s:Sch} {nm:ByteArray} {c:Cnd} {ds:List Pk} {m:Int} (hE:schE s=0) (h1:jt nm=true) (h2:chkC s c=0) (h3:Wp s ds=0) (h4:m = -1∨isB s m 3=true):qstE s ⟨nm,1,c,ds,m,[],cnd0⟩=0:=by
 have hp:wP s ⟨nm,1,c,ds,m,[],cnd0⟩=0:=by
  rw[wP,Aj rfl,Aq (by rw[h3];simp),Aq];rintro ⟨a,b⟩;rcases h4 with h | h
  ·exact a h
  ·rw[h] at b;cases b
 rw[qstE,Aq (by rw[hE];simp),Aq (by rw[h1];simp),Aq (by simp),Aq (by rw[h2];simp),Aq (by rw[hp];simp),Aq (by rw[kn0];simp)]
theorem jU4 {s:Sch} {nm:ByteArray} {c:Cnd} {ts:List Int} {m:Int} (hE:schE s=0) (h1:jt nm=true) (h2:chkC s c=0) (h3:yn s m ts=0) (h4:isB s m 3=true):qstE s ⟨nm,2,c,[],m,ts,cnd0⟩=0:=by
 have hp:wP s ⟨nm,2,c,[],m,ts,cnd0⟩=0:=by
  rw[wP,Aq (by simp),Aj rfl,Aq (by rw[h4];simp)];exact h3
 rw[qstE,Aq (by rw[hE];simp),Aq (by rw[h1];simp),Aq (by simp),Aq (by rw[h2];simp),Aq (by rw[hp];simp),Aq (by rw[kn0];simp)]
theorem jU5 {s:Sch} {nm:ByteArray} {c d:Cnd} {m:Int} (hE:schE s=0) (h1:jt nm=true) (h2:chkC s c=0) (h3:chkC s d=0) (h4:isB s m 3=true) (h5:0≤(qk s m.toNat).low):qstE s ⟨nm,3,c,[],m,[],d⟩=0:=by
 have hp:wP s ⟨nm,3,c,[],m,[],d⟩=0:=by
  rw[wP,Aq (by simp),Aq (by simp),Aq (by rw[h4];simp),Aq (by dsimp only;omega)];exact h3
 rw[qstE,Aq (by rw[hE];simp),Aq (by rw[h1];simp),Aq (by simp),Aq (by rw[h2];simp),Aq (by rw[hp];simp),Aq (by simp)]
theorem CndOk.mono {s:Sch} {n m:Nat} {c:Cnd} (h:CndOk s n c) (hn:n≤m):CndOk s m c:=by
 have h1:=h.dep;have h2:=h.siz;have h3:2 ^ (n+1)≤2 ^ (m+1):=Nat.pow_le_pow_right (by omega) (by omega);exact⟨h.ok,by omega,by omega⟩
theorem qj2 (s:Sch) (hd:DrS s) (nm:ByteArray) (hnm:jt nm=true) (l:List UInt8) (a:Nat) (hl:l.length≤400) (ha:a≤l.length) :
 ∃ r:Qst×Nat,((qstE s r.1=0∧r.1.name=nm∧CndOk s 2 r.1.filt)∧r.2≤l.length)∧Spc Tryz.prog jB [.ptr 0 1 0 0,schT s,vS nm] [(0,oC l a)] (qstT r.1) [(0,oC l r.2)]:=by
 have hE:=hd.ok;have hok:=qR hE;have hnc:=hok.nc;have hat:∀ i (h:i<s.cols.length),qk s i=s.cols[i]:=fun i h=>by rw[qk,qh h]
 obtain⟨j,a1,j1,j2,ha1,sN⟩:=wQ l a 3 hl ha (by omega);obtain⟨D,rfl⟩:=AJ j1;obtain⟨⟨c,a2⟩,⟨hc,ha2⟩,sC⟩:=ZR s hd l hl D a1 ha1 (by omega);dsimp only at hc ha2 sC;have hcf:=hc.chk hE (by omega);have hcm:=hc.mono (m:=2) (by omega);obtain⟨v,a3,hv,ha3,sV⟩:=ZQ s hd l a2 hl ha2;obtain⟨_,v2,v3⟩:=zE.1 hv;rw[Ax] at v3;have hil:v<s.cols.length:=by omega
 obtain⟨w,a4,w1,w2,ha4,sK⟩:=wQ l a3 4 hl ha3 (by omega);refine ja qh9 mixm (fun r:Qst×Nat=>qstT r.1) (fun r=>[(0,oC l r.2)]) (by simp) ?_;unfold kP;refine sW ?_;refine XE.mp (fun _ _=>C1.draw 0 l a _ sN rfl rfl rfl) ?_;refine sW ?_;refine XE.mp (fun _ _=>C1.draw 0 l a1 _ sC rfl rfl rfl) ?_;refine sW ?_;refine XE.sd (by kernel_rfl) ?_;refine XE.mp (fun _ _=>C1.draw 0 l a2 _ sV rfl rfl rfl) ?_;refine sW ?_;refine XE.mp (fun _ _=>C1.draw 0 l a3 _ sK rfl rfl rfl) ?_;simp only[tZ,↓un_u,simprocAttr,AY,Ak];refine XE.brN (fun h1=>?_) (fun h1=>XE.brN (fun h2=>?_) (fun h2=>XE.brN (fun h3=>?_) (fun h3=>?_)))
 ·obtain⟨⟨ds,b2⟩,⟨hds,hb2⟩,sQ⟩:=wM s hd l a4 hl ha4;dsimp only at hds hb2 sQ;refine XE.mp (fun _ _=>C1.draw 0 l a4 _ sQ rfl rfl rfl) ?_;refine sW ?_;refine XE.fin (⟨nm,1,c,ds,v,[],cnd0⟩,b2) ⟨⟨qZ5 hE hnm hcf hds (.inr hv),rfl,hcm⟩,hb2⟩ fun e ⟨_,hst⟩=>?_;exact .oA [(0,some 0)] []
 ·obtain⟨⟨ts,a5⟩,⟨⟨ht1,ht2⟩,ha5⟩,sT⟩:=qJ5 s hd v l a4 hl ha4;dsimp only at ht1 ht2 ha5 sT;refine XE.mp (fun _ _=>C1.draw 0 l a4 _ sT rfl rfl rfl) ?_;simp only[tZ,↓un_u,simprocAttr,AZ,Ay];refine XE.brN (fun h3=>?_) (fun h3=>?_)
  ·refine XE.fin (⟨nm,2,c,[],v,ts,cnd0⟩,a5) ⟨⟨jU4 hE hnm hcf (ht2 (by omega)) hv,rfl,hcm⟩,ha5⟩ fun e ⟨_,hst⟩=>?_;exact .oA [(0,some 0)] []
  ·obtain⟨⟨ds,b2⟩,⟨hds,hb2⟩,sQ⟩:=wM s hd l a5 hl ha5;dsimp only at hds hb2 sQ;refine XE.mp (fun _ _=>C1.draw 0 l a5 _ sQ rfl rfl rfl) ?_;refine sW ?_;refine XE.fin (⟨nm,1,c,ds,-1,[],cnd0⟩,b2) ⟨⟨qZ5 hE hnm hcf hds (.inl rfl),rfl,hcm⟩,hb2⟩ fun e ⟨_,hst⟩=>?_;exact .oA [(0,some 0)] []
 ·simp only[tZ,↓un_u,simprocAttr,Ax,qe hil,AZ,Ay];refine XE.sd (by omega) ?_;refine XE.brN (fun h4=>?_) (fun h4=>?_)
  ·obtain⟨⟨d,a5⟩,⟨hdc,ha5⟩,sE⟩:=ZR s hd l hl 1 a4 ha4 (by omega);dsimp only at hdc ha5 sE;refine XE.mp (fun _ _=>C1.draw 0 l a4 _ sE rfl rfl rfl) ?_;refine sW ?_;refine XE.fin (⟨nm,3,c,[],v,[],d⟩,a5) ⟨⟨jU5 hE hnm hcf (hdc.chk hE (by omega)) hv (by rw[Ax,hat v hil];omega),rfl,hcm⟩,ha5⟩ fun e ⟨_,hst⟩=>?_;exact .oA [(0,some 0)] []
  ·obtain⟨⟨ds,b2⟩,⟨hds,hb2⟩,sQ⟩:=wM s hd l a4 hl ha4;dsimp only at hds hb2 sQ;refine XE.mp (fun _ _=>C1.draw 0 l a4 _ sQ rfl rfl rfl) ?_;refine sW ?_;refine XE.fin (⟨nm,1,c,ds,-1,[],cnd0⟩,b2) ⟨⟨qZ5 hE hnm hcf hds (.inl rfl),rfl,hcm⟩,hb2⟩ fun e ⟨_,hst⟩=>?_;exact .oA [(0,some 0)] []
 ·obtain⟨⟨ds,b2⟩,⟨hds,hb2⟩,sQ⟩:=wM s hd l a4 hl ha4;dsimp only at hds hb2 sQ;refine XE.mp (fun _ _=>C1.draw 0 l a4 _ sQ rfl rfl rfl) ?_;refine sW ?_;refine XE.fin (⟨nm,1,c,ds,-1,[],cnd0⟩,b2) ⟨⟨qZ5 hE hnm hcf hds (.inl rfl),rfl,hcm⟩,hb2⟩ fun e ⟨_,hst⟩=>?_;exact .oA [(0,some 0)] []
theorem jH (s:Sch) (hd:DrS s) (nm:ByteArray) (hnm:jt nm=true) (l:List UInt8) (a:Nat) (hl:l.length≤400) (ha:a≤l.length) :
 ∃ r:Qst×Nat,((qstE s r.1=0∧r.1.name=nm)∧r.2≤l.length)∧Spc Tryz.prog jB [.ptr 0 1 0 0,schT s,vS nm] [(0,oC l a)] (qstT r.1) [(0,oC l r.2)]:=by
 obtain⟨r,⟨⟨h1,h2,_⟩,h3⟩,h⟩:=qj2 s hd nm hnm l a hl ha;exact⟨r,⟨⟨h1,h2⟩,h3⟩,h⟩
end Go.Proofs
namespace Go.Proofs
open Go Go.TL
set_option maxRecDepth 4000
set_option maxHeartbeats 8000000
theorem nm_p:∀ n:Nat,n<10→jt ⟨#[112,dgt n]⟩=true∧jt ⟨#[113,dgt n]⟩=true:=by
 have:∀ n:Fin 10,jt ⟨#[112,dgt n.1]⟩=true∧jt ⟨#[113,dgt n.1]⟩=true:=by decide +kernel
 exact fun n h=>this ⟨n,h⟩
theorem kn1:∀ i j:Nat,i<10→j<10→i≠j→eqB ⟨#[113,dgt i]⟩ ⟨#[113,dgt j]⟩=false:=by
 have:∀ i j:Fin 10,i.1≠j.1→eqB ⟨#[113,dgt i.1]⟩ ⟨#[113,dgt j.1]⟩=false:=by decide +kernel
 exact fun i j hi hj h=>this ⟨i,hi⟩ ⟨j,hj⟩ h
def qX7:ByteArray:=⟨#[115,114,99]⟩
theorem kn2:jt qX7=true:=by decide +kernel
abbrev dcl0:Dcl:=⟨⟨#[]⟩,⟨#[]⟩,cnd0,⟨0,0,0⟩,[]⟩
theorem kn3 {s:Sch} {P:Nat} {c:Cnd} {x:Smp} {qs:List Qst} {N:Nat} (hE:schE s=0) (hP:P<10) (hc:chkC s c=0) (hx:smpE x=0) (h1:1≤qs.length) (hN:qs.length=N) (hN3:N≤3) (hq:∀ i (h:i<qs.length),qstE s qs[i]=0∧qs[i].name=⟨#[113,dgt (N-i)]⟩) :
 dclE s ⟨⟨#[112,dgt P]⟩,qX7,c,x,qs⟩=0:=by
 rw[dclE,Aq (by rw[hE];simp),Aq (by rw[(nm_p P hP).1,kn2];simp),Aq (by rw[hc];simp),Aq (by rw[hx];simp),Aq (by dsimp only;omega)];refine qa8 fun i hi=>?_;have hi:i<qs.length:=hi;have hpi:qAt qs i=qs[i]:=by rw[qAt,qh hi]
 obtain⟨a,b⟩:=hq i hi;rw[qsE,hpi,Aq (by rw[a];simp),Aq];intro k;obtain⟨x,hx,e⟩:=DJ.1 k;obtain⟨j,hj,rfl⟩:=List.mem_take_iff_getElem.1 hx;have hj2:j<i∧j<qs.length:=by have:j<min i qs.length:=hj;omega
 rw[b,(hq j (by omega)).2,kn1 (N-j) (N-i) (by omega) (by omega) (by omega)] at e;cases e
structure DrD (s:Sch) (d:Dcl):Prop where
 len:d.qs.length≤3
 nm:∀ q∈d.qs,∃ n,n<10∧q.name=⟨#[113,dgt n]⟩
 coh:CndOk s 1 d.coh
theorem zG3 {s:Sch} {P:Nat} {c:Cnd} {x:Smp} {qs:List Qst} {N:Nat} (hE:schE s=0) (hP:P<10) (hco:CndOk s 1 c) (hc:chkC s c=0) (hx:smpE x=0) (h1:1≤qs.length) (hN:qs.length=N) (hN3:N≤3) (hq:∀ i (h:i<qs.length),qstE s qs[i]=0∧qs[i].name=⟨#[113,dgt (N-i)]⟩) :
 dclE s ⟨⟨#[112,dgt P]⟩,qX7,c,x,qs⟩=0∧DrD s ⟨⟨#[112,dgt P]⟩,qX7,c,x,qs⟩:=
 ⟨kn3 hE hP hc hx h1 hN hN3 hq,by dsimp only;omega,fun q hq2=>by
   obtain⟨i,hi,rfl⟩:=CX hq2;exact⟨N-i,by omega,(hq i hi).2⟩,hco⟩
theorem YP (s:Sch) (hd:DrS s) (l:List UInt8) (a:Nat) (hl:l.length≤400) (ha:a≤l.length) :
 ∃ r:Dcl×Nat,((dclE s r.1=0∧DrD s r.1)∧r.2≤l.length)∧Spc Tryz.prog zn [.ptr 0 1 0 0,schT s] [(0,oC l a)] (dclT r.1) [(0,oC l r.2)]:=by
 have hE:=hd.ok;have hok:=qR hE;obtain⟨p,a1,p1,p2,ha1,sP⟩:=wQ l a 3 hl ha (by omega);obtain⟨P,rfl⟩:=AJ p1;have hIt:=qJ0 P (by omega);obtain⟨⟨c0,a2⟩,⟨hc0,ha2⟩,sC⟩:=ZR s hd l hl 1 a1 ha1 (by omega);dsimp only at hc0 ha2 sC;have hcf0:=hc0.chk hE (by omega);have hca:chkC s (.mk 1 0 0 0 0 [])=0:=(yU (s:=s) 1 (zj1 s) rfl).chk hE (by omega);obtain⟨sd,a3,sd1,sd2,ha3,sS⟩:=wQ l a2 999 hl ha2 (by omega);obtain⟨o1,a4,ha4,sO⟩:=js3 l a3 3 hl ha3 (by omega);obtain⟨o2,a5,ha5,sO2⟩:=js3 l a4 3 hl ha4 (by omega);obtain⟨f,a6,f1,f2,ha6,sF⟩:=YN l a5 2 5 hl ha5 (by omega) (by omega);obtain⟨g,a7,g1,g2,ha7,sG⟩:=YN l a6 1 f hl ha6 (by omega) (by omega);obtain⟨ra,ba,ra1,ra2,hba,sRa⟩:=YN l a5 1 3 hl ha5 (by omega) (by omega);obtain⟨Na,rfl⟩:=AJ (show 0≤ra by omega);obtain⟨rb,bb,rb1,rb2,hbb,sRb⟩:=YN l a7 1 3 hl ha7 (by omega) (by omega);obtain⟨Nb,rfl⟩:=AJ (show 0≤rb by omega);refine ja WY mixm (fun r:Dcl×Nat=>dclT r.1) (fun r=>[(0,oC l r.2)]) (by simp) ?_;unfold jN;refine sW ?_;refine XE.mp (fun _ _=>C1.draw 0 l a _ sP rfl rfl rfl) ?_;refine sW ?_;refine XE.mp (fun _ _=>C1.im hIt (by rfl) (by rfl)) ?_;simp only[tZ,↓un_u,simprocAttr,qI9];refine XE.sd (show 1+1≤9223372036854775807 by omega) ?_;refine XE.mp (fun _ _=>C1.draw 0 l a1 _ sC rfl rfl rfl) ?_;refine sW ?_;refine XE.mp (fun _ _=>C1.draw 0 l a2 _ sS rfl rfl rfl) ?_;refine sW ?_;refine XE.sd (by kernel_rfl) ?_;refine XE.mp (fun _ _=>C1.draw 0 l a3 _ sO rfl rfl rfl) ?_;refine sW ?_;apply XE.brB
 ·intro h1;refine XE.mp (fun _ _=>C1.draw 0 l a4 _ sO2 rfl rfl rfl) ?_;refine sW ?_;apply XE.brB
  focus
   intro h2;refine XE.mp (fun _ _=>C1.draw 0 l a5 _ sF rfl rfl rfl) ?_;refine sW ?_;refine XE.mp (fun _ _=>C1.draw 0 l a6 _ sG rfl rfl rfl) ?_;refine sW ?_;refine XE.mp (fun _ _=>C1.draw 0 l a7 _ (sRb) rfl rfl rfl) ?_;refine sW ?_;refine XE.loopF mixm [6,19,23] (fun y:List Qst×Nat=>y.1.length≤Nb∧(∀ i (h:i<y.1.length),qstE s y.1[i]=0∧y.1[i].name=⟨#[113,dgt (Nb-i)]⟩)∧y.2≤l.length) (fun y=>[(6,vI ((Nb-y.1.length:Nat):Int))]) (fun y=>[(0,oC l y.2),(4096,.arr 2 [schT s] false),(4100,.arr 12 [dclT dcl0] false),(8236,.arr 12 [.agg [vS ⟨#[112,dgt P]⟩,vS qX7,vI ((.mk 1 0 0 0 0 []):Cnd).op,vI ((.mk 1 0 0 0 0 []):Cnd).col,vI ((.mk 1 0 0 0 0 []):Cnd).code,vI ((.mk 1 0 0 0 0 []):Cnd).lo,vI ((.mk 1 0 0 0 0 []):Cnd).hi,vCs ((.mk 1 0 0 0 0 []):Cnd).kids,vI g,vI f,vI sd,.asl 1 y.1.length]] false),(1,.arr 17 (y.1.map qstT) false)]) (fun y=>Nb-y.1.length) ([],bb) ⟨by simp,fun i h=>by simp at h,hbb⟩ (fun e ⟨_,hst⟩=>?_) fun T' y hy ih=>?_
   ·exact .oA [(0,some 0),(4096,some 4096),(4100,some 4100),(8236,some 8236),(1,none)] []
   obtain⟨qs,a8⟩:=y;obtain⟨y1,y2,y3⟩:=hy;dsimp only at y1 y2 y3;simp only[tZ,↓un_u,simprocAttr,AZ,Ay];refine XE.brN (fun h4=>?_) (fun h4=>?_)
   ·have hlt:qs.length<Nb:=by omega
    have hI:=qJ0 (Nb-qs.length) (by omega);obtain⟨⟨q,a9⟩,⟨⟨hq,hqn⟩,ha9⟩,sQ⟩:=jH s hd ⟨#[113,dgt (Nb-qs.length)]⟩ (nm_p _ (by omega)).2 l a8 hl y3;dsimp only at hq hqn ha9 sQ;have hwk:=jp (i:=Nb-qs.length) (by omega) (by omega);refine XE.mp (fun _ _=>C1.im hI (by rfl) (by rfl)) ?_;simp only[tZ,↓un_u,simprocAttr,qI9];refine XE.sd (show 1+1≤9223372036854775807 by omega) ?_;refine XE.mp (fun _ _=>C1.draw 0 l a8 _ sQ rfl rfl rfl) ?_;simp only[tZ,↓un_u,simprocAttr,hwk];refine XE.sd (by omega) (XE.sd (by kernel_rfl) ?_);refine XE.next ih (qs++[q],a9) ⟨by simp;omega,fun i h=>?_,ha9⟩ (by simp;omega) fun e ⟨_,hst⟩=>?_
    ·dsimp only at h ⊢
     by_cases hi:i<qs.length
     ·rw[List.getElem_append_left hi];exact y2 i hi
     ·have he:i=qs.length:=by rw[AW] at h;simp at h;omega
      subst he;rw[List.getElem_append_right (BZ _)];simpa using Az hq hqn
    ·have e1:Nb-(qs++[q]).length=Nb-qs.length-1:=by rw[AW];simp;omega
     simp only[e1];exact .oA [(0,some 0),(4096,some 4096),(4100,some 4100),(8236,some 8236),(1,some 1)] []
   ·refine XE.fin (⟨⟨#[112,dgt P]⟩,qX7,(.mk 1 0 0 0 0 []),⟨g,f,sd⟩,qs⟩,a8) ⟨zG3 hE (by omega) (yU (s:=s) 1 (zj1 s) rfl) hca (by rw[smpE,Aq];dsimp only;omega) (by omega) rfl (by omega) (fun i h=>by have:=y2 i h;rwa [show Nb=qs.length by omega] at this),y3⟩ fun e ⟨_,hst⟩=>?_;exact .oA [(0,some 0)] [1]
  focus
   intro h2;refine XE.mp (fun _ _=>C1.draw 0 l a5 _ (sRa) rfl rfl rfl) ?_;refine sW ?_;refine XE.loopF mixm [6,19,23] (fun y:List Qst×Nat=>y.1.length≤Na∧(∀ i (h:i<y.1.length),qstE s y.1[i]=0∧y.1[i].name=⟨#[113,dgt (Na-i)]⟩)∧y.2≤l.length) (fun y=>[(6,vI ((Na-y.1.length:Nat):Int))]) (fun y=>[(0,oC l y.2),(4096,.arr 2 [schT s] false),(4100,.arr 12 [dclT dcl0] false),(8236,.arr 12 [.agg [vS ⟨#[112,dgt P]⟩,vS qX7,vI ((.mk 1 0 0 0 0 []):Cnd).op,vI ((.mk 1 0 0 0 0 []):Cnd).col,vI ((.mk 1 0 0 0 0 []):Cnd).code,vI ((.mk 1 0 0 0 0 []):Cnd).lo,vI ((.mk 1 0 0 0 0 []):Cnd).hi,vCs ((.mk 1 0 0 0 0 []):Cnd).kids,vI 1,vI 1,vI sd,.asl 1 y.1.length]] false),(1,.arr 17 (y.1.map qstT) false)]) (fun y=>Na-y.1.length) ([],ba) ⟨by simp,fun i h=>by simp at h,hba⟩ (fun e ⟨_,hst⟩=>?_) fun T' y hy ih=>?_
   ·exact .oA [(0,some 0),(4096,some 4096),(4100,some 4100),(8236,some 8236),(1,none)] []
   obtain⟨qs,a8⟩:=y;obtain⟨y1,y2,y3⟩:=hy;dsimp only at y1 y2 y3;simp only[tZ,↓un_u,simprocAttr,AZ,Ay];refine XE.brN (fun h4=>?_) (fun h4=>?_)
   ·have hlt:qs.length<Na:=by omega
    have hI:=qJ0 (Na-qs.length) (by omega);obtain⟨⟨q,a9⟩,⟨⟨hq,hqn⟩,ha9⟩,sQ⟩:=jH s hd ⟨#[113,dgt (Na-qs.length)]⟩ (nm_p _ (by omega)).2 l a8 hl y3;dsimp only at hq hqn ha9 sQ;have hwk:=jp (i:=Na-qs.length) (by omega) (by omega);refine XE.mp (fun _ _=>C1.im hI (by rfl) (by rfl)) ?_;simp only[tZ,↓un_u,simprocAttr,qI9];refine XE.sd (show 1+1≤9223372036854775807 by omega) ?_;refine XE.mp (fun _ _=>C1.draw 0 l a8 _ sQ rfl rfl rfl) ?_;simp only[tZ,↓un_u,simprocAttr,hwk];refine XE.sd (by omega) (XE.sd (by kernel_rfl) ?_);refine XE.next ih (qs++[q],a9) ⟨by simp;omega,fun i h=>?_,ha9⟩ (by simp;omega) fun e ⟨_,hst⟩=>?_
    ·dsimp only at h ⊢
     by_cases hi:i<qs.length
     ·rw[List.getElem_append_left hi];exact y2 i hi
     ·have he:i=qs.length:=by rw[AW] at h;simp at h;omega
      subst he;rw[List.getElem_append_right (BZ _)];simpa using Az hq hqn
    ·have e1:Na-(qs++[q]).length=Na-qs.length-1:=by rw[AW];simp;omega
     simp only[e1];exact .oA [(0,some 0),(4096,some 4096),(4100,some 4100),(8236,some 8236),(1,some 1)] []
   ·refine XE.fin (⟨⟨#[112,dgt P]⟩,qX7,(.mk 1 0 0 0 0 []),⟨1,1,sd⟩,qs⟩,a8) ⟨zG3 hE (by omega) (yU (s:=s) 1 (zj1 s) rfl) hca (by rw[smpE,Aq];dsimp only;omega) (by omega) rfl (by omega) (fun i h=>by have:=y2 i h;rwa [show Na=qs.length by omega] at this),y3⟩ fun e ⟨_,hst⟩=>?_;exact .oA [(0,some 0)] [1]
 ·intro h1;refine XE.mp (fun _ _=>C1.draw 0 l a4 _ sO2 rfl rfl rfl) ?_;refine sW ?_;apply XE.brB
  focus
   intro h2;refine XE.mp (fun _ _=>C1.draw 0 l a5 _ sF rfl rfl rfl) ?_;refine sW ?_;refine XE.mp (fun _ _=>C1.draw 0 l a6 _ sG rfl rfl rfl) ?_;refine sW ?_;refine XE.mp (fun _ _=>C1.draw 0 l a7 _ (sRb) rfl rfl rfl) ?_;refine sW ?_;refine XE.loopF mixm [6,19,23] (fun y:List Qst×Nat=>y.1.length≤Nb∧(∀ i (h:i<y.1.length),qstE s y.1[i]=0∧y.1[i].name=⟨#[113,dgt (Nb-i)]⟩)∧y.2≤l.length) (fun y=>[(6,vI ((Nb-y.1.length:Nat):Int))]) (fun y=>[(0,oC l y.2),(4096,.arr 2 [schT s] false),(4100,.arr 12 [dclT dcl0] false),(8236,.arr 12 [.agg [vS ⟨#[112,dgt P]⟩,vS qX7,vI (c0:Cnd).op,vI (c0:Cnd).col,vI (c0:Cnd).code,vI (c0:Cnd).lo,vI (c0:Cnd).hi,vCs (c0:Cnd).kids,vI g,vI f,vI sd,.asl 1 y.1.length]] false),(1,.arr 17 (y.1.map qstT) false)]) (fun y=>Nb-y.1.length) ([],bb) ⟨by simp,fun i h=>by simp at h,hbb⟩ (fun e ⟨_,hst⟩=>?_) fun T' y hy ih=>?_
   ·exact .oA [(0,some 0),(4096,some 4096),(4100,some 4100),(8236,some 8236),(1,none)] []
   obtain⟨qs,a8⟩:=y;obtain⟨y1,y2,y3⟩:=hy;dsimp only at y1 y2 y3;simp only[tZ,↓un_u,simprocAttr,AZ,Ay];refine XE.brN (fun h4=>?_) (fun h4=>?_)
   ·have hlt:qs.length<Nb:=by omega
    have hI:=qJ0 (Nb-qs.length) (by omega);obtain⟨⟨q,a9⟩,⟨⟨hq,hqn⟩,ha9⟩,sQ⟩:=jH s hd ⟨#[113,dgt (Nb-qs.length)]⟩ (nm_p _ (by omega)).2 l a8 hl y3;dsimp only at hq hqn ha9 sQ;have hwk:=jp (i:=Nb-qs.length) (by omega) (by omega);refine XE.mp (fun _ _=>C1.im hI (by rfl) (by rfl)) ?_;simp only[tZ,↓un_u,simprocAttr,qI9];refine XE.sd (show 1+1≤9223372036854775807 by omega) ?_;refine XE.mp (fun _ _=>C1.draw 0 l a8 _ sQ rfl rfl rfl) ?_;simp only[tZ,↓un_u,simprocAttr,hwk];refine XE.sd (by omega) (XE.sd (by kernel_rfl) ?_);refine XE.next ih (qs++[q],a9) ⟨by simp;omega,fun i h=>?_,ha9⟩ (by simp;omega) fun e ⟨_,hst⟩=>?_
    ·dsimp only at h ⊢
     by_cases hi:i<qs.length
     ·rw[List.getElem_append_left hi];exact y2 i hi
     ·have he:i=qs.length:=by rw[AW] at h;simp at h;omega
      subst he;rw[List.getElem_append_right (BZ _)];simpa using Az hq hqn
    ·have e1:Nb-(qs++[q]).length=Nb-qs.length-1:=by rw[AW];simp;omega
     simp only[e1];exact .oA [(0,some 0),(4096,some 4096),(4100,some 4100),(8236,some 8236),(1,some 1)] []
   ·refine XE.fin (⟨⟨#[112,dgt P]⟩,qX7,c0,⟨g,f,sd⟩,qs⟩,a8) ⟨zG3 hE (by omega) hc0 hcf0 (by rw[smpE,Aq];dsimp only;omega) (by omega) rfl (by omega) (fun i h=>by have:=y2 i h;rwa [show Nb=qs.length by omega] at this),y3⟩ fun e ⟨_,hst⟩=>?_;exact .oA [(0,some 0)] [1]
  focus
   intro h2;refine XE.mp (fun _ _=>C1.draw 0 l a5 _ (sRa) rfl rfl rfl) ?_;refine sW ?_;refine XE.loopF mixm [6,19,23] (fun y:List Qst×Nat=>y.1.length≤Na∧(∀ i (h:i<y.1.length),qstE s y.1[i]=0∧y.1[i].name=⟨#[113,dgt (Na-i)]⟩)∧y.2≤l.length) (fun y=>[(6,vI ((Na-y.1.length:Nat):Int))]) (fun y=>[(0,oC l y.2),(4096,.arr 2 [schT s] false),(4100,.arr 12 [dclT dcl0] false),(8236,.arr 12 [.agg [vS ⟨#[112,dgt P]⟩,vS qX7,vI (c0:Cnd).op,vI (c0:Cnd).col,vI (c0:Cnd).code,vI (c0:Cnd).lo,vI (c0:Cnd).hi,vCs (c0:Cnd).kids,vI 1,vI 1,vI sd,.asl 1 y.1.length]] false),(1,.arr 17 (y.1.map qstT) false)]) (fun y=>Na-y.1.length) ([],ba) ⟨by simp,fun i h=>by simp at h,hba⟩ (fun e ⟨_,hst⟩=>?_) fun T' y hy ih=>?_
   ·exact .oA [(0,some 0),(4096,some 4096),(4100,some 4100),(8236,some 8236),(1,none)] []
   obtain⟨qs,a8⟩:=y;obtain⟨y1,y2,y3⟩:=hy;dsimp only at y1 y2 y3;simp only[tZ,↓un_u,simprocAttr,AZ,Ay];refine XE.brN (fun h4=>?_) (fun h4=>?_)
   ·have hlt:qs.length<Na:=by omega
    have hI:=qJ0 (Na-qs.length) (by omega);obtain⟨⟨q,a9⟩,⟨⟨hq,hqn⟩,ha9⟩,sQ⟩:=jH s hd ⟨#[113,dgt (Na-qs.length)]⟩ (nm_p _ (by omega)).2 l a8 hl y3;dsimp only at hq hqn ha9 sQ;have hwk:=jp (i:=Na-qs.length) (by omega) (by omega);refine XE.mp (fun _ _=>C1.im hI (by rfl) (by rfl)) ?_;simp only[tZ,↓un_u,simprocAttr,qI9];refine XE.sd (show 1+1≤9223372036854775807 by omega) ?_;refine XE.mp (fun _ _=>C1.draw 0 l a8 _ sQ rfl rfl rfl) ?_;simp only[tZ,↓un_u,simprocAttr,hwk];refine XE.sd (by omega) (XE.sd (by kernel_rfl) ?_);refine XE.next ih (qs++[q],a9) ⟨by simp;omega,fun i h=>?_,ha9⟩ (by simp;omega) fun e ⟨_,hst⟩=>?_
    ·dsimp only at h ⊢
     by_cases hi:i<qs.length
     ·rw[List.getElem_append_left hi];exact y2 i hi
     ·have he:i=qs.length:=by rw[AW] at h;simp at h;omega
      subst he;rw[List.getElem_append_right (BZ _)];simpa using Az hq hqn
    ·have e1:Na-(qs++[q]).length=Na-qs.length-1:=by rw[AW];simp;omega
     simp only[e1];exact .oA [(0,some 0),(4096,some 4096),(4100,some 4100),(8236,some 8236),(1,some 1)] []
   ·refine XE.fin (⟨⟨#[112,dgt P]⟩,qX7,c0,⟨1,1,sd⟩,qs⟩,a8) ⟨zG3 hE (by omega) hc0 hcf0 (by rw[smpE,Aq];dsimp only;omega) (by omega) rfl (by omega) (fun i h=>by have:=y2 i h;rwa [show Na=qs.length by omega] at this),y3⟩ fun e ⟨_,hst⟩=>?_;exact .oA [(0,some 0)] [1]
theorem qb2 (s:Sch) (hd:DrS s) (l:List UInt8) (a:Nat) (hl:l.length≤400) (ha:a≤l.length) :
 ∃ r:Dcl×Nat,(dclE s r.1=0∧r.2≤l.length)∧Spc Tryz.prog zn [.ptr 0 1 0 0,schT s] [(0,oC l a)] (dclT r.1) [(0,oC l r.2)]:=by
 obtain⟨r,⟨⟨h1,_⟩,h2⟩,h⟩:=YP s hd l a hl ha;exact⟨r,⟨h1,h2⟩,h⟩
theorem jU6 (l:List UInt8) (a:Nat) (hl:l.length≤400) (ha:a≤l.length) :
 ∃ (k:Int) (b:Nat),0≤k∧k<1152921504606846976∧b≤l.length∧Spc Tryz.prog yD [.ptr 0 1 0 0] [(0,oC l a)] (vI k) [(0,oC l b)]:=by
 obtain⟨u,a1,u1,u2,ha1,s1⟩:=wQ l a 60000 hl ha (by omega);obtain⟨v,a2,v1,v2,ha2,s2⟩:=wQ l a1 60000 hl ha1 (by omega);obtain⟨w,a3,w1,w2,ha3,s3⟩:=wQ l a2 7 hl ha2 (by omega);have h1:0≤u*v:=Int.mul_nonneg u1 v1;have h2:u*v≤60000*60000:=Int.mul_le_mul (by omega) (by omega) v1 (by omega);refine⟨u*v+w,a3,by omega,by omega,ha3,?_⟩;have hw1:IntKind.i64.wrap (u*v)=u*v:=AK _ (by omega);have hw2:IntKind.i64.wrap (u*v+w)=u*v+w:=AK _ (by omega);refine qd qt0 mixm (by simp) fun e _ hst=>qg ?_;unfold wY;refine sW ?_;refine C1.draw 0 l a _ s1 rfl rfl rfl ?_;refine sW ?_;refine C1.draw 0 l a1 _ s2 rfl rfl rfl ?_;simp only[tZ,↓un_u,simprocAttr,hw1];refine C1.draw 0 l a2 _ s3 rfl rfl rfl ?_;simp only[tZ,↓un_u,simprocAttr,hw1,hw2];exact .oA [(0,some 0)] []
end Go.Proofs
namespace Go.Proofs
open Go Go.TL
theorem wz (s:ByteArray):Spc Tryz.prog jC [vS s] [] (vB (jt s)) []:=by
 refine qd zB7 mixm (by simp) fun e _ hst=>qg ?_;unfold qe6;refine sW ?_;refine⟨fun h=>?_,fun h=>?_,fun h=>?_,fun h=>?_⟩
 ·simp at h;omega
 ·simp at h;omega
 ·have:jt s=false:=by unfold jt ja9;rw[h];rfl
  rw[this];exact .oA [] []
 have hd:ja9 s=false:=h;have hs16:s.data.toList.length≤16:=by
  unfold ja9 at hd;simp only[FX,Ay] at hd;have:s.size=s.data.toList.length:=by rw[Array.length_toList];rfl
  omega
 refine qu mixm (α:=Nat) [26] (fun i=>i≤s.data.toList.length∧((s.data.toList.take i).any zh1=false)) (fun i=>[(26,vI i)]) (fun i=>[]) (fun i=>s.data.toList.length-i) 0 ⟨by omega,?_⟩ ?_ fun i hi=>?_
 ·rfl
 ·exact .oA [] []
 refine sD ?_;refine⟨fun h5=>?_,fun h5=>?_⟩
 ·have hi2:i<s.data.toList.length:=by omega
  have hwi:=qj (i:=i) (by omega);simp only[tZ,↓un_u,simprocAttr,Ax,qe hi2,hwi,Zg];refine⟨by omega,fun h6=>?_,fun h6=>?_⟩
  ·have hb:zh1 s.data.toList[i]=true:=h6;have:jt s=false:=by
    unfold jt;rw[show s.data.toList.any zh1=true from DJ.2 ⟨_,AX hi2,hb⟩];simp
   rw[this];exact .oA [] []
  ·have hb:zh1 s.data.toList[i]=false:=h6;refine⟨i+1,⟨by omega,ki hi2 hi.2 hb⟩,by omega,?_⟩;exact .oA [] []
 ·have h3:=hi.2;have:i=s.data.toList.length:=by omega
  rw[this,Bw] at h3;have hn:jt s=!(resW.contains s.toList):=by unfold jt;rw[hd,h3];rfl
  rw[hn];simp only[resW,List.contains_cons,List.contains_nil]
  repeat' (first | with_reducible apply Az | with_reducible intro _)
  all_goals first
   | (exfalso;simp_all;done)
   | (simp only[*,Bool.true_or,Bool.or_true,Bool.false_or,Bool.or_false,Bool.not_true,Bool.not_false];exact .imR rfl rfl)
end Go.Proofs
namespace Go.Proofs
open Go Go.TL
set_option maxHeartbeats 8000000
def depL (cs:List Cod):List Int:=(List.range cs.length).map fun i=>(dep cs i:Int)
def depO (cs:List Cod) (i:Nat):List Int:=((List.range i).map fun i=>(dep cs i:Int))++List.replicate (cs.length-i) 0
theorem qr7 (cs:List Cod):(depL cs).length=cs.length:=by simp [depL]
theorem jU7 {cs:List Cod} {i:Nat} (h:i≤cs.length):(depO cs i).length=cs.length:=by simp [depO];omega
theorem jJ6 (cs:List Cod):depO cs 0=List.replicate cs.length 0:=by simp [depO]
theorem jU8 (cs:List Cod):depO cs cs.length=depL cs:=by simp [depO,depL]
theorem jU9 {cs:List Cod} {i:Nat} (h:i<cs.length) (v:Int) (hv:v=dep cs i):(depO cs i).set i v=depO cs (i+1):=by
 unfold depO;rw[List.set_append_right _ _ (by simp),BY,List.length_range,Nat.sub_self,show cs.length-i=(cs.length-(i+1))+1 by omega,List.replicate_succ,List.set_cons_zero,List.range_succ,By,Dj,hv]
 rfl
theorem jJ7 {cs:List Cod} {i:Nat} (h:i<cs.length) (h0:dep cs i=0):depO cs i=depO cs (i+1):=by
 unfold depO;rw[show cs.length-i=(cs.length-(i+1))+1 by omega,List.replicate_succ,List.range_succ,By,Dj,List.map_cons,h0]
 rfl
theorem kg9 {cs:List Cod} {i k:Nat} (h:k<i) (hi:i≤cs.length):(depO cs i).getD k 0=dep cs k:=by
 unfold depO;rw[CY,BK (by simp;omega),DY,List.getElem?_range (by omega)]
 rfl
theorem kc0 (n:Nat):List.replicate n (T.v (Value.int IntKind.i64 0))=(List.replicate n (0:Int)).map vI:=by simp
structure ParR (cs:List Cod):Prop where
 ok:qX4 cs
 kid:∀ i,0<i→i<cs.length→0≤parC cs i
 root:parC cs 0<0∨cs.length=0
 len:cs.length≤60
theorem yo (l:CodL) (h:ParR l.codes):Spc Tryz.prog jL [cdlT l] [] (vIs (depL l.codes)) []:=by
 have hl:=h.len;refine qd zg8 mixm (by simp) fun e _ hst=>qg ?_;unfold Wl;refine sW ?_;refine⟨by omega,?_⟩;refine qu mixm (α:=Nat) [13] (fun i=>i≤l.codes.length) (fun i=>[(13,vI i)]) (fun i=>[(4096,.arr 2 [cdlT l] false),(8204,.arr 1 ((depO l.codes i).map vI) false)]) (fun i=>l.codes.length-i) 0 (by omega) ?_ fun i hi=>?_
 ·rw[jJ6];refine .of [(4096,some 4096),(8204,some 8204)] [] rfl (by first | rfl | (rw[hst];rfl)) ?_ ?_
  all_goals (try simp only[tL,simprocAttr,By,List.map_cons,List.map_nil,BW,Cy,Ax,kc0])
  all_goals (try (repeat' (first | exact zb | (apply zy;intro _;exact⟨rfl,rfl⟩) | (apply qE;intro _;exact⟨rfl,rfl⟩) | with_reducible apply qW | with_reducible refine qS ⟨rfl,rfl⟩ ?_ | exact qY | with_reducible apply qT | with_reducible refine qV ⟨rfl,rfl,?_⟩ ?_ | with_reducible apply Az | exact qU rfl | exact qU (by assumption) | (refine⟨⟨?_,rfl,?_,rfl,?_⟩,trivial⟩ <;> first | (simp;done) | (apply qE;intro _;exact⟨rfl,rfl⟩)) | trivial | rfl | (rw[qj (by omega)]) | omega)))
 have hol:=jU7 (cs:=l.codes) hi;refine sD ?_;refine⟨fun h2=>?_,fun h2=>?_⟩
 ·have hi2:i<l.codes.length:=by omega
  have hwi:=qj (i:=i) (by omega);have hp:=h.ok i hi2;have hat:cdAt l.codes i=l.codes[i]:=by rw[cdAt,qh hi2]
  have hpar:l.codes[i].par=parC l.codes i:=by rw[parC,hat]
  simp only[tZ,↓un_u,simprocAttr,Ax,qe hi2,hpar,gt_iff_lt,tD];refine⟨by omega,fun h4=>?_,fun h4=>?_⟩
  ·have hk:=h.kid i (by omega) hi2;have hdk:=qO9 h.ok hi2 hk;obtain⟨q,hq⟩:=AJ hk;have hqi:q<i:=by omega
   have hq3:q<(depO l.codes i).length:=by omega
   have hq4:(depO l.codes i)[q]=dep l.codes q:=by
    have:=kg9 (cs:=l.codes) hqi hi;rw[qh hq3] at this;exact this
   have hdl:=qS9 h.ok q (by omega);have hwd:=qj (i:=dep l.codes q) (by omega);rw[hq,Ax] at hdk;have hi3:i<(depO l.codes i).length:=by omega
   have hset:=jU9 hi2 ((dep l.codes q+1:Nat):Int) (by rw[hdk]);simp only[tZ,↓un_u,simprocAttr,hq,Ax,qe hq3,qe hi3,hq4,hwd,hwi,show ∀ a b:Int,repl (vI a) 0 (vI b)=vI b from fun _ _=>rfl];refine⟨by omega,by omega,by omega,by omega,i+1,by omega,by omega,?_⟩;rw[← List.map_set,hset];exact .oA [(4096,some 4096),(8204,some 8204)] []
  ·have hz:i=0:=by omega
   subst hz;have hr:=h.root.resolve_right (by omega);have hn:=jJ7 hi2 (qH4 hr);simp only[tZ,↓un_u,simprocAttr,hwi];refine⟨1,by omega,by omega,?_⟩;rw[← hn];exact .oA [(4096,some 4096),(8204,some 8204)] []
 ·have hil:i=l.codes.length:=by omega
  subst hil;rw[jU8,Ax];have hdl:=qr7 l.codes;exact .oA [] [8204]
def aboL (cs:List Cod) (i:Nat):List Bool:=(List.range cs.length).map fun (k:Nat)=>(cs.take i).any fun x=>x.par==(k:Int)
theorem qg6 (cs:List Cod) (i:Nat):(aboL cs i).length=cs.length:=by simp [aboL]
theorem jJ8 (cs:List Cod):aboL cs 0=List.replicate cs.length false:=by
 rw[List.eq_replicate_iff];refine⟨qg6 cs 0,fun b hb=>?_⟩;obtain⟨k,_,rfl⟩:=Cj.1 hb;simp
theorem qJ6 {cs:List Cod} {i k:Nat} (h:k<(aboL cs i).length):(aboL cs i)[k]=(cs.take i).any fun x=>x.par==(k:Int):=by simp [aboL]
theorem jJ9 {cs:List Cod} {i:Nat} (h:i<cs.length) (hp:cs[i].par<0):aboL cs (i+1)=aboL cs i:=by
 refine List.ext_getElem (by rw[qg6,qg6]) fun k h1 h2=>?_;have h3:(cs[i].par==(k:Int))=false:=Ak.2 (by omega);rw[qJ6,qJ6,qH h,FW,List.any_cons,List.any_nil,h3];simp
theorem jV0 {cs:List Cod} {i p:Nat} (h:i<cs.length) (hp:cs[i].par=p):(aboL cs i).set p true=aboL cs (i+1):=by
 refine List.ext_getElem (by rw[Fw,qg6,qg6]) fun k h1 h2=>?_;rw[Fk,qJ6,qJ6,qH h,FW,List.any_cons,List.any_nil,hp];by_cases e:p=k
 ·subst e;simp
 ·have:((p:Int)==(k:Int))=false:=Ak.2 (by omega);rw[Aq e,this];simp
theorem jV1 {cs:List Cod} {k:Nat} (h:k<(aboL cs cs.length).length):(aboL cs cs.length)[k]=!qA2 cs k:=by
 rw[qJ6,Bw,qA2,Bool.not_not]
theorem kn4 (n:Nat):List.replicate n (T.v (Value.bool false))=(List.replicate n false).map vB:=by simp
def jb7 (cs:List Cod):List (ByteArray×Bool):=cs.map fun c=>(c.name,true)
theorem zV1 {nm:ByteArray}:∀ {cs:List Cod},(TL.look TL.eqS nm (jb7 cs)).getD false=cs.any fun x=>eqB x.name nm
 | []=>rfl
 | c::cs=>by
   have h:TL.eqS nm c.name=eqB c.name nm:=by
    rw[Bool.eq_iff_iff,TL.eqS,eqB,AY,AY];exact⟨fun h=>h.symm,fun h=>h.symm⟩
   simp only[jb7,List.map_cons,TL.look,List.any_cons,h];cases eqB c.name nm with
   | true=>rfl
   | false=>rw[Aq (by simp),Bool.false_or];exact zV1
theorem jn4 {c:Cod}:∀ {cs:List Cod},(cs.any fun x=>eqB x.name c.name)=false→TL.asg TL.eqS c.name true (jb7 cs)=jb7 (cs++[c])
 | [],_=>rfl
 | x::cs,h=>by
   rw[List.any_cons,FX] at h;have h1:TL.eqS c.name x.name=eqB x.name c.name:=by
    rw[Bool.eq_iff_iff,TL.eqS,eqB,AY,AY];exact⟨fun h=>h.symm,fun h=>h.symm⟩
   simp only[jb7,List.map_cons,TL.asg,h1,h.1,BW];rw[Aq (by simp)]
   congr 1
   exact jn4 h.2
theorem kn5 {cs:List Cod} (h:cdEs cs cs.length=0) (hl:cs.length≤60):ParR cs:=by
 refine⟨kb7 h,fun i h0 hi=>(zD7 (qH5 h i hi)).2.2.2 h0,?_,hl⟩;rcases DQ cs.length with h0 | h0
 ·exact .inr h0
 ·have:=(zD7 (qH5 h 0 h0)).2.2.1 rfl;exact .inl (by omega)
theorem qJ7 {l:CodL} (h:lstE l=0):ParR l.codes:=by
 obtain⟨_,_,h3⟩:=zg h;refine kn5 ?_ h3;unfold lstE at h;split at h
 ·cases h
 ·split at h
  ·cases h
  ·split at h
   ·cases h
   ·split at h
    ·rename_i h2;exact absurd h h2
    ·rename_i h4;exact AQ h4
theorem Ks (l:CodL):Spc Tryz.prog wH [cdlT l] [] (vI (lstE l)) []:=by
 refine qd zq6 mixm (by simp) fun e _ hst=>qg ?_;unfold Yz;refine sW ?_;refine C1.im (wz l.name) (by rfl) (by rfl) ?_;simp only[tZ,↓un_u,simprocAttr,Bx,Bz];refine⟨fun h=>?_,fun h1=>?_⟩
 ·rw[lstE,Aj h];exact .oA [] []
 simp only[tZ,↓un_u,simprocAttr,AY,Ak];refine⟨fun h=>?_,fun h2=>?_⟩
 ·rw[lstE,Aq (by rw[h1];simp),Aj (by omega)];exact .oA [] []
 refine sD ?_;refine⟨fun h=>?_,fun h3=>?_⟩
 ·rw[lstE,Aq (by rw[h1];simp),Aq (by omega),Aj (by omega)];exact .oA [] []
 have hE1:cdEs l.codes l.codes.length≠0→lstE l=cdEs l.codes l.codes.length:=fun h=>by
  rw[lstE,Aq (by rw[h1];simp),Aq (by omega),Aq (by omega),Aj h]
 have hE2:cdEs l.codes l.codes.length=0→lvs l.codes l.codes.length=none→lstE l=5:=fun h k=>by
  rw[lstE,Aq (by rw[h1];simp),Aq (by omega),Aq (by omega),Aq (by rw[h];simp),k]
 have hE3:∀ v,cdEs l.codes l.codes.length=0→lvs l.codes l.codes.length=some v→lstE l=0:=fun v h k=>by
  rw[lstE,Aq (by rw[h1];simp),Aq (by omega),Aq (by omega),Aq (by rw[h];simp),k]
 refine⟨by omega,by kernel_rfl,?_⟩;refine qu mixm (α:=Nat) [33] (fun i=>i≤l.codes.length∧cdEs l.codes i=0) (fun i=>[(33,vI i)]) (fun i=>[(4096,.arr 2 [cdlT l] false),(32768,.mp (.sb (jb7 (l.codes.take i)))),(32784,.arr 1 ((aboL l.codes i).map vB) false)]) (fun i=>l.codes.length-i) 0 ⟨by omega,rfl⟩ ?_ fun i hi=>?_
 ·simp only[List.take_zero,jb7,List.map_nil,jJ8];refine .of [(4096,some 4096),(32768,some 32768),(32784,some 32784)] [] rfl (by first | rfl | (rw[hst];rfl)) ?_ ?_
  all_goals (try simp only[tL,simprocAttr,By,List.map_cons,List.map_nil,BW,Cy,Ax,kn4])
  all_goals (try (repeat' (first | exact zb | (apply zy;intro _;exact⟨rfl,rfl⟩) | (apply qE;intro _;exact⟨rfl,rfl⟩) | with_reducible apply qW | with_reducible refine qS ⟨rfl,rfl⟩ ?_ | exact qY | with_reducible apply qT | with_reducible refine qV ⟨rfl,rfl,?_⟩ ?_ | with_reducible apply Az | exact qU rfl | exact qU (by assumption) | (refine⟨⟨?_,rfl,?_,rfl,?_⟩,trivial⟩ <;> first | (simp;done) | (apply qE;intro _;exact⟨rfl,rfl⟩)) | trivial | rfl | (rw[qj (by omega)]) | omega)))
 obtain⟨i1,i2⟩:=hi;have hbl:=qg6 l.codes i;refine sD ?_;refine⟨fun h4=>?_,fun h4=>?_⟩
 ·have hi2:i<l.codes.length:=by omega
  have hwi:=qj (i:=i) (by omega);have hat:cdAt l.codes i=l.codes[i]:=by rw[cdAt,qh hi2]
  have hs:cdEs l.codes (i+1)=cdE l.codes i:=by rw[cdEs,Aq (by rw[i2];simp)]
  have hbad:cdE l.codes i≠0→lstE l=cdE l.codes i:=fun hb=>by
   have:=zw4 (by rw[hs];exact hb) l.codes.length (show i+1≤l.codes.length by omega);rw[hE1 (by rw[this,hs];exact hb),this,hs]
  simp only[tZ,↓un_u,simprocAttr,Ax,qe hi2];refine⟨by omega,?_⟩;refine C1.im (wz l.codes[i].name) (by rfl) (by rfl) ?_;simp only[tZ,↓un_u,simprocAttr,Bx,Bz,zV1];refine⟨fun h5=>?_,fun h5=>?_⟩
  ·have hc:cdE l.codes i=3:=by rw[cdE,hat,Aj h5]
   rw[hbad (by rw[hc];decide),hc];exact .oA [] []
  refine⟨fun h6=>?_,fun h6=>?_⟩
  ·have hc:cdE l.codes i=10:=by rw[cdE,hat,Aq (by rw[h5];simp),Aj h6]
   rw[hbad (by rw[hc];decide),hc];exact .oA [] []
  have hpar:l.codes[i].par=parC l.codes i:=by rw[parC,hat]
  have hcE:cdE l.codes i=if (i=0∧parC l.codes i≠-1)∨(0<i∧(parC l.codes i<0∨parC l.codes i≥i)) then 6 else 0:=by
   rw[cdE,hat,Aq (by rw[h5];simp),Aq (by rw[h6];simp)]
  have hasg:=jn4 (c:=l.codes[i]) (cs:=l.codes.take i) h6;rw[← qH hi2] at hasg;simp only[tZ,↓un_u,simprocAttr,hasg,hpar,tD,AY,Ak,Bj,Aw];refine⟨fun h7=>?_,fun h7=>?_⟩
  ·have hc:cdE l.codes i=6:=by rw[hcE,Aj (by omega)]
   rw[hbad (by rw[hc];decide),hc];exact .oA [] []
  have hc0:cdEs l.codes (i+1)=0:=by rw[hs,hcE,Aq (by omega)]
  refine⟨fun h8=>?_,fun h8=>?_⟩
  ·obtain⟨q,hq⟩:=AJ (show 0≤parC l.codes i by omega);have hq3:q<(aboL l.codes i).length:=by omega
   have hset:=jV0 (p:=q) hi2 (by rw[hpar,hq]);simp only[hq,Ax,qe hq3,show ∀ a b:Bool,repl (vB a) 0 (vB b)=vB b from fun _ _=>rfl,hwi];refine⟨⟨by omega,by omega,by omega⟩,⟨by omega,by omega,rfl⟩,i+1,⟨by omega,hc0⟩,by omega,?_⟩;rw[← List.map_set,hset];exact .oA [(4096,some 4096),(32768,some 32768),(32784,some 32784)] []
  ·have hsk:=jJ9 hi2 (by omega);simp only[hwi];refine⟨i+1,⟨by omega,hc0⟩,by omega,?_⟩;rw[hsk];exact .oA [(4096,some 4096),(32768,some 32768),(32784,some 32784)] []
 ·have hil:i=l.codes.length:=by omega
  subst hil;have hP:=kn5 i2 (by omega);have hdl:=qr7 l.codes;refine C1.im (yo l hP) (by rfl) (by rfl) ?_;refine sW ?_;have hbl:=qg6 l.codes l.codes.length;refine qu mixm (α:=Nat×Int) [7,84] (fun x=>x.1≤l.codes.length∧lvs l.codes x.1=some x.2) (fun x=>[(7,vI x.2),(84,vI x.1)]) (fun x=>[(32784,.arr 1 ((aboL l.codes l.codes.length).map vB) false)]) (fun x=>l.codes.length-x.1) (0,-1) ⟨by simp,rfl⟩ ?_ fun x hx=>?_
  ·rw[Ax];exact .oA [(32784,some 32784)] []
  obtain⟨j,v⟩:=x;obtain⟨j1,j2⟩:=hx;dsimp only at j1 j2;refine sD ?_;refine⟨fun h5=>?_,fun h5=>?_⟩
  ·have hj2:j<l.codes.length:=by omega
   have hwj:=qj (i:=j) (by omega);have hs:=qZ4 l.codes j;rw[j2,lvS] at hs;have hj3:j<(depL l.codes).length:=by omega
   have hj4:j<(aboL l.codes l.codes.length).length:=by omega
   have hd1:(depL l.codes)[j]=dep l.codes j:=by simp [depL]
   have ha1:=jV1 hj4;simp only[tZ,↓un_u,simprocAttr,Ax,qe hj3,qe hj4,hd1,ha1,hwj,Bx,Bz,tD,Bj,Aw];refine⟨by omega,by omega,by omega,fun h6=>?_,fun h6=>?_⟩
   ·rw[Aq (by rw[h6];simp)] at hs;refine⟨(j+1,v),⟨by dsimp only;omega,hs⟩,by dsimp only;omega,?_⟩;exact .oA [(32784,some 32784)] []
   ·rw[Aj h6] at hs;refine⟨fun h7=>?_,fun h7=>?_⟩
    ·rw[Aj (by omega)] at hs;rw[hE2 i2 (jl9 hs _ (by omega))];exact .oA [] []
    ·rw[Aq (by omega)] at hs;refine⟨(j+1,(dep l.codes j:Int)),⟨by dsimp only;omega,hs⟩,by dsimp only;omega,?_⟩;exact .oA [(32784,some 32784)] []
  ·have hjl:j=l.codes.length:=by omega
   subst hjl;rw[hE3 v i2 j2];exact .oA [] []
end Go.Proofs
namespace Go.Proofs
open Go Go.TL
set_option maxRecDepth 4000
set_option maxHeartbeats 8000000
theorem Wt (p:CodL→Bool) (f:FuncId) (caps:List T) (hcap:imL caps=true) (l:List CodL) (hf:∀ y∈l,Spc Tryz.prog f (cdlT y::caps) [] (vB (p y)) []) (hl:l.length<4611686018427387904) :
 Spc Tryz.prog jk [.sl 2 (l.map cdlT),.clo f caps] [] (vI (idxI p l)) []:=by
 refine qd Kp mixm (by simp) fun e _ hst=>qg ?_;unfold zY;refine sW ?_;refine qu mixm (α:=Nat) [8] (fun i=>i≤l.length∧((l.take i).any p=false)) (fun i=>[(8,vI i)]) (fun i=>[]) (fun i=>l.length-i) 0 ⟨by omega,?_⟩ ?_ fun i hi=>?_
 ·simp
 ·exact .oA [] []
 simp only[tZ,↓un_u,simprocAttr,AZ,Ay];refine⟨fun h=>?_,fun h=>?_⟩
 ·have hi2:i<l.length:=by omega
  have hwi:=qj (i:=i) (by omega);simp only[tZ,↓un_u,simprocAttr,Ax,qe hi2,hwi,qw9];refine⟨by omega,?_⟩;refine C1.im (hf l[i] (AX hi2)) (YW rfl hcap) rfl ?_;refine sW ?_;refine⟨fun h3=>?_,fun h3=>⟨i+1,⟨by omega,ki hi2 hi.2 h3⟩,by omega,?_⟩⟩
  ·rw[idxI,Aj (zw2 hi2 h3),yX hi2 hi.2 h3];exact .imR rfl rfl
  ·exact .oA [] []
 ·have h2:i=l.length:=by omega
  have h3:=hi.2;rw[h2,Bw] at h3;rw[idxI,Aq (by rw[h3];simp)];exact .imR rfl rfl
theorem Jj (p:CodL→Bool) (f:FuncId) (caps:List T) (hcap:imL caps=true) (l:List CodL) (hf:∀ y∈l,Spc Tryz.prog f (cdlT y::caps) [] (vB (p y)) []) (hl:l.length<4611686018427387904) :
 Spc Tryz.prog zK [.sl 2 (l.map cdlT),.clo f caps] [] (vB (l.any p)) []:=by
 refine qd ZI mixm (by simp) fun e _ hst=>qg ?_;unfold zC;refine sW ?_;refine C1.im (Wt p f caps hcap l hf hl) (ZU rfl hcap) rfl ?_;refine sW ?_;rw[show decide (idxI p l≥0)=l.any p from zd4 p l];exact .imR rfl rfl
theorem YQ (p:Col→Bool) (f:FuncId) (caps:List T) (hcap:imL caps=true) (l:List Col) (hf:∀ y∈l,Spc Tryz.prog f (colT y::caps) [] (vB (p y)) []) (hl:l.length<4611686018427387904) :
 Spc Tryz.prog jM [.sl 7 (l.map colT),.clo f caps] [] (vI (idxI p l)) []:=by
 refine qd WG mixm (by simp) fun e _ hst=>qg ?_;unfold jw;refine sW ?_;refine qu mixm (α:=Nat) [8] (fun i=>i≤l.length∧((l.take i).any p=false)) (fun i=>[(8,vI i)]) (fun i=>[]) (fun i=>l.length-i) 0 ⟨by omega,?_⟩ ?_ fun i hi=>?_
 ·simp
 ·exact .oA [] []
 simp only[tZ,↓un_u,simprocAttr,AZ,Ay];refine⟨fun h=>?_,fun h=>?_⟩
 ·have hi2:i<l.length:=by omega
  have hwi:=qj (i:=i) (by omega);simp only[tZ,↓un_u,simprocAttr,Ax,qe hi2,hwi,qw9];refine⟨by omega,?_⟩;refine C1.im (hf l[i] (AX hi2)) (YW rfl hcap) rfl ?_;refine sW ?_;refine⟨fun h3=>?_,fun h3=>⟨i+1,⟨by omega,ki hi2 hi.2 h3⟩,by omega,?_⟩⟩
  ·rw[idxI,Aj (zw2 hi2 h3),yX hi2 hi.2 h3];exact .imR rfl rfl
  ·exact .oA [] []
 ·have h2:i=l.length:=by omega
  have h3:=hi.2;rw[h2,Bw] at h3;rw[idxI,Aq (by rw[h3];simp)];exact .imR rfl rfl
theorem Kt (p:Col→Bool) (f:FuncId) (caps:List T) (hcap:imL caps=true) (l:List Col) (hf:∀ y∈l,Spc Tryz.prog f (colT y::caps) [] (vB (p y)) []) (hl:l.length<4611686018427387904) :
 Spc Tryz.prog zW [.sl 7 (l.map colT),.clo f caps] [] (vB (l.any p)) []:=by
 refine qd JP mixm (by simp) fun e _ hst=>qg ?_;unfold zP;refine sW ?_;refine C1.im (YQ p f caps hcap l hf hl) (ZU rfl hcap) rfl ?_;refine sW ?_;rw[show decide (idxI p l≥0)=l.any p from zd4 p l];exact .imR rfl rfl
theorem qX8 (x y:CodL):Spc Tryz.prog yv [cdlT x,.ip (cdlT y).cells] [] (vB (eqB x.name y.name)) []:=by
 refine qd qO0 mixm (by simp) fun e _ hst=>qg ?_;unfold ZJ;refine sW ?_;rw[show (x.name.toList==y.name.toList)=eqB x.name y.name from rfl];exact .oA [] []
theorem qj3 (x y:Col):Spc Tryz.prog js [colT x,.ip (colT y).cells] [] (vB (eqB x.name y.name)) []:=by
 refine qd qg1 mixm (by simp) fun e _ hst=>qg ?_;unfold kE;refine sW ?_;rw[show (x.name.toList==y.name.toList)=eqB x.name y.name from rfl];exact .oA [] []
def unuB (c:Col):Bool:=!(((c.kind != 2)&&(c.list != 0))||((c.kind != 3)&&((c.low != 0)||(c.high != 0)||(c.widths.length != 0)||c.opt)))
theorem Wu (c:Col):Spc Tryz.prog KO [colT c] [] (vB (unuB c)) []:=by
 refine qd qW9 mixm (by simp) fun e _ hst=>qg ?_;unfold JQ;refine sW ?_;refine⟨fun h=>?_,fun h=>?_⟩
 ·have:unuB c=false:=by unfold unuB;rw[h];rfl
  rw[this];exact .oA [] []
 ·have e:((c.widths.length:Int)==0)=(c.widths.length==0):=by rw[Bool.eq_iff_iff,AY,AY];omega
  have:unuB c=(c.kind==3||c.low==0&&c.high==0&&((c.widths.length:Int)==0)&&!c.opt):=by
   unfold unuB;rw[h,e];simp only[Bool.false_or,bne,Bool.not_and,Bool.not_or,Bool.not_not]
  rw[this];exact .oA [] []
def zV2 (ws:List Int) (i:Nat):Int:=if i=0 then 1 else ws.getD (i-1) 0
theorem qp7 (c:Col):Spc Tryz.prog wj [colT c] [] (vI (measE c)) []:=by
 refine qd qi7 mixm (by simp) fun e _ hst=>qg ?_;unfold kT;refine sW ?_;simp only[tZ,↓un_u,simprocAttr,tD,Bx,Bz,AY,Ak];have hin:∀ n:Int,inB n (-1000000) 1000000=false↔(n < -1000000∨n>1000000):=fun n=>by
  unfold inB;rw[FJ,Ay,Ay];omega
 refine⟨fun h=>?_,fun h=>?_⟩
 ·have k:inB c.low (-1000000) 1000000=false∨inB c.high (-1000000) 1000000=false∨c.low>c.high:=by
   rw[hin,hin];omega
  rw[measE,Aj k];exact .oA [] []
 have hA:¬ (inB c.low (-1000000) 1000000=false∨inB c.high (-1000000) 1000000=false∨c.low>c.high):=by
  rw[hin,hin];omega
 refine⟨fun h2=>?_,fun h2=>?_⟩
 ·rw[measE,Aq hA,Aj (by omega)];exact .oA [] []
 have hm:measE c=if jT0 c.widths=false then 2 else 0:=by rw[measE,Aq hA,Aq (by omega)]
 refine qu mixm (α:=Nat) [3,36] (fun i=>i≤c.widths.length∧(∀ j,j<i→wdOk c.widths j=true)) (fun i=>[(3,vI (zV2 c.widths i)),(36,vI i)]) (fun i=>[]) (fun i=>c.widths.length-i) 0 ⟨by omega,?_⟩ ?_ fun i hi=>?_
 ·intro j hj;omega
 ·exact .oA [] []
 have hbad:i<c.widths.length→wdOk c.widths i=false→measE c=2:=fun h1 h2=>by
  rw[hm,Aj];exact List.all_eq_false.2 ⟨i,Dk.2 h1,by rw[h2];simp⟩
 have hok:wdOk c.widths i=true→∀ j,j<i+1→wdOk c.widths j=true:=fun h1 j hj=>by
  by_cases e:j=i
  ·rw[e];exact h1
  ·exact hi.2 j (by omega)
 simp only[tZ,↓un_u,simprocAttr,AZ,Ay];refine⟨fun h=>?_,fun h=>?_⟩
 ·have hi2:i<c.widths.length:=by omega
  have hwi:=qj (i:=i) (by omega);have hnx:zV2 c.widths (i+1)=c.widths[i]:=by rw[zV2,Aq (by omega),Nat.add_sub_cancel,qh hi2]
  rcases DQ i with h0 | h0
  ·subst h0;have hw0:wdOk c.widths 0=(c.widths[0]==1):=by rw[wdOk,Aj rfl,qh hi2]
   have hz:((0:Nat):Int)=0:=rfl;rw[hz] at hwi;simp only[tZ,↓un_u,simprocAttr,Ax,hz,beq_self_eq_true,gt_iff_lt,Int.lt_irrefl,decide_false,Bool.false_and,Bool.or_false,Fq,qe hi2,Bj,Aw];have hwz:IntKind.i64.wrap 1=((1:Nat):Int):=by decide
   refine⟨by omega,fun h3=>?_,fun h3=>?_⟩
   ·rw[hbad hi2 (by rw[hw0];simpa using h3)];exact .oA [] []
   ·rw[hwz];refine⟨1,⟨by omega,hok (by rw[hw0];simpa using h3)⟩,by omega,?_⟩;rw[hnx];exact .oA [] []
  ·have e1:((i:Int)==0)=false:=Ak.2 (by omega);have e2:decide ((i:Int)>0)=true:=Cx (by omega);have hw1:wdOk c.widths i=(decide (zV2 c.widths i<c.widths[i])&&decide (c.widths[i]≤1000000)&&(c.widths[i].tmod (zV2 c.widths i)==0)):=by
    rw[wdOk,Aq (by omega),qh hi2,zV2,Aq (by omega)]
   have hp1:1≤zV2 c.widths i:=by
    have:=zS5 (ws:=c.widths) hi.2 (i-1) (by omega);rw[zV2,Aq (by omega)];exact this
   simp only[tZ,↓un_u,simprocAttr,Ax,qe hi2,e1,e2,hwi,tD,Bj,Aw];refine⟨by omega,fun _=>by omega,fun h3=>?_,fun h3=>?_⟩
   ·rw[hbad hi2 (by rw[hw1];grind)];exact .oA [] []
   ·refine⟨i+1,⟨by omega,hok (by rw[hw1];grind)⟩,by omega,?_⟩;rw[hnx];exact .oA [] []
 ·have hi2:i=c.widths.length:=by omega
  subst hi2;rw[hm,Aq]
  ·exact .oA [] []
  ·rw[Ez];exact Bk.2 fun j hj=>hi.2 j (Dk.1 hj)
theorem qu7 (s:Sch) (i:Nat) (hi:i<s.cols.length) (hn:s.cols.length<4611686018427387904) (hl:s.lists.length<4611686018427387904):Spc Tryz.prog wS [schT s,vI i] [] (vI (colE s i)) []:=by
 have hat:qk s i=s.cols[i]:=by rw[qk,qh hi]
 have hE:colE s i=if jt s.cols[i].name=false then 3
  else if ((s.cols.take i).any fun x=>eqB x.name s.cols[i].name)=true then 10
  else if inB s.cols[i].kind 1 3=false∨(0<i∧s.cols[i].kind=1) then 4
  else if s.cols[i].kind=2∧inB s.cols[i].list 0 (s.lists.length-1)=false then 5
  else if s.cols[i].kind=3∧measE s.cols[i]≠0 then measE s.cols[i]
  else if (s.cols[i].kind≠2∧s.cols[i].list≠0)∨(s.cols[i].kind≠3∧(s.cols[i].low≠0∨s.cols[i].high≠0∨0<s.cols[i].widths.length∨s.cols[i].opt=true)) then 11 else 0:=by rw[colE,hat]
 rw[hE];refine qd qn4 mixm (by simp) fun e _ hst=>qg ?_;unfold wu;simp only[tZ,↓un_u,simprocAttr,Ax,qe hi];generalize s.cols[i]=c;refine⟨by omega,?_⟩;refine C1.im (wz c.name) (by rfl) (by rfl) ?_;simp only[tZ,↓un_u,simprocAttr,Bx,Bz];refine⟨fun h=>?_,fun h=>?_⟩
 ·rw[Aj h];exact .oA [] []
 rw[Aq (by rw[h];simp)];have hCF:=Kt (fun x=>eqB x.name c.name) js [.ip (colT c).cells] rfl (s.cols.take i) (fun x _=>qj3 x c) (by rw[Cz];omega);refine⟨by omega,?_⟩;rw[qk6,zd3];refine C1.lend [8212] hCF ?_ (by rfl) (by rfl) ?_
 ·all_goals (try simp only[tL,simprocAttr,By,List.map_cons,List.map_nil,BW,Cy])
  all_goals (try (repeat' (first | exact zb | (apply zy;intro _;exact⟨rfl,rfl⟩) | (apply qE;intro _;exact⟨rfl,rfl⟩) | with_reducible apply qW | with_reducible refine qS ⟨rfl,rfl⟩ ?_ | exact qY | with_reducible apply qT | with_reducible refine qV ⟨rfl,rfl,?_⟩ ?_ | with_reducible apply Az | exact qU rfl | exact qU (by assumption) | (refine⟨⟨?_,rfl,?_,rfl,?_⟩,trivial⟩ <;> first | (simp;done) | (apply qE;intro _;exact⟨rfl,rfl⟩)) | trivial | rfl | (rw[qj (by omega)]) | omega)))
  simp only[ltP];exact⟨rfl,by decide,rfl,qS ⟨rfl,rfl⟩ qY⟩
 simp only[tZ,↓un_u,simprocAttr,tD,Bx,Bz,AY,Ak];refine⟨fun h2=>?_,fun h2=>?_⟩
 ·rw[Aj h2];exact .oA [] []
 rw[Aq (by rw[h2];simp)];have hI:inB c.kind 1 3=false↔¬ (1≤c.kind∧c.kind≤3):=by unfold inB;rw[FJ,Ay,Ay];omega
 have hL:inB c.list 0 (s.lists.length-1)=false↔(c.list<0∨(s.lists.length:Int)≤c.list):=by unfold inB;rw[FJ,Ay,Ay];omega
 have hU:unuB c=false↔((c.kind≠2∧c.list≠0)∨(c.kind≠3∧(c.low≠0∨c.high≠0∨0<c.widths.length∨c.opt=true))):=by
  have hw0:c.widths.length≠0↔0<c.widths.length:=by omega
  unfold unuB;rw[Bz,DZ,Bq,Bq,Bj,Bj,Bj,DZ,DZ,DZ,Bj,Bj,Bj,hw0,or_assoc,or_assoc]
 have hfin:∀ (v:Int),(unuB c=false→v=11)→(unuB c=true→v=0)→v=if (c.kind≠2∧c.list≠0)∨(c.kind≠3∧(c.low≠0∨c.high≠0∨0<c.widths.length∨c.opt=true)) then 11 else 0:=fun v h11 h00=>by
  by_cases k:unuB c=false
  ·rw[Aj (hU.1 k),h11 k]
  ·rw[Aq (fun e=>k (hU.2 e)),h00 (by simpa using k)]
 refine⟨fun k1=>⟨fun h3=>?_,fun h3=>?_⟩,fun k1=>⟨fun k2=>⟨fun h3=>?_,fun h3=>?_⟩,fun k2=>⟨fun k3=>?_,fun k3=>?_⟩⟩⟩
 ·rw[Aj (.inr ⟨by omega,k1⟩)];exact .oA [] []
 ·rw[Aq (by rw[hI];omega),Aq (by omega),Aq (by omega)];refine C1.im (Wu c) (by rfl) (by rfl) ?_;simp only[tZ,↓un_u,simprocAttr,Bx,Bz];refine⟨fun h4=>?_,fun h4=>?_⟩
  ·rw[← hfin 11 (fun _=>rfl) (fun k=>by rw[h4] at k;cases k)];exact .oA [] []
  ·rw[← hfin 0 (fun k=>by rw[h4] at k;cases k) (fun _=>rfl)];exact .oA [] []
 ·rw[Aq (by rw[hI];omega),Aj ⟨k2,hL.2 h3⟩];exact .oA [] []
 ·rw[Aq (by rw[hI];omega),Aq (by rw[hL];omega),Aq (by omega)];refine C1.im (Wu c) (by rfl) (by rfl) ?_;simp only[tZ,↓un_u,simprocAttr,Bx,Bz];refine⟨fun h4=>?_,fun h4=>?_⟩
  ·rw[← hfin 11 (fun _=>rfl) (fun k=>by rw[h4] at k;cases k)];exact .oA [] []
  ·rw[← hfin 0 (fun k=>by rw[h4] at k;cases k) (fun _=>rfl)];exact .oA [] []
 ·rw[Aq (by rw[hI];omega),Aq (by omega)];refine C1.im (qp7 c) (by rfl) (by rfl) ?_;simp only[tZ,↓un_u,simprocAttr,Bj,Aw];refine⟨fun h3=>?_,fun h3=>?_⟩
  ·rw[Aj ⟨k3,h3⟩];exact .oA [] []
  rw[Aq (by omega)];refine C1.im (Wu c) (by rfl) (by rfl) ?_;simp only[tZ,↓un_u,simprocAttr,Bx,Bz];refine⟨fun h4=>?_,fun h4=>?_⟩
  ·rw[← hfin 11 (fun _=>rfl) (fun k=>by rw[h4] at k;cases k)];exact .oA [] []
  ·rw[← hfin 0 (fun k=>by rw[h4] at k;cases k) (fun _=>rfl)];exact .oA [] []
 ·rw[Aj (.inl (hI.2 (by omega)))];exact .oA [] []
theorem jd (s:Sch) (hn:s.cols.length<4611686018427387904) (hl:s.lists.length<4611686018427387904):Spc Tryz.prog zr [schT s] [] (vI (schE s)) []:=by
 refine qd ze9 mixm (by simp) fun e _ hst=>qg ?_;unfold KW;refine sD ?_;refine⟨fun h=>?_,fun h=>?_⟩
 ·rw[schE,Aj (by omega)];exact .oA [] []
 have hE1:Qe s s.lists.length≠0→schE s=Qe s s.lists.length:=fun k=>by rw[schE,Aq (by omega),Aj k]
 refine qu mixm (α:=Nat) [21] (fun i=>i≤s.lists.length∧Qe s i=0) (fun i=>[(21,vI i)]) (fun i=>[(4096,.arr 2 [schT s] false)]) (fun i=>s.lists.length-i) 0 ⟨by omega,rfl⟩ ?_ fun i hi=>?_
 ·exact .oA [(4096,some 4096)] []
 obtain⟨i1,i2⟩:=hi;refine sD ?_;refine⟨fun h2=>?_,fun h2=>?_⟩
 ·have hi2:i<s.lists.length:=by omega
  have hwi:=qj (i:=i) (by omega);have hat:s.lists.getD i default=s.lists[i]:=qh hi2;have hstep:Qe s (i+1)=if lstE s.lists[i]≠0 then lstE s.lists[i] else if ((s.lists.take i).any fun x=>eqB x.name s.lists[i].name)=true then 10 else 0:=by
   rw[Qe,Aq (by rw[i2];simp),hat]
  have hbad:Qe s (i+1)≠0→schE s=Qe s (i+1):=fun k=>by
   have:=zh4 k s.lists.length (by omega);rw[hE1 (by rw[this];exact k),this]
  have hCF:=Jj (fun x=>eqB x.name s.lists[i].name) yv [.ip (cdlT s.lists[i]).cells] rfl (s.lists.take i) (fun x _=>qX8 x s.lists[i]) (by rw[Cz];omega);simp only[tZ,↓un_u,simprocAttr,Ax,qe hi2,hwi];generalize s.lists[i]=c at *
  refine⟨by omega,?_⟩;refine C1.im (Ks c) (by rfl) (by rfl) ?_;simp only[tZ,↓un_u,simprocAttr,Bj,Aw];refine⟨fun h3=>?_,fun h3=>?_⟩
  ·rw[Aj h3] at hstep;rw[hbad (by rw[hstep];exact h3),hstep];exact .oA [] []
  rw[Aq (by rw[h3];simp)] at hstep;refine⟨by omega,?_⟩;rw[qk6,zd3];refine C1.lend [24588] hCF ?_ (by rfl) (by rfl) ?_
  ·all_goals (try simp only[tL,simprocAttr,By,List.map_cons,List.map_nil,BW,Cy])
   all_goals (try (repeat' (first | exact zb | (apply zy;intro _;exact⟨rfl,rfl⟩) | (apply qE;intro _;exact⟨rfl,rfl⟩) | with_reducible apply qW | with_reducible refine qS ⟨rfl,rfl⟩ ?_ | exact qY | with_reducible apply qT | with_reducible refine qV ⟨rfl,rfl,?_⟩ ?_ | with_reducible apply Az | exact qU rfl | exact qU (by assumption) | (refine⟨⟨?_,rfl,?_,rfl,?_⟩,trivial⟩ <;> first | (simp;done) | (apply qE;intro _;exact⟨rfl,rfl⟩)) | trivial | rfl | (rw[qj (by omega)]) | omega)))
   simp only[ltP];exact⟨rfl,by decide,rfl,qS ⟨rfl,rfl⟩ qY⟩
  simp only[tZ,↓un_u,simprocAttr,hwi];refine⟨fun h4=>?_,fun h4=>?_⟩
  ·rw[Aj h4] at hstep;rw[hbad (by rw[hstep];simp),hstep];exact .oA [] []
  ·rw[Aq (by rw[h4];simp)] at hstep;refine⟨i+1,⟨by omega,hstep⟩,by omega,?_⟩;exact .oA [(4096,some 4096)] []
 ·have hil:i=s.lists.length:=by omega
  subst hil;have hE2:s.cols.length=0∨(qk s 0).kind≠1→schE s=7:=fun k=>by rw[schE,Aq (by omega),Aq (by rw[i2];simp),Aj k]
  have hE3:¬ (s.cols.length=0∨(qk s 0).kind≠1)→schE s=qa5 s s.cols.length:=fun k=>by rw[schE,Aq (by omega),Aq (by rw[i2];simp),Aq k]
  have hz:((0:Nat):Int)=0:=rfl;by_cases h0:s.cols.length=0
  ·have hn:s.cols=[]:=Dy.1 h0;rw[hE2 (.inl h0)];simp only[tZ,↓un_u,simprocAttr,hn,Cw,hz,beq_self_eq_true];exact .oA [] []
  ·have h0p:0<s.cols.length:=by omega
   have e0:((s.cols.length:Int)==0)=false:=Ak.2 (by omega);have hc0:qk s 0=s.cols[0]:=by rw[qk,qh h0p]
   simp only[tZ,↓un_u,simprocAttr,e0,qe h0p,Bj,Aw,Bool.false_or];refine⟨by omega,fun h3=>?_,fun h3=>?_⟩
   ·rw[hE2 (.inr (by rw[hc0];exact h3))];exact .oA [] []
   have hE4:=hE3 (by rw[hc0];grind);refine qu mixm (α:=Nat) [53] (fun i=>i≤s.cols.length∧qa5 s i=0) (fun i=>[(53,vI i)]) (fun i=>[(4096,.arr 2 [schT s] false)]) (fun i=>s.cols.length-i) 0 ⟨by omega,rfl⟩ ?_ fun i hi=>?_
   ·exact .oA [(4096,some 4096)] []
   simp only[tZ,↓un_u,simprocAttr,AZ,Ay];refine⟨fun h=>?_,fun h=>?_⟩
   ·have hi2:i<s.cols.length:=by omega
    have hwi:=qj (i:=i) (by omega);have hstep:qa5 s (i+1)=colE s i:=by rw[qa5,Aq (by rw[hi.2];simp)]
    refine C1.im (qu7 s i hi2 hn hl) (by rfl) (by rfl) ?_;simp only[tZ,↓un_u,simprocAttr,Bj,Aw,hwi];refine⟨fun h4=>?_,fun h4=>?_⟩
    ·have:=zh5 (s:=s) (i:=i+1) (by rw[hstep];exact h4) s.cols.length (by omega);rw[hE4,this,hstep];exact .oA [] []
    ·refine⟨i+1,⟨by omega,by rw[hstep];exact h4⟩,by omega,?_⟩;exact .oA [(4096,some 4096)] []
   ·have hil:i=s.cols.length:=by omega
    rw[hE4,← hil,hi.2];exact .oA [] []
end Go.Proofs
