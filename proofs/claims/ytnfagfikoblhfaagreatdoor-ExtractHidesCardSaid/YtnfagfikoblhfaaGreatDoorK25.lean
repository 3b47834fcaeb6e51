/- A part of the proof: trees of Go values, short forms, contracts. -/
import Derived.WalkKit
import Derived.Still
import Derived.MapKept
import GoSem.Builtin.Cap
import Derived.Laws.Externs
import GoSem.Extern.SlicesOverlaps
import Derived.Carry
import Derived.ProofKit
import Derived.OpenShut
import Derived.HandedShaped
import Derived.Lay
import Derived.LaidLaws
import Derived.MakeChecks
import Derived.SevenTiedAt
import Derived.Test.YtnfagfikoblhfaaGreatDoorChecked
import Derived.Test.YtnfagfikoblhfaaGreatDoorK24
set_option linter.unusedSimpArgs false
set_option linter.unusedVariables false
namespace Go.Proofs
open Go Go.TL
set_option maxRecDepth 4000
set_option maxHeartbeats 8000000
open So
def nrwP (ks:List Int) (r:List Int):Bool:=decide (0<r.length)&&ks.contains (hd r)
theorem qY7 (x:Ext) (ks:List Int) (hk:ks.length<4611686018427387904) (hp:x.picks.length*16≤140737488355328) (hrl:x.rows.length≤1000000) (hr:∀ r∈x.rows,r.length*8≤140737488355328):Spc Tryz.prog Jp [extT x,vIs ks] [] (extT (nrwX x ks)) []:=by
 rw[show nrwX x ks=⟨x.proj,x.ver,x.picks,x.rows.filter (nrwP ks)⟩ from rfl];refine qd qM8 mixm (by simp) fun e _ hst=>qg ?_;unfold Zz;refine sW ?_;refine C1.im (Wv x.picks hp) (by rfl) (by rfl) ?_;refine sW ?_;refine⟨by kernel_rfl,?_⟩;refine qu mixm (α:=Nat) [19] (fun i=>i≤x.rows.length) (fun i=>[(19,vI i)]) (fun i=>[(4100,.arr 4 [extT ext0] false),(8224,.arr 4 [.agg [vS x.proj,vI x.ver,vPs x.picks,.asl 1 ((x.rows.take i).filter (nrwP ks)).length]] false),(1,.arr 1 (((x.rows.take i).filter (nrwP ks)).map vIs) false)]) (fun i=>x.rows.length-i) 0 (by omega) ?_ fun i hi=>?_
 ·exact .oA [(4100,some 4100),(8224,some 8224),(1,none)] []
 have hfl:=Fx (nrwP ks) (x.rows.take i);rw[Cz] at hfl;refine sD ?_;refine⟨fun h4=>?_,fun h4=>?_⟩
 ·have hi2:i<x.rows.length:=by omega
  have hwi:=qj (i:=i) (by omega);have hsp:(x.rows.take (i+1)).filter (nrwP ks)=(x.rows.take i).filter (nrwP ks)++if nrwP ks x.rows[i]=true then [x.rows[i]] else []:=by
   rw[qH hi2,FY,List.filter_cons,List.filter_nil]
  have hrr:=hr _ (AX hi2);have hCl:=qJ9 x.rows[i] (by omega);simp only[tZ,↓un_u,simprocAttr,Ax,qe hi2];refine⟨by omega,?_⟩;generalize x.rows[i]=r at hsp hrr hCl ⊢
  by_cases h0:0<r.length
  ·have hgi:=zZ h0;have hCt:=wA ks (hd r) hk;have q1:decide ((r.length:Int)>0)=true:=Cx (by omega);have hP:nrwP ks r=ks.contains (hd r):=by rw[nrwP,Cx h0,Fq]
   rw[hP] at hsp;simp only[tZ,↓un_u,simprocAttr,hgi,q1];refine⟨by omega,?_⟩;refine C2.im (fun _=>hCt) (fun _=>rfl) (by rfl) ?_;simp only[tZ,↓un_u,simprocAttr,hwi];refine⟨fun h6=>?_,fun h6=>?_⟩
   ·rw[Aj h6] at hsp;refine C1.im hCl (by rfl) (by rfl) ?_;simp only[tZ,↓un_u,simprocAttr,hwi];have hspl:=congrArg List.length hsp;simp only[AW,CJ,Cw] at hspl;refine⟨by omega,by kernel_rfl,i+1,by omega,by omega,?_⟩;rw[hsp];exact .oA [(4100,some 4100),(8224,some 8224),(1,some 1)] []
   ·rw[Aq (by rw[h6];simp),CW] at hsp;refine⟨i+1,by omega,by omega,?_⟩;rw[hsp];exact .oA [(4100,some 4100),(8224,some 8224),(1,some 1)] []
  ·have q1:decide ((r.length:Int)>0)=false:=Cq (by omega);have hP:nrwP ks r=false:=by rw[nrwP,Cq h0,Bool.false_and]
   rw[hP,Aq (by simp),CW] at hsp;obtain rfl:r=[]:=Dy.1 (by omega);simp only[tZ,↓un_u,simprocAttr,q1];refine C2.im (r:=vB false) (fun h=>absurd h (by simp)) (fun h=>absurd h (by simp)) (by rfl) ?_;simp only[tZ,↓un_u,simprocAttr,hwi];refine⟨i+1,by omega,by omega,?_⟩;rw[hsp];exact .oA [(4100,some 4100),(8224,some 8224),(1,some 1)] []
 ·have hil:i=x.rows.length:=by omega
  subst hil;rw[Bw];exact .oA [] [1]
end Go.Proofs
namespace Go.Proofs
open Go Go.TL
set_option maxRecDepth 4000
set_option maxHeartbeats 8000000
def zI0:CodL:=⟨⟨#[108]⟩,[⟨⟨#[97]⟩,-1⟩,⟨⟨#[98]⟩,0⟩,⟨⟨#[99]⟩,0⟩]⟩
def qv3:Sch:=⟨[zI0],[⟨⟨#[119,104,111]⟩,1,0,0,0,[],false⟩,⟨⟨#[115,101,120]⟩,2,0,0,0,[],false⟩]⟩
def zI1:Qst:=⟨⟨#[113]⟩,1,.mk 1 0 0 0 0 [],[⟨1,1⟩],-1,[],cnd0⟩
def qR6:Dcl:=⟨⟨#[112]⟩,⟨#[115]⟩,.mk 1 0 0 0 0 [],⟨1,1,0⟩,[zI1]⟩
theorem qZ9:yg qv3:=⟨by decide,by decide,by decide⟩
end Go.Proofs
namespace Go.Proofs
open Go Go.TL
set_option maxRecDepth 4000
set_option maxHeartbeats 8000000
open So
theorem zx5 (a:List Int):zE1 a a=true:=zS3.2 rfl
def qK8:Src:=⟨qv3,[[7,2]],[],0⟩
def qv4:Ext:=⟨⟨#[112]⟩,0,[⟨1,1⟩],[[keyI 99 7,2]]⟩
theorem jo3:qT2 qK8 qR6 [⟨1,1⟩] 99=qv4∧buildE qK8 qR6 [⟨1,1⟩] 99=0:=⟨by kernel_rfl,by kernel_rfl⟩
theorem ko3:valI qv3 qv4 0 1 0=(0,true):=by kernel_rfl
theorem ko4:extE qv3 qv4=0:=by kernel_rfl
theorem ko5:ownS qK8 qR6=[7]:=by kernel_rfl
theorem zI2:Spc Tryz.prog qc1 [] [] (vB true) []:=by
 have hsm:jb3 qK8:=⟨qZ9,by decide⟩;have hB:=WB qK8 qR6 [⟨1,1⟩] 99 hsm (by decide) (by decide);rw[jo3.1,jo3.2] at hB;have hV:=zk4 qv3 qZ9 qv4 (by decide) (by decide) 0 1 0;rw[ko3] at hV;have hK:=jb5 99 7;have hI:=qo4 [keyI 99 7,2] [keyI 99 7,2] (by decide);rw[zx5] at hI;have hC:=qq4 qv3 qZ9 qv4 (by decide) (by decide);rw[ko4] at hC;have hO:=qY5 qK8 qR6 hsm;rw[ko5] at hO;have hI2:=qo4 [7] [7] (by decide);rw[zx5] at hI2;have hN:=kg qv3 qZ9 (.mk 1 0 0 0 0 []);rw[show chkC qv3 (.mk 1 0 0 0 0 [])=0 by kernel_rfl] at hN;have hW:=qY7 qv4 [] (by decide) (by decide) (by decide) (by decide);rw[show nrwX qv4 []=⟨⟨#[112]⟩,0,[⟨1,1⟩],[]⟩ by kernel_rfl] at hW;have hE1:qv4.rows=[[keyI 99 7,2]]:=rfl;refine qd zl4 mixm (by simp) fun e _ hst=>qg ?_;unfold WZ;refine sW ?_;refine C1.shutD [8204,8212,8224,16400,16408,20484,20488,24588] hB ?_ (by rfl) rfl ?_
 ·simp [ptw,ltAD,ltD,TL.get,T.cells,imT,imL,qK8,qv4,qv3,zI1,qR6,zI0]
  all_goals (try (repeat' apply Az))
  all_goals (try rfl)
 refine sW ?_;refine C1.lendD [8204,8212,8224,16400,16408,20484,20488,24588] hV ?_ (by rfl) (by rfl) ?_
 ·simp [ptw,ltAD,ltD,TL.get,T.cells,imT,imL,qK8,qv4,qv3,zI1,qR6,zI0]
  all_goals (try (repeat' apply Az))
  all_goals (try rfl)
 simp only[tZ,↓un_u,simprocAttr,hE1];refine C2.im (fun _=>hK) (fun _=>rfl) (by rfl) ?_;refine sW ?_;refine C2.lendD [32824] (fun _=>hI) (fun _=>?_) (by rfl) (by rfl) ?_
 ·simp [ptw,ltAD,ltD,TL.get,T.cells,imT,imL,qK8,qv4,qv3,zI1,qR6,zI0]
  all_goals (try (repeat' apply Az))
  all_goals (try rfl)
 refine sW ?_;refine C2.lendD [8204,8212,8224,16400,16408,20484,20488,24588] (fun _=>hC) (fun _=>?_) (by rfl) (by rfl) ?_
 ·simp [ptw,ltAD,ltD,TL.get,T.cells,imT,imL,qK8,qv4,qv3,zI1,qR6,zI0]
  all_goals (try (repeat' apply Az))
  all_goals (try rfl)
 simp only[tZ,↓un_u,simprocAttr,bne_self_eq_false,beq_self_eq_true];refine C2.one trivial (C1.shutD [8204,8212,8224,16400,16408,20484,20488,24588] hO ?_ (by rfl) rfl ?_)
 ·simp [ptw,ltAD,ltD,TL.get,T.cells,imT,imL,qK8,qv4,qv3,zI1,qR6,zI0]
  all_goals (try (repeat' apply Az))
  all_goals (try rfl)
 refine sW ?_;refine C2.lendD [32904] (fun _=>hI2) (fun _=>?_) (by rfl) (by rfl) ?_
 ·simp [ptw,ltAD,ltD,TL.get,T.cells,imT,imL,qK8,qv4,qv3,zI1,qR6,zI0]
  all_goals (try (repeat' apply Az))
  all_goals (try rfl)
 refine sW ?_;refine C2.lendD [8204,8212,8224,16400,16408,20484,20488,24588] (fun _=>hN) (fun _=>?_) (by rfl) (by rfl) ?_
 ·simp [ptw,ltAD,ltD,TL.get,T.cells,imT,imL,qK8,qv4,qv3,zI1,qR6,zI0]
  all_goals (try (repeat' apply Az))
  all_goals (try rfl)
 refine sW ?_;refine C2.one trivial (C1.shutD [8204,8212,8224,16400,16408,20484,20488,24588] hW ?_ (by rfl) rfl ?_)
 ·simp [ptw,ltAD,ltD,TL.get,T.cells,imT,imL,qK8,qv4,qv3,zI1,qR6,zI0]
  all_goals (try (repeat' apply Az))
  all_goals (try rfl)
 refine sW ?_;refine⟨by kernel_rfl,?_⟩;exact .oA [] []
end Go.Proofs
namespace Go.Proofs
open Go Go.TL
set_option maxRecDepth 4000
set_option maxHeartbeats 8000000
theorem zk5 {s:Sch} {d:Dcl} (h:dclE s d=0):ym s (ZP s d)=0∧(∀ p∈ZP s d,0<p.lev)∧(ZP s d).Pairwise fun a b=>a.col<b.col:=by
 obtain⟨hE,_,_,_,_,_,_,hqs⟩:=qP3 h;have hp:ym s (ZP s d)=0:=by
  rw[qs2 h];refine js6 hE fun k hk h0=>?_;obtain⟨p,hp,e1,e2⟩:=zH8 h0;obtain⟨q,hq,hp2⟩:=Ek.1 hp;have hb:=qZ7 q p hp2;have hqe:qstE s q=0:=by
   obtain⟨n,hn,rfl⟩:=CX hq;have:=hqs n hn;rw[qAt,qh hn] at this;exact this
  have hqk:=qA8 hqe;refine⟨by omega,?_⟩;rw[← e2];have h1:=jL6 hp2;rw[e1,jM5 hqe hk] at h1;have:=kc6 (l:=zj8 s q) (k:=k) (zH7 hE (by omega) hk) fun p hp e=>by rw[← e];exact jL5 hqk p hp
  omega
 refine⟨hp,fun p hp=>?_,(qa9 hp).2.2⟩;rw[qs2 h] at hp;exact (zW3 hp).1
theorem jM9 (l:List Pk):covB l l=true:=qZ8.2 fun x hx=>⟨x,hx,rfl,Int.le_refl _⟩
end Go.Proofs
namespace Go.Proofs
open Go Go.TL
set_option maxRecDepth 4000
set_option maxHeartbeats 8000000
open So
theorem jN0 {x:Src} {d:Dcl} {k:Int} (h:SrcOk x) (hd0:dclE x.sch d=0) (hk:0≤k∧k<1152921504606846976) {l:List Pk} (hc:zh9 x.sch d l=0):buildE x d l k=0∧qT2 x d l k=⟨d.proj,x.ver,l,Ze x d l k⟩:=by
 have h1:buildE x d l k=0:=by
  rw[buildE,Aq (by rw[qp4.2 h];simp),Aq (by rw[hc];simp),Aq (by omega)]
 exact⟨h1,by rw[qT2,h1,Aq (by simp)]⟩
theorem ki6 {s:Sch} {d:Dcl} (h:dclE s d=0):zh9 s d (ZP s d)=0:=by
 rw[jo1 h (zk5 h).1,Aj (jM9 _)]
structure BldF (x:Src) (d:Dcl) (P:List Pk) (k:Int) (R:List (List Int)) (O:List Int):Prop where
 len:R.length=O.length
 asc:AscR R
 row:∀ i (hi:i<R.length),∃ (j:Nat) (hj:j<x.rows.length),R[i]=rowX x P k x.rows[j]∧qX6 x (hd x.rows[j])=j∧idI k (hd R[i])=hd x.rows[j]∧O.contains (hd x.rows[j])=true∧zh7 x.sch d.coh x.rows[j]=1
theorem jN1 {x:Src} {d:Dcl} {k:Int} (h:SrcOk x) (hd0:dclE x.sch d=0) (hk:0≤k∧k<1152921504606846976) (P:List Pk):BldF x d P k (Ze x d P k) (ownS x d):=by
 have hpw:=jM0 (d:=d) h hk;obtain⟨q1,_,_⟩:=zk1 x P k (ownR x d) [] List.Pairwise.nil (by simp);have hnd1:((ownR x d).map (rowX x P k)).Nodup:=by
  refine List.pairwise_map.2 (hpw.imp fun {a b} h e=>h ?_);have:=congrArg hd e;exact this
 have hnd2:(Ze x d P k).Nodup:=q1.imp fun {a b} h e=>by rw[e] at h;omega
 have hperm:(Ze x d P k).Perm ((ownR x d).map (rowX x P k)):=(List.perm_ext_iff_of_nodup hnd2 hnd1).2 fun r=>by
  rw[Kz h hd0 hk,Cj];constructor
  ·rintro ⟨r0,a,b,rfl⟩;exact⟨r0,(qB4 h hd0 r0).2 ⟨a,b⟩,rfl⟩
  ·rintro ⟨r0,a,rfl⟩;obtain⟨b,c⟩:=(qB4 h hd0 r0).1 a;exact⟨r0,b,c,rfl⟩
 refine⟨by rw[hperm.length_eq,BY,ownS,BY],q1,fun i hi=>?_⟩;obtain⟨r0,a,b,e⟩:=(Kz h hd0 hk _).1 (AX hi);obtain⟨j,f1,f2,rfl⟩:=jU0 h a;have hin:=jI9 (h.rows _ a);have hki:=jL9 hk (n:=hd x.rows[j]) (by omega);refine⟨j,f2,e,f1,by rw[e];exact hki.2,?_,?_⟩
 ·rw[FQ];exact Cj.2 ⟨_,(qB4 h hd0 _).2 ⟨a,b⟩,rfl⟩
 ·rw[ownP,Bq,AY] at b;exact b.1
theorem jc7 (l:List Pk):qH6 l l=true:=by
 rw[js0]
theorem kp7 (n:Int) (hn:0≤n∧n≤12) (l:List UInt8) (a:Nat) (hl:l.length≤400) (ha:a≤l.length):∃ (x:Src) (d:Dcl) (a1 a2:Nat),DrX x∧x.rows.length≤12∧jb3 x∧0<x.sch.lists.length∧dclE x.sch d=0∧a1≤l.length∧a2≤l.length∧
 Spc Tryz.prog ji [.ptr 0 1 0 0,vI n] [(0,oC l a)] (srcT x) [(0,oC l a1)]∧Spc Tryz.prog zn [.ptr 0 1 0 0,schT x.sch] [(0,oC l a1)] (dclT d) [(0,oC l a2)]:=by
 obtain⟨⟨x,a1⟩,⟨⟨hX,hr,_⟩,ha1⟩,sS⟩:=qu6 n l a hl ha (by omega);dsimp only at hX hr ha1 sS;obtain⟨⟨d,a2⟩,⟨hd,ha2⟩,sDd⟩:=qb2 x.sch hX.sch l a1 hl ha1;dsimp only at hd ha2 sDd;exact⟨x,d,a1,a2,hX,by omega,hX.ok.smx,by obtain⟨a,b,e,_⟩:=hX.sch.ls;rw[e];simp,hd,ha1,ha2,sS,sDd⟩
end Go.Proofs
namespace Go.Proofs
open Go Go.TL
set_option maxRecDepth 4000
set_option maxHeartbeats 8000000
open So
def zk6 (s:Sch) (P:List Pk) (a b:List Int):Bool:=P.all fun p=>qK s p.col p.lev (a.getD p.col.toNat 0)==qK s p.col p.lev (b.getD p.col.toNat 0)
theorem ki7 {α:Type} {p:α→Bool} {l:List α} {i:Nat} (h:i<l.length) (hp:p l[i]=false):l.all p=false:=by
 rw[List.all_eq_false];exact⟨l[i],AX h,by rw[hp];simp⟩
theorem jW2 {α:Type} {p:α→Bool} {l:List α} {i:Nat} (h:i<l.length) (h1:(l.take i).all p=true) (hp:p l[i]=true):(l.take (i+1)).all p=true:=by
 rw[qH h,FK,h1];simp [hp]
theorem zI3 (s:Sch) (P:List Pk) (hp:ym s P=0) (a b:List Int) (ha:a.length=s.cols.length) (hb:b.length=s.cols.length):Spc Tryz.prog qc2 [schT s,vPs P,vIs a,vIs b] [] (vB (zk6 s P a b)) []:=by
 obtain⟨hE,hpk,_⟩:=qa9 hp;have hs:=(qR hE).sm;have hpl:=qI7 hp;refine qd zl6 mixm (by simp) fun e _ hst=>qg ?_;unfold Ya;refine sW ?_;refine qu mixm (α:=Nat) [13] (fun i=>i≤P.length∧((P.take i).all fun p=>qK s p.col p.lev (a.getD p.col.toNat 0)==qK s p.col p.lev (b.getD p.col.toNat 0))=true) (fun i=>[(13,vI i)]) (fun i=>[(4096,.arr 2 [schT s] false)]) (fun i=>P.length-i) 0 ⟨by omega,rfl⟩ ?_ fun i hi=>?_
 ·exact .oA [(4096,some 4096)] []
 obtain⟨i1,i2⟩:=hi;refine sD ?_;refine⟨fun h5=>?_,fun h5=>?_⟩
 ·have hn2:i<P.length:=by omega
  have hwn:=qj (i:=i) (by omega);have hpn:=qg4 (hpk _ (AX hn2));have hca:P[i].col.toNat<a.length:=by omega
  have hcb:P[i].col.toNat<b.length:=by omega
  have hga:(a.map vI).getD P[i].col.toNat .junk=vI (a.getD P[i].col.toNat 0):=by rw[qe hca,qh hca]
  have hgb:(b.map vI).getD P[i].col.toNat .junk=vI (b.getD P[i].col.toNat 0):=by rw[qe hcb,qh hcb]
  have sA:=jb s hs P[i].col P[i].lev (a.getD P[i].col.toNat 0);have sB:=jb s hs P[i].col P[i].lev (b.getD P[i].col.toNat 0);have hit:=ki7 (p:=fun p:Pk=>qK s p.col p.lev (a.getD p.col.toNat 0)==qK s p.col p.lev (b.getD p.col.toNat 0)) hn2;have sno:=jW2 (p:=fun p:Pk=>qK s p.col p.lev (a.getD p.col.toNat 0)==qK s p.col p.lev (b.getD p.col.toNat 0)) hn2 i2;simp only[tZ,↓un_u,simprocAttr,Ax,qe hn2,hga,hgb];refine⟨by omega,by omega,?_⟩;refine C1.im sA (by rfl) (by rfl) ?_;simp only[tZ,↓un_u,simprocAttr,Ax,qe hn2,hga,hgb];refine⟨by omega,?_⟩;refine C1.im sB (by rfl) (by rfl) ?_;simp only[tZ,↓un_u,simprocAttr,hwn,Bj,Aw];refine⟨by kernel_rfl,fun h6=>?_,fun h6=>?_⟩
  ·rw[zk6,hit (Ak.2 h6)];exact .oA [] []
  ·refine⟨i+1,⟨by omega,sno (AY.2 h6)⟩,by omega,?_⟩;exact .oA [(4096,some 4096)] []
 ·have hil:i=P.length:=by omega
  subst hil;rw[Bw] at i2;rw[zk6,i2];exact .oA [] []
structure RowA (x:Src) (d:Dcl) (P:List Pk) (r0 row:List Int):Prop where
 fit:rowE x.sch row=0
 id:hd row=hd r0
 ev:(zh7 x.sch d.coh row==1)=(zh7 x.sch d.coh r0==1)
 al:ownP x d r0=true→zk6 x.sch P row r0=true
theorem RowA.refl {x:Src} {d:Dcl} {P:List Pk} {r:List Int} (h:rowE x.sch r=0):RowA x d P r r:=⟨h,rfl,rfl,fun _=>by
 unfold zk6;rw[Bk];exact fun p _=>beq_self_eq_true _⟩
theorem RowA.own {x:Src} {d:Dcl} {P:List Pk} {r row:List Int} (h:RowA x d P r row):ownP x d row=ownP x d r:=by
 unfold ownP;rw[h.ev,h.id]
theorem RowA.rowX {x:Src} {d:Dcl} {P:List Pk} {r row:List Int} (k:Int) (h:RowA x d P r row) (ho:ownP x d r=true):rowX x P k row=rowX x P k r:=by
 have h1:=h.al ho;unfold zk6 at h1;rw[Bk] at h1;unfold Go.Proofs.rowX;rw[h.id]
 congr 1
 exact Ew fun p hp=>AY.1 (h1 p hp)
structure OthR (x:Src) (d:Dcl) (P:List Pk) (rs ys:List (List Int)):Prop where
 len:ys.length≤rs.length
 asc:AscR ys
 fro:∀ row∈ys,∃ r∈rs,RowA x d P r row
 own:∀ r∈rs,ownP x d r=true→∃ row∈ys,RowA x d P r row
theorem OthR.nil {x:Src} {d:Dcl} {P:List Pk}:OthR x d P [] []:=⟨BZ _,.nil,by simp,by simp⟩
theorem OthR.skip {x:Src} {d:Dcl} {P:List Pk} {rs ys:List (List Int)} (h:OthR x d P rs ys) {r:List Int} (ho:ownP x d r=false):OthR x d P (rs++[r]) ys:=by
 refine⟨by have:=h.len;simp;omega,h.asc,fun row hr=>?_,fun q hq hq2=>?_⟩
 ·obtain⟨q,a,b⟩:=h.fro row hr;exact⟨q,List.mem_append_left _ a,b⟩
 ·rcases Dz.1 hq with a | a
  ·exact h.own q a hq2
  ·rw[Ey.1 a,ho] at hq2;cases hq2
theorem OthR.snoc {x:Src} {d:Dcl} {P:List Pk} {rs ys:List (List Int)} (h:OthR x d P rs ys) {r row:List Int} (hA:RowA x d P r row) (hasc:∀ q∈rs,hd q<hd r):OthR x d P (rs++[r]) (ys++[row]):=by
 refine⟨by have:=h.len;simp;omega,?_,fun q hq=>?_,fun q hq hq2=>?_⟩
 ·refine List.pairwise_append.2 ⟨h.asc,List.pairwise_singleton _ _,fun a ha b hb=>?_⟩;rw[Ey.1 hb,hA.id];obtain⟨q,c1,c2⟩:=h.fro a ha;rw[c2.id];exact hasc q c1
 ·rcases Dz.1 hq with a | a
  ·obtain⟨q,b1,b2⟩:=h.fro _ a;exact⟨q,List.mem_append_left _ b1,b2⟩
  ·rw[Ey.1 a];exact⟨r,by simp,hA⟩
 ·rcases Dz.1 hq with a | a
  ·obtain⟨row2,b1,b2⟩:=h.own q a hq2;exact⟨row2,List.mem_append_left _ b1,b2⟩
  ·rw[Ey.1 a];exact⟨row,by simp,hA⟩
theorem jN2 {x:Src} {d:Dcl} {P:List Pk} {ys:List (List Int)} (hX:SrcOk x) (h:OthR x d P x.rows ys):SrcOk ⟨x.sch,ys,[],x.ver⟩:=by
 refine⟨hX.sch,by have:=h.len;have:=hX.nr;dsimp only;omega,by simp,hX.ver,fun r hr=>?_,h.asc,by simp,.nil⟩;obtain⟨_,_,e⟩:=h.fro r hr;exact e.fit
theorem jN3 {x:Src} {d:Dcl} {P:List Pk} {ys:List (List Int)} {k:Int} (hX:SrcOk x) (hdE:dclE x.sch d=0) (hk:0≤k∧k<1152921504606846976) (h:OthR x d P x.rows ys):Ze ⟨x.sch,ys,[],x.ver⟩ d P k=Ze x d P k:=by
 have hY:=jN2 hX h;have e1:∀ row,ownP ⟨x.sch,ys,[],x.ver⟩ d row=ownP x d row:=fun _=>rfl;have e2:∀ row,rowX ⟨x.sch,ys,[],x.ver⟩ P k row=rowX x P k row:=fun _=>rfl;obtain⟨q1,_,_⟩:=zk1 x P k (ownR x d) [] List.Pairwise.nil (by simp);obtain⟨q2,_,_⟩:=zk1 ⟨x.sch,ys,[],x.ver⟩ P k (ownR ⟨x.sch,ys,[],x.ver⟩ d) [] List.Pairwise.nil (by simp);refine jn5 q2 q1 fun r=>?_;have hm1:=Kz (l:=P) hX hdE hk r;have hm2:=Kz (l:=P) hY (d:=d) hdE hk r;show r∈Ze ⟨x.sch,ys,[],x.ver⟩ d P k↔r∈Ze x d P k;rw[hm1,hm2];constructor
 ·rintro ⟨row,a,b,e⟩;obtain⟨r0,c1,c2⟩:=h.fro row a;rw[e1,c2.own] at b;exact⟨r0,c1,b,by rw[e,e2,c2.rowX k b]⟩
 ·rintro ⟨r0,a,b,e⟩;obtain⟨row,c1,c2⟩:=h.own r0 a b;exact⟨row,c1,by rw[e1,c2.own];exact b,by rw[e,e2,c2.rowX k b]⟩
theorem jW3 {x:Src} {d:Dcl} {P:List Pk} {r row:List Int} {n:Nat} {v:Int} (h:RowA x d P r row) (hn:0<n) (hn2:n<x.sch.cols.length) (hv:jo x.sch n v=true)
 (he:(zh7 x.sch d.coh (row.set n v)==1)=(zh7 x.sch d.coh r==1)) (ha:ownP x d r=true→zk6 x.sch P (row.set n v) r=true):RowA x d P r (row.set n v):=by
 obtain⟨hE,hl,hh⟩:=qg2 h.fit;refine⟨zD9 hE (by rw[Fw];exact hl) fun i hi=>?_,?_,he,ha⟩
 ·rw[Fw] at hi;rw[qh (by rw[Fw];exact hi),Fk];split
  ·rename_i e;rw[← e];exact hv
  ·have:=hh i hi;rw[qh hi] at this;exact this
 ·rw[← h.id];obtain⟨m,rfl⟩:∃ m,n=m+1:=⟨n-1,by omega⟩;cases row <;> rfl
theorem jW4 {s:Sch} (h:DrS s):2≤s.cols.length∧s.cols.length≤8:=by
 obtain⟨ms,hc,h1,h2⟩:=h.cs;rcases hc with⟨e,_⟩ | ⟨e,_⟩ <;> rw[e] <;> simp <;> omega
theorem qv5 (bs:List UInt8):Spc Tryz.prog JU [vL bs] [] (vB true) []:=by
 have hl4:(bs.take 400).length≤400:=by rw[Cz];omega
 obtain⟨x,d,a1,a2,hX,h12,hsm,hL,hdE,ha1,ha2,sS,sDd⟩:=kp7 10 (by omega) (bs.take 400) 0 hl4 (by omega);obtain⟨k,a3,hk1,hk2,ha3,sK⟩:=jU6 (bs.take 400) a2 hl4 ha2;have hk:=Az hk1 hk2;have hS:=hX.sch;have hcl:=jW4 hS;have sP:=zT9 x.sch hsm.1 hL d;rw[hdE] at sP;have hpl:=zT8 x.sch d;have hck:=ki6 hdE;obtain⟨e1,e2⟩:=jN0 hX.ok hdE hk hck;have sB:=WB x d (ZP x.sch d) k hsm h12 (by omega);rw[e1,e2] at sB;have sO:=zs5 x d hsm hL;have hpp:=(zk5 hdE).1;have hYb:∀ ys,OthR x d (ZP x.sch d) x.rows ys→Spc Tryz.prog jU [srcT ⟨x.sch,ys,[],x.ver⟩,dclT d,vPs (ZP x.sch d),vI k] [] (.tup [extT ⟨d.proj,x.ver,ZP x.sch d,Ze x d (ZP x.sch d) k⟩,vI 0]) []:=fun ys hy=>by
  have hY:=jN2 hX.ok hy;obtain⟨f1,f2⟩:=jN0 hY (d:=d) hdE hk hck;have:=WB ⟨x.sch,ys,[],x.ver⟩ d (ZP x.sch d) k hY.smx (by have:=hy.len;dsimp only;omega) (by omega);rw[f1,f2,jN3 hX.ok hdE hk hy] at this;exact this
 have hown:∀ r∈x.rows,(ownS x d).contains (hd r)=ownP x d r:=fun r hr=>by
  rw[Bool.eq_iff_iff,FQ];constructor
  ·intro h;obtain⟨q,q1,q2⟩:=Cj.1 h;obtain⟨q3,q4⟩:=(qB4 hX.ok hdE q).1 q1;rw[← kh0 hX.ok.asc q3 hr q2];exact q4
  ·intro h;exact Cj.2 ⟨r,(qB4 hX.ok hdE r).2 ⟨hr,h⟩,rfl⟩
 have hOl:(ownS x d).length≤200:=by rw[ownS,BY];exact jW0 hX.ok d
 have hRl:∀ r∈Ze x d (ZP x.sch d) k,r.length≤1000000:=fun r hr=>by
  obtain⟨r0,_,_,e⟩:=(Kz hX.ok hdE hk r).1 hr;rw[e,rowX,CJ,BY];omega
 have hRn:(Ze x d (ZP x.sch d) k).length≤200:=by
  have h1:=(jN1 hX.ok hdE hk (ZP x.sch d)).len;omega
 generalize ZP x.sch d=P at sP hpl hck e1 e2 sB hpp hYb hRl hRn;generalize Ze x d P k=R at sB hYb hRl hRn;have sSm:=zU9 ⟨d.proj,x.ver,P,R⟩ ⟨d.proj,x.ver,P,R⟩ (by dsimp only;omega) (by dsimp only;omega) (fun r hr=>by have:=hRl r hr;omega);rw[jW1,jc7,jr8.2 rfl,beq_self_eq_true] at sSm;generalize ownS x d=O at sO hown hOl;refine Zj [23] qm1 mixm (by simp) fun e _ hst=>qg ?_;unfold wl;simp only[YV,List.contains_cons,List.contains_nil,Nat.reduceBEq,Bool.or_false,Bool.or_true,Bool.true_or,Bool.false_or,cond_true,cond_false];refine sW ?_;refine C1.newdraw 8196 (jr5 bs) rfl rfl ?_;generalize bs.take 400=m at hl4 sS sDd sK ha1 ha2 ha3 ⊢
 refine sW ?_;refine C1.draw 8196 m 0 _ sS rfl rfl rfl ?_;refine sW ?_;refine C1.draw 8196 m a1 _ sDd rfl rfl rfl ?_;refine sW ?_;refine C1.im sP (by rfl) (by rfl) ?_;refine sW ?_;refine C1.draw 8196 m a2 _ sK rfl rfl rfl ?_;refine sW ?_;refine C1.im sO (by rfl) (by rfl) ?_;refine sW ?_;refine qu mixm (α:=Nat×List (List Int)×Nat) [49] (fun y=>y.1≤x.rows.length∧OthR x d P (x.rows.take y.1) y.2.1∧y.2.2≤m.length) (fun y=>[(49,vI y.1)]) (fun y=>[(8196,oC m y.2.2),(12296,.arr 5 [srcT x] false),(16400,.arr 12 [dclT d] false),(32788,.arr 5 [.agg [.sl 2 (x.sch.lists.map cdlT),.sl 7 (x.sch.cols.map colT),.asl 1 y.2.1.length,.v (.slice none 0 0),vI x.ver]] false),(1,.arr 1 (y.2.1.map vIs) false)]) (fun y=>x.rows.length-y.1) (0,[],a3) ⟨by dsimp only;omega,OthR.nil,ha3⟩ ?_ fun y hy=>?_
 ·exact .oA [(8196,some 8196),(12296,some 12296),(16400,some 16400),(32788,some 32788),(1,none)] []
 obtain⟨i,ys,a4⟩:=y;obtain⟨i1,i2,i3⟩:=hy;dsimp only at i1 i2 i3;refine sD ?_;refine⟨fun h4=>?_,fun h4=>?_⟩
 ·have hi2:i<x.rows.length:=by omega
  have hwi:=qj (i:=i) (by omega);have hrm:=AX hi2;have hrE:=hX.ok.rows _ hrm;have hrp:=QZ hrE;have hgi:=zZ hrp;have hrl:=(qg2 hrE).2.1;have hot:=hown _ hrm;have hasc:∀ q∈x.rows.take i,hd q<hd x.rows[i]:=fun q hq=>by
   obtain⟨j,hj,rfl⟩:=CX hq;rw[Cz] at hj;rw[Fy];exact DX.1 hX.ok.asc j i (by omega) hi2 (by omega)
  have htk:x.rows.take (i+1)=x.rows.take i++[x.rows[i]]:=qH hi2;simp only[tZ,↓un_u,simprocAttr,Ax,qe hi2];refine⟨by omega,?_⟩;generalize x.rows[i]=r at hrm hrE hrp hgi hrl hot hasc htk ⊢
  have sH:=qA3 O (hd r) (by omega);simp only[tZ,↓un_u,simprocAttr,hgi];refine⟨by omega,by omega,?_⟩;refine C1.im sH (by rfl) (by rfl) ?_;rw[hot];refine sW ?_;have hN0:RowA x d P r r:=RowA.refl hrE;refine⟨fun h5=>?_,fun h5=>?_⟩
  rotate_left
  obtain⟨b5,hb5,e5⟩:∃ b5,b5≤m.length∧b5=a4:=⟨a4,i3,rfl⟩;rw[← e5]
  rotate_left
  obtain⟨o,b5,hb5,sOn⟩:=js3 m a4 2 hl4 i3 (by omega);refine C1.draw 8196 m a4 _ sOn rfl rfl rfl ?_;simp only[tZ,↓un_u,simprocAttr,hwi];refine⟨fun h6=>?_,fun h6=>?_⟩
  ·refine⟨(i+1,ys,b5),⟨by dsimp only;omega,by dsimp only;rw[htk];exact i2.skip h5,hb5⟩,by dsimp only;omega,?_⟩;exact .oA [(8196,some 8196),(12296,some 12296),(16400,some 16400),(32788,some 32788),(1,some 1)] []
  all_goals
   refine qu mixm (α:=Nat×List Int×Nat) [14] (fun z=>z.1≤4∧RowA x d P r z.2.1∧z.2.2≤m.length) (fun z=>[(14,vI z.1)]) (fun z=>[(8196,oC m z.2.2),(12296,.arr 5 [srcT x] false),(16400,.arr 12 [dclT d] false),(32788,.arr 5 [.agg [.sl 2 (x.sch.lists.map cdlT),.sl 7 (x.sch.cols.map colT),.asl 1 ys.length,.v (.slice none 0 0),vI x.ver]] false),(1,.arr 1 (ys.map vIs) false),(49156,.arr 1 (z.2.1.map vI) false)]) (fun z=>4-z.1) (0,r,b5) ⟨by dsimp only;omega,hN0,hb5⟩ ?_ fun z hz=>?_
   ·exact .oA [(8196,some 8196),(12296,some 12296),(16400,some 16400),(32788,some 32788),(1,some 1),(49156,some 49156)] []
   obtain⟨t,row,a5⟩:=z;obtain⟨z1,z2,z3⟩:=hz;dsimp only at z1 z2 z3;have hrl2:=(qg2 z2.fit).2.1;have hrr:row.length=r.length:=by omega
   refine sD ?_;refine⟨fun h7=>?_,fun h7=>?_⟩
   ·have hwt:=qj (i:=t) (by omega);obtain⟨v,b6,v1,v2,hb6,sNx⟩:=wQ m a5 (x.sch.cols.length-1) hl4 z3 (by omega);obtain⟨V,rfl⟩:=AJ v1;obtain⟨⟨u,b7⟩,⟨hu,hb7⟩,sV⟩:=qJ1 x.sch hS (V+1) (by omega) m b6 hl4 hb6;dsimp only at hu hb7 sV;have hwl:IntKind.i64.wrap ((r.length:Int)-1)=(x.sch.cols.length:Int)-1:=by rw[AK _ (by omega)];omega
    have hwv:IntKind.i64.wrap (1+(V:Int))=((V+1:Nat):Int):=by rw[AK _ (by omega)];omega
    have hol:(row.set (V+1) u).length=r.length:=by rw[Fw];exact hrr
    have sAl:=zI3 x.sch P hpp (row.set (V+1) u) r (by omega) hrl;have sE1:=qp1 x.sch hsm.1 hL d.coh (row.set (V+1) u) (by omega);have sE2:=qp1 x.sch hsm.1 hL d.coh r (by omega);have hset:(row.map vI).set (V+1) (vI u)=(row.set (V+1) u).map vI:=List.map_set.symm;simp only[tZ,↓un_u,simprocAttr,hwl];refine⟨⟨hrr,by omega⟩,hrr,?_⟩;refine C1.draw 8196 m a5 _ sNx rfl rfl rfl ?_;simp only[tZ,↓un_u,simprocAttr,hwv];refine C1.draw 8196 m b6 _ sV rfl rfl rfl ?_;have hVl:V+1<row.length:=by omega
    simp only[tZ,↓un_u,simprocAttr,Ax,qe hVl,hgi];refine⟨by omega,by omega,by omega,?_⟩;rw[hset];refine C1.im sH (by rfl) (by rfl) ?_;rw[hot];refine sW ?_;refine C2.lend [73732] (fun _=>sAl) (fun _=>?_) (by rfl) (by rfl) ?_
    ·all_goals (try exact clA)
    simp only[tZ,↓un_u,simprocAttr,hwt];refine⟨fun h8=>?_,fun h8=>?_⟩
    ·refine⟨(t+1,row,b7),⟨by dsimp only;omega,z2,hb7⟩,by dsimp only;omega,?_⟩;exact .oA [(8196,some 8196),(12296,some 12296),(16400,some 16400),(32788,some 32788),(1,some 1),(49156,some 49156)] []
    refine C1.lend [73732] sE1 ?_ (by rfl) (by rfl) ?_
    ·all_goals (try exact clA)
    refine sW ?_;refine C1.im sE2 (by rfl) (by rfl) ?_;refine sW ?_;refine⟨by kernel_rfl,fun h9=>?_,fun h9=>?_⟩
    ·simp only[tZ,↓un_u,simprocAttr,hwt];refine⟨(t+1,row.set (V+1) u,b7),⟨by dsimp only;omega,jW3 z2 (by omega) (by omega) hu (AY.1 h9) (fun ho=>by
      rw[ho] at h8;simpa using h8),hb7⟩,by dsimp only;omega,?_⟩
     rw[hrr];exact .oA [(8196,some 8196),(12296,some 12296),(16400,some 16400),(32788,some 32788),(1,some 1),(49156,some 73732)] []
    ·simp only[tZ,↓un_u,simprocAttr,hwt];refine⟨(t+1,row,b7),⟨by dsimp only;omega,z2,hb7⟩,by dsimp only;omega,?_⟩;exact .oA [(8196,some 8196),(12296,some 12296),(16400,some 16400),(32788,some 32788),(1,some 1),(49156,some 49156)] []
   ·refine W_le [(3,.ptr 8196 1 0 0),(4,.ptr 12296 1 0 0),(5,.ptr 16400 1 0 0),(6,vPs P),(8,vI k),(9,vIs O),(10,.ptr 32788 1 0 0),(13,vIs row),(47,vRw x.rows),(48,vI x.rows.length),(49,vI i)] [(8196,oC m a5),(12296,.arr 5 [srcT x] false),(16400,.arr 12 [dclT d] false),(32788,.arr 5 [.agg [.sl 2 (x.sch.lists.map cdlT),.sl 7 (x.sch.cols.map colT),.asl 1 ys.length,.v (.slice none 0 0),vI x.ver]] false),(1,.arr 1 (ys.map vIs) false)] ?_ ?_
    ·rw[← hrr];exact .oA [(8196,some 8196),(12296,some 12296),(16400,some 16400),(32788,some 32788),(1,some 1)] [49156]
    simp only[tZ,↓un_u,simprocAttr,hwi];refine⟨by have:=i2.len;rw[Cz] at this;omega,(i+1,ys++[row],a5),⟨by dsimp only;omega,by dsimp only;rw[htk];exact i2.snoc z2 hasc,z3⟩,by dsimp only;omega,?_⟩;rw[By,AW];exact .oA [(8196,some 8196),(12296,some 12296),(16400,some 16400),(32788,some 32788),(1,some 1)] []
 ·have hil:i=x.rows.length:=by omega
  subst hil;rw[Bw] at i2;have sBy:=hYb ys i2;refine C1.im sB (by rfl) (by rfl) ?_;refine sW ?_;refine C1.shut [1] sBy ?_ (by rfl) rfl ?_
  ·all_goals (try exact clA)
  refine sW ?_;refine C2.im (fun _=>sSm) (fun _=>rfl) (by rfl) ?_;refine sW ?_;refine C2.im (fun _=>zI2) (fun _=>rfl) (by rfl) ?_;refine sW ?_;exact .oA [] []
end Go.Proofs
