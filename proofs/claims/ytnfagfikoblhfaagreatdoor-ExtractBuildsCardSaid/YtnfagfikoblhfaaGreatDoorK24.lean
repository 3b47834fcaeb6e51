/- A part of the proof: trees of Go values, short forms, contracts. -/
import Derived.WalkKit
import Derived.Still
import Derived.MapKept
import GoSem.Builtin.Cap
import Derived.Laws.Externs
import GoSem.Extern.SlicesOverlaps
import Derived.Carry
import Derived.ProofKit
import Derived.OpenShut
import Derived.HandedShaped
import Derived.Lay
import Derived.LaidLaws
import Derived.MakeChecks
import Derived.SevenTiedAt
import Derived.Test.YtnfagfikoblhfaaGreatDoorChecked
import Derived.Test.YtnfagfikoblhfaaGreatDoorK23
set_option linter.unusedSimpArgs false
set_option linter.unusedVariables false
namespace Go.Proofs
open Go Go.TL
set_option maxRecDepth 4000
set_option maxHeartbeats 8000000
open So
theorem zW7 {s:Sch} {d:Dcl} (h:dclE s d=0):chkC s d.coh=0∧nodE s d.coh=0:=by
 have h1:=(qw9 h).2.2.2.1;exact⟨h1,(qx6 h1).2.2.2⟩
theorem jQ4 {s:Src} {d:Dcl} (h:SrcOk s) (hd0:dclE s.sch d=0) {r:List Int} (hr:r∈s.rows):(inS d.smp (hd r)&&(evC s.sch r d.coh==1))=ownP s d r:=by
 have h1:=(zW7 hd0).1;have h2:=h.rows r hr;rw[ownP,zn1,Aq oM,Bool.and_comm]
theorem YC (s:Src) (d:Dcl) (h:SrcOk s) (hd0:dclE s.sch d=0):Spc Tryz.prog 90 [srcT s,dclT d] [] (vRw (s.rows.filter (ownP s d))) []:=by
 have hok:=h;have hrp:=hok.rowp;have hnr:=hok.nr;have hn:=(zW7 hd0).2;have hsc:=qV hok.sch;refine sIr qC9 fun e _ hst=>?_;unfold Qa;refine sW ?_;refine qk mixm (α:=Nat) [5,11] (fun i=>i≤s.rows.length) (fun i=>[(5,.asl 1 ((s.rows.take i).filter (ownP s d)).length),(11,vI i)]) (fun i=>[(4096,.arr 5 [srcT s] false),(4100,.arr 12 [dclT d] false),(1,.arr 1 (((s.rows.take i).filter (ownP s d)).map vIs) false)]) (fun i=>s.rows.length-i) 0 oM ?_ fun i hi=>?_
 ·exact .oA [(4096,some 4096),(4100,some 4100),(1,none)] []
 have hfl:=Fx (ownP s d) (s.rows.take i);rw[Cz] at hfl;refine sD ?_;refine⟨fun h2=>?_,fun h2=>?_⟩
 ·have hi2:i<s.rows.length:=by omega
  have hwi:=qh (i:=i) oM;have hgi:=zS (hrp _ (AX hi2));have hrpi:=hrp _ (AX hi2);have hsp:(s.rows.take (i+1)).filter (ownP s d)=(s.rows.take i).filter (ownP s d)++if ownP s d s.rows[i]=true then [s.rows[i]] else []:=by
   rw[qH hi2,FY,List.filter_cons,List.filter_nil]
  have hP:(inS d.smp (hd s.rows[i])&&(evC s.sch s.rows[i] d.coh==1))=ownP s d s.rows[i]:=jQ4 h hd0 (AX hi2);have hI:=zK8 d.smp (hd s.rows[i]);have hH:=qz3 s.sch hsc s.rows[i] (qh9 (hok.rows _ (AX hi2))).2.1 d.coh hn;simp only[tZ,↓un_u,simprocAttr,Ax,qd hi2,hgi];refine⟨oM,oM,?_⟩;refine C1.im hI rF rF ?_;simp only[tZ,↓un_u,simprocAttr,Ax,qd hi2,hgi];refine C2.im (fun _=>hH) (fun _=>rfl) rF ?_;refine sW ?_;rw[hP];refine⟨kR,fun h3=>?_,fun h3=>?_⟩
  ·rw[Aj h3] at hsp;have hspl:=congrArg List.length hsp;simp only[AW,CJ,Cw] at hspl;simp only[tZ,↓un_u,simprocAttr,Ax,qd hi2,hwi];refine⟨oM,i+1,oM,oM,?_⟩;rw[hsp];exact .oA [(4096,some 4096),(4100,some 4100),(1,some 1)] []
  ·rw[Aq (by rw[h3];simp),CW] at hsp;simp only[tZ,↓un_u,simprocAttr,hwi];refine⟨i+1,oM,oM,?_⟩;rw[hsp];exact .oA [(4096,some 4096),(4100,some 4100),(1,some 1)] []
 ·have hil:i=s.rows.length:=by omega
  subst hil;rw[Bw];exact .oA [] [1]
theorem Wj (s:Src) (d:Dcl) (hs:zb2 s):Spc Tryz.prog 30 [srcT s,dclT d] [] (vIs (ownS s d)) []:=by
 have hV:=qd7 s hs.1.2.1 hs.1.1 hs.2;refine sIr qu2 fun e _ hst=>?_;unfold ym;refine sW ?_;refine C1.im hV rF rF ?_;refine sW ?_;refine C2.im (fun _=>ZF s.sch hs.1 d) (fun _=>rfl) rF ?_;simp only[tZ,↓un_u,simprocAttr,tD,Bj,Aw,Bx,Bz];refine⟨fun h=>?_,fun h=>?_⟩
 ·rw[ownS,ownR,Aj h];exact .oA [] []
 have hok:=KY.1 h.1;have hrp:=hok.rowp;have hnr:=hok.nr;have hO:=YC s d hok oM;rw[ownS,ownR,Aq (by grind)];have hfl:=Fx (ownP s d) s.rows;have hRp:∀ r∈s.rows.filter (ownP s d),0<r.length:=fun r hr=>hrp r (Fz.1 hr).1;generalize s.rows.filter (ownP s d)=R at hO hfl hRp ⊢
 refine C1.im hO rF rF ?_;refine sW ?_;refine qk mixm (α:=Nat) [5,22] (fun i=>i≤R.length) (fun i=>[(5,.asl 1 i),(22,vI i)]) (fun i=>[(1,.arr 1 (((R.take i).map hd).map vI) false)]) (fun i=>R.length-i) 0 oM ?_ fun i hi=>?_
 ·exact .oA [(1,none)] []
 have htl:((R.take i).map hd).length=i:=by rw[BY,Cz];omega
 refine sD ?_;refine⟨fun h2=>?_,fun h2=>?_⟩
 ·have hi2:i<R.length:=by omega
  have hwi:=qh (i:=i) oM;have hgi:=zS (hRp _ (AX hi2));have hrpi:=hRp _ (AX hi2);have hsp:(R.take (i+1)).map hd=(R.take i).map hd++[hd R[i]]:=by rw[qH hi2,By];rfl
  have htl2:(R.take i).length=i:=by rw[Cz];omega
  simp only[tZ,↓un_u,simprocAttr,Ax,qd hi2,hgi,hwi];refine⟨oM,oM,oM,i+1,oM,oM,?_⟩;rw[hsp];exact .oA [(1,some 1)] []
 ·have hil:i=R.length:=by omega
  subst hil;rw[Bw];exact .oA [] [1]
theorem jX6 {k:Int→Int} {ys:List (List Int)} (h:Srt (ltV bidV) ys 0 ys.length) (hn:(ys.map hd).Nodup):AscR ys:=by
 refine jQ3 h fun i h0 hi e=>?_;have hi2:i<(ys.map hd).length:=by rw[BY];exact hi
 have hi3:i-1<(ys.map hd).length:=by omega
 have:=(DX.1 hn) (i-1) i hi3 hi2 oM;rw[Fj,Fj] at this;rw[qg hi,qg oM] at e;exact this e.symm
def keyP (x:List Int):Prop:=0<x.length∧0≤hd x∧hd x≤1048575
theorem qz5 (x y:List Int) (hx:keyP x) (hy:keyP y):Spc Tryz.prog 97 [vIs x,vIs y] [] (vI (bidV x y)) []:=by
 have h1:=zS hx.1;have h2:=zS hy.1;have a1:=hx.1;have a2:=hy.1;have hw:IntKind.i64.wrap (hd x-hd y)=hd x-hd y:=AK _ (by have:=hx.2;have:=hy.2;omega);refine sIr qm3 fun e _ hst=>?_;unfold wG;simp only[tZ,↓un_u,simprocAttr,h1,h2,hw];refine⟨oM,oM,kR,?_⟩;rw[show bidV x y=hd x-hd y from rfl];exact .oA [] []
theorem ju2 {k n:Int} (hk:0≤k∧k<1152921504606846976) (hn:0≤n∧n<1048576):0≤keyI k n∧keyI k n≤1048575:=by
 have h1:Qz k n=true:=by simp [Qz];omega
 have h3:=zD0 (Zw (s:=k) (Yw hn) 8);have h4:keyI k n=tie (fwd k 8 (cut n)):=by rw[keyI,Aj h1]
 omega
theorem key0 (k:Int):(keyI k 0<0)↔(k<0∨k≥1152921504606846976):=by
 by_cases h:0≤k∧k<1152921504606846976
 ·have:=ju2 h (n:=0) oM;omega
 ·have h1:Qz k 0=false:=by simp [Qz];omega
  rw[keyI,Aq (by rw[h1];simp)];omega
theorem ju3 {s:Src} {d:Dcl} {l:List Pk} {k:Int} (h:SrcOk s) (hd0:dclE s.sch d=0) (hk:0≤k∧k<1152921504606846976) {ys:List (List Int)} (hp:ys.Perm ((s.rows.filter (ownP s d)).map (rowX s l k))) (hso:Srt (ltV bidV) ys 0 ys.length):ys=qq6 s d l k:=by
 have hR:ownR s d=s.rows.filter (ownP s d):=by unfold ownR;rw[Aq (by rw[KY.2 h,hd0];simp)]
 have hpw:=jK9 (d:=d) h hk;rw[hR] at hpw;have hnd:(ys.map hd).Nodup:=by
  rw[(hp.map hd).nodup_iff];rw[Gz];exact List.pairwise_map.2 (hpw.imp fun h=>h)
 have hA:=jX6 (k:=fun x=>x) hso hnd;obtain⟨q1,_,_⟩:=zK9 s l k (ownR s d) [] List.Pairwise.nil sMp;refine jC8 hA q1 fun x=>?_;rw[hp.mem_iff];have:=jb1 (l:=l) h hd0 hk x;rw[this,Cj];constructor
 ·rintro ⟨r,hr,rfl⟩;obtain⟨a,b⟩:=Fz.1 hr;exact⟨r,a,b,rfl⟩
 ·rintro ⟨r,a,b,rfl⟩;exact⟨r,Fz.2 ⟨a,b⟩,rfl⟩
end Go.Proofs
namespace Go.Proofs
open Go Go.TL
set_option maxRecDepth 4000
set_option maxHeartbeats 8000000
open So
theorem ZG (s:Src) (d:Dcl) (l:List Pk) (k:Int) (hs:zb2 s) (h12:s.rows.length≤12) (hl:l.length<4611686018427387904):Spc Tryz.prog 32 [srcT s,dclT d,vPs l,vI k] [] (.tup [extT (jY s d l k),vI (buildE s d l k)]) []:=by
 have hE:=(rfl:buildE s d l k=buildE s d l k);have hS:jY s d l k=if buildE s d l k≠0 then ext0 else ⟨d.proj,s.ver,l,qq6 s d l k⟩:=rfl
 conv at hE=>rhs;unfold buildE
 have hbad:∀ v,v≠0→buildE s d l k=v→jY s d l k=ext0∧buildE s d l k=v:=fun v h1 h2=>⟨by rw[hS,h2,Aj h1],h2⟩;have hgood:buildE s d l k=0→jY s d l k=⟨d.proj,s.ver,l,qq6 s d l k⟩:=fun h=>by rw[hS,h,Aq sMp]
 clear hS;generalize buildE s d l k=E at hE hbad hgood ⊢
 generalize jY s d l k=A at hbad hgood ⊢
 have hV:=qd7 s hs.1.2.1 hs.1.1 hs.2;refine yi [18] qC0 mixm sMp fun e _ hst=>yV ?_;unfold yW;simp only[JV,List.contains_cons,List.contains_nil,Nat.reduceBEq,Bool.or_false,Bool.or_true,Bool.true_or,Bool.false_or,cond_true,cond_false];refine sW ?_;refine C1.im hV rF rF ?_;simp only[tZ,↓un_u,simprocAttr,Bx,Bz];refine⟨fun h=>?_,fun h=>?_⟩
 ·obtain⟨a1,a2⟩:=hbad 13 (by decide) (by rw[hE,Aj h]);rw[a1,a2];exact .oA [] []
 rw[Aq (by rw[h];simp)] at hE;have hok:=KY.1 h;refine C1.im (qG8 s.sch hs.1 d l hl) rF rF ?_;simp only[tZ,↓un_u,simprocAttr,Bj,Aw];refine⟨fun h2=>?_,fun h2=>?_⟩
 ·obtain⟨a1,a2⟩:=hbad _ h2 (by rw[hE,Aj h2]);rw[a1,a2];exact .oA [] []
 rw[Aq (by rw[h2];simp)] at hE;obtain⟨hd0,hp0⟩:=zV7 h2;refine C1.im (Yx k 0) rF rF ?_;simp only[tZ,↓un_u,simprocAttr,tD,key0];refine⟨fun h3=>?_,fun h3=>?_⟩
 ·obtain⟨a1,a2⟩:=hbad 2 (by decide) (by rw[hE,Aj h3]);rw[a1,a2];exact .oA [] []
 rw[Aq h3] at hE;have hk:0≤k∧k<1152921504606846976:=by omega
 have a1:=hgood hE;rw[a1,hE];clear hbad hgood;have hpl:=qq5 hp0;obtain⟨_,hpk,_⟩:=Yq hp0;refine C1.im (ZA l oM) rF rF ?_;have hO:=YC s d hok hd0;have hoR:∀ r∈s.rows.filter (ownP s d),r∈s.rows:=fun r hr=>(Fz.1 hr).1;have hol:(s.rows.filter (ownP s d)).length≤12:=FZ (Fx _ _) h12;have hBS:=fun ys=>ju3 (ys:=ys) (l:=l) hok hd0 hk;generalize s.rows.filter (ownP s d)=R at hO hoR hol hBS ⊢
 refine sW ?_;refine⟨kR,?_⟩;refine C1.im hO rF rF ?_;refine sW ?_;have hrX:∀ r∈R,0<r.length∧r.length=s.sch.cols.length∧keyP (rowX s l k r):=fun r hr=>by
  have h1:=hok.rows _ (hoR r hr);have h2:=jB2 h1;have h3:=ju2 (n:=hd r) hk oM;exact⟨yG h1,(qh9 h1).2.1,zo9 s l k r,h3⟩
 refine qk mixm (α:=Nat) [45] (fun i=>i≤R.length) (fun i=>[(45,vI i)]) (fun i=>[(4096,.arr 5 [srcT s] false),(4104,.arr 4 [extT ext0] false),(36892,.arr 4 [.agg [vS d.proj,vI s.ver,vPs l,.asl 1 i]] false),(1,.arr 1 (((R.take i).map (rowX s l k)).map vIs) false)]) (fun i=>R.length-i) 0 oM ?_ fun i hi=>?_
 ·exact .oA [(4096,some 4096),(4104,some 4104),(36892,some 36892),(1,none)] []
 have htl:((R.take i).map (rowX s l k)).length=i:=by rw[BY,Cz];omega
 refine sD ?_;refine⟨fun h4=>?_,fun h4=>?_⟩
 ·have hi2:i<R.length:=by omega
  have hwi:=qh (i:=i) oM;have hrXs:(R.take (i+1)).map (rowX s l k)=(R.take i).map (rowX s l k)++[rowX s l k R[i]]:=by rw[qH hi2,By];rfl
  obtain⟨hrp,hrl,hrk⟩:=hrX _ (AX hi2);have hKey:=Yx k (hd R[i]);have hgi:=zS hrp;have hX:rowX s l k R[i]=keyI k (hd R[i])::l.map fun p=>qU s.sch p.col p.lev (R[i].getD p.col.toNat 0):=rfl;simp only[tZ,↓un_u,simprocAttr,Ax,qd hi2];refine⟨oM,?_⟩;generalize R[i]=r at hrXs hrp hrl hrk hKey hgi hX ⊢
  simp only[tZ,↓un_u,simprocAttr,hgi];refine⟨oM,?_⟩;refine C1.im hKey rF rF ?_;refine sW ?_;refine qk mixm (α:=Nat) [14,57] (fun n=>n≤l.length) (fun n=>[(14,.asl 53268 (n+1)),(57,vI n)]) (fun n=>[(4096,.arr 5 [srcT s] false),(4104,.arr 4 [extT ext0] false),(36892,.arr 4 [.agg [vS d.proj,vI s.ver,vPs l,.asl 1 i]] false),(1,.arr 1 (((R.take i).map (rowX s l k)).map vIs) false),(53268,.arr 1 ((keyI k (hd r)::(l.take n).map fun p=>qU s.sch p.col p.lev (r.getD p.col.toNat 0)).map vI) false)]) (fun n=>l.length-n) 0 oM ?_ fun n hn=>?_
  ·exact .oA [(4096,some 4096),(4104,some 4104),(36892,some 36892),(1,some 1),(53268,some 53268)] []
  have hnl:(l.take n).length=n:=by rw[Cz];omega
  refine sD ?_;refine⟨fun h5=>?_,fun h5=>?_⟩
  ·have hn2:n<l.length:=by omega
   have hwn:=qh (i:=n) oM;have hpn:=YQ (hpk _ (AX hn2));have hcl:l[n].col.toNat<r.length:=by omega
   have hgc:(r.map vI).getD l[n].col.toNat .junk=vI (r.getD l[n].col.toNat 0):=by rw[qd hcl,qg hcl]
   simp only[tZ,↓un_u,simprocAttr,Ax,qd hn2,hgc];refine⟨oM,oM,?_⟩;refine C1.im (qS1 s.sch hs.1 l[n].col l[n].lev _) rF rF ?_;simp only[tZ,↓un_u,simprocAttr,hwn];refine⟨⟨hnl,oM⟩,kR,n+1,oM,oM,?_⟩;rw[qH hn2,By];exact .oA [(4096,some 4096),(4104,some 4104),(36892,some 36892),(1,some 1),(53268,some 53268)] []
  ·have hnl2:n=l.length:=by omega
   subst hnl2;rw[Bw,← List.map_cons (f:=vI),← hX];have hXl:(rowX s l k r).length=l.length+1:=by rw[rowX,CJ,BY]
   have htl2:(R.take i).length=i:=by rw[Cz];omega
   rw[← hXl];refine W_le [(2,vPs l),(3,vI k),(4,.ptr 4096 1 0 0),(8,.ptr 4104 1 0 0),(11,.ptr 36892 1 0 0),(14,vIs (rowX s l k r)),(43,vRw R),(44,vI R.length),(45,vI i)] [(4096,.arr 5 [srcT s] false),(4104,.arr 4 [extT ext0] false),(36892,.arr 4 [.agg [vS d.proj,vI s.ver,vPs l,.asl 1 i]] false),(1,.arr 1 (((R.take i).map (rowX s l k)).map vIs) false)] ?_ ?_
   ·exact .oA [(4096,some 4096),(4104,some 4104),(36892,some 36892),(1,some 1)] [53268]
   simp only[tZ,↓un_u,simprocAttr,hwi];refine⟨⟨htl2,oM⟩,htl2,i+1,oM,oM,?_⟩;rw[hrXs,By];exact .oA [(4096,some 4096),(4104,some 4104),(36892,some 36892),(1,some 1)] []
 ·have hil:i=R.length:=by omega
  subst hil;rw[Bw];rw[Bw] at htl;obtain⟨ys,⟨hp,hso⟩,hSF⟩:=WD bidV keyP 97 (fun x y hx hy=>qz5 x y hx hy) (R.map (rowX s l k)) (fun x hx=>by
   obtain⟨r,hr,rfl⟩:=Cj.1 hx;exact (hrX r hr).2.2) oM
  have hso:=hso jQ2;have hpl2:=hp.length_eq;rw[← hpl2] at hso;have hy:=hBS ys hp hso;rw[htl] at hSF;refine C1.upd 1 1 _ _ hSF rF (by apply qA;intro _;exact⟨rfl,rfl⟩) (by apply qA;intro _;exact⟨rfl,rfl⟩) ⟨by simp [ltA,ltC,ltC0,TL.get],qe7 rF⟩ rF ?_;refine sW ?_;have hyl:ys.length=R.length:=by rw[hpl2,BY]
  refine⟨hyl,?_⟩;rw[← hy,← hyl];exact .oA [] [1]
end Go.Proofs
namespace Go.Proofs
open Go Go.TL
set_option maxRecDepth 4000
set_option maxHeartbeats 8000000
def Qb (s:Sch) (q:Qst) (k:Nat) (lev:Int) (x y:Int):Prop:=qU s k lev x=qU s k lev y∧jX5 s q k x y=true
structure FirstV (s:Sch) (q:Qst) (k:Nat) (lev:Int) (x y:Int):Prop where
 hx:jb s k x=true
 hy:jb s k y=true
 lt:x<y
 qb:Qb s q k lev x y
 least:∀ x' y',jb s k x'=true→jb s k y'=true→x'<y'→Qb s q k lev x' y'→x<x'∨(x=x'∧y≤y')
structure LeastX (s:Sch) (q:Qst) (k:Nat) (lev:Int) (x:Int):Prop where
 lo:(qj s k).low<x
 hi:x≤(qj s k).high
 qb:Qb s q k lev (x-1) x
 least:∀ y,(qj s k).low<y→y<x→¬ Qb s q k lev (y-1) y
end Go.Proofs
namespace Go.Proofs
open Go Go.TL
set_option maxRecDepth 4000
set_option maxHeartbeats 8000000
def qe0 (L:List Int) (f g:Int→Int) (v:Int):Int×Bool:=match L.filter (fun x=>f x==v) with
 | []=>(0,false)
 | x::r=>if (r.all fun y=>g y==g x)=true then (g x,true) else (0,false)
theorem zL0 {L:List Int} {f:Int→Int} {v:Int} {i:Nat} (h:i<L.length):(L.take (i+1)).filter (fun x=>f x==v)=(L.take i).filter (fun x=>f x==v)++if (f L[i]==v)=true then [L[i]] else []:=by
 rw[qH h,FY]
 congr 1
 split
 ·rename_i h2;rw[List.filter_cons_of_pos (p:=fun x=>f x==v) h2];rfl
 ·rename_i h2;rw[List.filter_cons_of_neg (p:=fun x=>f x==v) h2];rfl
def TcI (g:Int→Int) (M:List Int) (o:Int) (b:Bool):Prop:=(M=[]∧o=0∧b=false)∨∃ x r,M=x::r∧(∀ y∈r,g y=g x)∧o=g x∧b=true
theorem TcI.fin {L:List Int} {f g:Int→Int} {v o:Int} {b:Bool} (h:TcI g (L.filter fun x=>f x==v) o b):qe0 L f g v=(o,b):=by
 unfold qe0;rcases h with⟨h1,h2,h3⟩ | ⟨x,r,h1,h2,h3,h4⟩
 ·rw[h1,h2,h3]
 ·rw[h1,h3,h4];dsimp only;rw[Aj (Bk.2 fun y hy=>AY.2 (h2 y hy))]
theorem jb2 {L:List Int} {f g:Int→Int} {v:Int} {i:Nat} (h:i<L.length) {o:Int} (hI:TcI g ((L.take i).filter fun x=>f x==v) o true) (h1:(f L[i]==v)=true) (h2:g L[i]≠o):qe0 L f g v=(0,false):=by
 rcases hI with⟨_,_,h3⟩ | ⟨x,r,h3,h4,h5,_⟩
 ·cases h3
 ·have hL:L.filter (fun x=>f x==v)=x::(r++L[i]::(L.drop (i+1)).filter fun x=>f x==v):=by
   conv=>lhs;rw[← List.take_append_drop i L,FY,h3,zn4 h,List.filter_cons_of_pos (p:=fun x=>f x==v) h1]
   simp
  unfold qe0;rw[hL];dsimp only;rw[Aq];intro k;have:=Bk.1 k L[i] sMp;rw[AY,← h5] at this;exact h2 this
theorem qz6 (l:CodL) (hl:lstE l=0) (a v b:Int):Spc Tryz.prog 196 [cdlT l,vI a,vI v,vI b] [] (.tup [vI (qe0 (atL l (zf l-1)) (fun x=>upC l x a) (fun x=>upC l x b) v).1,vB (qe0 (atL l (zf l-1)) (fun x=>upC l x a) (fun x=>upC l x b) v).2]) []:=by
 have hlv:=Yp (l:=l);have hw:IntKind.i64.wrap (zf l-1)=zf l-1:=AK _ oM;have hLl:(atL l (zf l-1)).length≤60:=by
  obtain⟨_,d5,d6⟩:=ze hl;unfold atL;rw[Aq (by rw[hl];simp),BY];refine FZ (Fx _ _) ?_;rw[List.length_range];exact d6
 refine sIr qo3 fun e _ hst=>?_;unfold wQ;refine sW ?_;refine C1.im (yN l) rF rF ?_;simp only[tZ,↓un_u,simprocAttr,hw];refine C1.im (YU l (zf l-1)) rF rF ?_;generalize atL l (zf l-1)=L at hLl ⊢
 refine sW ?_;refine⟨kR,?_⟩;refine qk mixm (α:=Nat×Int×Bool) [10,11,21] (fun y=>y.1≤L.length∧TcI (fun x=>upC l x b) ((L.take y.1).filter fun x=>upC l x a==v) y.2.1 y.2.2) (fun y=>[(10,vI y.2.1),(11,vB y.2.2),(21,vI y.1)]) (fun y=>[(4096,.arr 2 [cdlT l] false)]) (fun y=>L.length-y.1) (0,0,false) ⟨sMp,.inl ⟨rfl,rfl,rfl⟩⟩ ?_ fun y hy=>?_
 ·exact .oA [(4096,some 4096)] []
 obtain⟨i,o,t⟩:=y;obtain⟨y1,y2⟩:=hy;dsimp only at y1 y2;refine sD ?_;refine⟨fun h3=>?_,fun h3=>?_⟩
 ·have hi2:i<L.length:=by omega
  have hwi:=qh (i:=i) oM;have hsp:=zL0 (f:=fun x=>upC l x a) (v:=v) hi2;have hbad:=fun e=>jb2 (f:=fun x=>upC l x a) (g:=fun x=>upC l x b) (v:=v) (o:=o) hi2 e;have sU:=fun c=>Kl l L[i] c;simp only[tZ,↓un_u,simprocAttr,Ax,qd hi2];refine⟨oM,?_⟩;refine C1.im (sU a) rF rF ?_;simp only[tZ,↓un_u,simprocAttr,Bj,Aw,hwi];generalize L[i]=x at hsp hbad sU ⊢
  refine⟨fun h4=>?_,fun h4=>?_⟩
  ·rw[Aq (by rw[AY];exact h4),CW] at hsp;refine⟨(i+1,o,t),⟨by dsimp only;omega,by dsimp only;rw[hsp];exact y2⟩,by dsimp only;omega,?_⟩;exact .oA [(4096,some 4096)] []
  ·rw[Aj (AY.2 h4)] at hsp;refine C1.im (sU b) rF rF ?_;simp only[tZ,↓un_u,simprocAttr,tD,Bj,Aw,hwi];refine⟨fun h5=>?_,fun h5=>?_⟩
   ·rw[h5.1] at y2;rw[hbad y2 (AY.2 h4) h5.2];exact .oA [] []
   ·refine⟨(i+1,upC l x b,true),⟨by dsimp only;omega,?_⟩,by dsimp only;omega,?_⟩
    ·dsimp only;rw[hsp];rcases y2 with⟨k1,k2,k3⟩ | ⟨z,r,k1,k2,k3,k4⟩
     ·exact .inr ⟨x,[],by rw[k1];rfl,sMp,rfl,rfl⟩
     ·right
      have hx:upC l x b=o:=by
       rw[k4] at h5;simpa using h5
      refine⟨z,r++[x],by rw[k1];rfl,fun y hy=>?_,by rw[hx,k3],rfl⟩;rcases Dz.1 hy with hy | hy
      ·exact k2 y hy
      ·rw[Ey.1 hy];dsimp only;rw[hx,k3]
    ·exact .oA [(4096,some 4096)] []
 ·have hil:i=L.length:=by omega
  subst hil;rw[Bw] at y2;rw[TcI.fin y2];exact .oA [] []
theorem qH0 (s:Sch) (hE:schE s=0) (k:Nat) (hk:k<s.cols.length) (h0:0<k) (h2:(qj s k).kind=2) (a v b:Int) (ha:0≤a∧a≤finI s k) (hb:0≤b∧b≤finI s k):Spc Tryz.prog 140 [schT s,vI k,vI a,vI v,vI b] []
 (let r:=qe0 (qT s k) (fun x=>upC (qK s k) x a) (fun x=>upC (qK s k) x b) v;.tup [vI (if r.2=true then r.1 else 0),vB r.2]) []:=by
 have hok:=qV hE;have hat:qj s k=s.cols[k]:=by rw[qj,qg hk]
 obtain⟨d1,d2⟩:=hok.cdl hk h2;have hls:qT s k=atL (qK s k) (zf (qK s k)-1):=rfl;have hcd:qK s k=s.lists.getD (qj s k).list.toNat default:=rfl;have hkk:=(za (hok.cs k hk)).2.2.2.1 h2;have sT:=kf s hE k;have e1:decide (a<0)=false:=Cq oM;have e2:decide (a>finI s k)=false:=Cq oM;have e3:decide (b<0)=false:=Cq oM;have e4:decide (b>finI s k)=false:=Cq oM;rw[hls];have sC:=qz6 (qK s k) d2 a v b;generalize qe0 (atL (qK s k) (zf (qK s k)-1)) (fun x=>upC (qK s k) x a) (fun x=>upC (qK s k) x b) v=r at sC ⊢
 rw[hat] at d1 h2 hcd hkk;rw[hcd,qg d1] at sC;dsimp only;refine sIr Qf fun e _ hst=>?_;unfold jw;refine sW ?_;refine C1.im sT rF rF ?_;simp only[tZ,↓un_u,simprocAttr,e1,e2,e3,e4,Ax,qd hk,AY,Ak];generalize s.cols[k]=x at d1 h2 hkk sC ⊢
 refine⟨oM,fun _=>?_,fun h=>absurd h2 h⟩;simp only[tZ,↓un_u,simprocAttr,qd d1];refine⟨oM,?_⟩;refine C1.im sC rF rF ?_;simp only[tZ,↓un_u,simprocAttr,Bx,Bz];refine⟨fun h=>?_,fun h=>?_⟩
 ·rw[h,Aq sMp];exact .oA [] []
 ·rw[h,Aj rfl];exact .oA [] []
end Go.Proofs
namespace Go.Proofs
open Go Go.TL
set_option maxRecDepth 4000
set_option maxHeartbeats 8000000
open So
def zg4 (c:Col) (a v b:Int):Int×Bool:=
 if 0<a∧v=kH then ((if b=0 then 0 else v),c.opt)
 else if (QN c a v).2.2=false then (0,false)
 else if b=0 then (0,true)
 else if a=0∧c.opt=true then (0,false)
 else (qJ (QN c a v).1 (qE c b)*qE c b,qJ (QN c a v).1 (qE c b)*qE c b==qJ (QN c a v).2.1 (qE c b)*qE c b)
theorem ju4 {c:Col} {lev v:Int} (h:lev=0∨(1≤qE c lev∧qE c lev≤1000000)) (hc : -1000000≤c.low∧c.low≤c.high∧c.high≤1000000) : -4000000≤(QN c lev v).1∧(QN c lev v).1≤4000000∧-4000000≤(QN c lev v).2.1∧(QN c lev v).2.1≤4000000:=by
 unfold QN;split
 ·dsimp only;omega
 ·split
  ·dsimp only;omega
  ·dsimp only;omega
theorem qc8 (c:Col) (a v b:Int) (hc : -1000000≤c.low∧c.low≤c.high∧c.high≤1000000)
 (ha:a=0∨(1≤a∧a≤c.widths.length∧c.widths.length≤4∧1≤qE c a∧qE c a≤1000000))
 (hb:b=0∨(1≤b∧b≤c.widths.length∧c.widths.length≤4∧1≤qE c b∧qE c b≤1000000)) :
 Spc Tryz.prog 197 [colT c,vI a,vI v,vI b] [] (.tup [vI (zg4 c a v b).1,vB (zg4 c a v b).2]) []:=by
 have hm:kH = -1099511627776:=rfl;have hT:zg4 c a v b=if 0<a∧v=kH then ((if b=0 then 0 else v),c.opt)
  else if (QN c a v).2.2=false then (0,false)
  else if b=0 then (0,true)
  else if a=0∧c.opt=true then (0,false)
  else (qJ (QN c a v).1 (qE c b)*qE c b,qJ (QN c a v).1 (qE c b)*qE c b==qJ (QN c a v).2.1 (qE c b)*qE c b):=rfl
 have hS:=qs1 c a v ha;have hr:=ju4 (v:=v) (show a=0∨(1≤qE c a∧qE c a≤1000000) by omega) hc;generalize QN c a v=z at hT hS hr;obtain⟨lo,hi,ok⟩:=z;dsimp only at hT hS hr;rw[hT];by_cases h1:0<a∧v=kH
 ·rw[Aj h1];have q1:decide (a>0)=true:=Cx h1.1;have q2:(v == -1099511627776)=true:=AY.2 (h1.2.trans hm);refine sIr yR fun e _ hst=>?_;unfold ja;simp only[tZ,↓un_u,simprocAttr,q1,q2,AY,Ak];refine⟨fun h=>?_,fun h=>?_⟩
  ·rw[Aj h];refine⟨kR,?_⟩;exact .oA [] []
  ·rw[Aq h];refine⟨kR,?_⟩;exact .oA [] []
 rw[Aq h1];have q1:(decide (a>0)&&(v == -1099511627776))=false:=by
  rw[Bool.eq_false_iff];intro k;rw[Bq,AZ,AY] at k;exact h1 k
 refine sIr yR fun e _ hst=>?_;unfold ja;simp only[tZ,↓un_u,simprocAttr,q1];refine C1.im hS rF rF ?_;simp only[tZ,↓un_u,simprocAttr,Bx,Bz];refine⟨fun h2=>?_,fun h2=>⟨fun h3=>?_,fun h3=>⟨fun h4=>?_,fun h4=>?_⟩⟩⟩
 ·rw[Aj h2];exact .oA [] []
 ·rw[Aq (by rw[h2];simp),Aj (AY.1 h3)];exact .oA [] []
 ·rw[Bq,AY] at h4;rw[Aq (by rw[h2];simp),Aq (Ak.1 h3),Aj h4];exact .oA [] []
 ·have h5:¬ (a=0∧c.opt=true):=fun k=>by
   rw[← AY,← Bq,h4] at k;cases k
  obtain⟨l1,l2,l3,l4,l5⟩:=hb.resolve_left (Ak.1 h3);have hW:=yO c b ⟨l1,l2⟩ oM;have hD1:=kj lo (qE c b) oM oM;have hD2:=kj hi (qE c b) oM oM;rw[Aq (by rw[h2];simp),Aq (Ak.1 h3),Aq h5];generalize qE c b=w at hW hD1 hD2 l4 l5 ⊢
  refine C1.im hW rF rF ?_;refine sW ?_;refine C1.im hD1 rF rF ?_;refine sW ?_;refine C1.im hD1 rF rF ?_;refine sW ?_;refine C1.im hD2 rF rF ?_;refine sW ?_;exact .oA [] []
theorem ju5 {c:Col} (h:measE c=0) : -1000000≤c.low∧c.low≤c.high∧c.high≤1000000:=by
 unfold measE at h;split at h
 ·cases h
 ·rename_i h1;rw[Yr,Yr] at h1;omega
def qS6 (s:Sch) (c a v b:Int):Int×Bool:=
 if inB a 0 (finI s c)=false∨inB b 0 (finI s c)=false then (0,false)
 else
  let r:=if (qj s c.toNat).kind=2 then qe0 (qT s c.toNat) (fun x=>upC (qK s c.toNat) x a) (fun x=>upC (qK s c.toNat) x b) v else zg4 (qj s c.toNat) a v b
  (if r.2=true then r.1 else 0,r.2)
theorem YD (s:Sch) (hE:schE s=0) (c a v b:Int):Spc Tryz.prog 140 [schT s,vI c,vI a,vI v,vI b] [] (.tup [vI (qS6 s c a v b).1,vB (qS6 s c a v b).2]) []:=by
 have hok:=qV hE;by_cases hin:inB a 0 (finI s c)=false∨inB b 0 (finI s c)=false
 ·have hT:qS6 s c a v b=(0,false):=by rw[qS6,Aj hin]
  have hsm : -1≤finI s c:=by
   by_cases hc:1≤c∧c<s.cols.length
   ·obtain⟨i,rfl⟩:=AJ (show 0≤c by omega);have:=jP8 hE (k:=i) oM oM;omega
   ·rw[finI,Aj oM];omega
  rw[hT];have sT:=kf s hE c;refine sIr Qf fun e _ hst=>?_;unfold jw;refine sW ?_;refine C1.im sT rF rF ?_;refine sD ?_;have hh:((a<0∨a>finI s c)∨b<0)∨b>finI s c:=by
   rw[Yr,Yr] at hin;omega
  refine⟨fun _=>?_,fun k=>absurd hh oM⟩;exact .oA [] []
 ·have hA:inB a 0 (finI s c)=true:=by cases h:inB a 0 (finI s c) with
   | true=>rfl
   | false=>exact absurd (.inl h) hin
  have hB:inB b 0 (finI s c)=true:=by cases h:inB b 0 (finI s c) with
   | true=>rfl
   | false=>exact absurd (.inr h) hin
  rw[Qy] at hA hB;obtain⟨_,c1,c2,hfin⟩:=wW (s:=s) (c:=c) oM;obtain⟨k,rfl⟩:=AJ (show 0≤c by omega);have hk:k<s.cols.length:=by omega
  have hT:qS6 s k a v b=(let r:=if (qj s k).kind=2 then qe0 (qT s k) (fun x=>upC (qK s k) x a) (fun x=>upC (qK s k) x b) v else zg4 (qj s k) a v b
   (if r.2=true then r.1 else 0,r.2)):=by rw[qS6,Aq hin,Ax]
  by_cases h2:(qj s k).kind=2
  ·rw[hT,Aj h2];exact qH0 s hE k hk oM h2 a v b hA hB
  ·rw[hT,Aq h2];have hat:qj s k=s.cols[k]:=by rw[qj,qg hk]
   have hkk:=za (hok.cs k hk);have h3:(qj s k).kind=3:=by have:=hkk.2.2.1 oM;omega
   have hm:=hkk.2.2.2.2 h3;have hwl : -1000000≤(qj s k).low∧(qj s k).low≤(qj s k).high∧(qj s k).high≤1000000:=ju5 hm;have hf:finI s k=(qj s k).widths.length:=by rw[finI,Aq oM,Ax,Aq h2]
   have hw:=fun lev (h1:0≤lev∧lev≤finI s k)=>show lev=0∨(1≤lev∧lev≤(qj s k).widths.length∧(qj s k).widths.length≤4∧1≤qE (qj s k) lev∧qE (qj s k) lev≤1000000) by
    rcases Int.lt_or_le 0 lev with q | q
    ·right
     obtain⟨w1,w2,_,w4,_⟩:=hok.wid hk oM h2 (lev:=lev) oM;exact⟨oM,oM,w4,w1,w2⟩
    ·left;omega
   have sM:=qc8 (qj s k) a v b hwl (hw a hA) (hw b hB);have sT:=kf s hE k;have e1:decide (a<0)=false:=Cq oM;have e2:decide (a>finI s k)=false:=Cq oM;have e3:decide (b<0)=false:=Cq oM;have e4:decide (b>finI s k)=false:=Cq oM;generalize zg4 (qj s k) a v b=r at sM ⊢
   rw[hat] at sM h2;dsimp only;refine sIr Qf fun e _ hst=>?_;unfold jw;refine sW ?_;refine C1.im sT rF rF ?_;simp only[tZ,↓un_u,simprocAttr,e1,e2,e3,e4,Ax,qd hk,AY,Ak];generalize s.cols[k]=x at h2 sM ⊢
   refine⟨oM,fun h=>absurd h h2,fun _=>?_⟩;refine C1.im sM rF rF ?_;simp only[tZ,↓un_u,simprocAttr,Bx,Bz];refine⟨fun h=>?_,fun h=>?_⟩
   ·rw[h,Aq sMp];exact .oA [] []
   ·rw[h,Aj rfl];exact .oA [] []
end Go.Proofs
namespace Go.Proofs
open Go Go.TL
set_option maxRecDepth 4000
set_option maxHeartbeats 8000000
theorem zL1 {α:Type} {p:α→Bool} {l:List α} (h:l.any p=true):∃ (i:Nat) (hi:i<l.length),idxI p l=i∧p l[i]=true:=by
 obtain⟨x,hx,hp⟩:=DJ.1 h;have hlt:=List.findIdx_lt_length_of_exists ⟨x,hx,hp⟩;exact⟨l.findIdx p,hlt,by rw[idxI,Aj h],List.findIdx_getElem⟩
end Go.Proofs
namespace Go.Proofs
open Go Go.TL
set_option maxRecDepth 4000
set_option maxHeartbeats 8000000
open So
def fitV (s:Sch) (ps:List Pk) (row:List Int) (i:Nat):Bool:=(ja9 s (ps.getD i default).col.toNat (ps.getD i default).lev (row.getD (i+1) 0)).2
def fitX (s:Sch) (ps:List Pk) (row:List Int):Bool:=(row.length==ps.length+1)&&decide (0≤hd row)&&decide (hd row≤1048575)&&(List.range ps.length).all (fitV s ps row)
theorem jb3 {n:Nat} {p:Nat→Bool}:(List.range (n+1)).all p=((List.range n).all p&&p n):=by
 rw[List.range_succ,FK];simp
theorem ju6 {n m:Nat} {p:Nat→Bool} (h:n<m) (hp:p n=false):(List.range m).all p=false:=by
 rw[List.all_eq_false];exact⟨n,Dk.2 h,by rw[hp];simp⟩
theorem zb5 (s:Sch) (ps:List Pk) (row:List Int) (hp:kp s ps=0) (hr:row.length<4611686018427387904):Spc Tryz.prog 101 [schT s,vPs ps,vIs row] [] (vB (fitX s ps row)) []:=by
 obtain⟨hE,hpk,_⟩:=Yq hp;have hpl:=qq5 hp;have hwl:=qh (i:=ps.length) oM;by_cases hl:row.length=ps.length+1
 ·have h0:0<row.length:=by omega
  have hgi:=zS h0;have q1:((row.length:Int) != ((ps.length+1:Nat):Int))=false:=by rw[Aw];omega
  have hX:fitX s ps row=(decide (0≤hd row)&&decide (hd row≤1048575)&&(List.range ps.length).all (fitV s ps row)):=by
   rw[fitX,AY.2 hl,Fq]
  rw[hX];refine sIr Zd fun e _ hst=>?_;unfold jP;simp only[tZ,↓un_u,simprocAttr,hwl,q1,hgi,tD,gt_iff_lt];refine⟨oM,oM,fun h=>?_,fun h=>?_⟩
  ·rw[show (decide (0≤hd row)&&decide (hd row≤1048575))=false from by
    rw[Bool.eq_false_iff];intro k;simp only[Bq,AZ] at k;omega,Bool.false_and]
   exact .oA [] []
  rw[show (decide (0≤hd row)&&decide (hd row≤1048575))=true from by simp only[Bq,AZ];omega,Fq];refine qk mixm (α:=Nat) [31] (fun i=>i≤ps.length∧((List.range i).all (fitV s ps row)=true)) (fun i=>[(31,vI i)]) (fun i=>[(4096,.arr 2 [schT s] false)]) (fun i=>ps.length-i) 0 ⟨oM,?_⟩ ?_ fun i hi=>?_
  ·rfl
  ·exact .oA [(4096,some 4096)] []
  simp only[tZ,↓un_u,simprocAttr,AZ,Ay];refine⟨fun h=>?_,fun h=>?_⟩
  ·have hi2:i<ps.length:=by omega
   have hpi:=YQ (hpk _ (AX hi2));obtain⟨c,hc⟩:=AJ (show 0≤ps[i].col by omega);have hwi:=qh (i:=i) oM;have hs:=zp7 s hE c oM oM ps[i].lev (row.getD (i+1) 0) (by rw[hc] at hpi;omega);have hrl:i+1<row.length:=by omega
   have hgr:(row.map vI).getD (i+1) .junk=vI (row.getD (i+1) 0):=by rw[qd hrl,qg hrl]
   have hV:fitV s ps row i=(ja9 s c ps[i].lev (row.getD (i+1) 0)).2:=by rw[fitV,qg hi2,hc,Ax]
   have hi2:i<ps.length:=by omega
   have hwi:=qh (i:=i) oM;simp only[tZ,↓un_u,simprocAttr,Ax,qd hi2,hwi,hc,hgr];refine⟨oM,oM,?_⟩;refine C1.im hs rF rF ?_;simp only[tZ,↓un_u,simprocAttr,Bx,Bz,hwi];refine⟨kR,fun h6=>?_,fun h6=>?_⟩
   ·rw[ju6 hi2 (hV.trans h6)];exact .oA [] []
   ·refine⟨i+1,⟨oM,by rw[jb3,hi.2,hV,h6];rfl⟩,oM,?_⟩;exact .oA [(4096,some 4096)] []
  ·have hi2:i=ps.length:=by omega
   subst hi2;rw[hi.2];exact .oA [] []
 ·have q1:((row.length:Int) != ((ps.length+1:Nat):Int))=true:=by rw[Bj];omega
  have hX:fitX s ps row=false:=by
   rw[fitX,Ak.2 hl]
   rfl
  rw[hX];by_cases h0:0<row.length
  ·have hgi:=zS h0;refine sIr Zd fun e _ hst=>?_;unfold jP;simp only[tZ,↓un_u,simprocAttr,hwl,q1,hgi];exact .oA [] []
  ·obtain rfl:row=[]:=Dy.1 oM;have hb1:∀ n,binR BinOp.lss false (((List.map vI ([]:List Int)).getD 0 T.junk).cells.getD 0 T.junk) (T.v (Value.int IntKind.i64 n))=none:=fun _=>rfl;have hb2:∀ n,binR BinOp.gtr false (((List.map vI ([]:List Int)).getD 0 T.junk).cells.getD 0 T.junk) (T.v (Value.int IntKind.i64 n))=none:=fun _=>rfl;have q0:((0:Int) != ((ps.length+1:Nat):Int))=true:=by rw[Bj];omega
   refine sIr Zd fun e _ hst=>?_;unfold jP;simp only[tZ,↓un_u,simprocAttr,hwl,q0,hb1,hb2];exact .oA [] []
theorem zL2 {s:Sch} {ps:List Pk} {row:List Int} (h:fitX s ps row=true):row.length=ps.length+1∧0≤hd row∧hd row≤1048575:=by
 unfold fitX at h;simp only[Bq,AY,AZ] at h;exact⟨h.1.1.1,h.1.1.2,h.1.2⟩
def zL3 (s:Sch) (x:Ext) (i:Nat):Int:=if fitX s x.picks (x.rows.getD i [])=false then 9 else if 0<i∧hd (x.rows.getD i [])≤hd (x.rows.getD (i-1) []) then 10 else 0
def extE (s:Sch) (x:Ext):Int:=if schE s≠0 then schE s else if zT x.proj=false then 3 else if x.ver<0∨x.ver>300 then 13 else if kp s x.picks≠0 then kp s x.picks else if x.rows.length>200 then 1 else zm (zL3 s x) x.rows.length
theorem YE (s:Sch) (hs:jI s) (x:Ext) (hp:x.picks.length<4611686018427387904) (hr:∀ r∈x.rows,r.length<4611686018427387904):Spc Tryz.prog 39 [schT s,extT x] [] (vI (extE s x)) []:=by
 refine sIr qC2 fun e _ hst=>?_;unfold yX;refine sW ?_;refine C1.im (zK s hs.2.1 hs.1) rF rF ?_;simp only[tZ,↓un_u,simprocAttr,Bj,Aw];refine⟨fun h=>?_,fun h=>?_⟩
 ·rw[extE,Aj h];exact .oA [] []
 rw[extE,Aq (by rw[h];simp)];refine C1.im (ka x.proj) rF rF ?_;simp only[tZ,↓un_u,simprocAttr,tD,Bx,Bz,gt_iff_lt];refine⟨fun h2=>?_,fun h2=>⟨fun h3=>?_,fun h3=>?_⟩⟩
 ·rw[Aj h2];exact .oA [] []
 ·rw[Aq (by rw[h2];simp),Aj h3];exact .oA [] []
 rw[Aq (by rw[h2];simp),Aq oM];refine C1.im (qd8 s hs x.picks hp) rF rF ?_;simp only[tZ,↓un_u,simprocAttr,Bj,Aw];refine⟨fun h4=>?_,fun h4=>?_⟩
 ·rw[Aj h4];exact .oA [] []
 rw[Aq (by rw[h4];simp)];simp only[tZ,↓un_u,simprocAttr,tD,gt_iff_lt];refine⟨fun h5=>?_,fun h5=>?_⟩
 ·rw[Aj oM];exact .oA [] []
 rw[Aq oM];generalize hE:zm (zL3 s x) x.rows.length=E;refine qk mixm (α:=Nat) [42] (fun i=>i≤x.rows.length∧(zm (zL3 s x) i=0)) (fun i=>[(42,vI i)]) (fun i=>[(4096,.arr 2 [schT s] false),(4100,.arr 4 [extT x] false)]) (fun i=>x.rows.length-i) 0 ⟨oM,?_⟩ ?_ fun i hi=>?_
 ·rfl
 ·exact .oA [(4096,some 4096),(4100,some 4100)] []
 simp only[tZ,↓un_u,simprocAttr,AZ,Ay];refine⟨fun h=>?_,fun h=>?_⟩
 ·have hi2:i<x.rows.length:=by omega
  have hg:x.rows.getD i []=x.rows[i]:=qg hi2;have hstep:=jy hi.2 hi2;have hnext:=zC hi.2;have hA:zL3 s x i=if fitX s x.picks x.rows[i]=false then 9 else if 0<i∧hd x.rows[i]≤hd (x.rows.getD (i-1) []) then 10 else 0:=by rw[zL3,hg]
  have hprev:0<i→fitX s x.picks (x.rows.getD (i-1) [])=true:=fun h0=>by
   have:=yF hi.2 (i-1) oM;unfold zL3 at this;split at this
   ·cases this
   ·rename_i k;simpa using k
  rw[hE] at hstep;have hF:=zb5 s x.picks x.rows[i] h4 (hr _ (AX hi2));obtain⟨k,hk1,hk2,hk3⟩:∃ k:Nat,(IntKind.i64.wrap ((i:Int)-1)).toNat=k∧k<x.rows.length∧(i=0∧k=0∨0<i∧k+1=i∧IntKind.i64.wrap ((i:Int)-1)=k):=by
   rcases DQ i with h0 | h0
   ·subst h0;exact⟨0,by decide,hi2,.inl ⟨rfl,rfl⟩⟩
   ·have e:=zG h0 (show i<4611686018427387904 by omega);exact⟨i-1,by rw[e];omega,oM,.inr ⟨h0,oM,e⟩⟩
  have hwi:=qh (i:=i) oM;have hi2:i<x.rows.length:=by omega
  have hwi:=qh (i:=i) oM;simp only[tZ,↓un_u,simprocAttr,Ax,qd hi2,hwi];refine⟨oM,?_⟩;refine C1.im hF rF rF ?_;simp only[tZ,↓un_u,simprocAttr,Bx,Bz];refine⟨fun h6=>?_,fun h6=>?_⟩
  ·rw[Aj h6] at hA;rw[hstep (by rw[hA];simp),hA];exact .oA [] []
  rw[Aq (by rw[h6];simp)] at hA;obtain⟨f1,f2,f3⟩:=zL2 h6;have hip:0<x.rows[i].length:=by omega
  have hkp:0<x.rows[k].length:=by
   rcases hk3 with⟨a,b⟩ | ⟨a,b,_⟩
   ·subst a;subst b;exact hip
   ·have:=(zL2 (hprev a)).1;rw[show i-1=k by omega,qg hk2] at this;omega
  have hgk:0<i→x.rows.getD (i-1) []=x.rows[k]:=fun h0=>by
   rw[show i-1=k by omega,qg hk2]
  simp only[tZ,↓un_u,simprocAttr,hk1,qd hk2,zS hip,zS hkp,tD,gt_iff_lt,hwi];refine⟨fun _=>by omega,fun _=>by omega,fun _=>by omega,kR,fun h7=>?_,fun h7=>?_⟩
  ·have h8:0<i:=by omega
   rw[Aj ⟨h8,by rw[hgk h8];exact h7.2⟩] at hA;rw[hstep (by rw[hA];simp),hA];exact .oA [] []
  ·rw[Aq (fun k=>by
    have h8:=k.1;rw[hgk h8] at k;omega)] at hA
   refine⟨i+1,⟨oM,by rw[hnext,hA]⟩,oM,?_⟩;exact .oA [(4096,some 4096),(4100,some 4100)] []
 ·have hi2:i=x.rows.length:=by omega
  subst hi2;rw[← hE,hi.2];exact .oA [] []
theorem jQ5 {s:Sch} {x:Ext} (h:extE s x=0):schE s=0∧zT x.proj=true∧(0≤x.ver∧x.ver≤300)∧kp s x.picks=0∧x.rows.length≤200∧(∀ i (hi:i<x.rows.length),fitX s x.picks x.rows[i]=true)∧AscR x.rows:=by
 unfold extE at h;split at h
 ·rename_i h1;exact absurd h h1
 rename_i h1;split at h
 ·cases h
 rename_i h2;split at h
 ·cases h
 rename_i h3;split at h
 ·rename_i h4;exact absurd h h4
 rename_i h4;split at h
 ·cases h
 rename_i h5;have key:∀ i (hi:i<x.rows.length),fitX s x.picks x.rows[i]=true∧¬ (0<i∧hd (x.rows.getD i [])≤hd (x.rows.getD (i-1) [])):=fun i hi=>by
  have:=yF h i hi;unfold zL3 at this;split at this
  ·cases this
  ·rename_i k;rw[qg hi] at k;split at this
   ·cases this
   ·rename_i k2;exact⟨by simpa using k,k2⟩
 refine⟨AQ h1,by simpa using h2,oM,AQ h4,oM,fun i hi=>(key i hi).1,ja7 (f:=hd) fun i h0 hi=>?_⟩;have:=(key i hi).2;have e1:x.rows.getD i default=x.rows.getD i []:=rfl;have e2:x.rows.getD (i-1) default=x.rows.getD (i-1) []:=rfl;rw[e1,e2];omega
def knwP (x:Ext) (r:Nat) (c:Int):Int×Int:=if (x.picks.any fun p=>p.col==c)=true then ((x.picks.getD (x.picks.findIdx fun p=>p.col==c) default).lev,(x.rows.getD r []).getD ((x.picks.findIdx fun p=>p.col==c)+1) 0) else (0,0)
def knwI (s:Sch) (x:Ext) (r:Nat) (c lev:Int):Int×Bool:=qS6 s c (knwP x r c).1 (knwP x r c).2 lev
theorem qz7 (p:Pk) (c:Int):Spc Tryz.prog 175 [pkT p,.ip [vI c]] [] (vB (p.col==c)) []:=by
 refine sIr qn9 fun e _ hst=>?_;unfold wO;refine sW ?_;exact .oA [] []
theorem qS7 (s:Sch) (hE:schE s=0) (x:Ext) (r:Nat) (hr:r<x.rows.length) (hrl:x.rows[r].length=x.picks.length+1) (hpl:x.picks.length≤1000) (c lev:Int):Spc Tryz.prog 108 [schT s,extT x,vI r,vI c,vI lev] [] (.tup [vI (knwI s x r c lev).1,vB (knwI s x r c lev).2]) []:=by
 have sI:=ya (fun p=>p.col==c) 175 [.ip [vI c]] rfl x.picks (fun p _=>qz7 p c) oM;cases ha:x.picks.any fun p=>p.col==c with
 | false=>
   have h0:idxI (fun p:Pk=>p.col==c) x.picks = -1:=by rw[idxI,Aq (by rw[ha];simp)]
   have hT:=YD s hE c 0 0 lev;have hK:knwI s x r c lev=qS6 s c 0 0 lev:=by rw[knwI,knwP,Aq (by rw[ha];simp)]
   rw[hK];generalize qS6 s c 0 0 lev=w at hT ⊢
   rw[h0] at sI;refine sIr Wg fun e _ hst=>?_;unfold kO;refine sW ?_;refine C1.lend [4104] sI ?_ rF rF ?_
   ·all_goals (try simp only[tL,simprocAttr,By,List.map_cons,List.map_nil,BW,Cy])
    all_goals (try (repeat' (first | exact qZ | (apply zk;intro _;exact⟨rfl,rfl⟩) | (apply qA;intro _;exact⟨rfl,rfl⟩) | with_reducible apply qW | with_reducible refine qQ ⟨rfl,rfl⟩ ?_ | exact qY | with_reducible apply qR | with_reducible refine qX ⟨rfl,rfl,?_⟩ ?_ | with_reducible apply Az | exact qS rfl | exact qS (by assumption) | (refine⟨⟨?_,rfl,?_,rfl,?_⟩,trivial⟩ <;> first | (simp;done) | (apply qA;intro _;exact⟨rfl,rfl⟩)) | trivial | rfl | (rw[qh oM]) | omega)))
    all_goals (simp only[ltP];exact⟨rfl,by decide,rfl,qQ ⟨rfl,rfl⟩ qY⟩)
   refine sW ?_;refine C1.im hT rF rF ?_;refine sW ?_;exact .oA [] []
 | true=>
   obtain⟨i,hi,e1,_⟩:=zL1 ha;have e2:idxI (fun p:Pk=>p.col==c) x.picks=(x.picks.findIdx fun p=>p.col==c:Nat):=by rw[idxI,Aj ha]
   have e3:(x.picks.findIdx fun p=>p.col==c)=i:=by omega
   have hK:knwI s x r c lev=qS6 s c x.picks[i].lev (x.rows[r].getD (i+1) 0) lev:=by rw[knwI,knwP,Aj ha,e3,qg hi,qg hr]
   have hT:=YD s hE c x.picks[i].lev (x.rows[r].getD (i+1) 0) lev;rw[hK];generalize qS6 s c x.picks[i].lev (x.rows[r].getD (i+1) 0) lev=w at hT ⊢
   rw[e1] at sI;have hwi:=qh (i:=i) oM;have hil:i+1<x.rows[r].length:=by omega
   have hgr:(x.rows[r].map vI).getD (i+1) .junk=vI (x.rows[r].getD (i+1) 0):=by rw[qd hil,qg hil]
   refine sIr Wg fun e _ hst=>?_;unfold kO;refine sW ?_;refine C1.lend [4104] sI ?_ rF rF ?_
   ·all_goals (try simp only[tL,simprocAttr,By,List.map_cons,List.map_nil,BW,Cy])
    all_goals (try (repeat' (first | exact qZ | (apply zk;intro _;exact⟨rfl,rfl⟩) | (apply qA;intro _;exact⟨rfl,rfl⟩) | with_reducible apply qW | with_reducible refine qQ ⟨rfl,rfl⟩ ?_ | exact qY | with_reducible apply qR | with_reducible refine qX ⟨rfl,rfl,?_⟩ ?_ | with_reducible apply Az | exact qS rfl | exact qS (by assumption) | (refine⟨⟨?_,rfl,?_,rfl,?_⟩,trivial⟩ <;> first | (simp;done) | (apply qA;intro _;exact⟨rfl,rfl⟩)) | trivial | rfl | (rw[qh oM]) | omega)))
    all_goals (simp only[ltP];exact⟨rfl,by decide,rfl,qQ ⟨rfl,rfl⟩ qY⟩)
   have q1:decide ((i:Int)<0)=false:=Cq oM;have hgi2:=qd (f:=pkT) hi;simp only[tZ,↓un_u,simprocAttr,q1,Ax,hgi2,qd hr,hwi,hgr];refine⟨oM,oM,oM,?_⟩;refine C1.im hT rF rF ?_;refine sW ?_;refine⟨kR,?_⟩;exact .oA [] []
def valI (s:Sch) (x:Ext) (r c lev:Int):Int×Bool:=if extE s x≠0∨r<0∨r≥x.rows.length then (0,false) else knwI s x r.toNat c lev
theorem qS8 (s:Sch) (hs:jI s) (x:Ext) (hp:x.picks.length<4611686018427387904) (hr:∀ r∈x.rows,r.length<4611686018427387904) (r c lev:Int):Spc Tryz.prog 43 [schT s,extT x,vI r,vI c,vI lev] [] (.tup [vI (valI s x r c lev).1,vB (valI s x r c lev).2]) []:=by
 have hV:valI s x r c lev=if extE s x≠0∨r<0∨r≥x.rows.length then (0,false) else knwI s x r.toNat c lev:=rfl
 have hC:=YE s hs x hp hr;by_cases h:extE s x≠0∨r<0∨r≥x.rows.length
 ·rw[hV,Aj h];refine sIr Wf fun e _ hst=>?_;unfold kN;refine sW ?_;refine C1.im hC rF rF ?_;simp only[tZ,↓un_u,simprocAttr,tD,Bj,Aw];refine⟨fun _=>?_,fun k=>by omega⟩;exact .oA [] []
 ·obtain⟨hE,_,_,hp0,_,hf,_⟩:=jQ5 (s:=s) (x:=x) oM;obtain⟨j,rfl⟩:=AJ (show 0≤r by omega);have hj:j<x.rows.length:=by omega
  have hpl:=qq5 hp0;have hK:=qS7 s hE x j hj (zL2 (hf j hj)).1 oM c lev;rw[hV,Aq h,Ax];generalize knwI s x j c lev=w at hK ⊢
  refine sIr Wf fun e _ hst=>?_;unfold kN;refine sW ?_;refine C1.im hC rF rF ?_;simp only[tZ,↓un_u,simprocAttr,tD,Bj,Aw];refine⟨fun k=>by omega,fun _=>?_⟩;refine C1.im hK rF rF ?_;refine sW ?_;exact .oA [] []
def nrwX (x:Ext) (ks:List Int):Ext:=⟨x.proj,x.ver,x.picks,x.rows.filter fun r=>decide (0<r.length)&&ks.contains (hd r)⟩
end Go.Proofs
namespace Go.Proofs
open Go Go.TL
set_option maxRecDepth 4000
set_option maxHeartbeats 8000000
open So
def nrwP (ks:List Int) (r:List Int):Bool:=decide (0<r.length)&&ks.contains (hd r)
theorem qH1 (x:Ext) (ks:List Int) (hk:ks.length<4611686018427387904) (hp:x.picks.length*16≤140737488355328) (hrl:x.rows.length≤1000000) (hr:∀ r∈x.rows,r.length*8≤140737488355328):Spc Tryz.prog 41 [extT x,vIs ks] [] (extT (nrwX x ks)) []:=by
 rw[show nrwX x ks=⟨x.proj,x.ver,x.picks,x.rows.filter (nrwP ks)⟩ from rfl];refine sIr qu4 fun e _ hst=>?_;unfold yn;refine sW ?_;refine C1.im (ZA x.picks hp) rF rF ?_;refine sW ?_;refine⟨kR,?_⟩;refine qk mixm (α:=Nat) [19] (fun i=>i≤x.rows.length) (fun i=>[(19,vI i)]) (fun i=>[(4100,.arr 4 [extT ext0] false),(8224,.arr 4 [.agg [vS x.proj,vI x.ver,vPs x.picks,.asl 1 ((x.rows.take i).filter (nrwP ks)).length]] false),(1,.arr 1 (((x.rows.take i).filter (nrwP ks)).map vIs) false)]) (fun i=>x.rows.length-i) 0 oM ?_ fun i hi=>?_
 ·exact .oA [(4100,some 4100),(8224,some 8224),(1,none)] []
 have hfl:=Fx (nrwP ks) (x.rows.take i);rw[Cz] at hfl;refine sD ?_;refine⟨fun h4=>?_,fun h4=>?_⟩
 ·have hi2:i<x.rows.length:=by omega
  have hwi:=qh (i:=i) oM;have hsp:(x.rows.take (i+1)).filter (nrwP ks)=(x.rows.take i).filter (nrwP ks)++if nrwP ks x.rows[i]=true then [x.rows[i]] else []:=by
   rw[qH hi2,FY,List.filter_cons,List.filter_nil]
  have hrr:=hr _ (AX hi2);have hCl:=qr7 x.rows[i] oM;simp only[tZ,↓un_u,simprocAttr,Ax,qd hi2];refine⟨oM,?_⟩;generalize x.rows[i]=r at hsp hrr hCl ⊢
  by_cases h0:0<r.length
  ·have hgi:=zS h0;have hCt:=ke ks (hd r) hk;have q1:decide ((r.length:Int)>0)=true:=Cx oM;have hP:nrwP ks r=ks.contains (hd r):=by rw[nrwP,Cx h0,Fq]
   rw[hP] at hsp;simp only[tZ,↓un_u,simprocAttr,hgi,q1];refine⟨oM,?_⟩;refine C2.im (fun _=>hCt) (fun _=>rfl) rF ?_;simp only[tZ,↓un_u,simprocAttr,hwi];refine⟨fun h6=>?_,fun h6=>?_⟩
   ·rw[Aj h6] at hsp;refine C1.im hCl rF rF ?_;simp only[tZ,↓un_u,simprocAttr,hwi];have hspl:=congrArg List.length hsp;simp only[AW,CJ,Cw] at hspl;refine⟨oM,kR,i+1,oM,oM,?_⟩;rw[hsp];exact .oA [(4100,some 4100),(8224,some 8224),(1,some 1)] []
   ·rw[Aq (by rw[h6];simp),CW] at hsp;refine⟨i+1,oM,oM,?_⟩;rw[hsp];exact .oA [(4100,some 4100),(8224,some 8224),(1,some 1)] []
  ·have q1:decide ((r.length:Int)>0)=false:=Cq oM;have hP:nrwP ks r=false:=by rw[nrwP,Cq h0,Bool.false_and]
   rw[hP,Aq sMp,CW] at hsp;obtain rfl:r=[]:=Dy.1 oM;simp only[tZ,↓un_u,simprocAttr,q1];refine C2.im (r:=vB false) (fun h=>absurd h sMp) (fun h=>absurd h sMp) rF ?_;simp only[tZ,↓un_u,simprocAttr,hwi];refine⟨i+1,oM,oM,?_⟩;rw[hsp];exact .oA [(4100,some 4100),(8224,some 8224),(1,some 1)] []
 ·have hil:i=x.rows.length:=by omega
  subst hil;rw[Bw];exact .oA [] [1]
end Go.Proofs
namespace Go.Proofs
open Go Go.TL
set_option maxRecDepth 4000
set_option maxHeartbeats 8000000
def zq7:CodL:=⟨⟨#[108]⟩,[⟨⟨#[97]⟩,-1⟩,⟨⟨#[98]⟩,0⟩,⟨⟨#[99]⟩,0⟩]⟩
def qc9:Sch:=⟨[zq7],[⟨⟨#[119,104,111]⟩,1,0,0,0,[],false⟩,⟨⟨#[115,101,120]⟩,2,0,0,0,[],false⟩]⟩
def zq8:Qst:=⟨⟨#[113]⟩,1,.mk 1 0 0 0 0 [],[⟨1,1⟩],-1,[],cnd0⟩
def qz8:Dcl:=⟨⟨#[112]⟩,⟨#[115]⟩,.mk 1 0 0 0 0 [],⟨1,1,0⟩,[zq8]⟩
theorem qI1:jI qc9:=⟨by decide,by decide,by decide⟩
end Go.Proofs
namespace Go.Proofs
open Go Go.TL
set_option maxRecDepth 4000
set_option maxHeartbeats 8000000
open So
theorem YY (a:List Int):zm8 a a=true:=zA8.2 rfl
def qs7:Src:=⟨qc9,[[7,2]],[],0⟩
def qd0:Ext:=⟨⟨#[112]⟩,0,[⟨1,1⟩],[[keyI 99 7,2]]⟩
theorem zW8:jY qs7 qz8 [⟨1,1⟩] 99=qd0∧buildE qs7 qz8 [⟨1,1⟩] 99=0:=⟨kR,kR⟩
theorem jW2:valI qc9 qd0 0 1 0=(0,true):=by kernel_rfl
theorem jW3:extE qc9 qd0=0:=by kernel_rfl
theorem jW4:ownS qs7 qz8=[7]:=by kernel_rfl
theorem qs8:Spc Tryz.prog 25 [] [] (vB true) []:=by
 have hsm:zb2 qs7:=⟨qI1,by decide⟩;have hB:=ZG qs7 qz8 [⟨1,1⟩] 99 hsm (by decide) (by decide);rw[zW8.1,zW8.2] at hB;have hV:=qS8 qc9 qI1 qd0 (by decide) (by decide) 0 1 0;rw[jW2] at hV;have hK:=qR5 99 7;have hI:=ZS [keyI 99 7,2] [keyI 99 7,2] (by decide);rw[YY] at hI;have hC:=YE qc9 qI1 qd0 (by decide) (by decide);rw[jW3] at hC;have hO:=Wj qs7 qz8 hsm;rw[jW4] at hO;have hI2:=ZS [7] [7] (by decide);rw[YY] at hI2;have hN:=jq qc9 qI1 (.mk 1 0 0 0 0 []);rw[show chkC qc9 (.mk 1 0 0 0 0 [])=0 by kernel_rfl] at hN;have hW:=qH1 qd0 [] (by decide) (by decide) (by decide) (by decide);rw[show nrwX qd0 []=⟨⟨#[112]⟩,0,[⟨1,1⟩],[]⟩ by kernel_rfl] at hW;have hE1:qd0.rows=[[keyI 99 7,2]]:=rfl;refine sIr qT8 fun e _ hst=>?_;unfold ZY;refine sW ?_;refine C1.shutD [8204,8212,8224,16400,16408,20484,20488,24588] hB ?_ rF rfl ?_
 ·simp [ptw,ltAD,ltD,TL.get,T.cells,imT,imL,qs7,qd0,qc9,zq8,qz8,zq7]
  all_goals (try (repeat' apply Az))
  all_goals (try rfl)
 refine sW ?_;refine C1.lendD [8204,8212,8224,16400,16408,20484,20488,24588] hV ?_ rF rF ?_
 ·simp [ptw,ltAD,ltD,TL.get,T.cells,imT,imL,qs7,qd0,qc9,zq8,qz8,zq7]
  all_goals (try (repeat' apply Az))
  all_goals (try rfl)
 simp only[tZ,↓un_u,simprocAttr,hE1];refine C2.im (fun _=>hK) (fun _=>rfl) rF ?_;refine sW ?_;refine C2.lendD [32824] (fun _=>hI) (fun _=>?_) rF rF ?_
 ·simp [ptw,ltAD,ltD,TL.get,T.cells,imT,imL,qs7,qd0,qc9,zq8,qz8,zq7]
  all_goals (try (repeat' apply Az))
  all_goals (try rfl)
 refine sW ?_;refine C2.lendD [8204,8212,8224,16400,16408,20484,20488,24588] (fun _=>hC) (fun _=>?_) rF rF ?_
 ·simp [ptw,ltAD,ltD,TL.get,T.cells,imT,imL,qs7,qd0,qc9,zq8,qz8,zq7]
  all_goals (try (repeat' apply Az))
  all_goals (try rfl)
 simp only[tZ,↓un_u,simprocAttr,bne_self_eq_false,beq_self_eq_true];refine C2.one trivial (C1.shutD [8204,8212,8224,16400,16408,20484,20488,24588] hO ?_ rF rfl ?_)
 ·simp [ptw,ltAD,ltD,TL.get,T.cells,imT,imL,qs7,qd0,qc9,zq8,qz8,zq7]
  all_goals (try (repeat' apply Az))
  all_goals (try rfl)
 refine sW ?_;refine C2.lendD [32904] (fun _=>hI2) (fun _=>?_) rF rF ?_
 ·simp [ptw,ltAD,ltD,TL.get,T.cells,imT,imL,qs7,qd0,qc9,zq8,qz8,zq7]
  all_goals (try (repeat' apply Az))
  all_goals (try rfl)
 refine sW ?_;refine C2.lendD [8204,8212,8224,16400,16408,20484,20488,24588] (fun _=>hN) (fun _=>?_) rF rF ?_
 ·simp [ptw,ltAD,ltD,TL.get,T.cells,imT,imL,qs7,qd0,qc9,zq8,qz8,zq7]
  all_goals (try (repeat' apply Az))
  all_goals (try rfl)
 refine sW ?_;refine C2.one trivial (C1.shutD [8204,8212,8224,16400,16408,20484,20488,24588] hW ?_ rF rfl ?_)
 ·simp [ptw,ltAD,ltD,TL.get,T.cells,imT,imL,qs7,qd0,qc9,zq8,qz8,zq7]
  all_goals (try (repeat' apply Az))
  all_goals (try rfl)
 refine sW ?_;refine⟨kR,?_⟩;exact .oA [] []
end Go.Proofs
namespace Go.Proofs
open Go Go.TL
set_option maxRecDepth 4000
set_option maxHeartbeats 8000000
end Go.Proofs
namespace Go.Proofs
open Go Go.TL
set_option maxRecDepth 4000
set_option maxHeartbeats 8000000
open So
structure BldF (x:Src) (d:Dcl) (P:List Pk) (k:Int) (R:List (List Int)) (O:List Int):Prop where
 len:R.length=O.length
 asc:AscR R
 row:∀ i (hi:i<R.length),∃ (j:Nat) (hj:j<x.rows.length),R[i]=rowX x P k x.rows[j]∧qG1 x (hd x.rows[j])=j∧idI k (hd R[i])=hd x.rows[j]∧O.contains (hd x.rows[j])=true∧zn1 x.sch d.coh x.rows[j]=1
theorem zL4 (l:List Pk):qp1 l l=true:=by
 rw[ja6]
theorem jX7 (n:Int) (hn:0≤n∧n≤12) (l:List UInt8) (a:Nat) (hl:l.length≤400) (ha:a≤l.length):∃ (x:Src) (d:Dcl) (a1 a2:Nat),DrX x∧x.rows.length≤12∧zb2 x∧0<x.sch.lists.length∧dclE x.sch d=0∧a1≤l.length∧a2≤l.length∧
 Spc Tryz.prog 26 [.ptr 0 1 0 0,vI n] [(0,oC l a)] (srcT x) [(0,oC l a1)]∧Spc Tryz.prog 12 [.ptr 0 1 0 0,schT x.sch] [(0,oC l a1)] (dclT d) [(0,oC l a2)]:=by
 obtain⟨⟨x,a1⟩,⟨⟨hX,hr,_⟩,ha1⟩,sS⟩:=qc2 n l a hl ha oM;dsimp only at hX hr ha1 sS;obtain⟨⟨d,a2⟩,⟨hd,ha2⟩,sDd⟩:=Kk x.sch hX.sch l a1 hl ha1;dsimp only at hd ha2 sDd;exact⟨x,d,a1,a2,hX,oM,hX.ok.smx,by obtain⟨a,b,e,_⟩:=hX.sch.ls;rw[e];simp,hd,ha1,ha2,sS,sDd⟩
end Go.Proofs
namespace Go.Proofs
open Go Go.TL
set_option maxRecDepth 4000
set_option maxHeartbeats 8000000
end Go.Proofs
namespace Go.Proofs
open Go Go.TL
set_option maxRecDepth 4000
set_option maxHeartbeats 8000000
open So
end Go.Proofs
namespace Go.Proofs
open Go Go.TL
set_option maxRecDepth 4000
set_option maxHeartbeats 8000000
structure Kn (s:Sch) (row:List Int) (l:List Pk) (v:List Int):Prop where
 len:v.length=l.length
 val:∀ i (h:i<l.length),v.getD i 0=qU s l[i].col l[i].lev (row.getD l[i].col.toNat 0)
 pick:∀ p∈l,kI s p=0∧0<p.lev
 asc:l.Pairwise fun a b=>a.col<b.col
end Go.Proofs
namespace Go.Proofs
open Go Go.TL
set_option maxRecDepth 4000
set_option maxHeartbeats 8000000
open So
end Go.Proofs
namespace Go.Proofs
open Go Go.TL
set_option maxRecDepth 4000
set_option maxHeartbeats 8000000
open So
end Go.Proofs
namespace Go.Proofs
open Go Go.TL
set_option maxRecDepth 4000
set_option maxHeartbeats 8000000
open So
end Go.Proofs
namespace Go.Proofs
open Go Go.TL
set_option maxRecDepth 4000
set_option maxHeartbeats 8000000
open So
end Go.Proofs
namespace Go.Proofs
open Go Go.TL
set_option maxRecDepth 4000
set_option maxHeartbeats 8000000
open So
end Go.Proofs
namespace Go.Proofs
open Go Go.TL
set_option maxRecDepth 4000
set_option maxHeartbeats 8000000
open So
theorem jD8 {e:Env} {s s' s2:St} (h1:Le e s s') (h2:Le e s' s2):Le e s s2:=fun ι a w hR=>by
 obtain⟨ι',hR'⟩:=h1 ι a w hR;exact h2 ι' a w hR'
def zb6 (s:Sch) (n:Nat):List Pk:=(List.range n).map fun k:Nat=>⟨((k+1:Nat):Int),finI s ((k+1:Nat):Int)⟩
theorem jb4 (s:Sch) (n:Nat):zb6 s (n+1)=zb6 s n++[⟨((n+1:Nat):Int),finI s ((n+1:Nat):Int)⟩]:=by
 rw[zb6,List.range_succ,By];rfl
theorem zE6 (s:Sch) (n:Nat):(zb6 s n).length=n:=by rw[zb6,BY,List.length_range]
def allQ:Qst:=⟨⟨#[113]⟩,1,.mk 1 0 0 0 0 [],[⟨1,0⟩],-1,[],cnd0⟩
def allD:Dcl:=⟨⟨#[97,108,108,95,114,111,119,115]⟩,⟨#[115,114,99]⟩,.mk 1 0 0 0 0 [],⟨1,1,0⟩,[allQ]⟩
theorem jb5 (s:Sch) (hs:jI s) (h1:1≤s.cols.length) (hsm2:s.cols.length≤1000000):Spc Tryz.prog 27 [schT s] [] (.tup [dclT allD,vPs (zb6 s (s.cols.length-1))]) []:=by
 have hsm:=hs.2.1;refine yi [8] zH9 mixm sMp fun e _ hst=>yV ?_;unfold qf2;simp only[JV,List.contains_cons,List.contains_nil,Nat.reduceBEq,Bool.or_false,Bool.or_true,Bool.true_or,Bool.false_or,cond_true,cond_false];refine sW ?_;refine qk mixm (α:=Nat) [5,6] (fun i=>i+1≤s.cols.length) (fun i=>[(5,.asl 1 i),(6,vI (i+1:Nat))]) (fun i=>[(4096,.arr 2 [schT s] false),(4100,.arr 12 [.agg [vS ⟨#[]⟩,vS ⟨#[]⟩,vI 0,vI 0,vI 0,vI 0,vI 0,.v (.slice none 0 0),vI 0,vI 0,vI 0,.v (.slice none 0 0)]] false),(8204,.arr 12 [.agg [vS allD.proj,vS allD.src,vI 1,vI 0,vI 0,vI 0,vI 0,.v (.slice none 0 0),vI 1,vI 1,vI 0,.v (.slice none 0 0)]] false),(1,.arr 2 ((zb6 s i).map pkT) false)]) (fun i=>s.cols.length-i) 0 oM ?_ fun i hi=>?_
 ·exact .oA [(4096,some 4096),(4100,some 4100),(8204,some 8204),(1,none)] []
 have hwi:=qh (i:=i+1) oM;have hfl:=zE6 s i;refine sD ?_;refine⟨fun h4=>?_,fun h4=>?_⟩
 ·have sF:=jh s hs ((i+1:Nat):Int);have hsu:=jb4 s i;refine C1.im sF rF rF ?_;simp only[tZ,↓un_u,simprocAttr,hwi];refine⟨⟨hfl,oM⟩,i+1,oM,oM,?_⟩;rw[hsu,By];exact .oA [(4096,some 4096),(4100,some 4100),(8204,some 8204),(1,some 1)] []
 ·have hil:i=s.cols.length-1:=by omega
  subst hil;refine jX0 [(4100,.arr 12 [.agg [vS ⟨#[]⟩,vS ⟨#[]⟩,vI 0,vI 0,vI 0,vI 0,vI 0,.v (.slice none 0 0),vI 0,vI 0,vI 0,.v (.slice none 0 0)]] false),(8204,.arr 12 [.agg [vS allD.proj,vS allD.src,vI 1,vI 0,vI 0,vI 0,vI 0,.sl 6 [],vI 1,vI 1,vI 0,.sl 17 [qstT allQ]]] false),(1,.arr 2 ((zb6 s (s.cols.length-1)).map pkT) false)] (jD8 (s':=⟨[(2,.ptr 4100 1 0 0),(4,.ptr 8204 1 0 0),(5,.asl 1 (s.cols.length-1))],[(4100,.arr 12 [.agg [vS ⟨#[]⟩,vS ⟨#[]⟩,vI 0,vI 0,vI 0,vI 0,vI 0,.v (.slice none 0 0),vI 0,vI 0,vI 0,.v (.slice none 0 0)]] false),(8204,.arr 12 [.agg [vS allD.proj,vS allD.src,vI 1,vI 0,vI 0,vI 0,vI 0,.v (.slice none 0 0),vI 1,vI 1,vI 0,.asl 32784 1]] false),(1,.arr 2 ((zb6 s (s.cols.length-1)).map pkT) false),(32784,.arr 17 [.agg [vS ⟨#[113]⟩,vI 1,vI 1,vI 0,vI 0,vI 0,vI 0,.sl 6 [],.sl 2 [.agg [vI 1,vI 0]],vI (-1),.sl 1 [],vI 0,vI 0,vI 0,vI 0,vI 0,.sl 6 []]] false)]⟩) ?_ ?_) ?_
  ·refine .of [(4100,some 4100),(8204,some 8204),(1,some 1),(32784,some 32784)] [32776] rfl (by first | rfl | (rw[hst];rfl)) ?_ ?_
   all_goals (try simp only[tL,simprocAttr,By,List.map_cons,List.map_nil,BW,Cy])
   all_goals (try (repeat' (first | exact qZ | (apply zk;intro _;exact⟨rfl,rfl⟩) | (apply qA;intro _;exact⟨rfl,rfl⟩) | with_reducible apply qW | with_reducible refine qQ ⟨rfl,rfl⟩ ?_ | exact qY | with_reducible apply qR | with_reducible refine qX ⟨rfl,rfl,?_⟩ ?_ | with_reducible apply Az | exact qS rfl | exact qS (by assumption) | (refine⟨⟨?_,rfl,?_,rfl,?_⟩,trivial⟩ <;> first | (simp;done) | (apply qA;intro _;exact⟨rfl,rfl⟩)) | trivial | rfl | (rw[qh oM]) | omega)))
   simp only[T.cells,tL,simprocAttr]
   all_goals (try exact clA)
  ·refine .of [(4100,some 4100),(8204,some 8204),(1,some 1)] [32784] rfl (by first | rfl | (rw[hst];rfl)) ?_ ?_
   all_goals (try simp only[tL,simprocAttr,By,List.map_cons,List.map_nil,BW,Cy])
   all_goals (try (repeat' (first | exact qZ | (apply zk;intro _;exact⟨rfl,rfl⟩) | (apply qA;intro _;exact⟨rfl,rfl⟩) | with_reducible apply qW | with_reducible refine qQ ⟨rfl,rfl⟩ ?_ | exact qY | with_reducible apply qR | with_reducible refine qX ⟨rfl,rfl,?_⟩ ?_ | with_reducible apply Az | exact qS rfl | exact qS (by assumption) | (refine⟨⟨?_,rfl,?_,rfl,?_⟩,trivial⟩ <;> first | (simp;done) | (apply qA;intro _;exact⟨rfl,rfl⟩)) | trivial | rfl | (rw[qh oM]) | omega)))
   simp only[T.cells,tL,simprocAttr]
   all_goals (try exact clA)
  refine sW ?_;have hq:qstT allQ = .agg [vS ⟨#[113]⟩,vI 1,vI 1,vI 0,vI 0,vI 0,vI 0,.sl 6 [],.sl 2 [.agg [vI 1,vI 0]],vI (-1),.sl 1 [],vI 0,vI 0,vI 0,vI 0,vI 0,.sl 6 []]:=rfl;exact .oA [] [1]
end Go.Proofs
namespace Go.Proofs
open Go Go.TL
set_option maxRecDepth 4000
set_option maxHeartbeats 8000000
open So
def ju7 (s:Sch) (P:List Pk) (a b:List Int):Bool:=P.all fun p=>qU s p.col p.lev (a.getD p.col.toNat 0)==qU s p.col p.lev (b.getD p.col.toNat 0)
structure RowA (x:Src) (d:Dcl) (P:List Pk) (r0 row:List Int):Prop where
 fit:rowE x.sch row=0
 id:hd row=hd r0
 ev:(zn1 x.sch d.coh row==1)=(zn1 x.sch d.coh r0==1)
 al:ownP x d r0=true→ju7 x.sch P row r0=true
theorem RowA.refl {x:Src} {d:Dcl} {P:List Pk} {r:List Int} (h:rowE x.sch r=0):RowA x d P r r:=⟨h,rfl,rfl,fun _=>by
 unfold ju7;rw[Bk];exact fun p _=>beq_self_eq_true _⟩
theorem RowA.own {x:Src} {d:Dcl} {P:List Pk} {r row:List Int} (h:RowA x d P r row):ownP x d row=ownP x d r:=by
 unfold ownP;rw[h.ev,h.id]
theorem RowA.rowX {x:Src} {d:Dcl} {P:List Pk} {r row:List Int} (k:Int) (h:RowA x d P r row) (ho:ownP x d r=true):rowX x P k row=rowX x P k r:=by
 have h1:=h.al ho;unfold ju7 at h1;rw[Bk] at h1;unfold Go.Proofs.rowX;rw[h.id]
 congr 1
 exact Ew fun p hp=>AY.1 (h1 p hp)
structure OthR (x:Src) (d:Dcl) (P:List Pk) (rs ys:List (List Int)):Prop where
 len:ys.length≤rs.length
 asc:AscR ys
 fro:∀ row∈ys,∃ r∈rs,RowA x d P r row
 own:∀ r∈rs,ownP x d r=true→∃ row∈ys,RowA x d P r row
theorem OthR.nil {x:Src} {d:Dcl} {P:List Pk}:OthR x d P [] []:=⟨BZ _,.nil,sMp,sMp⟩
theorem OthR.skip {x:Src} {d:Dcl} {P:List Pk} {rs ys:List (List Int)} (h:OthR x d P rs ys) {r:List Int} (ho:ownP x d r=false):OthR x d P (rs++[r]) ys:=by
 refine⟨by have:=h.len;simp;omega,h.asc,fun row hr=>?_,fun q hq hq2=>?_⟩
 ·obtain⟨q,a,b⟩:=h.fro row hr;exact⟨q,List.mem_append_left _ a,b⟩
 ·rcases Dz.1 hq with a | a
  ·exact h.own q a hq2
  ·rw[Ey.1 a,ho] at hq2;cases hq2
theorem jD9 {s:Sch} (h:DrS s):2≤s.cols.length∧s.cols.length≤8:=by
 obtain⟨ms,hc,h1,h2⟩:=h.cs;rcases hc with⟨e,_⟩ | ⟨e,_⟩ <;> rw[e] <;> simp <;> omega
end Go.Proofs
namespace Go.Proofs
open Go Go.TL
set_option maxRecDepth 4000
set_option maxHeartbeats 8000000
open So
theorem jQ6 {x:Src} (hX:SrcOk x) (d:Dcl) {l:List Pk} (k:Int) (hl:l.length≤1000):(jY x d l k).picks.length≤1000∧(jY x d l k).rows.length≤200∧∀ r∈(jY x d l k).rows,r.length≤1001:=by
 unfold jY;split
 ·exact⟨by decide,by decide,fun r hr=>by cases hr⟩
 ·obtain⟨_,h2,h3⟩:=zK9 x l k (ownR x d) [] List.Pairwise.nil sMp;have h4:=jD6 hX d;refine⟨hl,?_,fun r hr=>?_⟩
  ·simp only[Cw] at h3;show (List.foldl (yd x l k) [] (ownR x d)).length≤200;omega
  ·have:=h2 r hr;omega
end Go.Proofs
namespace Go.Proofs
open Go Go.TL
def cndE:List T→Prop:=fun ts=>∃ c:Cnd,ts=(cndT c).cells
abbrev shPk:Sr:=.st (.fcons 1 (.int .i64) (.fcons 1 (.int .i64) .fnil))
abbrev shCn:Sr:=.fcons 1 (.int .i64) (.fcons 1 (.int .i64) (.fcons 1 (.int .i64) (.fcons 1 (.int .i64) (.fcons 1 (.int .i64) (.fcons 1 (.sl 6 64 .tie) .fnil)))))
abbrev shQ:Sr:=.st (.fcons 1 .str (.fcons 1 (.int .i64) (.fcons 6 .tie (.fcons 1 (.sl 2 16 shPk) (.fcons 1 (.int .i64) (.fcons 1 (.sl 1 8 (.int .i64)) (.fcons 6 .tie .fnil)))))))
theorem YF (c:Cnd):(cndT c).cells=[vI c.op,vI c.col,vI c.code,vI c.lo,vI c.hi,vCs c.kids]:=by rw[zh];rfl
theorem jQ7 (c:Cnd):T.agg (cndT c).cells=cndT c:=by rw[zh];rfl
theorem jQ8 {P:Program} {tR:TypeId} {fs:Array Field} (hu:P.underlying tR=some (.struct fs)) (hs:zy7 P (shR P tR 30) 0 fs.toList=some shCn) (hc:P.cellsOf tR=6):RecOk P tR cndE:=by
 refine⟨?_,fs,30,shCn,hu,hs,hc,?_⟩
 ·rintro ts ⟨c,rfl⟩ x hx;rw[YF] at hx;simp only[Ck,List.not_mem_nil,or_false] at hx;rcases hx with e | e | e | e | e | e <;> (rw[e];rfl)
 ·rintro ts ⟨_,_,rfl,_,⟨a,rfl,_⟩,_,_,rfl,_,⟨b,rfl,_⟩,_,_,rfl,_,⟨c,rfl,_⟩,_,_,rfl,_,⟨d,rfl,_⟩,_,_,rfl,_,⟨e,rfl,_⟩,_,_,rfl,_,hk,rfl⟩;obtain⟨ks,rfl,_⟩:=JX cndT (fun _=>True) (fun x hx=>by
   obtain⟨c,rfl⟩:=hx;exact⟨c,jQ7 c,trivial⟩) hk
  exact⟨.mk a b c d e ks,by rw[YF];rfl⟩
theorem zW9 {t:List T} (h:QU cndE (.sl 2 16 shPk) t):∃ l:List Pk,t=[vPs l]∧l.length*16≤140737488351232:=by
 obtain⟨l,h1,h2,_⟩:=JX pkT (fun _=>True) (fun x hx=>by
  obtain⟨_,_,rfl,_,⟨a,rfl,_⟩,_,_,rfl,_,⟨b,rfl,_⟩,rfl⟩:=hx;exact⟨⟨a,b⟩,rfl,trivial⟩) h
 exact⟨l,h1,h2⟩
theorem jE0 {t:List T} (h:QU cndE shQ t):∃ q:Qst,jJ shQ t=qstT q:=by
 obtain⟨_,_,rfl,_,⟨nm,rfl,_⟩,_,_,rfl,_,⟨k,rfl,_⟩,_,_,rfl,_,⟨f,rfl⟩,_,_,rfl,_,hd,_,_,rfl,_,⟨m,rfl,_⟩,_,_,rfl,_,ht,_,_,rfl,_,⟨e,rfl⟩,rfl⟩:=h;obtain⟨ds,rfl,_⟩:=zW9 hd;obtain⟨ts,rfl,_⟩:=ja0 ht;refine⟨⟨nm,k,f,ds,m,ts,e⟩,?_⟩;rw[YF,YF]
 rfl
end Go.Proofs
namespace Go.Proofs
open Go Go.TL
abbrev shD:Sr:=.st (.fcons 1 .str (.fcons 1 .str (.fcons 6 .tie (.fcons 3 (.st (.fcons 1 (.int .i64) (.fcons 1 (.int .i64) (.fcons 1 (.int .i64) .fnil)))) (.fcons 1 (.sl 17 208 shQ) .fnil)))))
theorem jE1 {t:List T} (h:QU cndE shD t):∃ d:Dcl,jJ shD t=dclT d:=by
 obtain⟨_,_,rfl,_,⟨pj,rfl,_⟩,_,_,rfl,_,⟨sr,rfl,_⟩,_,_,rfl,_,⟨co,rfl⟩,_,_,rfl,_,⟨_,_,rfl,_,⟨a,rfl,_⟩,_,_,rfl,_,⟨b,rfl,_⟩,_,_,rfl,_,⟨c,rfl,_⟩,rfl⟩,_,_,rfl,_,hq,rfl⟩:=h;obtain⟨qs,rfl,_⟩:=JX qstT (fun _=>True) (fun x hx=>by
  obtain⟨q,e⟩:=jE0 hx;exact⟨q,e,trivial⟩) hq
 refine⟨⟨pj,sr,co,⟨a,b,c⟩,qs⟩,?_⟩;rw[YF]
 rfl
end Go.Proofs
