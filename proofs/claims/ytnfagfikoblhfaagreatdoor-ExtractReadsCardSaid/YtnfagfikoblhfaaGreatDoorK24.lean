/- A part of the proof: trees of Go values, short forms, contracts. -/
import Derived.WalkKit
import Derived.Still
import Derived.MapKept
import GoSem.Builtin.Cap
import Derived.Laws.Externs
import GoSem.Extern.SlicesOverlaps
import Derived.Carry
import Derived.ProofKit
import Derived.OpenShut
import Derived.HandedShaped
import Derived.Lay
import Derived.LaidLaws
import Derived.MakeChecks
import Derived.SevenTiedAt
import Derived.Test.YtnfagfikoblhfaaGreatDoorChecked
import Derived.Test.YtnfagfikoblhfaaGreatDoorK23
set_option linter.unusedSimpArgs false
set_option linter.unusedVariables false
namespace Go.Proofs
open Go Go.TL
set_option maxRecDepth 4000
set_option maxHeartbeats 8000000
open So
theorem ja9 {s:Sch} {d:Dcl} (h:dclE s d=0):chkC s d.coh=0∧nodE s d.coh=0:=by
 have h1:=(qy0 h).2.2.2.1;exact⟨h1,(qy6 h1).2.2.2⟩
theorem jV0 {s:Src} {d:Dcl} (h:SrcOk s) (hd0:dclE s.sch d=0) {r:List Int} (hr:r∈s.rows):(inS d.smp (hd r)&&(evC s.sch r d.coh==1))=ownP s d r:=by
 have h1:=(ja9 hd0).1;have h2:=h.rows r hr;rw[ownP,zq3,Aq oM,Bool.and_comm]
theorem YW (s:Src) (d:Dcl) (h:SrcOk s) (hd0:dclE s.sch d=0):Spc Tryz.prog 90 [srcT s,dclT d] [] (vRw (s.rows.filter (ownP s d))) []:=by
 have hok:=h;have hrp:=hok.rowp;have hnr:=hok.nr;have hn:=(ja9 hd0).2;have hsc:=qU hok.sch;refine sIr qE5 fun e _ hst=>?_;unfold Qo;refine sW ?_;refine qk mixm (α:=Nat) [5,11] (fun i=>i≤s.rows.length) (fun i=>[(5,.asl 1 ((s.rows.take i).filter (ownP s d)).length),(11,vI i)]) (fun i=>[(4096,.arr 5 [srcT s] false),(4100,.arr 12 [dclT d] false),(1,.arr 1 (((s.rows.take i).filter (ownP s d)).map vIs) false)]) (fun i=>s.rows.length-i) 0 oM ?_ fun i hi=>?_
 ·exact .oA [(4096,some 4096),(4100,some 4100),(1,none)] []
 have hfl:=Fx (ownP s d) (s.rows.take i);rw[Cz] at hfl;refine sD ?_;refine⟨fun h2=>?_,fun h2=>?_⟩
 ·have hi2:i<s.rows.length:=by omega
  have hwi:=qh (i:=i) oM;have hgi:=zn (hrp _ (AX hi2));have hrpi:=hrp _ (AX hi2);have hsp:(s.rows.take (i+1)).filter (ownP s d)=(s.rows.take i).filter (ownP s d)++if ownP s d s.rows[i]=true then [s.rows[i]] else []:=by
   rw[qJ hi2,FY,List.filter_cons,List.filter_nil]
  have hP:(inS d.smp (hd s.rows[i])&&(evC s.sch s.rows[i] d.coh==1))=ownP s d s.rows[i]:=jV0 h hd0 (AX hi2);have hI:=zP1 d.smp (hd s.rows[i]);have hH:=qA4 s.sch hsc s.rows[i] (qj2 (hok.rows _ (AX hi2))).2.1 d.coh hn;simp only[tZ,↓un_u,simprocAttr,Ax,qd hi2,hgi];refine⟨oM,oM,?_⟩;refine C1.im hI rF rF ?_;simp only[tZ,↓un_u,simprocAttr,Ax,qd hi2,hgi];refine C2.im (fun _=>hH) (fun _=>rfl) rF ?_;refine sW ?_;rw[hP];refine⟨kR,fun h3=>?_,fun h3=>?_⟩
  ·rw[Aj h3] at hsp;have hspl:=congrArg List.length hsp;simp only[AW,CJ,Cw] at hspl;simp only[tZ,↓un_u,simprocAttr,Ax,qd hi2,hwi];refine⟨oM,i+1,oM,oM,?_⟩;rw[hsp];exact .oA [(4096,some 4096),(4100,some 4100),(1,some 1)] []
  ·rw[Aq (by rw[h3];simp),CW] at hsp;simp only[tZ,↓un_u,simprocAttr,hwi];refine⟨i+1,oM,oM,?_⟩;rw[hsp];exact .oA [(4096,some 4096),(4100,some 4100),(1,some 1)] []
 ·have hil:i=s.rows.length:=by omega
  subst hil;rw[Bw];exact .oA [] [1]
theorem qI6 (s:Src) (d:Dcl) (hs:zG6 s):Spc Tryz.prog 30 [srcT s,dclT d] [] (vIs (ownS s d)) []:=by
 have hV:=qf2 s hs.1.2.1 hs.1.1 hs.2;refine sIr qv3 fun e _ hst=>?_;unfold yx;refine sW ?_;refine C1.im hV rF rF ?_;refine sW ?_;refine C2.im (fun _=>ZN s.sch hs.1 d) (fun _=>rfl) rF ?_;simp only[tZ,↓un_u,simprocAttr,tD,Bj,Aw,Bx,Bz];refine⟨fun h=>?_,fun h=>?_⟩
 ·rw[ownS,ownR,Aj h];exact .oA [] []
 have hok:=YP.1 h.1;have hrp:=hok.rowp;have hnr:=hok.nr;have hO:=YW s d hok oM;rw[ownS,ownR,Aq (by grind)];have hfl:=Fx (ownP s d) s.rows;have hRp:∀ r∈s.rows.filter (ownP s d),0<r.length:=fun r hr=>hrp r (Fz.1 hr).1;generalize s.rows.filter (ownP s d)=R at hO hfl hRp ⊢
 refine C1.im hO rF rF ?_;refine sW ?_;refine qk mixm (α:=Nat) [5,22] (fun i=>i≤R.length) (fun i=>[(5,.asl 1 i),(22,vI i)]) (fun i=>[(1,.arr 1 (((R.take i).map hd).map vI) false)]) (fun i=>R.length-i) 0 oM ?_ fun i hi=>?_
 ·exact .oA [(1,none)] []
 have htl:((R.take i).map hd).length=i:=by rw[BY,Cz];omega
 refine sD ?_;refine⟨fun h2=>?_,fun h2=>?_⟩
 ·have hi2:i<R.length:=by omega
  have hwi:=qh (i:=i) oM;have hgi:=zn (hRp _ (AX hi2));have hrpi:=hRp _ (AX hi2);have hsp:(R.take (i+1)).map hd=(R.take i).map hd++[hd R[i]]:=by rw[qJ hi2,By];rfl
  have htl2:(R.take i).length=i:=by rw[Cz];omega
  simp only[tZ,↓un_u,simprocAttr,Ax,qd hi2,hgi,hwi];refine⟨oM,oM,oM,i+1,oM,oM,?_⟩;rw[hsp];exact .oA [(1,some 1)] []
 ·have hil:i=R.length:=by omega
  subst hil;rw[Bw];exact .oA [] [1]
theorem kc1 {k:Int→Int} {ys:List (List Int)} (h:Srt (ltV bidV) ys 0 ys.length) (hn:(ys.map hd).Nodup):AscR ys:=by
 refine jU9 h fun i h0 hi e=>?_;have hi2:i<(ys.map hd).length:=by rw[BY];exact hi
 have hi3:i-1<(ys.map hd).length:=by omega
 have:=(DX.1 hn) (i-1) i hi3 hi2 oM;rw[Fj,Fj] at this;rw[qg hi,qg oM] at e;exact this e.symm
def keyP (x:List Int):Prop:=0<x.length∧0≤hd x∧hd x≤1048575
theorem qA6 (x y:List Int) (hx:keyP x) (hy:keyP y):Spc Tryz.prog 97 [vIs x,vIs y] [] (vI (bidV x y)) []:=by
 have h1:=zn hx.1;have h2:=zn hy.1;have a1:=hx.1;have a2:=hy.1;have hw:IntKind.i64.wrap (hd x-hd y)=hd x-hd y:=AK _ (by have:=hx.2;have:=hy.2;omega);refine sIr qn6 fun e _ hst=>?_;unfold wL;simp only[tZ,↓un_u,simprocAttr,h1,h2,hw];refine⟨oM,oM,kR,?_⟩;rw[show bidV x y=hd x-hd y from rfl];exact .oA [] []
theorem jy4 {k n:Int} (hk:0≤k∧k<1152921504606846976) (hn:0≤n∧n<1048576):0≤keyI k n∧keyI k n≤1048575:=by
 have h1:QL k n=true:=by simp [QL];omega
 have h3:=zH0 (ZF (s:=k) (YQ hn) 8);have h4:keyI k n=tie (fwd k 8 (cut n)):=by rw[keyI,Aj h1]
 omega
theorem key0 (k:Int):(keyI k 0<0)↔(k<0∨k≥1152921504606846976):=by
 by_cases h:0≤k∧k<1152921504606846976
 ·have:=jy4 h (n:=0) oM;omega
 ·have h1:QL k 0=false:=by simp [QL];omega
  rw[keyI,Aq (by rw[h1];simp)];omega
theorem jy5 {s:Src} {d:Dcl} {l:List Pk} {k:Int} (h:SrcOk s) (hd0:dclE s.sch d=0) (hk:0≤k∧k<1152921504606846976) {ys:List (List Int)} (hp:ys.Perm ((s.rows.filter (ownP s d)).map (rowX s l k))) (hso:Srt (ltV bidV) ys 0 ys.length):ys=qr7 s d l k:=by
 have hR:ownR s d=s.rows.filter (ownP s d):=by unfold ownR;rw[Aq (by rw[YP.2 h,hd0];simp)]
 have hpw:=jO9 (d:=d) h hk;rw[hR] at hpw;have hnd:(ys.map hd).Nodup:=by
  rw[(hp.map hd).nodup_iff];rw[Gz];exact List.pairwise_map.2 (hpw.imp fun h=>h)
 have hA:=kc1 (k:=fun x=>x) hso hnd;obtain⟨q1,_,_⟩:=zP2 s l k (ownR s d) [] List.Pairwise.nil sMp;refine jH1 hA q1 fun x=>?_;rw[hp.mem_iff];have:=jf5 (l:=l) h hd0 hk x;rw[this,Cj];constructor
 ·rintro ⟨r,hr,rfl⟩;obtain⟨a,b⟩:=Fz.1 hr;exact⟨r,a,b,rfl⟩
 ·rintro ⟨r,a,b,rfl⟩;exact⟨r,Fz.2 ⟨a,b⟩,rfl⟩
end Go.Proofs
namespace Go.Proofs
open Go Go.TL
set_option maxRecDepth 4000
set_option maxHeartbeats 8000000
open So
theorem qU5 (s:Src) (d:Dcl) (l:List Pk) (k:Int) (hs:zG6 s) (h12:s.rows.length≤12) (hl:l.length<4611686018427387904):Spc Tryz.prog 32 [srcT s,dclT d,vPs l,vI k] [] (.tup [extT (Qf s d l k),vI (buildE s d l k)]) []:=by
 have hE:=(rfl:buildE s d l k=buildE s d l k);have hS:Qf s d l k=if buildE s d l k≠0 then ext0 else ⟨d.proj,s.ver,l,qr7 s d l k⟩:=rfl
 conv at hE=>rhs;unfold buildE
 have hbad:∀ v,v≠0→buildE s d l k=v→Qf s d l k=ext0∧buildE s d l k=v:=fun v h1 h2=>⟨by rw[hS,h2,Aj h1],h2⟩;have hgood:buildE s d l k=0→Qf s d l k=⟨d.proj,s.ver,l,qr7 s d l k⟩:=fun h=>by rw[hS,h,Aq sMp]
 clear hS;generalize buildE s d l k=E at hE hbad hgood ⊢
 generalize Qf s d l k=A at hbad hgood ⊢
 have hV:=qf2 s hs.1.2.1 hs.1.1 hs.2;refine kW [18] qD4 mixm sMp fun e _ hst=>yu ?_;unfold Qj;simp only[Jb,List.contains_cons,List.contains_nil,Nat.reduceBEq,Bool.or_false,Bool.or_true,Bool.true_or,Bool.false_or,cond_true,cond_false];refine sW ?_;refine C1.im hV rF rF ?_;simp only[tZ,↓un_u,simprocAttr,Bx,Bz];refine⟨fun h=>?_,fun h=>?_⟩
 ·obtain⟨a1,a2⟩:=hbad 13 (by decide) (by rw[hE,Aj h]);rw[a1,a2];exact .oA [] []
 rw[Aq (by rw[h];simp)] at hE;have hok:=YP.1 h;refine C1.im (qI4 s.sch hs.1 d l hl) rF rF ?_;simp only[tZ,↓un_u,simprocAttr,Bj,Aw];refine⟨fun h2=>?_,fun h2=>?_⟩
 ·obtain⟨a1,a2⟩:=hbad _ h2 (by rw[hE,Aj h2]);rw[a1,a2];exact .oA [] []
 rw[Aq (by rw[h2];simp)] at hE;obtain⟨hd0,hp0⟩:=zZ8 h2;refine C1.im (YR k 0) rF rF ?_;simp only[tZ,↓un_u,simprocAttr,tD,key0];refine⟨fun h3=>?_,fun h3=>?_⟩
 ·obtain⟨a1,a2⟩:=hbad 2 (by decide) (by rw[hE,Aj h3]);rw[a1,a2];exact .oA [] []
 rw[Aq h3] at hE;have hk:0≤k∧k<1152921504606846976:=by omega
 have a1:=hgood hE;rw[a1,hE];clear hbad hgood;have hpl:=Ks hp0;obtain⟨_,hpk,_⟩:=Kr hp0;refine C1.im (ZJ l oM) rF rF ?_;have hO:=YW s d hok hd0;have hoR:∀ r∈s.rows.filter (ownP s d),r∈s.rows:=fun r hr=>(Fz.1 hr).1;have hol:(s.rows.filter (ownP s d)).length≤12:=FZ (Fx _ _) h12;have hBS:=fun ys=>jy5 (ys:=ys) (l:=l) hok hd0 hk;generalize s.rows.filter (ownP s d)=R at hO hoR hol hBS ⊢
 refine sW ?_;refine⟨kR,?_⟩;refine C1.im hO rF rF ?_;refine sW ?_;have hrX:∀ r∈R,0<r.length∧r.length=s.sch.cols.length∧keyP (rowX s l k r):=fun r hr=>by
  have h1:=hok.rows _ (hoR r hr);have h2:=jF5 h1;have h3:=jy4 (n:=hd r) hk oM;exact⟨yP h1,(qj2 h1).2.1,zs1 s l k r,h3⟩
 refine qk mixm (α:=Nat) [45] (fun i=>i≤R.length) (fun i=>[(45,vI i)]) (fun i=>[(4096,.arr 5 [srcT s] false),(4104,.arr 4 [extT ext0] false),(36892,.arr 4 [.agg [vS d.proj,vI s.ver,vPs l,.asl 1 i]] false),(1,.arr 1 (((R.take i).map (rowX s l k)).map vIs) false)]) (fun i=>R.length-i) 0 oM ?_ fun i hi=>?_
 ·exact .oA [(4096,some 4096),(4104,some 4104),(36892,some 36892),(1,none)] []
 have htl:((R.take i).map (rowX s l k)).length=i:=by rw[BY,Cz];omega
 refine sD ?_;refine⟨fun h4=>?_,fun h4=>?_⟩
 ·have hi2:i<R.length:=by omega
  have hwi:=qh (i:=i) oM;have hrXs:(R.take (i+1)).map (rowX s l k)=(R.take i).map (rowX s l k)++[rowX s l k R[i]]:=by rw[qJ hi2,By];rfl
  obtain⟨hrp,hrl,hrk⟩:=hrX _ (AX hi2);have hKey:=YR k (hd R[i]);have hgi:=zn hrp;have hX:rowX s l k R[i]=keyI k (hd R[i])::l.map fun p=>qQ s.sch p.col p.lev (R[i].getD p.col.toNat 0):=rfl;simp only[tZ,↓un_u,simprocAttr,Ax,qd hi2];refine⟨oM,?_⟩;generalize R[i]=r at hrXs hrp hrl hrk hKey hgi hX ⊢
  simp only[tZ,↓un_u,simprocAttr,hgi];refine⟨oM,?_⟩;refine C1.im hKey rF rF ?_;refine sW ?_;refine qk mixm (α:=Nat) [14,57] (fun n=>n≤l.length) (fun n=>[(14,.asl 53268 (n+1)),(57,vI n)]) (fun n=>[(4096,.arr 5 [srcT s] false),(4104,.arr 4 [extT ext0] false),(36892,.arr 4 [.agg [vS d.proj,vI s.ver,vPs l,.asl 1 i]] false),(1,.arr 1 (((R.take i).map (rowX s l k)).map vIs) false),(53268,.arr 1 ((keyI k (hd r)::(l.take n).map fun p=>qQ s.sch p.col p.lev (r.getD p.col.toNat 0)).map vI) false)]) (fun n=>l.length-n) 0 oM ?_ fun n hn=>?_
  ·exact .oA [(4096,some 4096),(4104,some 4104),(36892,some 36892),(1,some 1),(53268,some 53268)] []
  have hnl:(l.take n).length=n:=by rw[Cz];omega
  refine sD ?_;refine⟨fun h5=>?_,fun h5=>?_⟩
  ·have hn2:n<l.length:=by omega
   have hwn:=qh (i:=n) oM;have hpn:=Wi (hpk _ (AX hn2));have hcl:l[n].col.toNat<r.length:=by omega
   have hgc:(r.map vI).getD l[n].col.toNat .junk=vI (r.getD l[n].col.toNat 0):=by rw[qd hcl,qg hcl]
   simp only[tZ,↓un_u,simprocAttr,Ax,qd hn2,hgc];refine⟨oM,oM,?_⟩;refine C1.im (qU0 s.sch hs.1 l[n].col l[n].lev _) rF rF ?_;simp only[tZ,↓un_u,simprocAttr,hwn];refine⟨⟨hnl,oM⟩,kR,n+1,oM,oM,?_⟩;rw[qJ hn2,By];exact .oA [(4096,some 4096),(4104,some 4104),(36892,some 36892),(1,some 1),(53268,some 53268)] []
  ·have hnl2:n=l.length:=by omega
   subst hnl2;rw[Bw,← List.map_cons (f:=vI),← hX];have hXl:(rowX s l k r).length=l.length+1:=by rw[rowX,CJ,BY]
   have htl2:(R.take i).length=i:=by rw[Cz];omega
   rw[← hXl];refine W_le [(2,vPs l),(3,vI k),(4,.ptr 4096 1 0 0),(8,.ptr 4104 1 0 0),(11,.ptr 36892 1 0 0),(14,vIs (rowX s l k r)),(43,vRw R),(44,vI R.length),(45,vI i)] [(4096,.arr 5 [srcT s] false),(4104,.arr 4 [extT ext0] false),(36892,.arr 4 [.agg [vS d.proj,vI s.ver,vPs l,.asl 1 i]] false),(1,.arr 1 (((R.take i).map (rowX s l k)).map vIs) false)] ?_ ?_
   ·exact .oA [(4096,some 4096),(4104,some 4104),(36892,some 36892),(1,some 1)] [53268]
   simp only[tZ,↓un_u,simprocAttr,hwi];refine⟨⟨htl2,oM⟩,htl2,i+1,oM,oM,?_⟩;rw[hrXs,By];exact .oA [(4096,some 4096),(4104,some 4104),(36892,some 36892),(1,some 1)] []
 ·have hil:i=R.length:=by omega
  subst hil;rw[Bw];rw[Bw] at htl;obtain⟨ys,⟨hp,hso⟩,hSF⟩:=WR bidV keyP 97 (fun x y hx hy=>qA6 x y hx hy) (R.map (rowX s l k)) (fun x hx=>by
   obtain⟨r,hr,rfl⟩:=Cj.1 hx;exact (hrX r hr).2.2) oM
  have hso:=hso jU8;have hpl2:=hp.length_eq;rw[← hpl2] at hso;have hy:=hBS ys hp hso;rw[htl] at hSF;refine C1.upd 1 1 _ _ hSF rF (by apply qE;intro _;exact⟨rfl,rfl⟩) (by apply qE;intro _;exact⟨rfl,rfl⟩) ⟨by simp [ltA,ltC,ltC0,TL.get],Yc rF⟩ rF ?_;refine sW ?_;have hyl:ys.length=R.length:=by rw[hpl2,BY]
  refine⟨hyl,?_⟩;rw[← hy,← hyl];exact .oA [] [1]
end Go.Proofs
namespace Go.Proofs
open Go Go.TL
set_option maxRecDepth 4000
set_option maxHeartbeats 8000000
def Qb (s:Sch) (q:Qst) (k:Nat) (lev:Int) (x y:Int):Prop:=qQ s k lev x=qQ s k lev y∧kc0 s q k x y=true
structure FirstV (s:Sch) (q:Qst) (k:Nat) (lev:Int) (x y:Int):Prop where
 hx:zy s k x=true
 hy:zy s k y=true
 lt:x<y
 qb:Qb s q k lev x y
 least:∀ x' y',zy s k x'=true→zy s k y'=true→x'<y'→Qb s q k lev x' y'→x<x'∨(x=x'∧y≤y')
structure LeastX (s:Sch) (q:Qst) (k:Nat) (lev:Int) (x:Int):Prop where
 lo:(qj s k).low<x
 hi:x≤(qj s k).high
 qb:Qb s q k lev (x-1) x
 least:∀ y,(qj s k).low<y→y<x→¬ Qb s q k lev (y-1) y
end Go.Proofs
namespace Go.Proofs
open Go Go.TL
set_option maxRecDepth 4000
set_option maxHeartbeats 8000000
def Wx (L:List Int) (f g:Int→Int) (v:Int):Int×Bool:=match L.filter (fun x=>f x==v) with
 | []=>(0,false)
 | x::r=>if (r.all fun y=>g y==g x)=true then (g x,true) else (0,false)
theorem qU6 {L:List Int} {f:Int→Int} {v:Int} {i:Nat} (h:i<L.length):(L.take (i+1)).filter (fun x=>f x==v)=(L.take i).filter (fun x=>f x==v)++if (f L[i]==v)=true then [L[i]] else []:=by
 rw[qJ h,FY]
 congr 1
 split
 ·rename_i h2;rw[List.filter_cons_of_pos (p:=fun x=>f x==v) h2];rfl
 ·rename_i h2;rw[List.filter_cons_of_neg (p:=fun x=>f x==v) h2];rfl
def TcI (g:Int→Int) (M:List Int) (o:Int) (b:Bool):Prop:=(M=[]∧o=0∧b=false)∨∃ x r,M=x::r∧(∀ y∈r,g y=g x)∧o=g x∧b=true
theorem TcI.fin {L:List Int} {f g:Int→Int} {v o:Int} {b:Bool} (h:TcI g (L.filter fun x=>f x==v) o b):Wx L f g v=(o,b):=by
 unfold Wx;rcases h with⟨h1,h2,h3⟩ | ⟨x,r,h1,h2,h3,h4⟩
 ·rw[h1,h2,h3]
 ·rw[h1,h3,h4];dsimp only;rw[Aj (Bk.2 fun y hy=>AY.2 (h2 y hy))]
theorem zj2 {L:List Int} {f g:Int→Int} {v:Int} {i:Nat} (h:i<L.length) {o:Int} (hI:TcI g ((L.take i).filter fun x=>f x==v) o true) (h1:(f L[i]==v)=true) (h2:g L[i]≠o):Wx L f g v=(0,false):=by
 rcases hI with⟨_,_,h3⟩ | ⟨x,r,h3,h4,h5,_⟩
 ·cases h3
 ·have hL:L.filter (fun x=>f x==v)=x::(r++L[i]::(L.drop (i+1)).filter fun x=>f x==v):=by
   conv=>lhs;rw[← List.take_append_drop i L,FY,h3,zq6 h,List.filter_cons_of_pos (p:=fun x=>f x==v) h1]
   simp
  unfold Wx;rw[hL];dsimp only;rw[Aq];intro k;have:=Bk.1 k L[i] sMp;rw[AY,← h5] at this;exact h2 this
theorem qA7 (l:CodL) (hl:lstE l=0) (a v b:Int):Spc Tryz.prog 196 [cdlT l,vI a,vI v,vI b] [] (.tup [vI (Wx (atL l (zg l-1)) (fun x=>upC l x a) (fun x=>upC l x b) v).1,vB (Wx (atL l (zg l-1)) (fun x=>upC l x a) (fun x=>upC l x b) v).2]) []:=by
 have hlv:=YJ (l:=l);have hw:IntKind.i64.wrap (zg l-1)=zg l-1:=AK _ oM;have hLl:(atL l (zg l-1)).length≤60:=by
  obtain⟨_,d5,d6⟩:=zf hl;unfold atL;rw[Aq (by rw[hl];simp),BY];refine FZ (Fx _ _) ?_;rw[List.length_range];exact d6
 refine sIr qp6 fun e _ hst=>?_;unfold wW;refine sW ?_;refine C1.im (yY l) rF rF ?_;simp only[tZ,↓un_u,simprocAttr,hw];refine C1.im (qb0 l (zg l-1)) rF rF ?_;generalize atL l (zg l-1)=L at hLl ⊢
 refine sW ?_;refine⟨kR,?_⟩;refine qk mixm (α:=Nat×Int×Bool) [10,11,21] (fun y=>y.1≤L.length∧TcI (fun x=>upC l x b) ((L.take y.1).filter fun x=>upC l x a==v) y.2.1 y.2.2) (fun y=>[(10,vI y.2.1),(11,vB y.2.2),(21,vI y.1)]) (fun y=>[(4096,.arr 2 [cdlT l] false)]) (fun y=>L.length-y.1) (0,0,false) ⟨sMp,.inl ⟨rfl,rfl,rfl⟩⟩ ?_ fun y hy=>?_
 ·exact .oA [(4096,some 4096)] []
 obtain⟨i,o,t⟩:=y;obtain⟨y1,y2⟩:=hy;dsimp only at y1 y2;refine sD ?_;refine⟨fun h3=>?_,fun h3=>?_⟩
 ·have hi2:i<L.length:=by omega
  have hwi:=qh (i:=i) oM;have hsp:=qU6 (f:=fun x=>upC l x a) (v:=v) hi2;have hbad:=fun e=>zj2 (f:=fun x=>upC l x a) (g:=fun x=>upC l x b) (v:=v) (o:=o) hi2 e;have sU:=fun c=>Kv l L[i] c;simp only[tZ,↓un_u,simprocAttr,Ax,qd hi2];refine⟨oM,?_⟩;refine C1.im (sU a) rF rF ?_;simp only[tZ,↓un_u,simprocAttr,Bj,Aw,hwi];generalize L[i]=x at hsp hbad sU ⊢
  refine⟨fun h4=>?_,fun h4=>?_⟩
  ·rw[Aq (by rw[AY];exact h4),CW] at hsp;refine⟨(i+1,o,t),⟨by dsimp only;omega,by dsimp only;rw[hsp];exact y2⟩,by dsimp only;omega,?_⟩;exact .oA [(4096,some 4096)] []
  ·rw[Aj (AY.2 h4)] at hsp;refine C1.im (sU b) rF rF ?_;simp only[tZ,↓un_u,simprocAttr,tD,Bj,Aw,hwi];refine⟨fun h5=>?_,fun h5=>?_⟩
   ·rw[h5.1] at y2;rw[hbad y2 (AY.2 h4) h5.2];exact .oA [] []
   ·refine⟨(i+1,upC l x b,true),⟨by dsimp only;omega,?_⟩,by dsimp only;omega,?_⟩
    ·dsimp only;rw[hsp];rcases y2 with⟨k1,k2,k3⟩ | ⟨z,r,k1,k2,k3,k4⟩
     ·exact .inr ⟨x,[],by rw[k1];rfl,sMp,rfl,rfl⟩
     ·right
      have hx:upC l x b=o:=by
       rw[k4] at h5;simpa using h5
      refine⟨z,r++[x],by rw[k1];rfl,fun y hy=>?_,by rw[hx,k3],rfl⟩;rcases Dz.1 hy with hy | hy
      ·exact k2 y hy
      ·rw[Ey.1 hy];dsimp only;rw[hx,k3]
    ·exact .oA [(4096,some 4096)] []
 ·have hil:i=L.length:=by omega
  subst hil;rw[Bw] at y2;rw[TcI.fin y2];exact .oA [] []
theorem qI7 (s:Sch) (hE:schE s=0) (k:Nat) (hk:k<s.cols.length) (h0:0<k) (h2:(qj s k).kind=2) (a v b:Int) (ha:0≤a∧a≤finI s k) (hb:0≤b∧b≤finI s k):Spc Tryz.prog 140 [schT s,vI k,vI a,vI v,vI b] []
 (let r:=Wx (qO s k) (fun x=>upC (qK s k) x a) (fun x=>upC (qK s k) x b) v;.tup [vI (if r.2=true then r.1 else 0),vB r.2]) []:=by
 have hok:=qU hE;have hat:qj s k=s.cols[k]:=by rw[qj,qg hk]
 obtain⟨d1,d2⟩:=hok.cdl hk h2;have hls:qO s k=atL (qK s k) (zg (qK s k)-1):=rfl;have hcd:qK s k=s.lists.getD (qj s k).list.toNat default:=rfl;have hkk:=(za (hok.cs k hk)).2.2.2.1 h2;have sT:=ki s hE k;have e1:decide (a<0)=false:=Cq oM;have e2:decide (a>finI s k)=false:=Cq oM;have e3:decide (b<0)=false:=Cq oM;have e4:decide (b>finI s k)=false:=Cq oM;rw[hls];have sC:=qA7 (qK s k) d2 a v b;generalize Wx (atL (qK s k) (zg (qK s k)-1)) (fun x=>upC (qK s k) x a) (fun x=>upC (qK s k) x b) v=r at sC ⊢
 rw[hat] at d1 h2 hcd hkk;rw[hcd,qg d1] at sC;dsimp only;refine sIr Qs fun e _ hst=>?_;unfold jB;refine sW ?_;refine C1.im sT rF rF ?_;simp only[tZ,↓un_u,simprocAttr,e1,e2,e3,e4,Ax,qd hk,AY,Ak];generalize s.cols[k]=x at d1 h2 hkk sC ⊢
 refine⟨oM,fun _=>?_,fun h=>absurd h2 h⟩;simp only[tZ,↓un_u,simprocAttr,qd d1];refine⟨oM,?_⟩;refine C1.im sC rF rF ?_;simp only[tZ,↓un_u,simprocAttr,Bx,Bz];refine⟨fun h=>?_,fun h=>?_⟩
 ·rw[h,Aq sMp];exact .oA [] []
 ·rw[h,Aj rfl];exact .oA [] []
end Go.Proofs
namespace Go.Proofs
open Go Go.TL
set_option maxRecDepth 4000
set_option maxHeartbeats 8000000
open So
def ZO (c:Col) (a v b:Int):Int×Bool:=
 if 0<a∧v=zp then ((if b=0 then 0 else v),c.opt)
 else if (jl c a v).2.2=false then (0,false)
 else if b=0 then (0,true)
 else if a=0∧c.opt=true then (0,false)
 else (qH (jl c a v).1 (qy c b)*qy c b,qH (jl c a v).1 (qy c b)*qy c b==qH (jl c a v).2.1 (qy c b)*qy c b)
theorem jy6 {c:Col} {lev v:Int} (h:lev=0∨(1≤qy c lev∧qy c lev≤1000000)) (hc : -1000000≤c.low∧c.low≤c.high∧c.high≤1000000) : -4000000≤(jl c lev v).1∧(jl c lev v).1≤4000000∧-4000000≤(jl c lev v).2.1∧(jl c lev v).2.1≤4000000:=by
 unfold jl;split
 ·dsimp only;omega
 ·split
  ·dsimp only;omega
  ·dsimp only;omega
theorem qe2 (c:Col) (a v b:Int) (hc : -1000000≤c.low∧c.low≤c.high∧c.high≤1000000)
 (ha:a=0∨(1≤a∧a≤c.widths.length∧c.widths.length≤4∧1≤qy c a∧qy c a≤1000000))
 (hb:b=0∨(1≤b∧b≤c.widths.length∧c.widths.length≤4∧1≤qy c b∧qy c b≤1000000)) :
 Spc Tryz.prog 197 [colT c,vI a,vI v,vI b] [] (.tup [vI (ZO c a v b).1,vB (ZO c a v b).2]) []:=by
 have hm:zp = -1099511627776:=rfl;have hT:ZO c a v b=if 0<a∧v=zp then ((if b=0 then 0 else v),c.opt)
  else if (jl c a v).2.2=false then (0,false)
  else if b=0 then (0,true)
  else if a=0∧c.opt=true then (0,false)
  else (qH (jl c a v).1 (qy c b)*qy c b,qH (jl c a v).1 (qy c b)*qy c b==qH (jl c a v).2.1 (qy c b)*qy c b):=rfl
 have hS:=qt1 c a v ha;have hr:=jy6 (v:=v) (show a=0∨(1≤qy c a∧qy c a≤1000000) by omega) hc;generalize jl c a v=z at hT hS hr;obtain⟨lo,hi,ok⟩:=z;dsimp only at hT hS hr;rw[hT];by_cases h1:0<a∧v=zp
 ·rw[Aj h1];have q1:decide (a>0)=true:=Cx h1.1;have q2:(v == -1099511627776)=true:=AY.2 (h1.2.trans hm);refine sIr Qe fun e _ hst=>?_;unfold ji;simp only[tZ,↓un_u,simprocAttr,q1,q2,AY,Ak];refine⟨fun h=>?_,fun h=>?_⟩
  ·rw[Aj h];refine⟨kR,?_⟩;exact .oA [] []
  ·rw[Aq h];refine⟨kR,?_⟩;exact .oA [] []
 rw[Aq h1];have q1:(decide (a>0)&&(v == -1099511627776))=false:=by
  rw[Bool.eq_false_iff];intro k;rw[Bq,AZ,AY] at k;exact h1 k
 refine sIr Qe fun e _ hst=>?_;unfold ji;simp only[tZ,↓un_u,simprocAttr,q1];refine C1.im hS rF rF ?_;simp only[tZ,↓un_u,simprocAttr,Bx,Bz];refine⟨fun h2=>?_,fun h2=>⟨fun h3=>?_,fun h3=>⟨fun h4=>?_,fun h4=>?_⟩⟩⟩
 ·rw[Aj h2];exact .oA [] []
 ·rw[Aq (by rw[h2];simp),Aj (AY.1 h3)];exact .oA [] []
 ·rw[Bq,AY] at h4;rw[Aq (by rw[h2];simp),Aq (Ak.1 h3),Aj h4];exact .oA [] []
 ·have h5:¬ (a=0∧c.opt=true):=fun k=>by
   rw[← AY,← Bq,h4] at k;cases k
  obtain⟨l1,l2,l3,l4,l5⟩:=hb.resolve_left (Ak.1 h3);have hW:=yZ c b ⟨l1,l2⟩ oM;have hD1:=ku lo (qy c b) oM oM;have hD2:=ku hi (qy c b) oM oM;rw[Aq (by rw[h2];simp),Aq (Ak.1 h3),Aq h5];generalize qy c b=w at hW hD1 hD2 l4 l5 ⊢
  refine C1.im hW rF rF ?_;refine sW ?_;refine C1.im hD1 rF rF ?_;refine sW ?_;refine C1.im hD1 rF rF ?_;refine sW ?_;refine C1.im hD2 rF rF ?_;refine sW ?_;exact .oA [] []
theorem jy7 {c:Col} (h:measE c=0) : -1000000≤c.low∧c.low≤c.high∧c.high≤1000000:=by
 unfold measE at h;split at h
 ·cases h
 ·rename_i h1;rw[Wu,Wu] at h1;omega
def Kb (s:Sch) (c a v b:Int):Int×Bool:=
 if inB a 0 (finI s c)=false∨inB b 0 (finI s c)=false then (0,false)
 else
  let r:=if (qj s c.toNat).kind=2 then Wx (qO s c.toNat) (fun x=>upC (qK s c.toNat) x a) (fun x=>upC (qK s c.toNat) x b) v else ZO (qj s c.toNat) a v b
  (if r.2=true then r.1 else 0,r.2)
theorem YX (s:Sch) (hE:schE s=0) (c a v b:Int):Spc Tryz.prog 140 [schT s,vI c,vI a,vI v,vI b] [] (.tup [vI (Kb s c a v b).1,vB (Kb s c a v b).2]) []:=by
 have hok:=qU hE;by_cases hin:inB a 0 (finI s c)=false∨inB b 0 (finI s c)=false
 ·have hT:Kb s c a v b=(0,false):=by rw[Kb,Aj hin]
  have hsm : -1≤finI s c:=by
   by_cases hc:1≤c∧c<s.cols.length
   ·obtain⟨i,rfl⟩:=AJ (show 0≤c by omega);have:=jU1 hE (k:=i) oM oM;omega
   ·rw[finI,Aj oM];omega
  rw[hT];have sT:=ki s hE c;refine sIr Qs fun e _ hst=>?_;unfold jB;refine sW ?_;refine C1.im sT rF rF ?_;refine sD ?_;have hh:((a<0∨a>finI s c)∨b<0)∨b>finI s c:=by
   rw[Wu,Wu] at hin;omega
  refine⟨fun _=>?_,fun k=>absurd hh oM⟩;exact .oA [] []
 ·have hA:inB a 0 (finI s c)=true:=by cases h:inB a 0 (finI s c) with
   | true=>rfl
   | false=>exact absurd (.inl h) hin
  have hB:inB b 0 (finI s c)=true:=by cases h:inB b 0 (finI s c) with
   | true=>rfl
   | false=>exact absurd (.inr h) hin
  rw[jj] at hA hB;obtain⟨_,c1,c2,hfin⟩:=kf (s:=s) (c:=c) oM;obtain⟨k,rfl⟩:=AJ (show 0≤c by omega);have hk:k<s.cols.length:=by omega
  have hT:Kb s k a v b=(let r:=if (qj s k).kind=2 then Wx (qO s k) (fun x=>upC (qK s k) x a) (fun x=>upC (qK s k) x b) v else ZO (qj s k) a v b
   (if r.2=true then r.1 else 0,r.2)):=by rw[Kb,Aq hin,Ax]
  by_cases h2:(qj s k).kind=2
  ·rw[hT,Aj h2];exact qI7 s hE k hk oM h2 a v b hA hB
  ·rw[hT,Aq h2];have hat:qj s k=s.cols[k]:=by rw[qj,qg hk]
   have hkk:=za (hok.cs k hk);have h3:(qj s k).kind=3:=by have:=hkk.2.2.1 oM;omega
   have hm:=hkk.2.2.2.2 h3;have hwl : -1000000≤(qj s k).low∧(qj s k).low≤(qj s k).high∧(qj s k).high≤1000000:=jy7 hm;have hf:finI s k=(qj s k).widths.length:=by rw[finI,Aq oM,Ax,Aq h2]
   have hw:=fun lev (h1:0≤lev∧lev≤finI s k)=>show lev=0∨(1≤lev∧lev≤(qj s k).widths.length∧(qj s k).widths.length≤4∧1≤qy (qj s k) lev∧qy (qj s k) lev≤1000000) by
    rcases Int.lt_or_le 0 lev with q | q
    ·right
     obtain⟨w1,w2,_,w4,_⟩:=hok.wid hk oM h2 (lev:=lev) oM;exact⟨oM,oM,w4,w1,w2⟩
    ·left;omega
   have sM:=qe2 (qj s k) a v b hwl (hw a hA) (hw b hB);have sT:=ki s hE k;have e1:decide (a<0)=false:=Cq oM;have e2:decide (a>finI s k)=false:=Cq oM;have e3:decide (b<0)=false:=Cq oM;have e4:decide (b>finI s k)=false:=Cq oM;generalize ZO (qj s k) a v b=r at sM ⊢
   rw[hat] at sM h2;dsimp only;refine sIr Qs fun e _ hst=>?_;unfold jB;refine sW ?_;refine C1.im sT rF rF ?_;simp only[tZ,↓un_u,simprocAttr,e1,e2,e3,e4,Ax,qd hk,AY,Ak];generalize s.cols[k]=x at h2 sM ⊢
   refine⟨oM,fun h=>absurd h h2,fun _=>?_⟩;refine C1.im sM rF rF ?_;simp only[tZ,↓un_u,simprocAttr,Bx,Bz];refine⟨fun h=>?_,fun h=>?_⟩
   ·rw[h,Aq sMp];exact .oA [] []
   ·rw[h,Aj rfl];exact .oA [] []
end Go.Proofs
namespace Go.Proofs
open Go Go.TL
set_option maxRecDepth 4000
set_option maxHeartbeats 8000000
theorem zP3 {α:Type} {p:α→Bool} {l:List α} (h:l.any p=true):∃ (i:Nat) (hi:i<l.length),idxI p l=i∧p l[i]=true:=by
 obtain⟨x,hx,hp⟩:=DJ.1 h;have hlt:=List.findIdx_lt_length_of_exists ⟨x,hx,hp⟩;exact⟨l.findIdx p,hlt,by rw[idxI,Aj h],List.findIdx_getElem⟩
end Go.Proofs
namespace Go.Proofs
open Go Go.TL
set_option maxRecDepth 4000
set_option maxHeartbeats 8000000
open So
def fitV (s:Sch) (ps:List Pk) (row:List Int) (i:Nat):Bool:=(qz3 s (ps.getD i default).col.toNat (ps.getD i default).lev (row.getD (i+1) 0)).2
def fitX (s:Sch) (ps:List Pk) (row:List Int):Bool:=(row.length==ps.length+1)&&decide (0≤hd row)&&decide (hd row≤1048575)&&(List.range ps.length).all (fitV s ps row)
theorem zj3 {n:Nat} {p:Nat→Bool}:(List.range (n+1)).all p=((List.range n).all p&&p n):=by
 rw[List.range_succ,FK];simp
theorem zI6 {n m:Nat} {p:Nat→Bool} (h:n<m) (hp:p n=false):(List.range m).all p=false:=by
 rw[List.all_eq_false];exact⟨n,Dk.2 h,by rw[hp];simp⟩
theorem ze5 (s:Sch) (ps:List Pk) (row:List Int) (hp:yd s ps=0) (hr:row.length<4611686018427387904):Spc Tryz.prog 101 [schT s,vPs ps,vIs row] [] (vB (fitX s ps row)) []:=by
 obtain⟨hE,hpk,_⟩:=Kr hp;have hpl:=Ks hp;have hwl:=qh (i:=ps.length) oM;by_cases hl:row.length=ps.length+1
 ·have h0:0<row.length:=by omega
  have hgi:=zn h0;have q1:((row.length:Int) != ((ps.length+1:Nat):Int))=false:=by rw[Aw];omega
  have hX:fitX s ps row=(decide (0≤hd row)&&decide (hd row≤1048575)&&(List.range ps.length).all (fitV s ps row)):=by
   rw[fitX,AY.2 hl,Fq]
  rw[hX];refine sIr Zm fun e _ hst=>?_;unfold jS;simp only[tZ,↓un_u,simprocAttr,hwl,q1,hgi,tD,gt_iff_lt];refine⟨oM,oM,fun h=>?_,fun h=>?_⟩
  ·rw[show (decide (0≤hd row)&&decide (hd row≤1048575))=false from by
    rw[Bool.eq_false_iff];intro k;simp only[Bq,AZ] at k;omega,Bool.false_and]
   exact .oA [] []
  rw[show (decide (0≤hd row)&&decide (hd row≤1048575))=true from by simp only[Bq,AZ];omega,Fq];refine qk mixm (α:=Nat) [31] (fun i=>i≤ps.length∧((List.range i).all (fitV s ps row)=true)) (fun i=>[(31,vI i)]) (fun i=>[(4096,.arr 2 [schT s] false)]) (fun i=>ps.length-i) 0 ⟨oM,?_⟩ ?_ fun i hi=>?_
  ·rfl
  ·exact .oA [(4096,some 4096)] []
  simp only[tZ,↓un_u,simprocAttr,AZ,Ay];refine⟨fun h=>?_,fun h=>?_⟩
  ·have hi2:i<ps.length:=by omega
   have hpi:=Wi (hpk _ (AX hi2));obtain⟨c,hc⟩:=AJ (show 0≤ps[i].col by omega);have hwi:=qh (i:=i) oM;have hs:=zt0 s hE c oM oM ps[i].lev (row.getD (i+1) 0) (by rw[hc] at hpi;omega);have hrl:i+1<row.length:=by omega
   have hgr:(row.map vI).getD (i+1) .junk=vI (row.getD (i+1) 0):=by rw[qd hrl,qg hrl]
   have hV:fitV s ps row i=(qz3 s c ps[i].lev (row.getD (i+1) 0)).2:=by rw[fitV,qg hi2,hc,Ax]
   have hi2:i<ps.length:=by omega
   have hwi:=qh (i:=i) oM;simp only[tZ,↓un_u,simprocAttr,Ax,qd hi2,hwi,hc,hgr];refine⟨oM,oM,?_⟩;refine C1.im hs rF rF ?_;simp only[tZ,↓un_u,simprocAttr,Bx,Bz,hwi];refine⟨kR,fun h6=>?_,fun h6=>?_⟩
   ·rw[zI6 hi2 (hV.trans h6)];exact .oA [] []
   ·refine⟨i+1,⟨oM,by rw[zj3,hi.2,hV,h6];rfl⟩,oM,?_⟩;exact .oA [(4096,some 4096)] []
  ·have hi2:i=ps.length:=by omega
   subst hi2;rw[hi.2];exact .oA [] []
 ·have q1:((row.length:Int) != ((ps.length+1:Nat):Int))=true:=by rw[Bj];omega
  have hX:fitX s ps row=false:=by
   rw[fitX,Ak.2 hl]
   rfl
  rw[hX];by_cases h0:0<row.length
  ·have hgi:=zn h0;refine sIr Zm fun e _ hst=>?_;unfold jS;simp only[tZ,↓un_u,simprocAttr,hwl,q1,hgi];exact .oA [] []
  ·obtain rfl:row=[]:=Dy.1 oM;have hb1:∀ n,binR BinOp.lss false (((List.map vI ([]:List Int)).getD 0 T.junk).cells.getD 0 T.junk) (T.v (Value.int IntKind.i64 n))=none:=fun _=>rfl;have hb2:∀ n,binR BinOp.gtr false (((List.map vI ([]:List Int)).getD 0 T.junk).cells.getD 0 T.junk) (T.v (Value.int IntKind.i64 n))=none:=fun _=>rfl;have q0:((0:Int) != ((ps.length+1:Nat):Int))=true:=by rw[Bj];omega
   refine sIr Zm fun e _ hst=>?_;unfold jS;simp only[tZ,↓un_u,simprocAttr,hwl,q0,hb1,hb2];exact .oA [] []
theorem qU7 {s:Sch} {ps:List Pk} {row:List Int} (h:fitX s ps row=true):row.length=ps.length+1∧0≤hd row∧hd row≤1048575:=by
 unfold fitX at h;simp only[Bq,AY,AZ] at h;exact⟨h.1.1.1,h.1.1.2,h.1.2⟩
def qI8 (s:Sch) (x:Ext) (i:Nat):Int:=if fitX s x.picks (x.rows.getD i [])=false then 9 else if 0<i∧hd (x.rows.getD i [])≤hd (x.rows.getD (i-1) []) then 10 else 0
def extE (s:Sch) (x:Ext):Int:=if schE s≠0 then schE s else if zZ x.proj=false then 3 else if x.ver<0∨x.ver>300 then 13 else if yd s x.picks≠0 then yd s x.picks else if x.rows.length>200 then 1 else zl (qI8 s x) x.rows.length
theorem yj (s:Sch) (hs:jo s) (x:Ext) (hp:x.picks.length<4611686018427387904) (hr:∀ r∈x.rows,r.length<4611686018427387904):Spc Tryz.prog 39 [schT s,extT x] [] (vI (extE s x)) []:=by
 refine sIr qD8 fun e _ hst=>?_;unfold Ql;refine sW ?_;refine C1.im (zS s hs.2.1 hs.1) rF rF ?_;simp only[tZ,↓un_u,simprocAttr,Bj,Aw];refine⟨fun h=>?_,fun h=>?_⟩
 ·rw[extE,Aj h];exact .oA [] []
 rw[extE,Aq (by rw[h];simp)];refine C1.im (kg x.proj) rF rF ?_;simp only[tZ,↓un_u,simprocAttr,tD,Bx,Bz,gt_iff_lt];refine⟨fun h2=>?_,fun h2=>⟨fun h3=>?_,fun h3=>?_⟩⟩
 ·rw[Aj h2];exact .oA [] []
 ·rw[Aq (by rw[h2];simp),Aj h3];exact .oA [] []
 rw[Aq (by rw[h2];simp),Aq oM];refine C1.im (qf3 s hs x.picks hp) rF rF ?_;simp only[tZ,↓un_u,simprocAttr,Bj,Aw];refine⟨fun h4=>?_,fun h4=>?_⟩
 ·rw[Aj h4];exact .oA [] []
 rw[Aq (by rw[h4];simp)];simp only[tZ,↓un_u,simprocAttr,tD,gt_iff_lt];refine⟨fun h5=>?_,fun h5=>?_⟩
 ·rw[Aj oM];exact .oA [] []
 rw[Aq oM];generalize hE:zl (qI8 s x) x.rows.length=E;refine qk mixm (α:=Nat) [42] (fun i=>i≤x.rows.length∧(zl (qI8 s x) i=0)) (fun i=>[(42,vI i)]) (fun i=>[(4096,.arr 2 [schT s] false),(4100,.arr 4 [extT x] false)]) (fun i=>x.rows.length-i) 0 ⟨oM,?_⟩ ?_ fun i hi=>?_
 ·rfl
 ·exact .oA [(4096,some 4096),(4100,some 4100)] []
 simp only[tZ,↓un_u,simprocAttr,AZ,Ay];refine⟨fun h=>?_,fun h=>?_⟩
 ·have hi2:i<x.rows.length:=by omega
  have hg:x.rows.getD i []=x.rows[i]:=qg hi2;have hstep:=jv hi.2 hi2;have hnext:=zx hi.2;have hA:qI8 s x i=if fitX s x.picks x.rows[i]=false then 9 else if 0<i∧hd x.rows[i]≤hd (x.rows.getD (i-1) []) then 10 else 0:=by rw[qI8,hg]
  have hprev:0<i→fitX s x.picks (x.rows.getD (i-1) [])=true:=fun h0=>by
   have:=ww hi.2 (i-1) oM;unfold qI8 at this;split at this
   ·cases this
   ·rename_i k;simpa using k
  rw[hE] at hstep;have hF:=ze5 s x.picks x.rows[i] h4 (hr _ (AX hi2));obtain⟨k,hk1,hk2,hk3⟩:∃ k:Nat,(IntKind.i64.wrap ((i:Int)-1)).toNat=k∧k<x.rows.length∧(i=0∧k=0∨0<i∧k+1=i∧IntKind.i64.wrap ((i:Int)-1)=k):=by
   rcases DQ i with h0 | h0
   ·subst h0;exact⟨0,by decide,hi2,.inl ⟨rfl,rfl⟩⟩
   ·have e:=zD h0 (show i<4611686018427387904 by omega);exact⟨i-1,by rw[e];omega,oM,.inr ⟨h0,oM,e⟩⟩
  have hwi:=qh (i:=i) oM;have hi2:i<x.rows.length:=by omega
  have hwi:=qh (i:=i) oM;simp only[tZ,↓un_u,simprocAttr,Ax,qd hi2,hwi];refine⟨oM,?_⟩;refine C1.im hF rF rF ?_;simp only[tZ,↓un_u,simprocAttr,Bx,Bz];refine⟨fun h6=>?_,fun h6=>?_⟩
  ·rw[Aj h6] at hA;rw[hstep (by rw[hA];simp),hA];exact .oA [] []
  rw[Aq (by rw[h6];simp)] at hA;obtain⟨f1,f2,f3⟩:=qU7 h6;have hip:0<x.rows[i].length:=by omega
  have hkp:0<x.rows[k].length:=by
   rcases hk3 with⟨a,b⟩ | ⟨a,b,_⟩
   ·subst a;subst b;exact hip
   ·have:=(qU7 (hprev a)).1;rw[show i-1=k by omega,qg hk2] at this;omega
  have hgk:0<i→x.rows.getD (i-1) []=x.rows[k]:=fun h0=>by
   rw[show i-1=k by omega,qg hk2]
  simp only[tZ,↓un_u,simprocAttr,hk1,qd hk2,zn hip,zn hkp,tD,gt_iff_lt,hwi];refine⟨fun _=>by omega,fun _=>by omega,fun _=>by omega,kR,fun h7=>?_,fun h7=>?_⟩
  ·have h8:0<i:=by omega
   rw[Aj ⟨h8,by rw[hgk h8];exact h7.2⟩] at hA;rw[hstep (by rw[hA];simp),hA];exact .oA [] []
  ·rw[Aq (fun k=>by
    have h8:=k.1;rw[hgk h8] at k;omega)] at hA
   refine⟨i+1,⟨oM,by rw[hnext,hA]⟩,oM,?_⟩;exact .oA [(4096,some 4096),(4100,some 4100)] []
 ·have hi2:i=x.rows.length:=by omega
  subst hi2;rw[← hE,hi.2];exact .oA [] []
theorem jy8 {s:Sch} {x:Ext} (h:extE s x=0):schE s=0∧zZ x.proj=true∧(0≤x.ver∧x.ver≤300)∧yd s x.picks=0∧x.rows.length≤200∧(∀ i (hi:i<x.rows.length),fitX s x.picks x.rows[i]=true)∧AscR x.rows:=by
 unfold extE at h;split at h
 ·rename_i h1;exact absurd h h1
 rename_i h1;split at h
 ·cases h
 rename_i h2;split at h
 ·cases h
 rename_i h3;split at h
 ·rename_i h4;exact absurd h h4
 rename_i h4;split at h
 ·cases h
 rename_i h5;have key:∀ i (hi:i<x.rows.length),fitX s x.picks x.rows[i]=true∧¬ (0<i∧hd (x.rows.getD i [])≤hd (x.rows.getD (i-1) [])):=fun i hi=>by
  have:=ww h i hi;unfold qI8 at this;split at this
  ·cases this
  ·rename_i k;rw[qg hi] at k;split at this
   ·cases this
   ·rename_i k2;exact⟨by simpa using k,k2⟩
 refine⟨AQ h1,by simpa using h2,oM,AQ h4,oM,fun i hi=>(key i hi).1,jf1 (f:=hd) fun i h0 hi=>?_⟩;have:=(key i hi).2;have e1:x.rows.getD i default=x.rows.getD i []:=rfl;have e2:x.rows.getD (i-1) default=x.rows.getD (i-1) []:=rfl;rw[e1,e2];omega
def knwP (x:Ext) (r:Nat) (c:Int):Int×Int:=if (x.picks.any fun p=>p.col==c)=true then ((x.picks.getD (x.picks.findIdx fun p=>p.col==c) default).lev,(x.rows.getD r []).getD ((x.picks.findIdx fun p=>p.col==c)+1) 0) else (0,0)
def knwI (s:Sch) (x:Ext) (r:Nat) (c lev:Int):Int×Bool:=Kb s c (knwP x r c).1 (knwP x r c).2 lev
theorem qA8 (p:Pk) (c:Int):Spc Tryz.prog 175 [pkT p,.ip [vI c]] [] (vB (p.col==c)) []:=by
 refine sIr qp2 fun e _ hst=>?_;unfold wT;refine sW ?_;exact .oA [] []
theorem qU8 (s:Sch) (hE:schE s=0) (x:Ext) (r:Nat) (hr:r<x.rows.length) (hrl:x.rows[r].length=x.picks.length+1) (hpl:x.picks.length≤1000) (c lev:Int):Spc Tryz.prog 108 [schT s,extT x,vI r,vI c,vI lev] [] (.tup [vI (knwI s x r c lev).1,vB (knwI s x r c lev).2]) []:=by
 have sI:=yi (fun p=>p.col==c) 175 [.ip [vI c]] rfl x.picks (fun p _=>qA8 p c) oM;cases ha:x.picks.any fun p=>p.col==c with
 | false=>
   have h0:idxI (fun p:Pk=>p.col==c) x.picks = -1:=by rw[idxI,Aq (by rw[ha];simp)]
   have hT:=YX s hE c 0 0 lev;have hK:knwI s x r c lev=Kb s c 0 0 lev:=by rw[knwI,knwP,Aq (by rw[ha];simp)]
   rw[hK];generalize Kb s c 0 0 lev=w at hT ⊢
   rw[h0] at sI;refine sIr Wt fun e _ hst=>?_;unfold kU;refine sW ?_;refine C1.lend [4104] sI ?_ rF rF ?_
   ·all_goals (try simp only[tL,simprocAttr,By,List.map_cons,List.map_nil,BW,Cy])
    all_goals (try (repeat' (first | exact qZ | (apply ze;intro _;exact⟨rfl,rfl⟩) | (apply qE;intro _;exact⟨rfl,rfl⟩) | with_reducible apply qV | with_reducible refine qT ⟨rfl,rfl⟩ ?_ | exact qY | with_reducible apply qR | with_reducible refine qW ⟨rfl,rfl,?_⟩ ?_ | with_reducible apply Az | exact qS rfl | exact qS (by assumption) | (refine⟨⟨?_,rfl,?_,rfl,?_⟩,trivial⟩ <;> first | (simp;done) | (apply qE;intro _;exact⟨rfl,rfl⟩)) | trivial | rfl | (rw[qh oM]) | omega)))
    all_goals (simp only[ltP];exact⟨rfl,by decide,rfl,qT ⟨rfl,rfl⟩ qY⟩)
   refine sW ?_;refine C1.im hT rF rF ?_;refine sW ?_;exact .oA [] []
 | true=>
   obtain⟨i,hi,e1,_⟩:=zP3 ha;have e2:idxI (fun p:Pk=>p.col==c) x.picks=(x.picks.findIdx fun p=>p.col==c:Nat):=by rw[idxI,Aj ha]
   have e3:(x.picks.findIdx fun p=>p.col==c)=i:=by omega
   have hK:knwI s x r c lev=Kb s c x.picks[i].lev (x.rows[r].getD (i+1) 0) lev:=by rw[knwI,knwP,Aj ha,e3,qg hi,qg hr]
   have hT:=YX s hE c x.picks[i].lev (x.rows[r].getD (i+1) 0) lev;rw[hK];generalize Kb s c x.picks[i].lev (x.rows[r].getD (i+1) 0) lev=w at hT ⊢
   rw[e1] at sI;have hwi:=qh (i:=i) oM;have hil:i+1<x.rows[r].length:=by omega
   have hgr:(x.rows[r].map vI).getD (i+1) .junk=vI (x.rows[r].getD (i+1) 0):=by rw[qd hil,qg hil]
   refine sIr Wt fun e _ hst=>?_;unfold kU;refine sW ?_;refine C1.lend [4104] sI ?_ rF rF ?_
   ·all_goals (try simp only[tL,simprocAttr,By,List.map_cons,List.map_nil,BW,Cy])
    all_goals (try (repeat' (first | exact qZ | (apply ze;intro _;exact⟨rfl,rfl⟩) | (apply qE;intro _;exact⟨rfl,rfl⟩) | with_reducible apply qV | with_reducible refine qT ⟨rfl,rfl⟩ ?_ | exact qY | with_reducible apply qR | with_reducible refine qW ⟨rfl,rfl,?_⟩ ?_ | with_reducible apply Az | exact qS rfl | exact qS (by assumption) | (refine⟨⟨?_,rfl,?_,rfl,?_⟩,trivial⟩ <;> first | (simp;done) | (apply qE;intro _;exact⟨rfl,rfl⟩)) | trivial | rfl | (rw[qh oM]) | omega)))
    all_goals (simp only[ltP];exact⟨rfl,by decide,rfl,qT ⟨rfl,rfl⟩ qY⟩)
   have q1:decide ((i:Int)<0)=false:=Cq oM;have hgi2:=qd (f:=pkT) hi;simp only[tZ,↓un_u,simprocAttr,q1,Ax,hgi2,qd hr,hwi,hgr];refine⟨oM,oM,oM,?_⟩;refine C1.im hT rF rF ?_;refine sW ?_;refine⟨kR,?_⟩;exact .oA [] []
def valI (s:Sch) (x:Ext) (r c lev:Int):Int×Bool:=if extE s x≠0∨r<0∨r≥x.rows.length then (0,false) else knwI s x r.toNat c lev
theorem YY (s:Sch) (hs:jo s) (x:Ext) (hp:x.picks.length<4611686018427387904) (hr:∀ r∈x.rows,r.length<4611686018427387904) (r c lev:Int):Spc Tryz.prog 43 [schT s,extT x,vI r,vI c,vI lev] [] (.tup [vI (valI s x r c lev).1,vB (valI s x r c lev).2]) []:=by
 have hV:valI s x r c lev=if extE s x≠0∨r<0∨r≥x.rows.length then (0,false) else knwI s x r.toNat c lev:=rfl
 have hC:=yj s hs x hp hr;by_cases h:extE s x≠0∨r<0∨r≥x.rows.length
 ·rw[hV,Aj h];refine sIr Ws fun e _ hst=>?_;unfold kT;refine sW ?_;refine C1.im hC rF rF ?_;simp only[tZ,↓un_u,simprocAttr,tD,Bj,Aw];refine⟨fun _=>?_,fun k=>by omega⟩;exact .oA [] []
 ·obtain⟨hE,_,_,hp0,_,hf,_⟩:=jy8 (s:=s) (x:=x) oM;obtain⟨j,rfl⟩:=AJ (show 0≤r by omega);have hj:j<x.rows.length:=by omega
  have hpl:=Ks hp0;have hK:=qU8 s hE x j hj (qU7 (hf j hj)).1 oM c lev;rw[hV,Aq h,Ax];generalize knwI s x j c lev=w at hK ⊢
  refine sIr Ws fun e _ hst=>?_;unfold kT;refine sW ?_;refine C1.im hC rF rF ?_;simp only[tZ,↓un_u,simprocAttr,tD,Bj,Aw];refine⟨fun k=>by omega,fun _=>?_⟩;refine C1.im hK rF rF ?_;refine sW ?_;exact .oA [] []
def nrwX (x:Ext) (ks:List Int):Ext:=⟨x.proj,x.ver,x.picks,x.rows.filter fun r=>decide (0<r.length)&&ks.contains (hd r)⟩
end Go.Proofs
namespace Go.Proofs
open Go Go.TL
set_option maxRecDepth 4000
set_option maxHeartbeats 8000000
open So
def nrwP (ks:List Int) (r:List Int):Bool:=decide (0<r.length)&&ks.contains (hd r)
theorem Wy (x:Ext) (ks:List Int) (hk:ks.length<4611686018427387904) (hp:x.picks.length*16≤140737488355328) (hrl:x.rows.length≤1000000) (hr:∀ r∈x.rows,r.length*8≤140737488355328):Spc Tryz.prog 41 [extT x,vIs ks] [] (extT (nrwX x ks)) []:=by
 rw[show nrwX x ks=⟨x.proj,x.ver,x.picks,x.rows.filter (nrwP ks)⟩ from rfl];refine sIr qv5 fun e _ hst=>?_;unfold yz;refine sW ?_;refine C1.im (ZJ x.picks hp) rF rF ?_;refine sW ?_;refine⟨kR,?_⟩;refine qk mixm (α:=Nat) [19] (fun i=>i≤x.rows.length) (fun i=>[(19,vI i)]) (fun i=>[(4100,.arr 4 [extT ext0] false),(8224,.arr 4 [.agg [vS x.proj,vI x.ver,vPs x.picks,.asl 1 ((x.rows.take i).filter (nrwP ks)).length]] false),(1,.arr 1 (((x.rows.take i).filter (nrwP ks)).map vIs) false)]) (fun i=>x.rows.length-i) 0 oM ?_ fun i hi=>?_
 ·exact .oA [(4100,some 4100),(8224,some 8224),(1,none)] []
 have hfl:=Fx (nrwP ks) (x.rows.take i);rw[Cz] at hfl;refine sD ?_;refine⟨fun h4=>?_,fun h4=>?_⟩
 ·have hi2:i<x.rows.length:=by omega
  have hwi:=qh (i:=i) oM;have hsp:(x.rows.take (i+1)).filter (nrwP ks)=(x.rows.take i).filter (nrwP ks)++if nrwP ks x.rows[i]=true then [x.rows[i]] else []:=by
   rw[qJ hi2,FY,List.filter_cons,List.filter_nil]
  have hrr:=hr _ (AX hi2);have hCl:=qs7 x.rows[i] oM;simp only[tZ,↓un_u,simprocAttr,Ax,qd hi2];refine⟨oM,?_⟩;generalize x.rows[i]=r at hsp hrr hCl ⊢
  by_cases h0:0<r.length
  ·have hgi:=zn h0;have hCt:=kh ks (hd r) hk;have q1:decide ((r.length:Int)>0)=true:=Cx oM;have hP:nrwP ks r=ks.contains (hd r):=by rw[nrwP,Cx h0,Fq]
   rw[hP] at hsp;simp only[tZ,↓un_u,simprocAttr,hgi,q1];refine⟨oM,?_⟩;refine C2.im (fun _=>hCt) (fun _=>rfl) rF ?_;simp only[tZ,↓un_u,simprocAttr,hwi];refine⟨fun h6=>?_,fun h6=>?_⟩
   ·rw[Aj h6] at hsp;refine C1.im hCl rF rF ?_;simp only[tZ,↓un_u,simprocAttr,hwi];have hspl:=congrArg List.length hsp;simp only[AW,CJ,Cw] at hspl;refine⟨oM,kR,i+1,oM,oM,?_⟩;rw[hsp];exact .oA [(4100,some 4100),(8224,some 8224),(1,some 1)] []
   ·rw[Aq (by rw[h6];simp),CW] at hsp;refine⟨i+1,oM,oM,?_⟩;rw[hsp];exact .oA [(4100,some 4100),(8224,some 8224),(1,some 1)] []
  ·have q1:decide ((r.length:Int)>0)=false:=Cq oM;have hP:nrwP ks r=false:=by rw[nrwP,Cq h0,Bool.false_and]
   rw[hP,Aq sMp,CW] at hsp;obtain rfl:r=[]:=Dy.1 oM;simp only[tZ,↓un_u,simprocAttr,q1];refine C2.im (r:=vB false) (fun h=>absurd h sMp) (fun h=>absurd h sMp) rF ?_;simp only[tZ,↓un_u,simprocAttr,hwi];refine⟨i+1,oM,oM,?_⟩;rw[hsp];exact .oA [(4100,some 4100),(8224,some 8224),(1,some 1)] []
 ·have hil:i=x.rows.length:=by omega
  subst hil;rw[Bw];exact .oA [] [1]
end Go.Proofs
namespace Go.Proofs
open Go Go.TL
set_option maxRecDepth 4000
set_option maxHeartbeats 8000000
def zu1:CodL:=⟨⟨#[108]⟩,[⟨⟨#[97]⟩,-1⟩,⟨⟨#[98]⟩,0⟩,⟨⟨#[99]⟩,0⟩]⟩
def qe3:Sch:=⟨[zu1],[⟨⟨#[119,104,111]⟩,1,0,0,0,[],false⟩,⟨⟨#[115,101,120]⟩,2,0,0,0,[],false⟩]⟩
def zu2:Qst:=⟨⟨#[113]⟩,1,.mk 1 0 0 0 0 [],[⟨1,1⟩],-1,[],cnd0⟩
def qA9:Dcl:=⟨⟨#[112]⟩,⟨#[115]⟩,.mk 1 0 0 0 0 [],⟨1,1,0⟩,[zu2]⟩
theorem qJ8:jo qe3:=⟨by decide,by decide,by decide⟩
end Go.Proofs
namespace Go.Proofs
open Go Go.TL
set_option maxRecDepth 4000
set_option maxHeartbeats 8000000
open So
def nmbL (rs:List (List Int)):List Int:=(rs.filter fun r=>decide (0<r.length)).map hd
theorem qU9 (x:Ext) (hrl:x.rows.length≤1000000):Spc Tryz.prog 37 [extT x] [] (vIs (nmbL x.rows)) []:=by
 refine sIr qD6 fun e _ hst=>?_;unfold Qk;refine sW ?_;refine qk mixm (α:=Nat) [3,9] (fun i=>i≤x.rows.length) (fun i=>[(3,.asl 1 (nmbL (x.rows.take i)).length),(9,vI i)]) (fun i=>[(1,.arr 1 ((nmbL (x.rows.take i)).map vI) false)]) (fun i=>x.rows.length-i) 0 oM ?_ fun i hi=>?_
 ·exact .oA [(1,none)] []
 have hfl:=Fx (fun r:List Int=>decide (0<r.length)) (x.rows.take i);rw[Cz] at hfl;have hnl:(nmbL (x.rows.take i)).length≤i:=by rw[nmbL,BY];omega
 refine sD ?_;refine⟨fun h4=>?_,fun h4=>?_⟩
 ·have hi2:i<x.rows.length:=by omega
  have hwi:=qh (i:=i) oM;have hsp:nmbL (x.rows.take (i+1))=nmbL (x.rows.take i)++if 0<x.rows[i].length then [hd x.rows[i]] else []:=by
   rw[nmbL,nmbL,qJ hi2,FY,By,List.filter_cons,List.filter_nil]
   congr 1
   by_cases h:0<x.rows[i].length
   ·rw[Aj h,Cx h,Aj rfl];rfl
   ·rw[Aq h,Cq h,Aq sMp];rfl
  simp only[tZ,↓un_u,simprocAttr,Ax,qd hi2,tD,gt_iff_lt];refine⟨oM,fun h5=>?_,fun h5=>?_⟩
  ·have h6:0<x.rows[i].length:=by omega
   have hgi:=zn h6;rw[Aj h6] at hsp;have hspl:=congrArg List.length hsp;simp only[AW,CJ,Cw] at hspl;simp only[tZ,↓un_u,simprocAttr,hgi,hwi];refine⟨oM,oM,i+1,oM,oM,?_⟩;rw[hsp];exact .oA [(1,some 1)] []
  ·rw[Aq oM,CW] at hsp;simp only[tZ,↓un_u,simprocAttr,hwi];refine⟨i+1,oM,oM,?_⟩;rw[hsp];exact .oA [(1,some 1)] []
 ·have hil:i=x.rows.length:=by omega
  subst hil;rw[Bw];exact .oA [] [1]
theorem zj4 (a:List Int):zq0 a a=true:=zE7.2 rfl
def qt7:Src:=⟨qe3,[[7,2]],[],0⟩
def qe4:Ext:=⟨⟨#[112]⟩,0,[⟨1,1⟩],[[keyI 99 7,2]]⟩
theorem jb0:Qf qt7 qA9 [⟨1,1⟩] 99=qe4∧buildE qt7 qA9 [⟨1,1⟩] 99=0:=⟨kR,kR⟩
theorem ka8:valI qe3 qe4 0 1 0=(0,true):=by kernel_rfl
theorem ka9:extE qe3 qe4=0:=by kernel_rfl
theorem kb0:ownS qt7 qA9=[7]:=by kernel_rfl
theorem qt8:Spc Tryz.prog 25 [] [] (vB true) []:=by
 have hsm:zG6 qt7:=⟨qJ8,by decide⟩;have hB:=qU5 qt7 qA9 [⟨1,1⟩] 99 hsm (by decide) (by decide);rw[jb0.1,jb0.2] at hB;have hV:=YY qe3 qJ8 qe4 (by decide) (by decide) 0 1 0;rw[ka8] at hV;have hK:=qT4 99 7;have hI:=YI [keyI 99 7,2] [keyI 99 7,2] (by decide);rw[zj4] at hI;have hC:=yj qe3 qJ8 qe4 (by decide) (by decide);rw[ka9] at hC;have hO:=qI6 qt7 qA9 hsm;rw[kb0] at hO;have hI2:=YI [7] [7] (by decide);rw[zj4] at hI2;have hN:=jw qe3 qJ8 (.mk 1 0 0 0 0 []);rw[show chkC qe3 (.mk 1 0 0 0 0 [])=0 by kernel_rfl] at hN;have hW:=Wy qe4 [] (by decide) (by decide) (by decide) (by decide);rw[show nrwX qe4 []=⟨⟨#[112]⟩,0,[⟨1,1⟩],[]⟩ by kernel_rfl] at hW;have hE1:qe4.rows=[[keyI 99 7,2]]:=rfl;refine sIr qW2 fun e _ hst=>?_;unfold Jf;refine sW ?_;refine C1.shutD [8204,8212,8224,16400,16408,20484,20488,24588] hB ?_ rF rfl ?_
 ·simp [ptw,ltAD,ltD,TL.get,T.cells,imT,imL,qt7,qe4,qe3,zu2,qA9,zu1]
  all_goals (try (repeat' apply Az))
  all_goals (try rfl)
 refine sW ?_;refine C1.lendD [8204,8212,8224,16400,16408,20484,20488,24588] hV ?_ rF rF ?_
 ·simp [ptw,ltAD,ltD,TL.get,T.cells,imT,imL,qt7,qe4,qe3,zu2,qA9,zu1]
  all_goals (try (repeat' apply Az))
  all_goals (try rfl)
 simp only[tZ,↓un_u,simprocAttr,hE1];refine C2.im (fun _=>hK) (fun _=>rfl) rF ?_;refine sW ?_;refine C2.lendD [32824] (fun _=>hI) (fun _=>?_) rF rF ?_
 ·simp [ptw,ltAD,ltD,TL.get,T.cells,imT,imL,qt7,qe4,qe3,zu2,qA9,zu1]
  all_goals (try (repeat' apply Az))
  all_goals (try rfl)
 refine sW ?_;refine C2.lendD [8204,8212,8224,16400,16408,20484,20488,24588] (fun _=>hC) (fun _=>?_) rF rF ?_
 ·simp [ptw,ltAD,ltD,TL.get,T.cells,imT,imL,qt7,qe4,qe3,zu2,qA9,zu1]
  all_goals (try (repeat' apply Az))
  all_goals (try rfl)
 simp only[tZ,↓un_u,simprocAttr,bne_self_eq_false,beq_self_eq_true];refine C2.one trivial (C1.shutD [8204,8212,8224,16400,16408,20484,20488,24588] hO ?_ rF rfl ?_)
 ·simp [ptw,ltAD,ltD,TL.get,T.cells,imT,imL,qt7,qe4,qe3,zu2,qA9,zu1]
  all_goals (try (repeat' apply Az))
  all_goals (try rfl)
 refine sW ?_;refine C2.lendD [32904] (fun _=>hI2) (fun _=>?_) rF rF ?_
 ·simp [ptw,ltAD,ltD,TL.get,T.cells,imT,imL,qt7,qe4,qe3,zu2,qA9,zu1]
  all_goals (try (repeat' apply Az))
  all_goals (try rfl)
 refine sW ?_;refine C2.lendD [8204,8212,8224,16400,16408,20484,20488,24588] (fun _=>hN) (fun _=>?_) rF rF ?_
 ·simp [ptw,ltAD,ltD,TL.get,T.cells,imT,imL,qt7,qe4,qe3,zu2,qA9,zu1]
  all_goals (try (repeat' apply Az))
  all_goals (try rfl)
 refine sW ?_;refine C2.one trivial (C1.shutD [8204,8212,8224,16400,16408,20484,20488,24588] hW ?_ rF rfl ?_)
 ·simp [ptw,ltAD,ltD,TL.get,T.cells,imT,imL,qt7,qe4,qe3,zu2,qA9,zu1]
  all_goals (try (repeat' apply Az))
  all_goals (try rfl)
 refine sW ?_;refine⟨kR,?_⟩;exact .oA [] []
end Go.Proofs
namespace Go.Proofs
open Go Go.TL
set_option maxRecDepth 4000
set_option maxHeartbeats 8000000
end Go.Proofs
namespace Go.Proofs
open Go Go.TL
set_option maxRecDepth 4000
set_option maxHeartbeats 8000000
open So
structure BldF (x:Src) (d:Dcl) (P:List Pk) (k:Int) (R:List (List Int)) (O:List Int):Prop where
 len:R.length=O.length
 asc:AscR R
 row:∀ i (hi:i<R.length),∃ (j:Nat) (hj:j<x.rows.length),R[i]=rowX x P k x.rows[j]∧qH7 x (hd x.rows[j])=j∧idI k (hd R[i])=hd x.rows[j]∧O.contains (hd x.rows[j])=true∧zq3 x.sch d.coh x.rows[j]=1
theorem zP4 (l:List Pk):qq4 l l=true:=by
 rw[jf0]
theorem kc2 (n:Int) (hn:0≤n∧n≤12) (l:List UInt8) (a:Nat) (hl:l.length≤400) (ha:a≤l.length):∃ (x:Src) (d:Dcl) (a1 a2:Nat),DrX x∧x.rows.length≤12∧zG6 x∧0<x.sch.lists.length∧dclE x.sch d=0∧a1≤l.length∧a2≤l.length∧
 Spc Tryz.prog 26 [.ptr 0 1 0 0,vI n] [(0,oC l a)] (srcT x) [(0,oC l a1)]∧Spc Tryz.prog 12 [.ptr 0 1 0 0,schT x.sch] [(0,oC l a1)] (dclT d) [(0,oC l a2)]:=by
 obtain⟨⟨x,a1⟩,⟨⟨hX,hr,_⟩,ha1⟩,sS⟩:=qd6 n l a hl ha oM;dsimp only at hX hr ha1 sS;obtain⟨⟨d,a2⟩,⟨hd,ha2⟩,sDd⟩:=Ku x.sch hX.sch l a1 hl ha1;dsimp only at hd ha2 sDd;exact⟨x,d,a1,a2,hX,oM,hX.ok.smx,by obtain⟨a,b,e,_⟩:=hX.sch.ls;rw[e];simp,hd,ha1,ha2,sS,sDd⟩
end Go.Proofs
namespace Go.Proofs
open Go Go.TL
set_option maxRecDepth 4000
set_option maxHeartbeats 8000000
def blkR (c:Col) (lev v:Int):Int×Int×Bool:=
 if lev=0 then (c.low,c.high,v==0)
 else if v=zp∨inB v (-2000000) 2000000=false∨v.tmod (qy c lev)≠0 then (0,0,false)
 else (max c.low v,min c.high (v+qy c lev-1),decide (max c.low v≤min c.high (v+qy c lev-1)))
theorem qt9 (c:Col) (lev v:Int) (hl:lev=0∨(1≤lev∧lev≤c.widths.length∧c.widths.length≤4∧1≤qy c lev∧qy c lev≤1000000)):Spc Tryz.prog 173 [colT c,vI lev,vI v] [] (.tup [vI (blkR c lev v).1,vI (blkR c lev v).2.1,vB (blkR c lev v).2.2]) []:=by
 refine sIr zc4 fun e _ hst=>?_;unfold JK;simp only[tZ,↓un_u,simprocAttr,AY,Ak];refine⟨fun h=>?_,fun h=>?_⟩
 ·rw[blkR,Aj h];refine⟨kR,?_⟩;exact .oA [] []
 obtain⟨l1,l2,l3,l4,l5⟩:=hl.resolve_left h;rw[blkR,Aq h];refine C1.im (ya c lev ⟨l1,l2⟩ oM) rF rF ?_;generalize qy c lev=w at l4 l5 ⊢
 refine sW ?_;refine C2.im (fun _=>zG v (-2000000) 2000000) (fun _=>rfl) rF ?_;have hm:zp = -1099511627776:=rfl;have hw1:IntKind.i64.wrap (v.tmod w)=v.tmod w:=AK _ (by have:=Int.tmod_lt_of_pos v (show 0<w by omega);have:=Int.lt_tmod_of_pos v (show 0<w by omega);omega);simp only[tZ,↓un_u,simprocAttr,hw1];have hC:(v=zp∨inB v (-2000000) 2000000=false∨v.tmod w≠0)↔((v == -1099511627776||!inB v (-2000000) 2000000||v.tmod w != 0)=true):=by
  rw[DZ,DZ,AY,Bx,Bj,or_assoc];rfl
 refine⟨fun _=>by omega,fun h2=>?_,fun h2=>?_⟩
 ·rw[Aj (hC.2 h2)];exact .oA [] []
 ·have hn:¬ (v=zp∨inB v (-2000000) 2000000=false∨v.tmod w≠0):=fun k=>by rw[hC.1 k] at h2;cases h2
  rw[Aq hn];have hb:inB v (-2000000) 2000000=true:=by
   cases e:inB v (-2000000) 2000000 with
   | true=>rfl
   | false=>exact absurd (.inr (.inl e)) hn
  rw[jj] at hb;have hw2:IntKind.i64.wrap (v+w)=v+w:=AK _ oM;have hw3:IntKind.i64.wrap (v+w-1)=v+w-1:=AK _ oM;refine⟨kR,?_⟩;simp only[tZ,↓un_u,simprocAttr,hw2,hw3,zi8,ja4];exact .oA [] []
def canR (s:Sch) (c lev v:Int):Bool:=
 if inB lev 0 (finI s c)=false then false
 else if (qj s c.toNat).kind=2 then (qO s c.toNat).any fun x=>qQ s c lev x==v
 else if lev>0∧v=zp then (qj s c.toNat).opt else (blkR (qj s c.toNat) lev v).2.2
theorem qV0 (s:Sch) (hs:jo s) (c lev v:Int):Spc Tryz.prog 104 [schT s,vI c,vI lev,vI v] [] (vB (canR s c lev v)) []:=by
 refine sIr zD4 fun e _ hst=>?_;unfold Yq;refine sW ?_;refine C1.im (zB s hs c) rF rF ?_;refine sW ?_;refine C1.im (zG lev 0 (finI s c)) rF rF ?_;simp only[tZ,↓un_u,simprocAttr,Bx,Bz];refine⟨fun h=>?_,fun h=>?_⟩
 ·rw[canR,Aj h];exact .oA [] []
 have hin:=jj.1 h;obtain⟨hE,c1,c2,hfin⟩:=kf (s:=s) (c:=c) oM;obtain⟨i,rfl⟩:=AJ (show 0≤c by omega);have hil:i<s.cols.length:=by omega
 have hok:=qU hE;have hR:canR s i lev v=if (qj s i).kind=2 then (qO s i).any fun x=>qQ s i lev x==v else if lev>0∧v=zp then (qj s i).opt else (blkR (qj s i) lev v).2.2:=by
  rw[canR,Aq (by rw[h];simp),Ax]
 have hat:qj s i=s.cols[i]:=by rw[qj,qg hil]
 have hLf:=fun h2=>kO s hok i hil h2;have hLl:=fun h2=>yO hok hil h2;have hw:=fun h2 l=>hok.wid hil oM h2 (lev:=l);rw[hR];rw[Ax] at hfin;rw[hat] at hLf hLl hw hfin ⊢
 generalize finI s i=F at hin hfin;simp only[tZ,↓un_u,simprocAttr,Ax,qd hil,AY,Ak];generalize s.cols[i]=x at hLf hLl hw hfin ⊢
 refine⟨oM,fun h2=>?_,fun h2=>?_⟩
 ·rw[Aj h2];have hLl:=hLl h2;refine C1.im (hLf h2) rF rF ?_;generalize qO s i=L at hLl ⊢
  refine sW ?_;refine qk mixm (α:=Nat) [11] (fun n=>n≤L.length∧((L.take n).any fun x=>qQ s i lev x==v)=false) (fun n=>[(11,vI n)]) (fun n=>[(4096,.arr 2 [schT s] false)]) (fun n=>L.length-n) 0 ⟨oM,rfl⟩ ?_ fun n hn=>?_
  ·exact .oA [(4096,some 4096)] []
  refine sD ?_;refine⟨fun h5=>?_,fun h5=>?_⟩
  ·have hn2:n<L.length:=by omega
   have hwn:=qh (i:=n) oM;have hC:=zm s hs i lev L[n];simp only[tZ,↓un_u,simprocAttr,Ax,qd hn2];refine⟨oM,?_⟩;refine C1.im hC rF rF ?_;simp only[tZ,↓un_u,simprocAttr,hwn];refine⟨kR,fun h6=>?_,fun h6=>?_⟩
   ·rw[qC0 hn2 h6];exact .oA [] []
   ·refine⟨n+1,⟨oM,jg hn2 hn.2 h6⟩,oM,?_⟩;exact .oA [(4096,some 4096)] []
  ·have hnl:n=L.length:=by omega
   subst hnl;have hn2:=hn.2;rw[Bw] at hn2;rw[hn2];exact .oA [] []
 ·rw[Aq h2];rw[Aq h2] at hfin;have hB:=qt9 x lev v (by
   rcases Int.lt_or_le 0 lev with k | k
   ·right
    obtain⟨w1,w2,_,w4,_⟩:=hw h2 lev oM;exact⟨oM,oM,w4,w1,w2⟩
   ·left;omega)
  simp only[tZ,↓un_u,simprocAttr,tD,AY,Ak,gt_iff_lt];refine⟨fun h5=>?_,fun h5=>?_⟩
  ·rw[Aj (show 0<lev∧v=zp from h5)];exact .oA [] []
  ·rw[Aq (show ¬ (0<lev∧v=zp) from fun k=>by
    have:zp = -1099511627776:=rfl;omega)]
   refine C1.im hB rF rF ?_;refine sW ?_
   repeat (first | refine⟨oM,?_⟩ | refine⟨kR,?_⟩)
   exact .oA [] []
end Go.Proofs
namespace Go.Proofs
open Go Go.TL
set_option maxRecDepth 4000
set_option maxHeartbeats 8000000
open So
end Go.Proofs
namespace Go.Proofs
open Go Go.TL
set_option maxRecDepth 4000
set_option maxHeartbeats 8000000
structure Kn (s:Sch) (row:List Int) (l:List Pk) (v:List Int):Prop where
 len:v.length=l.length
 val:∀ i (h:i<l.length),v.getD i 0=qQ s l[i].col l[i].lev (row.getD l[i].col.toNat 0)
 pick:∀ p∈l,yc s p=0∧0<p.lev
 asc:l.Pairwise fun a b=>a.col<b.col
end Go.Proofs
namespace Go.Proofs
open Go Go.TL
set_option maxRecDepth 4000
set_option maxHeartbeats 8000000
open So
end Go.Proofs
namespace Go.Proofs
open Go Go.TL
set_option maxRecDepth 4000
set_option maxHeartbeats 8000000
open So
theorem jb1 {c:Col} {a v:Int} (hc : -1000000≤c.low∧c.low≤c.high∧c.high≤1000000) (ha:a=0∨(1≤qy c a∧qy c a≤1000000)) (hv:¬ (a≠0∧v=zp)) :
 (blkR c a v).2.2=(jl c a v).2.2∧((jl c a v).2.2=true→(blkR c a v).1=(jl c a v).1∧(blkR c a v).2.1=(jl c a v).2.1):=by
 unfold blkR jl;by_cases h0:a=0
 ·rw[Aj h0,Aj h0];exact⟨rfl,fun _=>⟨rfl,rfl⟩⟩
 rw[Aq h0,Aq h0];obtain⟨w1,w2⟩:=ha.resolve_left h0;have hm:v≠zp:=fun k=>hv ⟨h0,k⟩;generalize qy c a=w at w1 w2 ⊢
 have hfl:(qH v w*w==v)=(v.tmod w==0):=by
  rw[Bool.eq_iff_iff,jH7,AY];constructor
  ·intro h;exact⟨qH v w,by rw[Int.mul_comm];exact h.symm⟩
  ·intro h;exact jU2 oM h
 by_cases hr:v < -2000000∨v>1000000
 ·rw[Aj hr];refine⟨?_,fun h=>by cases h⟩;by_cases hb:v=zp∨inB v (-2000000) 2000000=false∨v.tmod w≠0
  ·rw[Aj hb]
  ·rw[Aq hb];have:inB v (-2000000) 2000000=true:=by
    cases e:inB v (-2000000) 2000000 with
    | true=>rfl
    | false=>exact absurd (.inr (.inl e)) hb
   rw[jj] at this;exact Cq oM
 ·rw[Aq hr];have hin:inB v (-2000000) 2000000=true:=jj.2 oM;by_cases hb:v.tmod w=0
  ·rw[Aq (by rw[hin];simp [hm,hb]),hfl,AY.2 hb,Fq];dsimp only;rw[Int.max_comm,Int.min_comm];exact⟨rfl,fun _=>⟨rfl,rfl⟩⟩
  ·rw[Aj (.inr (.inr hb)),hfl,Ak.2 hb,Bool.false_and];exact⟨rfl,fun h=>by cases h⟩
theorem zu3 {s:Sch} (hE:schE s=0) {i:Nat} (hi:i<s.cols.length) (h0:0<i) {a:Int} (ha:0≤a∧a≤finI s i) (v:Int):canR s i a v=(qz3 s i a v).2:=by
 have hok:=qU hE;rw[canR,Aq (by rw[Ez,jj];exact ha),Ax];by_cases h2:(qj s i).kind=2
 ·rw[Aj h2,qz3,Aq oM];have hco:∀ y∈qO s i,upC (qK s i) y a=qQ s i a y:=fun y hy=>by
   have h3:=(qt6 hok hi h2).2 hy;rw[qQ,Aq (by rw[Ez,jj];omega),Ax,Aj h2,Aq (by rw[h3];simp)]
  cases hf:(qO s i).find? fun l=>upC (qK s i) l a==v with
  | none=>
    show ((qO s i).any fun x=>qQ s i a x==v)=false;rw[List.any_eq_false];intro y hy;have:=List.find?_eq_none.1 hf y hy;rw[hco y hy] at this;exact this
  | some y=>
    show ((qO s i).any fun x=>qQ s i a x==v)=true;have h1:=List.mem_of_find?_eq_some hf;have h3:=List.find?_some hf;rw[hco y h1] at h3;exact DJ.2 ⟨y,h1,h3⟩
 ·have hM:=zt7 hE hi h0 h2;rw[Aq h2,qz3,Aj hM.kind];by_cases hm:0<a∧v=zp
  ·rw[Aj hm,Aj (show a>0∧v=zp from hm)]
  ·rw[Aq hm,Aq (show ¬ (a>0∧v=zp) from hm)];obtain⟨n,rfl⟩:=AJ ha.1;have hf:=hM.fin;exact (jb1 hM.lh (by
    rcases DQ n with e | e
    ·left;omega
    ·right;exact⟨hM.wid n oM oM,ka3 hE hi h0 h2 oM oM⟩) oM).1
end Go.Proofs
