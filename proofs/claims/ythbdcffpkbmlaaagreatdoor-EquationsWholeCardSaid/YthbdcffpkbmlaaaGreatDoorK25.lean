/- A part of the proof: trees of Go values, short forms, contracts. -/
import Derived.Test.YthbdcffpkbmlaaaGreatDoorK24
namespace Go.Proofs
open Go Go.TL
set_option maxRecDepth 4000
set_option maxHeartbeats 8000000
theorem jZ4 (s:Sch) (hE:schE s=0):zu s cAll=[]∧zu s cnd0=[]:=by
 constructor
 ·unfold zu;rw[Aq (by rw[KZ hE];simp)]
  rfl
 ·unfold zu;split
  ·rfl
  ·rename_i h;have h:=AQ h;unfold chkC at h;rw[Aq (by rw[hE];simp),Aq (by decide),Aq (by decide)] at h;cases h
theorem zT8 {s:Sch} (hE:schE s=0) {ds:List Pk} (hd:wB s ds=0):Ke s cAll ds=YF s (qT cAll ds):=by
 have hq:qstE s (qT cAll ds)=0:=q_ok hE (KZ hE) hd _ kR;obtain⟨h1,h2⟩:=jZ4 s hE;have h3:addP s (addP s [] cAll) cnd0=[]:=by
  unfold addP;rw[h1,h2];rfl
 have h4:∀ l:List Pk,jl2 s (qT cAll ds) l=l:=fun l=>by
  unfold jl2;generalize s.cols.length-1=n
  induction n with
  | zero=>rfl
  | succ n ih=>
    rw[List.range_succ,Gx,ih];show jZ s (qT cAll ds) l n=l;unfold jZ;rw[Aq];unfold zz5;simp;omega
 rw[Ke,Aq (by rw[hE,hd,KZ hE];simp),h3,YF,Aq (by rw[hq];simp),h4,Aq (by show ¬ (1:Int)=3;decide),h1]
theorem zu1 {x:Src} (hX:DrX x) {k:Int} (hk:0≤k∧k<1152921504606846976) {ds:List Pk} (hd:wB x.sch ds=0):zs7 x.sch (wX x k) ds (qT cAll ds) (Ke x.sch cAll ds)=0:=by
 have hE:=hX.sch.ok;have hq:qstE x.sch (qT cAll ds)=0:=q_ok hE (KZ hE) hd _ kR;have hs:=jo9 hX.sch (zB2 hd).2.2;rw[zs7,Aq (by rw[jp5 hX hk];simp),Aq (by rw[hq];simp),zT8 hE hd,Aq (by rw[zN6 hE (wP (qB4 hq)).2.1];simp),Aq oM]
theorem jP4 {x:Src} (hX:DrX x) {k:Int} (hk:0≤k∧k<1152921504606846976) {ds:List Pk} (hd:wB x.sch ds=0) (f:Nat→List Int):zT6 x.sch (wX x k) ds cAll (fun i=>evC x.sch (f i) cAll)=wT x k ds:=by
 rw[zT6,Aq (by rw[zu1 hX hk hd];simp)]
 rfl
theorem jA8 {s:Sch} (hE:schE s=0):spcE s=chkS (spSz s):=Aq (by rw[hE];simp)
theorem jA9 {l:List Int} (h:chkS l≠0):chkS l=55:=by
 unfold chkS at h ⊢
 split
 ·rfl
 ·rename_i h1;rw[Aq h1] at h;split
  ·rfl
  ·rename_i h2;rw[Aq h2] at h;split
   ·rfl
   ·rename_i h3;rw[Aq h3] at h;exact absurd rfl h
theorem jB0 (sz:List Int):cntL sz []=List.replicate (qX sz).toNat 0:=by
 refine List.eq_replicate_iff.2 ⟨JL _ _,fun b hb=>?_⟩;unfold cntL at hb;obtain⟨c,_,rfl⟩:=Cj.1 hb
 rfl
theorem jq6 (sz:List Int) (ats:List (List Int)) (a:List Int) {n:Nat} (hn:numL sz a=n) (hl:n<(qX sz).toNat):cntL sz (ats++[a])=(cntL sz ats).set n ((cntL sz ats).getD n 0+1):=by
 have e1:=JL sz ats;have e2:=JL sz (ats++[a]);have e3:∀ (b:List (List Int)) (i:Nat) (h:i<(cntL sz b).length),(cntL sz b)[i]=((b.filter fun a=>numL sz a==(i:Int)).length:Int):=fun b i h=>by
  have:=jm0 sz b (c:=(i:Int)) (by rw[JL] at h;omega);rw[Ax,qg h] at this;exact this
 refine List.ext_getElem (by rw[Fw,e1,e2]) fun i h1 h2=>?_;rw[Fw] at h2;rw[e3 _ i h1,Fk,FY,AW,List.filter_cons];by_cases e:n=i
 ·subst e;rw[Aj rfl,qg h2,e3 _ n h2,Aj (by rw[hn];simp)];simp
 ·rw[Aq e,e3 _ i h2,Aq (by rw[hn,AY];omega)];simp
theorem jB1 {sz:List Int} {r:Rls} (h:rlsC sz [r]=0):allA sz [r]=(tell sz r,0):=by
 rw[allA,Aq (by rw[h];simp)];unfold KP;simp
set_option maxHeartbeats 4000000
theorem jq7 {α:Type} (p:Nat→Nat) (f:Nat→α) (d:α) (n i m:Nat) (hp:p m=i) (hu:∀ a,a<n→p a=i→a=m):((List.range n).map fun a=>if p a<i+1 then f a else d)=((List.range n).map fun a=>if p a<i then f a else d).set m (f m):=by
 refine List.ext_getElem sMp fun a h1 h2=>?_;simp only[Fj,List.getElem_range,Fk];by_cases e:m=a
 ·subst e;rw[Aj rfl,Aj oM]
 ·rw[Aq e];have h3:a<n:=by simpa using h1
  have h4:p a≠i:=fun h=>e (hu a h3 h).symm;by_cases h5:p a<i
  ·rw[Aj oM,Aj h5]
  ·rw[Aq oM,Aq h5]
theorem jI6 {α:Type} (p:Nat→Nat) (f:Nat→α) (d:α) (n i:Nat) (hu:∀ a,a<n→p a≠i):((List.range n).map fun a=>if p a<i+1 then f a else d)=((List.range n).map fun a=>if p a<i then f a else d):=by
 refine Ew fun a ha=>?_;have h4:=hu a (Dk.1 ha);by_cases h5:p a<i
 ·rw[Aj oM,Aj h5]
 ·rw[Aq oM,Aq h5]
theorem jB2 {l:List Int} (hn:l.Nodup) {i:Nat} (hi:i<l.length):idxN l[i] l=i:=by
 obtain⟨a,b⟩:=Qs (AX hi);rw[qg a] at b;exact nodup_inj hn a hi b
def ofP (s:Sch) (ds:List Pk) (i:Nat):List (List Int):=(List.range ds.length).map fun a=>if plD s ds a<i then ofD s ds a else []
def plP (s:Sch) (ds:List Pk) (i:Nat):List Int:=(List.range ds.length).map fun a=>if plD s ds a<i then (plD s ds a:Int) else 0
theorem jZ5 {s:Sch} {ds:List Pk} {i:Nat} (hi:i<(qR s 2).length) (h:dmAt ds (qR s 2)[i]<ds.length):plD s ds (dmAt ds (qR s 2)[i])=i:=by
 unfold plD;rw[qg h,zc3 h,jB2 (YL s 2) hi]
theorem jX2 {s:Sch} {ds:List Pk} (hD:DmsOk s ds) {i:Nat} (hi:i<(qR s 2).length) {a:Nat} (ha:a<ds.length) (h:plD s ds a=i):dmAt ds (qR s 2)[i]=a:=by
 have h1:=hD.mem ha;obtain⟨_,b⟩:=Qs h1;unfold plD at h;rw[qg ha] at h;rw[h,qg hi] at b;rw[b,hD.at_ ha]
theorem jP5 {s:Sch} {ds:List Pk} (hD:DmsOk s ds) {i:Nat} (hi:i<(qR s 2).length) (h:dmAt ds (qR s 2)[i]<ds.length):ofP s ds (i+1)=(ofP s ds i).set (dmAt ds (qR s 2)[i]) (ofD s ds (dmAt ds (qR s 2)[i]))∧plP s ds (i+1)=(plP s ds i).set (dmAt ds (qR s 2)[i]) (i:Int):=by
 have h1:=jZ5 hi h;have h2:∀ a,a<ds.length→plD s ds a=i→a=dmAt ds (qR s 2)[i]:=fun a ha e=>(jX2 hD hi ha e).symm;refine⟨jq7 (plD s ds) (ofD s ds) [] _ _ _ h1 h2,?_⟩;have:=jq7 (plD s ds) (fun a=>(plD s ds a:Int)) 0 _ _ _ h1 h2;rw[h1] at this;exact this
theorem jX3 {s:Sch} {ds:List Pk} (hD:DmsOk s ds) {i:Nat} (hi:i<(qR s 2).length) (h:¬ dmAt ds (qR s 2)[i]<ds.length):ofP s ds (i+1)=ofP s ds i∧plP s ds (i+1)=plP s ds i:=by
 have h2:∀ a,a<ds.length→plD s ds a≠i:=fun a ha e=>h (by rw[jX2 hD hi ha e];exact ha);exact⟨jI6 _ _ _ _ _ h2,jI6 _ _ _ _ _ h2⟩
theorem jI7 {s:Sch} {ds:List Pk} (hD:DmsOk s ds) {a:Nat} (ha:a<ds.length):plD s ds a<(qR s 2).length:=by
 unfold plD;rw[qg ha];exact (Qs (hD.mem ha)).1
theorem jP6 {s:Sch} {ds:List Pk} (hD:DmsOk s ds):ofP s ds (qR s 2).length=(List.range ds.length).map (ofD s ds)∧plP s ds (qR s 2).length=(List.range ds.length).map fun a=>(plD s ds a:Int):=by
 refine⟨Ew fun a ha=>?_,Ew fun a ha=>?_⟩
 ·exact Aj (jI7 hD (Dk.1 ha))
 ·exact Aj (jI7 hD (Dk.1 ha))
theorem jB3 (s:Sch) (ds:List Pk):ofP s ds 0=List.replicate ds.length []∧plP s ds 0=List.replicate ds.length 0:=by
 constructor
 ·unfold ofP;rw[Ew (g:=fun _=>[]) fun a _=>Aq oM];exact List.eq_replicate_iff.2 ⟨sMp,sMp⟩
 ·unfold plP;rw[Ew (g:=fun _=>(0:Int)) fun a _=>Aq oM];exact List.eq_replicate_iff.2 ⟨sMp,sMp⟩
def szF (s:Sch) (n:Nat):List Int:=(QD s 2 n).map fun c=>((qA s c.toNat).length:Int)
theorem jB4 (s:Sch) (n:Nat):szF s (n+1)=szF s n++(if (qj s n).kind=2 then [((qA s n).length:Int)] else []):=by
 unfold szF;rw[jO,By]
 congr 1
 split
 ·rw[List.map_cons,Ax];rfl
 ·rfl
theorem jP7 (s:Sch) (n:Nat):(szF s n).length=(QD s 2 n).length:=by unfold szF;rw[BY]
theorem jB5 {s:Sch} (hE:schE s=0) (hS:chkS (spSz s)=0) {ds:List Pk} (hD:DmsOk s ds) {k:Nat} (hk:(k:Int)<pubN (tabG s ds)) {a:Nat} (ha:a<ds.length):plD s ds a<(zd ((tabG s ds).map gN) k).length∧0≤(zd ((tabG s ds).map gN) k).getD (plD s ds a) 0∧((zd ((tabG s ds).map gN) k).getD (plD s ds a) 0).toNat<(ofD s ds a).length:=by
 have hok:=qO hE;have hV:=YQ hE hS ds;have hin:=(jg (sz:=(tabG s ds).map gN) hV.gsz (show (0:Int)≤k by omega)).1;have hm:=hD.mem ha;obtain⟨b1,b2⟩:=Qs hm;have hj:plD s ds a<((tabG s ds).map gN).length:=by
  unfold plD tabG;rw[qg ha,BY,BY];exact b1
 have h1:=jo1 hin hj;have hG:∀ j (hj:j<(qR s 2).length),((tabG s ds).map gN).getD j 0=gN (vwG s ds ((qR s 2)[j])):=fun j hj=>by
  rw[qg (by unfold tabG;rw[BY,BY];exact hj)];unfold tabG;rw[Fj,Fj]
 have h2:((tabG s ds).map gN).getD (plD s ds a) 0=((ofD s ds a).length:Int):=by
  have e4:(qR s 2)[idxN ds[a].col (qR s 2)]=ds[a].col:=by rw[qg b1] at b2;exact b2
  have e5:=hG _ b1;rw[e4,zs3 hok ds (hD.cd ha),hD.at_ ha,Aj ha,qg ha] at e5;unfold ofD plD;rw[qg ha,e5]
 rw[h2] at h1;refine⟨?_,h1.1,oM⟩;rw[ZM];exact hj
theorem jX4 (ds:List Pk) (c:Int):idxI (fun d:Pk=>d.col==c) ds=if dmAt ds c<ds.length then (dmAt ds c:Int) else -1:=by
 unfold idxI dmAt;by_cases h:(ds.any fun d=>d.col==c)=true
 ·have:ds.findIdx (fun d=>d.col==c)<ds.length:=List.findIdx_lt_length.2 (by simpa using h);rw[Aj h,Aj this]
 ·rw[Aq h,Aq (fun h2=>h (by have:=List.findIdx_lt_length.1 h2;simpa using this))]
theorem zO3 (s:Sch) (ds:List Pk):(tabG s ds).length=(qR s 2).length:=by unfold tabG;rw[BY]
theorem jq8 (s:Sch) (ds:List Pk) {i:Nat} (h:i<(qR s 2).length):(tabG s ds).take (i+1)=(tabG s ds).take i++[vwG s ds (qR s 2)[i]]:=by
 rw[qy (by rw[zO3];exact h)]
 congr 2
 unfold tabG;rw[Fj]
theorem zd5 (s:Sch):(spSz s).length=(qR s 2).length:=by unfold spSz;rw[BY]
theorem jB6 (s:Sch) {i:Nat} (h:i<(qR s 2).length):(spSz s)[i]'(by rw[zd5];exact h)=((qA s (qR s 2)[i].toNat).length:Int):=by
 unfold spSz;rw[Fj]
def wrB (s:Sch) (t:Tbl) (n:Int) (k:Nat):Bool:=(decide (n<0)||decide (n≥24))||(List.range k).any fun j=>!okV (tabV s t j)
theorem jB7 (s:Sch) (t:Tbl) (n:Int) (k:Nat):wrB s t n (k+1)=(wrB s t n k||!okV (tabV s t k)):=by
 unfold wrB;rw[List.range_succ,FW];simp [Bool.or_assoc]
theorem jB8 (s:Sch) (t:Tbl) (n:Int):wrB s t n 0=(decide (n<0)||decide (24≤n)):=by
 unfold wrB;simp
theorem jX5 {l:List TCl} {y:List Int} {m:Nat} (h:fndC l y=(m:Int)):m<l.length:=by
 unfold fndC at h;split at h
 ·rename_i h2;have:l.findIdx (fun c=>KQ c.codes y)<l.length:=List.findIdx_lt_length.2 (by
   obtain⟨a,b,c⟩:=DJ.1 h2;exact⟨a,b,c⟩)
  omega
 ·omega
theorem jI8 {s:Sch} {t:Tbl} {n:Int} (h:spcE s≠0):wtbE s t n=spcE s∧wtbR s t n=⟨0,[],[]⟩:=by
 have e:wtbE s t n=spcE s:=Aj h;exact⟨e,Aj (by rw[e];exact h)⟩
theorem jX6 {s:Sch} {t:Tbl} {n:Int} (h:spcE s=0) (h2:qe5 s t.dims=false):wtbE s t n=23∧wtbR s t n=⟨0,[],[]⟩:=by
 have e:wtbE s t n=23:=by rw[wtbE,Aq (by rw[h];simp),Aj h2]
 exact⟨e,Aj (by rw[e];simp)⟩
theorem jX7 {s:Sch} {t:Tbl} {n:Int} (h:spcE s=0) (h2:qe5 s t.dims=true) {k:Nat} (hk:k<tabN s t) (h3:tabK s t k<0):wtbE s t n=21∧wtbR s t n=⟨0,[],[]⟩:=by
 have e:wtbE s t n=21:=by rw[wtbE,Aq (by rw[h];simp),Aq (by rw[h2];simp),Aj (DJ.2 ⟨k,Dk.2 hk,by simpa using h3⟩)]
 exact⟨e,Aj (by rw[e];simp)⟩
theorem jq9 {s:Sch} {t:Tbl} {n:Int} (h:spcE s=0) (h2:qe5 s t.dims=true) (h3:∀ k,k<tabN s t→0≤tabK s t k):wtbE s t n=if wrB s t n (tabN s t)=true then 2 else 0:=by
 rw[wtbE,Aq (by rw[h];simp),Aq (by rw[h2];simp),Aq (by
  rw[Bool.not_eq_true,List.any_eq_false];intro k hk;have:=h3 k (Dk.1 hk);rw[AZ];omega)]
 congr 1
 unfold wrB;simp only[DZ,AZ,or_assoc]
theorem jP8 {s:Sch} {t:Tbl} {n:Int} (h:spcE s=0) (h2:qe5 s t.dims=true) (h3:∀ k,k<tabN s t→0≤tabK s t k) (h4:wrB s t n (tabN s t)=true):wtbE s t n=2∧wtbR s t n=⟨0,[],[]⟩:=by
 have e:wtbE s t n=2:=by rw[jq9 h h2 h3,Aj h4]
 exact⟨e,Aj (by rw[e];simp)⟩
theorem jX8 {s:Sch} {t:Tbl} {n:Int} (h:spcE s=0) (h2:qe5 s t.dims=true) (h3:∀ k,k<tabN s t→0≤tabK s t k) (h4:wrB s t n (tabN s t)=false):wtbE s t n=0∧wtbR s t n=⟨n,tabG s t.dims,(List.range (tabN s t)).map (tabV s t)⟩:=by
 have e:wtbE s t n=0:=by rw[jq9 h h2 h3,Aq (by rw[h4];simp)]
 exact⟨e,Aq (by rw[e];simp)⟩
theorem jX9 {s:Sch} (hE:schE s=0) (t:Tbl) (n:Int):RlsSm (wtbR s t n):=by
 unfold wtbR;split
 ·exact⟨sMp,sMp,sMp⟩
 ·rename_i h;have h1:spcE s=0:=AQ fun e=>h (by rw[(jI8 (t:=t) (n:=n) e).1];exact e);have hS:chkS (spSz s)=0:=by unfold spcE at h1;rwa [Aq (by rw[hE];simp)] at h1
  have hV:=YQ hE hS t.dims;have hl:=hV.len;have hp:=hV.pub;have hL:=hV.sp.len;refine⟨by dsimp only;omega,fun g hg=>?_,by dsimp only;rw[BY,List.length_range];unfold tabN;omega⟩;dsimp only at hg;obtain⟨i,hi,rfl⟩:=CX hg;have:=(hV.g (i:=i) oM).len;omega
set_option maxHeartbeats 8000000
theorem qf9 (s:Sch) (hok:SchOk s) (c:Nat) (hc:c<s.cols.length) (h2:(qj s c).kind=2) (lev:Int):Sp 53 [schT s,vI c,vI lev] [] (.tup [vIs (grpL s c lev).1,vIs (grpL s c lev).2]) []:=by
 have hat:qj s c=s.cols[c]:=by rw[qj,qg hc]
 obtain⟨d1,d2⟩:=hok.cdl hc h2;obtain⟨d3,d4⟩:=(zo (hok.cs c hc)).2.2.2.1 h2;have hcl:qK s c=s.lists.getD s.cols[c].list.toNat default:=by rw[qK,hat]
 rw[hat] at d1 d3 d4;have hgl:s.lists.getD s.cols[c].list.toNat default=s.lists[s.cols[c].list.toNat]:=qg d1;have hll:=jM hok hc h2;have sL:=QK s hok c hc h2;obtain⟨f,hf⟩:∃ f:Int→Int,f=fun v=>upC (qK s c) v lev:=⟨_,rfl⟩;have hU:∀ v,Sp 101 [cdlT s.lists[s.cols[c].list.toNat],vI v,vI lev] [] (vI (f v)) []:=fun v=>by
  have:=zS4 s.lists[s.cols[c].list.toNat] v lev;rw[hf,hcl,hgl];exact this
 have hG:grpL s c lev=grpF f (qA s c):=by rw[hf];rfl
 rw[hG];generalize qA s c=L at sL hll;have hX:∀ i,i≤L.length→(grpF f (L.take i)).1.length=i∧(grpF f (L.take i)).2.length≤i:=fun i hi=>by
  have:=qR6 f (L.take i);have e:(L.take i).length=i:=by rw[Cz];omega
  have h1:=this.len;have h2:=this.le;omega
 refine sIr Yj fun e _ hst=>?_;unfold kr;refine sW ?_;refine C1.im sL rF rF ?_;refine sW ?_;refine qt mixm (α:=Nat) [8,9,18] (fun i=>i≤L.length) (fun i=>[(8,.asl 1 (grpF f (L.take i)).1.length),(9,.asl 2 (grpF f (L.take i)).2.length),(18,vI i)]) (fun i=>[aR 4096 2 [schT s],aR 1 1 ((grpF f (L.take i)).1.map vI),aR 2 1 ((grpF f (L.take i)).2.map vI)]) (fun i=>L.length-i) 0 oM ?_ fun i hi=>?_
 ·show Le _ _ ⟨_,[aR 4096 2 [schT s],aR 1 1 [],aR 2 1 []]⟩;exact .oA [uI 4096,(1,none),(2,none)] []
 obtain⟨x1,x2⟩:=hX i hi;refine sD ?_;refine⟨fun h3=>?_,fun h3=>?_⟩
 ·have hi2:i<L.length:=by omega
  have hwi:=qh (i:=i) oM;have hsn:=qe4 f hi2;generalize grpF f (L.take i)=x at x1 x2 hsn;have sU:=hU L[i];have sI:=QI x.2 (f L[i]) oM;simp only[tZ,↓uU,simprocAttr,Ax,qd hi2,qd hc,qd d1];refine⟨oM,oM,oM,?_⟩;refine C1.im sU rF rF ?_;refine sW ?_;refine⟨kR,?_⟩;refine C1.lend [2] sI ?_ rF rfl ?_
  ·all_goals (try exact clA)
  refine sW ?_;by_cases hm:f L[i]∈x.2
  ·obtain⟨b1,b2⟩:=Qs hm;have e1:KT x.2 (f L[i])=(idxN (f L[i]) x.2:Int):=by rw[KT,Aj hm]
   have hs2:grpF f (L.take (i+1))=(x.1++[(idxN (f L[i]) x.2:Int)],x.2):=by rw[hsn,YJ,Aj hm]
   simp only[e1];simp only[tZ,↓uU,simprocAttr,tD,hwi];refine⟨fun h=>absurd h oM,fun _=>⟨oM,i+1,oM,oM,?_⟩⟩;rw[hs2];exact .oA (U3 4096 1 2) []
  ·have e1:KT x.2 (f L[i]) = -1:=by rw[KT,Aq hm]
   have hs2:grpF f (L.take (i+1))=(x.1++[(x.2.length:Int)],x.2++[f L[i]]):=by rw[hsn,YJ,Aq hm]
   simp only[e1];simp only[tZ,↓uU,simprocAttr,tD,hwi];refine⟨oM,oM,i+1,oM,oM,?_⟩;rw[hs2];exact .oA (U3 4096 1 2) []
 ·have hil:i=L.length:=by omega
  subst hil;rw[Bw];exact .oA [] [1,2]
theorem zu2 (s:Sch) (hok:SchOk s) (c:Nat) (hc:c<s.cols.length) (h2:(qj s c).kind=2) (v:Int):Sp 19 [schT s,vI c,vI v] [] (vI (YR s c v)) []:=by
 have sL:=qL8 s hok c hc h2;have hll:=jM hok hc h2;have hI:YR s c v=KT (qA s c) v:=rfl;rw[hI];generalize qA s c=L at sL hll;refine sIr qV1 fun e _ hst=>?_;unfold Jg;refine sW ?_;refine C1.im sL rF rF ?_;refine sW ?_;refine qt mixm (α:=Nat) [13] (fun i=>i≤L.length∧v∉L.take i) (fun i=>[(13,vI i)]) (fun i=>[]) (fun i=>L.length-i) 0 ⟨oM,sMp⟩ ?_ fun i hi=>?_
 ·exact .oA [] []
 refine sD ?_;refine⟨fun h3=>?_,fun h3=>?_⟩
 ·have hi2:i<L.length:=by omega
  have hwi:=qh (i:=i) oM;simp only[tZ,↓uU,simprocAttr,Ax,qd hi2,hwi,AY,Ak];refine⟨oM,fun h4=>?_,fun h4=>?_⟩
  ·have hm:v∈L:=by rw[← h4];exact AX hi2
   rw[KT,Aj hm,zb5 hi2 hi.2 h4];exact .oA [] []
  ·refine⟨i+1,⟨oM,?_⟩,oM,?_⟩
   ·rw[qy hi2,Dz];rintro (h5 | h5)
    ·exact hi.2 h5
    ·simp at h5;exact h4 h5.symm
   ·exact .oA [] []
 ·have hil:i=L.length:=by omega
  have h5:=hi.2;rw[hil,Bw] at h5;rw[KT,Aq h5];exact .oA [] []
theorem qg0 {sz0:List Int} {gs:List (List Int)} (hv:VwOk sz0 gs) (n:Int) (hn:0≤n∧n≤1000000):Sp 55 [vwT gs,vI n] [] (vIs (zd (gs.map gN) n)) []:=by
 have hgl:gs.length≤4:=by have:=hv.len;have:=hv.sp.len;omega
 have ha:=hv.gsz;obtain⟨sz,hsz⟩:∃ sz,sz=gs.map gN:=⟨_,rfl⟩;rw[← hsz] at ha ⊢
 have hsl:sz.length=gs.length:=by rw[hsz,BY]
 have hsg:∀ j (hj:j<gs.length),sz[j]'oM=gN gs[j]:=fun j hj=>by subst hsz;rw[Fj]
 have hw:IntKind.i64.wrap ((gs.length:Int)-1)=(gs.length:Int)-1:=AK _ oM;have ht:(gs.length:Int).toNat=gs.length:=Ax _;refine sIr Yl fun e _ hst=>?_;unfold ku;simp only[tZ,↓uU,simprocAttr,ht,hw];refine⟨oM,?_⟩;simp only[tZ,↓uU,simprocAttr,ht,hw,List.length_replicate];refine qt mixm (α:=Nat) [1,6] (fun j=>j≤sz.length) (fun j=>[(1,vI (zz (sz.drop j) n).2),(6,vI ((j:Int)-1))]) (fun j=>[aR 4096 1 [vwT gs],aR 8204 1 ((plO sz n j).map vI)]) (fun j=>j) sz.length oM ?_ fun j hj=>?_
 ·have e1:plO sz n sz.length=List.replicate gs.length 0:=by
   rw[← hsl];unfold plO zd;rw[List.drop_length];simp [zz]
  have e2:(zz (sz.drop sz.length) n).2=n:=by rw[List.drop_length];rfl
  rw[e1,e2,hsl];refine .of (U2 4096 8204) [] rfl (by first | rfl | (rw[hst];rfl)) ?_ ?_
  all_goals (try simp only[tL,simprocAttr,By,List.map_cons,List.map_nil,BW,Cy,Ax,jp8])
  all_goals (try (exact clA))
 simp only[tZ,↓uU,simprocAttr,AZ,Ay];refine⟨fun h=>?_,fun h=>?_⟩
 ·obtain⟨j,rfl⟩:∃ c,j=c+1:=⟨j-1,oM⟩;have hj2:j<sz.length:=by omega
  have hjg:j<gs.length:=by omega
  have hk:1≤sz[j]∧sz[j]≤8:=by simpa [szOk] using Bk.1 ha sz[j] (AX hj2)
  have hj1:(((j+1:Nat):Int)-1)=(j:Int):=by omega
  have hw2:IntKind.i64.wrap ((j:Int)-1)=(j:Int)-1:=AK _ oM;have hn0:=qn0 (n:=n) ha hn.1 (j+1);have hn1:=zO2 (n:=n) ha hn.1 (j+1);have hq:0≤(zz (sz.drop (j+1)) n).2 / sz[j]∧(zz (sz.drop (j+1)) n).2 / sz[j]≤n:=⟨Int.ediv_nonneg hn0 oM,Int.le_trans (Int.ediv_le_self _ hn0) hn1⟩;have hw3:IntKind.i64.wrap ((zz (sz.drop (j+1)) n).2 / sz[j])=(zz (sz.drop (j+1)) n).2 / sz[j]:=AK _ oM;have hg:=hv.g (i:=j) oM;have hm:=ZT gs[j] hg.len.1 (by have:=hg.len;omega);have hw4:IntKind.i64.wrap (1+maxF gs[j])=sz[j]:=by
   have:=hg.n;rw[hsg j hjg,hg.max,AK _ oM]
  simp only[hj1];simp only[tZ,↓uU,simprocAttr,Ax,qd hjg];refine⟨oM,?_⟩;refine C1.im hm rF rF ?_;simp only[tZ,↓uU,simprocAttr,hw4,Int.tmod_eq_emod_of_nonneg hn0,Int.tdiv_eq_ediv_of_nonneg hn0,hw2,hw3,Ax];have hpl:=jp6 (sz:=sz) (n:=n) (j:=j+1) oM;have hj3:j<(plO sz n (j+1)).length:=by omega
  simp only[qd hj3,show ∀ a b:Int,repl (vI a) 0 (vI b)=vI b from fun _ _=>rfl];rw[← List.map_set,jp7 hj2];refine⟨oM,⟨oM,oM,oM⟩,⟨oM,oM,rfl⟩,oM,j,oM,oM,?_⟩;rw[qk3 hj2];exact .oA (U2 4096 8204) []
 ·have:j=0:=by omega
  subst this;have e1:plO sz n 0=zd sz n:=by simp [plO,List.replicate_zero]
  rw[e1];have hpn:=ZM sz n;refine .of [] [8204] rfl (by first | rfl | (rw[hst];rfl)) ?_ ?_
  all_goals (try simp only[tL,simprocAttr,By,List.map_cons,List.map_nil,BW,Cy,Ax])
  all_goals (try (exact clA))
theorem ZV (x d:Pk):Sp 100 [pkT x,.ip [vI d.col,vI d.lev]] [] (vB (x.col==d.col)) []:=by
 refine sIr Zg fun e _ hst=>?_;unfold je;refine sW ?_;exact .oA [] []
theorem YV (d:Pk) (c:Int):Sp 52 [pkT d,.ip [vI c]] [] (vB (d.col==c)) []:=by
 refine sIr Wx fun e _ hst=>?_;unfold jS;refine sW ?_;exact .oA [] []
theorem jP9 {s:Sch} {l:List Pk} {i:Nat} (hi:i<l.length) (h:zr0 s l i=false):qe5 s l=false:=by
 unfold qe5;rw[List.all_eq_false];exact⟨i,Dk.2 hi,by rw[h];simp⟩
theorem Kf (s:Sch) (hs:jY s) (l:List Pk) (hl:l.length<4611686018427387904):Sp 50 [schT s,vPs l] [] (vB (qe5 s l)) []:=by
 have hno:=fun i (hi:i<l.length)=>jP9 (s:=s) hi;have hyes:(∀ j,j<l.length→zr0 s l j=true)→qe5 s l=true:=fun h=>Bk.2 fun j hj=>h j (Dk.1 hj);generalize qe5 s l=B at hno hyes ⊢
 refine sIr Jk fun e _ hst=>?_;unfold jo;refine sW ?_;refine qt mixm (α:=Nat) [9] (fun i=>i≤l.length∧∀ j,j<i→zr0 s l j=true) (fun i=>[(9,vI i)]) (fun i=>[aR 4096 2 [schT s]]) (fun i=>l.length-i) 0 ⟨oM,fun j h=>by omega⟩ ?_ fun i hi=>?_
 ·exact .oA (U1 4096) []
 refine sD ?_;refine⟨fun h2=>?_,fun h2=>?_⟩
 ·have hi2:i<l.length:=by omega
  have hwi:=qh (i:=i) oM;have sP:=zb7 s hs l[i];have hA:zr0 s l i=((js s l[i]==0)&&((qj s l[i].col.toNat).kind==2)&&(l.take i).all fun x=>x.col != l[i].col):=by rw[zr0,qg hi2]
  have hnoi:=hno i hi2;simp only[tZ,↓uU,simprocAttr,Ax,qd hi2];refine⟨oM,?_⟩;by_cases h3:js s l[i]=0
  ·have hpk:=zW h3;obtain⟨c,hc⟩:=AJ (show 0≤l[i].col by omega);have hc2:c<s.cols.length:=by omega
   have hat:qj s c=s.cols[c]:=by rw[qj,qg hc2]
   rw[h3] at sP hA;rw[hc,Ax,hat] at hA;refine C1.im sP rF rF ?_;simp only[tZ,↓uU,simprocAttr,hc,Ax,qd hc2,Bj,Aw];refine⟨oM,fun h4=>?_,fun h4=>?_⟩
   ·rw[hnoi (by rw[hA];simp;intro h5;exact absurd h5 h4)];exact .oA [] []
   have hCF:=QE (fun x=>x.col==l[i].col) 100 [.ip (pkT l[i]).cells] rfl (l.take i) (fun x _=>ZV x l[i]) (by rw[Cz];omega);rw[show (pkT l[i]).cells=[vI (c:Int),vI l[i].lev] from by rw[← hc];rfl] at hCF;refine⟨oM,?_⟩;rw[Kt,zl1];refine C1.lend [16396] hCF ?_ rF rF ?_
   ·all_goals (try simp only[tL,simprocAttr,By,List.map_cons,List.map_nil,BW,Cy])
    all_goals (try (repeat' (first | exact zq | (apply jm;intro _;exact⟨rfl,rfl⟩) | (apply qV;intro _;exact⟨rfl,rfl⟩) | with_reducible apply zm | with_reducible refine zj ⟨rfl,rfl⟩ ?_ | exact zC | with_reducible apply zg | with_reducible refine zf ⟨rfl,rfl,?_⟩ ?_ | with_reducible apply Az | exact zh rfl | exact zh (by assumption) | (refine⟨⟨?_,rfl,?_,rfl,?_⟩,trivial⟩ <;> first | (simp;done) | (apply qV;intro _;exact⟨rfl,rfl⟩)) | trivial | rfl | (rw[qh oM]) | omega)))
    simp only[ltP];exact⟨rfl,by decide,rfl,zj ⟨rfl,rfl⟩ zC⟩
   simp only[tZ,↓uU,simprocAttr,hwi];refine⟨fun h5=>?_,fun h5=>?_⟩
   ·rw[hnoi (by rw[hA];simp;intro _;simpa [hc] using h5)];exact .oA [] []
   ·refine⟨i+1,⟨oM,fun j hj=>?_⟩,oM,?_⟩
    ·by_cases e:j=i
     ·subst e;rw[hA];simp;refine⟨h4,?_⟩;simpa [hc] using h5
     ·exact hi.2 j oM
    ·exact .oA (U1 4096) []
  ·have q:(js s l[i] != 0)=true:=Bj.2 h3;refine C1.im sP rF rF ?_;have hnn:=hnoi (by rw[hA,Ak.2 h3];rfl);rcases Nat.lt_or_ge l[i].col.toNat s.cols.length with hc | hc
   ·simp only[tZ,↓uU,simprocAttr,q,qd hc];rw[hnn];exact .oA [] []
   ·have hj:(s.cols.map colT).getD l[i].col.toNat .junk = .junk:=by
     rw[CY,List.getElem?_eq_none (by rw[BY];exact hc)];rfl
    simp only[tZ,↓uU,simprocAttr,q,hj,qt4];rw[hnn];exact .oA [] []
 ·have hil:i=l.length:=by omega
  rw[hyes (fun j hj=>hi.2 j oM)];exact .oA [] []
theorem ZW (s:Sch) (hs:jY s):Sp 12 [schT s] [] (.tup [spT (spcS s),vIs (spcC s),vI (spcE s)]) []:=by
 have hV:=WN s hs.2.1 hs.1;refine jl [12] qb5 mixm sMp fun e _ hst=>wW ?_;unfold kM;simp only[yO,List.contains_cons,List.contains_nil,Nat.reduceBEq,Bool.or_false,Bool.or_true,Bool.true_or,Bool.false_or,cond_true,cond_false];refine sW ?_;refine C1.im hV rF rF ?_;simp only[tZ,↓uU,simprocAttr,Bj,Aw];refine⟨fun h=>?_,fun h=>?_⟩
 ·have e:spcE s=schE s:=Aj h;have e1:spcS s=[]:=Aj (by rw[e];exact h);have e2:spcC s=[]:=Aj (by rw[e];exact h);rw[e,e1,e2];exact .oA [] []
 have hok:=qO h;have e:spcE s=chkS (spSz s):=Aq (by rw[h];simp);have hnc:=hok.nc;refine qt mixm (α:=Nat) [7,20] (fun i=>i≤s.cols.length) (fun i=>[(7,.asl 2 (QD s 2 i).length),(20,vI i)]) (fun i=>[aR 4096 2 [schT s],aR 4100 1 [spT []],aR 20480 1 [.agg [.asl 1 (QD s 2 i).length]],aR 1 1 ((szF s i).map vI),aR 2 1 ((QD s 2 i).map vI)]) (fun i=>s.cols.length-i) 0 oM ?_ fun i hi=>?_
 ·show Le _ _ ⟨_,[aR 4096 2 [schT s],aR 4100 1 [spT []],aR 20480 1 [.agg [.asl 1 0]],aR 1 1 [],aR 2 1 []]⟩;exact .oA [uI 4096,uI 4100,uI 20480,(1,none),(2,none)] []
 have hfl:=KS s 2 i;have hzl:=jP7 s i;refine sD ?_;refine⟨fun h2=>?_,fun h2=>?_⟩
 ·have hi2:i<s.cols.length:=by omega
  have hwi:=qh (i:=i) oM;have hat:qj s i=s.cols[i]:=by rw[qj,qg hi2]
  have hsu:=jO s 2 i;have hzu:=jB4 s i;simp only[tZ,↓uU,simprocAttr,Ax,qd hi2,hwi,AY,Ak];refine⟨oM,fun h3=>?_,fun h3=>?_⟩
  ·rw[← hat] at h3;have sL:=QK s hok i hi2 h3;rw[Aj h3] at hsu hzu;refine C1.im sL rF rF ?_;refine sW ?_;refine⟨oM,oM,oM,kR,i+1,oM,oM,?_⟩;rw[hsu,hzu];exact .oA (U5 4096 4100 20480 1 2) []
  ·rw[← hat] at h3;rw[Aq h3,CW] at hsu hzu;refine⟨i+1,oM,oM,?_⟩;rw[hsu,hzu];exact .oA (U5 4096 4100 20480 1 2) []
 ·have hil:i=s.cols.length:=by omega
  subst hil;have hz:szF s s.cols.length=spSz s:=rfl;rw[hz] at hzl ⊢
  have hcl:(QD s 2 s.cols.length)=qR s 2:=rfl;rw[hcl] at hzl hfl ⊢
  refine W_le [(2,.ptr 4100 1 0 0),(6,.ptr 20480 1 0 0),(7,vIs (qR s 2))] [aR 4100 1 [spT []],aR 20480 1 [spT (spSz s)]] ?_ ?_
  ·refine .of (U2 4100 20480) [1,2] rfl (by first | rfl | (rw[hst];rfl)) ?_ ?_
   all_goals (try simp only[tL,simprocAttr,By,List.map_cons,List.map_nil,BW,Cy,hzl])
   all_goals (try (repeat' (first | exact zq | (apply jm;intro _;exact⟨rfl,rfl⟩) | (apply qV;intro _;exact⟨rfl,rfl⟩) | with_reducible apply zm | with_reducible refine zj ⟨rfl,rfl⟩ ?_ | exact zC | with_reducible apply zg | with_reducible refine zf ⟨rfl,rfl,?_⟩ ?_ | with_reducible apply Az | exact zh rfl | exact zh (by assumption) | (refine⟨⟨?_,rfl,?_,rfl,?_⟩,trivial⟩ <;> first | (simp;done) | (apply qV;intro _;exact⟨rfl,rfl⟩)) | trivial | rfl | (rw[qh oM]) | omega)))
   show ltCs _ _ _ [T.asl 1 (qR s 2).length] [vIs (spSz s)];simp only[tL,simprocAttr];exact⟨hzl,(by apply qV;intro _;exact⟨rfl,rfl⟩)⟩
  have sC:=JO (spSz s) oM;refine sW ?_;refine C1.im sC rF rF ?_;simp only[tZ,↓uU,simprocAttr,Bj,Aw];refine⟨fun h3=>?_,fun h3=>?_⟩
  ·have e1:spcS s=[]:=Aj (by rw[e];exact h3);have e2:spcC s=[]:=Aj (by rw[e];exact h3);rw[e,e1,e2];exact .oA [] []
  ·have e1:spcS s=spSz s:=Aq (by rw[e,h3];simp);have e2:spcC s=qR s 2:=Aq (by rw[e,h3];simp);rw[e,e1,e2,h3];exact .oA [] []
set_option maxHeartbeats 16000000
theorem jr0 {st:Sto} {ρ:Ren} {B:List Nat} (m:Nat):ltXs st ρ B 1 (List.replicate m (T.v (Value.slice none 0 0))) ((List.replicate m ([]:List Int)).map vIs):=by
 refine⟨sMp,fun i x y hx hy=>?_⟩;rw[DY,List.getElem?_replicate] at hy;rw[List.getElem?_replicate] at hx;split at hx
 ·rename_i h;rw[Aj h] at hy;obtain rfl:=Option.some.inj hx;obtain rfl:=Option.some.inj hy;refine⟨rfl,rfl,?_⟩;show ltCs _ _ _ [T.v _] [vIs []];simp [ltCs,ltC,ltC0]
 ·cases hx
theorem qk7 (s:Sch) (hs:jY s) (t:Tbl) (n:Int) (hd:t.dims.length<1000) (hcn:t.cells.length<4611686018427387904) (hcl:∀ c∈t.cells,c.codes.length<4611686018427387904):Sp 14 [schT s,tblT t,vI n] [] (.tup [rlsT (wtbR s t n),vI (wtbE s t n)]) []:=by
 have sSp:=ZW s hs;have sDm:=Kf s hs t.dims oM;have hsp:=jI8 (s:=s) (t:=t) (n:=n);have hdm:=jX6 (s:=s) (t:=t) (n:=n);have hno:=fun h h2 k hk h3=>jX7 (s:=s) (t:=t) (n:=n) h h2 (k:=k) hk h3;have hbd:=jP8 (s:=s) (t:=t) (n:=n);have hgd:=jX8 (s:=s) (t:=t) (n:=n);generalize wtbE s t n=E at hsp hdm hno hbd hgd ⊢
 generalize wtbR s t n=Z at hsp hdm hno hbd hgd ⊢
 refine jl [18,19] qb7 mixm sMp fun e _ hst=>wW ?_;unfold kN;simp only[yO,List.contains_cons,List.contains_nil,Nat.reduceBEq,Bool.or_false,Bool.or_true,Bool.true_or,Bool.false_or,cond_true,cond_false];refine sW ?_;refine C1.im sSp rF rF ?_;simp only[tZ,↓uU,simprocAttr,Bj,Aw];refine⟨fun h=>?_,fun h=>?_⟩
 ·obtain⟨a1,a2⟩:=hsp h;rw[a1,a2];exact .oA [] []
 have hSp0:schE s=0∧chkS (spSz s)=0:=by
  unfold spcE at h;split at h
  ·rename_i h2;exact absurd h h2
  ·rename_i h2;exact⟨AQ h2,h⟩
 obtain⟨hE,hS⟩:=hSp0;have e1:spcS s=spSz s:=Aq (by rw[h];simp);have e2:spcC s=qR s 2:=Aq (by rw[h];simp);rw[e1,e2];refine C1.im sDm rF rF ?_;simp only[tZ,↓uU,simprocAttr,Bx,Bz];refine⟨fun h2=>?_,fun h2=>?_⟩
 ·obtain⟨a1,a2⟩:=hdm h h2;rw[a1,a2];exact .oA [] []
 have hD:=zc2 h2;have hok:=qO hE;have hV:=YQ hE hS t.dims;have hSl:=zd5 s;have hcl4:(qR s 2).length≤4:=by have:=hV.sp.len;omega
 have htn:(t.dims.length:Int).toNat=t.dims.length:=Ax _;obtain⟨z1,z2⟩:=jB3 s t.dims;refine⟨oM,oM,?_⟩;refine qt mixm (α:=Nat) [53] (fun i=>i≤(qR s 2).length) (fun i=>[(53,vI i),(12,.asl 32780 t.dims.length),(13,.asl 36876 t.dims.length)]) (fun i=>[aR 4096 2 [schT s],aR 4100 3 [tblT t],aR 4104 3 [rlsT ⟨0,[],[]⟩],aR 8216 1 [spT (spSz s)],aR 28680 3 [.agg [vI n,.asl 1 i,.asl 2 0]],aR 32780 1 ((ofP s t.dims i).map vIs),aR 36876 1 ((plP s t.dims i).map vI),aR 1 1 (((tabG s t.dims).take i).map vIs),aR 2 1 []]) (fun i=>(qR s 2).length-i) 0 oM ?_ fun i hi=>?_
 ·rw[z1,z2];simp only[htn];refine .of [uI 4096,uI 4100,uI 4104,uI 8216,uI 28680,uI 32780,uI 36876,(1,none),(2,none)] [] rfl (by first | rfl | (rw[hst];rfl)) ?_ ?_
  all_goals (try simp only[tL,simprocAttr,By,List.map_cons,List.map_nil,BW,Cy,jp8])
  all_goals (try (repeat' (first | exact zq | (apply jm;intro _;exact⟨rfl,rfl⟩) | (apply qV;intro _;exact⟨rfl,rfl⟩) | with_reducible apply zm | with_reducible refine zj ⟨rfl,rfl⟩ ?_ | exact zC | with_reducible apply zg | with_reducible refine zf ⟨rfl,rfl,?_⟩ ?_ | with_reducible apply Az | exact zh rfl | exact zh (by assumption) | (refine⟨⟨?_,rfl,?_,rfl,?_⟩,trivial⟩ <;> first | (simp;done) | (apply qV;intro _;exact⟨rfl,rfl⟩)) | trivial | rfl | (rw[qh oM]) | omega)))
  exact jr0 _
 have hgl:=zO3 s t.dims;have hgi:((tabG s t.dims).take i).length=i:=by rw[Cz];omega
 have hol:(ofP s t.dims i).length=t.dims.length:=by unfold ofP;simp
 have hpl:(plP s t.dims i).length=t.dims.length:=by unfold plP;simp
 refine sD ?_;refine⟨fun h3=>?_,fun h3=>?_⟩
 ·have hi2:i<(qR s 2).length:=by omega
  have hwi:=qh (i:=i) oM;have hcd:=qB5 (AX hi2);have hsg:=jB6 s hi2;have his:i<(spSz s).length:=by omega
  have hsn:=jq8 s t.dims hi2;have hvw:vwG s t.dims (qR s 2)[i]=if dmAt t.dims (qR s 2)[i]<t.dims.length then (grpL s (qR s 2)[i].toNat (t.dims.getD (dmAt t.dims (qR s 2)[i]) default).lev).1 else List.replicate (qA s (qR s 2)[i].toNat).length 0:=rfl
  have hhit:=jP5 hD hi2;have hnoh:=jX3 hD hi2;have hofd:∀ a,ofD s t.dims a=(grpL s (t.dims.getD a default).col.toNat (t.dims.getD a default).lev).2:=fun _=>rfl;have sI:=wb (fun d=>d.col==(qR s 2)[i]) 52 [.ip [vI (qR s 2)[i]]] rfl t.dims (fun d _=>YV d (qR s 2)[i]) oM;rw[jX4] at sI;have hdg:∀ h:dmAt t.dims (qR s 2)[i]<t.dims.length,(t.dims[dmAt t.dims (qR s 2)[i]]'h).col=(qR s 2)[i]:=fun h=>zc3 h;simp only[tZ,↓uU,simprocAttr,Ax,qd hi2];refine⟨oM,?_⟩;generalize (qR s 2)[i]=c at hcd hsg hsn hvw hhit hnoh sI hdg ⊢
  have hrg:=hcd.rng;have hkd:=hcd.kind;obtain⟨cn,rfl⟩:=AJ hrg.1;rw[Ax] at hkd hvw hsg;have hll:=jM hok (i:=cn) oM hkd;refine C1.lend [49164] sI ?_ rF rF ?_
  ·all_goals (try simp only[tL,simprocAttr,By,List.map_cons,List.map_nil,BW,Cy])
   all_goals (try (repeat' (first | exact zq | (apply jm;intro _;exact⟨rfl,rfl⟩) | (apply qV;intro _;exact⟨rfl,rfl⟩) | with_reducible apply zm | with_reducible refine zj ⟨rfl,rfl⟩ ?_ | exact zC | with_reducible apply zg | with_reducible refine zf ⟨rfl,rfl,?_⟩ ?_ | with_reducible apply Az | exact zh rfl | exact zh (by assumption) | (refine⟨⟨?_,rfl,?_,rfl,?_⟩,trivial⟩ <;> first | (simp;done) | (apply qV;intro _;exact⟨rfl,rfl⟩)) | trivial | rfl | (rw[qh oM]) | omega)))
   simp only[ltP];exact⟨rfl,by decide,rfl,zj ⟨rfl,rfl⟩ zC⟩
  by_cases hm:dmAt t.dims (cn:Int)<t.dims.length
  ·simp only[Aj hm];obtain⟨q1,q2⟩:=hhit hm;have hdc:=hdg hm;rw[Aj hm,qg hm] at hvw;have hof:=hofd (dmAt t.dims (cn:Int));rw[qg hm,hdc,Ax] at hof;have sG:=qf9 s hok cn oM hkd t.dims[dmAt t.dims (cn:Int)].lev;rw[← hvw,← hof] at sG;clear hhit hnoh hdg hofd hvw hof sI;generalize dmAt t.dims (cn:Int)=m at hm q1 q2 hdc sG ⊢
   generalize ofD s t.dims m=O at q1 sG;generalize vwG s t.dims (cn:Int)=V at hsn sG;refine sD ?_;refine⟨fun h5=>absurd h5 oM,fun _=>?_⟩;simp only[tZ,↓uU,simprocAttr,Ax,qd hm];refine⟨oM,?_⟩;refine C1.im sG rF rF ?_;simp only[tZ,↓uU,simprocAttr,Ax];refine⟨kR,?_⟩;have hm1:m<(ofP s t.dims i).length:=by omega
   have hm2:m<(plP s t.dims i).length:=by omega
   simp only[qd hm1,qd hm2,show ∀ a b:Int,repl (vI a) 0 (vI b)=vI b from fun _ _=>rfl,show ∀ a b:List Int,repl (vIs a) 0 (vIs b)=vIs b from fun _ _=>rfl]
   repeat (first | refine⟨⟨oM,oM,rfl⟩,?_⟩ | refine⟨⟨oM,oM⟩,?_⟩ | refine⟨oM,?_⟩)
   rw[← List.map_set,← List.map_set,← q1,← q2];refine W_le [(2,vI n),(3,.ptr 4096 1 0 0),(4,.ptr 4100 1 0 0),(6,.ptr 4104 1 0 0),(8,.ptr 8216 1 0 0),(11,.ptr 28680 1 0 0),(12,.asl 32780 t.dims.length),(13,.asl 36876 t.dims.length),(51,vIs (qR s 2)),(52,vI (qR s 2).length),(53,vI i)] [aR 4096 2 [schT s],aR 4100 3 [tblT t],aR 4104 3 [rlsT ⟨0,[],[]⟩],aR 8216 1 [spT (spSz s)],aR 28680 3 [.agg [vI n,.asl 1 (i+1),.asl 2 0]],aR 32780 1 ((ofP s t.dims (i+1)).map vIs),aR 36876 1 ((plP s t.dims (i+1)).map vI),aR 1 1 (((tabG s t.dims).take (i+1)).map vIs),aR 2 1 []] ?_ ?_
   ·rw[hsn];exact .oA [uI 4096,uI 4100,uI 4104,uI 8216,uI 28680,uI 32780,uI 36876,uI 1,uI 2] []
   simp only[tZ,↓uU,simprocAttr,hwi];refine⟨i+1,oM,oM,?_⟩;exact .oA [uI 4096,uI 4100,uI 4104,uI 8216,uI 28680,uI 32780,uI 36876,uI 1,uI 2] []
  ·simp only[Aq hm];obtain⟨q1,q2⟩:=hnoh hm;rw[Aq hm] at hvw;clear hhit hnoh hdg hofd sI;generalize vwG s t.dims (cn:Int)=V at hsn hvw;simp only[tZ,↓uU,simprocAttr,tD,Ax,qd his,hsg];refine⟨oM,oM,sMp,oM,oM,kR,?_⟩;have hvl:V.length=(qA s cn).length:=by rw[hvw,List.length_replicate]
   rw[jp8,← hvw,← hvl];refine W_le [(2,vI n),(3,.ptr 4096 1 0 0),(4,.ptr 4100 1 0 0),(6,.ptr 4104 1 0 0),(8,.ptr 8216 1 0 0),(11,.ptr 28680 1 0 0),(12,.asl 32780 t.dims.length),(13,.asl 36876 t.dims.length),(51,vIs (qR s 2)),(52,vI (qR s 2).length),(53,vI i)] [aR 4096 2 [schT s],aR 4100 3 [tblT t],aR 4104 3 [rlsT ⟨0,[],[]⟩],aR 8216 1 [spT (spSz s)],aR 28680 3 [.agg [vI n,.asl 1 (i+1),.asl 2 0]],aR 32780 1 ((ofP s t.dims (i+1)).map vIs),aR 36876 1 ((plP s t.dims (i+1)).map vI),aR 1 1 (((tabG s t.dims).take (i+1)).map vIs),aR 2 1 []] ?_ ?_
   ·rw[hsn,q1,q2];exact .oA [uI 4096,uI 4100,uI 4104,uI 8216,uI 28680,uI 32780,uI 36876,uI 1,uI 2] [61472]
   simp only[tZ,↓uU,simprocAttr,hwi];refine⟨i+1,oM,oM,?_⟩;exact .oA [uI 4096,uI 4100,uI 4104,uI 8216,uI 28680,uI 32780,uI 36876,uI 1,uI 2] []
 ·have hil:i=(qR s 2).length:=by omega
  subst hil;obtain⟨y1,y2⟩:=jP6 hD;rw[y1,y2,List.take_of_length_le oM,← hgl];have hvG:∀ g∈tabG s t.dims,g.length<1000000:=fun g hg=>by
   obtain⟨j,hj,rfl⟩:=CX hg;have:=(hV.g (i:=j) oM).len;omega
  have sPb:=ZU (spSz s) (tabG s t.dims) oM oM hvG;have hpb:=hV.pub;rw[show Qo (spSz s) (tabG s t.dims)=(tabN s t:Int) by
   unfold Qo tabN;rw[Aj (Wj.2 hV)];omega] at sPb
  have hN:tabN s t≤48:=by unfold tabN;omega
  have hNp:∀ k:Nat,k<tabN s t→(k:Int)<pubN (tabG s t.dims):=fun k h=>by unfold tabN at h;omega
  obtain⟨O,hO⟩:∃ O,O=(List.range t.dims.length).map (ofD s t.dims):=⟨_,rfl⟩;obtain⟨Pl,hPl⟩:∃ Pl,Pl=(List.range t.dims.length).map fun a=>(plD s t.dims a:Int):=⟨_,rfl⟩;have hOl:O.length=t.dims.length:=by rw[hO];simp
  have hPll:Pl.length=t.dims.length:=by rw[hPl];simp
  have hOg:∀ a (h:a<t.dims.length),O[a]'oM=ofD s t.dims a:=fun a h=>by subst hO;rw[Fj,List.getElem_range]
  have hPg:∀ a (h:a<t.dims.length),Pl[a]'oM=(plD s t.dims a:Int):=fun a h=>by subst hPl;rw[Fj,List.getElem_range]
  rw[← hO,← hPl];clear hO hPl;refine W_le [(2,vI n),(4,.ptr 4100 1 0 0),(6,.ptr 4104 1 0 0),(8,.ptr 8216 1 0 0),(11,.ptr 28680 1 0 0),(12,vvIs O),(13,vIs Pl)] [aR 4100 3 [tblT t],aR 4104 3 [rlsT ⟨0,[],[]⟩],aR 8216 1 [spT (spSz s)],aR 28680 3 [.agg [vI n,vvIs (tabG s t.dims),.asl 2 0]],aR 2 1 []] ?_ ?_
  ·refine .of (U5 4100 4104 8216 28680 2) [1,32780,36876] rfl (by first | rfl | (rw[hst];rfl)) ?_ ?_
   all_goals (try simp only[tL,simprocAttr,By,List.map_cons,List.map_nil,BW,Cy])
   all_goals (try (repeat' (first | exact zq | (apply jm;intro _;exact⟨rfl,rfl⟩) | (apply qV;intro _;exact⟨rfl,rfl⟩) | with_reducible apply zm | with_reducible refine zj ⟨rfl,rfl⟩ ?_ | exact zC | with_reducible apply zg | with_reducible refine zf ⟨rfl,rfl,?_⟩ ?_ | with_reducible apply Az | exact zh rfl | exact zh (by assumption) | (refine⟨⟨?_,rfl,?_,rfl,?_⟩,trivial⟩ <;> first | (simp;done) | (apply qV;intro _;exact⟨rfl,rfl⟩)) | trivial | rfl | (rw[qh oM]) | omega)))
   simp only[T.cells,tL,simprocAttr]
   all_goals (try exact clA)
  clear sSp sDm hsp hdm z1 z2 y1 y2;refine sW ?_;refine C1.im sPb rF rF ?_;refine sW ?_;refine qt mixm (α:=Nat) [19,116] (fun k=>k≤tabN s t∧∀ j,j<k→0≤tabK s t j) (fun k=>[(19,vB (wrB s t n k)),(116,vI k)]) (fun k=>[aR 4100 3 [tblT t],aR 4104 3 [rlsT ⟨0,[],[]⟩],aR 28680 3 [.agg [vI n,vvIs (tabG s t.dims),.asl 2 k]],aR 2 1 (((List.range k).map (tabV s t)).map vI)]) (fun k=>tabN s t-k) 0 ⟨oM,fun j h=>by omega⟩ ?_ fun k hk=>?_
  ·rw[jB8];exact .oA (U4 4100 4104 28680 2) []
  have hvk:((List.range k).map (tabV s t)).length=k:=by simp
  refine sD ?_;refine⟨fun h3=>?_,fun h3=>?_⟩
  ·have hk2:k<tabN s t:=by omega
   have hwk:=qh (i:=k) oM;have hnk:=hNp k hk2;have sS:=qg0 hV k oM;have hrg:=fun a ha=>jB5 hE hS hD hnk (a:=a) ha;have hck:=fun a ha=>zc4 (s:=s) (ds:=t.dims) (k:=k) (a:=a) ha;have hck2:=qf2 s t.dims k;have sF:=qC0 t (YK s t.dims k) hcn hcl;have hws:=jB7 s t n k;have hvs:(List.range (k+1)).map (tabV s t)=(List.range k).map (tabV s t)++[tabV s t k]:=by rw[List.range_succ,By];rfl
   rw[show fndC t.cells (YK s t.dims k)=tabK s t k from rfl] at sF;have hfl:=fun m (h:tabK s t k=(m:Nat))=>jX5 (l:=t.cells) (y:=YK s t.dims k) h;have htv:tabV s t k=(t.cells.getD (tabK s t k).toNat ⟨[],0,0,0,0,0,[]⟩).cnt:=rfl;have hnok:=hno h h2 k hk2;generalize YK s t.dims k=C at hck hck2 sF hfl;generalize zd ((tabG s t.dims).map gN) k=P at sS hrg hck;refine C1.im sS rF rF ?_;refine sW ?_;refine qt mixm (α:=Nat) [22,126] (fun a=>a≤t.dims.length) (fun a=>[(22,.asl 3 a),(126,vI a)]) (fun a=>[aR 4100 3 [tblT t],aR 4104 3 [rlsT ⟨0,[],[]⟩],aR 28680 3 [.agg [vI n,vvIs (tabG s t.dims),.asl 2 k]],aR 2 1 (((List.range k).map (tabV s t)).map vI),aR 3 1 ((C.take a).map vI)]) (fun a=>t.dims.length-a) 0 oM ?_ fun a ha=>?_
   ·show Le _ _ ⟨_,[aR 4100 3 [tblT t],aR 4104 3 [rlsT ⟨0,[],[]⟩],aR 28680 3 [.agg [vI n,vvIs (tabG s t.dims),.asl 2 k]],aR 2 1 (((List.range k).map (tabV s t)).map vI),aR 3 1 []]⟩;exact .oA [uI 4100,uI 4104,uI 28680,uI 2,(3,none)] []
   have hca:(C.take a).length=a:=by rw[Cz];omega
   refine sD ?_;refine⟨fun h5=>?_,fun h5=>?_⟩
   ·have ha2:a<t.dims.length:=by omega
    have hwa:=qh (i:=a) oM;obtain⟨r1,r2,r3⟩:=hrg a ha2;have hc:=hck a ha2;rw[qg r1] at r2 r3 hc;rw[qg r3,qg (show a<C.length by omega)] at hc;have hsc:C.take (a+1)=C.take a++[C[a]'oM]:=qy oM;rw[hc] at hsc;have hO2:a<O.length:=by omega
    have hP2:a<Pl.length:=by omega
    simp only[tZ,↓uU,simprocAttr,Ax,qd hO2,qd hP2,hOg a ha2,hPg a ha2,qd r1,qd r3];refine⟨oM,oM,oM,oM,oM,kR,?_⟩;simp only[tZ,↓uU,simprocAttr,hwa];refine⟨a+1,oM,oM,?_⟩;rw[hsc];exact .oA (U5 4100 4104 28680 2 3) []
   ·have hal:a=C.length:=by omega
    subst hal;rw[Bw];refine C1.lend [3] sF ?_ rF rfl ?_
    ·all_goals (try exact clA)
    refine sD ?_;refine⟨fun h6=>?_,fun h6=>?_⟩
    ·obtain⟨a1,a2⟩:=hnok h6;rw[a1,a2];exact .oA [] []
    obtain⟨m,hm⟩:=AJ (show 0≤tabK s t k by omega);have hml:=hfl m hm;rw[hm,Ax,qg hml] at htv;have sV:=wC t.cells[m].cnt;rw[← htv] at sV;rw[hm];simp only[tZ,↓uU,simprocAttr,Ax,qd hml];rw[← htv];refine⟨fun _=>by omega,?_⟩;refine C2.im (fun _=>sV) (fun _=>rfl) rF ?_;simp only[tZ,↓uU,simprocAttr,Ax,qd hml,← htv];have hvk2:(List.range k).length=k:=by simp
    refine⟨oM,oM,oM,kR,?_⟩;simp only[tZ,↓uU,simprocAttr,hwk];refine⟨k+1,⟨oM,fun j hj=>?_⟩,oM,?_⟩
    ·by_cases e:j=k
     ·subst e;omega
     ·exact hk.2 j oM
    rw[hws,hvs];exact .oA (U4 4100 4104 28680 2) []
  ·have hkl:k=tabN s t:=by omega
   subst hkl;refine⟨fun h4=>?_,fun h4=>⟨sMp,?_⟩⟩
   ·obtain⟨a1,a2⟩:=hbd h h2 hk.2 h4;rw[a1,a2];exact .oA [] []
   ·obtain⟨a1,a2⟩:=hgd h h2 hk.2 h4;rw[a1,a2];have hvk2:(List.range (tabN s t)).length=tabN s t:=by simp
    refine .of [] [2] rfl (by first | rfl | (rw[hst];rfl)) ?_ ?_
    all_goals (try simp only[tL,simprocAttr,By,List.map_cons,List.map_nil,BW,Cy,hvk,hvk2])
    all_goals (try (exact clA))
set_option maxHeartbeats 8000000
theorem zd6 (sz at_:List Int) (h:SpOk sz) (hr:inR sz at_):Sp 20 [spT sz,vIs at_] [] (.tup [vI (numL sz at_),vI 0]) []:=by
 have hlen:=Yy hr;have hl:=h.len;have hC:=qf5 sz oM;rw[kY.2 h] at hC;refine sIr qD6 fun e _ hst=>?_;unfold QN;refine sW ?_;refine C1.im hC rF rF ?_;refine sD ?_;refine⟨fun h2=>absurd h2 (by rw[hlen];simp),fun _=>?_⟩;refine qt mixm (α:=Nat) [7,22] (fun i=>i≤sz.length) (fun i=>[(7,vI (numL (sz.take i) (at_.take i))),(22,vI i)]) (fun i=>[aR 4096 1 [spT sz]]) (fun i=>sz.length-i) 0 oM ?_ fun i hi=>?_
 ·exact .oA (U1 4096) []
 refine sD ?_;refine⟨fun h2=>?_,fun h2=>?_⟩
 ·have hi2:i<sz.length:=by omega
  have hi3:i<at_.length:=by omega
  have hwi:=qh (i:=i) oM;have hg:=zd3 hr hi2 hi3;have hns:=zO1 h.all hl.2 hr hi2 hi3;have q1:¬ at_[i]<0:=by omega
  have q2:¬ at_[i]≥sz[i]:=by omega
  simp only[tZ,↓uU,simprocAttr,Ax,qd hi2,qd hi3,hwi,q1,q2,decide_false];refine⟨oM,oM,oM,kR,oM,oM,kR,i+1,oM,oM,?_⟩;rw[hns];exact .oA (U1 4096) []
 ·have hil:i=sz.length:=by omega
  subst hil;rw[Bw,List.take_of_length_le oM];exact .oA [] []
set_option maxHeartbeats 16000000
theorem jZ6 {x:Src} {k:Int} {ds:List Pk} (h3:ds.length≤3) (h:szD x.sch ds≤2000):(wT x k ds).cells.length<1000000∧∀ c∈(wT x k ds).cells,c.codes.length<1000000:=by
 have hl:(KY x.sch (wX x k) ds fun _=>1).length=szD x.sch ds:=by unfold KY;rw[BY,qf1]
 refine⟨by dsimp only;omega,fun c hc=>?_⟩;dsimp only at hc;unfold KY at hc;obtain⟨y,hy,rfl⟩:=Cj.1 hc;have:=zc1 x.sch ds y hy;show y.length<_;omega
theorem Kg (l:List UInt8):Sp 4 [vL l] [] (vB true) []:=by
 have hl4:(l.take 400).length≤400:=by rw[Cz];omega
 obtain⟨x,k,a1,⟨hX,hr,hk,ha1⟩,sS⟩:=qf7 10 oM (l.take 400) 0 hl4 oM;obtain⟨⟨ds,a2⟩,⟨hdE,ha2⟩,sD⟩:=qj7 x.sch hX.sch (l.take 400) a1 hl4 ha1;dsimp only at hdE ha2 sD;have hE:=hX.sch.ok;have hok:=qO hE;have hk2:0≤k∧k<1152921504606846976:=by omega
 obtain⟨hB,hd1,hd3⟩:=zB2 hdE;obtain⟨f,sM⟩:=zt7 hX hk2 ds oM cAll (KZ hE);rw[zu1 hX hk2 hdE,jP4 hX hk2 hdE f] at sM;have hsm:=hX.ok.smx;have hTO:=jZ6 (x:=x) (k:=k) hd3 (jo9 hX.sch hd3);have hR:=fun hS=>jo8 hX hk2 hB hS;have hW:=fun hS=>zT5 hX (ds:=ds) hS;have sT:=qk7 x.sch hsm.1 (wT x k ds) 3 (show ds.length<1000 by omega) (by have:=hTO.1;omega) (fun c hc=>by have:=hTO.2 c hc;omega);have hRs:=jX9 hE (wT x k ds) 3;generalize wtbE x.sch (wT x k ds) 3=F at hR sT;generalize wtbR x.sch (wT x k ds) 3=R at hR sT hRs;generalize wT x k ds=T1 at sM sT;generalize wX x k=X at sS sM;have sSp:=ZW x.sch hsm.1;have hsp:=jA8 hE;have hbad:=jA9 (l:=spSz x.sch);have e1:spcE x.sch=0→spcS x.sch=spSz x.sch∧spcC x.sch=qR x.sch 2:=fun h=>⟨Aq (by rw[h];simp),Aq (by rw[h];simp)⟩;have hnr:=hX.ok.nr;have hrows:=hX.ok.rows;refine jl [24] Jd mixm sMp fun e _ hst=>wW ?_;unfold jn;simp only[yO,List.contains_cons,List.contains_nil,Nat.reduceBEq,Bool.or_false,Bool.or_true,Bool.true_or,Bool.false_or,cond_true,cond_false];refine sW ?_;refine C1.newdraw 8196 (zR5 l) rfl rfl ?_;generalize l.take 400=m at hl4 sS sD ha1 ha2 ⊢
 refine sW ?_;refine C1.draw 8196 m 0 _ sS rfl rfl rfl ?_;refine sW ?_;refine C1.draw 8196 m a1 _ sD rfl rfl rfl ?_;refine sW ?_;refine C1.shut [] sM ?_ rF rfl ?_
 ·all_goals (try exact clA)
 refine sW ?_;refine⟨kR,?_⟩;refine C1.im sSp rF rF ?_;generalize spcS x.sch=s1 at sSp e1;generalize spcC x.sch=s2 at sSp e1;generalize spcE x.sch=s3 at sSp hsp e1;simp only[tZ,↓uU,simprocAttr,Bj,Aw];refine⟨fun h2=>?_,fun h2=>?_⟩
 ·have h55:s3=55:=by rw[hsp];exact hbad (by rw[← hsp];exact h2)
  rw[h55];refine sW ?_;refine C2.one trivial (C1.im qf8 rF rF ?_);refine sW ?_;exact .oA [] []
 have hS:chkS (spSz x.sch)=0:=by rw[← hsp];exact h2
 obtain⟨q1,q2⟩:=e1 h2;rw[q1,q2];obtain⟨hF,hRe⟩:=hR hS;obtain⟨w1,w2,w3⟩:=hW hS R hRe;have hRn:R.num=3:=by rw[hRe]
 clear hRe;have hSp:=kY.1 hS;have hSl:=zd5 x.sch;have hpr:=hSp.prod;have hsl:=hSp.len;have sC:=zc9 (spSz x.sch) oM;rw[show cntS (spSz x.sch)=qX (spSz x.sch) by rw[cntS,Aj hS]] at sC;obtain⟨N,hN⟩:=AJ (show 0≤qX (spSz x.sch) by omega);have hNt:(qX (spSz x.sch)).toNat=N:=by omega
 have hcn:=jB0 (spSz x.sch);rw[hN] at sC;rw[hNt] at hcn;clear hR hW e1 hbad sS sD sM sSp;refine C1.im sC rF rF ?_;have hNN:((N:Nat):Int).toNat=N:=Ax _;simp only[tZ,↓uU,simprocAttr,hNN];refine⟨oM,?_⟩;refine qt mixm (α:=Nat) [66] (fun i=>i≤x.rows.length) (fun i=>[(66,vI i)]) (fun i=>[aR 12308 5 [srcT x],aR 16432 3 [tblT T1],aR 20508 1 [spT (spSz x.sch)],aR 32776 1 ((cntL (spSz x.sch) ((x.rows.take i).map (atW x.sch))).map vI)]) (fun i=>x.rows.length-i) 0 oM ?_ fun i hi=>?_
 ·rw[List.take_zero,List.map_nil,hcn];refine .of (U4 12308 16432 20508 32776) [] rfl (by first | rfl | (rw[hst];rfl)) ?_ ?_
  all_goals (try simp only[tL,simprocAttr,By,List.map_cons,List.map_nil,BW,Cy,jp8])
  all_goals (try (exact clA))
 have hcl:=JL (spSz x.sch) ((x.rows.take i).map (atW x.sch));rw[hNt] at hcl;refine sD ?_;refine⟨fun h3=>?_,fun h3=>?_⟩
 ·have hi2:i<x.rows.length:=by omega
  have hwi:=qh (i:=i) oM;have hrow:=hrows _ (AX hi2);have hat:=zs4 hrow;have hsn:(x.rows.take (i+1)).map (atW x.sch)=(x.rows.take i).map (atW x.sch)++[atW x.sch x.rows[i]]:=by rw[qy hi2,By];rfl
  obtain⟨_,hrl,_⟩:=wA hrow;have hatl:(atW x.sch x.rows[i]).length=(qR x.sch 2).length:=by unfold atW;rw[BY]
  have hatg:∀ j (h:j<(qR x.sch 2).length),(atW x.sch x.rows[i]).getD j 0=YR x.sch (qR x.sch 2)[j] (x.rows[i].getD (qR x.sch 2)[j].toNat 0):=fun j h=>by rw[qg (by rw[hatl];exact h)];unfold atW;rw[Fj]
  have sIx:=zd6 (spSz x.sch) (atW x.sch x.rows[i]) hSp hat;have hnr2:=KN hSp.all hat;obtain⟨n,hn⟩:=AJ hnr2.1;rw[hn] at sIx;have hcs:=jq6 (spSz x.sch) ((x.rows.take i).map (atW x.sch)) (atW x.sch x.rows[i]) hn oM;have hcv:∀ c∈cntL (spSz x.sch) ((x.rows.take i).map (atW x.sch)),0≤c∧c≤1000000:=fun c hc=>by
   have:=Bk.1 (jo7 (spSz x.sch) (ats:=(x.rows.take i).map (atW x.sch)) (by rw[BY,Cz];omega)) c hc;unfold okV at this;simpa using this
  rw[← hsn] at hcs;generalize atW x.sch x.rows[i]=A at hatl hatg sIx hat;simp only[tZ,↓uU,simprocAttr,Ax,qd hi2];refine⟨oM,?_⟩;generalize x.rows[i]=row at hrow hrl hatg ⊢
  refine qt mixm (α:=Nat) [14,72] (fun j=>j≤(qR x.sch 2).length) (fun j=>[(14,.asl 1 j),(72,vI j)]) (fun j=>[aR 12308 5 [srcT x],aR 16432 3 [tblT T1],aR 20508 1 [spT (spSz x.sch)],aR 32776 1 ((cntL (spSz x.sch) ((x.rows.take i).map (atW x.sch))).map vI),aR 1 1 ((A.take j).map vI)]) (fun j=>(qR x.sch 2).length-j) 0 oM ?_ fun j hj=>?_
  ·show Le _ _ ⟨_,[aR 12308 5 [srcT x],aR 16432 3 [tblT T1],aR 20508 1 [spT (spSz x.sch)],aR 32776 1 ((cntL (spSz x.sch) ((x.rows.take i).map (atW x.sch))).map vI),aR 1 1 []]⟩;exact .oA [uI 12308,uI 16432,uI 20508,uI 32776,(1,none)] []
  have hAj:(A.take j).length=j:=by rw[Cz];omega
  refine sD ?_;refine⟨fun h4=>?_,fun h4=>?_⟩
  ·have hj2:j<(qR x.sch 2).length:=by omega
   have hj3:j<A.length:=by omega
   have hwj:=qh (i:=j) oM;have hcd:=qB5 (AX hj2);have hag:=hatg j hj2;rw[qg hj3] at hag;have hsA:A.take (j+1)=A.take j++[A[j]]:=qy hj3;rw[hag] at hsA;simp only[tZ,↓uU,simprocAttr,Ax,qd hj2];refine⟨oM,?_⟩;generalize (qR x.sch 2)[j]=c at hcd hsA hag ⊢
   have hrg:=hcd.rng;have hkd:=hcd.kind;obtain⟨cn,rfl⟩:=AJ hrg.1;rw[Ax] at hkd hsA;have hcr:cn<row.length:=by omega
   have sL:=zu2 x.sch hok cn oM hkd row[cn];rw[qg hcr] at hsA;have u1:decide ((cn:Int)<0)=false:=Cq oM;have u2:decide ((row.length:Int)≤(cn:Int))=false:=Cq oM;simp only[tZ,↓uU,simprocAttr,u1,u2,Ax,qd hcr];refine⟨oM,?_⟩;refine C1.im sL rF rF ?_;refine sW ?_;refine⟨oM,kR,?_⟩;simp only[tZ,↓uU,simprocAttr,hwj];refine⟨j+1,oM,oM,?_⟩;rw[hsA];exact .oA (U5 12308 16432 20508 32776 1) []
  ·have hjl:j=A.length:=by omega
   subst hjl;rw[Bw];refine C1.lend [1] sIx ?_ rF rfl ?_
   ·all_goals (try exact clA)
   have hnl:n<(cntL (spSz x.sch) ((x.rows.take i).map (atW x.sch))).length:=by omega
   generalize cntL (spSz x.sch) ((x.rows.take i).map (atW x.sch))=CL at hcl hcs hnl hcv ⊢
   rw[qg hnl] at hcs;have hcvn:=hcv _ (AX hnl);have hwc:IntKind.i64.wrap (CL[n]+1)=CL[n]+1:=AK _ oM;simp only[tZ,↓uU,simprocAttr,Ax,qd hnl,hwc,hwi,show ∀ a b:Int,repl (vI a) 0 (vI b)=vI b from fun _ _=>rfl];refine⟨⟨hcl,oM⟩,⟨hcl,hnl⟩,⟨hcl,oM⟩,⟨hcl,hnl⟩,i+1,oM,oM,?_⟩;rw[← List.map_set,← hcs];exact .oA (U4 12308 16432 20508 32776) []
 ·have hil:i=x.rows.length:=by omega
  subst hil;rw[Bw] at hcl ⊢
  generalize cntL (spSz x.sch) (x.rows.map (atW x.sch))=CL at w3 hcl ⊢
  have sO:=WQ (spSz x.sch) R oM hRs;rw[jB1 w1] at sO;have htc:=zT7 (l:=[R]) hSp;rw[show KP (spSz x.sch) [R]=tell (spSz x.sch) R by unfold KP;simp] at htc;have hvl:=hRs.vals;have sAg:=wd (tell (spSz x.sch) R) CL oM oM (fun y hy=>by have:=htc y hy;omega);rw[w3] at sAg;refine W_le [(4,.ptr 12308 1 0 0),(6,.ptr 16432 1 0 0),(8,.ptr 20508 1 0 0),(11,vIs CL)] [aR 12308 5 [srcT x],aR 16432 3 [tblT T1],aR 20508 1 [spT (spSz x.sch)]] ?_ ?_
  ·exact .oA (U3 12308 16432 20508) [32776]
  rw[hF] at sT;generalize tell (spSz x.sch) R=Q at w2 sO sAg;clear htc w1 w3;refine sW ?_;refine C1.im sT rF rF ?_;refine sW ?_;refine C1.im sO rF rF ?_;simp only[tZ,↓uU,simprocAttr,hRn,w2,beq_self_eq_true];refine C2.one trivial (C1.im sAg rF rF ?_);refine sW ?_;refine C2.one trivial (C1.im qf8 rF rF ?_);refine sW ?_;exact .oA [] []
end Go.Proofs
