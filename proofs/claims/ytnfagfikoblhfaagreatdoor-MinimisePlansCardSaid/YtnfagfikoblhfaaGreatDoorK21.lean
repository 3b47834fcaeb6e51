/- A part of the proof: trees of Go values, short forms, contracts. -/
import Derived.Test.YtnfagfikoblhfaaGreatDoorK20
namespace Go.Proofs
open Go Go.TL
set_option maxRecDepth 4000
set_option maxHeartbeats 8000000
def kiI (s:Sch) (c:Int):Int:=if c<0∨c≥s.cols.length then 0 else (qg s c.toNat).kind
theorem jK2 {s:Sch} {c k:Int} (hk:k≠0):(kiI s c==k)=isB s c k:=by
 rw[Bool.eq_iff_iff,AY,zu,kiI];split
 ·constructor
  ·intro h;omega
  ·intro h;omega
 ·constructor
  ·intro h;exact⟨oM,oM,h⟩
  ·intro h;exact h.2.2
theorem zC0 {s:Sch} {c k:Int} (hk:k≠0):isB s c k=false↔kiI s c≠k:=by rw[← jK2 hk,Ak]
theorem jP7 {s:Sch} {c k:Int} (hk:k≠0):isB s c k=true↔kiI s c=k:=by rw[← jK2 hk,AY]
theorem jd (s:Sch) (c:Int):Sp 243 [schT s,vI c] [] (vI (kiI s c)) []:=by
 refine sIr qe3 fun e _ hst=>?_;unfold kX;refine sD ?_;refine⟨fun h=>?_,fun h=>?_⟩
 ·rw[kiI,Aj oM];exact .oA [] []
 obtain⟨i,rfl⟩:=AJ (show 0≤c by omega);have hi:i<s.cols.length:=by omega
 rw[kiI,Aq oM,Ax,qg,qj hi];simp only[tZ,↓uU,simprocAttr,Ax,qd hi];refine⟨oM,?_⟩;exact .oA [] []
theorem empC (c:Cnd):((c.op==0)&&(c.col==0)&&(c.code==0)&&(c.lo==0)&&(c.hi==0)&&((c.kids.length:Int)==0))=KU c cnd0:=by
 rw[zn0];show _=((c.op==0)&&(c.col==0)&&(c.code==0)&&(c.lo==0)&&(c.hi==0)&&wF c.kids [])
 congr 1
 cases c.kids with
 | nil=>rfl
 | cons x r=>
   rw[wF];exact Ak.2 (by simp;omega)
theorem JO (c:Cnd):Sp 245 [cnT c] [] (vB (KU c cnd0)) []:=by
 refine sIr qi8 fun e _ hst=>?_;unfold wC;refine sW ?_;rw[← empC];exact .oA [] []
theorem qf3 (x y:Pk):Sp 244 [pkT x,.ip (pkT y).cells] [] (vB (x.col==y.col)) []:=by
 refine sIr qa1 fun e _ hst=>?_;unfold kD;refine sW ?_;exact .oA [] []
def tabE (s:Sch) (q:Qst):Int:=if JF s q.dims≠0 then JF s q.dims else if q.meas≠-1∧isB s q.meas 3=false then 7 else if 0<q.terms.length∨KU q.event cnd0=false then 11 else 0
theorem qo8 (s:Sch) (hs:ki s) (q:Qst):Sp 184 [schT s,qstT q] [] (vI (tabE s q)) []:=by
 have hT:tabE s q=if JF s q.dims≠0 then JF s q.dims else if q.meas≠-1∧isB s q.meas 3=false then 7 else if 0<q.terms.length∨KU q.event cnd0=false then 11 else 0:=rfl
 have hTD:JF s q.dims≠0→tabE s q=JF s q.dims:=fun h=>by rw[hT,Aj h]
 refine sIr qi2 fun e _ hst=>?_;unfold wz;refine sD ?_;refine⟨fun h=>?_,fun h=>?_⟩
 ·have:JF s q.dims=1:=by rw[JF,Aj oM]
  rw[hTD (by rw[this];simp),this];exact .oA [] []
 have hD:JF s q.dims=zW (dimE s q.dims) q.dims.length:=by rw[JF,Aq oM]
 generalize tabE s q=E at hT hTD ⊢
 refine qt mixm (α:=Nat) [21] (fun i=>i≤q.dims.length∧(zW (dimE s q.dims) i=0)) (fun i=>[(21,vI i)]) (fun i=>[aR 4096 2 [schT s],aR 4100 17 [qstT q]]) (fun i=>q.dims.length-i) 0 ⟨oM,?_⟩ ?_ fun i hi=>?_
 ·rfl
 ·exact .oA (U2 4096 4100) []
 simp only[tZ,↓uU,simprocAttr,AZ,Ay];refine⟨fun h=>?_,fun h=>?_⟩
 ·have hi2:i<q.dims.length:=by omega
  have hpi:pkAt q.dims i=q.dims[i]:=by rw[pkAt,qj hi2]
  have hstep:=wj hi.2 hi2;have hnext:=jp hi.2;have hA:dimE s q.dims i=if wD s q.dims[i]≠0 then wD s q.dims[i] else if isB s q.dims[i].col 2=false then 7 else if ((q.dims.take i).any fun x=>x.col==q.dims[i].col)=true then 10 else 0:=by rw[dimE,hpi]
  rw[← hD] at hstep;have hbad:dimE s q.dims i≠0→E=dimE s q.dims i:=fun h=>by rw[hTD (by rw[hstep h];exact h),hstep h]
  have hi2:i<q.dims.length:=by omega
  have hwi:=qh (i:=i) oM;simp only[tZ,↓uU,simprocAttr,Ax,qd hi2,hwi];refine⟨oM,?_⟩;refine C1.im (zo5 s hs q.dims[i]) rF rF ?_;simp only[tZ,↓uU,simprocAttr,Bj,Aw];refine⟨fun h3=>?_,fun h3=>?_⟩
  ·rw[Aj h3] at hA;rw[hbad (by rw[hA];exact h3),hA];exact .oA [] []
  rw[Aq (by rw[h3];simp)] at hA;refine C1.im (jd s q.dims[i].col) rF rF ?_;have hki:=zC0 (s:=s) (c:=q.dims[i].col) (k:=2) (by decide);simp only[tZ,↓uU,simprocAttr,Bj,Aw];refine⟨fun h4=>?_,fun h4=>?_⟩
  ·rw[Aj (hki.2 h4)] at hA;rw[hbad (by rw[hA];simp),hA];exact .oA [] []
  rw[Aq (fun h=>hki.1 h h4)] at hA;have hCF:=jv (fun x=>x.col==q.dims[i].col) 244 [.ip (pkT q.dims[i]).cells] rfl (q.dims.take i) (fun x _=>qf3 x q.dims[i]) (by rw[Cz];omega);refine⟨oM,?_⟩;rw[qc1,qO6];refine C1.lend [24588] hCF ?_ rF rF ?_
  ·all_goals (try simp only[tL,simprocAttr,By,List.map_cons,List.map_nil,BW,Cy])
   all_goals (try (repeat' (first | exact zk | (apply zH;intro _;exact⟨rfl,rfl⟩) | (apply qw;intro _;exact⟨rfl,rfl⟩) | with_reducible apply ze | with_reducible refine qQ ⟨rfl,rfl⟩ ?_ | exact qR | with_reducible apply qZ | with_reducible refine zd ⟨rfl,rfl,?_⟩ ?_ | with_reducible apply Az | exact qY rfl | exact qY (by assumption) | (refine⟨⟨?_,rfl,?_,rfl,?_⟩,trivial⟩ <;> first | (simp;done) | (apply qw;intro _;exact⟨rfl,rfl⟩)) | trivial | rfl | (rw[qh oM]) | omega)))
   simp only[ltP];exact⟨rfl,by decide,rfl,qQ ⟨rfl,rfl⟩ qR⟩
  simp only[tZ,↓uU,simprocAttr,hwi];refine⟨fun h5=>?_,fun h5=>?_⟩
  ·rw[Aj h5] at hA;rw[hbad (by rw[hA];simp),hA];exact .oA [] []
  ·rw[Aq (by rw[h5];simp)] at hA;refine⟨i+1,⟨oM,by rw[hnext,hA]⟩,oM,?_⟩;exact .oA (U2 4096 4100) []
 ·have hi2:i=q.dims.length:=by omega
  subst hi2;rw[← hD] at hi;rw[Aq (by rw[hi.2];simp)] at hT;have hk:=jd s q.meas;refine C2.im (fun _=>hk) (fun _=>rfl) rF ?_;have hki:=zC0 (s:=s) (c:=q.meas) (k:=3) (by decide);simp only[tZ,↓uU,simprocAttr,tD,Bj,Aw];refine⟨fun h5=>?_,fun h5=>?_⟩
  ·rw[Aj (by grind)] at hT;rw[hT];exact .oA [] []
  rw[Aq (by grind)] at hT;refine C2.im (fun _=>JO q.event) (fun _=>rfl) rF ?_;simp only[tZ,↓uU,simprocAttr,tD,gt_iff_lt,Bx,Bz];refine⟨fun h6=>?_,fun h6=>?_⟩
  ·rw[Aj (by grind)] at hT;rw[hT];exact .oA [] []
  ·rw[Aq (by grind)] at hT;rw[hT];exact .oA [] []
def modE (s:Sch) (q:Qst):Int:=if isB s q.meas 3=false then 7 else if wG s q.meas q.terms≠0 then wG s q.meas q.terms else if 0<q.dims.length∨KU q.event cnd0=false then 11 else 0
theorem qo9 (s:Sch) (q:Qst):Sp 185 [schT s,qstT q] [] (vI (modE s q)) []:=by
 have hT:modE s q=if isB s q.meas 3=false then 7 else if wG s q.meas q.terms≠0 then wG s q.meas q.terms else if 0<q.dims.length∨KU q.event cnd0=false then 11 else 0:=rfl
 generalize modE s q=E at hT ⊢
 have hki:=zC0 (s:=s) (c:=q.meas) (k:=3) (by decide);refine sIr qi4 fun e _ hst=>?_;unfold wA;refine sW ?_;refine C1.im (jd s q.meas) rF rF ?_;simp only[tZ,↓uU,simprocAttr,tD,Bj,Aw];refine⟨fun h=>?_,fun h=>?_⟩
 ·rw[Aj (hki.2 h)] at hT;rw[hT];exact .oA [] []
 rw[Aq (fun k=>hki.1 k h)] at hT;refine⟨fun h2=>?_,fun h2=>?_⟩
 ·have:wG s q.meas q.terms=1:=by rw[wG,Aj oM]
  rw[this,Aj sMp] at hT;rw[hT];exact .oA [] []
 have hD:wG s q.meas q.terms=zW (qS9 s q.meas q.terms) q.terms.length:=by rw[wG,Aq oM]
 have hTD:wG s q.meas q.terms≠0→E=wG s q.meas q.terms:=fun h=>by rw[hT,Aj h]
 refine qt mixm (α:=Nat) [27] (fun i=>i≤q.terms.length∧(zW (qS9 s q.meas q.terms) i=0)) (fun i=>[(27,vI i)]) (fun i=>[aR 4096 2 [schT s],aR 4100 17 [qstT q]]) (fun i=>q.terms.length-i) 0 ⟨oM,?_⟩ ?_ fun i hi=>?_
 ·rfl
 ·exact .oA (U2 4096 4100) []
 simp only[tZ,↓uU,simprocAttr,AZ,Ay];refine⟨fun h=>?_,fun h=>?_⟩
 ·have hi2:i<q.terms.length:=by omega
  have hpi:q.terms.getD i 0=q.terms[i]:=qj hi2;have hstep:=wj hi.2 hi2;have hnext:=jp hi.2;have hA:qS9 s q.meas q.terms i=if isB s q.terms[i] 3=false then 7 else if q.terms[i]=q.meas∨(q.terms.take i).contains q.terms[i]=true then 10 else 0:=by rw[qS9,hpi]
  rw[← hD] at hstep;have hbad:qS9 s q.meas q.terms i≠0→E=qS9 s q.meas q.terms i:=fun h=>by rw[hTD (by rw[hstep h];exact h),hstep h]
  have hi2:i<q.terms.length:=by omega
  have hwi:=qh (i:=i) oM;simp only[tZ,↓uU,simprocAttr,Ax,qd hi2,hwi];refine⟨oM,?_⟩;refine C1.im (jd s q.terms[i]) rF rF ?_;have hki:=zC0 (s:=s) (c:=q.terms[i]) (k:=3) (by decide);simp only[tZ,↓uU,simprocAttr,Bj,Aw];refine⟨fun h4=>?_,fun h4=>?_⟩
  ·rw[Aj (hki.2 h4)] at hA;rw[hbad (by rw[hA];simp),hA];exact .oA [] []
  rw[Aq (fun h=>hki.1 h h4)] at hA;have hCF:=QU (q.terms.take i) q.terms[i] (by rw[Cz];omega);refine⟨fun _=>by omega,?_⟩;rw[qc1,qO6];refine C2.im (fun _=>hCF) (fun _=>rfl) rF ?_;simp only[tZ,↓uU,simprocAttr,hwi,tD,AY,Ak];refine⟨fun h5=>?_,fun h5=>?_⟩
  ·rw[Aj h5] at hA;rw[hbad (by rw[hA];simp),hA];exact .oA [] []
  ·rw[Aq (by grind)] at hA;refine⟨i+1,⟨oM,by rw[hnext,hA]⟩,oM,?_⟩;exact .oA (U2 4096 4100) []
 ·have hi2:i=q.terms.length:=by omega
  subst hi2;rw[← hD] at hi;rw[Aq (by rw[hi.2];simp)] at hT;refine C2.im (fun _=>JO q.event) (fun _=>rfl) rF ?_;simp only[tZ,↓uU,simprocAttr,tD,gt_iff_lt,Bx,Bz];refine⟨fun h6=>?_,fun h6=>?_⟩
  ·rw[Aj (by grind)] at hT;rw[hT];exact .oA [] []
  ·rw[Aq (by grind)] at hT;rw[hT];exact .oA [] []
def curE (s:Sch) (q:Qst):Int:=if isB s q.meas 3=false then 7 else if (qg s q.meas.toNat).low<0 then 2 else if chkC s q.event≠0 then chkC s q.event else if 0<q.dims.length∨0<q.terms.length then 11 else 0
theorem qp0 (s:Sch) (hs:ki s) (q:Qst):Sp 186 [schT s,qstT q] [] (vI (curE s q)) []:=by
 have hki:=zC0 (s:=s) (c:=q.meas) (k:=3) (by decide);refine sIr qi6 fun e _ hst=>?_;unfold wB;refine sW ?_;refine C1.im (jd s q.meas) rF rF ?_;simp only[tZ,↓uU,simprocAttr,tD,Bj,Aw];refine⟨fun h=>?_,fun h=>?_⟩
 ·rw[curE,Aj (hki.2 h)];exact .oA [] []
 rw[curE,Aq (fun k=>hki.1 k h)];obtain⟨b1,b2,b3⟩:=zu.1 ((jP7 (by decide)).2 h);have hil:q.meas.toNat<s.cols.length:=by omega
 rw[qg,qj hil];simp only[tZ,↓uU,simprocAttr,qd hil,tD];refine⟨oM,fun h4=>?_,fun h4=>?_⟩
 ·rw[Aj h4];exact .oA [] []
 rw[Aq h4];refine C1.im (wm s hs q.event) rF rF ?_;simp only[tZ,↓uU,simprocAttr,Bj,Aw];refine⟨fun h5=>?_,fun h5=>?_⟩
 ·rw[Aj h5];exact .oA [] []
 rw[Aq (by rw[h5];simp)];simp only[tZ,↓uU,simprocAttr,tD,gt_iff_lt];refine⟨fun h6=>?_,fun h6=>?_⟩
 ·rw[Aj oM];exact .oA [] []
 ·rw[Aq oM];exact .oA [] []
theorem Qj (s:Sch) (hs:ki s) (q:Qst):Sp 121 [schT s,qstT q] [] (vI (qstE s q)) []:=by
 refine sIr Ya fun e _ hst=>?_;unfold jY;refine sW ?_;refine C1.im (kr s hs.2.1 hs.1) rF rF ?_;simp only[tZ,↓uU,simprocAttr,Bj,Aw];refine⟨fun h=>?_,fun h=>?_⟩
 ·rw[qstE,Aj h];exact .oA [] []
 rw[qstE,Aq (by rw[h];simp)];refine C1.im (yj q.name) rF rF ?_;simp only[tZ,↓uU,simprocAttr,tD,Bx,Bz];refine⟨fun h2=>?_,fun h2=>?_⟩
 ·rw[Aj h2];exact .oA [] []
 rw[Aq (by rw[h2];simp)];refine⟨fun h3=>?_,fun h3=>?_⟩
 ·rw[Aj oM];exact .oA [] []
 rw[Aq oM];refine C1.im (wm s hs q.filt) rF rF ?_;simp only[tZ,↓uU,simprocAttr,Bj,Aw,AY,Ak];refine⟨fun h4=>?_,fun h4=>?_⟩
 ·rw[Aj h4];exact .oA [] []
 rw[Aq (by rw[h4];simp)];refine⟨fun h5=>?_,fun h5=>⟨fun h6=>?_,fun h6=>?_⟩⟩
 ·refine C1.im (qo8 s hs q) rF rF ?_;rw[show (if wv s q≠0 then wv s q else if (q.kind≠1∧0<q.dims.length)∨(q.kind≠2∧0<q.terms.length)∨(q.kind≠3∧KU q.event cnd0=false) then 11 else 0)=tabE s q by
   rw[wv,Aj h5,tabE]
   grind]
  refine sW ?_;exact .oA [] []
 ·refine C1.im (qo9 s q) rF rF ?_;rw[show (if wv s q≠0 then wv s q else if (q.kind≠1∧0<q.dims.length)∨(q.kind≠2∧0<q.terms.length)∨(q.kind≠3∧KU q.event cnd0=false) then 11 else 0)=modE s q by
   rw[wv,Aq h5,Aj h6,modE]
   grind]
  refine sW ?_;exact .oA [] []
 ·refine C1.im (qp0 s hs q) rF rF ?_;rw[show (if wv s q≠0 then wv s q else if (q.kind≠1∧0<q.dims.length)∨(q.kind≠2∧0<q.terms.length)∨(q.kind≠3∧KU q.event cnd0=false) then 11 else 0)=curE s q by
   rw[wv,Aq h5,Aq h6,curE]
   grind]
  refine sW ?_;exact .oA [] []
def usB (q:Qst) (k:Int):Bool:=decide (k>0)&&qB9 q k
theorem wN (q:Qst) (k:Int) (ht:q.terms.length<4611686018427387904):Sp 135 [qstT q,vI k] [] (vB (usB q k)) []:=by
 refine sIr qA0 fun e _ hst=>?_;unfold Qu;refine sW ?_;refine C2.im (fun _=>QU q.terms k ht) (fun _=>rfl) rF ?_;refine sW ?_;rw[show (decide (k>0)&&((q.meas==k)||q.terms.contains k))=usB q k from rfl];exact .oA [] []
def cnsL (q:Qst):List Cnd:=if q.kind=3 then [q.filt,q.event] else [q.filt]
theorem WA (q:Qst):Sp 137 [qstT q] [] (vCs (cnsL q)) []:=by
 refine sIr qs8 fun e _ hst=>?_;unfold yJ;simp only[tZ,↓uU,simprocAttr,AY,Ak];refine⟨fun h=>?_,fun h=>?_⟩
 ·rw[cnsL,Aj h];show yx [] _ _ (.sl 6 [cndT q.filt,cndT q.event]) [];rw[zh,zh];exact .oA [] [12304]
 ·rw[cnsL,Aq h];show yx [] _ _ (.sl 6 [cndT q.filt]) [];rw[zh];exact .oA [] [16392]
def canB (s:Sch) (c v:Int):Bool:=decide (1≤c)&&decide (c<s.cols.length)&&qT s c.toNat v
def jJ (s:Sch) (q:Qst) (k a b:Int):Bool:=(usB q k&&(a != b))||(q.dims.any fun d=>(d.col==k)&&(qk s k d.lev a != qk s k d.lev b))||((cnsL q).any fun c=>(atsC c).any fun x=>(x.col==k)&&(zg s x a != zg s x b))
def mxl:List Pk→Int→Int
 | [],_=>0
 | p::r,k=>if p.col=k then max p.lev (mxl r k) else mxl r k
theorem JP:∀ (l:List Pk) (k:Int),0≤mxl l k
 | [],_=>Int.le_refl _
 | p::r,k=>by
   have:=JP r k;rw[mxl];split <;> omega
theorem zo9:∀ (a b:List Pk) (k:Int),mxl (a++b) k=max (mxl a k) (mxl b k)
 | [],b,k=>by
   have:=JP b k;rw[Cy,mxl];omega
 | p::r,b,k=>by
   have:=zo9 r b k;rw[BW,mxl,mxl,this];split <;> omega
theorem jB5 (l:List Pk) (p:Pk) (k:Int):mxl (l++[p]) k=if p.col=k then max (mxl l k) p.lev else mxl l k:=by
 have:=JP l k;rw[zo9,mxl,mxl];split <;> omega
theorem Yz:∀ {l:List Pk} {k:Int},(∀ p∈l,p.col≠k)→mxl l k=0
 | [],_,_=>rfl
 | p::r,k,h=>by
   rw[mxl,Aq (h p sMp),Yz fun x hx=>h x (CQ _ hx)]
theorem qL0 {f:Nat→Int} (hf:∀ k,0≤f k):∀ {n:Nat} (k:Nat),mxl (canF f n) k=if k<n then f k else 0
 | 0,k=>by rw[Aq oM];rfl
 | n+1,k=>by
   have ih:=qL0 hf (n:=n) k;have hk:=hf k;have hn:=hf n;rw[canF,zo9,ih];by_cases e:n=k
   ·subst e;rw[Aq (show ¬ n<n by omega),Aj (show n<n+1 by omega)];split
    ·have:mxl [(⟨(n:Nat),f n⟩:Pk)] n=max (f n) 0:=by rw[mxl,Aj rfl];rfl
     rw[this];omega
    ·rw[mxl];omega
   ·have h0:mxl (if 0<f n then [(⟨n,f n⟩:Pk)] else []) k=0:=Yz fun p hp=>by
     split at hp
     ·rw[EZ.1 hp];dsimp only;omega
     ·simp at hp
    rw[h0];by_cases h:k<n
    ·rw[Aj h,Aj oM];omega
    ·rw[Aq h,Aq oM];omega
theorem qD0 {n:Nat}:∀ (l:List Pk) {f:Nat→Int},(∀ k,0≤f k)→(∀ p∈l,0≤p.col∧p.col<n)→yp (canF f n) l=canF (fun k=>max (f k) (mxl l k)) n
 | [],f,hf,_=>by
   show canF f n=_;exact Wz fun k _=>by have:=hf k;rw[mxl];omega
 | p::r,f,hf,h=>by
   obtain⟨h1,h2⟩:=h p sMp;obtain⟨c,hc⟩:=AJ h1;have e:yp (canF f n) (p::r)=yp (ZQ (canF f n) p.col p.lev) r:=rfl;rw[e,hc,zh2 hf oM,qD0 r (fun k=>by have:=hf k;unfold upd;split <;> omega) fun x hx=>h x (CQ _ hx)];refine Wz fun k _=>?_;have:=hf k;have h3:=JP r k;unfold upd;rw[mxl,hc];by_cases e:k=c
   ·subst e;rw[Aj rfl,Aj rfl];omega
   ·rw[Aq e,Aq oM]
theorem zY7 (n:Nat):canF (fun _=>0) n=[]:=qU5 fun _ _=>Int.le_refl _
theorem zC1 {n:Nat} {l:List Pk} (h:∀ p∈l,0≤p.col∧p.col<n):yp [] l=canF (fun k=>mxl l k) n:=by
 rw[← zY7 n,qD0 l (fun _=>Int.le_refl _) h];exact Wz fun k _=>by have:=JP l k;omega
theorem qx0 (a l m:List Pk):yp a (l++m)=yp (yp a l) m:=Gq
theorem zC2 {α:Type} (f:α→Pk) (m:List α):∀ l,yp l (m.map f)=m.foldl (fun l x=>ZQ l (f x).col (f x).lev) l:=by
 induction m with
 | nil=>intro l;rfl
 | cons x r ih=>intro l;exact ih _
def atP (s:Sch) (c:Cnd):List Pk:=(atsC c).map fun a=>⟨a.col,decN s a⟩
theorem zI6 {s:Sch} {c:Cnd} (h:chkC s c=0):ji s c=yp [] (atP s c):=by
 rw[ji,Aq (by rw[h];simp),atP,zC2]
theorem WB {s:Sch} {c:Cnd} (h:chkC s c=0):ji s c=canF (fun k=>mxl (atP s c) k) s.cols.length∧∀ p∈atP s c,1≤p.col∧p.col<s.cols.length:=by
 obtain⟨hE,k2,k3,k4⟩:=JI h;have hb:∀ p∈atP s c,1≤p.col∧p.col<s.cols.length:=fun p hp=>by
  obtain⟨a,ha,rfl⟩:=Cj.1 hp;obtain⟨hnd,hia⟩:=qk3 c k4 a ha;obtain⟨n1,n2,n3⟩:=Wx hE hnd hia;obtain⟨_,c1,c2,_⟩:=yc (s:=s) (c:=a.col) oM;exact⟨c1,c2⟩
 refine⟨?_,hb⟩;rw[zI6 h];exact zC1 fun p hp=>by have:=hb p hp;omega
theorem jB6 {s:Sch} {c:Cnd} (h:chkC s c=0):∀ p∈ji s c,1≤p.col∧p.col<s.cols.length:=fun p hp=>by
 obtain⟨h1,h2⟩:=WB h;rw[h1,wM] at hp;obtain⟨k,k1,k2,rfl⟩:=hp;refine⟨?_,by dsimp only;omega⟩;dsimp only;by_cases e:k=0
 ·subst e;rw[Yz fun q hq=>by have:=h2 q hq;omega] at k2;omega
 ·omega
theorem zC3 {s:Sch} {c:Cnd} (h:chkC s c=0) (k:Nat):mxl (ji s c) k=mxl (atP s c) k:=by
 obtain⟨h1,h2⟩:=WB h;rw[h1,qL0 fun k=>JP _ _];split
 ·rfl
 ·exact (Yz fun q hq=>by have:=h2 q hq;omega).symm
def dmP (s:Sch) (q:Qst):List Pk:=q.dims.map fun d=>⟨d.col,zR s d.col d.lev⟩
def usP (s:Sch) (q:Qst) (n:Nat):List Pk:=((List.range n).filter fun k:Nat=>usB q k).map fun k:Nat=>⟨k,zR s k (finI s k)⟩
theorem zp0 (s:Sch) (q:Qst) (n:Nat):usP s q (n+1)=usP s q n++if usB q n=true then [⟨n,zR s n (finI s n)⟩] else []:=by
 rw[usP,List.range_succ,Gz,By,← usP]
 congr 1
 by_cases h:usB q n=true
 ·rw[Aj h,List.filter_cons_of_pos (p:=fun k:Nat=>usB q k) h];rfl
 ·rw[Aq h,List.filter_cons_of_neg (p:=fun k:Nat=>usB q k) h];rfl
theorem zU0 (s:Sch) (q:Qst) (l:List Pk):∀ n:Nat,(List.range n).foldl (yX s q) l=yp l (usP s q (n+1))
 | 0=>by
   show l=_;have h0:usB q (0:Nat)=false:=by simp [usB]
   rw[zp0,h0,Aq sMp];rfl
 | n+1=>by
   rw[List.range_succ,Gq,zU0 s q l n,zp0 _ _ (n+1),qx0];show yX s q _ n=_;have h:usB q ((n+1:Nat):Int)=qB9 q ((n:Int)+1):=by
    unfold usB;rw[Cx oM,Fj];rfl
   rw[yX,h];split <;> rfl
def evP (s:Sch) (q:Qst):List Pk:=if q.kind=3 then ji s q.event else []
theorem zI7 {s:Sch} {q:Qst} (h:qstE s q=0):jU s q=yp (ji s q.filt) (evP s q++dmP s q++usP s q s.cols.length):=by
 have hq:=wE h;have hnc:=(qV hq.sch).nc;rw[jU,Aq (by rw[h];simp),jO6,zU0,show s.cols.length-1+1=s.cols.length by omega,qx0,qx0,dmP,zC2,evP]
 congr 2
 split <;> rfl
theorem YK (s:Sch) (hok:SchOk s) (q:Qst) (hd:q.dims.length≤3) (ht:q.terms.length≤3) (hc:∀ c∈cnsL q,chkC s c=0) (k a b:Int):Sp 141 [schT s,qstT q,vI k,vI a,vI b] [] (vB (jJ s q k a b)) []:=by
 have hs:=hok.sm;have hT:jJ s q k a b=((usB q k&&(a != b))||(q.dims.any fun d=>(d.col==k)&&(qk s k d.lev a != qk s k d.lev b))||((cnsL q).any fun c=>(atsC c).any fun x=>(x.col==k)&&(zg s x a != zg s x b))):=rfl;have hcl:(cnsL q).length≤2:=by unfold cnsL;split <;> simp
 rw[hT];refine sIr qA2 fun e _ hst=>?_;unfold Qv;refine sW ?_;refine C1.im (wN q k oM) rF rF ?_;refine sW ?_;generalize (usB q k&&(a != b))=U;refine⟨fun h=>?_,fun h=>?_⟩
 ·rw[h];exact .oA [] []
 rw[h,Bool.false_or];refine qt mixm (α:=Nat) [28] (fun i=>i≤q.dims.length∧((q.dims.take i).any fun d=>(d.col==k)&&(qk s k d.lev a != qk s k d.lev b))=false) (fun i=>[(28,vI i)]) (fun i=>[aR 4096 2 [schT s],aR 4100 17 [qstT q]]) (fun i=>q.dims.length-i) 0 ⟨oM,rfl⟩ ?_ fun i hi=>?_
 ·exact .oA (U2 4096 4100) []
 refine sD ?_;refine⟨fun h3=>?_,fun h3=>?_⟩
 ·have hi2:i<q.dims.length:=by omega
  have hwi:=qh (i:=i) oM;simp only[tZ,↓uU,simprocAttr,Ax,qd hi2];refine⟨oM,?_⟩;have hC:=fun v=>JN s hs k q.dims[i].lev v;refine C2.im (fun _=>hC a) (fun _=>rfl) rF ?_;refine sW ?_;refine C2.im (fun _=>hC b) (fun _=>rfl) rF ?_;simp only[tZ,↓uU,simprocAttr,hwi]
  repeat (first | refine⟨oM,?_⟩ | refine⟨kR,?_⟩)
  refine⟨fun h4=>?_,fun h4=>?_⟩
  ·rw[YG hi2 h4,Bool.true_or];exact .oA [] []
  ·refine⟨i+1,⟨oM,zS hi2 hi.2 h4⟩,oM,?_⟩;exact .oA (U2 4096 4100) []
 ·have hil:i=q.dims.length:=by omega
  subst hil;have hi2:=hi.2;rw[Bw] at hi2;rw[hi2,Bool.false_or];refine C1.im (WA q) rF rF ?_;generalize cnsL q=L at hc hcl ⊢
  refine sW ?_;refine qt mixm (α:=Nat) [55] (fun i=>i≤L.length∧((L.take i).any fun c=>(atsC c).any fun x=>(x.col==k)&&(zg s x a != zg s x b))=false) (fun i=>[(55,vI i)]) (fun i=>[aR 4096 2 [schT s]]) (fun i=>L.length-i) 0 ⟨oM,rfl⟩ ?_ fun i hi=>?_
  ·exact .oA (U1 4096) []
  refine sD ?_;refine⟨fun h4=>?_,fun h4=>?_⟩
  ·have hi2:i<L.length:=by omega
   have hwi:=qh (i:=i) oM;obtain⟨_,k2,_,k4⟩:=JI (hc _ (AX hi2));have hal:=kY L[i] 41 oM k2;have hao:=qk3 L[i] k4;have hhit:(((atsC L[i]).any fun x=>(x.col==k)&&(zg s x a != zg s x b))=true)→(L.any fun c=>(atsC c).any fun x=>(x.col==k)&&(zg s x a != zg s x b))=true:=fun h=>YG hi2 h;have hgo:(((atsC L[i]).any fun x=>(x.col==k)&&(zg s x a != zg s x b))=false)→((L.take (i+1)).any fun c=>(atsC c).any fun x=>(x.col==k)&&(zg s x a != zg s x b))=false:=fun h=>zS hi2 hi.2 h;simp only[tZ,↓uU,simprocAttr,Ax,qd hi2,zh];refine⟨oM,?_⟩;refine C1.im (wn L[i] 41 oM oM k2) rF rF ?_;generalize atsC L[i]=A at hal hao hhit hgo ⊢
   refine sW ?_;refine qt mixm (α:=Nat) [62] (fun j=>j≤A.length∧((A.take j).any fun x=>(x.col==k)&&(zg s x a != zg s x b))=false) (fun j=>[(62,vI j)]) (fun j=>[aR 4096 2 [schT s]]) (fun j=>A.length-j) 0 ⟨oM,rfl⟩ ?_ fun j hj=>?_
   ·exact .oA (U1 4096) []
   refine sD ?_;refine⟨fun h5=>?_,fun h5=>?_⟩
   ·have hj2:j<A.length:=by omega
    have hwj:=qh (i:=j) oM;obtain⟨hnd,ha⟩:=hao _ (AX hj2);have hAt:=YI s hok A[j] hnd ha;simp only[tZ,↓uU,simprocAttr,Ax,qd hj2,zh];refine⟨oM,?_⟩;refine C2.im (fun _=>hAt a) (fun _=>rfl) rF ?_;refine sW ?_;refine C2.im (fun _=>hAt b) (fun _=>rfl) rF ?_;simp only[tZ,↓uU,simprocAttr,hwj]
    repeat (first | refine⟨oM,?_⟩ | refine⟨kR,?_⟩)
    refine⟨fun h6=>?_,fun h6=>?_⟩
    ·rw[hhit (YG hj2 h6)];exact .oA [] []
    ·refine⟨j+1,⟨oM,zS hj2 hj.2 h6⟩,oM,?_⟩;exact .oA (U1 4096) []
   ·have hjl:j=A.length:=by omega
    subst hjl;have hj2:=hj.2;rw[Bw] at hj2;simp only[tZ,↓uU,simprocAttr,hwi];refine⟨i+1,⟨oM,hgo hj2⟩,oM,?_⟩;exact .oA (U1 4096) []
  ·have hil:i=L.length:=by omega
   subst hil;have hi2:=hi.2;rw[Bw] at hi2;rw[hi2];exact .oA [] []
def Qk (s:Sch) (q:Qst) (k a b:Int):Bool:=(qstE s q==0)&&canB s k a&&canB s k b&&jJ s q k a b
def mxc:List Pk→Int
 | []=>0
 | p::r=>max p.col (mxc r)
theorem jr0:∀ l:List Pk,0≤mxc l
 | []=>Int.le_refl _
 | p::r=>by have:=jr0 r;rw[mxc];omega
theorem zU1:∀ (l:List Pk) (p:Pk),mxc (l++[p])=max (mxc l) p.col
 | [],p=>by show max p.col 0=max 0 p.col;omega
 | q::r,p=>by rw[BW,mxc,mxc,zU1 r p];omega
theorem jK3 {n:Int} (hn:0≤n):∀ {l:List Pk},(∀ p∈l,p.col≤n)→mxc l≤n
 | [],_=>hn
 | p::r,h=>by
   have h1:=h p sMp;have h2:=jK3 hn (l:=r) fun q hq=>h q (CQ _ hq);rw[mxc];omega
theorem jK4:∀ {l:List Pk} {p:Pk},p∈l→p.col≤mxc l
 | q::r,p,h=>by
   rw[mxc];rcases Ck.1 h with e | h
   ·rw[e];omega
   ·have:=jK4 h;omega
theorem WC (ls:List (List Pk)) (n:Nat) (h1:1≤n) (h2:n≤1000) (hls:ls.length≤1000) (hl:∀ l∈ls,l.length≤1000) (hb:∀ l∈ls,∀ p∈l,0≤p.col∧p.col<n) :
 Sp 124 [.sl 1 (ls.map vPs)] [] (vPs (canF (fun k=>mxl ls.flatten k) n)) []:=by
 refine sIr qs6 fun e _ hst=>?_;unfold yH;refine sW ?_;refine qt mixm (α:=Nat×List (Int×Int)) [4,14] (fun y=>y.1≤ls.length∧∀ k,(TL.look TL.eqI k y.2).getD 0=mxl (ls.take y.1).flatten k) (fun y=>[(4,vI (mxc (ls.take y.1).flatten)),(14,vI y.1)]) (fun y=>[(8192,.mp (.ii y.2))]) (fun y=>ls.length-y.1) (0,[]) ⟨sMp,fun k=>rfl⟩ ?_ fun y hy=>?_
 ·exact .oA (U1 8192) []
 obtain⟨i,M⟩:=y;obtain⟨y1,y2⟩:=hy;dsimp only at y1 y2;refine sD ?_;refine⟨fun h=>?_,fun h=>?_⟩
 ·have hi:i<ls.length:=by omega
  have hwi:=qh (i:=i) oM;have hll:=hl _ (AX hi);have hbb:=hb _ (AX hi);have hfl:(ls.take (i+1)).flatten=(ls.take i).flatten++ls[i]:=by rw[qS hi,List.flatten_append];simp
  generalize (ls.take i).flatten=A at y2 hfl ⊢
  simp only[tZ,↓uU,simprocAttr,Ax,qd hi];refine⟨oM,?_⟩;generalize ls[i]=l at hll hbb hfl ⊢
  refine qt mixm (α:=Nat×List (Int×Int)) [4,20] (fun y=>y.1≤l.length∧∀ k,(TL.look TL.eqI k y.2).getD 0=mxl (A++l.take y.1) k) (fun y=>[(4,vI (mxc (A++l.take y.1))),(20,vI y.1)]) (fun y=>[(8192,.mp (.ii y.2))]) (fun y=>l.length-y.1) (0,M) ⟨sMp,fun k=>by rw[List.take_zero,CW];exact y2 k⟩ ?_ fun y hy=>?_
  ·refine .of (U1 8192) [] rfl (by first | rfl | (rw[hst];rfl)) ?_ ?_
   all_goals (try simp only[tL,simprocAttr,By,List.map_cons,List.map_nil,BW,Cy,List.take_zero,CW])
   all_goals (try (exact clA))
  obtain⟨j,N⟩:=y;obtain⟨z1,z2⟩:=hy;dsimp only at z1 z2;refine sD ?_;refine⟨fun h5=>?_,fun h5=>?_⟩
  ·have hj:j<l.length:=by omega
   have hwj:=qh (i:=j) oM;have hts:A++l.take (j+1)=A++l.take j++[l[j]]:=by rw[qS hj,Dj]
   have hnew:∀ k,(TL.look TL.eqI k (TL.asg TL.eqI l[j].col (max (mxl (A++l.take j) l[j].col) l[j].lev) N)).getD 0=mxl (A++l.take (j+1)) k:=fun k=>by
    rw[qw7,hts,jB5];by_cases e:k=l[j].col
    ·subst e;rw[Aj rfl,Aj rfl];rfl
    ·rw[Aq e,Aq (fun h=>e h.symm)];exact z2 k
   have hx:=zU1 (A++l.take j) l[j];rw[← hts] at hx;have hz:=z2 l[j].col;simp only[tZ,↓uU,simprocAttr,Ax,qd hj,hwj,zB7,hz,← hx];refine⟨oM,kR,?_⟩;refine⟨(j+1,_),⟨by dsimp only;omega,hnew⟩,by dsimp only;omega,?_⟩;exact .oA (U1 8192) []
  ·have hjl:j=l.length:=by omega
   subst hjl;rw[Bw,← hfl] at z2 ⊢
   simp only[tZ,↓uU,simprocAttr,hwi];refine⟨(i+1,N),⟨by dsimp only;omega,z2⟩,by dsimp only;omega,?_⟩;exact .oA (U1 8192) []
 ·have hil:i=ls.length:=by omega
  subst hil;rw[Bw] at y2 ⊢
  have hbf:∀ p∈ls.flatten,0≤p.col∧p.col<n:=fun p hp=>by
   obtain⟨l,hl,hpl⟩:=List.mem_flatten.1 hp;exact hb l hl p hpl
  have hml:=jK3 (n:=n-1) oM (l:=ls.flatten) fun p hp=>by have:=hbf p hp;omega
  have hmp:=jr0 ls.flatten;have hmore:canF (fun k=>mxl ls.flatten k) n=canF (fun k=>mxl ls.flatten k) ((mxc ls.flatten).toNat+1):=by
   rw[show n=(mxc ls.flatten).toNat+1+(n-((mxc ls.flatten).toNat+1)) by omega,zB9];intro k hk _;rw[Yz fun p hp=>by have:=jK4 hp;omega];exact Int.le_refl _
  rw[hmore];obtain⟨c,hc⟩:=AJ hmp;rw[hc,Ax];have hwc:=qh (i:=c) oM;rw[hwc];generalize ls.flatten=A at y2 ⊢
  refine qt mixm (α:=Nat) [9,42] (fun k=>k≤c+1) (fun k=>[(9,.asl 1 (canF (fun k=>mxl A k) k).length),(42,vI k)]) (fun k=>[(8192,.mp (.ii M)),aR 1 2 ((canF (fun k=>mxl A k) k).map pkT)]) (fun k=>c+1-k) 0 oM ?_ fun k hk=>?_
  ·exact .oA [uI 8192,(1,none)] []
  have hcl:=zo8 (fun k=>mxl A k) k;have hcs:canF (fun k=>mxl A k) (k+1)=canF (fun k=>mxl A k) k++(if 0<mxl A k then [⟨(k:Nat),mxl A k⟩] else []):=by rw[canF]
  have hz:=y2 k;refine sD ?_;refine⟨fun h5=>?_,fun h5=>?_⟩
  ·have hwk:=qh (i:=k) oM;simp only[tZ,↓uU,simprocAttr,hz,hwk,gt_iff_lt,tD];refine⟨fun h6=>?_,fun h6=>?_⟩
   ·rw[Aj h6] at hcs;refine⟨oM,k+1,oM,oM,?_⟩;rw[hcs,By,AW];exact .oA (U2 8192 1) []
   ·rw[Aq h6,CW] at hcs;refine⟨k+1,oM,oM,?_⟩;rw[hcs];exact .oA (U2 8192 1) []
  ·rw[show k=c+1 by omega];exact .oA [] [1]
theorem qf4 {s:Sch} {q:Qst} (hq:QstOk s q):∀ d∈q.dims,wD s d=0∧isB s d.col 2=true:=fun d hd=>by
 by_cases h1:q.kind=1
 ·have h2:=(hq.dims h1).1;unfold JF at h2;split at h2
  ·cases h2
  obtain⟨i,hi,rfl⟩:=CX hd;have h3:=Wu h2 i hi;have hp:pkAt q.dims i=q.dims[i]:=by rw[pkAt,qj hi]
  unfold dimE at h3;rw[hp] at h3;split at h3
  ·rename_i h4;exact absurd h3 h4
  rename_i h4;split at h3
  ·cases h3
  rename_i h5;exact⟨AQ h4,by simpa using h5⟩
 ·rw[hq.d0 h1] at hd;simp at hd
theorem qU6 {s:Sch} {q:Qst} (hq:QstOk s q):∀ c∈cnsL q,chkC s c=0:=fun c hc=>by
 unfold cnsL at hc;split at hc
 ·rename_i h;rcases Ck.1 hc with e | hc
  ·rw[e];exact hq.filt
  ·rw[EZ.1 hc];exact (hq.event h).2.2
 ·rw[EZ.1 hc];exact hq.filt
theorem zp1 {s:Sch} {q:Qst} {n:Nat} {p:Pk}:p∈usP s q n↔∃ k:Nat,k<n∧usB q k=true∧p=⟨k,zR s k (finI s k)⟩:=by
 unfold usP;simp only[Cj,Fx,Dk];constructor
 ·rintro ⟨k,⟨h1,h2⟩,rfl⟩;exact⟨k,h1,h2,rfl⟩
 ·rintro ⟨k,h1,h2,rfl⟩;exact⟨k,⟨h1,h2⟩,rfl⟩
theorem jP8 (s:Sch) (q:Qst) (n:Nat):(usP s q n).length≤n:=by
 unfold usP;rw[BY];have:=Fq (fun k:Nat=>usB q k) (List.range n);rw[List.length_range] at this;exact this
def wI (s:Sch) (q:Qst):List Pk:=dmP s q++usP s q s.cols.length++(cnsL q).flatMap (ji s)
theorem zp2 {s:Sch} {q:Qst} (hq:QstOk s q):∀ p∈wI s q,1≤p.col∧p.col<s.cols.length:=fun p hp=>by
 unfold wI at hp;rcases Dz.1 hp with hp | hp
 ·rcases Dz.1 hp with hp | hp
  ·obtain⟨d,hd,rfl⟩:=Cj.1 hp;obtain⟨_,h1,h2,_⟩:=qK8 (qf4 hq d hd).1;exact⟨h1,h2⟩
  ·obtain⟨k,h1,h2,rfl⟩:=zp1.1 hp;unfold usB at h2;rw[Bq,AZ] at h2;exact⟨by dsimp only;omega,by dsimp only;omega⟩
 ·obtain⟨c,hc,hp⟩:=Ew.1 hp;exact jB6 (qU6 hq c hc) p hp
theorem WD {s:Sch} {q:Qst} (h:qstE s q=0):jU s q=canF (fun k=>mxl (wI s q) k) s.cols.length:=by
 have hq:=wE h;have hb:=zp2 hq;obtain⟨n1,n2⟩:=WB hq.filt;rw[zI7 h,n1,qD0 _ (fun k=>JP _ _) fun p hp=>?_]
 ·refine Wz fun k _=>?_;rw[← zC3 hq.filt k];have e:(cnsL q).flatMap (ji s)=ji s q.filt++evP s q:=by
   unfold cnsL evP;split <;> simp
  rw[wI,e];simp only[zo9];omega
 ·have:p∈wI s q:=by
   unfold wI;have e:(cnsL q).flatMap (ji s)=ji s q.filt++evP s q:=by
    unfold cnsL evP;split <;> simp
   rw[e];simp only[Dz] at hp ⊢
   rcases hp with (h | h) | h
   ·exact .inr (.inr h)
   ·exact .inl (.inl h)
   ·exact .inl (.inr h)
  have:=hb p this;omega
theorem WE (s:Sch) (hs:ki s) (q:Qst):Sp 73 [schT s,qstT q] [] (vPs (jU s q)) []:=by
 refine Qo [15] qs0 mixm sMp fun e _ hst=>qy8 ?_;unfold yE;simp only[Wf,List.contains_cons,List.contains_nil,Nat.reduceBEq,Bool.or_false,Bool.or_true,Bool.true_or,Bool.false_or,cond_true,cond_false];refine sW ?_;refine C1.im (Qj s hs q) rF rF ?_;simp only[tZ,↓uU,simprocAttr,Bj,Aw];refine⟨fun h=>?_,fun h=>?_⟩
 ·rw[jU,Aj h];exact .oA [] []
 have hq:=wE h;have hok:=qV hq.sch;have hnc:=hok.nc;have hnd:=hq.nd;have hnt:=hq.nt;have hck:=qU6 hq;have hcl:(cnsL q).length≤2:=by unfold cnsL;split <;> simp
 have hdl:(dmP s q).length=q.dims.length:=BY _;have hbd:=zp2 hq;refine qt mixm (α:=Nat) [5,19] (fun i=>i≤q.dims.length) (fun i=>[(5,.asl 1 ((dmP s q).take i).length),(19,vI i)]) (fun i=>[aR 4096 2 [schT s],aR 4100 17 [qstT q],aR 1 2 (((dmP s q).take i).map pkT)]) (fun i=>q.dims.length-i) 0 oM ?_ fun i hi=>?_
 ·exact .oA [uI 4096,uI 4100,(1,none)] []
 refine sD ?_;refine⟨fun h3=>?_,fun h3=>?_⟩
 ·have hi2:i<q.dims.length:=by omega
  have hwi:=qh (i:=i) oM;have hts:(dmP s q).take (i+1)=(dmP s q).take i++[⟨q.dims[i].col,zR s q.dims[i].col q.dims[i].lev⟩]:=by
   rw[qS oM];simp only[dmP,Fk]
  have hLe:=qk6 s hs q.dims[i].col q.dims[i].lev;have htl:((dmP s q).take i).length≤3:=by rw[Cz];omega
  simp only[tZ,↓uU,simprocAttr,Ax,qd hi2];refine⟨oM,?_⟩;refine C1.im hLe rF rF ?_;simp only[tZ,↓uU,simprocAttr,hwi];refine⟨oM,kR,i+1,oM,oM,?_⟩;rw[hts,By,AW];exact .oA (U3 4096 4100 1) []
 ·have hil:i=q.dims.length:=by omega
  subst hil;rw[← hdl,Bw];refine qt mixm (α:=Nat) [5,39] (fun i=>i≤s.cols.length) (fun i=>[(5,.asl 1 (dmP s q++usP s q i).length),(39,vI i)]) (fun i=>[aR 4096 2 [schT s],aR 4100 17 [qstT q],aR 1 2 ((dmP s q++usP s q i).map pkT)]) (fun i=>s.cols.length-i) 0 oM ?_ fun i hi=>?_
  ·rw[show usP s q 0=[] from rfl,CW];exact .oA (U3 4096 4100 1) []
  have hul:=jP8 s q i;have hus:=zp0 s q i;have hoL:(dmP s q++usP s q i).length≤1000000:=by rw[AW];omega
  refine sD ?_;refine⟨fun h3=>?_,fun h3=>?_⟩
  ·have hi2:i<s.cols.length:=by omega
   have hwi:=qh (i:=i) oM;refine C1.im (wN q i oM) rF rF ?_;refine sW ?_;refine⟨fun h4=>?_,fun h4=>?_⟩
   ·rw[Aj h4] at hus;refine C1.im (Qa s hs i) rF rF ?_;refine sW ?_;refine C1.im (qk6 s hs i (finI s i)) rF rF ?_;simp only[tZ,↓uU,simprocAttr,hwi];refine⟨oM,kR,i+1,oM,oM,?_⟩;rw[hus,← Dj,By,AW (bs:=[_])];exact .oA (U3 4096 4100 1) []
   ·rw[Aq (by rw[h4];simp),CW] at hus;simp only[tZ,↓uU,simprocAttr,hwi];refine⟨i+1,oM,oM,?_⟩;rw[hus];exact .oA (U3 4096 4100 1) []
  ·have hil:i=s.cols.length:=by omega
   subst hil;rw[WD h];unfold wI at hbd ⊢
   have hll:(dmP s q++usP s q s.cols.length).length=(dmP s q).length+(usP s q s.cols.length).length:=AW;generalize dmP s q++usP s q s.cols.length=own at hoL hbd hll ⊢
   refine W_le [(2,.ptr 4096 1 0 0),(3,.ptr 4100 1 0 0),(5,vPs own)] [aR 4096 2 [schT s],aR 4100 17 [qstT q]] ?_ ?_
   ·exact .oA (U2 4096 4100) [1]
   refine sW ?_;refine C1.im (WA q) rF rF ?_;generalize cnsL q=L at hck hcl hbd ⊢
   refine sW ?_;refine qt mixm (α:=Nat) [9,62] (fun i=>i≤L.length) (fun i=>[(9,.asl 65540 (i+1)),(62,vI i)]) (fun i=>[aR 4096 2 [schT s],aR 65540 1 (vPs own::(L.take i).map fun c=>vPs (ji s c))]) (fun i=>L.length-i) 0 oM ?_ fun i hi=>?_
   ·exact .oA (U2 4096 65540) []
   have htl:(L.take i).length=i:=by rw[Cz];omega
   refine sD ?_;refine⟨fun h3=>?_,fun h3=>?_⟩
   ·have hi2:i<L.length:=by omega
    have hwi:=qh (i:=i) oM;have hN:=qC9 s hs L[i];simp only[tZ,↓uU,simprocAttr,Ax,qd hi2,zh];refine⟨oM,?_⟩;refine C1.im hN rF rF ?_;simp only[tZ,↓uU,simprocAttr,hwi];refine⟨oM,i+1,oM,oM,?_⟩;rw[qS hi2,By];exact .oA (U2 4096 65540) []
   ·have hil:i=L.length:=by omega
    subst hil;rw[Bw];have hfl:(own::L.map (ji s)).flatten=own++L.flatMap (ji s):=by rw[List.flatten_cons,List.flatMap_def]
    have hbb:∀ l∈own::L.map (ji s),∀ p∈l,0≤p.col∧p.col<s.cols.length:=fun l hl p hp=>by
     have:=hbd p (by rw[← hfl];exact List.mem_flatten.2 ⟨l,hl,hp⟩);omega
    have hbl:∀ l∈own::L.map (ji s),l.length≤1000:=fun l hl=>by
     rcases Ck.1 hl with e | hl
     ·rw[e];omega
     ·obtain⟨c,_,rfl⟩:=Cj.1 hl;have:=qe8 s c;omega
    have hM:=WC (own::L.map (ji s)) s.cols.length oM oM (by rw[CJ,BY];omega) hbl hbb;rw[hfl,List.map_cons,Gx] at hM;refine C1.shut [65540] hM ?_ rF rfl ?_
    ·all_goals (try exact clA)
    refine sW ?_;exact .oA [] []
theorem zC4 {s:Sch} {l:List Pk} (hE:schE s=0) (h1:∀ p∈l,wD s p=0) (h2:l.Pairwise fun a b=>a.col<b.col):yW s l=0:=by
 rw[yW,Aq (by rw[hE];simp)];refine Wv fun i hi=>?_;have hp:pkAt l i=l[i]:=by rw[pkAt,qj hi]
 rw[qu7,hp,Aq (by rw[h1 _ (AX hi)];simp),Aq];rintro ⟨h3,h4⟩;rw[pkAt,qj oM] at h4;have:=DX.1 h2 (i-1) i oM hi oM;omega
theorem qx1 (s:Sch) (hd:DrS s) (l:List UInt8) (a:Nat) (hl:l.length≤400) (ha:a≤l.length) :
 ∃ r:List Pk×Nat,((yW s r.1=0∧r.1.length≤8)∧r.2≤l.length)∧Sp 13 [.ptr 0 1 0 0,schT s] [(0,oC l a)] (vPs r.1) [(0,oC l r.2)]:=by
 have hE:=hd.ok;have hok:=qV hE;have hnc:=hok.nc;refine jB ql8 mixm (fun r:List Pk×Nat=>vPs r.1) (fun r=>[(0,oC l r.2)]) sMp ?_;unfold wP;refine sW ?_;refine XE.loopF mixm [5,6] (fun y:Nat×List Pk×Nat=>1≤y.1∧y.1≤s.cols.length∧y.2.1.length<y.1∧(∀ p∈y.2.1,wD s p=0∧p.col<y.1)∧y.2.1.Pairwise (fun a b=>a.col<b.col)∧y.2.2≤l.length) (fun y=>[(5,.asl 1 y.2.1.length),(6,vI y.1)]) (fun y=>[(0,oC l y.2.2),aR 4096 2 [schT s],aR 1 2 (y.2.1.map pkT)]) (fun y=>s.cols.length-y.1) (1,[],a) ⟨sMp,by dsimp only;omega,sMp,sMp,List.Pairwise.nil,ha⟩ (fun e ⟨_,hst⟩=>?_) fun T' y hy ih=>?_
 ·exact .oA [uI 0,uI 4096,(1,none)] []
 obtain⟨i,ps,a1⟩:=y;obtain⟨y1,y2,y3,y4,y5,y6⟩:=hy;dsimp only at y1 y2 y3 y4 y5 y6;simp only[tZ,↓uU,simprocAttr,AZ,Ay];refine XE.brN (fun h4=>?_) (fun h4=>?_)
 ·have hi2:i<s.cols.length:=by omega
  have hwi:=qh (i:=i) oM;obtain⟨v,a2,v1,v2,ha2,sN⟩:=yZ l a1 4 hl y6 oM;refine XE.mp (fun _ _=>C1.draw 0 l a1 _ sN rfl rfl rfl) ?_;simp only[tZ,↓uU,simprocAttr,gt_iff_lt,AZ,Ay];refine XE.brN (fun h5=>?_) (fun h5=>?_)
  ·have hkk:=zj (hok.cs i hi2);obtain⟨f1,f2⟩:0≤finI s i∧finI s i≤59:=by
    have h23:=hkk.2.2.1 y1;refine (zI1 hE (v:=i) ?_).2.2;rcases (show (qg s i).kind=2∨(qg s i).kind=3 by omega) with h | h
    ·exact .inl (zu.2 ⟨oM,oM,by rw[Ax];exact h⟩)
    ·exact .inr (zu.2 ⟨oM,oM,by rw[Ax];exact h⟩)
   have hFin:=ko s hok.sm i;obtain⟨w,a3,w1,w2,ha3,sQ⟩:=yZ l a2 (finI s i+1) hl ha2 oM;have hwf:IntKind.i64.wrap (finI s i+1)=finI s i+1:=AK _ oM;refine XE.mp (fun _ _=>C1.im hFin rF rF) ?_;simp only[tZ,↓uU,simprocAttr,hwf];refine XE.mp (fun _ _=>C1.draw 0 l a2 _ sQ rfl rfl rfl) ?_;simp only[tZ,↓uU,simprocAttr,hwi];refine XE.sd oM ?_;refine XE.next ih (i+1,ps++[⟨i,w⟩],a3) ⟨by dsimp only;omega,by dsimp only;omega,by rw[AW];simp;omega,fun p hp=>?_,?_,ha3⟩ (by dsimp only;omega) fun e ⟨_,hst⟩=>?_
   ·dsimp only at hp ⊢
    rcases Dz.1 hp with hp | hp
    ·have:=y4 p hp;exact⟨this.1,oM⟩
    ·rw[EZ.1 hp];refine⟨?_,by dsimp only;omega⟩;rw[wD,Aq (by rw[hE];simp),Aq (by dsimp only;omega),Aq];rw[Ez,yi];dsimp only;omega
   ·dsimp only;rw[List.pairwise_append];refine⟨y5,sMp,fun p hp q hq=>?_⟩;rw[EZ.1 hq];exact (y4 p hp).2
   ·exact .oA (U3 0 4096 1) []
  ·simp only[tZ,↓uU,simprocAttr,hwi];refine XE.next ih (i+1,ps,a2) ⟨by dsimp only;omega,by dsimp only;omega,by dsimp only;omega,fun p hp=>?_,y5,ha2⟩ (by dsimp only;omega) fun e ⟨_,hst⟩=>?_
   ·have:=y4 p hp;exact⟨this.1,by dsimp only;omega⟩
   ·exact .oA (U3 0 4096 1) []
 ·refine XE.fin (ps,a1) ⟨⟨zC4 hE (fun p hp=>(y4 p hp).1) y5,by dsimp only;omega⟩,y6⟩ fun e ⟨_,hst⟩=>?_;exact .oA (U1 0) [1]
theorem DrS.meas3 {s:Sch} (h:DrS s):(KX s 3).length≤3:=by
 obtain⟨ms,hc,h1,h3⟩:=h.cs;have key:∀ n,(Yu s 3 n).length≤n-2:=by
  have e0:(qg s 0).kind=1:=by rcases hc with⟨hc,_⟩ | ⟨hc,_⟩ <;> (rw[qg,hc];rfl)
  have e1:(qg s 1).kind=2:=by rcases hc with⟨hc,_⟩ | ⟨hc,_⟩ <;> (rw[qg,hc];rfl)
  intro n
  induction n with
  | zero=>simp [Yu]
  | succ n ih=>
    rw[kp,AW];by_cases k0:n=0
    ·subst k0;rw[e0,Aq (by decide),Cw];omega
    ·by_cases k1:n=1
     ·subst k1;rw[e1,Aq (by decide),Cw];omega
     ·split <;> simp <;> omega
 rcases hc with⟨hc,hm⟩ | ⟨hc,hm⟩
 ·have:=key s.cols.length;have hl:s.cols.length=ms.length+2:=by rw[hc];rfl
  unfold KX;omega
 ·have e2:(qg s 2).kind=2:=by rw[qg,hc];rfl
  have k2:∀ n,3≤n→(Yu s 3 n).length≤n-3:=by
   intro n hn
   induction n with
   | zero=>omega
   | succ n ih=>
     by_cases k:n=2
     ·subst k;rw[kp,e2,Aq (by decide),CW];have:=key 2;omega
     ·rw[kp,AW];have:=ih oM;split <;> simp <;> omega
  have hl:s.cols.length=ms.length+3:=by rw[hc];rfl
  have:=k2 s.cols.length oM;unfold KX;omega
theorem jB7 {s:Sch} {m:Int} {ts:List Int} (h1:1≤ts.length) (h2:ts.length≤3) (h3:∀ v∈ts,isB s v 3=true∧v≠m) (h4:ts.Nodup):wG s m ts=0:=by
 rw[wG,Aq oM];refine Wv fun i hi=>?_;have hpi:ts.getD i 0=ts[i]:=qj hi;obtain⟨a,b⟩:=h3 _ (AX hi);rw[qS9,hpi,Aq (by rw[a];simp),Aq];rintro (k | k)
 ·exact b k
 ·obtain⟨j,hj,e⟩:=List.mem_take_iff_getElem.1 (FJ.1 k);exact DX.1 h4 j i oM hi oM e
theorem qx2 (s:Sch) (hd:DrS s) (m:Int) (l:List UInt8) (a:Nat) (hl:l.length≤400) (ha:a≤l.length) :
 ∃ r:List Int×Nat,((r.1.length≤3∧(0<r.1.length→wG s m r.1=0))∧r.2≤l.length)∧Sp 119 [.ptr 0 1 0 0,schT s,vI m] [(0,oC l a)] (vIs r.1) [(0,oC l r.2)]:=by
 have hE:=hd.ok;have hnc:=(qV hE).nc;have hc:=QN s 3 oM;have hm:=fun v=>(JJ (s:=s) (kind:=3) (v:=v)).1;have hnd:=qU1 s 3;have hc3:=hd.meas3;generalize KX s 3=L at hc hm hnd hc3;refine jB qn0 mixm (fun r:List Int×Nat=>vIs r.1) (fun r=>[(0,oC l r.2)]) sMp ?_;unfold wU;refine sW ?_;refine XE.mp (fun _ _=>C1.im hc rF rF) ?_;refine sW ?_;refine XE.loopF mixm [7,14] (fun y:Nat×List Int×Nat=>y.1≤L.length∧y.2.1.Sublist (L.take y.1)∧(∀ v∈y.2.1,v≠m)∧y.2.2≤l.length) (fun y=>[(7,.asl 1 y.2.1.length),(14,vI y.1)]) (fun y=>[(0,oC l y.2.2),aR 4096 2 [schT s],aR 1 1 (y.2.1.map vI)]) (fun y=>L.length-y.1) (0,[],a) ⟨sMp,sMp,sMp,ha⟩ (fun e ⟨_,hst⟩=>?_) fun T' y hy ih=>?_
 ·exact .oA [uI 0,uI 4096,(1,none)] []
 obtain⟨i,ts,a1⟩:=y;obtain⟨y1,y2,y3,y4⟩:=hy;dsimp only at y1 y2 y3 y4;have hsl:=y2.length_le;rw[Cz] at hsl;simp only[tZ,↓uU,simprocAttr,AZ,Ay];refine XE.brN (fun h4=>?_) (fun h4=>?_)
 ·have hi2:i<L.length:=by omega
  have hwi:=qh (i:=i) oM;have htk:=qS hi2;have hsub:ts.Sublist (L.take (i+1)):=by rw[htk];exact y2.trans (List.sublist_append_left _ _)
  have hsub2:(ts++[L[i]]).Sublist (L.take (i+1)):=by rw[htk];exact y2.append (List.Sublist.refl _)
  have hgi:(L.map vI).getD i .junk=vI L[i]:=qd hi2;obtain⟨o,a2,ha2,sO⟩:=jA3 l a1 2 hl y4 oM;generalize L[i]=v at hgi hsub2;simp only[tZ,↓uU,simprocAttr,Ax,hgi];refine XE.sd oM ?_;by_cases hv:v=m
  ·have q:(v != m)=false:=Aw.2 hv;simp only[tZ,↓uU,simprocAttr,q];refine XE.mp (fun _ _=>C2.no sMp) ?_;simp only[tZ,↓uU,simprocAttr,hwi];refine XE.next ih (i+1,ts,a1) ⟨by dsimp only;omega,hsub,y3,y4⟩ (by dsimp only;omega) fun e ⟨_,hst⟩=>?_;exact .oA (U3 0 4096 1) []
  ·have q:(v != m)=true:=Bj.2 hv;have hin:∀ u∈ts++[v],u≠m:=fun u hu=>by
    rcases Dz.1 hu with h | h
    ·exact y3 u h
    ·rw[EZ.1 h];exact hv
   by_cases hts:ts.length=0
   ·have q2:((ts.length:Int)==0)=true:=AY.2 oM;simp only[tZ,↓uU,simprocAttr,q,q2];refine XE.mp (fun _ _=>C2.no sMp) ?_;simp only[tZ,↓uU,simprocAttr,Ax,hgi,hwi];refine XE.sd oM (XE.sd oM ?_);refine XE.next ih (i+1,ts++[v],a1) ⟨by dsimp only;omega,hsub2,hin,y4⟩ (by dsimp only;omega) fun e ⟨_,hst⟩=>?_;exact .oA (U3 0 4096 1) []
   ·have q2:((ts.length:Int)==0)=false:=Ak.2 oM;simp only[tZ,↓uU,simprocAttr,q,q2];refine XE.mp (fun _ _=>C2.one (by trivial)) ?_;refine XE.mp (fun _ _=>C1.draw 0 l a1 _ sO rfl rfl rfl) ?_;simp only[tZ,↓uU,simprocAttr,Ax,hgi,hwi];refine XE.brB (fun h5=>?_) (fun h5=>?_)
    ·refine XE.sd oM (XE.sd oM ?_);refine XE.next ih (i+1,ts++[v],a2) ⟨by dsimp only;omega,hsub2,hin,ha2⟩ (by dsimp only;omega) fun e ⟨_,hst⟩=>?_;exact .oA (U3 0 4096 1) []
    ·refine XE.next ih (i+1,ts,a2) ⟨by dsimp only;omega,hsub,y3,ha2⟩ (by dsimp only;omega) fun e ⟨_,hst⟩=>?_;exact .oA (U3 0 4096 1) []
 ·have hil:i=L.length:=by omega
  rw[hil,Bw] at y2;refine XE.fin (ts,a1) ⟨⟨by dsimp only;omega,fun h=>jB7 h (by dsimp only;omega) (fun v hv=>⟨hm v (y2.subset hv),y3 v hv⟩) (hnd.sublist y2)⟩,y4⟩ fun e ⟨_,hst⟩=>?_;exact .oA (U1 0) [1]
theorem jV8:KU cnd0 cnd0=true:=by decide +kernel
theorem qL1 {s:Sch} {nm:ByteArray} {c:Cnd} {ds:List Pk} {m:Int} (hE:schE s=0) (h1:jE nm=true) (h2:chkC s c=0) (h3:JF s ds=0) (h4:m = -1∨isB s m 3=true):qstE s ⟨nm,1,c,ds,m,[],cnd0⟩=0:=by
 have hp:wv s ⟨nm,1,c,ds,m,[],cnd0⟩=0:=by
  rw[wv,Aj rfl,Aq (by rw[h3];simp),Aq];rintro ⟨a,b⟩;rcases h4 with h | h
  ·exact a h
  ·rw[h] at b;cases b
 rw[qstE,Aq (by rw[hE];simp),Aq (by rw[h1];simp),Aq sMp,Aq (by rw[h2];simp),Aq (by rw[hp];simp),Aq (by rw[jV8];simp)]
theorem jB8 {s:Sch} {nm:ByteArray} {c:Cnd} {ts:List Int} {m:Int} (hE:schE s=0) (h1:jE nm=true) (h2:chkC s c=0) (h3:wG s m ts=0) (h4:isB s m 3=true):qstE s ⟨nm,2,c,[],m,ts,cnd0⟩=0:=by
 have hp:wv s ⟨nm,2,c,[],m,ts,cnd0⟩=0:=by
  rw[wv,Aq sMp,Aj rfl,Aq (by rw[h4];simp)];exact h3
 rw[qstE,Aq (by rw[hE];simp),Aq (by rw[h1];simp),Aq sMp,Aq (by rw[h2];simp),Aq (by rw[hp];simp),Aq (by rw[jV8];simp)]
theorem jB9 {s:Sch} {nm:ByteArray} {c d:Cnd} {m:Int} (hE:schE s=0) (h1:jE nm=true) (h2:chkC s c=0) (h3:chkC s d=0) (h4:isB s m 3=true) (h5:0≤(qg s m.toNat).low):qstE s ⟨nm,3,c,[],m,[],d⟩=0:=by
 have hp:wv s ⟨nm,3,c,[],m,[],d⟩=0:=by
  rw[wv,Aq sMp,Aq sMp,Aq (by rw[h4];simp),Aq (by dsimp only;omega)];exact h3
 rw[qstE,Aq (by rw[hE];simp),Aq (by rw[h1];simp),Aq sMp,Aq (by rw[h2];simp),Aq (by rw[hp];simp),Aq sMp]
theorem CndOk.mono {s:Sch} {n m:Nat} {c:Cnd} (h:CndOk s n c) (hn:n≤m):CndOk s m c:=by
 have h1:=h.dep;have h2:=h.siz;have h3:2 ^ (n+1)≤2 ^ (m+1):=Nat.pow_le_pow_right oM oM;exact⟨h.ok,oM,oM⟩
theorem qa8 (s:Sch) (hd:DrS s) (nm:ByteArray) (hnm:jE nm=true) (l:List UInt8) (a:Nat) (hl:l.length≤400) (ha:a≤l.length) :
 ∃ r:Qst×Nat,((qstE s r.1=0∧r.1.name=nm∧CndOk s 2 r.1.filt)∧r.2≤l.length)∧Sp 58 [.ptr 0 1 0 0,schT s,vS nm] [(0,oC l a)] (qstT r.1) [(0,oC l r.2)]:=by
 have hE:=hd.ok;have hok:=qV hE;have hnc:=hok.nc;have hat:∀ i (h:i<s.cols.length),qg s i=s.cols[i]:=fun i h=>by rw[qg,qj h]
 obtain⟨j,a1,j1,j2,ha1,sN⟩:=yZ l a 3 hl ha oM;obtain⟨D,rfl⟩:=AJ j1;obtain⟨⟨c,a2⟩,⟨hc,ha2⟩,sC⟩:=QH s hd l hl D a1 ha1 oM;dsimp only at hc ha2 sC;have hcf:=hc.chk hE oM;have hcm:=hc.mono (m:=2) oM;obtain⟨v,a3,hv,ha3,sV⟩:=QG s hd l a2 hl ha2;obtain⟨_,v2,v3⟩:=zu.1 hv;rw[Ax] at v3;have hil:v<s.cols.length:=by omega
 obtain⟨w,a4,w1,w2,ha4,sK⟩:=yZ l a3 4 hl ha3 oM;refine jB YR mixm (fun r:Qst×Nat=>qstT r.1) (fun r=>[(0,oC l r.2)]) sMp ?_;unfold ky;refine sW ?_;refine XE.mp (fun _ _=>C1.draw 0 l a _ sN rfl rfl rfl) ?_;refine sW ?_;refine XE.mp (fun _ _=>C1.draw 0 l a1 _ sC rfl rfl rfl) ?_;refine sW ?_;refine XE.sd kR ?_;refine XE.mp (fun _ _=>C1.draw 0 l a2 _ sV rfl rfl rfl) ?_;refine sW ?_;refine XE.mp (fun _ _=>C1.draw 0 l a3 _ sK rfl rfl rfl) ?_;simp only[tZ,↓uU,simprocAttr,AY,Ak];refine XE.brN (fun h1=>?_) (fun h1=>XE.brN (fun h2=>?_) (fun h2=>XE.brN (fun h3=>?_) (fun h3=>?_)))
 ·obtain⟨⟨ds,b2⟩,⟨hds,hb2⟩,sQ⟩:=wl s hd l a4 hl ha4;dsimp only at hds hb2 sQ;refine XE.mp (fun _ _=>C1.draw 0 l a4 _ sQ rfl rfl rfl) ?_;refine sW ?_;refine XE.fin (⟨nm,1,c,ds,v,[],cnd0⟩,b2) ⟨⟨qL1 hE hnm hcf hds (.inr hv),rfl,hcm⟩,hb2⟩ fun e ⟨_,hst⟩=>?_;exact .oA (U1 0) []
 ·obtain⟨⟨ts,a5⟩,⟨⟨ht1,ht2⟩,ha5⟩,sT⟩:=qx2 s hd v l a4 hl ha4;dsimp only at ht1 ht2 ha5 sT;refine XE.mp (fun _ _=>C1.draw 0 l a4 _ sT rfl rfl rfl) ?_;simp only[tZ,↓uU,simprocAttr,AZ,Ay];refine XE.brN (fun h3=>?_) (fun h3=>?_)
  ·refine XE.fin (⟨nm,2,c,[],v,ts,cnd0⟩,a5) ⟨⟨jB8 hE hnm hcf (ht2 oM) hv,rfl,hcm⟩,ha5⟩ fun e ⟨_,hst⟩=>?_;exact .oA (U1 0) []
  ·obtain⟨⟨ds,b2⟩,⟨hds,hb2⟩,sQ⟩:=wl s hd l a5 hl ha5;dsimp only at hds hb2 sQ;refine XE.mp (fun _ _=>C1.draw 0 l a5 _ sQ rfl rfl rfl) ?_;refine sW ?_;refine XE.fin (⟨nm,1,c,ds,-1,[],cnd0⟩,b2) ⟨⟨qL1 hE hnm hcf hds (.inl rfl),rfl,hcm⟩,hb2⟩ fun e ⟨_,hst⟩=>?_;exact .oA (U1 0) []
 ·simp only[tZ,↓uU,simprocAttr,Ax,qd hil,AZ,Ay];refine XE.sd oM ?_;refine XE.brN (fun h4=>?_) (fun h4=>?_)
  ·obtain⟨⟨d,a5⟩,⟨hdc,ha5⟩,sE⟩:=QH s hd l hl 1 a4 ha4 oM;dsimp only at hdc ha5 sE;refine XE.mp (fun _ _=>C1.draw 0 l a4 _ sE rfl rfl rfl) ?_;refine sW ?_;refine XE.fin (⟨nm,3,c,[],v,[],d⟩,a5) ⟨⟨jB9 hE hnm hcf (hdc.chk hE oM) hv (by rw[Ax,hat v hil];omega),rfl,hcm⟩,ha5⟩ fun e ⟨_,hst⟩=>?_;exact .oA (U1 0) []
  ·obtain⟨⟨ds,b2⟩,⟨hds,hb2⟩,sQ⟩:=wl s hd l a4 hl ha4;dsimp only at hds hb2 sQ;refine XE.mp (fun _ _=>C1.draw 0 l a4 _ sQ rfl rfl rfl) ?_;refine sW ?_;refine XE.fin (⟨nm,1,c,ds,-1,[],cnd0⟩,b2) ⟨⟨qL1 hE hnm hcf hds (.inl rfl),rfl,hcm⟩,hb2⟩ fun e ⟨_,hst⟩=>?_;exact .oA (U1 0) []
 ·obtain⟨⟨ds,b2⟩,⟨hds,hb2⟩,sQ⟩:=wl s hd l a4 hl ha4;dsimp only at hds hb2 sQ;refine XE.mp (fun _ _=>C1.draw 0 l a4 _ sQ rfl rfl rfl) ?_;refine sW ?_;refine XE.fin (⟨nm,1,c,ds,-1,[],cnd0⟩,b2) ⟨⟨qL1 hE hnm hcf hds (.inl rfl),rfl,hcm⟩,hb2⟩ fun e ⟨_,hst⟩=>?_;exact .oA (U1 0) []
theorem jF (s:Sch) (hd:DrS s) (nm:ByteArray) (hnm:jE nm=true) (l:List UInt8) (a:Nat) (hl:l.length≤400) (ha:a≤l.length) :
 ∃ r:Qst×Nat,((qstE s r.1=0∧r.1.name=nm)∧r.2≤l.length)∧Sp 58 [.ptr 0 1 0 0,schT s,vS nm] [(0,oC l a)] (qstT r.1) [(0,oC l r.2)]:=by
 obtain⟨r,⟨⟨h1,h2,_⟩,h3⟩,h⟩:=qa8 s hd nm hnm l a hl ha;exact⟨r,⟨⟨h1,h2⟩,h3⟩,h⟩
theorem zU2 (f:Nat→Int):∀ n,((canF f n).Pairwise fun a b=>a.col<b.col)∧∀ p∈canF f n,p.col<n
 | 0=>⟨List.Pairwise.nil,by simp [canF]⟩
 | n+1=>by
   obtain⟨h1,h2⟩:=zU2 f n;rw[canF];split
   ·refine⟨List.pairwise_append.2 ⟨h1,sMp,fun p hp q hq=>?_⟩,fun p hp=>?_⟩
    ·rw[EZ.1 hq];exact h2 p hp
    ·rcases Dz.1 hp with hp | hp
     ·have:=h2 p hp;omega
     ·rw[EZ.1 hp];dsimp only;omega
   ·rw[CW];exact⟨h1,fun p hp=>by have:=h2 p hp;omega⟩
theorem jP9 {s:Sch} (hE:schE s=0) {c:Nat} (h1:1≤c) (h2:c<s.cols.length) {v:Int} (h3:0≤v) (h4:v≤finI s c):wD s ⟨c,v⟩=0:=by
 rw[wD,Aq (by rw[hE];simp),Aq (by dsimp only;omega),Aq];rw[Ez,yi];exact⟨h3,h4⟩
theorem zY8 {s:Sch} (hE:schE s=0) {f:Nat→Int} (h:∀ k,k<s.cols.length→0<f k→1≤k∧f k≤finI s k):yW s (canF f s.cols.length)=0:=by
 refine zC4 hE (fun p hp=>?_) (zU2 f _).1;obtain⟨k,k1,k2,rfl⟩:=wM.1 hp;obtain⟨h1,h2⟩:=h k k1 k2;exact jP9 hE h1 k1 oM h2
theorem qU7 {l:List Pk} {k F:Int} (hF:0≤F) (h:∀ p∈l,p.col=k→p.lev≤F):mxl l k≤F:=by
 induction l with
 | nil=>exact hF
 | cons p r ih=>
   have h1:=ih fun q hq=>h q (CQ _ hq);rw[mxl];split
   ·rename_i e;have:=h p sMp e;omega
   ·exact h1
theorem WF {s:Sch} {c lev:Int} (h:0≤lev) (h2:lev≤finI s c):zR s c lev≤lev∧0≤zR s c lev∧divB s c.toNat (zR s c lev).toNat lev.toNat=true∧∀ m:Nat,(m:Int)<zR s c lev→divB s c.toNat m lev.toNat=false:=by
 have h59:lev≤59∨schE s≠0:=by
  by_cases e:schE s=0
  ·have:=JH (c:=c) e;exact .inl oM
  ·exact .inr e
 have hE:schE s=0:=(yc (s:=s) (c:=c) oM).1;have h59:=JH (c:=c) hE;rw[zR,Aq (by rw[Ez,yi];omega)];obtain⟨a,b,_,d⟩:=qo4 (p:=fun n=>divB s c.toNat n lev.toNat) (N:=lev.toNat) (zn2 s _ _) 64 0 oM oM;refine⟨oM,oM,by rw[Ax];exact a,fun m hm=>d m oM oM⟩
theorem JQ {s:Sch} (hE:schE s=0) {k:Nat} (h1:1≤k) (h2:k<s.cols.length):0≤finI s k:=by
 have hok:=qV hE;have hkk:=zj (hok.cs k h2);have h3:=hkk.2.2.1 h1;refine (zI1 hE (v:=k) ?_).2.2.1;rcases (show (qg s k).kind=2∨(qg s k).kind=3 by omega) with h | h
 ·exact .inl (zu.2 ⟨oM,oM,by rw[Ax];exact h⟩)
 ·exact .inr (zu.2 ⟨oM,oM,by rw[Ax];exact h⟩)
theorem jQ0 {s:Sch} {c:Cnd} (h:chkC s c=0):∀ p∈atP s c,p.lev≤finI s p.col:=fun p hp=>by
 obtain⟨hE,k2,k3,k4⟩:=JI h;obtain⟨a,ha,rfl⟩:=Cj.1 hp;obtain⟨hnd,hia⟩:=qk3 c k4 a ha;exact (Wx hE hnd hia).1
theorem jr1 {s:Sch} {c:Cnd} (h:chkC s c=0):∀ p∈ji s c,p.lev≤finI s p.col:=fun p hp=>by
 have hE:=(JI h).1;obtain⟨h1,h2⟩:=WB h;rw[h1,wM] at hp;obtain⟨k,k1,k2,rfl⟩:=hp;have h0:1≤k:=by
  rcases DQ k with e | e
  ·subst e;rw[Yz fun q hq=>by have:=h2 q hq;omega] at k2;omega
  ·exact e
 exact qU7 (JQ hE h0 k1) fun p hp e=>by rw[← e];exact jQ0 h p hp
theorem qx3 {s:Sch} {q:Qst} (hq:QstOk s q):∀ p∈wI s q,p.lev≤finI s p.col:=fun p hp=>by
 unfold wI at hp;rcases Dz.1 hp with hp | hp
 ·rcases Dz.1 hp with hp | hp
  ·obtain⟨d,hd,rfl⟩:=Cj.1 hp;obtain⟨_,h1,h2,h3,h4⟩:=qK8 (qf4 hq d hd).1;have:=WF h3 h4;dsimp only;omega
  ·obtain⟨k,h1,h2,rfl⟩:=zp1.1 hp;unfold usB at h2;rw[Bq,AZ] at h2;have h3:=JQ hq.sch (k:=k) oM h1;have:=WF h3 (Int.le_refl _);dsimp only;omega
 ·obtain⟨c,hc,hp⟩:=Ew.1 hp;exact jr1 (qU6 hq c hc) p hp
theorem zU3 {a w:Int}:(a.tmod w==0)=true↔w ∣ a:=by rw[AY];exact⟨Int.dvd_of_tmod_eq_zero,Int.tmod_eq_zero_of_dvd⟩
theorem qx4 {a w:Int} (hw:0<w):qJ a w=a / w:=by unfold qJ;rw[DW _ oM]
theorem jK5 {w x a:Int} (hw:0<w) (hd:w ∣ x):x≤a↔x≤qJ a w*w:=by
 obtain⟨t,rfl⟩:=hd;have h:=jV (v:=a) hw;rw[qx4 hw] at h ⊢
 generalize a / w=u at h ⊢
 constructor
 ·intro h1;have h2:w*t<w*(u+1):=by rw[Int.mul_add,Int.mul_one,Int.mul_comm w u];omega
  have h3:=Int.lt_of_mul_lt_mul_left h2 oM;rw[Int.mul_comm u w];exact Int.mul_le_mul_of_nonneg_left oM oM
 ·intro h1;omega
theorem zI8 {w x a b:Int} (hw:0<w) (hd:w ∣ x) (h:qJ a w*w=qJ b w*w):x≤a↔x≤b:=(jK5 hw hd).trans (by rw[h];exact (jK5 hw hd).symm)
theorem qU8 {w x:Int} (hw:0<w) (h:¬ w ∣ x):qJ (x-1) w*w=qJ x w*w:=by
 have:=(zI5 (a:=x-1) (k:=w) oM).2;rw[show x-1+1=x by omega] at this;rw[this h]
theorem jr2 {w x:Int} (hw:0<w) (hd:w ∣ x):qJ x w*w=x:=by
 rw[qx4 hw];exact Int.ediv_mul_cancel hd
theorem jr3 {w x:Int} (hw:0<w) (hd:w ∣ x):qJ (x-1) w*w≠qJ x w*w:=by
 rw[jr2 hw hd];have:=jV (v:=x-1) hw;omega
theorem zx {s:Sch} {i:Nat} (h1:(qg s i).kind=3) {v:Int}:qT s i v=true↔((qg s i).opt=true∧v=zn)∨((qg s i).low≤v∧v≤(qg s i).high):=by
 rw[qT,Aq oM,Aq oM,DZ,Bq,AY,yi]
theorem jq {s:Sch} (hok:SchOk s) {i:Nat} (hi:i<s.cols.length) (h2:(qg s i).kind=2) {v:Int}:qT s i v=true↔v∈qE s i:=by
 obtain⟨_,d2⟩:=hok.cdl hi h2;constructor
 ·intro h;rw[qT,Aq oM,Aj h2,Bq,yi,AY] at h;obtain⟨⟨g1,g2⟩,g3⟩:=h;obtain⟨c,rfl⟩:=AJ g1;rw[lvlC,Aq (not_or.2 ⟨fun h=>h d2,oM⟩),Ax] at g3;exact (yk hok hi h2).2 ⟨c,rfl,oM,g3⟩
 ·intro h;exact Wt h2 d2 h
structure MeasC (s:Sch) (i:Nat):Prop where
 kind:(qg s i).kind=3
 fin:finI s i=(qg s i).widths.length
 wid:∀ l:Nat,1≤l→l≤(qg s i).widths.length→1≤qK (qg s i) l
 one:qK (qg s i) (qg s i).widths.length=1
 lh : -1000000≤(qg s i).low∧(qg s i).low≤(qg s i).high∧(qg s i).high≤1000000
 nw:1≤(qg s i).widths.length
 dv:∀ {o l:Nat},1≤o→o<l→l≤(qg s i).widths.length→∃ k:Int,2≤k∧qK (qg s i) o=k*qK (qg s i) l
theorem zK {s:Sch} (hE:schE s=0) {i:Nat} (hi:i<s.cols.length) (h0:0<i) (h2:(qg s i).kind≠2):MeasC s i:=by
 have hok:=qV hE;have hkk:=zj (hok.cs i hi);have h3:(qg s i).kind=3:=by have:=hkk.2.2.1 h0;omega
 have hm:=hkk.2.2.2.2 h3;have hwl:1≤(qg s i).widths.length:=by unfold measE at hm;grind
 obtain⟨_,_,_,_,w5,w6,w7,w8⟩:=hok.wid hi h0 h2 (lev:=(qg s i).widths.length) oM;refine⟨h3,by rw[finI,Aq (by rw[hE];omega),Ax,Aq h2],fun l l1 l2=>(hok.wid hi h0 h2 (lev:=l) oM).1,w8,⟨w5,w7,w6⟩,hwl,fun {o l} h4 h5 h6=>hok.wdv hi h0 h2 ⟨h4,h5⟩ h6⟩
theorem JR {s:Sch} {i:Nat} (h:MeasC s i) {lev:Nat} (hl:(lev:Int)≤finI s i) {v:Int} (hv:qT s i v=true):qk s i lev v=if lev=0 then 0 else if v=zn then v else qJ v (qK (qg s i) lev)*qK (qg s i) lev:=by
 have h1:=h.lh;have hm:v≠zn→inB v (-1000000) 1000000=true:=fun hn=>by
  rcases (zx h.kind).1 hv with k | k
  ·exact absurd k.2 hn
  ·exact yi.2 oM
 rw[qk,Aq (by rw[Ez,yi];omega),Ax,Aq (by rw[h.kind];decide),Aq (fun k=>by rw[hm k.1] at k;simp at k)];by_cases e:lev=0
 ·subst e;rfl
 ·rw[Aq oM,Aq e]
theorem jV9 {v w:Int} (hw:1≤w) (hw2:w≤1000000) (hv : -1000000≤v):qJ v w*w≠zn:=by
 have:=jV (v:=v) (w:=w) oM;unfold zn;omega
theorem jK6 {s:Sch} (hE:schE s=0) {i:Nat} (hi:i<s.cols.length) (h0:0<i) (h2:(qg s i).kind≠2) {l:Nat} (l1:1≤l) (l2:l≤(qg s i).widths.length):qK (qg s i) l≤1000000:=((qV hE).wid hi h0 h2 (lev:=l) oM).2.1
theorem JS {s:Sch} (hE:schE s=0) {i:Nat} (hi:i<s.cols.length) (h0:0<i) (h2:(qg s i).kind≠2) {lev:Nat} (h1:1≤lev) (hl:(lev:Int)≤finI s i) {a b:Int} (ha:qT s i a=true) (hb:qT s i b=true) :
 qk s i lev a=qk s i lev b↔(a=zn∧b=zn)∨(a≠zn∧b≠zn∧qJ a (qK (qg s i) lev)*qK (qg s i) lev=qJ b (qK (qg s i) lev)*qK (qg s i) lev):=by
 have hm:=zK hE hi h0 h2;have hlh:=hm.lh;have hf:=hm.fin;have hw:=hm.wid lev h1 oM;have hw2:=jK6 hE hi h0 h2 h1 oM;rw[JR hm hl ha,JR hm hl hb,Aq (show ¬ lev=0 by omega),Aq (show ¬ lev=0 by omega)];have na:a≠zn→-1000000≤a:=fun hn=>by
  rcases (zx hm.kind).1 ha with k | k
  ·exact absurd k.2 hn
  ·omega
 have nb:b≠zn→-1000000≤b:=fun hn=>by
  rcases (zx hm.kind).1 hb with k | k
  ·exact absurd k.2 hn
  ·omega
 by_cases ea:a=zn
 ·by_cases eb:b=zn
  ·rw[Aj ea,Aj eb];simp [ea,eb]
  ·rw[Aj ea,Aq eb];have:=jV9 hw hw2 (nb eb);constructor
   ·intro h;rw[ea] at h;exact absurd h.symm this
   ·rintro (h | h)
    ·exact absurd h.2 eb
    ·exact absurd ea h.1
 ·by_cases eb:b=zn
  ·rw[Aq ea,Aj eb];have:=jV9 hw hw2 (na ea);constructor
   ·intro h;rw[eb] at h;exact absurd h this
   ·rintro (h | h)
    ·exact absurd h.1 ea
    ·exact absurd eb h.2.1
  ·rw[Aq ea,Aq eb];constructor
   ·intro h;exact .inr ⟨ea,eb,h⟩
   ·rintro (h | h)
    ·exact absurd h.1 ea
    ·exact h.2.2
theorem ZC {s:Sch} (hE:schE s=0) {i:Nat} (hi:i<s.cols.length) (h0:0<i) (h2:(qg s i).kind≠2) {a:Int} (ha:qT s i a=true):qk s i 0 a=0:=by
 have hm:=zK hE hi h0 h2;have:=JR hm (lev:=0) (by rw[hm.fin];omega) ha;rw[Aj rfl] at this;exact this
theorem jr4 {s:Sch} (hE:schE s=0) {i:Nat} (hi:i<s.cols.length) (h0:0<i) (h2:(qg s i).kind=2) {lev:Nat} (hl:(lev:Int)≤finI s i) {a:Int} (ha:qT s i a=true):∃ c:Nat,a=c∧c<(qU s i).codes.length∧(dep (qU s i).codes c:Int)=zy (qU s i)-1∧qk s i lev a=upN (qU s i).codes lev c:=by
 have hok:=qV hE;obtain⟨c,rfl,c1,c2⟩:=(yk hok hi h2).1 ((jq hok hi h2).1 ha);have hf:finI s i=zy (qU s i)-1:=by rw[finI,Aq (by rw[hE];omega),Ax,Aj h2]
 exact⟨c,rfl,c1,c2,kZ hok hi h2 c1 c2 hl hf⟩
theorem jQ1 {s:Sch} (hE:schE s=0) {i:Nat} (hi:i<s.cols.length) (h0:0<i) {o lev:Nat} (ho:o≤lev) (hl:(lev:Int)≤finI s i) {a b:Int} (ha:qT s i a=true) (hb:qT s i b=true) (h:qk s i lev a=qk s i lev b):qk s i o a=qk s i o b:=by
 by_cases h2:(qg s i).kind=2
 ·have hok:=qV hE;obtain⟨_,d2⟩:=hok.cdl hi h2;obtain⟨hp,_,_⟩:=zm d2;have hf:finI s i=zy (qU s i)-1:=by rw[finI,Aq (by rw[hE];omega),Ax,Aj h2]
  obtain⟨c,rfl,c1,c2,c3⟩:=jr4 hE hi h0 h2 hl ha;obtain⟨d,rfl,e1,e2,e3⟩:=jr4 hE hi h0 h2 hl hb;rw[kZ hok hi h2 c1 c2 oM hf,kZ hok hi h2 e1 e2 oM hf];rw[c3,e3] at h;rw[← qU3 hp ho c c1 oM,← qU3 hp ho d e1 oM,show upN (qU s i).codes lev c=upN (qU s i).codes lev d by omega]
 ·by_cases e0:o=0
  ·subst e0;have za:=ZC hE hi h0 h2 ha;have zb:=ZC hE hi h0 h2 hb;show qk s i 0 a=qk s i 0 b;rw[za,zb]
  ·by_cases e1:o=lev
   ·rw[e1];exact h
   have hm:=zK hE hi h0 h2;have hf:=hm.fin;obtain⟨k,k1,k2⟩:=hm.dv (o:=o) (l:=lev) oM oM oM;rw[JS hE hi h0 h2 oM oM ha hb];rcases (JS hE hi h0 h2 oM hl ha hb).1 h with h | ⟨h3,h4,h5⟩
   ·exact .inl h
   ·refine .inr ⟨h3,h4,?_⟩;have hw:=hm.wid lev oM oM;have:=Int.eq_of_mul_eq_mul_right oM h5;rw[k2,jB3 hw oM,jB3 hw oM,this]
theorem zU4 {s:Sch} (hE:schE s=0) {i:Nat} (hi:i<s.cols.length) (h0:0<i) {a:Int} (ha:qT s i a=true):qk s i (finI s i) a=a:=by
 by_cases h2:(qg s i).kind=2
 ·exact Yt hE h0 hi h2 ((jq (qV hE) hi h2).1 ha)
 ·have hm:=zK hE hi h0 h2;have hn:=hm.nw;have:=JR hm (lev:=(qg s i).widths.length) (by rw[hm.fin];omega) ha;rw[hm.fin,this,Aq oM,hm.one];split
  ·rfl
  ·unfold qJ;simp
end Go.Proofs
