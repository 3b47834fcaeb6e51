/- A part of the proof: trees of Go values, short forms, contracts. -/
import Derived.WalkKit
import Derived.Still
import Derived.MapKept
import GoSem.Builtin.Cap
import Derived.Laws.Externs
import GoSem.Extern.SlicesOverlaps
import Derived.Carry
import Derived.ProofKit
import Derived.OpenShut
import Derived.HandedShaped
import Derived.Lay
import Derived.LaidLaws
import Derived.MakeChecks
import Derived.SevenTiedAt
import Derived.Test.YtnfagfikoblhfaaGreatDoorChecked
import Derived.Test.YtnfagfikoblhfaaGreatDoorK22
set_option linter.unusedSimpArgs false
set_option linter.unusedVariables false
namespace Go.Proofs
open Go Go.TL
set_option maxRecDepth 4000
set_option maxHeartbeats 8000000
def kiI (s:Sch) (c:Int):Int:=if c<0∨c≥s.cols.length then 0 else (qk s c.toNat).kind
theorem kc3 {s:Sch} {c k:Int} (hk:k≠0):(kiI s c==k)=isB s c k:=by
 rw[Bool.eq_iff_iff,AY,zE,kiI];split
 ·constructor
  ·intro h;omega
  ·intro h;omega
 ·constructor
  ·intro h;exact⟨by omega,by omega,h⟩
  ·intro h;exact h.2.2
theorem zV7 {s:Sch} {c k:Int} (hk:k≠0):isB s c k=false↔kiI s c≠k:=by rw[← kc3 hk,Ak]
theorem kh5 {s:Sch} {c k:Int} (hk:k≠0):isB s c k=true↔kiI s c=k:=by rw[← kc3 hk,AY]
theorem zQ (s:Sch) (c:Int):Spc Tryz.prog zj [schT s,vI c] [] (vI (kiI s c)) []:=by
 refine qd qo2 mixm (by simp) fun e _ hst=>qg ?_;unfold wx;refine sD ?_;refine⟨fun h=>?_,fun h=>?_⟩
 ·rw[kiI,Aj (by omega)];exact .oA [] []
 obtain⟨i,rfl⟩:=AJ (show 0≤c by omega);have hi:i<s.cols.length:=by omega
 rw[kiI,Aq (by omega),Ax,qk,qh hi];simp only[tZ,↓un_u,simprocAttr,Ax,qe hi];refine⟨by omega,?_⟩;exact .oA [] []
theorem empC (c:Cnd):((c.op==0)&&(c.col==0)&&(c.code==0)&&(c.lo==0)&&(c.hi==0)&&((c.kids.length:Int)==0))=qa7 c cnd0:=by
 rw[jm7];show _=((c.op==0)&&(c.col==0)&&(c.code==0)&&(c.lo==0)&&(c.hi==0)&&Qa c.kids [])
 congr 1
 cases c.kids with
 | nil=>rfl
 | cons x r=>
   rw[Qa];exact Ak.2 (by simp;omega)
theorem Wy (c:Cnd):Spc Tryz.prog kz [cnT c] [] (vB (qa7 c cnd0)) []:=by
 refine qd qu4 mixm (by simp) fun e _ hst=>qg ?_;unfold yf;refine sW ?_;rw[← empC];exact .oA [] []
theorem qp9 (x y:Pk):Spc Tryz.prog jE [pkT x,.ip (pkT y).cells] [] (vB (x.col==y.col)) []:=by
 refine qd qi9 mixm (by simp) fun e _ hst=>qg ?_;unfold kU;refine sW ?_;exact .oA [] []
def tabE (s:Sch) (q:Qst):Int:=if Wp s q.dims≠0 then Wp s q.dims else if q.meas≠-1∧isB s q.meas 3=false then 7 else if 0<q.terms.length∨qa7 q.event cnd0=false then 11 else 0
theorem qB1 (s:Sch) (hs:yg s) (q:Qst):Spc Tryz.prog yE [schT s,qstT q] [] (vI (tabE s q)) []:=by
 have hT:tabE s q=if Wp s q.dims≠0 then Wp s q.dims else if q.meas≠-1∧isB s q.meas 3=false then 7 else if 0<q.terms.length∨qa7 q.event cnd0=false then 11 else 0:=rfl
 have hTD:Wp s q.dims≠0→tabE s q=Wp s q.dims:=fun h=>by rw[hT,Aj h]
 refine qd qt6 mixm (by simp) fun e _ hst=>qg ?_;unfold yb;refine sD ?_;refine⟨fun h=>?_,fun h=>?_⟩
 ·have:Wp s q.dims=1:=by rw[Wp,Aj (by omega)]
  rw[hTD (by rw[this];simp),this];exact .oA [] []
 have hD:Wp s q.dims=zF (dimE s q.dims) q.dims.length:=by rw[Wp,Aq (by omega)]
 generalize tabE s q=E at hT hTD ⊢
 refine qu mixm (α:=Nat) [21] (fun i=>i≤q.dims.length∧(zF (dimE s q.dims) i=0)) (fun i=>[(21,vI i)]) (fun i=>[(4096,.arr 2 [schT s] false),(4100,.arr 17 [qstT q] false)]) (fun i=>q.dims.length-i) 0 ⟨by omega,?_⟩ ?_ fun i hi=>?_
 ·rfl
 ·exact .oA [(4096,some 4096),(4100,some 4100)] []
 simp only[tZ,↓un_u,simprocAttr,AZ,Ay];refine⟨fun h=>?_,fun h=>?_⟩
 ·have hi2:i<q.dims.length:=by omega
  have hpi:pkAt q.dims i=q.dims[i]:=by rw[pkAt,qh hi2]
  have hstep:=Qc hi.2 hi2;have hnext:=jP hi.2;have hA:dimE s q.dims i=if QU s q.dims[i]≠0 then QU s q.dims[i] else if isB s q.dims[i].col 2=false then 7 else if ((q.dims.take i).any fun x=>x.col==q.dims[i].col)=true then 10 else 0:=by rw[dimE,hpi]
  rw[← hD] at hstep;have hbad:dimE s q.dims i≠0→E=dimE s q.dims i:=fun h=>by rw[hTD (by rw[hstep h];exact h),hstep h]
  have hi2:i<q.dims.length:=by omega
  have hwi:=qj (i:=i) (by omega);simp only[tZ,↓un_u,simprocAttr,Ax,qe hi2,hwi];refine⟨by omega,?_⟩;refine C1.im (zG8 s hs q.dims[i]) (by rfl) (by rfl) ?_;simp only[tZ,↓un_u,simprocAttr,Bj,Aw];refine⟨fun h3=>?_,fun h3=>?_⟩
  ·rw[Aj h3] at hA;rw[hbad (by rw[hA];exact h3),hA];exact .oA [] []
  rw[Aq (by rw[h3];simp)] at hA;refine C1.im (zQ s q.dims[i].col) (by rfl) (by rfl) ?_;have hki:=zV7 (s:=s) (c:=q.dims[i].col) (k:=2) (by decide);simp only[tZ,↓un_u,simprocAttr,Bj,Aw];refine⟨fun h4=>?_,fun h4=>?_⟩
  ·rw[Aj (hki.2 h4)] at hA;rw[hbad (by rw[hA];simp),hA];exact .oA [] []
  rw[Aq (fun h=>hki.1 h h4)] at hA;have hCF:=jx (fun x=>x.col==q.dims[i].col) jE [.ip (pkT q.dims[i]).cells] rfl (q.dims.take i) (fun x _=>qp9 x q.dims[i]) (by rw[Cz];omega);refine⟨by omega,?_⟩;rw[qk6,zd3];refine C1.lend [24588] hCF ?_ (by rfl) (by rfl) ?_
  ·all_goals (try simp only[tL,simprocAttr,By,List.map_cons,List.map_nil,BW,Cy])
   all_goals (try (repeat' (first | exact zb | (apply zy;intro _;exact⟨rfl,rfl⟩) | (apply qE;intro _;exact⟨rfl,rfl⟩) | with_reducible apply qW | with_reducible refine qS ⟨rfl,rfl⟩ ?_ | exact qY | with_reducible apply qT | with_reducible refine qV ⟨rfl,rfl,?_⟩ ?_ | with_reducible apply Az | exact qU rfl | exact qU (by assumption) | (refine⟨⟨?_,rfl,?_,rfl,?_⟩,trivial⟩ <;> first | (simp;done) | (apply qE;intro _;exact⟨rfl,rfl⟩)) | trivial | rfl | (rw[qj (by omega)]) | omega)))
   simp only[ltP];exact⟨rfl,by decide,rfl,qS ⟨rfl,rfl⟩ qY⟩
  simp only[tZ,↓un_u,simprocAttr,hwi];refine⟨fun h5=>?_,fun h5=>?_⟩
  ·rw[Aj h5] at hA;rw[hbad (by rw[hA];simp),hA];exact .oA [] []
  ·rw[Aq (by rw[h5];simp)] at hA;refine⟨i+1,⟨by omega,by rw[hnext,hA]⟩,by omega,?_⟩;exact .oA [(4096,some 4096),(4100,some 4100)] []
 ·have hi2:i=q.dims.length:=by omega
  subst hi2;rw[← hD] at hi;rw[Aq (by rw[hi.2];simp)] at hT;have hk:=zQ s q.meas;refine C2.im (fun _=>hk) (fun _=>rfl) (by rfl) ?_;have hki:=zV7 (s:=s) (c:=q.meas) (k:=3) (by decide);simp only[tZ,↓un_u,simprocAttr,tD,Bj,Aw];refine⟨fun h5=>?_,fun h5=>?_⟩
  ·rw[Aj (by grind)] at hT;rw[hT];exact .oA [] []
  rw[Aq (by grind)] at hT;refine C2.im (fun _=>Wy q.event) (fun _=>rfl) (by rfl) ?_;simp only[tZ,↓un_u,simprocAttr,tD,gt_iff_lt,Bx,Bz];refine⟨fun h6=>?_,fun h6=>?_⟩
  ·rw[Aj (by grind)] at hT;rw[hT];exact .oA [] []
  ·rw[Aq (by grind)] at hT;rw[hT];exact .oA [] []
def modE (s:Sch) (q:Qst):Int:=if isB s q.meas 3=false then 7 else if yn s q.meas q.terms≠0 then yn s q.meas q.terms else if 0<q.dims.length∨qa7 q.event cnd0=false then 11 else 0
theorem qB2 (s:Sch) (q:Qst):Spc Tryz.prog yF [schT s,qstT q] [] (vI (modE s q)) []:=by
 have hT:modE s q=if isB s q.meas 3=false then 7 else if yn s q.meas q.terms≠0 then yn s q.meas q.terms else if 0<q.dims.length∨qa7 q.event cnd0=false then 11 else 0:=rfl
 generalize modE s q=E at hT ⊢
 have hki:=zV7 (s:=s) (c:=q.meas) (k:=3) (by decide);refine qd qt8 mixm (by simp) fun e _ hst=>qg ?_;unfold yc;refine sW ?_;refine C1.im (zQ s q.meas) (by rfl) (by rfl) ?_;simp only[tZ,↓un_u,simprocAttr,tD,Bj,Aw];refine⟨fun h=>?_,fun h=>?_⟩
 ·rw[Aj (hki.2 h)] at hT;rw[hT];exact .oA [] []
 rw[Aq (fun k=>hki.1 k h)] at hT;refine⟨fun h2=>?_,fun h2=>?_⟩
 ·have:yn s q.meas q.terms=1:=by rw[yn,Aj (by omega)]
  rw[this,Aj (by simp)] at hT;rw[hT];exact .oA [] []
 have hD:yn s q.meas q.terms=zF (zh8 s q.meas q.terms) q.terms.length:=by rw[yn,Aq (by omega)]
 have hTD:yn s q.meas q.terms≠0→E=yn s q.meas q.terms:=fun h=>by rw[hT,Aj h]
 refine qu mixm (α:=Nat) [27] (fun i=>i≤q.terms.length∧(zF (zh8 s q.meas q.terms) i=0)) (fun i=>[(27,vI i)]) (fun i=>[(4096,.arr 2 [schT s] false),(4100,.arr 17 [qstT q] false)]) (fun i=>q.terms.length-i) 0 ⟨by omega,?_⟩ ?_ fun i hi=>?_
 ·rfl
 ·exact .oA [(4096,some 4096),(4100,some 4100)] []
 simp only[tZ,↓un_u,simprocAttr,AZ,Ay];refine⟨fun h=>?_,fun h=>?_⟩
 ·have hi2:i<q.terms.length:=by omega
  have hpi:q.terms.getD i 0=q.terms[i]:=qh hi2;have hstep:=Qc hi.2 hi2;have hnext:=jP hi.2;have hA:zh8 s q.meas q.terms i=if isB s q.terms[i] 3=false then 7 else if q.terms[i]=q.meas∨(q.terms.take i).contains q.terms[i]=true then 10 else 0:=by rw[zh8,hpi]
  rw[← hD] at hstep;have hbad:zh8 s q.meas q.terms i≠0→E=zh8 s q.meas q.terms i:=fun h=>by rw[hTD (by rw[hstep h];exact h),hstep h]
  have hi2:i<q.terms.length:=by omega
  have hwi:=qj (i:=i) (by omega);simp only[tZ,↓un_u,simprocAttr,Ax,qe hi2,hwi];refine⟨by omega,?_⟩;refine C1.im (zQ s q.terms[i]) (by rfl) (by rfl) ?_;have hki:=zV7 (s:=s) (c:=q.terms[i]) (k:=3) (by decide);simp only[tZ,↓un_u,simprocAttr,Bj,Aw];refine⟨fun h4=>?_,fun h4=>?_⟩
  ·rw[Aj (hki.2 h4)] at hA;rw[hbad (by rw[hA];simp),hA];exact .oA [] []
  rw[Aq (fun h=>hki.1 h h4)] at hA;have hCF:=wA (q.terms.take i) q.terms[i] (by rw[Cz];omega);refine⟨fun _=>by omega,?_⟩;rw[qk6,zd3];refine C2.im (fun _=>hCF) (fun _=>rfl) (by rfl) ?_;simp only[tZ,↓un_u,simprocAttr,hwi,tD,AY,Ak];refine⟨fun h5=>?_,fun h5=>?_⟩
  ·rw[Aj h5] at hA;rw[hbad (by rw[hA];simp),hA];exact .oA [] []
  ·rw[Aq (by grind)] at hA;refine⟨i+1,⟨by omega,by rw[hnext,hA]⟩,by omega,?_⟩;exact .oA [(4096,some 4096),(4100,some 4100)] []
 ·have hi2:i=q.terms.length:=by omega
  subst hi2;rw[← hD] at hi;rw[Aq (by rw[hi.2];simp)] at hT;refine C2.im (fun _=>Wy q.event) (fun _=>rfl) (by rfl) ?_;simp only[tZ,↓un_u,simprocAttr,tD,gt_iff_lt,Bx,Bz];refine⟨fun h6=>?_,fun h6=>?_⟩
  ·rw[Aj (by grind)] at hT;rw[hT];exact .oA [] []
  ·rw[Aq (by grind)] at hT;rw[hT];exact .oA [] []
def curE (s:Sch) (q:Qst):Int:=if isB s q.meas 3=false then 7 else if (qk s q.meas.toNat).low<0 then 2 else if chkC s q.event≠0 then chkC s q.event else if 0<q.dims.length∨0<q.terms.length then 11 else 0
theorem qB3 (s:Sch) (hs:yg s) (q:Qst):Spc Tryz.prog yG [schT s,qstT q] [] (vI (curE s q)) []:=by
 have hki:=zV7 (s:=s) (c:=q.meas) (k:=3) (by decide);refine qd qu0 mixm (by simp) fun e _ hst=>qg ?_;unfold yd;refine sW ?_;refine C1.im (zQ s q.meas) (by rfl) (by rfl) ?_;simp only[tZ,↓un_u,simprocAttr,tD,Bj,Aw];refine⟨fun h=>?_,fun h=>?_⟩
 ·rw[curE,Aj (hki.2 h)];exact .oA [] []
 rw[curE,Aq (fun k=>hki.1 k h)];obtain⟨b1,b2,b3⟩:=zE.1 ((kh5 (by decide)).2 h);have hil:q.meas.toNat<s.cols.length:=by omega
 rw[qk,qh hil];simp only[tZ,↓un_u,simprocAttr,qe hil,tD];refine⟨by omega,fun h4=>?_,fun h4=>?_⟩
 ·rw[Aj h4];exact .oA [] []
 rw[Aq h4];refine C1.im (kg s hs q.event) (by rfl) (by rfl) ?_;simp only[tZ,↓un_u,simprocAttr,Bj,Aw];refine⟨fun h5=>?_,fun h5=>?_⟩
 ·rw[Aj h5];exact .oA [] []
 rw[Aq (by rw[h5];simp)];simp only[tZ,↓un_u,simprocAttr,tD,gt_iff_lt];refine⟨fun h6=>?_,fun h6=>?_⟩
 ·rw[Aj (by omega)];exact .oA [] []
 ·rw[Aq (by omega)];exact .oA [] []
theorem Zf (s:Sch) (hs:yg s) (q:Qst):Spc Tryz.prog jq [schT s,qstT q] [] (vI (qstE s q)) []:=by
 refine qd qf0 mixm (by simp) fun e _ hst=>qg ?_;unfold kC;refine sW ?_;refine C1.im (jd s hs.2.1 hs.1) (by rfl) (by rfl) ?_;simp only[tZ,↓un_u,simprocAttr,Bj,Aw];refine⟨fun h=>?_,fun h=>?_⟩
 ·rw[qstE,Aj h];exact .oA [] []
 rw[qstE,Aq (by rw[h];simp)];refine C1.im (wz q.name) (by rfl) (by rfl) ?_;simp only[tZ,↓un_u,simprocAttr,tD,Bx,Bz];refine⟨fun h2=>?_,fun h2=>?_⟩
 ·rw[Aj h2];exact .oA [] []
 rw[Aq (by rw[h2];simp)];refine⟨fun h3=>?_,fun h3=>?_⟩
 ·rw[Aj (by omega)];exact .oA [] []
 rw[Aq (by omega)];refine C1.im (kg s hs q.filt) (by rfl) (by rfl) ?_;simp only[tZ,↓un_u,simprocAttr,Bj,Aw,AY,Ak];refine⟨fun h4=>?_,fun h4=>?_⟩
 ·rw[Aj h4];exact .oA [] []
 rw[Aq (by rw[h4];simp)];refine⟨fun h5=>?_,fun h5=>⟨fun h6=>?_,fun h6=>?_⟩⟩
 ·refine C1.im (qB1 s hs q) (by rfl) (by rfl) ?_;rw[show (if wP s q≠0 then wP s q else if (q.kind≠1∧0<q.dims.length)∨(q.kind≠2∧0<q.terms.length)∨(q.kind≠3∧qa7 q.event cnd0=false) then 11 else 0)=tabE s q by
   rw[wP,Aj h5,tabE]
   grind]
  refine sW ?_;exact .oA [] []
 ·refine C1.im (qB2 s q) (by rfl) (by rfl) ?_;rw[show (if wP s q≠0 then wP s q else if (q.kind≠1∧0<q.dims.length)∨(q.kind≠2∧0<q.terms.length)∨(q.kind≠3∧qa7 q.event cnd0=false) then 11 else 0)=modE s q by
   rw[wP,Aq h5,Aj h6,modE]
   grind]
  refine sW ?_;exact .oA [] []
 ·refine C1.im (qB3 s hs q) (by rfl) (by rfl) ?_;rw[show (if wP s q≠0 then wP s q else if (q.kind≠1∧0<q.dims.length)∨(q.kind≠2∧0<q.terms.length)∨(q.kind≠3∧qa7 q.event cnd0=false) then 11 else 0)=curE s q by
   rw[wP,Aq h5,Aq h6,curE]
   grind]
  refine sW ?_;exact .oA [] []
end Go.Proofs
namespace Go.Proofs
open Go Go.TL
set_option maxRecDepth 4000
set_option maxHeartbeats 8000000
def usB (q:Qst) (k:Int):Bool:=decide (k>0)&&jr9 q k
theorem qY2 (q:Qst) (k:Int) (ht:q.terms.length<4611686018427387904):Spc Tryz.prog Jq [qstT q,vI k] [] (vB (usB q k)) []:=by
 refine qd qN6 mixm (by simp) fun e _ hst=>qg ?_;unfold ZF;refine sW ?_;refine C2.im (fun _=>wA q.terms k ht) (fun _=>rfl) (by rfl) ?_;refine sW ?_;rw[show (decide (k>0)&&((q.meas==k)||q.terms.contains k))=usB q k from rfl];exact .oA [] []
def cnsL (q:Qst):List Cnd:=if q.kind=3 then [q.filt,q.event] else [q.filt]
theorem qQ7 (q:Qst):Spc Tryz.prog Zq [qstT q] [] (vCs (cnsL q)) []:=by
 refine qd qF4 mixm (by simp) fun e _ hst=>qg ?_;unfold QI;simp only[tZ,↓un_u,simprocAttr,AY,Ak];refine⟨fun h=>?_,fun h=>?_⟩
 ·rw[cnsL,Aj h];show Zi [] _ _ (.sl 6 [cndT q.filt,cndT q.event]) [];rw[zp,zp];exact .oA [] [12304]
 ·rw[cnsL,Aq h];show Zi [] _ _ (.sl 6 [cndT q.filt]) [];rw[zp];exact .oA [] [16392]
def kp5 (s:Sch) (q:Qst) (k a b:Int):Bool:=(usB q k&&(a != b))||(q.dims.any fun d=>(d.col==k)&&(qK s k d.lev a != qK s k d.lev b))||((cnsL q).any fun c=>(atsC c).any fun x=>(x.col==k)&&(QT s x a != QT s x b))
end Go.Proofs
namespace Go.Proofs
open Go Go.TL
set_option maxRecDepth 4000
set_option maxHeartbeats 8000000
def mxl:List Pk→Int→Int
 | [],_=>0
 | p::r,k=>if p.col=k then max p.lev (mxl r k) else mxl r k
theorem qq0:∀ (l:List Pk) (k:Int),0≤mxl l k
 | [],_=>Int.le_refl _
 | p::r,k=>by
   have:=qq0 r k;rw[mxl];split <;> omega
theorem zH3:∀ (a b:List Pk) (k:Int),mxl (a++b) k=max (mxl a k) (mxl b k)
 | [],b,k=>by
   have:=qq0 b k;rw[Cy,mxl];omega
 | p::r,b,k=>by
   have:=zH3 r b k;rw[BW,mxl,mxl,this];split <;> omega
theorem jV7 (l:List Pk) (p:Pk) (k:Int):mxl (l++[p]) k=if p.col=k then max (mxl l k) p.lev else mxl l k:=by
 have:=qq0 l k;rw[zH3,mxl,mxl];split <;> omega
theorem qg9:∀ {l:List Pk} {k:Int},(∀ p∈l,p.col≠k)→mxl l k=0
 | [],_,_=>rfl
 | p::r,k,h=>by
   rw[mxl,Aq (h p (by simp)),qg9 fun x hx=>h x (CQ _ hx)]
theorem zH4 {f:Nat→Int} (hf:∀ k,0≤f k):∀ {n:Nat} (k:Nat),mxl (canF f n) k=if k<n then f k else 0
 | 0,k=>by rw[Aq (by omega)];rfl
 | n+1,k=>by
   have ih:=zH4 hf (n:=n) k;have hk:=hf k;have hn:=hf n;rw[canF,zH3,ih];by_cases e:n=k
   ·subst e;rw[Aq (show ¬ n<n by omega),Aj (show n<n+1 by omega)];split
    ·have:mxl [(⟨(n:Nat),f n⟩:Pk)] n=max (f n) 0:=by rw[mxl,Aj rfl];rfl
     rw[this];omega
    ·rw[mxl];omega
   ·have h0:mxl (if 0<f n then [(⟨n,f n⟩:Pk)] else []) k=0:=qg9 fun p hp=>by
     split at hp
     ·rw[Ey.1 hp];dsimp only;omega
     ·simp at hp
    rw[h0];by_cases h:k<n
    ·rw[Aj h,Aj (by omega)];omega
    ·rw[Aq h,Aq (by omega)];omega
theorem qQ8 {n:Nat}:∀ (l:List Pk) {f:Nat→Int},(∀ k,0≤f k)→(∀ p∈l,0≤p.col∧p.col<n)→Qf (canF f n) l=canF (fun k=>max (f k) (mxl l k)) n
 | [],f,hf,_=>by
   show canF f n=_;exact qb4 fun k _=>by have:=hf k;rw[mxl];omega
 | p::r,f,hf,h=>by
   obtain⟨h1,h2⟩:=h p (by simp);obtain⟨c,hc⟩:=AJ h1;have e:Qf (canF f n) (p::r)=Qf (Kr (canF f n) p.col p.lev) r:=rfl;rw[e,hc,zx3 hf (by omega),qQ8 r (fun k=>by have:=hf k;unfold upd;split <;> omega) fun x hx=>h x (CQ _ hx)];refine qb4 fun k _=>?_;have:=hf k;have h3:=qq0 r k;unfold upd;rw[mxl,hc];by_cases e:k=c
   ·subst e;rw[Aj rfl,Aj rfl];omega
   ·rw[Aq e,Aq (by omega)]
theorem js5 (n:Nat):canF (fun _=>0) n=[]:=zj7 fun _ _=>Int.le_refl _
theorem zV8 {n:Nat} {l:List Pk} (h:∀ p∈l,0≤p.col∧p.col<n):Qf [] l=canF (fun k=>mxl l k) n:=by
 rw[← js5 n,qQ8 l (fun _=>Int.le_refl _) h];exact qb4 fun k _=>by have:=qq0 l k;omega
theorem qK7 (a l m:List Pk):Qf a (l++m)=Qf (Qf a l) m:=Gx
theorem zV9 {α:Type} (f:α→Pk) (m:List α):∀ l,Qf l (m.map f)=m.foldl (fun l x=>Kr l (f x).col (f x).lev) l:=by
 induction m with
 | nil=>intro l;rfl
 | cons x r ih=>intro l;exact ih _
def atP (s:Sch) (c:Cnd):List Pk:=(atsC c).map fun a=>⟨a.col,decN s a⟩
theorem jc0 {s:Sch} {c:Cnd} (h:chkC s c=0):jg s c=Qf [] (atP s c):=by
 rw[jg,Aq (by rw[h];simp),atP,zV9]
theorem qs0 {s:Sch} {c:Cnd} (h:chkC s c=0):jg s c=canF (fun k=>mxl (atP s c) k) s.cols.length∧∀ p∈atP s c,1≤p.col∧p.col<s.cols.length:=by
 obtain⟨hE,k2,k3,k4⟩:=qo9 h;have hb:∀ p∈atP s c,1≤p.col∧p.col<s.cols.length:=fun p hp=>by
  obtain⟨a,ha,rfl⟩:=Cj.1 hp;obtain⟨hnd,hia⟩:=jm5 c k4 a ha;obtain⟨n1,n2,n3⟩:=qI4 hE hnd hia;obtain⟨_,c1,c2,_⟩:=yT (s:=s) (c:=a.col) (by omega);exact⟨c1,c2⟩
 refine⟨?_,hb⟩;rw[jc0 h];exact zV8 fun p hp=>by have:=hb p hp;omega
theorem jV8 {s:Sch} {c:Cnd} (h:chkC s c=0):∀ p∈jg s c,1≤p.col∧p.col<s.cols.length:=fun p hp=>by
 obtain⟨h1,h2⟩:=qs0 h;rw[h1,Kv] at hp;obtain⟨k,k1,k2,rfl⟩:=hp;refine⟨?_,by dsimp only;omega⟩;dsimp only;by_cases e:k=0
 ·subst e;rw[qg9 fun q hq=>by have:=h2 q hq;omega] at k2;omega
 ·omega
theorem jK9 {s:Sch} {c:Cnd} (h:chkC s c=0) (k:Nat):mxl (jg s c) k=mxl (atP s c) k:=by
 obtain⟨h1,h2⟩:=qs0 h;rw[h1,zH4 fun k=>qq0 _ _];split
 ·rfl
 ·exact (qg9 fun q hq=>by have:=h2 q hq;omega).symm
def dmP (s:Sch) (q:Qst):List Pk:=q.dims.map fun d=>⟨d.col,jQ s d.col d.lev⟩
def usP (s:Sch) (q:Qst) (n:Nat):List Pk:=((List.range n).filter fun k:Nat=>usB q k).map fun k:Nat=>⟨k,jQ s k (finI s k)⟩
theorem zH5 (s:Sch) (q:Qst) (n:Nat):usP s q (n+1)=usP s q n++if usB q n=true then [⟨n,jQ s n (finI s n)⟩] else []:=by
 rw[usP,List.range_succ,FY,By,← usP]
 congr 1
 by_cases h:usB q n=true
 ·rw[Aj h,List.filter_cons_of_pos (p:=fun k:Nat=>usB q k) h];rfl
 ·rw[Aq h,List.filter_cons_of_neg (p:=fun k:Nat=>usB q k) h];rfl
theorem jn8 (s:Sch) (q:Qst) (l:List Pk):∀ n:Nat,(List.range n).foldl (QV s q) l=Qf l (usP s q (n+1))
 | 0=>by
   show l=_;have h0:usB q (0:Nat)=false:=by simp [usB]
   rw[zH5,h0,Aq (by simp)];rfl
 | n+1=>by
   rw[List.range_succ,Gx,jn8 s q l n,zH5 _ _ (n+1),qK7];show QV s q _ n=_;have h:usB q ((n+1:Nat):Int)=jr9 q ((n:Int)+1):=by
    unfold usB;rw[Cx (by omega),Fq];rfl
   rw[QV,h];split <;> rfl
def evP (s:Sch) (q:Qst):List Pk:=if q.kind=3 then jg s q.event else []
theorem jc1 {s:Sch} {q:Qst} (h:qstE s q=0):yS s q=Qf (jg s q.filt) (evP s q++dmP s q++usP s q s.cols.length):=by
 have hq:=qA8 h;have hnc:=(qR hq.sch).nc;rw[yS,Aq (by rw[h];simp),kg1,jn8,show s.cols.length-1+1=s.cols.length by omega,qK7,qK7,dmP,zV9,evP]
 congr 2
 split <;> rfl
end Go.Proofs
namespace Go.Proofs
open Go Go.TL
set_option maxRecDepth 4000
set_option maxHeartbeats 8000000
end Go.Proofs
namespace Go.Proofs
open Go Go.TL
set_option maxRecDepth 4000
set_option maxHeartbeats 8000000
def mxc:List Pk→Int
 | []=>0
 | p::r=>max p.col (mxc r)
theorem jL0:∀ l:List Pk,0≤mxc l
 | []=>Int.le_refl _
 | p::r=>by have:=jL0 r;rw[mxc];omega
theorem jn9:∀ (l:List Pk) (p:Pk),mxc (l++[p])=max (mxc l) p.col
 | [],p=>by show max p.col 0=max 0 p.col;omega
 | q::r,p=>by rw[BW,mxc,mxc,jn9 r p];omega
theorem kc4 {n:Int} (hn:0≤n):∀ {l:List Pk},(∀ p∈l,p.col≤n)→mxc l≤n
 | [],_=>hn
 | p::r,h=>by
   have h1:=h p (by simp);have h2:=kc4 hn (l:=r) fun q hq=>h q (CQ _ hq);rw[mxc];omega
theorem kc5:∀ {l:List Pk} {p:Pk},p∈l→p.col≤mxc l
 | q::r,p,h=>by
   rw[mxc];rcases Ck.1 h with e | h
   ·rw[e];omega
   ·have:=kc5 h;omega
theorem qb5 (ls:List (List Pk)) (n:Nat) (h1:1≤n) (h2:n≤1000) (hls:ls.length≤1000) (hl:∀ l∈ls,l.length≤1000) (hb:∀ l∈ls,∀ p∈l,0≤p.col∧p.col<n) :
 Spc Tryz.prog wF [.sl 1 (ls.map vPs)] [] (vPs (canF (fun k=>mxl ls.flatten k) n)) []:=by
 refine qd qF2 mixm (by simp) fun e _ hst=>qg ?_;unfold QH;refine sW ?_;refine qu mixm (α:=Nat×List (Int×Int)) [4,14] (fun y=>y.1≤ls.length∧∀ k,(TL.look TL.eqI k y.2).getD 0=mxl (ls.take y.1).flatten k) (fun y=>[(4,vI (mxc (ls.take y.1).flatten)),(14,vI y.1)]) (fun y=>[(8192,.mp (.ii y.2))]) (fun y=>ls.length-y.1) (0,[]) ⟨by simp,fun k=>rfl⟩ ?_ fun y hy=>?_
 ·exact .oA [(8192,some 8192)] []
 obtain⟨i,M⟩:=y;obtain⟨y1,y2⟩:=hy;dsimp only at y1 y2;refine sD ?_;refine⟨fun h=>?_,fun h=>?_⟩
 ·have hi:i<ls.length:=by omega
  have hwi:=qj (i:=i) (by omega);have hll:=hl _ (AX hi);have hbb:=hb _ (AX hi);have hfl:(ls.take (i+1)).flatten=(ls.take i).flatten++ls[i]:=by rw[qH hi,List.flatten_append];simp
  generalize (ls.take i).flatten=A at y2 hfl ⊢
  simp only[tZ,↓un_u,simprocAttr,Ax,qe hi];refine⟨by omega,?_⟩;generalize ls[i]=l at hll hbb hfl ⊢
  refine qu mixm (α:=Nat×List (Int×Int)) [4,20] (fun y=>y.1≤l.length∧∀ k,(TL.look TL.eqI k y.2).getD 0=mxl (A++l.take y.1) k) (fun y=>[(4,vI (mxc (A++l.take y.1))),(20,vI y.1)]) (fun y=>[(8192,.mp (.ii y.2))]) (fun y=>l.length-y.1) (0,M) ⟨by simp,fun k=>by rw[List.take_zero,CW];exact y2 k⟩ ?_ fun y hy=>?_
  ·refine .of [(8192,some 8192)] [] rfl (by first | rfl | (rw[hst];rfl)) ?_ ?_
   all_goals (try simp only[tL,simprocAttr,By,List.map_cons,List.map_nil,BW,Cy,List.take_zero,CW])
   all_goals (try (repeat' (first | exact zb | (apply zy;intro _;exact⟨rfl,rfl⟩) | (apply qE;intro _;exact⟨rfl,rfl⟩) | with_reducible apply qW | with_reducible refine qS ⟨rfl,rfl⟩ ?_ | exact qY | with_reducible apply qT | with_reducible refine qV ⟨rfl,rfl,?_⟩ ?_ | with_reducible apply Az | exact qU rfl | exact qU (by assumption) | (refine⟨⟨?_,rfl,?_,rfl,?_⟩,trivial⟩ <;> first | (simp;done) | (apply qE;intro _;exact⟨rfl,rfl⟩)) | trivial | rfl | (rw[qj (by omega)]) | omega)))
  obtain⟨j,N⟩:=y;obtain⟨z1,z2⟩:=hy;dsimp only at z1 z2;refine sD ?_;refine⟨fun h5=>?_,fun h5=>?_⟩
  ·have hj:j<l.length:=by omega
   have hwj:=qj (i:=j) (by omega);have hts:A++l.take (j+1)=A++l.take j++[l[j]]:=by rw[qH hj,Dj]
   have hnew:∀ k,(TL.look TL.eqI k (TL.asg TL.eqI l[j].col (max (mxl (A++l.take j) l[j].col) l[j].lev) N)).getD 0=mxl (A++l.take (j+1)) k:=fun k=>by
    rw[qK5,hts,jV7];by_cases e:k=l[j].col
    ·subst e;rw[Aj rfl,Aj rfl];rfl
    ·rw[Aq e,Aq (fun h=>e h.symm)];exact z2 k
   have hx:=jn9 (A++l.take j) l[j];rw[← hts] at hx;have hz:=z2 l[j].col;simp only[tZ,↓un_u,simprocAttr,Ax,qe hj,hwj,zV3,hz,← hx];refine⟨by omega,by kernel_rfl,?_⟩;refine⟨(j+1,_),⟨by dsimp only;omega,hnew⟩,by dsimp only;omega,?_⟩;exact .oA [(8192,some 8192)] []
  ·have hjl:j=l.length:=by omega
   subst hjl;rw[Bw,← hfl] at z2 ⊢
   simp only[tZ,↓un_u,simprocAttr,hwi];refine⟨(i+1,N),⟨by dsimp only;omega,z2⟩,by dsimp only;omega,?_⟩;exact .oA [(8192,some 8192)] []
 ·have hil:i=ls.length:=by omega
  subst hil;rw[Bw] at y2 ⊢
  have hbf:∀ p∈ls.flatten,0≤p.col∧p.col<n:=fun p hp=>by
   obtain⟨l,hl,hpl⟩:=List.mem_flatten.1 hp;exact hb l hl p hpl
  have hml:=kc4 (n:=n-1) (by omega) (l:=ls.flatten) fun p hp=>by have:=hbf p hp;omega
  have hmp:=jL0 ls.flatten;have hmore:canF (fun k=>mxl ls.flatten k) n=canF (fun k=>mxl ls.flatten k) ((mxc ls.flatten).toNat+1):=by
   rw[show n=(mxc ls.flatten).toNat+1+(n-((mxc ls.flatten).toNat+1)) by omega,zV6];intro k hk _;rw[qg9 fun p hp=>by have:=kc5 hp;omega];exact Int.le_refl _
  rw[hmore];obtain⟨c,hc⟩:=AJ hmp;rw[hc,Ax];have hwc:=qj (i:=c) (by omega);rw[hwc];generalize ls.flatten=A at y2 ⊢
  refine qu mixm (α:=Nat) [9,42] (fun k=>k≤c+1) (fun k=>[(9,.asl 1 (canF (fun k=>mxl A k) k).length),(42,vI k)]) (fun k=>[(8192,.mp (.ii M)),(1,.arr 2 ((canF (fun k=>mxl A k) k).map pkT) false)]) (fun k=>c+1-k) 0 (by omega) ?_ fun k hk=>?_
  ·exact .oA [(8192,some 8192),(1,none)] []
  have hcl:=zH2 (fun k=>mxl A k) k;have hcs:canF (fun k=>mxl A k) (k+1)=canF (fun k=>mxl A k) k++(if 0<mxl A k then [⟨(k:Nat),mxl A k⟩] else []):=by rw[canF]
  have hz:=y2 k;refine sD ?_;refine⟨fun h5=>?_,fun h5=>?_⟩
  ·have hwk:=qj (i:=k) (by omega);simp only[tZ,↓un_u,simprocAttr,hz,hwk,gt_iff_lt,tD];refine⟨fun h6=>?_,fun h6=>?_⟩
   ·rw[Aj h6] at hcs;refine⟨by omega,k+1,by omega,by omega,?_⟩;rw[hcs,By,AW];exact .oA [(8192,some 8192),(1,some 1)] []
   ·rw[Aq h6,CW] at hcs;refine⟨k+1,by omega,by omega,?_⟩;rw[hcs];exact .oA [(8192,some 8192),(1,some 1)] []
  ·rw[show k=c+1 by omega];exact .oA [] [1]
theorem zW0 {s:Sch} {q:Qst} (hq:QstOk s q):∀ d∈q.dims,QU s d=0∧isB s d.col 2=true:=fun d hd=>by
 by_cases h1:q.kind=1
 ·have h2:=(hq.dims h1).1;unfold Wp at h2;split at h2
  ·cases h2
  obtain⟨i,hi,rfl⟩:=CX hd;have h3:=ZO h2 i hi;have hp:pkAt q.dims i=q.dims[i]:=by rw[pkAt,qh hi]
  unfold dimE at h3;rw[hp] at h3;split at h3
  ·rename_i h4;exact absurd h3 h4
  rename_i h4;split at h3
  ·cases h3
  rename_i h5;exact⟨AQ h4,by simpa using h5⟩
 ·rw[hq.d0 h1] at hd;simp at hd
theorem jL1 {s:Sch} {q:Qst} (hq:QstOk s q):∀ c∈cnsL q,chkC s c=0:=fun c hc=>by
 unfold cnsL at hc;split at hc
 ·rename_i h;rcases Ck.1 hc with e | hc
  ·rw[e];exact hq.filt
  ·rw[Ey.1 hc];exact (hq.event h).2.2
 ·rw[Ey.1 hc];exact hq.filt
theorem jL2 {s:Sch} {q:Qst} {n:Nat} {p:Pk}:p∈usP s q n↔∃ k:Nat,k<n∧usB q k=true∧p=⟨k,jQ s k (finI s k)⟩:=by
 unfold usP;simp only[Cj,Fz,Dk];constructor
 ·rintro ⟨k,⟨h1,h2⟩,rfl⟩;exact⟨k,h1,h2,rfl⟩
 ·rintro ⟨k,h1,h2,rfl⟩;exact⟨k,⟨h1,h2⟩,rfl⟩
theorem kh6 (s:Sch) (q:Qst) (n:Nat):(usP s q n).length≤n:=by
 unfold usP;rw[BY];have:=Fx (fun k:Nat=>usB q k) (List.range n);rw[List.length_range] at this;exact this
def zj8 (s:Sch) (q:Qst):List Pk:=dmP s q++usP s q s.cols.length++(cnsL q).flatMap (jg s)
theorem zH6 {s:Sch} {q:Qst} (hq:QstOk s q):∀ p∈zj8 s q,1≤p.col∧p.col<s.cols.length:=fun p hp=>by
 unfold zj8 at hp;rcases Dz.1 hp with hp | hp
 ·rcases Dz.1 hp with hp | hp
  ·obtain⟨d,hd,rfl⟩:=Cj.1 hp;obtain⟨_,h1,h2,_⟩:=qg4 (zW0 hq d hd).1;exact⟨h1,h2⟩
  ·obtain⟨k,h1,h2,rfl⟩:=jL2.1 hp;unfold usB at h2;rw[Bq,AZ] at h2;exact⟨by dsimp only;omega,by dsimp only;omega⟩
 ·obtain⟨c,hc,hp⟩:=Ek.1 hp;exact jV8 (jL1 hq c hc) p hp
theorem qs1 {s:Sch} {q:Qst} (h:qstE s q=0):yS s q=canF (fun k=>mxl (zj8 s q) k) s.cols.length:=by
 have hq:=qA8 h;have hb:=zH6 hq;obtain⟨n1,n2⟩:=qs0 hq.filt;rw[jc1 h,n1,qQ8 _ (fun k=>qq0 _ _) fun p hp=>?_]
 ·refine qb4 fun k _=>?_;rw[← jK9 hq.filt k];have e:(cnsL q).flatMap (jg s)=jg s q.filt++evP s q:=by
   unfold cnsL evP;split <;> simp
  rw[zj8,e];simp only[zH3];omega
 ·have:p∈zj8 s q:=by
   unfold zj8;have e:(cnsL q).flatMap (jg s)=jg s q.filt++evP s q:=by
    unfold cnsL evP;split <;> simp
   rw[e];simp only[Dz] at hp ⊢
   rcases hp with (h | h) | h
   ·exact .inr (.inr h)
   ·exact .inl (.inl h)
   ·exact .inl (.inr h)
  have:=hb p this;omega
theorem qQ9 (s:Sch) (hs:yg s) (q:Qst):Spc Tryz.prog Zo [schT s,qstT q] [] (vPs (yS s q)) []:=by
 refine Zj [15] qE4 mixm (by simp) fun e _ hst=>qg ?_;unfold QD;simp only[YV,List.contains_cons,List.contains_nil,Nat.reduceBEq,Bool.or_false,Bool.or_true,Bool.true_or,Bool.false_or,cond_true,cond_false];refine sW ?_;refine C1.im (Zf s hs q) (by rfl) (by rfl) ?_;simp only[tZ,↓un_u,simprocAttr,Bj,Aw];refine⟨fun h=>?_,fun h=>?_⟩
 ·rw[yS,Aj h];exact .oA [] []
 have hq:=qA8 h;have hok:=qR hq.sch;have hnc:=hok.nc;have hnd:=hq.nd;have hnt:=hq.nt;have hck:=jL1 hq;have hcl:(cnsL q).length≤2:=by unfold cnsL;split <;> simp
 have hdl:(dmP s q).length=q.dims.length:=BY _;have hbd:=zH6 hq;refine qu mixm (α:=Nat) [5,19] (fun i=>i≤q.dims.length) (fun i=>[(5,.asl 1 ((dmP s q).take i).length),(19,vI i)]) (fun i=>[(4096,.arr 2 [schT s] false),(4100,.arr 17 [qstT q] false),(1,.arr 2 (((dmP s q).take i).map pkT) false)]) (fun i=>q.dims.length-i) 0 (by omega) ?_ fun i hi=>?_
 ·exact .oA [(4096,some 4096),(4100,some 4100),(1,none)] []
 refine sD ?_;refine⟨fun h3=>?_,fun h3=>?_⟩
 ·have hi2:i<q.dims.length:=by omega
  have hwi:=qj (i:=i) (by omega);have hts:(dmP s q).take (i+1)=(dmP s q).take i++[⟨q.dims[i].col,jQ s q.dims[i].col q.dims[i].lev⟩]:=by
   rw[qH (by omega)];simp only[dmP,Fj]
  have hLe:=qw2 s hs q.dims[i].col q.dims[i].lev;have htl:((dmP s q).take i).length≤3:=by rw[Cz];omega
  simp only[tZ,↓un_u,simprocAttr,Ax,qe hi2];refine⟨by omega,?_⟩;refine C1.im hLe (by rfl) (by rfl) ?_;simp only[tZ,↓un_u,simprocAttr,hwi];refine⟨by omega,by kernel_rfl,i+1,by omega,by omega,?_⟩;rw[hts,By,AW];exact .oA [(4096,some 4096),(4100,some 4100),(1,some 1)] []
 ·have hil:i=q.dims.length:=by omega
  subst hil;rw[← hdl,Bw];refine qu mixm (α:=Nat) [5,39] (fun i=>i≤s.cols.length) (fun i=>[(5,.asl 1 (dmP s q++usP s q i).length),(39,vI i)]) (fun i=>[(4096,.arr 2 [schT s] false),(4100,.arr 17 [qstT q] false),(1,.arr 2 ((dmP s q++usP s q i).map pkT) false)]) (fun i=>s.cols.length-i) 0 (by omega) ?_ fun i hi=>?_
  ·rw[show usP s q 0=[] from rfl,CW];exact .oA [(4096,some 4096),(4100,some 4100),(1,some 1)] []
  have hul:=kh6 s q i;have hus:=zH5 s q i;have hoL:(dmP s q++usP s q i).length≤1000000:=by rw[AW];omega
  refine sD ?_;refine⟨fun h3=>?_,fun h3=>?_⟩
  ·have hi2:i<s.cols.length:=by omega
   have hwi:=qj (i:=i) (by omega);refine C1.im (qY2 q i (by omega)) (by rfl) (by rfl) ?_;refine sW ?_;refine⟨fun h4=>?_,fun h4=>?_⟩
   ·rw[Aj h4] at hus;refine C1.im (Ww s hs i) (by rfl) (by rfl) ?_;refine sW ?_;refine C1.im (qw2 s hs i (finI s i)) (by rfl) (by rfl) ?_;simp only[tZ,↓un_u,simprocAttr,hwi];refine⟨by omega,by kernel_rfl,i+1,by omega,by omega,?_⟩;rw[hus,← Dj,By,AW (bs:=[_])];exact .oA [(4096,some 4096),(4100,some 4100),(1,some 1)] []
   ·rw[Aq (by rw[h4];simp),CW] at hus;simp only[tZ,↓un_u,simprocAttr,hwi];refine⟨i+1,by omega,by omega,?_⟩;rw[hus];exact .oA [(4096,some 4096),(4100,some 4100),(1,some 1)] []
  ·have hil:i=s.cols.length:=by omega
   subst hil;rw[qs1 h];unfold zj8 at hbd ⊢
   have hll:(dmP s q++usP s q s.cols.length).length=(dmP s q).length+(usP s q s.cols.length).length:=AW;generalize dmP s q++usP s q s.cols.length=own at hoL hbd hll ⊢
   refine W_le [(2,.ptr 4096 1 0 0),(3,.ptr 4100 1 0 0),(5,vPs own)] [(4096,.arr 2 [schT s] false),(4100,.arr 17 [qstT q] false)] ?_ ?_
   ·exact .oA [(4096,some 4096),(4100,some 4100)] [1]
   refine sW ?_;refine C1.im (qQ7 q) (by rfl) (by rfl) ?_;generalize cnsL q=L at hck hcl hbd ⊢
   refine sW ?_;refine qu mixm (α:=Nat) [9,62] (fun i=>i≤L.length) (fun i=>[(9,.asl 65540 (i+1)),(62,vI i)]) (fun i=>[(4096,.arr 2 [schT s] false),(65540,.arr 1 (vPs own::(L.take i).map fun c=>vPs (jg s c)) false)]) (fun i=>L.length-i) 0 (by omega) ?_ fun i hi=>?_
   ·exact .oA [(4096,some 4096),(65540,some 65540)] []
   have htl:(L.take i).length=i:=by rw[Cz];omega
   refine sD ?_;refine⟨fun h3=>?_,fun h3=>?_⟩
   ·have hi2:i<L.length:=by omega
    have hwi:=qj (i:=i) (by omega);have hN:=qQ6 s hs L[i];simp only[tZ,↓un_u,simprocAttr,Ax,qe hi2,zp];refine⟨by omega,?_⟩;refine C1.im hN (by rfl) (by rfl) ?_;simp only[tZ,↓un_u,simprocAttr,hwi];refine⟨by omega,i+1,by omega,by omega,?_⟩;rw[qH hi2,By];exact .oA [(4096,some 4096),(65540,some 65540)] []
   ·have hil:i=L.length:=by omega
    subst hil;rw[Bw];have hfl:(own::L.map (jg s)).flatten=own++L.flatMap (jg s):=by rw[List.flatten_cons,List.flatMap_def]
    have hbb:∀ l∈own::L.map (jg s),∀ p∈l,0≤p.col∧p.col<s.cols.length:=fun l hl p hp=>by
     have:=hbd p (by rw[← hfl];exact List.mem_flatten.2 ⟨l,hl,hp⟩);omega
    have hbl:∀ l∈own::L.map (jg s),l.length≤1000:=fun l hl=>by
     rcases Ck.1 hl with e | hl
     ·rw[e];omega
     ·obtain⟨c,_,rfl⟩:=Cj.1 hl;have:=qp3 s c;omega
    have hM:=qb5 (own::L.map (jg s)) s.cols.length (by omega) (by omega) (by rw[CJ,BY];omega) hbl hbb;rw[hfl,List.map_cons,Gz] at hM;refine C1.shut [65540] hM ?_ (by rfl) rfl ?_
    ·all_goals (try exact clA)
    refine sW ?_;exact .oA [] []
end Go.Proofs
namespace Go.Proofs
open Go Go.TL
set_option maxRecDepth 4000
set_option maxHeartbeats 8000000
theorem jL3 {s:Sch} {l:List Pk} (hE:schE s=0) (h1:∀ p∈l,QU s p=0) (h2:l.Pairwise fun a b=>a.col<b.col):ym s l=0:=by
 rw[ym,Aq (by rw[hE];simp)];refine qa8 fun i hi=>?_;have hp:pkAt l i=l[i]:=by rw[pkAt,qh hi]
 rw[zw6,hp,Aq (by rw[h1 _ (AX hi)];simp),Aq];rintro ⟨h3,h4⟩;rw[pkAt,qh (by omega)] at h4;have:=DX.1 h2 (i-1) i (by omega) hi (by omega);omega
end Go.Proofs
namespace Go.Proofs
open Go Go.TL
set_option maxRecDepth 4000
set_option maxHeartbeats 8000000
theorem jo0 (f:Nat→Int):∀ n,((canF f n).Pairwise fun a b=>a.col<b.col)∧∀ p∈canF f n,p.col<n
 | 0=>⟨List.Pairwise.nil,by simp [canF]⟩
 | n+1=>by
   obtain⟨h1,h2⟩:=jo0 f n;rw[canF];split
   ·refine⟨List.pairwise_append.2 ⟨h1,by simp,fun p hp q hq=>?_⟩,fun p hp=>?_⟩
    ·rw[Ey.1 hq];exact h2 p hp
    ·rcases Dz.1 hp with hp | hp
     ·have:=h2 p hp;omega
     ·rw[Ey.1 hp];dsimp only;omega
   ·rw[CW];exact⟨h1,fun p hp=>by have:=h2 p hp;omega⟩
theorem kh7 {s:Sch} (hE:schE s=0) {c:Nat} (h1:1≤c) (h2:c<s.cols.length) {v:Int} (h3:0≤v) (h4:v≤finI s c):QU s ⟨c,v⟩=0:=by
 rw[QU,Aq (by rw[hE];simp),Aq (by dsimp only;omega),Aq];rw[Ez,Ji];exact⟨h3,h4⟩
theorem js6 {s:Sch} (hE:schE s=0) {f:Nat→Int} (h:∀ k,k<s.cols.length→0<f k→1≤k∧f k≤finI s k):ym s (canF f s.cols.length)=0:=by
 refine jL3 hE (fun p hp=>?_) (jo0 f _).1;obtain⟨k,k1,k2,rfl⟩:=Kv.1 hp;obtain⟨h1,h2⟩:=h k k1 k2;exact kh7 hE h1 k1 (by omega) h2
theorem kc6 {l:List Pk} {k F:Int} (hF:0≤F) (h:∀ p∈l,p.col=k→p.lev≤F):mxl l k≤F:=by
 induction l with
 | nil=>exact hF
 | cons p r ih=>
   have h1:=ih fun q hq=>h q (CQ _ hq);rw[mxl];split
   ·rename_i e;have:=h p (by simp) e;omega
   ·exact h1
theorem zW1 {s:Sch} {c lev:Int} (h:0≤lev) (h2:lev≤finI s c):jQ s c lev≤lev∧0≤jQ s c lev∧divB s c.toNat (jQ s c lev).toNat lev.toNat=true∧∀ m:Nat,(m:Int)<jQ s c lev→divB s c.toNat m lev.toNat=false:=by
 have h59:lev≤59∨schE s≠0:=by
  by_cases e:schE s=0
  ·have:=qo8 (c:=c) e;exact .inl (by omega)
  ·exact .inr e
 have hE:schE s=0:=(yT (s:=s) (c:=c) (by omega)).1;have h59:=qo8 (c:=c) hE;rw[jQ,Aq (by rw[Ez,Ji];omega)];obtain⟨a,b,_,d⟩:=qA6 (p:=fun n=>divB s c.toNat n lev.toNat) (N:=lev.toNat) (zE6 s _ _) 64 0 (by omega) (by omega);refine⟨by omega,by omega,by rw[Ax];exact a,fun m hm=>d m (by omega) (by omega)⟩
theorem zH7 {s:Sch} (hE:schE s=0) {k:Nat} (h1:1≤k) (h2:k<s.cols.length):0≤finI s k:=by
 have hok:=qR hE;have hkk:=za (hok.cs k h2);have h3:=hkk.2.2.1 h1;refine (jJ5 hE (v:=k) ?_).2.2.1;rcases (show (qk s k).kind=2∨(qk s k).kind=3 by omega) with h | h
 ·exact .inl (zE.2 ⟨by omega,by omega,by rw[Ax];exact h⟩)
 ·exact .inr (zE.2 ⟨by omega,by omega,by rw[Ax];exact h⟩)
theorem kh8 {s:Sch} {c:Cnd} (h:chkC s c=0):∀ p∈atP s c,p.lev≤finI s p.col:=fun p hp=>by
 obtain⟨hE,k2,k3,k4⟩:=qo9 h;obtain⟨a,ha,rfl⟩:=Cj.1 hp;obtain⟨hnd,hia⟩:=jm5 c k4 a ha;exact (qI4 hE hnd hia).1
theorem jL4 {s:Sch} {c:Cnd} (h:chkC s c=0):∀ p∈jg s c,p.lev≤finI s p.col:=fun p hp=>by
 have hE:=(qo9 h).1;obtain⟨h1,h2⟩:=qs0 h;rw[h1,Kv] at hp;obtain⟨k,k1,k2,rfl⟩:=hp;have h0:1≤k:=by
  rcases DQ k with e | e
  ·subst e;rw[qg9 fun q hq=>by have:=h2 q hq;omega] at k2;omega
  ·exact e
 exact kc6 (zH7 hE h0 k1) fun p hp e=>by rw[← e];exact kh8 h p hp
theorem jL5 {s:Sch} {q:Qst} (hq:QstOk s q):∀ p∈zj8 s q,p.lev≤finI s p.col:=fun p hp=>by
 unfold zj8 at hp;rcases Dz.1 hp with hp | hp
 ·rcases Dz.1 hp with hp | hp
  ·obtain⟨d,hd,rfl⟩:=Cj.1 hp;obtain⟨_,h1,h2,h3,h4⟩:=qg4 (zW0 hq d hd).1;have:=zW1 h3 h4;dsimp only;omega
  ·obtain⟨k,h1,h2,rfl⟩:=jL2.1 hp;unfold usB at h2;rw[Bq,AZ] at h2;have h3:=zH7 hq.sch (k:=k) (by omega) h1;have:=zW1 h3 (Int.le_refl _);dsimp only;omega
 ·obtain⟨c,hc,hp⟩:=Ek.1 hp;exact jL4 (jL1 hq c hc) p hp
end Go.Proofs
namespace Go.Proofs
open Go Go.TL
set_option maxRecDepth 4000
set_option maxHeartbeats 8000000
structure MeasC (s:Sch) (i:Nat):Prop where
 kind:(qk s i).kind=3
 fin:finI s i=(qk s i).widths.length
 wid:∀ l:Nat,1≤l→l≤(qk s i).widths.length→1≤qD (qk s i) l
 one:qD (qk s i) (qk s i).widths.length=1
 lh : -1000000≤(qk s i).low∧(qk s i).low≤(qk s i).high∧(qk s i).high≤1000000
 nw:1≤(qk s i).widths.length
 dv:∀ {o l:Nat},1≤o→o<l→l≤(qk s i).widths.length→∃ k:Int,2≤k∧qD (qk s i) o=k*qD (qk s i) l
end Go.Proofs
namespace Go.Proofs
open Go Go.TL
set_option maxRecDepth 4000
set_option maxHeartbeats 8000000
end Go.Proofs
namespace Go.Proofs
open Go Go.TL
set_option maxRecDepth 4000
set_option maxHeartbeats 8000000
theorem jL6:∀ {l:List Pk} {p:Pk},p∈l→p.lev≤mxl l p.col
 | q::r,p,h=>by
   rw[mxl];rcases Ck.1 h with e | h
   ·subst e;rw[Aj rfl];omega
   ·have:=jL6 h;split <;> omega
theorem zH8:∀ {l:List Pk} {k:Int},0<mxl l k→∃ p∈l,p.col=k∧p.lev=mxl l k
 | [],k,h=>by rw[mxl] at h;omega
 | p::r,k,h=>by
   rw[mxl] at h ⊢
   by_cases e:p.col=k
   ·rw[Aj e] at h ⊢
    by_cases h2:mxl r k≤p.lev
    ·exact⟨p,by simp,e,by omega⟩
    ·obtain⟨x,h3,h4,h5⟩:=zH8 (l:=r) (k:=k) (by omega);exact⟨x,CQ _ h3,h4,by omega⟩
   ·rw[Aq e] at h ⊢
    obtain⟨x,h3,h4,h5⟩:=zH8 (l:=r) (k:=k) h;exact⟨x,CQ _ h3,h4,h5⟩
end Go.Proofs
namespace Go.Proofs
open Go Go.TL
set_option maxRecDepth 4000
set_option maxHeartbeats 8000000
theorem qq1 (x y:Qst):Spc Tryz.prog jD [qstT x,.ip (qstT y).cells] [] (vB (eqB x.name y.name)) []:=by
 refine qd qi5 mixm (by simp) fun e _ hst=>qg ?_;unfold kS;refine sW ?_;rw[show (x.name.toList==y.name.toList)=eqB x.name y.name from rfl];exact .oA [] []
theorem Wz (p:Qst→Bool) (f:FuncId) (caps:List T) (hcap:imL caps=true) (l:List Qst) (hf:∀ y∈l,Spc Tryz.prog f (qstT y::caps) [] (vB (p y)) []) (hl:l.length<4611686018427387904) :
 Spc Tryz.prog jj [.sl 17 (l.map qstT),.clo f caps] [] (vI (idxI p l)) []:=by
 refine qd Kn mixm (by simp) fun e _ hst=>qg ?_;unfold zX;refine sW ?_;refine qu mixm (α:=Nat) [8] (fun i=>i≤l.length∧((l.take i).any p=false)) (fun i=>[(8,vI i)]) (fun i=>[]) (fun i=>l.length-i) 0 ⟨by omega,?_⟩ ?_ fun i hi=>?_
 ·simp
 ·exact .oA [] []
 simp only[tZ,↓un_u,simprocAttr,AZ,Ay];refine⟨fun h=>?_,fun h=>?_⟩
 ·have hi2:i<l.length:=by omega
  have hwi:=qj (i:=i) (by omega);simp only[tZ,↓un_u,simprocAttr,Ax,qe hi2,hwi,qw9];refine⟨by omega,?_⟩;refine C1.im (hf l[i] (AX hi2)) (YW rfl hcap) rfl ?_;refine sW ?_;refine⟨fun h3=>?_,fun h3=>⟨i+1,⟨by omega,ki hi2 hi.2 h3⟩,by omega,?_⟩⟩
  ·rw[idxI,Aj (zw2 hi2 h3),yX hi2 hi.2 h3];exact .imR rfl rfl
  ·exact .oA [] []
 ·have h2:i=l.length:=by omega
  have h3:=hi.2;rw[h2,Bw] at h3;rw[idxI,Aq (by rw[h3];simp)];exact .imR rfl rfl
theorem Jk (p:Qst→Bool) (f:FuncId) (caps:List T) (hcap:imL caps=true) (l:List Qst) (hf:∀ y∈l,Spc Tryz.prog f (qstT y::caps) [] (vB (p y)) []) (hl:l.length<4611686018427387904) :
 Spc Tryz.prog zJ [.sl 17 (l.map qstT),.clo f caps] [] (vB (l.any p)) []:=by
 refine qd ZE mixm (by simp) fun e _ hst=>qg ?_;unfold zB;refine sW ?_;refine C1.im (Wz p f caps hcap l hf hl) (ZU rfl hcap) rfl ?_;refine sW ?_;rw[show decide (idxI p l≥0)=l.any p from zd4 p l];exact .imR rfl rfl
theorem WA (s:Sch) (hs:yg s) (d:Dcl):Spc Tryz.prog kj [schT s,dclT d] [] (vI (dclE s d)) []:=by
 refine qd qt2 mixm (by simp) fun e _ hst=>qg ?_;unfold wZ;refine sW ?_;refine C1.im (jd s hs.2.1 hs.1) (by rfl) (by rfl) ?_;simp only[tZ,↓un_u,simprocAttr,Bj,Aw];refine⟨fun h=>?_,fun h=>?_⟩
 ·rw[dclE,Aj h];exact .oA [] []
 rw[dclE,Aq (by rw[h];simp)];refine C1.im (wz d.proj) (by rfl) (by rfl) ?_;refine sW ?_;refine C2.im (fun _=>wz d.src) (fun _=>rfl) (by rfl) ?_;simp only[tZ,↓un_u,simprocAttr,tD,Bx,Bz];refine⟨fun h2=>?_,fun h2=>?_⟩
 ·rw[Aj h2];exact .oA [] []
 rw[Aq (by rw[h2.1,h2.2];simp)];refine C1.im (kg s hs d.coh) (by rfl) (by rfl) ?_;simp only[tZ,↓un_u,simprocAttr,Bj,Aw];refine⟨fun h3=>?_,fun h3=>?_⟩
 ·rw[Aj h3];exact .oA [] []
 rw[Aq (by rw[h3];simp)];simp only[tZ,↓un_u,simprocAttr,tD,gt_iff_lt,AY,Ak];refine⟨fun h4=>?_,fun h4=>?_⟩
 ·have:smpE d.smp≠0:=by rw[smpE,Aj (by omega)];simp
  rw[Aj this];exact .oA [] []
 have h5:smpE d.smp=0:=by rw[smpE,Aq (by omega)]
 rw[Aq (by rw[h5];simp)];refine⟨fun h6=>?_,fun h6=>?_⟩
 ·rw[Aj (by omega)];exact .oA [] []
 rw[Aq (by omega)];generalize hE:zF (qsE s d.qs) d.qs.length=E;refine qu mixm (α:=Nat) [80] (fun i=>i≤d.qs.length∧(zF (qsE s d.qs) i=0)) (fun i=>[(80,vI i)]) (fun i=>[(4096,.arr 2 [schT s] false),(4100,.arr 12 [dclT d] false)]) (fun i=>d.qs.length-i) 0 ⟨by omega,?_⟩ ?_ fun i hi=>?_
 ·rfl
 ·exact .oA [(4096,some 4096),(4100,some 4100)] []
 simp only[tZ,↓un_u,simprocAttr,AZ,Ay];refine⟨fun h=>?_,fun h=>?_⟩
 ·have hi2:i<d.qs.length:=by omega
  have hpi:qAt d.qs i=d.qs[i]:=by rw[qAt,qh hi2]
  have hstep:=Qc hi.2 hi2;have hnext:=jP hi.2;have hA:qsE s d.qs i=if qstE s d.qs[i]≠0 then qstE s d.qs[i] else if ((d.qs.take i).any fun x=>eqB x.name d.qs[i].name)=true then 10 else 0:=by rw[qsE,hpi]
  rw[hE] at hstep;have hQ:=Zf s hs d.qs[i];have hCF:=Jk (fun x=>eqB x.name d.qs[i].name) jD [.ip (qstT d.qs[i]).cells] rfl (d.qs.take i) (fun x _=>qq1 x d.qs[i]) (by rw[Cz];omega);have hi2:i<d.qs.length:=by omega
  have hwi:=qj (i:=i) (by omega);simp only[tZ,↓un_u,simprocAttr,Ax,qe hi2,hwi];refine⟨by omega,?_⟩;refine C1.im hQ (by rfl) (by rfl) ?_;simp only[tZ,↓un_u,simprocAttr,Bj,Aw];refine⟨fun h7=>?_,fun h7=>?_⟩
  ·rw[Aj h7] at hA;rw[hstep (by rw[hA];exact h7),hA];exact .oA [] []
  rw[Aq (by rw[h7];simp)] at hA;refine⟨by omega,?_⟩;rw[qk6,zd3];refine C1.lend [69644] hCF ?_ (by rfl) (by rfl) ?_
  ·all_goals (try simp only[tL,simprocAttr,By,List.map_cons,List.map_nil,BW,Cy])
   all_goals (try (repeat' (first | exact zb | (apply zy;intro _;exact⟨rfl,rfl⟩) | (apply qE;intro _;exact⟨rfl,rfl⟩) | with_reducible apply qW | with_reducible refine qS ⟨rfl,rfl⟩ ?_ | exact qY | with_reducible apply qT | with_reducible refine qV ⟨rfl,rfl,?_⟩ ?_ | with_reducible apply Az | exact qU rfl | exact qU (by assumption) | (refine⟨⟨?_,rfl,?_,rfl,?_⟩,trivial⟩ <;> first | (simp;done) | (apply qE;intro _;exact⟨rfl,rfl⟩)) | trivial | rfl | (rw[qj (by omega)]) | omega)))
   simp only[ltP];exact⟨rfl,by decide,rfl,qS ⟨rfl,rfl⟩ qY⟩
  simp only[tZ,↓un_u,simprocAttr,hwi];refine⟨fun h8=>?_,fun h8=>?_⟩
  ·rw[Aj h8] at hA;rw[hstep (by rw[hA];simp),hA];exact .oA [] []
  ·rw[Aq (by rw[h8];simp)] at hA;refine⟨i+1,⟨by omega,by rw[hnext,hA]⟩,by omega,?_⟩;exact .oA [(4096,some 4096),(4100,some 4100)] []
 ·have hi2:i=d.qs.length:=by omega
  subst hi2;rw[← hE,hi.2];exact .oA [] []
def jL7 (s:Sch) (qs:List Qst):List Pk:=qs.flatMap (yS s)
theorem qZ7 {s:Sch} (q:Qst):∀ p∈yS s q,1≤p.col∧p.col<s.cols.length:=fun p hp=>by
 by_cases h:qstE s q=0
 ·have hq:=qA8 h;rw[qs1 h] at hp;obtain⟨k,k1,k2,rfl⟩:=Kv.1 hp;refine⟨?_,by dsimp only;omega⟩;dsimp only;rcases DQ k with e | e
  ·subst e;rw[qg9 fun q' hq'=>by have:=zH6 hq q' hq';omega] at k2;omega
  ·omega
 ·rw[yS,Aj h] at hp;simp at hp
theorem qs2 {s:Sch} {d:Dcl} (h:dclE s d=0):ZP s d=canF (fun k=>mxl (jL7 s d.qs) k) s.cols.length:=by
 rw[ZP,Aq (by rw[h];simp)];have key:∀ qs:List Qst,∀ l,qs.foldl (fun l q=>Qf l (yS s q)) l=Qf l (jL7 s qs):=by
  intro qs
  induction qs with
  | nil=>intro l;rfl
  | cons q r ih=>
    intro l;rw[Dw,ih,← qK7];rfl
 rw[key];refine zV8 fun p hp=>?_;obtain⟨q,hq,hp⟩:=Ek.1 hp;have:=qZ7 q p hp;omega
theorem zj9 (s:Sch) (hs:yg s) (d:Dcl) (h:dclE s d=0):Spc Tryz.prog KG [schT s,dclT d] [] (vPs (ZP s d)) []:=by
 obtain⟨hE,_,_,_,_,hq1,hq2,_⟩:=qP3 h;have hnc:=(qR hE).nc;rw[qs2 h,jL7,List.flatMap_def];have hbl:∀ l∈d.qs.map (yS s),l.length≤1000:=fun l hl=>by
  obtain⟨q,_,rfl⟩:=Cj.1 hl;have:=zi7 s q;omega
 have hbb:∀ l∈d.qs.map (yS s),∀ p∈l,0≤p.col∧p.col<s.cols.length:=fun l hl p hp=>by
  obtain⟨q,_,rfl⟩:=Cj.1 hl;have:=qZ7 q p hp;omega
 have hM:=qb5 (d.qs.map (yS s)) s.cols.length (by omega) (by omega) (by rw[BY];omega) hbl hbb;refine qd qU3 mixm (by simp) fun e _ hst=>qg ?_;unfold Jx;refine sW ?_;refine qu mixm (α:=Nat) [5,11] (fun i=>i≤d.qs.length) (fun i=>[(5,.asl 1 i),(11,vI i)]) (fun i=>[(4096,.arr 2 [schT s] false),(1,.arr 1 ((d.qs.take i).map fun q=>vPs (yS s q)) false)]) (fun i=>d.qs.length-i) 0 (by omega) ?_ fun i hi=>?_
 ·exact .oA [(4096,some 4096),(1,none)] []
 have htl:(d.qs.take i).length=i:=by rw[Cz];omega
 refine sD ?_;refine⟨fun h3=>?_,fun h3=>?_⟩
 ·have hi2:i<d.qs.length:=by omega
  have hwi:=qj (i:=i) (by omega);have hN:=qQ9 s hs d.qs[i];simp only[tZ,↓un_u,simprocAttr,Ax,qe hi2];refine⟨by omega,?_⟩;refine C1.im hN (by rfl) (by rfl) ?_;simp only[tZ,↓un_u,simprocAttr,hwi];refine⟨by omega,i+1,by omega,by omega,?_⟩;rw[qH hi2,By];exact .oA [(4096,some 4096),(1,some 1)] []
 ·have hil:i=d.qs.length:=by omega
  subst hil;rw[Bw];rw[Gz] at hM;refine C1.shut [1] hM ?_ (by rfl) rfl ?_
  ·all_goals (try exact clA)
  refine sW ?_;exact .oA [] []
theorem qR0 (a b:List Pk) (ha:a.length<4611686018427387904) (hb:b.length<4611686018427387904):Spc Tryz.prog Zm [vPs a,vPs b] [] (vB (covB a b)) []:=by
 refine qd qD7 mixm (by simp) fun e _ hst=>qg ?_;unfold QA;refine sW ?_;refine C1.im (qK6 b a hb ha) (by rfl) (by rfl) ?_;refine sW ?_;exact .oA [] []
theorem qZ8 {a b:List Pk}:covB a b=true↔∀ x∈a,∃ y∈b,y.col=x.col∧x.lev≤y.lev:=by
 unfold covB;simp only[Bk,DJ,Bq,AY,AZ]
theorem jL8 {s:Sch} {d:Dcl} (h:dclE s d=0) (l:List Pk) (hl:l.Pairwise fun a b=>a.col<b.col):covB (ZP s d) l=d.qs.all fun q=>covB (yS s q) l:=by
 rw[Bool.eq_iff_iff,qZ8,Bk,qs2 h];constructor
 ·intro H q hq;rw[qZ8];intro x hx;have hb:=qZ7 q x hx;have hm:x∈jL7 s d.qs:=Ek.2 ⟨q,hq,hx⟩;have hge:=jL6 hm;obtain⟨k,hk⟩:=AJ (show 0≤x.col by omega);rw[hk] at hge;have hx0:0<x.lev:=by
   by_cases hq0:qstE s q=0
   ·rw[qs1 hq0] at hx;obtain⟨_,_,k2,rfl⟩:=Kv.1 hx;exact k2
   ·rw[yS,Aj hq0] at hx;simp at hx
  obtain⟨y,hy,e1,e2⟩:=H ⟨k,mxl (jL7 s d.qs) k⟩ (Kv.2 ⟨k,by omega,by omega,rfl⟩);exact⟨y,hy,by rw[e1,hk],by dsimp only at e2;omega⟩
 ·intro H x hx;obtain⟨k,k1,k2,rfl⟩:=Kv.1 hx;obtain⟨p,hp,e1,e2⟩:=zH8 k2;obtain⟨q,hq,hp2⟩:=Ek.1 hp;obtain⟨y,hy,e3,e4⟩:=qZ8.1 (H q hq) p hp2;exact⟨y,hy,by rw[e3,e1],by dsimp only;omega⟩
theorem jo1 {s:Sch} {d:Dcl} (h:dclE s d=0) {l:List Pk} (hl:ym s l=0):zh9 s d l=if covB (ZP s d) l=true then 0 else 23:=by
 obtain⟨_,_,hasc⟩:=qa9 hl;obtain⟨_,_,_,_,_,_,_,hqs⟩:=qP3 h;rw[zh9,Aq (by rw[h];simp),Aq (by rw[hl];simp),jL8 h l hasc];have hs:∀ i,i<d.qs.length→sufB s (qAt d.qs i) l=covB (yS s (qAt d.qs i)) l:=fun i hi=>by
  rw[sufB,hqs i hi,hl];simp
 by_cases hall:(d.qs.all fun q=>covB (yS s q) l)=true
 ·rw[Aj hall];refine qa8 fun i hi=>?_;have:=Bk.1 hall (qAt d.qs i) (by rw[qAt,qh hi];exact AX _);rw[hs i hi,this];rfl
 ·rw[Aq hall];refine AQ fun hne=>hall ?_;rw[Bk];intro q hq;obtain⟨i,hi,rfl⟩:=CX hq;have key:∀ n,n≤d.qs.length→(zF (fun i=>if sufB s (qAt d.qs i) l=true then 0 else 23) n=0∨zF (fun i=>if sufB s (qAt d.qs i) l=true then 0 else 23) n=23):=by
   intro n
   induction n with
   | zero=>intro _;exact .inl rfl
   | succ n ih=>
     intro hn;rw[zF];rcases ih (by omega) with e | e
     ·rw[Aq (by rw[e];simp)];split <;> simp
     ·rw[Aj (by rw[e];simp)];exact .inr e
  have h0:=(key _ (BZ _)).resolve_right hne;have:=ZO h0 i hi;rw[hs i hi,qAt,qh hi] at this;by_cases e:covB (yS s d.qs[i]) l=true
  ·exact e
  ·rw[Aq e] at this;cases this
theorem qY3 (s:Sch) (hs:yg s) (d:Dcl) (l:List Pk) (hl:l.length<4611686018427387904):Spc Tryz.prog Jn [schT s,dclT d,vPs l] [] (vI (zh9 s d l)) []:=by
 have hpl:=zT8 s d;refine qd qM4 mixm (by simp) fun e _ hst=>qg ?_;unfold Zx;refine sW ?_;refine C1.im (WA s hs d) (by rfl) (by rfl) ?_;simp only[tZ,↓un_u,simprocAttr,Bj,Aw];refine⟨fun h=>?_,fun h=>?_⟩
 ·rw[zh9,Aj h];exact .oA [] []
 refine C1.im (qw1 s hs l hl) (by rfl) (by rfl) ?_;simp only[tZ,↓un_u,simprocAttr,Bj,Aw];refine⟨fun h2=>?_,fun h2=>?_⟩
 ·rw[zh9,Aq (by rw[h];simp),Aj h2];exact .oA [] []
 rw[jo1 h h2];refine C1.im (zj9 s hs d h) (by rfl) (by rfl) ?_;refine sW ?_;refine C1.im (qR0 (ZP s d) l (by omega) hl) (by rfl) (by rfl) ?_;simp only[tZ,↓un_u,simprocAttr,Bx,Bz];refine⟨fun h3=>?_,fun h3=>?_⟩
 ·rw[Aq (by rw[h3];simp)];exact .oA [] []
 ·rw[Aj h3];exact .oA [] []
end Go.Proofs
namespace Go.Proofs
open Go Go.TL
set_option maxRecDepth 4000
set_option maxHeartbeats 8000000
open So
theorem zs7 (x:Smp):Spc Tryz.prog WW [smpT x] [] (vI (smpE x)) []:=by
 refine qd zg6 mixm (by simp) fun e _ hst=>qg ?_;unfold Wi;refine sD ?_;refine⟨fun h=>?_,fun h=>?_⟩
 ·rw[smpE,Aj (by omega)];exact .oA [] []
 ·rw[smpE,Aq (by omega)];exact .oA [] []
theorem zH9 (seed id:Int):Spc Tryz.prog qd4 [vI seed,vI id] [] (vI (drwI seed id)) []:=by
 refine qd zr6 mixm (by simp) fun e _ hst=>qg ?_;unfold YE;refine sW ?_;refine qu mixm (α:=Nat) [5,14] (fun i=>i≤3) (fun i=>[(5,vU64 (iter drwX i (drw0 seed id))),(14,vI i)]) (fun i=>[]) (fun i=>3-i) 0 (by omega) ?_ fun i hi=>?_
 ·exact .oA [] []
 have hwi:=qj (i:=i) (by omega);refine sD ?_;refine⟨fun h=>?_,fun h=>?_⟩
 ·simp only[tZ,↓un_u,simprocAttr,hwi];refine⟨i+1,by omega,by omega,?_⟩;show Le _ _ ⟨(5,vU64 (drwX (iter drwX i (drw0 seed id))))::_,_⟩;exact .oA [] []
 ·have:i=3:=by omega
  subst this;exact .oA [] []
theorem jc2 (x:Smp) (id:Int):Spc Tryz.prog qx5 [smpT x,vI id] [] (vB (inS x id)) []:=by
 refine qd zR4 mixm (by simp) fun e _ hst=>qg ?_;unfold qn2;refine sW ?_;refine C1.im (zs7 x) (by rfl) (by rfl) ?_;refine sW ?_;refine C2.im (fun _=>zH9 x.seed id) (fun _=>rfl) (by rfl) ?_;refine sW ?_;rw[show (smpE x==0&&decide (id≥1)&&decide (id≤1048575)&&decide ((drwI x.seed id).tmod x.of<x.part))=inS x id from rfl];refine⟨fun h=>?_,by kernel_rfl,?_⟩
 ·simp only[tD,AY] at h;have:=h.1.1;unfold smpE at this
  grind
 ·exact .oA [] []
theorem qY4 (s:Sch) (row:List Int) (f:FuncId) (caps:List T) (hcap:imL caps=true) (hf:∀ a,NdOk s a→isAt a=true→Spc Tryz.prog f (cnT a::caps) [] (vI (QT s a (row.getD a.col.toNat 0))) []):∀ (c:Cnd),nodE s c=0→Spc Tryz.prog zu [cnT c,.clo f caps] [] (vI (evC s row c)) []:=by
 refine Cnd.ind' fun c ih hE=>?_;obtain⟨hE1,hE2⟩:=jb1 hE;have hnd:=jm3 hE1;have hnk:=hnd.nk;have hop:=hnd.op;rw[jI5];by_cases h1:c.op=1
 ·have q:(c.op==1)=true:=AY.2 h1;rw[Aq (by simp [isAt,h1]),show qA4 c.op _=1 by rw[qA4,Aq (by omega),Aq (by omega),Aq (by omega)]];refine qd ka mixm (by simp) fun e _ hst=>qg ?_;unfold zD;simp only[tZ,↓un_u,simprocAttr,q];exact .oA [] []
 have q1:(c.op==1)=false:=Ak.2 h1;by_cases h5:c.op=5
 ·have q5:(c.op==5)=true:=AY.2 h5;have hk:c.kids.length=2:=by rw[hnk,h5];rfl
  have k0:0<c.kids.length:=by omega
  have k1:1<c.kids.length:=by omega
  have hS0:=ih _ (AX k0) (hE2 _ (AX k0));have hS1:=ih _ (AX k1) (hE2 _ (AX k1));have g0:=jm8 s row c.kids[0];have g1:=jm8 s row c.kids[1];rw[Aq (by simp [isAt,h5]),qA4,Aq (by omega),Aj h5,qh (by rw[BY];omega),qh (by rw[BY];omega),Fj,Fj];have hm:minI (evC s row c.kids[0]) (evC s row c.kids[1])=min (evC s row c.kids[0]) (evC s row c.kids[1]):=by unfold minI;omega
  refine qd ka mixm (by simp) fun e _ hst=>qg ?_;unfold zD;simp only[tZ,↓un_u,simprocAttr,q1,q5,qe k0,qe k1,zp];refine⟨by omega,?_⟩;refine C1.im hS0 (ZU rfl hcap) (by rfl) ?_;simp only[tZ,↓un_u,simprocAttr,qe k1,zp];refine⟨by omega,?_⟩;refine C1.im hS1 (ZU rfl hcap) (by rfl) ?_;simp only[tZ,↓un_u,simprocAttr,hm];refine⟨by kernel_rfl,?_⟩;exact .oA [] []
 have q5:(c.op==5)=false:=Ak.2 h5;by_cases h6:c.op=6
 ·have q6:(c.op==6)=true:=AY.2 h6;have hk:c.kids.length=2:=by rw[hnk,h6];rfl
  have k0:0<c.kids.length:=by omega
  have k1:1<c.kids.length:=by omega
  have hS0:=ih _ (AX k0) (hE2 _ (AX k0));have hS1:=ih _ (AX k1) (hE2 _ (AX k1));rw[Aq (by simp [isAt,h6]),qA4,Aq (by omega),Aq (by omega),Aj h6,qh (by rw[BY];omega),qh (by rw[BY];omega),Fj,Fj];have hm:maxI (evC s row c.kids[0]) (evC s row c.kids[1])=max (evC s row c.kids[0]) (evC s row c.kids[1]):=by unfold maxI;omega
  refine qd ka mixm (by simp) fun e _ hst=>qg ?_;unfold zD;simp only[tZ,↓un_u,simprocAttr,q1,q5,q6,qe k0,qe k1,zp];refine⟨by omega,?_⟩;refine C1.im hS0 (ZU rfl hcap) (by rfl) ?_;simp only[tZ,↓un_u,simprocAttr,qe k1,zp];refine⟨by omega,?_⟩;refine C1.im hS1 (ZU rfl hcap) (by rfl) ?_;simp only[tZ,↓un_u,simprocAttr,hm];refine⟨by kernel_rfl,?_⟩;exact .oA [] []
 have q6:(c.op==6)=false:=Ak.2 h6;by_cases h7:c.op=7
 ·have q7:(c.op==7)=true:=AY.2 h7;have hk:c.kids.length=1:=by rw[hnk,h7];rfl
  have k0:0<c.kids.length:=by omega
  have hS0:=ih _ (AX k0) (hE2 _ (AX k0));have g0:=jm8 s row c.kids[0];rw[Aq (by simp [isAt,h7]),qA4,Aj h7,qh (by rw[BY];omega),Fj];have hw:IntKind.i64.wrap ((0:Int)-evC s row c.kids[0]) =-evC s row c.kids[0]:=by rw[AK _ (by omega)];omega
  refine qd ka mixm (by simp) fun e _ hst=>qg ?_;unfold zD;simp only[tZ,↓un_u,simprocAttr,q1,q5,q6,q7,qe k0,zp];refine⟨by omega,?_⟩;refine C1.im hS0 (ZU rfl hcap) (by rfl) ?_;simp only[tZ,↓un_u,simprocAttr,hw];exact .oA [] []
 have q7:(c.op==7)=false:=Ak.2 h7;have ha:isAt c=true:=by
  simp only[isAt,tD,AY];omega
 rw[Aj ha];refine qd ka mixm (by simp) fun e _ hst=>qg ?_;unfold zD;simp only[tZ,↓un_u,simprocAttr,q1,q5,q6,q7];refine C1.im (hf c hnd ha) (YW rfl hcap) rfl ?_;refine sW ?_;exact .oA [] []
theorem qR1 (s:Sch) (hok:SchOk s) (row:List Int) (hr:row.length=s.cols.length) (c:Cnd) (hc:nodE s c=0):Spc Tryz.prog Zs [schT s,cnT c,vIs row] [] (vI (evC s row c)) []:=by
 have h1:∀ a,NdOk s a→isAt a=true→Spc Tryz.prog ky [cnT a,.ip (schT s).cells,.ip [vIs row]] [] (vI (QT s a (row.getD a.col.toNat 0))) []:=fun a ha ha2=>by
  have hb:∃ k,isB s a.col k=true:=by
   simp only[isAt,tD,AY] at ha2;rcases ha2 with (h | h) | h
   ·exact⟨2,(ha.under h).1⟩
   ·exact⟨3,(ha.between h).1⟩
   ·exact⟨3,(ha.miss h).1⟩
  obtain⟨kk,hb⟩:=hb;obtain⟨b1,b2,_⟩:=zE.1 hb;have hil:a.col.toNat<row.length:=by omega
  rw[qh hil];refine qd qu2 mixm (by simp) fun e _ hst=>qg ?_;unfold ye;simp only[tZ,↓un_u,simprocAttr,qe hil];refine⟨by omega,?_⟩;refine C1.im (qh5 s hok a ha ha2 _) (by rfl) (by rfl) ?_;refine sW ?_;refine⟨by kernel_rfl,?_⟩;exact .oA [] []
 have h2:=qY4 s row ky [.ip (schT s).cells,.ip [vIs row]] rfl h1 c hc;refine qd qG0 mixm (by simp) fun e _ hst=>qg ?_;unfold QL;refine sW ?_;refine C1.lend [4096,4104] h2 ?_ (by rfl) (by rfl) ?_
 ·all_goals (try simp only[tL,simprocAttr,By,List.map_cons,List.map_nil,BW,Cy])
  all_goals (try (repeat' (first | exact zb | (apply zy;intro _;exact⟨rfl,rfl⟩) | (apply qE;intro _;exact⟨rfl,rfl⟩) | with_reducible apply qW | with_reducible refine qS ⟨rfl,rfl⟩ ?_ | exact qY | with_reducible apply qT | with_reducible refine qV ⟨rfl,rfl,?_⟩ ?_ | with_reducible apply Az | exact qU rfl | exact qU (by assumption) | (refine⟨⟨?_,rfl,?_,rfl,?_⟩,trivial⟩ <;> first | (simp;done) | (apply qE;intro _;exact⟨rfl,rfl⟩)) | trivial | rfl | (rw[qj (by omega)]) | omega)))
  all_goals (simp only[ltP];exact⟨rfl,by decide,rfl,qS ⟨rfl,rfl⟩ qY⟩)
 refine sW ?_;exact .oA [] []
end Go.Proofs
namespace Go.Proofs
open Go Go.TL
set_option maxRecDepth 4000
set_option maxHeartbeats 8000000
open So
end Go.Proofs
namespace Go.Proofs
open Go Go.TL
set_option maxRecDepth 4000
set_option maxHeartbeats 8000000
open So
end Go.Proofs
namespace Go.Proofs
open Go Go.TL
set_option maxRecDepth 4000
set_option maxHeartbeats 8000000
open So
end Go.Proofs
namespace Go.Proofs
open Go Go.TL
set_option maxRecDepth 4000
section
variable {P:Program} {st:Sto} {e:Env} {kss:List (Nat×List Nat)} {Q:Ex→St→Prop} {K:List KF} {rows:Option (List Nat)} {ks:List Nat} {nid:Nat} {ops:List ROp} {F:XF} {acc:Acc}
theorem C1.cut0 {fid:FuncId} {caps xs ts':List T} {d:Option Nat} {ys zs:List T} {m:Nat} (id nid' k:Nat) (hs:Spc P fid ts' [(0,.arr k zs false)] (.asl 1 m) [(0,.dead),(1,.arr k ys false)]) (hg:TL.get st id=some (.arr k zs false)) (hz:ImXs k zs) (hy:ImXs k ys)
 (hn:TL.get st nid'=none) (ha:ltAs st [(0,some id)] [] (xs++caps) ts')
 (h:R P e kss Q rows ks K nid ops (putX F d (.p (.asl nid' m))) (stUp st [(id,.dead),(nid',.arr k ys false)]) (acc++[([]++[id,nid'],[id,nid'])])):C1 P e kss Q rows ks K (.clo fid caps) xs d nid ops F st acc:=by
 have hne:id≠nid':=fun e=>by subst e;rw[hg] at hn;cases hn
 refine C1.of [(0,some id)] [(nid',some 1)] [] [(id,.dead),(nid',.arr k ys false)] hs ha (by simp [Zk,TL.get]) ?_ (by rfl) (by simp [TL.get]) ?_ ?_ (by rfl) ?_ (.inl (by rfl)) h
 ·refine⟨?_,trivial⟩;simp only[TL.get,if_true,ltO2,hg,ltO1];exact⟨trivial,by simp,yh hz,by simp⟩
 ·refine⟨?_,trivial⟩;simp only[TL.get,if_true,wrO,ltO1,Nat.reduceEqDiff,↓reduceIte,reduceCtorEq];exact⟨⟨trivial,by simp,yh hy,by simp⟩,.inl hn⟩
 ·simp [Zk,TL.get,hne]
 ·exact⟨by simp [TL.get],rfl⟩
end
end Go.Proofs
namespace Go.Proofs
open Go Go.TL
set_option maxRecDepth 4000
set_option maxHeartbeats 8000000
open So
end Go.Proofs
