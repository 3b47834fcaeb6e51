/- A part of the proof: trees of Go values, short forms, contracts. -/
import Derived.Test.YtnfagfikoblhfaaGreatDoorK16
set_option linter.unusedSimpArgs false
set_option linter.unusedVariables false
namespace Go.Proofs
open Go Go.TL
set_option maxHeartbeats 4000000
theorem qu8 (s:Sch) (col kind:Int):Sp 203 [schT s,vI col,vI kind] [] (vB (isB s col kind)) []:=by
 by_cases h:0≤col∧col<s.cols.length
 ·obtain⟨i,rfl⟩:=AJ h.1;have hi:i<s.cols.length:=by omega
  have e1:decide ((i:Int)≥0)=true:=Cx oM;have e2:decide ((i:Int)<s.cols.length)=true:=Cx oM;have e3:isB s i kind=(s.cols[i].kind==kind):=by
   rw[isB,Ax,qg,qk hi,Cx h.1,Cx h.2];rfl
  refine sIr qh0 fun e _ hst=>?_;unfold ZH;simp only[tZ,↓un_u,simprocAttr,e1,e2,Ax,qd hi];rw[e3];refine⟨oM,?_⟩;exact .oA [] []
 ·have e1:(decide (col≥0)&&decide (col<(s.cols.length:Int)))=false:=by
   rw[FK,Ay,Ay];omega
  have e3:isB s col kind=false:=by
   unfold isB;rw[show (decide (0≤col)&&decide (col<(s.cols.length:Int)))=false from e1];rfl
  rcases Nat.lt_or_ge col.toNat s.cols.length with hk | hk
  ·refine sIr qh0 fun e _ hst=>?_;unfold ZH;simp only[tZ,↓un_u,simprocAttr,e1,qd hk];rw[e3];exact .oA [] []
  ·have hj:(s.cols.map colT).getD col.toNat .junk = .junk:=qo0 hk;refine sIr qh0 fun e _ hst=>?_;unfold ZH;simp only[tZ,↓un_u,simprocAttr,e1,hj,List.drop_succ_cons,List.drop_nil];rw[e3];exact .oA [] []
theorem zp4 (s:Sch) (hs:yZ s) (l:List Pk):Sp 204 [schT s,vPs l] [] (vI (ZS s l)) []:=by
 refine sIr za4 fun e _ hst=>?_;unfold We;refine sD ?_;refine⟨fun h=>?_,fun h=>?_⟩
 ·rw[ZS,Aj oM];exact .oA [] []
 rw[ZS,Aq oM];refine qy mixm (α:=Nat) [5,15] (fun i=>i≤l.length∧jb (dimE s l) i=0) (fun i=>[(5,vI i)]) (fun i=>[aR 4096 2 [schT s]]) (fun i=>l.length-i) 0 ⟨oM,rfl⟩ ?_ fun i hi=>?_
 ·exact .oA (U1 4096) []
 refine sD ?_;refine⟨fun h3=>?_,fun h3=>?_⟩
 ·have hi2:i<l.length:=by omega
  have hwi:=qh (i:=i) oM;have hpi:pkAt l i=l[i]:=by rw[pkAt,qk hi2]
  have hstep:=Zp hi.2 hi2;have hnext:=kK hi.2;have hA:dimE s l i=if Qq s l[i]≠0 then Qq s l[i] else if isB s l[i].col 2=false then 7 else if ((l.take i).any fun x=>x.col==l[i].col)=true then 10 else 0:=by rw[dimE,hpi]
  simp only[tZ,↓un_u,simprocAttr,Ax,qd hi2];refine⟨oM,?_⟩;refine C1.im (zo6 s hs l[i]) rF rF ?_;simp only[tZ,↓un_u,simprocAttr,Bj,Aw];refine⟨kR,fun h4=>?_,fun h4=>?_⟩
  ·rw[Aj h4] at hA;rw[hstep (by rw[hA];exact h4),hA];exact .oA [] []
  rw[Aq (by rw[h4];simp)] at hA;simp only[tZ,↓un_u,simprocAttr,Ax,qd hi2];refine⟨oM,?_⟩;refine C1.im (qu8 s l[i].col 2) rF rF ?_;simp only[tZ,↓un_u,simprocAttr,Bx,Bz];refine⟨kR,fun h5=>?_,fun h5=>?_⟩
  ·rw[Aj h5] at hA;rw[hstep (by rw[hA];simp),hA];exact .oA [] []
  rw[Aq (by rw[h5];simp)] at hA;refine qy mixm (α:=Nat) [7] (fun k=>k≤i∧(l.take k).any (fun x=>x.col==l[i].col)=false) (fun k=>[(7,vI k)]) (fun k=>[aR 4096 2 [schT s]]) (fun k=>i-k) 0 ⟨oM,rfl⟩ ?_ fun k hk=>?_
  ·exact .oA (U1 4096) []
  refine sD ?_;refine⟨fun h6=>?_,fun h6=>?_⟩
  ·have hk2:k<l.length:=by omega
   have hwk:=qh (i:=k) oM;simp only[tZ,↓un_u,simprocAttr,Ax,qd hi2,qd hk2,hwk];refine⟨oM,oM,kR,fun h7=>?_,fun h7=>?_⟩
   ·rw[Aj (DJ.2 ⟨l[k],List.mem_take_iff_getElem.2 ⟨k,oM,rfl⟩,h7⟩)] at hA;rw[hstep (by rw[hA];simp),hA];exact .oA [] []
   ·refine⟨k+1,⟨oM,zR hk2 hk.2 h7⟩,oM,?_⟩;exact .oA (U1 4096) []
  ·have hki:k=i:=by omega
   subst hki;rw[Aq (by rw[hk.2];simp)] at hA;simp only[tZ,↓un_u,simprocAttr,hwi];refine⟨k+1,⟨oM,by rw[hnext,hA]⟩,oM,?_⟩;exact .oA (U1 4096) []
 ·have hil:i=l.length:=by omega
  subst hil;rw[hi.2];exact .oA [] []
theorem zb8 (s:Sch) (m:Int) (l:List Int):Sp 205 [schT s,vI m,vIs l] [] (vI (wj s m l)) []:=by
 refine sIr qQ3 fun e _ hst=>?_;unfold JR;refine sD ?_;refine⟨fun h=>?_,fun h=>?_⟩
 ·rw[wj,Aj oM];exact .oA [] []
 rw[wj,Aq oM];refine qy mixm (α:=Nat) [7,15] (fun i=>i≤l.length∧jb (qJ9 s m l) i=0) (fun i=>[(7,vI i)]) (fun i=>[aR 4096 2 [schT s]]) (fun i=>l.length-i) 0 ⟨oM,rfl⟩ ?_ fun i hi=>?_
 ·exact .oA (U1 4096) []
 refine sD ?_;refine⟨fun h3=>?_,fun h3=>?_⟩
 ·have hi2:i<l.length:=by omega
  have hwi:=qh (i:=i) oM;have hpi:l.getD i 0=l[i]:=qk hi2;have hstep:=Zp hi.2 hi2;have hnext:=kK hi.2;have hA:qJ9 s m l i=if isB s l[i] 3=false then 7 else if l[i]=m∨(l.take i).contains l[i]=true then 10 else 0:=by rw[qJ9,hpi]
  have hH:=qJ5 (l.take i) l[i] (by rw[Cz];omega);simp only[tZ,↓un_u,simprocAttr,Ax,qd hi2];refine⟨oM,?_⟩;refine C1.im (qu8 s l[i] 3) rF rF ?_;simp only[tZ,↓un_u,simprocAttr,Bx,Bz];refine⟨kR,fun h5=>?_,fun h5=>?_⟩
  ·rw[Aj h5] at hA;rw[hstep (by rw[hA];simp),hA];exact .oA [] []
  rw[Aq (by rw[h5];simp)] at hA;simp only[tZ,↓un_u,simprocAttr,Ax,qd hi2,Yq,qG2];refine⟨oM,fun _=>by omega,fun _=>by omega,?_⟩;refine C2.im (fun _=>hH) (fun _=>rfl) rF ?_;simp only[tZ,↓un_u,simprocAttr,tD,AY,Ak,hwi];refine⟨kR,fun h6=>?_,fun h6=>?_⟩
  ·rw[Aj h6] at hA;rw[hstep (by rw[hA];simp),hA];exact .oA [] []
  ·rw[Aq (by grind)] at hA;refine⟨i+1,⟨oM,by rw[hnext,hA]⟩,oM,?_⟩;exact .oA (U1 4096) []
 ·have hil:i=l.length:=by omega
  subst hil;rw[hi.2];exact .oA [] []
theorem zp5 (c:Cnd):Sp 147 [cnT c] [] (vB (JX c cnd0)) []:=by
 have h:=zp1 c cnd0 fun h=>.mk c (by rw[h];decide) (by rw[Dy.1 (show c.kids.length=0 from h)];simp);refine sIr qZ9 fun e _ hst=>?_;unfold Wc;refine sW ?_;refine C1.shut [] h ?_ rF rfl ?_
 ·all_goals (try exact clA)
 refine sW ?_;exact .oA [] []
theorem zb9 (s:Sch) (hE:schE s=0) (hL:0<s.lists.length) (q:Qst):Sp 146 [schT s,qstT q] [] (vI (kU s q)) []:=by
 have hok:=zc hE;refine sIr qO8 fun e _ hst=>?_;unfold JK;refine sW ?_;refine C1.im (qu8 s q.meas 3) rF rF ?_;simp only[tZ,↓un_u,simprocAttr,AY,Ak];refine⟨fun h=>?_,fun h=>?_⟩
 ·rw[kU,Aj h];refine C1.im (zp4 s hok.sm q.dims) rF rF ?_;simp only[tZ,↓un_u,simprocAttr,Bj,Aw];refine⟨fun h2=>?_,fun h2=>?_⟩
  ·rw[Aj h2];exact .oA [] []
  rw[Aq (by rw[h2];simp)];simp only[tZ,↓un_u,simprocAttr,Bj,Aw,tD,Bx,Bz];refine⟨fun h3=>?_,fun h3=>?_⟩
  ·rw[Aj h3];exact .oA [] []
  ·rw[Aq (by grind)];exact .oA [] []
 rw[kU,Aq h];refine⟨fun h2=>?_,fun h2=>?_⟩
 ·rw[Aj h2];simp only[tZ,↓un_u,simprocAttr,Bx,Bz];refine⟨fun h3=>?_,fun h3=>?_⟩
  ·rw[Aj h3];exact .oA [] []
  rw[Aq (by rw[h3];simp)];refine C1.im (zb8 s q.meas q.terms) rF rF ?_;refine sW ?_;exact .oA [] []
 rw[Aq h2];simp only[tZ,↓un_u,simprocAttr,Bx,Bz];refine⟨fun h3=>?_,fun h3=>?_⟩
 ·rw[Aj h3];exact .oA [] []
 rw[Aq (by rw[h3];simp)];obtain⟨b1,b2,b3⟩:=zF.1 h3;have hil:q.meas.toNat<s.cols.length:=by omega
 rw[qg,qk hil];simp only[tZ,↓un_u,simprocAttr,qd hil,tD];refine⟨oM,fun h4=>?_,fun h4=>?_⟩
 ·rw[Aj h4];exact .oA [] []
 rw[Aq h4];refine C1.im (qo1 s hok.sm hL q.event) rF rF ?_;refine sW ?_;exact .oA [] []
theorem qA5 (s:Sch) (hs:yZ s) (hL:0<s.lists.length) (q:Qst):Sp 81 [schT s,qstT q] [] (vI (qstE s q)) []:=by
 refine sIr qs2 fun e _ hst=>?_;unfold yL;refine sW ?_;refine C1.im (Zj s hs) rF rF ?_;simp only[tZ,↓un_u,simprocAttr,Bj,Aw];refine⟨fun h=>?_,fun h=>?_⟩
 ·rw[qstE,Aj h];exact .oA [] []
 rw[qstE,Aq (by rw[h];simp)];refine C1.im (Jq q.name) rF rF ?_;simp only[tZ,↓un_u,simprocAttr,Bx,Bz];refine⟨fun h2=>?_,fun h2=>?_⟩
 ·rw[Aj h2];exact .oA [] []
 rw[Aq (by rw[h2];simp)];refine sD ?_;refine⟨fun h3=>?_,fun h3=>?_⟩
 ·rw[Aj oM];exact .oA [] []
 rw[Aq oM];refine C1.im (qo1 s hs hL q.filt) rF rF ?_;simp only[tZ,↓un_u,simprocAttr,Bj,Aw];refine⟨fun h4=>?_,fun h4=>?_⟩
 ·rw[Aj h4];exact .oA [] []
 rw[Aq (by rw[h4];simp)];refine C1.im (zb9 s h hL q) rF rF ?_;simp only[tZ,↓un_u,simprocAttr,Bj,Aw];refine⟨fun h5=>?_,fun h5=>?_⟩
 ·rw[Aj h5];exact .oA [] []
 rw[Aq (by rw[h5];simp)];refine C2.im (fun _=>zp5 q.event) (fun _=>rfl) rF ?_;simp only[tZ,↓un_u,simprocAttr,tD,Bj,Aw,Bx,Bz];refine⟨fun h6=>?_,fun h6=>?_⟩
 ·rw[Aj (by grind)];exact .oA [] []
 ·rw[Aq (by grind)];exact .oA [] []
theorem zp6 (q:Qst) (k:Int) (ht:q.terms.length<4611686018427387904):Sp 84 [qstT q,vI k] [] (vB (zo4 q k)) []:=by
 refine sIr qZ1 fun e _ hst=>?_;unfold KU;refine sW ?_;refine C2.im (fun _=>qJ5 q.terms k ht) (fun _=>rfl) rF ?_;refine sW ?_;rw[show (q.meas==k||q.terms.contains k)=zo4 q k from rfl];exact .oA [] []
theorem qK2:∀ (m l:List Pk),(JY l m).length≤l.length+m.length
 | [],l=>BZ _
 | p::m,l=>by
   have h1:=qK2 m (qc4 l p.col p.lev);have h2:=qo3 l p.col p.lev;unfold JY at h1 ⊢
   rw[Dw,CJ];omega
theorem qK3 (s:Sch) (c:Cnd):(jR s c).length≤40:=by
 unfold jR;split
 ·simp
 ·rename_i h;obtain⟨hE,k2,k3,k4⟩:=Wp (AQ h);have h1:=QV c 41 oM k2;have h2:=zp3 s (atsC c) [];simp only[Cw] at h2;unfold zp2 at h2;omega
structure QstOk (s:Sch) (q:Qst):Prop where
 sch:schE s=0
 kind:1≤q.kind∧q.kind≤3
 filt:chkC s q.filt=0
 dims:q.kind=1→ZS s q.dims=0∧(q.meas = -1∨isB s q.meas 3=true)
 nd:q.dims.length≤3
 terms:q.kind=2→isB s q.meas 3=true∧wj s q.meas q.terms=0
 nt:q.terms.length≤3
 event:q.kind=3→isB s q.meas 3=true∧0≤(qg s q.meas.toNat).low∧chkC s q.event=0
 d0:q.kind≠1→q.dims=[]
 t0:q.kind≠2→q.terms=[]
 e0:q.kind≠3→JX q.event cnd0=true
theorem ZU {s:Sch} {q:Qst} (h:qstE s q=0):QstOk s q:=by
 unfold qstE at h;split at h
 ·rename_i h1;exact absurd h h1
 rename_i h1;split at h
 ·cases h
 rename_i h2;split at h
 ·cases h
 rename_i h3;split at h
 ·rename_i h4;exact absurd h h4
 rename_i h4;split at h
 ·rename_i h5;exact absurd h h5
 rename_i h5;split at h
 ·cases h
 rename_i h6;have hp:kU s q=0:=AQ h5;unfold kU at hp;have hd:q.kind=1→ZS s q.dims=0∧(q.meas = -1∨isB s q.meas 3=true):=fun k=>by
  rw[Aj k] at hp
  grind
 have ht:q.kind=2→isB s q.meas 3=true∧wj s q.meas q.terms=0:=fun k=>by
  rw[Aq oM,Aj k] at hp
  grind
 have hd0:q.kind≠1→q.dims=[]:=fun k=>Dy.1 oM;have ht0:q.kind≠2→q.terms=[]:=fun k=>Dy.1 oM;refine⟨AQ h1,oM,AQ h4,hd,?_,ht,?_,fun k=>?_,hd0,ht0,fun k=>?_⟩
 ·by_cases k:q.kind=1
  ·have:=(hd k).1;unfold ZS at this
   grind
  ·rw[hd0 k];simp
 ·by_cases k:q.kind=2
  ·have:=(ht k).2;unfold wj at this
   grind
  ·rw[ht0 k];simp
 ·rw[Aq oM,Aq oM] at hp
  grind
 ·grind
theorem qV2 (s:Sch):∀ (m l:List Pk),(m.foldl (fun l p=>qc4 l p.col (wl s p.col p.lev)) l).length≤l.length+m.length
 | [],l=>BZ _
 | p::m,l=>by
   have h1:=qV2 s m (qc4 l p.col (wl s p.col p.lev));have h2:=qo3 l p.col (wl s p.col p.lev);rw[Dw,CJ];omega
theorem qV3 (s:Sch) (q:Qst):∀ (m:List Nat) (l:List Pk),(m.foldl (qx4 s q) l).length≤l.length+m.length
 | [],l=>BZ _
 | k::m,l=>by
   have h1:=qV3 s q m (qx4 s q l k);have h2:(qx4 s q l k).length≤l.length+1:=by
    unfold qx4;split
    ·exact qo3 _ _ _
    ·omega
   rw[Dw,CJ];omega
def jd5 (s:Sch) (q:Qst):List Pk:=if q.kind=3 then JY (jR s q.filt) (jR s q.event) else jR s q.filt
theorem zM2 (s:Sch) (q:Qst):(jd5 s q).length≤80:=by
 have h1:=qK3 s q.filt;have h2:=qK3 s q.event;have h3:=qK2 (jR s q.event) (jR s q.filt);unfold jd5;split <;> omega
theorem qK4 (s:Sch) (q:Qst):(kM s q).length≤100:=by
 unfold kM jB8;split
 ·simp
 ·rename_i h;have hq:=ZU (AQ h);have h1:=zM2 s q;unfold jd5 at h1;have h2:=qV2 s q.dims (if q.kind=3 then JY (jR s q.filt) (jR s q.event) else jR s q.filt);have h3:=qV3 s q (List.range (s.cols.length-1)) (q.dims.foldl (fun l p=>qc4 l p.col (wl s p.col p.lev)) (if q.kind=3 then JY (jR s q.filt) (jR s q.event) else jR s q.filt));have h4:=(zc hq.sch).nc;have h5:=hq.nd;rw[List.length_range] at h3;omega
def jn7 (s:Sch):List Pk→Qst→List Pk:=fun l q=>JY l (kM s q)
theorem zp7 (s:Sch):∀ (m:List Qst) (l:List Pk),(m.foldl (jn7 s) l).length≤l.length+100*m.length
 | [],l=>BZ _
 | q::m,l=>by
   have h1:=zp7 s m (jn7 s l q);have h2:=qK2 (kM s q) l;have h3:=qK4 s q;rw[Dw,CJ];unfold jn7 at h1 ⊢
   omega
theorem qK5 (s:Sch) (d:Dcl):(zO s d).length≤800:=by
 unfold zO;split
 ·simp
 ·rename_i h;have hd:=qh7 (AQ h);have:=zp7 s d.qs [];simp only[Cw] at this;unfold jn7 at this;omega
def hd (r:List Int):Int:=r.getD 0 0
def putS (row:List Int):List (List Int)×Bool→List Int→List (List Int)×Bool:=fun x r=>
 if hd r=hd row then x
 else if hd r>hd row∧x.2=false then (x.1++[row]++[r],true)
 else (x.1++[r],x.2)
def putR (l:List (List Int)) (row:List Int):List (List Int):=
 let x:=l.foldl (putS row) ([],false)
 if x.2 then x.1 else x.1++[row]
def atR (id:Int) (r:List Int):Bool:=decide (0<r.length)&&(hd r==id)
def jH8 (s:Src) (id:Int):Int:=if s.rows.any (atR id)=true then (s.rows.findIdx (atR id):Int) else -1
def asc2 (l:List Int) (i:Nat):Bool:=decide (i=0)||decide (l.getD (i-1) 0<l.getD i 0)
def jC0 (s:Src):Bool:=(List.range s.rows.length).all fun i=>(rowE s.sch (s.rows.getD i [])==0)&&(decide (i=0)||decide (hd (s.rows.getD (i-1) [])<hd (s.rows.getD i [])))
def jH9 (s:Src):Bool:=(List.range s.gone.length).all fun i=>decide (1≤s.gone.getD i 0)&&decide (s.gone.getD i 0≤1048575)&&asc2 s.gone i&&decide (jH8 s (s.gone.getD i 0)<0)
def srcB (s:Src):Bool:=(schE s.sch==0)&&decide (s.rows.length≤200)&&decide (s.gone.length≤300)&&decide (0≤s.ver)&&decide (s.ver≤300)&&jC0 s&&jH9 s
def AscR (l:List (List Int)):Prop:=l.Pairwise fun a b=>hd a<hd b
structure SrcOk (s:Src):Prop where
 sch:schE s.sch=0
 nr:s.rows.length≤200
 ng:s.gone.length≤300
 ver:0≤s.ver∧s.ver≤300
 rows:∀ r∈s.rows,rowE s.sch r=0
 asc:AscR s.rows
 gone:∀ g∈s.gone,1≤g∧g≤1048575∧jH8 s g<0
 gasc:s.gone.Pairwise fun a b=>a<b
open So
set_option maxRecDepth 4000
def iter {α:Type} (f:α→α):Nat→α→α
 | 0,x=>x
 | n+1,x=>f (iter f n x)
def tie (p:Int×Int):Int:=p.1*1024+p.2
def cut (n:Int):Int×Int:=(n / 1024,n % 1024)
def drw0 (seed id:Int):Int:=IntKind.u64.wrap (IntKind.u64.wrap (IntKind.u64.wrap (IntKind.u64.wrap seed*2654435761)+IntKind.u64.wrap (IntKind.u64.wrap id*40503))+97)
def drwA (h:Int):Int:=IntKind.u64.wrap (IntKind.u64.wrap (h*6364136223846793005)+1442695040888963407)
def drwX (h:Int):Int:=xorI .u64 (drwA h) (shrI .u64 (drwA h) 29)
def drwI (seed id:Int):Int:=IntKind.i64.wrap (shrI .u64 (iter drwX 3 (drw0 seed id)) 32)
def inS (x:Smp) (id:Int):Bool:=(smpE x==0)&&decide (1≤id)&&decide (id≤1048575)&&decide ((drwI x.seed id).tmod x.of<x.part)
def ownP (s:Src) (d:Dcl) (r:List Int):Bool:=(jK9 s.sch d.coh r==1)&&inS d.smp (hd r)
def ownR (s:Src) (d:Dcl):List (List Int):=if srcB s=false∨dclE s.sch d≠0 then [] else s.rows.filter (ownP s d)
def ownS (s:Src) (d:Dcl):List Int:=(ownR s d).map hd
def buildE (s:Src) (d:Dcl) (l:List Pk) (k:Int):Int:=if srcB s=false then 13 else if zo5 s.sch d l≠0 then zo5 s.sch d l else if k<0∨k≥1152921504606846976 then 2 else 0
def d36:ByteArray:=⟨#[48,49,50,51,52,53,54,55,56,57,97,98,99,100,101,102,103,104,105,106,107,108,109,110,111,112,113,114,115,116,117,118,119,120,121,122]⟩
theorem qV4 {a b:ByteArray} (h:a.data.toList=b.data.toList):a=b:=by
 cases a;cases b;exact congrArg ByteArray.mk (Array.ext' h)
def dgS (n:Nat):ByteArray:=⟨#[dgt n]⟩
theorem jI0 (n:Nat) (h:n<10):d36.extract n (n+1)=dgS n:=by
 have:((List.range 10).all fun n=>(d36.extract n (n+1)).data.toList==(dgS n).data.toList)=true:=by decide +kernel
 exact qV4 (eq_of_beq (Bk.1 this n (Dk.2 h)))
theorem qo5 (c:UInt8) (n:Nat):(⟨#[c]⟩:ByteArray)++dgS n=⟨#[c,dgt n]⟩:=by
 apply qV4
 rw[ByteArray.toList_data_append]
 rfl
theorem jC1 (n:Nat) (h:n<10):Sp 238 [vI n] [] (vS (dgS n)) []:=by
 have h1:=qh (i:=n) oM;have z1:d36.size=36:=rfl;refine sIr JT fun e _ hst=>?_;unfold jz;simp only[tZ,↓un_u,simprocAttr,tD,h1,Ax];refine⟨fun h2=>?_,fun h2=>by omega⟩;refine⟨?_,?_⟩
 ·show (0≤(n:Int)∧(n:Int)≤((n+1:Nat):Int)∧((n+1:Nat):Int)≤(d36.size:Int));omega
 ·show yA [] (vS (d36.extract n (n+1))) [] (vS (dgS n)) [];rw[jI0 n oM];exact .oA [] []
theorem qo6 (n:Nat) (h:n<10):Sp 56 [vI n] [] (vS (dgS n)) []:=by
 have h1:Sp 182 [vI n,vI 10] [] (vS (dgS n)) []:=by
  have e1:decide (0≤(n:Int))=true:=Cx oM;have e2:decide ((n:Int)<100)=true:=Cx oM;refine sIr QG fun e _ hst=>?_;unfold zS;simp only[tZ,↓un_u,simprocAttr,beq_self_eq_true,e1,e2,Fj];refine C1.im (jC1 n h) rF rF ?_;refine sW ?_;exact .oA [] []
 have h2:Sp 116 [vI n] [] (vS (dgS n)) []:=by
  refine sIr Kn fun e _ hst=>?_;unfold jD;refine sW ?_;refine C1.im h1 rF rF ?_;refine sW ?_;exact .oA [] []
 refine sIr qH1 fun e _ hst=>?_;unfold Zx;refine sW ?_;refine C1.im h2 rF rF ?_;refine sW ?_;exact .oA [] []
def oneB (l:List UInt8) (a:Nat) (n:Int):Bool:=(nx l a n).1==n-1
theorem wn (l:List UInt8) (a:Nat) (n:Int) (hl:l.length≤400) (ha:a≤l.length) (hn:0≤n∧n≤1000000):Sp 46 [.ptr 0 1 0 0,vI n] [(0,oC l a)] (vB (oneB l a n)) [(0,oC l (nx l a n).2)]:=by
 have hw:IntKind.i64.wrap (n-1)=n-1:=AK _ oM;refine sIr qs0 fun e _ hst=>?_;unfold yK;refine sW ?_;refine C1.draw 0 l a _ (jI l a n hl ha hn.2) rfl rfl rfl ?_;simp only[tZ,↓un_u,simprocAttr,hw];rw[show ((nx l a n).1==n-1)=oneB l a n from rfl];exact .oA (U1 0) []
theorem Qs (l:List UInt8) (a:Nat) (n:Int) (hl:l.length≤400) (ha:a≤l.length) (hn:1≤n∧n≤1000000) :
 ∃ v b,0≤v∧v<n∧b≤l.length∧Sp 47 [.ptr 0 1 0 0,vI n] [(0,oC l a)] (vI v) [(0,oC l b)]:=
 ⟨_,_,(Qi l a n hn.1).1,(Qi l a n hn.1).2,qx9 l a n ha,jI l a n hl ha hn.2⟩
theorem YO (l:List UInt8) (a:Nat) (lo hi:Int) (hl:l.length≤400) (ha:a≤l.length) (hlo : -1000000≤lo∧lo≤1000000) (hhi:lo≤hi∧hi≤lo+100000) :
 ∃ v b,lo≤v∧v≤hi∧b≤l.length∧Sp 54 [.ptr 0 1 0 0,vI lo,vI hi] [(0,oC l a)] (vI v) [(0,oC l b)]:=by
 have r:=Qi l a (hi-lo+1) oM;exact⟨_,_,oM,oM,qx9 l a (hi-lo+1) ha,jt l a lo hi hl ha hlo hhi⟩
theorem jn8 (l:List UInt8) (a:Nat) (n:Int) (hl:l.length≤400) (ha:a≤l.length) (hn:0≤n∧n≤1000000) :
 ∃ o b,b≤l.length∧Sp 46 [.ptr 0 1 0 0,vI n] [(0,oC l a)] (vB o) [(0,oC l b)]:=
 ⟨_,_,qx9 l a n ha,wn l a n hl ha hn⟩
theorem jC2 (m:Nat) (h:m<4):wTab.getD m []∈wTab:=by rw[qk (by exact h)];exact AX _
theorem QY (n:Nat) (l:List UInt8) (a:Nat) (hl:l.length≤400) (ha:a≤l.length) :
 ∃ r:Col×Nat,(DrM n r.1∧r.2≤l.length)∧Sp 55 [.ptr 0 1 0 0,vS ⟨#[109,dgt n]⟩] [(0,oC l a)] (colT r.1) [(0,oC l r.2)]:=by
 have h1:=jt l a (-4) 2 hl ha oM oM;have r1:=Qi l a (2 - -4+1) oM;have b1:=qx9 l a (2 - -4+1) ha;generalize nx l a (2 - -4+1)=x1 at h1 r1 b1;have h2:=jI l x1.2 4 hl b1 oM;have r2:=Qi l x1.2 4 oM;have b2:=qx9 l x1.2 4 b1;generalize nx l x1.2 4=x2 at h2 r2 b2;have h3:=wn l x2.2 3 hl b2 oM;have b3:=qx9 l x2.2 3 b2;generalize (nx l x2.2 3).2=a3 at h3 b3;generalize oneB l x2.2 3=o at h3;have h4:=jI l a3 45 hl b3 oM;have r4:=Qi l a3 45 oM;have b4:=qx9 l a3 45 b3;generalize nx l a3 45=x4 at h4 r4 b4;refine⟨(⟨⟨#[109,dgt n]⟩,3,0,-4+x1.1,-4+x1.1+x4.1,wTab.getD x2.1.toNat [],o⟩,x4.2),⟨⟨rfl,rfl,rfl,by dsimp only;omega,by dsimp only;omega,jC2 _ oM⟩,b4⟩,?_⟩;obtain⟨m,hm⟩:=AJ r2.1;have hw:IntKind.i64.wrap (-4+x1.1+x4.1) = -4+x1.1+x4.1:=AK _ oM;refine sIr Yv fun e _ hst=>?_;unfold kC;refine sW ?_;refine C1.draw 0 l a _ h1 rfl rfl rfl ?_;refine sW ?_;refine C1.draw 0 l x1.2 _ h2 rfl rfl rfl ?_;rw[hm] at r2 ⊢
 rw[Ax];have hm4:m=0∨m=1∨m=2∨m=3:=by omega
 have k0:wTab.getD 0 []=[1]:=rfl;have k1:wTab.getD 1 []=[1,5]:=rfl;have k2:wTab.getD 2 []=[1,5,20]:=rfl;have k3:wTab.getD 3 []=[1,2,4,12]:=rfl;rcases hm4 with e | e | e | e
 all_goals (
  subst e;simp only[tZ,↓un_u,simprocAttr,Ax,k0,k1,k2,k3]
  repeat (refine⟨oM,?_⟩)
  refine C1.draw 0 l x2.2 _ h3 rfl rfl rfl ?_;refine sW ?_;refine⟨kR,?_⟩;refine C1.draw 0 l a3 _ h4 rfl rfl rfl ?_;simp only[tZ,↓un_u,simprocAttr,hw];refine⟨kR,?_⟩
  )
 ·exact .oA (U1 0) [8204]
 ·exact .oA (U1 0) [8208]
 ·exact .oA (U1 0) [8212]
 ·exact .oA (U1 0) [8216]
def addN (i:Nat):Nat→List Cod→List Cod
 | 0,cs=>cs
 | k+1,cs=>addN i k (addL cs i)
theorem qK6 (i:Nat):∀ (k:Nat) (cs:List Cod),(List.range k).foldl (fun cs _=>addL cs i) cs=addN i k cs:=by
 have key:∀ (m:List Nat) (cs:List Cod),m.foldl (fun cs _=>addL cs i) cs=addN i m.length cs:=by
  intro m
  induction m with
  | nil=>intro cs;rfl
  | cons x m ih=>intro cs;rw[Dw,ih];rfl
 intro k cs;rw[key,List.length_range]
theorem zp8:∀ (ns:List Nat) (cs:List Cod) (i n:Nat),lefL cs i (ns++[n])=addN (i+ns.length) n (lefL cs i ns)
 | [],cs,i,n=>by rw[Cy,lefL,lefL,qK6];rfl
 | x::r,cs,i,n=>by rw[BW,lefL,lefL,zp8 r _ (i+1) n,CJ,show i+1+r.length=i+(r.length+1) by omega]
theorem zH3 (i:Nat):∀ (k:Nat) (cs:List Cod),(addN i k cs).length=cs.length+k
 | 0,cs=>rfl
 | k+1,cs=>by rw[addN,zH3 i k,addL,AW];simp;omega
theorem zH4:∀ (ns:List Nat) (cs:List Cod) (i:Nat),(∀ x∈ns,x=1∨x=2)→cs.length+ns.length≤(lefL cs i ns).length∧(lefL cs i ns).length≤cs.length+2*ns.length
 | [],cs,i,_=>by rw[lefL];simp
 | x::r,cs,i,h=>by
   have h1:=zH4 r ((List.range x).foldl (fun cs _=>addL cs i) cs) (i+1) fun y hy=>h y (CQ _ hy);rw[qK6,zH3] at h1;rw[lefL,qK6,CJ];have:=h x sMp;omega
theorem Kx (nm:ByteArray) (hnm:nm=zn5∨nm=zn6) (l:List UInt8) (a:Nat) (hl:l.length≤400) (ha:a≤l.length) :
 ∃ r:CodL×Nat,(DrL nm r.1∧r.2≤l.length)∧Sp 53 [.ptr 0 1 0 0,vS nm] [(0,oC l a)] (cdlT r.1) [(0,oC l r.2)]:=by
 have h1:=jt l a 1 3 hl ha oM oM;have r1:=Qi l a (3-1+1) oM;have b1:=qx9 l a (3-1+1) ha;generalize nx l a (3-1+1)=x1 at h1 r1 b1;obtain⟨K,hK⟩:=AJ (show 0≤1+x1.1 by omega);rw[hK] at h1;have hK3:1≤K∧K≤3:=by omega
 refine jJ qk9 mixm (fun r:CodL×Nat=>cdlT r.1) (fun r=>[(0,oC l r.2)]) sMp ?_;unfold wZ;refine sW ?_;refine XE.mp (fun _ _=>C1.draw 0 l a _ h1 rfl rfl rfl) ?_;refine sW ?_;have hk0:(WZ 0).map codT=[.agg [vS ⟨#[116,111,112]⟩,vI (-1)]]:=rfl;have hkl:∀ i,(WZ i).length=i+1:=fun i=>by simp [WZ]
 have hks:∀ i,WZ (i+1)=WZ i++[kidC i]:=fun i=>by rw[WZ,List.range_succ,By];rfl
 refine XE.loopF mixm [7] (fun i:Nat=>i≤K) (fun i=>[(7,vI i)]) (fun i=>[(0,oC l x1.2),aR 4096 2 [cdlT default],aR 8200 2 ((WZ i).map codT),aR 8208 2 [.agg [vS nm,.asl 8200 (i+1)]]]) (fun i=>K-i) 0 oM (fun e ⟨_,hst⟩=>?_) fun T' i hi ih=>?_
 ·simp only[hk0];exact .oA (U4 0 4096 8200 8208) []
 simp only[tZ,↓un_u,simprocAttr,AZ,Ay];refine XE.brN (fun h=>?_) (fun h=>?_)
 ·have hwi:=qh (i:=i) oM;refine XE.mp (fun _ _=>C1.im (qo6 i oM) rF rF) ?_;simp only[tZ,↓un_u,simprocAttr,hwi];refine XE.sd (show 1+1≤9223372036854775807 by omega) (XE.sd ⟨hkl i,oM⟩ (XE.sd (hkl i) (XE.sd kR ?_)));refine XE.next ih (i+1) oM oM fun e ⟨_,hst⟩=>?_;rw[qo5,hks];exact .oA (U4 0 4096 8200 8208) []
 ·have hiK:i=K:=by omega
  subst hiK;have h2:=wn l x1.2 2 hl b1 oM;have b2:=qx9 l x1.2 2 b1;generalize (nx l x1.2 2).2=a2 at h2 b2;generalize oneB l x1.2 2=o at h2;refine XE.mp (fun _ _=>C1.draw 0 l x1.2 _ h2 rfl rfl rfl) ?_;refine sW ?_;refine XE.brB (fun h3=>?_) (fun h3=>?_)
  ·refine XE.fin (⟨nm,WZ i⟩,a2) ⟨⟨rfl,(jc9 hnm hK3).1,by rw[hkl];omega⟩,b2⟩ fun e ⟨_,hst⟩=>?_;have hkli:=hkl i;refine⟨hkl i,?_⟩;exact .oA (U1 0) [8200]
  ·refine XE.loopF mixm [8] (fun y:List Nat×Nat=>y.1.length≤i∧(∀ x∈y.1,x=1∨x=2)∧y.2≤l.length) (fun y=>[(8,vI y.1.length)]) (fun y=>[(0,oC l y.2),aR 4096 2 [cdlT default],aR 8200 2 ((lefL (WZ i) 0 y.1).map codT),aR 8208 2 [.agg [vS nm,.asl 8200 (lefL (WZ i) 0 y.1).length]]]) (fun y=>i-y.1.length) ([],a2) ⟨sMp,sMp,b2⟩ (fun e ⟨_,hst⟩=>?_) fun T2 y hy ih2=>?_
   ·have hkli:=hkl i;simp only[lefL];refine .of (U4 0 4096 8200 8208) [] rfl (by first | rfl | (rw[hst];rfl)) ?_ ?_
    all_goals (try simp only[tL,simprocAttr,By,List.map_cons,List.map_nil,BW,Cy,hkl])
    all_goals (try (repeat' (first | exact qY | (apply zf;intro _;exact⟨rfl,rfl⟩) | (apply qj;intro _;exact⟨rfl,rfl⟩) | with_reducible apply qS | with_reducible refine qz ⟨rfl,rfl⟩ ?_ | exact qK | with_reducible apply qR | with_reducible refine qT ⟨rfl,rfl,?_⟩ ?_ | with_reducible apply Az | exact qO rfl | exact qO (by assumption) | (refine⟨⟨?_,rfl,?_,rfl,?_⟩,trivial⟩ <;> first | (simp;done) | (apply qj;intro _;exact⟨rfl,rfl⟩)) | trivial | rfl | (rw[qh oM]) | omega)))
   obtain⟨ns,a3⟩:=y;obtain⟨y1,y2,y3⟩:=hy;dsimp only at y1 y2 y3;have hll:=zH4 ns (WZ i) 0 y2;rw[hkl] at hll;simp only[tZ,↓un_u,simprocAttr,AZ,Ay];refine XE.brN (fun h4=>?_) (fun h4=>?_)
   ·have h5:=jt l a3 1 2 hl y3 oM oM;have r5:=Qi l a3 (2-1+1) oM;have b5:=qx9 l a3 (2-1+1) y3;generalize nx l a3 (2-1+1)=x5 at h5 r5 b5;obtain⟨M,hM⟩:=AJ (show 0≤1+x5.1 by omega);rw[hM] at h5;have hsn:=zp8 ns (WZ i) 0 M;rw[Nat.zero_add] at hsn;refine XE.mp (fun _ _=>C1.draw 0 l a3 _ h5 rfl rfl rfl) ?_;refine sW ?_;generalize lefL (WZ i) 0 ns=cs at hll hsn ⊢
    refine XE.loopF mixm [9] (fun z:Nat×List Cod=>addN ns.length z.1 z.2=addN ns.length M cs∧z.2.length+z.1=cs.length+M) (fun z=>[(9,vI z.1)]) (fun z=>[(0,oC l x5.2),aR 4096 2 [cdlT default],aR 8200 2 (z.2.map codT),aR 8208 2 [.agg [vS nm,.asl 8200 z.2.length]]]) (fun z=>z.1) (M,cs) ⟨rfl,rfl⟩ (fun e ⟨_,hst⟩=>?_) fun T3 z hz ih3=>?_
    ·exact .oA (U4 0 4096 8200 8208) []
    obtain⟨k,ds⟩:=z;obtain⟨z1,z2⟩:=hz;dsimp only at z1 z2;simp only[tZ,↓un_u,simprocAttr,AZ,Ay];refine XE.brN (fun h6=>?_) (fun h6=>?_)
    ·have hwn:=qh (i:=ns.length) oM;have hwk:=wV (i:=k) oM oM;have hw1:IntKind.i64.wrap (1+(ns.length:Int))=1+(ns.length:Int):=AK _ oM;refine XE.mp (fun _ _=>C1.im (qo6 ds.length oM) rF rF) ?_;simp only[tZ,↓un_u,simprocAttr,hwk,hw1];refine XE.sd (show 1+1≤9223372036854775807 by omega) (XE.sd oM (XE.sd kR ?_));refine XE.next ih3 (k-1,addL ds ns.length) ⟨?_,by dsimp only;rw[addL,AW];simp;omega⟩ (by dsimp only;omega) fun e ⟨_,hst⟩=>?_
     ·dsimp only;rw[← z1];obtain⟨j,rfl⟩:∃ j,k=j+1:=⟨k-1,oM⟩
      rfl
     ·rw[qo5];have e1:addL ds ns.length=ds++[⟨⟨#[108,dgt ds.length]⟩,1+(ns.length:Int)⟩]:=rfl;rw[e1];exact .oA (U4 0 4096 8200 8208) []
    ·have hk0:k=0:=by omega
     subst hk0;have hwn:=qh (i:=ns.length) oM;rw[addN,← hsn] at z1;simp only[tZ,↓un_u,simprocAttr,hwn];refine XE.next ih2 (ns++[M],x5.2) ⟨by simp;omega,fun x hx=>?_,b5⟩ (by simp;omega) fun e ⟨_,hst⟩=>?_
     ·rcases Dz.1 hx with hx | hx
      ·exact y2 x hx
      ·rw[EZ.1 hx];omega
     ·simp only[z1,AW,CJ,Cw];rw[← z1];exact .oA (U4 0 4096 8200 8208) []
   ·have hni:ns.length=i:=by omega
    have hok:=(jc9 hnm hK3).2 ns hni y2;refine XE.fin (⟨nm,lefL (WZ i) 0 ns⟩,a3) ⟨⟨rfl,hok,by dsimp only;omega⟩,y3⟩ fun e ⟨_,hst⟩=>?_;exact .oA (U1 0) [8200]
theorem qh9 (l:List UInt8) (a:Nat) (hl:l.length≤400) (ha:a≤l.length) :
 ∃ r:Sch×Nat,(DrS r.1∧r.2≤l.length)∧Sp 11 [.ptr 0 1 0 0] [(0,oC l a)] (schT r.1) [(0,oC l r.2)]:=by
 obtain⟨⟨A,a1⟩,⟨dA,ha1⟩,sA⟩:=Kx zn5 (.inl rfl) l a hl ha;obtain⟨⟨B,a2⟩,⟨dB,ha2⟩,sB⟩:=Kx zn6 (.inr rfl) l a1 hl ha1;dsimp only at dA ha1 sA dB ha2 sB;have h1:=wn l a2 2 hl ha2 oM;have b1:=qx9 l a2 2 ha2;generalize (nx l a2 2).2=a3 at h1 b1;generalize oneB l a2 2=o at h1;have h2:=jt l a3 1 3 hl b1 oM oM;have r2:=Qi l a3 (3-1+1) oM;have b2:=qx9 l a3 (3-1+1) b1;generalize nx l a3 (3-1+1)=x2 at h2 r2 b2;obtain⟨N,hN⟩:=AJ (show 0≤1+x2.1 by omega);rw[hN] at h2;refine jJ qb1 mixm (fun r:Sch×Nat=>schT r.1) (fun r=>[(0,oC l r.2)]) sMp ?_;unfold kV;refine sW ?_;refine XE.mp (fun _ _=>C1.draw 0 l a _ sA rfl rfl rfl) ?_;refine sW ?_;refine XE.mp (fun _ _=>C1.draw 0 l a1 _ sB rfl rfl rfl) ?_;refine sW ?_;refine XE.mp (fun _ _=>C1.draw 0 l a2 _ h1 rfl rfl rfl) ?_;refine sW ?_;refine XE.brB (fun ho=>?_) (fun ho=>?_)
 ·refine XE.mp (fun _ _=>C1.draw 0 l a3 _ h2 rfl rfl rfl) ?_;refine sW ?_;refine XE.loopF mixm [4,15] (fun y:List Col×Nat=>y.1.length≤N∧(∀ i (h:i<y.1.length),DrM (3+i) y.1[i])∧y.2≤l.length) (fun y=>[(4,vI ((N-y.1.length:Nat):Int))]) (fun y=>[(0,oC l y.2),aR 4096 2 [schT default],aR 8208 2 [cdlT A,cdlT B],aR 8220 7 (([whoC,sexC,jobC]++y.1).map colT),aR 8228 2 [.agg [.asl 8208 2,.asl 8220 (3+y.1.length)]]]) (fun y=>N-y.1.length) ([],x2.2) ⟨sMp,fun i h=>by simp at h,b2⟩ (fun e ⟨_,hst⟩=>?_) fun T' y hy ih=>?_
  ·show Le _ _ ⟨[(4,vI N),(0,_),(2,_),(3,_)],[(0,oC l x2.2),aR 4096 2 [schT default],aR 8208 2 [cdlT A,cdlT B],aR 8220 7 [colT whoC,colT sexC,colT jobC],aR 8228 2 [.agg [.asl 8208 2,.asl 8220 3]]]⟩;exact .oA (U5 0 4096 8208 8220 8228) []
  obtain⟨ms,a4⟩:=y;obtain⟨y1,y2,y3⟩:=hy;dsimp only at y1 y2 y3;simp only[tZ,↓un_u,simprocAttr,AZ,Ay];refine XE.brN (fun h4=>?_) (fun h4=>?_)
  ·have hlt:ms.length<N:=by omega
   have hI:=qo6 (3+ms.length) oM;obtain⟨⟨M,a5⟩,⟨dM,ha5⟩,sM⟩:=QY (3+ms.length) l a4 hl y3;dsimp only at dM ha5 sM;have hwk:=wV (i:=N-ms.length) oM oM;refine XE.sd oM ?_;refine XE.mp (fun _ _=>C1.im hI rF rF) ?_;simp only[tZ,↓un_u,simprocAttr,qo5];refine XE.sd (show 1+1≤9223372036854775807 by omega) ?_;refine XE.mp (fun _ _=>C1.draw 0 l a4 _ sM rfl rfl rfl) ?_;simp only[tZ,↓un_u,simprocAttr,hwk];refine XE.sd oM (XE.sd oM (XE.sd kR ?_));refine XE.next ih (ms++[M],a5) ⟨by simp;omega,fun i h=>?_,ha5⟩ (by simp;omega) fun e ⟨_,hst⟩=>?_
   ·dsimp only at h ⊢
    by_cases hi:i<ms.length
    ·rw[List.getElem_append_left hi];exact y2 i hi
    ·have he:i=ms.length:=by rw[AW] at h;simp at h;omega
     subst he;rw[List.getElem_append_right (BZ _)];simpa using dM
   ·have e1:N-(ms++[M]).length=N-ms.length-1:=by rw[AW];simp;omega
    simp only[e1];exact .oA (U5 0 4096 8208 8220 8228) []
  ·have hnl:ms.length=N:=by omega
   refine XE.fin (⟨[A,B],[whoC,sexC,jobC]++ms⟩,a4) ⟨⟨⟨A,B,rfl,dA,dB⟩,⟨ms,.inr ⟨rfl,y2⟩,oM,oM⟩⟩,y3⟩ fun e ⟨_,hst⟩=>?_;refine⟨oM,?_⟩;exact .oA (U1 0) [8208,8220]
 ·refine XE.mp (fun _ _=>C1.draw 0 l a3 _ h2 rfl rfl rfl) ?_;refine sW ?_;refine XE.loopF mixm [4,15] (fun y:List Col×Nat=>y.1.length≤N∧(∀ i (h:i<y.1.length),DrM (2+i) y.1[i])∧y.2≤l.length) (fun y=>[(4,vI ((N-y.1.length:Nat):Int))]) (fun y=>[(0,oC l y.2),aR 4096 2 [schT default],aR 8208 2 [cdlT A,cdlT B],aR 8220 7 (([whoC,sexC]++y.1).map colT),aR 8228 2 [.agg [.asl 8208 2,.asl 8220 (2+y.1.length)]]]) (fun y=>N-y.1.length) ([],x2.2) ⟨sMp,fun i h=>by simp at h,b2⟩ (fun e ⟨_,hst⟩=>?_) fun T' y hy ih=>?_
  ·show Le _ _ ⟨[(4,vI N),(0,_),(2,_),(3,_)],[(0,oC l x2.2),aR 4096 2 [schT default],aR 8208 2 [cdlT A,cdlT B],aR 8220 7 [colT whoC,colT sexC],aR 8228 2 [.agg [.asl 8208 2,.asl 8220 2]]]⟩;exact .oA (U5 0 4096 8208 8220 8228) []
  obtain⟨ms,a4⟩:=y;obtain⟨y1,y2,y3⟩:=hy;dsimp only at y1 y2 y3;simp only[tZ,↓un_u,simprocAttr,AZ,Ay];refine XE.brN (fun h4=>?_) (fun h4=>?_)
  ·have hlt:ms.length<N:=by omega
   have hI:=qo6 (2+ms.length) oM;obtain⟨⟨M,a5⟩,⟨dM,ha5⟩,sM⟩:=QY (2+ms.length) l a4 hl y3;dsimp only at dM ha5 sM;have hwk:=wV (i:=N-ms.length) oM oM;refine XE.sd oM ?_;refine XE.mp (fun _ _=>C1.im hI rF rF) ?_;simp only[tZ,↓un_u,simprocAttr,qo5];refine XE.sd (show 1+1≤9223372036854775807 by omega) ?_;refine XE.mp (fun _ _=>C1.draw 0 l a4 _ sM rfl rfl rfl) ?_;simp only[tZ,↓un_u,simprocAttr,hwk];refine XE.sd oM (XE.sd oM (XE.sd kR ?_));refine XE.next ih (ms++[M],a5) ⟨by simp;omega,fun i h=>?_,ha5⟩ (by simp;omega) fun e ⟨_,hst⟩=>?_
   ·dsimp only at h ⊢
    by_cases hi:i<ms.length
    ·rw[List.getElem_append_left hi];exact y2 i hi
    ·have he:i=ms.length:=by rw[AW] at h;simp at h;omega
     subst he;rw[List.getElem_append_right (BZ _)];simpa using dM
   ·have e1:N-(ms++[M]).length=N-ms.length-1:=by rw[AW];simp;omega
    simp only[e1];exact .oA (U5 0 4096 8208 8220 8228) []
  ·have hnl:ms.length=N:=by omega
   refine XE.fin (⟨[A,B],[whoC,sexC]++ms⟩,a4) ⟨⟨⟨A,B,rfl,dA,dB⟩,⟨ms,.inl ⟨rfl,y2⟩,oM,oM⟩⟩,y3⟩ fun e ⟨_,hst⟩=>?_;refine⟨oM,?_⟩;exact .oA (U1 0) [8208,8220]
theorem DrS.col {s:Sch} (h:DrS s) {i:Nat} (hi:i<s.cols.length) (hk:(qg s i).kind=3):∃ n,DrM n (qg s i):=by
 obtain⟨ms,hc,h1,h3⟩:=h.cs;have key:∀ (pre:List Col) (n:Nat),(∀ c∈pre,c.kind≠3)→s.cols=pre++ms→(∀ j (hj:j<ms.length),DrM (n+j) ms[j])→∃ n,DrM n (qg s i):=by
  intro pre n hp he hm;rw[qg,qk hi] at hk ⊢
  by_cases c:i<pre.length
  ·have e:s.cols[i]=pre[i]:=by simp only[he];exact List.getElem_append_left c
   rw[e] at hk;exact absurd hk (hp _ (AX c))
  ·have hl:i-pre.length<ms.length:=by rw[he,AW] at hi;omega
   have e:s.cols[i]=ms[i-pre.length]:=by simp only[he];exact List.getElem_append_right oM
   rw[e];exact⟨_,hm _ hl⟩
 rcases hc with⟨hc,hm⟩ | ⟨hc,hm⟩
 ·exact key [whoC,sexC] 2 (by simp [whoC,sexC]) (by rw[hc];rfl) hm
 ·exact key [whoC,sexC,jobC] 3 (by simp [whoC,sexC,jobC]) (by rw[hc];rfl) hm
theorem DrS.nl {s:Sch} (h:DrS s):s.lists.length=2:=by
 obtain⟨a,b,e,_⟩:=h.ls;rw[e];rfl
structure DrX (x:Src):Prop where
 sch:DrS x.sch
 ok:SrcOk x
 gone:x.gone=[]
 ver:x.ver=0
def Wr (s:Sch) (kind:Int) (n:Nat):List Int:=List.map (fun i:Nat=>(i:Int)) ((List.range n).filter fun i=>(qg s i).kind==kind)
theorem jW (s:Sch) (kind:Int) (n:Nat):Wr s kind (n+1)=Wr s kind n++(if (qg s n).kind=kind then [(n:Int)] else []):=by
 unfold Wr;rw[List.range_succ,Gz,By]
 congr 1
 by_cases h:(qg s n).kind=kind
 ·rw[Aj h,List.filter_cons,Aj (AY.2 h)];rfl
 ·rw[Aq h,List.filter_cons,Aq (by rw[AY];exact h)];rfl
theorem qo7 (s:Sch) (kind:Int) (n:Nat):(Wr s kind n).length≤n:=by
 unfold Wr;rw[BY];exact FX (Fq _ _) sMp
def Ka (s:Sch) (kind:Int):List Int:=Wr s kind s.cols.length
theorem ZV {s:Sch} {kind v:Int}:v∈Ka s kind↔isB s v kind=true:=by
 unfold Ka Wr;rw[zF];simp only[Cj,Fx,Dk,AY];constructor
 ·rintro ⟨i,⟨h1,h2⟩,rfl⟩;exact⟨oM,oM,by rw[Ax];exact h2⟩
 ·rintro ⟨h1,h2,h3⟩;exact⟨v.toNat,⟨oM,h3⟩,oM⟩
theorem Qk (s:Sch) (kind:Int) (hn:s.cols.length≤1000):Sp 183 [schT s,vI kind] [] (vIs (Ka s kind)) []:=by
 refine sIr qI5 fun e _ hst=>?_;unfold ZG;refine sW ?_;refine qy mixm (α:=Nat) [5,10] (fun i=>i≤s.cols.length) (fun i=>[(5,.asl 1 (Wr s kind i).length),(10,vI i)]) (fun i=>[aR 4096 2 [schT s],aR 1 1 ((Wr s kind i).map vI)]) (fun i=>s.cols.length-i) 0 oM ?_ fun i hi=>?_
 ·show Le _ _ ⟨_,[aR 4096 2 [schT s],aR 1 1 []]⟩;exact .oA [uI 4096,(1,none)] []
 have hfl:=qo7 s kind i;refine sD ?_;refine⟨fun h=>?_,fun h=>?_⟩
 ·have hi2:i<s.cols.length:=by omega
  have hwi:=qh (i:=i) oM;have hat:qg s i=s.cols[i]:=by rw[qg,qk hi2]
  have hsu:=jW s kind i;rw[hat] at hsu;simp only[tZ,↓un_u,simprocAttr,Ax,qd hi2,hwi,AY,Ak];refine⟨oM,fun h2=>?_,fun h2=>?_⟩
  ·rw[Aj h2] at hsu;refine⟨oM,i+1,oM,oM,?_⟩;rw[hsu];exact .oA (U2 4096 1) []
  ·rw[Aq h2,CW] at hsu;refine⟨i+1,oM,oM,?_⟩;rw[hsu];exact .oA (U2 4096 1) []
 ·have hil:i=s.cols.length:=by omega
  subst hil;exact .oA [] [1]
theorem DrS.code {s:Sch} (h:DrS s):0<(Ka s 2).length∧(Ka s 2).length≤8:=by
 have hnc:=(zc h.ok).nc;have hl:=qo7 s 2 s.cols.length;refine⟨List.length_pos_of_mem (a:=1) (ZV.2 (zF.2 ?_)),by unfold Ka;omega⟩;obtain⟨ms,hc,h1,h3⟩:=h.cs;rcases hc with⟨hc,hm⟩ | ⟨hc,hm⟩
 ·refine⟨oM,by rw[hc];simp;omega,by rw[qg,hc];rfl⟩
 ·refine⟨oM,by rw[hc];simp;omega,by rw[qg,hc];rfl⟩
theorem DrS.meas {s:Sch} (h:DrS s):0<(Ka s 3).length∧(Ka s 3).length≤8:=by
 have hnc:=(zc h.ok).nc;have hl:=qo7 s 3 s.cols.length;refine⟨?_,by unfold Ka;omega⟩;obtain⟨ms,hc,h1,h3⟩:=h.cs;rcases hc with⟨hc,hm⟩ | ⟨hc,hm⟩
 ·refine List.length_pos_of_mem (a:=2) (ZV.2 (zF.2 ⟨oM,by rw[hc];simp;omega,?_⟩));have:=(hm 0 h1).kind;rw[qg,hc];show ((whoC::sexC::ms).getD 2 default).kind=3;rw[qk (by simp;omega)];exact this
 ·refine List.length_pos_of_mem (a:=3) (ZV.2 (zF.2 ⟨oM,by rw[hc];simp;omega,?_⟩));have:=(hm 0 h1).kind;rw[qg,hc];show ((whoC::sexC::jobC::ms).getD 3 default).kind=3;rw[qk (by simp;omega)];exact this
theorem jd6 (s:Sch) (hd:DrS s) (l:List UInt8) (a:Nat) (hl:l.length≤400) (ha:a≤l.length) :
 ∃ (v:Nat) (b:Nat),isB s v 2=true∧b≤l.length∧Sp 117 [.ptr 0 1 0 0,schT s] [(0,oC l a)] (vI v) [(0,oC l b)]:=by
 have hnc:=(zc hd.ok).nc;have hc:=Qk s 2 oM;have hm:=fun v=>(ZV (s:=s) (kind:=2) (v:=v)).1;obtain⟨k1,k2⟩:=hd.code;generalize Ka s 2=L at hc hm k1 k2;obtain⟨j,b,j1,j2,hb,sN⟩:=Qs l a L.length hl ha oM;obtain⟨m,rfl⟩:=AJ j1;have hmL:m<L.length:=by omega
 have hv:=hm _ (AX hmL);obtain⟨v,e⟩:=AJ (zF.1 hv).1;refine⟨v,b,by rw[← e];exact hv,hb,?_⟩;rw[← e];refine sIr qg2 fun e _ hst=>?_;unfold wx;refine sW ?_;refine C1.im hc rF rF ?_;refine sW ?_;refine C1.draw 0 l a _ sN rfl rfl rfl ?_;simp only[tZ,↓un_u,simprocAttr,Ax,qd hmL];refine⟨oM,?_⟩;exact .oA (U1 0) []
theorem Qc (s:Sch) (hd:DrS s) (l:List UInt8) (a:Nat) (hl:l.length≤400) (ha:a≤l.length) :
 ∃ (v:Nat) (b:Nat),isB s v 3=true∧b≤l.length∧Sp 118 [.ptr 0 1 0 0,schT s] [(0,oC l a)] (vI v) [(0,oC l b)]:=by
 have hnc:=(zc hd.ok).nc;have hc:=Qk s 3 oM;have hm:=fun v=>(ZV (s:=s) (kind:=3) (v:=v)).1;obtain⟨k1,k2⟩:=hd.meas;generalize Ka s 3=L at hc hm k1 k2;obtain⟨j,b,j1,j2,hb,sN⟩:=Qs l a L.length hl ha oM;obtain⟨m,rfl⟩:=AJ j1;have hmL:m<L.length:=by omega
 have hv:=hm _ (AX hmL);obtain⟨v,e⟩:=AJ (zF.1 hv).1;refine⟨v,b,by rw[← e];exact hv,hb,?_⟩;rw[← e];refine sIr WS fun e _ hst=>?_;unfold kf;refine sW ?_;refine C1.im hc rF rF ?_;refine sW ?_;refine C1.draw 0 l a _ sN rfl rfl rfl ?_;simp only[tZ,↓un_u,simprocAttr,Ax,qd hmL];refine⟨oM,?_⟩;exact .oA (U1 0) []
set_option maxHeartbeats 8000000
mutual
def sizC:Cnd→Nat
 | .mk _ _ _ _ _ ks=>qo8 ks+1
def qo8:List Cnd→Nat
 | []=>0
 | k::r=>sizC k+qo8 r
end
theorem zc0 (c:Cnd):sizC c=qo8 c.kids+1:=by cases c;rw[sizC];rfl
theorem jC3:∀ c,∀ m,1≤m→cntC c m≤sizC c:=by
 refine Cnd.ind' fun c ih m hm=>?_;rw[QT,zc0];have key:∀ l:List Cnd,(∀ k∈l,k∈c.kids)→∀ n,n≤m→ky l m n≤n+qo8 l:=by
  intro l
  induction l with
  | nil=>intro _ n h;rw[ky,qo8];omega
  | cons k r ihl=>
    intro hk n h;rw[ky,qo8];split
    ·have c1:=qx3 k (m-n) oM;have c2:=ih k (hk k sMp) (m-n) oM;have c3:=ihl (fun x hx=>hk x (CQ _ hx)) (n+cntC k (m-n)) oM;omega
    ·omega
 have:=key c.kids (fun k hk=>hk) 1 oM;omega
structure CndOk (s:Sch) (n:Nat) (c:Cnd):Prop where
 ok:nodE s c=0
 dep:depC c≤n+1
 siz:sizC c+1≤2 ^ (n+1)
theorem CndOk.chk {s:Sch} {n:Nat} {c:Cnd} (h:CndOk s n c) (hE:schE s=0) (hn:n≤3):chkC s c=0:=by
 have h1:=jC3 c 41 oM;have h2:=h.siz;have h3:=h.dep;have h4:2 ^ (n+1)≤2 ^ 4:=Nat.pow_le_pow_right oM oM;rw[chkC,Aq (by rw[hE];simp),Aq oM,Aq oM];exact h.ok
theorem zw1 {s:Sch} {c:Cnd} (h1:ndE s c=0) (h2:yC s c.kids=0):nodE s c=0:=by rw[zb1,Aq (by rw[h1];simp)];exact h2
theorem wG {s:Sch} {c:Cnd} (n:Nat) (h1:ndE s c=0) (h2:c.kids=[]):CndOk s n c:=by
 have h3:2 ^ 1≤2 ^ (n+1):=Nat.pow_le_pow_right oM oM;refine⟨zw1 h1 (by rw[h2,yC]),by rw[qu2,h2,jU];omega,by rw[zc0,h2,qo8];omega⟩
theorem jd7 {s:Sch} {c:Cnd} (h1:¬ (c.op<1∨7<c.op)) (h2:¬ (c.kids.length≠arC c.op∨(c.op≠2∧c.op≠3∧c.op≠4∧c.col≠0)∨(c.op≠2∧c.code≠0)∨(c.op≠3∧(c.lo≠0∨c.hi≠0))))
 (h3:¬ ((c.op=2∧isB s c.col 2=false)∨(c.op=3∧isB s c.col 3=false)∨(c.op=4∧(isB s c.col 3=false∨(qg s c.col.toNat).opt=false))))
 (h4:¬ (c.op=2∧(c.code<0∨c.code≥(qX s c.col.toNat).codes.length))) (h5:¬ (c.op=3∧(c.lo < -1000000∨c.hi>1000000∨c.lo>c.hi))):ndE s c=0:=by
 rw[ndE,Aq h1,Aq h2,Aq h3,Aq h4,Aq h5]
theorem qK7 (s:Sch):ndE s (.mk 1 0 0 0 0 [])=0:=jd7 (by simp [Cnd.op,Cnd.col,Cnd.code,Cnd.lo,Cnd.hi,Cnd.kids]) (by simp [arC,Cnd.op,Cnd.col,Cnd.code,Cnd.lo,Cnd.hi,Cnd.kids]) (by simp [Cnd.op,Cnd.col,Cnd.code,Cnd.lo,Cnd.hi,Cnd.kids]) (by simp [Cnd.op,Cnd.col,Cnd.code,Cnd.lo,Cnd.hi,Cnd.kids]) (by simp [Cnd.op,Cnd.col,Cnd.code,Cnd.lo,Cnd.hi,Cnd.kids])
theorem zH5 {s:Sch} {v:Nat} {k:Int} (h:isB s v 2=true) (h1:0≤k) (h2:k<(qX s v).codes.length):ndE s (.mk 2 v k 0 0 [])=0:=
 jd7 (by simp [Cnd.op,Cnd.col,Cnd.code,Cnd.lo,Cnd.hi,Cnd.kids]) (by simp [arC,Cnd.op,Cnd.col,Cnd.code,Cnd.lo,Cnd.hi,Cnd.kids]) (by simp [Cnd.op,Cnd.col,Cnd.code,Cnd.lo,Cnd.hi,Cnd.kids,h]) (by simp only[Cnd.op,Cnd.col,Cnd.code,Cnd.lo,Cnd.hi,Cnd.kids,Ax];omega) (by simp [Cnd.op,Cnd.col,Cnd.code,Cnd.lo,Cnd.hi,Cnd.kids])
theorem qa7 {s:Sch} {v:Nat} {a b:Int} (h:isB s v 3=true) (h1 : -1000000≤a) (h2:b≤1000000) (h3:a≤b):ndE s (.mk 3 v 0 a b [])=0:=
 jd7 (by simp [Cnd.op,Cnd.col,Cnd.code,Cnd.lo,Cnd.hi,Cnd.kids]) (by simp [arC,Cnd.op,Cnd.col,Cnd.code,Cnd.lo,Cnd.hi,Cnd.kids]) (by simp [Cnd.op,Cnd.col,Cnd.code,Cnd.lo,Cnd.hi,Cnd.kids,h]) (by simp [Cnd.op,Cnd.col,Cnd.code,Cnd.lo,Cnd.hi,Cnd.kids]) (by simp only[Cnd.op,Cnd.col,Cnd.code,Cnd.lo,Cnd.hi,Cnd.kids];omega)
theorem jd8 {s:Sch} {v:Nat} (h:isB s v 3=true) (h1:(qg s v).opt=true):ndE s (.mk 4 v 0 0 0 [])=0:=
 jd7 (by simp [Cnd.op,Cnd.col,Cnd.code,Cnd.lo,Cnd.hi,Cnd.kids]) (by simp [arC,Cnd.op,Cnd.col,Cnd.code,Cnd.lo,Cnd.hi,Cnd.kids]) (by simp only[Cnd.op,Cnd.col,Cnd.code,Cnd.lo,Cnd.hi,Cnd.kids,Ax,h,h1];simp) (by simp [Cnd.op,Cnd.col,Cnd.code,Cnd.lo,Cnd.hi,Cnd.kids]) (by simp [Cnd.op,Cnd.col,Cnd.code,Cnd.lo,Cnd.hi,Cnd.kids])
theorem jd9 {s:Sch} {op:Int} {ks:List Cnd} (h:op=5∨op=6∨op=7) (hk:ks.length=arC op):ndE s (.mk op 0 0 0 0 ks)=0:=
 jd7 (by simp only[Cnd.op,Cnd.col,Cnd.code,Cnd.lo,Cnd.hi,Cnd.kids];omega) (by simp [Cnd.op,Cnd.col,Cnd.code,Cnd.lo,Cnd.hi,Cnd.kids,hk]) (by simp only[Cnd.op,Cnd.col,Cnd.code,Cnd.lo,Cnd.hi,Cnd.kids];omega) (by simp only[Cnd.op,Cnd.col,Cnd.code,Cnd.lo,Cnd.hi,Cnd.kids];omega) (by simp only[Cnd.op,Cnd.col,Cnd.code,Cnd.lo,Cnd.hi,Cnd.kids];omega)
theorem jI1 {s:Sch} {n:Nat} {c:Cnd} (h:CndOk s n c):CndOk s (n+1) (.mk 7 0 0 0 0 [c]):=by
 have h1:=h.dep;have h2:=h.siz;have h3:2 ^ (n+1+1)=2*2 ^ (n+1):=by rw[Nat.pow_succ];omega
 refine⟨zw1 (jd9 (.inr (.inr rfl)) rfl) ?_,?_,?_⟩
 ·show yC s [c]=0;rw[yC,Aq (by rw[h.ok];simp),yC]
 ·rw[qu2];show jU [c]+1≤_;rw[jU,jU];omega
 ·rw[zc0];show qo8 [c]+1+1≤_;rw[qo8,qo8];omega
theorem jw7 {s:Sch} {n:Nat} {c d:Cnd} {op:Int} (ho:op=5∨op=6) (h:CndOk s n c) (g:CndOk s n d):CndOk s (n+1) (.mk op 0 0 0 0 [c,d]):=by
 have h1:=h.dep;have h2:=h.siz;have g1:=g.dep;have g2:=g.siz;have h3:2 ^ (n+1+1)=2*2 ^ (n+1):=by rw[Nat.pow_succ];omega
 refine⟨zw1 (jd9 oM (by rcases ho with h | h <;> subst h <;> rfl)) ?_,?_,?_⟩
 ·show yC s [c,d]=0;rw[yC,Aq (by rw[h.ok];simp),yC,Aq (by rw[g.ok];simp),yC]
 ·rw[qu2];show jU [c,d]+1≤_;rw[jU,jU,jU];omega
 ·rw[zc0];show qo8 [c,d]+1+1≤_;rw[qo8,qo8,qo8];omega
theorem Qd (s:Sch) (hd:DrS s) (l:List UInt8) (hl:l.length≤400):∀ (n:Nat) (a:Nat),a≤l.length→n≤3→
 ∃ r:Cnd×Nat,(CndOk s n r.1∧r.2≤l.length)∧Sp 57 [.ptr 0 1 0 0,schT s,vI n] [(0,oC l a)] (cnT r.1) [(0,oC l r.2)]:=by
 have hE:=hd.ok;have hok:=zc hE;have hnc:=hok.nc;have hat:∀ i (h:i<s.cols.length),qg s i=s.cols[i]:=fun i h=>by rw[qg,qk h]
 have hnl:=hd.nl;intro n
 induction n with
 | zero=>
   intro a ha _;refine jJ Jo mixm (fun r:Cnd×Nat=>cnT r.1) (fun r=>[(0,oC l r.2)]) sMp ?_;unfold kp;have hz:decide (((0:Nat):Int)>0)=false:=rfl;simp only[tZ,↓un_u,simprocAttr,hz];obtain⟨b,hb2⟩:∃ b,b=a:=⟨_,rfl⟩;rw[← hb2];have hb:b≤l.length:=by omega
   obtain⟨j2,b2,u1,u2,hb2,sN2⟩:=Qs l b 5 hl hb oM;refine XE.mp (fun _ _=>C1.draw 0 l b _ sN2 rfl rfl rfl) ?_;simp only[tZ,↓un_u,simprocAttr,AY,Ak];refine XE.brN (fun h1=>?_) (fun h1=>?_)
   ·obtain⟨v,b3,hv,hb3,sV⟩:=jd6 s hd l b2 hl hb2;obtain⟨_,v2,v3⟩:=zF.1 hv;rw[Ax] at v3;have hil:v<s.cols.length:=by omega
    obtain⟨d1,d2⟩:=hok.cdl hil v3;obtain⟨d3,d4⟩:=(zo (hok.cs v hil)).2.2.2.1 v3;have hcl:qX s v=s.lists.getD s.cols[v].list.toNat default:=by rw[qX,hat v hil]
    have hnd:=fun k=>zH5 (k:=k) hv;rw[hat v hil] at d1 d3 d4;rw[hcl,qk d1] at d2 hnd;obtain⟨_,d5,d6⟩:=zq d2;obtain⟨w,b4,w1,w2,hb4,sQ⟩:=Qs l b3 s.lists[s.cols[v].list.toNat].codes.length hl hb3 oM;refine XE.mp (fun _ _=>C1.draw 0 l b2 _ sV rfl rfl rfl) ?_;simp only[tZ,↓un_u,simprocAttr,Ax,qd hil,qd d1];refine XE.sd oM (XE.sd oM ?_);refine XE.mp (fun _ _=>C1.draw 0 l b3 _ sQ rfl rfl rfl) ?_;refine sW ?_;refine XE.sd kR ?_;refine XE.fin (.mk 2 v w 0 0 [],b4) ⟨wG _ (hnd w w1 w2) rfl,hb4⟩ fun e ⟨_,hst⟩=>?_;exact .oA (U1 0) []
   ·refine XE.brN (fun h2=>?_) (fun h2=>?_)
    ·refine XE.brN (fun _=>?_) (fun k=>absurd h2 k);obtain⟨v,b3,hv,hb3,sV⟩:=Qc s hd l b2 hl hb2;obtain⟨_,v2,v3⟩:=zF.1 hv;rw[Ax] at v3;have hil:v<s.cols.length:=by omega
     obtain⟨_,hM⟩:=hd.col hil v3;have hlo:=hM.low;rw[hat v hil] at hlo;obtain⟨w,b4,w1,w2,hb4,sQ⟩:=YO l b3 (-3) 40 hl hb3 oM oM;obtain⟨z,b5,z1,z2,hb5,sZ⟩:=Qs l b4 30 hl hb4 oM;have hw1:IntKind.i64.wrap (s.cols[v].low+w)=s.cols[v].low+w:=AK _ oM;have hw2:IntKind.i64.wrap (s.cols[v].low+w+z)=s.cols[v].low+w+z:=AK _ oM;refine XE.mp (fun _ _=>C1.draw 0 l b2 _ sV rfl rfl rfl) ?_;simp only[tZ,↓un_u,simprocAttr,Ax,qd hil];refine XE.sd oM ?_;refine XE.mp (fun _ _=>C1.draw 0 l b3 _ sQ rfl rfl rfl) ?_;simp only[tZ,↓un_u,simprocAttr,hw1];refine XE.sd kR ?_;refine XE.mp (fun _ _=>C1.draw 0 l b4 _ sZ rfl rfl rfl) ?_;simp only[tZ,↓un_u,simprocAttr,hw2];refine XE.fin (.mk 3 v 0 (s.cols[v].low+w) (s.cols[v].low+w+z) [],b5) ⟨wG _ (qa7 hv oM oM oM) rfl,hb5⟩ fun e ⟨_,hst⟩=>?_;exact .oA (U1 0) []
    ·refine XE.brN (fun h3=>?_) (fun h3=>?_)
     ·obtain⟨v,b3,hv,hb3,sV⟩:=Qc s hd l b2 hl hb2;obtain⟨_,v2,v3⟩:=zF.1 hv;rw[Ax] at v3;have hil:v<s.cols.length:=by omega
      obtain⟨_,hM⟩:=hd.col hil v3;have hlo:=hM.low;rw[hat v hil] at hlo;obtain⟨w,b4,w1,w2,hb4,sQ⟩:=YO l b3 (-3) 40 hl hb3 oM oM;obtain⟨z,b5,z1,z2,hb5,sZ⟩:=Qs l b4 30 hl hb4 oM;have hw1:IntKind.i64.wrap (s.cols[v].low+w)=s.cols[v].low+w:=AK _ oM;have hw2:IntKind.i64.wrap (s.cols[v].low+w+z)=s.cols[v].low+w+z:=AK _ oM;refine XE.mp (fun _ _=>C1.draw 0 l b2 _ sV rfl rfl rfl) ?_;simp only[tZ,↓un_u,simprocAttr,Ax,qd hil];refine XE.sd oM ?_;refine XE.mp (fun _ _=>C1.draw 0 l b3 _ sQ rfl rfl rfl) ?_;simp only[tZ,↓un_u,simprocAttr,hw1];refine XE.sd kR ?_;refine XE.mp (fun _ _=>C1.draw 0 l b4 _ sZ rfl rfl rfl) ?_;simp only[tZ,↓un_u,simprocAttr,hw2];refine XE.fin (.mk 3 v 0 (s.cols[v].low+w) (s.cols[v].low+w+z) [],b5) ⟨wG _ (qa7 hv oM oM oM) rfl,hb5⟩ fun e ⟨_,hst⟩=>?_;exact .oA (U1 0) []
     ·refine XE.brN (fun h4=>?_) (fun h4=>?_)
      ·obtain⟨v,b3,hv,hb3,sV⟩:=Qc s hd l b2 hl hb2;obtain⟨_,v2,v3⟩:=zF.1 hv;rw[Ax] at v3;have hil:v<s.cols.length:=by omega
       refine XE.mp (fun _ _=>C1.draw 0 l b2 _ sV rfl rfl rfl) ?_;simp only[tZ,↓un_u,simprocAttr,Ax,qd hil];refine XE.sd oM ?_;refine XE.brB (fun h5=>?_) (fun h5=>?_)
       ·refine XE.fin (.mk 4 v 0 0 0 [],b3) ⟨wG _ (jd8 hv (by rw[hat v hil];exact h5)) rfl,hb3⟩ fun e ⟨_,hst⟩=>?_;exact .oA (U1 0) []
       ·refine XE.fin (.mk 1 0 0 0 0 [],b3) ⟨wG _ (qK7 s) rfl,hb3⟩ fun e ⟨_,hst⟩=>?_;exact .oA (U1 0) []
      ·refine XE.fin (.mk 1 0 0 0 0 [],b2) ⟨wG _ (qK7 s) rfl,hb2⟩ fun e ⟨_,hst⟩=>?_;exact .oA (U1 0) []
 | succ n ih=>
   intro a ha hn;have hz:decide (((n+1:Nat):Int)>0)=true:=Cx oM;have hwp:IntKind.i64.wrap (((n+1:Nat):Int)-1)=n:=by rw[AK _ oM];omega
   obtain⟨j,b,j1,j2,hb,sN⟩:=Qs l a 5 hl ha oM;obtain⟨⟨c1,b1⟩,⟨hc1,hb1⟩,sC1⟩:=ih b hb oM;dsimp only at hc1 hb1 sC1;obtain⟨⟨c2,b2⟩,⟨hc2,hb2⟩,sC2⟩:=ih b1 hb1 oM;dsimp only at hc2 hb2 sC2;refine jJ Jo mixm (fun r:Cnd×Nat=>cnT r.1) (fun r=>[(0,oC l r.2)]) sMp ?_;unfold kp;simp only[tZ,↓un_u,simprocAttr,hz];refine XE.mp (fun _ _=>C1.draw 0 l a _ sN rfl rfl rfl) ?_;simp only[tZ,↓un_u,simprocAttr,hwp,AY,Ak];refine XE.brN (fun h2=>?_) (fun h2=>XE.brN (fun h3=>?_) (fun h3=>XE.brN (fun h4=>?_) (fun h4=>?_)))
   ·refine XE.mp (fun _ _=>C1.draw 0 l b _ sC1 rfl rfl rfl) ?_;refine sW ?_;refine XE.fin (.mk 7 0 0 0 0 [c1],b1) ⟨jI1 hc1,hb1⟩ fun e ⟨_,hst⟩=>?_;show yA _ _ _ (.agg [vI 7,vI 0,vI 0,vI 0,vI 0,.sl 6 [cndT c1]]) _;rw[zp];exact .oA (U1 0) [20500]
   ·refine XE.mp (fun _ _=>C1.draw 0 l b _ sC1 rfl rfl rfl) ?_;simp only[tZ,↓un_u,simprocAttr,hwp];refine XE.mp (fun _ _=>C1.draw 0 l b1 _ sC2 rfl rfl rfl) ?_;refine sW ?_;refine XE.sd kR ?_;refine XE.fin (.mk 5 0 0 0 0 [c1,c2],b2) ⟨jw7 oM hc1 hc2,hb2⟩ fun e ⟨_,hst⟩=>?_;show yA _ _ _ (.agg [vI 5,vI 0,vI 0,vI 0,vI 0,.sl 6 [cndT c1,cndT c2]]) _;rw[zp,zp];exact .oA (U1 0) [28712]
   ·refine XE.mp (fun _ _=>C1.draw 0 l b _ sC1 rfl rfl rfl) ?_;simp only[tZ,↓un_u,simprocAttr,hwp];refine XE.mp (fun _ _=>C1.draw 0 l b1 _ sC2 rfl rfl rfl) ?_;refine sW ?_;refine XE.sd kR ?_;refine XE.fin (.mk 6 0 0 0 0 [c1,c2],b2) ⟨jw7 oM hc1 hc2,hb2⟩ fun e ⟨_,hst⟩=>?_;show yA _ _ _ (.agg [vI 6,vI 0,vI 0,vI 0,vI 0,.sl 6 [cndT c1,cndT c2]]) _;rw[zp,zp];exact .oA (U1 0) [36904]
   ·obtain⟨j2,b2,u1,u2,hb2,sN2⟩:=Qs l b 5 hl hb oM;refine XE.mp (fun _ _=>C1.draw 0 l b _ sN2 rfl rfl rfl) ?_;simp only[tZ,↓un_u,simprocAttr,AY,Ak];refine XE.brN (fun h1=>?_) (fun h1=>?_)
    ·obtain⟨v,b3,hv,hb3,sV⟩:=jd6 s hd l b2 hl hb2;obtain⟨_,v2,v3⟩:=zF.1 hv;rw[Ax] at v3;have hil:v<s.cols.length:=by omega
     obtain⟨d1,d2⟩:=hok.cdl hil v3;obtain⟨d3,d4⟩:=(zo (hok.cs v hil)).2.2.2.1 v3;have hcl:qX s v=s.lists.getD s.cols[v].list.toNat default:=by rw[qX,hat v hil]
     have hnd:=fun k=>zH5 (k:=k) hv;rw[hat v hil] at d1 d3 d4;rw[hcl,qk d1] at d2 hnd;obtain⟨_,d5,d6⟩:=zq d2;obtain⟨w,b4,w1,w2,hb4,sQ⟩:=Qs l b3 s.lists[s.cols[v].list.toNat].codes.length hl hb3 oM;refine XE.mp (fun _ _=>C1.draw 0 l b2 _ sV rfl rfl rfl) ?_;simp only[tZ,↓un_u,simprocAttr,Ax,qd hil,qd d1];refine XE.sd oM (XE.sd oM ?_);refine XE.mp (fun _ _=>C1.draw 0 l b3 _ sQ rfl rfl rfl) ?_;refine sW ?_;refine XE.sd kR ?_;refine XE.fin (.mk 2 v w 0 0 [],b4) ⟨wG _ (hnd w w1 w2) rfl,hb4⟩ fun e ⟨_,hst⟩=>?_;exact .oA (U1 0) []
    ·refine XE.brN (fun h2=>?_) (fun h2=>?_)
     ·refine XE.brN (fun _=>?_) (fun k=>absurd h2 k);obtain⟨v,b3,hv,hb3,sV⟩:=Qc s hd l b2 hl hb2;obtain⟨_,v2,v3⟩:=zF.1 hv;rw[Ax] at v3;have hil:v<s.cols.length:=by omega
      obtain⟨_,hM⟩:=hd.col hil v3;have hlo:=hM.low;rw[hat v hil] at hlo;obtain⟨w,b4,w1,w2,hb4,sQ⟩:=YO l b3 (-3) 40 hl hb3 oM oM;obtain⟨z,b5,z1,z2,hb5,sZ⟩:=Qs l b4 30 hl hb4 oM;have hw1:IntKind.i64.wrap (s.cols[v].low+w)=s.cols[v].low+w:=AK _ oM;have hw2:IntKind.i64.wrap (s.cols[v].low+w+z)=s.cols[v].low+w+z:=AK _ oM;refine XE.mp (fun _ _=>C1.draw 0 l b2 _ sV rfl rfl rfl) ?_;simp only[tZ,↓un_u,simprocAttr,Ax,qd hil];refine XE.sd oM ?_;refine XE.mp (fun _ _=>C1.draw 0 l b3 _ sQ rfl rfl rfl) ?_;simp only[tZ,↓un_u,simprocAttr,hw1];refine XE.sd kR ?_;refine XE.mp (fun _ _=>C1.draw 0 l b4 _ sZ rfl rfl rfl) ?_;simp only[tZ,↓un_u,simprocAttr,hw2];refine XE.fin (.mk 3 v 0 (s.cols[v].low+w) (s.cols[v].low+w+z) [],b5) ⟨wG _ (qa7 hv oM oM oM) rfl,hb5⟩ fun e ⟨_,hst⟩=>?_;exact .oA (U1 0) []
     ·refine XE.brN (fun h3=>?_) (fun h3=>?_)
      ·obtain⟨v,b3,hv,hb3,sV⟩:=Qc s hd l b2 hl hb2;obtain⟨_,v2,v3⟩:=zF.1 hv;rw[Ax] at v3;have hil:v<s.cols.length:=by omega
       obtain⟨_,hM⟩:=hd.col hil v3;have hlo:=hM.low;rw[hat v hil] at hlo;obtain⟨w,b4,w1,w2,hb4,sQ⟩:=YO l b3 (-3) 40 hl hb3 oM oM;obtain⟨z,b5,z1,z2,hb5,sZ⟩:=Qs l b4 30 hl hb4 oM;have hw1:IntKind.i64.wrap (s.cols[v].low+w)=s.cols[v].low+w:=AK _ oM;have hw2:IntKind.i64.wrap (s.cols[v].low+w+z)=s.cols[v].low+w+z:=AK _ oM;refine XE.mp (fun _ _=>C1.draw 0 l b2 _ sV rfl rfl rfl) ?_;simp only[tZ,↓un_u,simprocAttr,Ax,qd hil];refine XE.sd oM ?_;refine XE.mp (fun _ _=>C1.draw 0 l b3 _ sQ rfl rfl rfl) ?_;simp only[tZ,↓un_u,simprocAttr,hw1];refine XE.sd kR ?_;refine XE.mp (fun _ _=>C1.draw 0 l b4 _ sZ rfl rfl rfl) ?_;simp only[tZ,↓un_u,simprocAttr,hw2];refine XE.fin (.mk 3 v 0 (s.cols[v].low+w) (s.cols[v].low+w+z) [],b5) ⟨wG _ (qa7 hv oM oM oM) rfl,hb5⟩ fun e ⟨_,hst⟩=>?_;exact .oA (U1 0) []
      ·refine XE.brN (fun h4=>?_) (fun h4=>?_)
       ·obtain⟨v,b3,hv,hb3,sV⟩:=Qc s hd l b2 hl hb2;obtain⟨_,v2,v3⟩:=zF.1 hv;rw[Ax] at v3;have hil:v<s.cols.length:=by omega
        refine XE.mp (fun _ _=>C1.draw 0 l b2 _ sV rfl rfl rfl) ?_;simp only[tZ,↓un_u,simprocAttr,Ax,qd hil];refine XE.sd oM ?_;refine XE.brB (fun h5=>?_) (fun h5=>?_)
        ·refine XE.fin (.mk 4 v 0 0 0 [],b3) ⟨wG _ (jd8 hv (by rw[hat v hil];exact h5)) rfl,hb3⟩ fun e ⟨_,hst⟩=>?_;exact .oA (U1 0) []
        ·refine XE.fin (.mk 1 0 0 0 0 [],b3) ⟨wG _ (qK7 s) rfl,hb3⟩ fun e ⟨_,hst⟩=>?_;exact .oA (U1 0) []
       ·refine XE.fin (.mk 1 0 0 0 0 [],b2) ⟨wG _ (qK7 s) rfl,hb2⟩ fun e ⟨_,hst⟩=>?_;exact .oA (U1 0) []
end Go.Proofs
