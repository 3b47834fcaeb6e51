/- A part of the proof: trees of Go values, short forms, contracts. -/
import Derived.Test.YthbdcffpkbmlaaaGreatDoorK17
namespace Go.Proofs
open Go Go.TL
set_option maxHeartbeats 4000000
theorem Wn (s:Sch) (col kind:Int):Sp 136 [schT s,vI col,vI kind] [] (vB (isB s col kind)) []:=by
 by_cases h:0≤col∧col<s.cols.length
 ·obtain⟨i,rfl⟩:=AJ h.1;have hi:i<s.cols.length:=by omega
  have e1:decide ((i:Int)≥0)=true:=Cx oM;have e2:decide ((i:Int)<s.cols.length)=true:=Cx oM;have e3:isB s i kind=(s.cols[i].kind==kind):=by
   rw[isB,Ax,qj,qg hi,Cx h.1,Cx h.2];rfl
  refine sIr Yw fun e _ hst=>?_;unfold Qh;simp only[tZ,↓uU,simprocAttr,e1,e2,Ax,qd hi];rw[e3];refine⟨oM,?_⟩;exact .oA [] []
 ·have e1:(decide (col≥0)&&decide (col<(s.cols.length:Int)))=false:=by
   rw[FJ,Ay,Ay];omega
  have e3:isB s col kind=false:=by
   unfold isB;rw[show (decide (0≤col)&&decide (col<(s.cols.length:Int)))=false from e1];rfl
  rcases Nat.lt_or_ge col.toNat s.cols.length with hk | hk
  ·refine sIr Yw fun e _ hst=>?_;unfold Qh;simp only[tZ,↓uU,simprocAttr,e1,qd hk];rw[e3];exact .oA [] []
  ·have hj:(s.cols.map colT).getD col.toNat .junk = .junk:=QG hk;refine sIr Yw fun e _ hst=>?_;unfold Qh;simp only[tZ,↓uU,simprocAttr,e1,hj,List.drop_succ_cons,List.drop_nil];rw[e3];exact .oA [] []
theorem qm8 (s:Sch) (hs:jY s) (l:List Pk):Sp 137 [schT s,vPs l] [] (vI (wB s l)) []:=by
 refine sIr qX1 fun e _ hst=>?_;unfold Ju;refine sD ?_;refine⟨fun h=>?_,fun h=>?_⟩
 ·rw[wB,Aj oM];exact .oA [] []
 rw[wB,Aq oM];refine qt mixm (α:=Nat) [5,15] (fun i=>i≤l.length∧jh (dimE s l) i=0) (fun i=>[(5,vI i)]) (fun i=>[aR 4096 2 [schT s]]) (fun i=>l.length-i) 0 ⟨oM,rfl⟩ ?_ fun i hi=>?_
 ·exact .oA (U1 4096) []
 refine sD ?_;refine⟨fun h3=>?_,fun h3=>?_⟩
 ·have hi2:i<l.length:=by omega
  have hwi:=qh (i:=i) oM;have hpi:pkAt l i=l[i]:=by rw[pkAt,qg hi2]
  have hstep:=yJ hi.2 hi2;have hnext:=jG hi.2;have hA:dimE s l i=if js s l[i]≠0 then js s l[i] else if isB s l[i].col 2=false then 7 else if ((l.take i).any fun x=>x.col==l[i].col)=true then 10 else 0:=by rw[dimE,hpi]
  simp only[tZ,↓uU,simprocAttr,Ax,qd hi2];refine⟨oM,?_⟩;refine C1.im (qm5 s hs l[i]) rF rF ?_;simp only[tZ,↓uU,simprocAttr,Bj,Aw];refine⟨kR,fun h4=>?_,fun h4=>?_⟩
  ·rw[Aj h4] at hA;rw[hstep (by rw[hA];exact h4),hA];exact .oA [] []
  rw[Aq (by rw[h4];simp)] at hA;simp only[tZ,↓uU,simprocAttr,Ax,qd hi2];refine⟨oM,?_⟩;refine C1.im (Wn s l[i].col 2) rF rF ?_;simp only[tZ,↓uU,simprocAttr,Bx,Bz];refine⟨kR,fun h5=>?_,fun h5=>?_⟩
  ·rw[Aj h5] at hA;rw[hstep (by rw[hA];simp),hA];exact .oA [] []
  rw[Aq (by rw[h5];simp)] at hA;refine qt mixm (α:=Nat) [7] (fun k=>k≤i∧(l.take k).any (fun x=>x.col==l[i].col)=false) (fun k=>[(7,vI k)]) (fun k=>[aR 4096 2 [schT s]]) (fun k=>i-k) 0 ⟨oM,rfl⟩ ?_ fun k hk=>?_
  ·exact .oA (U1 4096) []
  refine sD ?_;refine⟨fun h6=>?_,fun h6=>?_⟩
  ·have hk2:k<l.length:=by omega
   have hwk:=qh (i:=k) oM;simp only[tZ,↓uU,simprocAttr,Ax,qd hi2,qd hk2,hwk];refine⟨oM,oM,kR,fun h7=>?_,fun h7=>?_⟩
   ·rw[Aj (DJ.2 ⟨l[k],List.mem_take_iff_getElem.2 ⟨k,oM,rfl⟩,h7⟩)] at hA;rw[hstep (by rw[hA];simp),hA];exact .oA [] []
   ·refine⟨k+1,⟨oM,zV hk2 hk.2 h7⟩,oM,?_⟩;exact .oA (U1 4096) []
  ·have hki:k=i:=by omega
   subst hki;rw[Aq (by rw[hk.2];simp)] at hA;simp only[tZ,↓uU,simprocAttr,hwi];refine⟨k+1,⟨oM,by rw[hnext,hA]⟩,oM,?_⟩;exact .oA (U1 4096) []
 ·have hil:i=l.length:=by omega
  subst hil;rw[hi.2];exact .oA [] []
theorem za4 (s:Sch) (m:Int) (l:List Int):Sp 138 [schT s,vI m,vIs l] [] (vI (qz8 s m l)) []:=by
 refine sIr qJ4 fun e _ hst=>?_;unfold Zr;refine sD ?_;refine⟨fun h=>?_,fun h=>?_⟩
 ·rw[qz8,Aj oM];exact .oA [] []
 rw[qz8,Aq oM];refine qt mixm (α:=Nat) [7,15] (fun i=>i≤l.length∧jh (jx7 s m l) i=0) (fun i=>[(7,vI i)]) (fun i=>[aR 4096 2 [schT s]]) (fun i=>l.length-i) 0 ⟨oM,rfl⟩ ?_ fun i hi=>?_
 ·exact .oA (U1 4096) []
 refine sD ?_;refine⟨fun h3=>?_,fun h3=>?_⟩
 ·have hi2:i<l.length:=by omega
  have hwi:=qh (i:=i) oM;have hpi:l.getD i 0=l[i]:=qg hi2;have hstep:=yJ hi.2 hi2;have hnext:=jG hi.2;have hA:jx7 s m l i=if isB s l[i] 3=false then 7 else if l[i]=m∨(l.take i).contains l[i]=true then 10 else 0:=by rw[jx7,hpi]
  have hH:=qz2 (l.take i) l[i] (by rw[Cz];omega);simp only[tZ,↓uU,simprocAttr,Ax,qd hi2];refine⟨oM,?_⟩;refine C1.im (Wn s l[i] 3) rF rF ?_;simp only[tZ,↓uU,simprocAttr,Bx,Bz];refine⟨kR,fun h5=>?_,fun h5=>?_⟩
  ·rw[Aj h5] at hA;rw[hstep (by rw[hA];simp),hA];exact .oA [] []
  rw[Aq (by rw[h5];simp)] at hA;simp only[tZ,↓uU,simprocAttr,Ax,qd hi2,Kt,zl1];refine⟨oM,fun _=>by omega,fun _=>by omega,?_⟩;refine C2.im (fun _=>hH) (fun _=>rfl) rF ?_;simp only[tZ,↓uU,simprocAttr,tD,AY,Ak,hwi];refine⟨kR,fun h6=>?_,fun h6=>?_⟩
  ·rw[Aj h6] at hA;rw[hstep (by rw[hA];simp),hA];exact .oA [] []
  ·rw[Aq (by grind)] at hA;refine⟨i+1,⟨oM,by rw[hnext,hA]⟩,oM,?_⟩;exact .oA (U1 4096) []
 ·have hil:i=l.length:=by omega
  subst hil;rw[hi.2];exact .oA [] []
theorem zp8 (c:Cnd):Sp 80 [cnT c] [] (vB (qj1 c cnd0)) []:=by
 have h:=qm7 c cnd0 fun h=>.mk c (by rw[h];decide) (by rw[Dy.1 (show c.kids.length=0 from h)];simp);refine sIr qW1 fun e _ hst=>?_;unfold Jn;refine sW ?_;refine C1.shut [] h ?_ rF rfl ?_
 ·all_goals (try exact clA)
 refine sW ?_;exact .oA [] []
theorem za5 (s:Sch) (hE:schE s=0) (hL:0<s.lists.length) (q:Qst):Sp 79 [schT s,qstT q] [] (vI (qm3 s q)) []:=by
 have hok:=qO hE;refine sIr qF9 fun e _ hst=>?_;unfold QY;refine sW ?_;refine C1.im (Wn s q.meas 3) rF rF ?_;simp only[tZ,↓uU,simprocAttr,AY,Ak];refine⟨fun h=>?_,fun h=>?_⟩
 ·rw[qm3,Aj h];refine C1.im (qm8 s hok.sm q.dims) rF rF ?_;simp only[tZ,↓uU,simprocAttr,Bj,Aw];refine⟨fun h2=>?_,fun h2=>?_⟩
  ·rw[Aj h2];exact .oA [] []
  rw[Aq (by rw[h2];simp)];simp only[tZ,↓uU,simprocAttr,Bj,Aw,tD,Bx,Bz];refine⟨fun h3=>?_,fun h3=>?_⟩
  ·rw[Aj h3];exact .oA [] []
  ·rw[Aq (by grind)];exact .oA [] []
 rw[qm3,Aq h];refine⟨fun h2=>?_,fun h2=>?_⟩
 ·rw[Aj h2];simp only[tZ,↓uU,simprocAttr,Bx,Bz];refine⟨fun h3=>?_,fun h3=>?_⟩
  ·rw[Aj h3];exact .oA [] []
  rw[Aq (by rw[h3];simp)];refine C1.im (za4 s q.meas q.terms) rF rF ?_;refine sW ?_;exact .oA [] []
 rw[Aq h2];simp only[tZ,↓uU,simprocAttr,Bx,Bz];refine⟨fun h3=>?_,fun h3=>?_⟩
 ·rw[Aj h3];exact .oA [] []
 rw[Aq (by rw[h3];simp)];obtain⟨b1,b2,b3⟩:=jk.1 h3;have hil:q.meas.toNat<s.cols.length:=by omega
 rw[qj,qg hil];simp only[tZ,↓uU,simprocAttr,qd hil,tD];refine⟨oM,fun h4=>?_,fun h4=>?_⟩
 ·rw[Aj h4];exact .oA [] []
 rw[Aq h4];refine C1.im (jt s hok.sm hL q.event) rF rF ?_;refine sW ?_;exact .oA [] []
theorem kg (s:Sch) (hs:jY s) (hL:0<s.lists.length) (q:Qst):Sp 28 [schT s,qstT q] [] (vI (qstE s q)) []:=by
 refine sIr qh3 fun e _ hst=>?_;unfold wn;refine sW ?_;refine C1.im (zy s hs) rF rF ?_;simp only[tZ,↓uU,simprocAttr,Bj,Aw];refine⟨fun h=>?_,fun h=>?_⟩
 ·rw[qstE,Aj h];exact .oA [] []
 rw[qstE,Aq (by rw[h];simp)];refine C1.im (jF q.name) rF rF ?_;simp only[tZ,↓uU,simprocAttr,Bx,Bz];refine⟨fun h2=>?_,fun h2=>?_⟩
 ·rw[Aj h2];exact .oA [] []
 rw[Aq (by rw[h2];simp)];refine sD ?_;refine⟨fun h3=>?_,fun h3=>?_⟩
 ·rw[Aj oM];exact .oA [] []
 rw[Aq oM];refine C1.im (jt s hs hL q.filt) rF rF ?_;simp only[tZ,↓uU,simprocAttr,Bj,Aw];refine⟨fun h4=>?_,fun h4=>?_⟩
 ·rw[Aj h4];exact .oA [] []
 rw[Aq (by rw[h4];simp)];refine C1.im (za5 s h hL q) rF rF ?_;simp only[tZ,↓uU,simprocAttr,Bj,Aw];refine⟨fun h5=>?_,fun h5=>?_⟩
 ·rw[Aj h5];exact .oA [] []
 rw[Aq (by rw[h5];simp)];refine C2.im (fun _=>zp8 q.event) (fun _=>rfl) rF ?_;simp only[tZ,↓uU,simprocAttr,tD,Bj,Aw,Bx,Bz];refine⟨fun h6=>?_,fun h6=>?_⟩
 ·rw[Aj (by grind)];exact .oA [] []
 ·rw[Aq (by grind)];exact .oA [] []
theorem qd9 (s:Sch) (hs:jY s) (hL:0<s.lists.length) (d:Dcl):Sp 120 [schT s,dclT d] [] (vI (dclE s d)) []:=by
 refine sIr qH6 fun e _ hst=>?_;unfold Zi;refine sW ?_;refine C1.im (zy s hs) rF rF ?_;simp only[tZ,↓uU,simprocAttr,Bj,Aw];refine⟨fun h=>?_,fun h=>?_⟩
 ·rw[dclE,Aj h];exact .oA [] []
 rw[dclE,Aq (by rw[h];simp)];refine C1.im (jF d.proj) rF rF ?_;refine sW ?_;refine C2.im (fun _=>jF d.src) (fun _=>rfl) rF ?_;simp only[tZ,↓uU,simprocAttr,tD,Bx,Bz];refine⟨fun h2=>?_,fun h2=>?_⟩
 ·rw[Aj h2];exact .oA [] []
 rw[Aq (by grind)];refine C1.im (jt s hs hL d.coh) rF rF ?_;simp only[tZ,↓uU,simprocAttr,Bj,Aw];refine⟨fun h3=>?_,fun h3=>?_⟩
 ·rw[Aj h3];exact .oA [] []
 rw[Aq (by rw[h3];simp)];refine sD ?_;refine⟨fun h4=>?_,fun h4=>?_⟩
 ·rw[Aj (by unfold smpE;grind)];exact .oA [] []
 rw[Aq (by unfold smpE;grind)];refine⟨fun h5=>?_,fun h5=>?_⟩
 ·rw[Aj oM];exact .oA [] []
 rw[Aq oM];refine qt mixm (α:=Nat) [8,74] (fun i=>i≤d.qs.length∧jh (qsE s d.qs) i=0) (fun i=>[(8,vI i)]) (fun i=>[aR 4096 2 [schT s],aR 4100 12 [dclT d]]) (fun i=>d.qs.length-i) 0 ⟨oM,rfl⟩ ?_ fun i hi=>?_
 ·exact .oA (U2 4096 4100) []
 refine sD ?_;refine⟨fun h6=>?_,fun h6=>?_⟩
 ·have hi2:i<d.qs.length:=by omega
  have hwi:=qh (i:=i) oM;have hpi:qAt d.qs i=d.qs[i]:=by rw[qAt,qg hi2]
  have hstep:=yJ hi.2 hi2;have hnext:=jG hi.2;have hA:qsE s d.qs i=if qstE s d.qs[i]≠0 then qstE s d.qs[i] else if ((d.qs.take i).any fun x=>eqB x.name d.qs[i].name)=true then 10 else 0:=by rw[qsE,hpi]
  simp only[tZ,↓uU,simprocAttr,Ax,qd hi2];refine⟨oM,?_⟩;refine C1.im (kg s hs hL d.qs[i]) rF rF ?_;simp only[tZ,↓uU,simprocAttr,Bj,Aw];refine⟨kR,fun h7=>?_,fun h7=>?_⟩
  ·rw[Aj h7] at hA;rw[hstep (by rw[hA];exact h7),hA];exact .oA [] []
  rw[Aq (by rw[h7];simp)] at hA;refine qt mixm (α:=Nat) [10] (fun k=>k≤i∧(d.qs.take k).any (fun x=>eqB x.name d.qs[i].name)=false) (fun k=>[(10,vI k)]) (fun k=>[aR 4096 2 [schT s],aR 4100 12 [dclT d]]) (fun k=>i-k) 0 ⟨oM,rfl⟩ ?_ fun k hk=>?_
  ·exact .oA (U2 4096 4100) []
  refine sD ?_;refine⟨fun h8=>?_,fun h8=>?_⟩
  ·have hk2:k<d.qs.length:=by omega
   have hwk:=qh (i:=k) oM;simp only[tZ,↓uU,simprocAttr,Ax,qd hi2,qd hk2,hwk];refine⟨oM,oM,kR,fun h9=>?_,fun h9=>?_⟩
   ·rw[Aj (DJ.2 ⟨d.qs[k],List.mem_take_iff_getElem.2 ⟨k,oM,rfl⟩,h9⟩)] at hA;rw[hstep (by rw[hA];simp),hA];exact .oA [] []
   ·refine⟨k+1,⟨oM,zV hk2 hk.2 h9⟩,oM,?_⟩;exact .oA (U2 4096 4100) []
  ·have hki:k=i:=by omega
   subst hki;rw[Aq (by rw[hk.2];simp)] at hA;simp only[tZ,↓uU,simprocAttr,hwi];refine⟨k+1,⟨oM,by rw[hnext,hA]⟩,oM,?_⟩;exact .oA (U2 4096 4100) []
 ·have hil:i=d.qs.length:=by omega
  subst hil;rw[hi.2];exact .oA [] []
theorem zp9 (q:Qst) (k:Int) (ht:q.terms.length<4611686018427387904):Sp 177 [qstT q,vI k] [] (vB (zz5 q k)) []:=by
 refine sIr qZ0 fun e _ hst=>?_;unfold JF;refine sW ?_;refine C2.im (fun _=>qz2 q.terms k ht) (fun _=>rfl) rF ?_;refine sW ?_;rw[show (q.meas==k||q.terms.contains k)=zz5 q k from rfl];exact .oA [] []
theorem qA5:∀ (m l:List Pk),(Qr l m).length≤l.length+m.length
 | [],l=>BZ _
 | p::m,l=>by
   have h1:=qA5 m (jz l p.col p.lev);have h2:=wQ l p.col p.lev;unfold Qr at h1 ⊢
   rw[Dw,CJ];omega
theorem zS0 (l m:List Pk) (p:Pk):Qr l (m++[p])=jz (Qr l m) p.col p.lev:=by rw[Qr,Gx];rfl
theorem wR (s:Sch) (c:Cnd):(zu s c).length≤40:=by
 unfold zu;split
 ·simp
 ·rename_i h;obtain⟨hE,k2,k3,k4⟩:=YG (AQ h);have h1:=zz7 c 41 oM k2;have h2:=qA4 s (atsC c) [];simp only[Cw] at h2;unfold zp7 at h2;omega
structure QstOk (s:Sch) (q:Qst):Prop where
 sch:schE s=0
 kind:1≤q.kind∧q.kind≤3
 filt:chkC s q.filt=0
 dims:q.kind=1→wB s q.dims=0∧(q.meas = -1∨isB s q.meas 3=true)
 nd:q.dims.length≤3
 terms:q.kind=2→isB s q.meas 3=true∧qz8 s q.meas q.terms=0
 nt:q.terms.length≤3
 event:q.kind=3→isB s q.meas 3=true∧0≤(qj s q.meas.toNat).low∧chkC s q.event=0
 d0:q.kind≠1→q.dims=[]
 t0:q.kind≠2→q.terms=[]
 e0:q.kind≠3→qj1 q.event cnd0=true
theorem qj3 {s:Sch} {q:Qst} (h:qstE s q=0):QstOk s q:=by
 unfold qstE at h;split at h
 ·rename_i h1;exact absurd h h1
 rename_i h1;split at h
 ·cases h
 rename_i h2;split at h
 ·cases h
 rename_i h3;split at h
 ·rename_i h4;exact absurd h h4
 rename_i h4;split at h
 ·rename_i h5;exact absurd h h5
 rename_i h5;split at h
 ·cases h
 rename_i h6;have hp:qm3 s q=0:=AQ h5;unfold qm3 at hp;have hd:q.kind=1→wB s q.dims=0∧(q.meas = -1∨isB s q.meas 3=true):=fun k=>by
  rw[Aj k] at hp
  grind
 have ht:q.kind=2→isB s q.meas 3=true∧qz8 s q.meas q.terms=0:=fun k=>by
  rw[Aq oM,Aj k] at hp
  grind
 have hd0:q.kind≠1→q.dims=[]:=fun k=>Dy.1 oM;have ht0:q.kind≠2→q.terms=[]:=fun k=>Dy.1 oM;refine⟨AQ h1,oM,AQ h4,hd,?_,ht,?_,fun k=>?_,hd0,ht0,fun k=>?_⟩
 ·by_cases k:q.kind=1
  ·have:=(hd k).1;unfold wB at this
   grind
  ·rw[hd0 k];simp
 ·by_cases k:q.kind=2
  ·have:=(ht k).2;unfold qz8 at this
   grind
  ·rw[ht0 k];simp
 ·rw[Aq oM,Aq oM] at hp
  grind
 ·grind
theorem Wo (s:Sch):∀ (m l:List Pk),(m.foldl (fun l p=>jz l p.col (zO s p.col p.lev)) l).length≤l.length+m.length
 | [],l=>BZ _
 | p::m,l=>by
   have h1:=Wo s m (jz l p.col (zO s p.col p.lev));have h2:=wQ l p.col (zO s p.col p.lev);rw[Dw,CJ];omega
theorem qj4 (s:Sch) (q:Qst):∀ (m:List Nat) (l:List Pk),(m.foldl (jZ s q) l).length≤l.length+m.length
 | [],l=>BZ _
 | k::m,l=>by
   have h1:=qj4 s q m (jZ s q l k);have h2:(jZ s q l k).length≤l.length+1:=by
    unfold jZ;split
    ·exact wQ _ _ _
    ·omega
   rw[Dw,CJ];omega
def qR2 (s:Sch) (q:Qst):List Pk:=if q.kind=3 then Qr (zu s q.filt) (zu s q.event) else zu s q.filt
theorem qR3 (s:Sch) (q:Qst):(qR2 s q).length≤80:=by
 have h1:=wR s q.filt;have h2:=wR s q.event;have h3:=qA5 (zu s q.event) (zu s q.filt);unfold qR2;split <;> omega
theorem jl5 (s:Sch) (q:Qst):(YF s q).length≤100:=by
 unfold YF jl2;split
 ·simp
 ·rename_i h;have hq:=qj3 (AQ h);have h1:=qR3 s q;unfold qR2 at h1;have h2:=Wo s q.dims (if q.kind=3 then Qr (zu s q.filt) (zu s q.event) else zu s q.filt);have h3:=qj4 s q (List.range (s.cols.length-1)) (q.dims.foldl (fun l p=>jz l p.col (zO s p.col p.lev)) (if q.kind=3 then Qr (zu s q.filt) (zu s q.event) else zu s q.filt));have h4:=(qO hq.sch).nc;have h5:=hq.nd;rw[List.length_range] at h3;omega
theorem za6 (s:Sch) (hs:jY s) (hL:0<s.lists.length) (q:Qst):Sp 160 [schT s,qstT q] [] (vPs (YF s q)) []:=by
 refine sIr qK0 fun e _ hst=>?_;unfold Zu;refine sW ?_;refine C1.im (kg s hs hL q) rF rF ?_;simp only[tZ,↓uU,simprocAttr,Bj,Aw];refine⟨fun h=>?_,fun h=>?_⟩
 ·rw[YF,Aj h];exact .oA [] []
 have hq:=qj3 h;have hnc:=(qO hq.sch).nc;have hnd:=hq.nd;have hnt:=hq.nt;have hN:YF s q=(List.range (s.cols.length-1)).foldl (jZ s q) (q.dims.foldl (fun l p=>jz l p.col (zO s p.col p.lev)) (qR2 s q)):=by
  rw[YF,Aq (by rw[h];simp)];rfl
 have h0:=qR3 s q;have hQ0:qR2 s q=if q.kind=3 then Qr (zu s q.filt) (zu s q.event) else zu s q.filt:=rfl
 rw[hN];generalize qR2 s q=A at h0 hQ0 ⊢
 refine C1.im (yC s hs hL q.filt) rF rF ?_;have hcl:=wR s q.filt;generalize zu s q.filt=C at hQ0 hcl ⊢
 simp only[tZ,↓uU,simprocAttr,AY,Ak];apply mid
 ·intro hmain;refine⟨fun h1=>?_,fun h1=>?_⟩
  ·rw[Aj h1] at hQ0;refine C1.im (yC s hs hL q.event) rF rF ?_;have hel:=wR s q.event;generalize zu s q.event=V at hQ0 hel ⊢
   refine sW ?_;refine qt mixm (α:=Nat) [5,7,20] (fun i=>i≤V.length) (fun i=>[(5,vPs (Qr C (V.take i))),(7,vI i)]) (fun i=>[aR 4096 2 [schT s],aR 4100 17 [qstT q]]) (fun i=>V.length-i) 0 oM ?_ fun i hi=>?_
   ·exact .oA (U2 4096 4100) []
   have hrl:=qA5 (V.take i) C;rw[Cz] at hrl;refine sD ?_;refine⟨fun h3=>?_,fun h3=>?_⟩
   ·have hi2:i<V.length:=by omega
    have hwi:=qh (i:=i) oM;simp only[tZ,↓uU,simprocAttr,Ax,qd hi2];refine⟨oM,oM,?_⟩;refine C1.im (jN (Qr C (V.take i)) V[i].col V[i].lev oM) rF rF ?_;simp only[tZ,↓uU,simprocAttr,hwi];refine⟨kR,i+1,oM,oM,?_⟩;rw[qy hi2,zS0];exact .oA (U2 4096 4100) []
   ·have hil:i=V.length:=by omega
    subst hil;rw[Bw,← hQ0];exact hmain
  ·rw[Aq h1] at hQ0;rw[← hQ0];exact hmain
 ·clear hQ0;refine qt mixm (α:=Nat) [5,8] (fun i=>i≤q.dims.length) (fun i=>[(5,vPs ((q.dims.take i).foldl (fun l p=>jz l p.col (zO s p.col p.lev)) A)),(8,vI i)]) (fun i=>[aR 4096 2 [schT s],aR 4100 17 [qstT q]]) (fun i=>q.dims.length-i) 0 oM ?_ fun i hi=>?_
  ·exact .oA (U2 4096 4100) []
  have hrl:=Wo s (q.dims.take i) A;rw[Cz] at hrl;refine sD ?_;refine⟨fun h3=>?_,fun h3=>?_⟩
  ·have hi2:i<q.dims.length:=by omega
   have hwi:=qh (i:=i) oM;simp only[tZ,↓uU,simprocAttr,Ax,qd hi2];refine⟨oM,oM,oM,?_⟩;refine C1.im (JH s hs q.dims[i].col q.dims[i].lev) rF rF ?_;refine sW ?_;refine C1.im (jN _ q.dims[i].col (zO s q.dims[i].col q.dims[i].lev) oM) rF rF ?_;simp only[tZ,↓uU,simprocAttr,hwi];refine⟨kR,i+1,oM,oM,?_⟩;rw[qy hi2,Gx];simp only[Dw,List.foldl_nil];exact .oA (U2 4096 4100) []
  ·have hil:i=q.dims.length:=by omega
   subst hil;rw[Bw];have hB:=Wo s q.dims A;generalize q.dims.foldl (fun l p=>jz l p.col (zO s p.col p.lev)) A=B at hB ⊢
   refine qt mixm (α:=Nat) [5,9] (fun i=>i≤s.cols.length-1) (fun i=>[(5,vPs ((List.range i).foldl (jZ s q) B)),(9,vI ((i+1:Nat):Int))]) (fun i=>[aR 4096 2 [schT s],aR 4100 17 [qstT q]]) (fun i=>s.cols.length-1-i) 0 oM ?_ fun i hi=>?_
   ·exact .oA (U2 4096 4100) []
   have hrl:=qj4 s q (List.range i) B;rw[List.length_range] at hrl;have hsu:(List.range (i+1)).foldl (jZ s q) B=jZ s q ((List.range i).foldl (jZ s q) B) i:=by rw[List.range_succ,Gx];rfl
   have hwi:=qh (i:=i+1) oM;have hU:=zp9 q ((i+1:Nat):Int) oM;refine sD ?_;refine⟨fun h3=>?_,fun h3=>?_⟩
   ·refine C1.im hU rF rF ?_;refine sW ?_;refine⟨fun h4=>?_,fun h4=>?_⟩
    ·have hsu:(List.range (i+1)).foldl (jZ s q) B=jz ((List.range i).foldl (jZ s q) B) ((i+1:Nat):Int) (zO s ((i+1:Nat):Int) (finI s ((i+1:Nat):Int))):=by
      rw[hsu,jZ];exact Aj h4
     refine C1.im (zM s hs ((i+1:Nat):Int)) rF rF ?_;refine sW ?_;refine C1.im (JH s hs ((i+1:Nat):Int) (finI s ((i+1:Nat):Int))) rF rF ?_;refine sW ?_;refine C1.im (jN _ ((i+1:Nat):Int) (zO s ((i+1:Nat):Int) (finI s ((i+1:Nat):Int))) oM) rF rF ?_;simp only[tZ,↓uU,simprocAttr,hwi];refine⟨kR,i+1,oM,oM,?_⟩;rw[hsu];exact .oA (U2 4096 4100) []
    ·have hsu:(List.range (i+1)).foldl (jZ s q) B=(List.range i).foldl (jZ s q) B:=by
      rw[hsu,jZ];exact Aq (by show ¬ zz5 q ((i+1:Nat):Int)=true;rw[h4];simp)
     simp only[tZ,↓uU,simprocAttr,hwi];refine⟨i+1,oM,oM,?_⟩;rw[hsu];exact .oA (U2 4096 4100) []
   ·have hil:i=s.cols.length-1:=by omega
    subst hil;exact .oA [] []
theorem qA6 (s:Sch) (hs:jY s) (hL:0<s.lists.length) (q:Qst) (l:List Pk) (hl:l.length<4611686018427387904):Sp 121 [schT s,qstT q,vPs l] [] (vB (sufB s q l)) []:=by
 have hnl:=jl5 s q;refine sIr qo3 fun e _ hst=>?_;unfold ye;refine sW ?_;refine C1.im (kg s hs hL q) rF rF ?_;refine sW ?_;refine C2.im (fun _=>yB s hs l hl) (fun _=>rfl) rF ?_;refine sW ?_;refine C2.im (fun _=>za6 s hs hL q) (fun _=>rfl) rF ?_;refine sW ?_;refine C2.im (fun _=>ZB (YF s q) l oM hl) (fun _=>rfl) rF ?_;refine sW ?_;rw[show (qstE s q==0&&jH s l==0&&covB (YF s q) l)=sufB s q l from rfl];exact .oA [] []
theorem za7 (s:Sch) (hs:jY s) (hL:0<s.lists.length) (d:Dcl) (l:List Pk) (hl:l.length<4611686018427387904):Sp 70 [schT s,dclT d,vPs l] [] (vI (zp2 s d l)) []:=by
 refine sIr qF3 fun e _ hst=>?_;unfold QV;refine sW ?_;refine C1.im (qd9 s hs hL d) rF rF ?_;simp only[tZ,↓uU,simprocAttr,Bj,Aw];refine⟨fun h=>?_,fun h=>?_⟩
 ·rw[zp2,Aj h];exact .oA [] []
 obtain⟨hE,_,_,_,_,hq1,hq2,_⟩:=jl1 h;rw[zp2,Aq (by rw[h];simp)];refine C1.im (yB s hs l hl) rF rF ?_;simp only[tZ,↓uU,simprocAttr,Bj,Aw];refine⟨fun h2=>?_,fun h2=>?_⟩
 ·rw[Aj h2];exact .oA [] []
 rw[Aq (by rw[h2];simp)];refine qt mixm (α:=Nat) [9,7,8] (fun i=>i≤d.qs.length∧jh (fun i=>if sufB s (qAt d.qs i) l=true then 0 else 23) i=0) (fun i=>[(9,vI i)]) (fun i=>[aR 4096 2 [schT s],aR 4100 12 [dclT d]]) (fun i=>d.qs.length-i) 0 ⟨oM,rfl⟩ ?_ fun i hi=>?_
 ·exact .oA (U2 4096 4100) []
 refine sD ?_;refine⟨fun h3=>?_,fun h3=>?_⟩
 ·have hi2:i<d.qs.length:=by omega
  have hwi:=qh (i:=i) oM;have hpi:qAt d.qs i=d.qs[i]:=by rw[qAt,qg hi2]
  have hstep:=yJ hi.2 hi2;have hnext:=jG hi.2;rw[hpi] at hstep hnext;simp only[tZ,↓uU,simprocAttr,Ax,qd hi2];refine⟨oM,?_⟩;refine C1.im (qA6 s hs hL d.qs[i] l hl) rF rF ?_;simp only[tZ,↓uU,simprocAttr,Bx,Bz,hwi];refine⟨kR,fun h4=>?_,fun h4=>?_⟩
  ·rw[Aq (by rw[h4];simp)] at hstep;rw[hstep (by decide)];exact .oA [] []
  ·rw[Aj h4] at hnext;refine⟨i+1,⟨oM,hnext⟩,oM,?_⟩;exact .oA (U2 4096 4100) []
 ·have hil:i=d.qs.length:=by omega
  subst hil;rw[hi.2];exact .oA [] []
def hd (r:List Int):Int:=r.getD 0 0
def putS (row:List Int):List (List Int)×Bool→List Int→List (List Int)×Bool:=fun x r=>
 if hd r=hd row then x
 else if hd r>hd row∧x.2=false then (x.1++[row]++[r],true)
 else (x.1++[r],x.2)
def putR (l:List (List Int)) (row:List Int):List (List Int):=
 let x:=l.foldl (putS row) ([],false)
 if x.2 then x.1 else x.1++[row]
def atR (id:Int) (r:List Int):Bool:=decide (0<r.length)&&(hd r==id)
def qL2 (s:Src) (id:Int):Int:=if s.rows.any (atR id)=true then (s.rows.findIdx (atR id):Int) else -1
def asc2 (l:List Int) (i:Nat):Bool:=decide (i=0)||decide (l.getD (i-1) 0<l.getD i 0)
def jl6 (s:Src):Bool:=(List.range s.rows.length).all fun i=>(rowE s.sch (s.rows.getD i [])==0)&&(decide (i=0)||decide (hd (s.rows.getD (i-1) [])<hd (s.rows.getD i [])))
def jH6 (s:Src):Bool:=(List.range s.gone.length).all fun i=>decide (1≤s.gone.getD i 0)&&decide (s.gone.getD i 0≤1048575)&&asc2 s.gone i&&decide (qL2 s (s.gone.getD i 0)<0)
def srcB (s:Src):Bool:=(schE s.sch==0)&&decide (s.rows.length≤200)&&decide (s.gone.length≤300)&&decide (0≤s.ver)&&decide (s.ver≤300)&&jl6 s&&jH6 s
abbrev src0:Src:=⟨⟨[],[]⟩,[],[],0⟩
def AscR (l:List (List Int)):Prop:=l.Pairwise fun a b=>hd a<hd b
theorem zq0 {row:List Int}:∀ (l acc:List (List Int)),(∀ r∈l,hd row<hd r)→l.foldl (putS row) (acc,true)=(acc++l,true)
 | [],acc,_=>by simp
 | r::l,acc,h=>by
   have h1:=h r sMp;have e:putS row (acc,true) r=(acc++[r],true):=by
    unfold putS;rw[Aq oM,Aq sMp]
   rw[Dw,e,zq0 l _ fun x hx=>h x (CQ _ hx)];simp
theorem qj5 {row:List Int}:∀ (l acc:List (List Int)),AscR l→l.foldl (putS row) (acc,false) =
 if (l.any fun r=>decide (hd row<hd r))=true then (acc++l.filter (fun r=>decide (hd r<hd row))++row::l.filter (fun r=>decide (hd row<hd r)),true)
 else (acc++l.filter (fun r=>decide (hd r<hd row)),false)
 | [],acc,_=>by simp
 | r::l,acc,h=>by
   obtain⟨h1,h2⟩:=List.pairwise_cons.1 h;rw[Dw];by_cases e1:hd r=hd row
   ·have e:putS row (acc,false) r=(acc,false):=by unfold putS;rw[Aj e1]
    have d1:decide (hd row<hd r)=false:=by simp;omega
    have d2:decide (hd r<hd row)=false:=by simp;omega
    rw[e,qj5 l acc h2,List.any_cons,List.filter_cons,List.filter_cons,d1,d2];simp
   ·by_cases e2:hd r>hd row
    ·have e:putS row (acc,false) r=(acc++[row]++[r],true):=by unfold putS;rw[Aq e1,Aj ⟨e2,rfl⟩]
     have hall:∀ x∈l,hd row<hd x:=fun x hx=>by have:=h1 x hx;omega
     have d1:decide (hd row<hd r)=true:=by simp;omega
     have d2:decide (hd r<hd row)=false:=by simp;omega
     have f1:l.filter (fun r=>decide (hd row<hd r))=l:=List.filter_eq_self.2 fun x hx=>by simpa using hall x hx
     have f2:l.filter (fun r=>decide (hd r<hd row))=[]:=List.filter_eq_nil_iff.2 fun x hx=>by have:=hall x hx;simp;omega
     rw[e,zq0 l _ hall,List.any_cons,List.filter_cons,List.filter_cons,d1,d2,f1,f2];simp
    ·have e:putS row (acc,false) r=(acc++[r],false):=by
      unfold putS;rw[Aq e1,Aq (fun k=>e2 k.1)]
     have d1:decide (hd row<hd r)=false:=by simp;omega
     have d2:decide (hd r<hd row)=true:=by simp;omega
     rw[e,qj5 l _ h2,List.any_cons,List.filter_cons,List.filter_cons,d1,d2];simp
theorem jl7 {l:List (List Int)} {row:List Int} (h:AscR l):putR l row=l.filter (fun r=>decide (hd r<hd row))++row::l.filter (fun r=>decide (hd row<hd r)):=by
 unfold putR;rw[qj5 l [] h];by_cases e:(l.any fun r=>decide (hd row<hd r))=true
 ·rw[Aj e];simp
 ·rw[Aq e];have f1:l.filter (fun r=>decide (hd row<hd r))=[]:=List.filter_eq_nil_iff.2 fun x hx=>by
   intro k;exact e (DJ.2 ⟨x,hx,k⟩)
  rw[f1];simp
theorem za8 {l:List (List Int)} {row:List Int} (h:AscR l):AscR (putR l row):=by
 rw[jl7 h];unfold AscR;rw[List.pairwise_append];refine⟨h.filter _,List.pairwise_cons.2 ⟨fun x hx=>?_,h.filter _⟩,fun a ha b hb=>?_⟩
 ·have:=(Fz.1 hx).2;simpa using this
 ·have h1:=(Fz.1 ha).2;rcases Ck.1 hb with rfl | hb
  ·simpa using h1
  ·have h2:=(Fz.1 hb).2;simp only[AZ] at h1 h2;omega
theorem za9 {l:List (List Int)} {row r:List Int} (h:AscR l):r∈putR l row↔r=row∨(r∈l∧hd r≠hd row):=by
 rw[jl7 h,Dz,Ck,Fz,Fz];simp only[AZ];constructor
 ·rintro (⟨a,b⟩ | a | ⟨a,b⟩)
  ·exact .inr ⟨a,oM⟩
  ·exact .inl a
  ·exact .inr ⟨a,oM⟩
 ·rintro (a | ⟨a,b⟩)
  ·exact .inr (.inl a)
  ·by_cases c:hd r<hd row
   ·exact .inl ⟨a,c⟩
   ·exact .inr (.inr ⟨a,oM⟩)
theorem zb0 (l:List (List Int)) (row:List Int):(putR l row).length≤l.length+1:=by
 have key:∀ (l:List (List Int)) (x:List (List Int)×Bool),(l.foldl (putS row) x).1.length+(if (l.foldl (putS row) x).2 then 0 else 1)≤x.1.length+(if x.2 then 0 else 1)+l.length:=by
  intro l
  induction l with
  | nil=>intro x;simp only[List.foldl_nil,Cw,Nat.add_zero];exact BZ _
  | cons r l ih=>
    intro x;have h1:=ih (putS row x r);have h2:(putS row x r).1.length+(if (putS row x r).2 then 0 else 1)≤x.1.length+(if x.2 then 0 else 1)+1:=by
     unfold putS;split
     ·omega
     ·split
      ·rename_i h;rw[h.2];simp
      ·simp;omega
    rw[Dw,CJ];omega
 have:=key l ([],false);unfold putR;simp only[Cw,EZ,if_false] at this;dsimp only;split
 ·rename_i h;rw[h] at this;simp at this;omega
 ·rename_i h;rw[Aq h] at this;rw[AW];simp;omega
theorem jT9 {α:Type} [Inhabited α] {f:α→Int} {l:List α} (h:∀ i,0<i→i<l.length→f (l.getD (i-1) default)<f (l.getD i default)):l.Pairwise fun a b=>f a<f b:=by
 rw[DX];have key:∀ (d i:Nat) (hj:i+d+1<l.length),f (l[i]'oM)<f l[i+d+1]:=by
  intro d
  induction d with
  | zero=>
    intro i hj;have:=h (i+1) oM oM;rw[qg oM,qg oM] at this;simpa using this
  | succ d ih=>
    intro i hj;have h1:=ih i oM;have h2:=h (i+d+1+1) oM oM;rw[qg oM,qg oM] at h2;simp only[Nat.add_sub_cancel] at h2;have e:i+(d+1)+1=i+d+1+1:=by omega
    simp only[e];omega
 intro i j hi hj hij;have:=key (j-i-1) i oM;have e:i+(j-i-1)+1=j:=by omega
 simp only[e] at this;exact this
theorem jU0 {α:Type} [Inhabited α] {f:α→Int} {l:List α} (h:l.Pairwise fun a b=>f a<f b) {i:Nat} (h0:0<i) (hi:i<l.length):f (l.getD (i-1) default)<f (l.getD i default):=by
 rw[qg oM,qg hi];exact DX.1 h (i-1) i oM hi oM
structure SrcOk (s:Src):Prop where
 sch:schE s.sch=0
 nr:s.rows.length≤200
 ng:s.gone.length≤300
 ver:0≤s.ver∧s.ver≤300
 rows:∀ r∈s.rows,rowE s.sch r=0
 asc:AscR s.rows
 gone:∀ g∈s.gone,1≤g∧g≤1048575∧qL2 s g<0
 gasc:s.gone.Pairwise fun a b=>a<b
theorem JK {s:Sch} {r:List Int} (h:rowE s r=0):0<r.length:=by
 obtain⟨h1,h2,_⟩:=wA h;have:=(qO h1).nc;omega
theorem qA7 {s:Src}:srcB s=true↔SrcOk s:=by
 unfold srcB jl6 jH6 asc2;simp only[Bq,AY,AZ,Bk,Dk,DZ];constructor
 ·rintro ⟨⟨⟨⟨⟨⟨h1,h2⟩,h3⟩,h4⟩,h5⟩,h6⟩,h7⟩;refine⟨h1,h2,h3,⟨h4,h5⟩,fun r hr=>?_,?_,fun g hg=>?_,?_⟩
  ·obtain⟨i,hi,rfl⟩:=CX hr;have:=(h6 i hi).1;rw[qg hi] at this;exact this
  ·exact jT9 (f:=hd) fun i h0 hi=>((h6 i hi).2.resolve_left oM)
  ·obtain⟨i,hi,rfl⟩:=CX hg;obtain⟨⟨⟨a,b⟩,c⟩,d⟩:=h7 i hi;rw[qg hi] at a b d;exact⟨a,b,d⟩
  ·exact jT9 (f:=fun x:Int=>x) fun i h0 hi=>((h7 i hi).1.2.resolve_left oM)
 ·intro h;refine⟨⟨⟨⟨⟨⟨h.sch,h.nr⟩,h.ng⟩,h.ver.1⟩,h.ver.2⟩,fun i hi=>⟨?_,?_⟩⟩,fun i hi=>⟨⟨⟨?_,?_⟩,?_⟩,?_⟩⟩
  ·rw[qg hi];exact h.rows _ (AX hi)
  ·by_cases e:i=0
   ·exact .inl e
   ·exact .inr (jU0 (f:=hd) h.asc oM hi)
  ·rw[qg hi];exact (h.gone _ (AX hi)).1
  ·rw[qg hi];exact (h.gone _ (AX hi)).2.1
  ·by_cases e:i=0
   ·exact .inl e
   ·exact .inr (jU0 (f:=fun x:Int=>x) h.gasc oM hi)
  ·rw[qg hi];exact (h.gone _ (AX hi)).2.2
theorem jH7 {s:Sch} {r:List Int} (h:rowE s r=0) (id:Int):atR id r=(hd r==id):=by
 unfold atR;rw[Cx (JK h),Fq]
theorem zS1 {s:Sch} {r:List Int} (h:rowE s r=0):1≤hd r∧hd r≤1048575:=by
 obtain⟨h1,h2,h3⟩:=wA h;have h4:=h3 0 (JK h);unfold qS at h4;rw[Aj (qO h1).c0] at h4;simp only[inB,Bq,AZ] at h4;exact h4
open So
theorem kA {r:List Int} (h:0<r.length):(r.map vI).getD 0 .junk=vI (hd r):=by rw[qd h,hd,qg h]
theorem jy2 (row:List Int):∀ (l:List (List Int)) (x:List (List Int)×Bool),(l.foldl (putS row) x).1.length≤x.1.length+l.length+1
 | l,x=>by
   have key:∀ (l:List (List Int)) (x:List (List Int)×Bool),(l.foldl (putS row) x).1.length+(if (l.foldl (putS row) x).2 then 0 else 1)≤x.1.length+(if x.2 then 0 else 1)+l.length:=by
    intro l
    induction l with
    | nil=>intro x;simp only[List.foldl_nil,Cw,Nat.add_zero];exact BZ _
    | cons r l ih=>
      intro x;have h1:=ih (putS row x r);have h2:(putS row x r).1.length+(if (putS row x r).2 then 0 else 1)≤x.1.length+(if x.2 then 0 else 1)+1:=by
       unfold putS;split
       ·omega
       ·split
        ·rename_i h;rw[h.2];simp
        ·simp;omega
      rw[Dw,CJ];omega
   have:=key l x;split at this <;> split at this <;> omega
theorem qA8 (l:List (List Int)) (row:List Int) (hl:l.length<1000000000) (hr:∀ r∈l,0<r.length) (h0:0<row.length):Sp 67 [vRw l,vIs row] [] (vRw (putR l row)) []:=by
 have hP:putR l row=if (l.foldl (putS row) ([],false)).2 then (l.foldl (putS row) ([],false)).1 else (l.foldl (putS row) ([],false)).1++[row]:=rfl
 have hS:=fun i=>jy2 row (l.take i) ([],false);have hg0:=kA h0;refine sIr zm0 fun e _ hst=>?_;unfold Kz;refine sW ?_;refine qt mixm (α:=Nat×List (List Int)×Bool) [5,6,7] (fun x=>x.1≤l.length∧x.2=(l.take x.1).foldl (putS row) ([],false)) (fun x=>[(5,.asl 1 x.2.1.length),(6,vB x.2.2),(7,vI x.1)]) (fun x=>[aR 1 1 (x.2.1.map vIs)]) (fun x=>l.length-x.1) (0,[],false) ⟨sMp,sMp⟩ ?_ fun x hx=>?_
 ·exact .oA [(1,none)] []
 obtain⟨i,a,b⟩:=x;obtain⟨x1,x2⟩:=hx;dsimp only at x1 x2;have hSi:=hS i;rw[← x2] at hSi;simp only[Cw,Cz] at hSi;refine sD ?_;refine⟨fun h=>?_,fun h=>?_⟩
 ·have hi2:i<l.length:=by omega
  have hwi:=qh (i:=i) oM;have hs:(l.take (i+1)).foldl (putS row) ([],false)=putS row (a,b) l[i]:=by rw[qy hi2,Gx,← x2];rfl
  have hrp:=hr _ (AX hi2);have hgi:=kA hrp;have hr2:putS row (a,b) l[i]=if hd l[i]=hd row then (a,b) else if hd l[i]>hd row∧b=false then (a++[row]++[l[i]],true) else (a++[l[i]],b):=rfl
  rw[hr2] at hs;simp only[tZ,↓uU,simprocAttr,Ax,qd hi2,hgi,hg0,tD,AY,Ak,Bx,Bz,hwi];refine⟨oM,oM,oM,kR,fun h2=>?_,fun h2=>⟨oM,oM,oM,kR,fun h3=>?_,fun h3=>?_⟩⟩
  ·rw[Aj h2] at hs;refine⟨(i+1,a,b),⟨by dsimp only;omega,hs.symm⟩,by dsimp only;omega,?_⟩;exact .oA (U1 1) []
  ·rw[Aq h2,Aj h3] at hs;refine⟨oM,oM,oM,(i+1,a++[row]++[l[i]],true),⟨by dsimp only;omega,hs.symm⟩,by dsimp only;omega,?_⟩;exact .oA (U1 1) []
  ·rw[Aq h2,Aq (by grind)] at hs;refine⟨oM,oM,(i+1,a++[l[i]],b),⟨by dsimp only;omega,hs.symm⟩,by dsimp only;omega,?_⟩;exact .oA (U1 1) []
 ·have hil:i=l.length:=by omega
  subst hil;rw[Bw] at x2;rw[← x2] at hP;dsimp only at hP;simp only[tZ,↓uU,simprocAttr,Bx,Bz];refine⟨fun h2=>?_,fun h2=>?_⟩
  ·rw[hP,h2,Aq sMp];refine⟨oM,?_⟩;show Qx [] _ _ (.sl 1 ((a++[row]).map vIs)) [];rw[By];exact .oA [] [1]
  ·rw[hP,Aj h2];exact .oA [] [1]
theorem qm9 (s:Src) (id:Int) (hl:s.rows.length<4611686018427387904):Sp 72 [srcT s,vI id] [] (vI (qL2 s id)) []:=by
 refine sIr qV7 fun e _ hst=>?_;unfold Jl;refine sW ?_;refine qt mixm (α:=Nat) [5] (fun i=>i≤s.rows.length∧(s.rows.take i).any (atR id)=false) (fun i=>[(5,vI i)]) (fun i=>[aR 4096 5 [srcT s]]) (fun i=>s.rows.length-i) 0 ⟨oM,rfl⟩ ?_ fun i hi=>?_
 ·exact .oA (U1 4096) []
 refine sD ?_;refine⟨fun h=>?_,fun h=>?_⟩
 ·have hi2:i<s.rows.length:=by omega
  have hwi:=qh (i:=i) oM;have hno:atR id s.rows[i]=false→∃ y,(y≤s.rows.length∧(s.rows.take y).any (atR id)=false)∧s.rows.length-y<s.rows.length-i∧Le e ⟨[(1,vI id),(2,.ptr 4096 1 0 0),(5,vI ((i+1:Nat):Int))],[aR 4096 5 [srcT s]]⟩ ⟨[(5,vI y),(1,vI id),(2,.ptr 4096 1 0 0)],[aR 4096 5 [srcT s]]⟩:=fun h3=>by
   refine⟨i+1,⟨oM,zV hi2 hi.2 h3⟩,oM,?_⟩;exact .oA (U1 4096) []
  have hat:atR id s.rows[i]=(decide (0<s.rows[i].length)&&(hd s.rows[i]==id)):=rfl;rcases DQ s.rows[i].length with h0 | h0
  ·have e0:decide ((s.rows[i].length:Int)>0)=false:=Cq oM;have hgj:(s.rows[i].map vI).getD 0 .junk = .junk:=QG oM;simp only[tZ,↓uU,simprocAttr,Ax,qd hi2,e0,hgj,hwi];exact⟨oM,hno (by rw[hat,Cq oM];rfl)⟩
  ·have e0:decide ((s.rows[i].length:Int)>0)=true:=Cx oM;rw[Cx h0,Fq] at hat;simp only[tZ,↓uU,simprocAttr,Ax,qd hi2,e0,kA h0,hwi];refine⟨oM,oM,oM,fun h3=>?_,fun h3=>hno (by rw[hat];exact h3)⟩;rw[qL2,Aj (ql9 hi2 (by rw[hat];exact h3)),jI hi2 hi.2 (by rw[hat];exact h3)];exact .oA [] []
 ·have hil:i=s.rows.length:=by omega
  subst hil;have h2:=hi.2;rw[Bw] at h2;rw[qL2,Aq (by rw[h2];simp)];exact .oA [] []
def jy3 (s:Src):Prop:=jY s.sch∧∀ r∈s.rows,r.length<4611686018427387904
def rowP (s:Src) (i:Nat):Bool:=(rowE s.sch (s.rows.getD i [])==0)&&(decide (i=0)||decide (hd (s.rows.getD (i-1) [])<hd (s.rows.getD i [])))
def zq1 (s:Src) (i:Nat):Bool:=decide (1≤s.gone.getD i 0)&&decide (s.gone.getD i 0≤1048575)&&asc2 s.gone i&&decide (qL2 s (s.gone.getD i 0)<0)
theorem qe0 (s:Src) (hs:jy3 s):Sp 69 [srcT s] [] (vB (srcB s)) []:=by
 obtain⟨hs1,hs2⟩:=hs;have hB:srcB s=((schE s.sch==0)&&decide (s.rows.length≤200)&&decide (s.gone.length≤300)&&decide (0≤s.ver)&&decide (s.ver≤300)&&(List.range s.rows.length).all (rowP s)&&(List.range s.gone.length).all (zq1 s)):=rfl;refine sIr qF1 fun e _ hst=>?_;unfold QU;refine sW ?_;refine C1.im (zy s.sch hs1) rF rF ?_;simp only[tZ,↓uU,simprocAttr,tD,Bj,Aw];refine⟨fun h=>?_,fun h=>?_⟩
 ·rw[show srcB s=false by rw[hB];grind];exact .oA [] []
 have hB2:srcB s=((List.range s.rows.length).all (rowP s)&&(List.range s.gone.length).all (zq1 s)):=by rw[hB];grind
 clear hB;refine qt mixm (α:=Nat) [3,30] (fun i=>i≤s.rows.length∧(List.range i).all (rowP s)=true) (fun i=>[(3,vI i)]) (fun i=>[aR 4096 5 [srcT s]]) (fun i=>s.rows.length-i) 0 ⟨oM,rfl⟩ ?_ fun i hi=>?_
 ·exact .oA (U1 4096) []
 obtain⟨i1,i2⟩:=hi;refine sD ?_;refine⟨fun h2=>?_,fun h2=>?_⟩
 ·have hi2:i<s.rows.length:=by omega
  have hwi:=qh (i:=i) oM;have hpi:s.rows.getD i []=s.rows[i]:=qg hi2;have hbad:rowP s i=false→srcB s=false:=fun k=>by rw[hB2,zL0 hi2 k];rfl
  have hgd:rowP s i=true→(List.range (i+1)).all (rowP s)=true:=fun k=>by rw[qd8,i2,k];rfl
  have hP:rowP s i=((rowE s.sch s.rows[i]==0)&&(decide (i=0)||decide (hd (s.rows.getD (i-1) [])<hd s.rows[i]))):=by rw[rowP,hpi]
  simp only[tZ,↓uU,simprocAttr,Ax,qd hi2];refine⟨oM,?_⟩;refine C1.im (qz6 s.sch hs1 s.rows[i] (hs2 _ (AX hi2))) rF rF ?_;by_cases hR:rowE s.sch s.rows[i]=0
  case neg=>
   have e0:(rowE s.sch s.rows[i] != 0)=true:=Bj.2 hR;rw[hbad (by rw[hP,Ak.2 hR];rfl)];rcases DQ i with hi0 | hi0
   ·subst hi0;have hz:((0:Nat):Int)=0:=rfl;have hz2:(IntKind.i64.wrap (-1)).toNat=0:=by decide
    rcases DQ s.rows[0].length with h0 | h0
    ·have hgj:(s.rows[0].map vI).getD 0 .junk = .junk:=QG oM;simp only[tZ,↓uU,simprocAttr,e0,Ax,hz,beq_self_eq_true,gt_iff_lt,Int.lt_irrefl,Fq,hz2,qd hi2,hgj];refine⟨kR,?_⟩;exact .oA [] []
    ·simp only[tZ,↓uU,simprocAttr,e0,Ax,hz,beq_self_eq_true,gt_iff_lt,Int.lt_irrefl,Fq,hz2,qd hi2,kA h0];refine⟨kR,?_⟩;exact .oA [] []
   ·obtain⟨k,rfl⟩:∃ k,i=k+1:=⟨i-1,oM⟩;have hk3:k<s.rows.length:=by omega
    have e2:decide (((k+1:Nat):Int)>0)=true:=Cx oM;have e3:=kK (i:=k+1) oM oM;rw[Nat.add_sub_cancel] at e3;have hkp:0<s.rows[k].length:=by
     have:=Bk.1 i2 k (Dk.2 oM);rw[rowP,qg hk3,Bq,AY] at this;exact JK this.1
    rcases DQ s.rows[k+1].length with h0 | h0
    ·have hgj:(s.rows[k+1].map vI).getD 0 .junk = .junk:=QG oM;simp only[tZ,↓uU,simprocAttr,e0,Ax,qd hi2,qd hk3,e2,e3,hgj,kA hkp];refine⟨kR,?_⟩;exact .oA [] []
    ·simp only[tZ,↓uU,simprocAttr,e0,Ax,qd hi2,qd hk3,e2,e3,kA h0,kA hkp];refine⟨kR,?_⟩;exact .oA [] []
  have e0:(rowE s.sch s.rows[i] != 0)=false:=Aw.2 hR;rw[AY.2 hR,Fq] at hP;have hrp:=JK hR;rcases DQ i with hi0 | hi0
  ·subst hi0;have hz:((0:Nat):Int)=0:=rfl;have hz2:(IntKind.i64.wrap (-1)).toNat=0:=by decide
   have hz3:=qh (i:=0) oM;rw[hz] at hz3;simp only[tZ,↓uU,simprocAttr,e0,Ax,hz,beq_self_eq_true,gt_iff_lt,Int.lt_irrefl,Fq,hz2,qd hi2,hz3,kA hrp];refine⟨kR,1,⟨oM,hgd (by rw[hP];rfl)⟩,oM,?_⟩;exact .oA (U1 4096) []
  ·obtain⟨k,rfl⟩:∃ k,i=k+1:=⟨i-1,oM⟩;have hk3:k<s.rows.length:=by omega
   have e2:decide (((k+1:Nat):Int)>0)=true:=Cx oM;have e3:=kK (i:=k+1) oM oM;rw[Nat.add_sub_cancel] at e3 hP;rw[qg hk3,Cq oM,Bool.false_or] at hP;have hkp:0<s.rows[k].length:=by
    have:=Bk.1 i2 k (Dk.2 oM);rw[rowP,qg hk3,Bq,AY] at this;exact JK this.1
   simp only[tZ,↓uU,simprocAttr,e0,Ax,qd hi2,qd hk3,e2,e3,hwi,kA hrp,kA hkp,tD];refine⟨oM,oM,oM,oM,kR,fun h4=>?_,fun h4=>?_⟩
   ·rw[hbad (by rw[hP];exact Cq oM)];exact .oA [] []
   ·refine⟨k+2,⟨oM,hgd (by rw[hP];exact Cx oM)⟩,oM,?_⟩;exact .oA (U1 4096) []
 ·have hil:i=s.rows.length:=by omega
  subst hil;rw[i2,Fq] at hB2;have hrl:s.rows.length<4611686018427387904:=by omega
  refine qt mixm (α:=Nat) [4] (fun i=>i≤s.gone.length∧(List.range i).all (zq1 s)=true) (fun i=>[(4,vI i)]) (fun i=>[aR 4096 5 [srcT s]]) (fun i=>s.gone.length-i) 0 ⟨oM,rfl⟩ ?_ fun i hi=>?_
  ·exact .oA (U1 4096) []
  obtain⟨j1,j2⟩:=hi;refine sD ?_;refine⟨fun h2=>?_,fun h2=>?_⟩
  ·have hi2:i<s.gone.length:=by omega
   have hwi:=qh (i:=i) oM;have hpi:s.gone.getD i 0=s.gone[i]:=qg hi2;have hbad:zq1 s i=false→srcB s=false:=fun k=>by rw[hB2,zL0 hi2 k]
   have hgd:zq1 s i=true→(List.range (i+1)).all (zq1 s)=true:=fun k=>by rw[qd8,j2,k];rfl
   have hP:zq1 s i=(decide (1≤s.gone[i])&&decide (s.gone[i]≤1048575)&&asc2 s.gone i&&decide (qL2 s s.gone[i]<0)):=by rw[zq1,hpi]
   have hF:=qm9 s s.gone[i] hrl;rcases DQ i with hi0 | hi0
   ·subst hi0;have hz:((0:Nat):Int)=0:=rfl;have hz2:(IntKind.i64.wrap (-1)).toNat=0:=by decide
    have hz3:=qh (i:=0) oM;rw[hz] at hz3;have hA:asc2 s.gone 0=true:=rfl;rw[hA,Bool.and_true] at hP;simp only[tZ,↓uU,simprocAttr,Ax,hz,beq_self_eq_true,gt_iff_lt,Int.lt_irrefl,Fq,hz2,qd hi2,hz3,Bool.or_false];refine⟨oM,fun _=>by omega,fun _=>by omega,?_⟩;refine C2.im (fun _=>hF) (fun _=>rfl) rF ?_;simp only[tZ,↓uU,simprocAttr,tD,hz3];refine⟨kR,fun h4=>?_,fun h4=>?_⟩
    ·rw[hbad (by rw[hP];grind)];exact .oA [] []
    ·refine⟨1,⟨oM,hgd (by rw[hP];grind)⟩,oM,?_⟩;exact .oA (U1 4096) []
   ·obtain⟨k,rfl⟩:∃ k,i=k+1:=⟨i-1,oM⟩;have hk3:k<s.gone.length:=by omega
    have e2:decide (((k+1:Nat):Int)>0)=true:=Cx oM;have e3:=kK (i:=k+1) oM oM;rw[Nat.add_sub_cancel] at e3;have hA:asc2 s.gone (k+1)=decide (s.gone[k]<s.gone[k+1]):=by
     rw[asc2,Nat.add_sub_cancel,qg hk3,hpi,Cq oM];rfl
    rw[hA] at hP;simp only[tZ,↓uU,simprocAttr,Ax,qd hi2,qd hk3,e2,e3];refine⟨oM,fun _=>by omega,fun _=>by omega,fun _=>by omega,fun _=>by omega,?_⟩;refine C2.im (fun _=>hF) (fun _=>rfl) rF ?_;simp only[tZ,↓uU,simprocAttr,tD,hwi];refine⟨kR,fun h4=>?_,fun h4=>?_⟩
    ·rw[hbad (by rw[hP];grind)];exact .oA [] []
    ·refine⟨k+2,⟨oM,hgd (by rw[hP];grind)⟩,oM,?_⟩;exact .oA (U1 4096) []
  ·have hil:i=s.gone.length:=by omega
   subst hil;rw[hB2,j2];exact .oA [] []
theorem SrcOk.rowp {s:Src} (h:SrcOk s):∀ r∈s.rows,0<r.length:=fun r hr=>JK (h.rows r hr)
set_option maxRecDepth 4000
def mixA (h:Int):Int:=IntKind.u64.wrap (xorI .u64 h (shrI .u64 h 31)*13787848793156543929)
def mix0 (s r x:Int):Int:=IntKind.u64.wrap (IntKind.u64.wrap (IntKind.u64.wrap s+IntKind.u64.wrap (IntKind.u64.wrap r*11400714819323198485))+IntKind.u64.wrap (IntKind.u64.wrap x*14029467366897019727))
def iter {α:Type} (f:α→α):Nat→α→α
 | 0,x=>x
 | n+1,x=>f (iter f n x)
def mixI (s r x:Int):Int:=IntKind.i64.wrap (shrI .u64 (iter mixA 3 (mix0 s r x)) 54)
def fwd (s:Int):Nat→Int×Int→Int×Int
 | 0,p=>p
 | r+1,p=>((fwd s r p).2,xorI .i64 (fwd s r p).1 (mixI s r (fwd s r p).2))
def bwd (s:Int):Nat→Int×Int→Int×Int
 | 0,p=>p
 | r+1,p=>bwd s r (xorI .i64 p.2 (mixI s r p.1),p.1)
def JU (s n:Int):Bool:=decide (0≤s)&&decide (s<1152921504606846976)&&decide (0≤n)&&decide (n<1048576)
def tie (p:Int×Int):Int:=p.1*1024+p.2
def cut (n:Int):Int×Int:=(n / 1024,n % 1024)
def keyI (s n:Int):Int:=if JU s n=true then tie (fwd s 8 (cut n)) else -1
def idI (s n:Int):Int:=if JU s n=true then tie (bwd s 8 (cut n)) else -1
theorem bits_nat {n:Int} (h0:0≤n):BitVec.ofInt 64 n=BitVec.ofNat 64 n.toNat:=by
 apply BitVec.eq_of_toNat_eq
 simp [BitVec.toNat_ofInt];omega
theorem zz8 {a b:Int} (ha:0≤a∧a<9223372036854775808) (hb:0≤b∧b<9223372036854775808):xorI .i64 a b=((a.toNat ^^^ b.toNat:Nat):Int):=by
 have h1:a.toNat<2 ^ 63:=by omega
 have h2:b.toNat<2 ^ 63:=by omega
 have h3:=Nat.xor_lt_two_pow h1 h2;unfold xorI;rw[show IntKind.i64.bits=64 from rfl,bits_nat ha.1,bits_nat hb.1,BitVec.toNat_xor,BitVec.toNat_ofNat,BitVec.toNat_ofNat,Nat.mod_eq_of_lt oM,Nat.mod_eq_of_lt oM];exact AK _ oM
theorem zq2 {a b:Int} (ha:0≤a∧a<1024) (hb:0≤b∧b<1024):0≤xorI .i64 a b∧xorI .i64 a b<1024:=by
 have h1:a.toNat<2 ^ 10:=by omega
 have h2:b.toNat<2 ^ 10:=by omega
 have h3:=Nat.xor_lt_two_pow h1 h2;rw[zz8 oM oM];omega
theorem jM6 {a b:Int} (ha:0≤a∧a<1024) (hb:0≤b∧b<1024):xorI .i64 (xorI .i64 a b) b=a:=by
 have:=zq2 ha hb;rw[zz8 oM oM,zz8 oM oM];simp only[Ax,Nat.xor_assoc,Nat.xor_self,Nat.xor_zero];omega
theorem zq3 (s r x:Int):0≤mixI s r x∧mixI s r x<1024:=by
 unfold mixI;have h:∀ n,0≤iter mixA 3 n∧iter mixA 3 n<18446744073709551616:=by
  intro n;simp only[iter];unfold mixA;rw[IntKind.wrap_u64];omega
 have:=h (mix0 s r x);have h1:shrI .u64 (iter mixA 3 (mix0 s r x)) 54=(iter mixA 3 (mix0 s r x)) / 18014398509481984:=by
  unfold shrI;rw[DW _ (by decide)]
  rfl
 rw[h1];rw[AK _ oM];omega
theorem ZP {s:Int} {p:Int×Int} (h:(0≤p.1∧p.1<1024)∧0≤p.2∧p.2<1024):∀ r,(0≤(fwd s r p).1∧(fwd s r p).1<1024)∧0≤(fwd s r p).2∧(fwd s r p).2<1024
 | 0=>h
 | r+1=>⟨(ZP h r).2,zq2 (ZP h r).1 (zq3 _ _ _)⟩
theorem jl8 {s:Int} {p:Int×Int} (h:(0≤p.1∧p.1<1024)∧0≤p.2∧p.2<1024):∀ r,bwd s r (fwd s r p)=p
 | 0=>rfl
 | r+1=>by
   simp only[bwd,fwd];rw[jM6 (ZP h r).1 (zq3 _ _ _)];exact jl8 h r
theorem qe1 {n:Int} (h:0≤n∧n<1048576):(0≤(cut n).1∧(cut n).1<1024)∧0≤(cut n).2∧(cut n).2<1024:=by
 simp only[cut];omega
theorem jM7 {p:Int×Int} (h:(0≤p.1∧p.1<1024)∧0≤p.2∧p.2<1024):cut (tie p)=p:=by
 obtain⟨a,b⟩:=p;simp only[cut,tie] at *
 congr 1 <;> omega
theorem jM8 (n:Int):tie (cut n)=n:=by simp only[cut,tie];omega
theorem zq4 {p:Int×Int} (h:(0≤p.1∧p.1<1024)∧0≤p.2∧p.2<1024):0≤tie p∧tie p<1048576:=by
 simp only[tie];omega
theorem zb1 (a b:Int):Sp 124 [vI a,vI b] [] (vB (JU a b)) []:=by
 refine Wh qH8 mixm sMp fun e hn hst=>wW ?_;unfold Zj;refine sW ?_;exact .imR rfl rfl
def zq5 (s r x:Int):Int:=if s<0∨1152921504606846976≤s∨r<0∨8≤r∨x<0∨1024≤x then 0 else mixI s r x
theorem zb2 (a b c:Int):Sp 125 [vI a,vI b,vI c] [] (vI (zq5 a b c)) []:=by
 refine Wh qI0 mixm sMp fun e hn hst=>wW ?_;unfold Zk;simp only[tZ,↓uU,simprocAttr,DZ,FX,AZ,Ay];refine⟨fun h=>.imR ?_ rfl,fun h=>?_⟩
 ·rw[zq5,Aj oM]
 ·refine jg5 mixm (α:=Nat) (fun i=>i≤3) (fun i=>[(7,vU64 (iter mixA i (mix0 a b c))),(8,vI i)]) (fun _=>[]) (fun i=>3-i) 0 oM (.ofFr (by simp [qn5,TL.get,iter,mix0])) fun i hi=>?_;simp only[tZ,↓uU,simprocAttr,AZ,Ay];refine⟨fun h=>⟨i+1,oM,oM,.ofFr ?_⟩,fun h=>?_⟩
  ·simp [qn5,TL.get,iter,mixA];exact AK _ oM
  ·have:i=3:=by omega
   subst this;refine .imR ?_ rfl;rw[zq5,Aq oM]
   rfl
theorem jy4 {s n x:Int} {r:Nat} (h:JU s n=true) (hr:r<8) (hx:0≤x∧x<1024):zq5 s r x=mixI s r x:=by
 simp [JU] at h;rw[zq5,Aq oM]
theorem zz9 (s n:Int):Sp 73 [vI s,vI n] [] (vI (keyI s n)) []:=by
 refine Wh zm2 mixm sMp fun e hn hst=>wW ?_;unfold KA;refine sW ?_;refine C1.im (zb1 s n) rfl rfl ?_;simp only[tZ,↓uU,simprocAttr,Bz];refine⟨fun h=>.imR (by simp [keyI,h]) rfl,fun h=>?_⟩;have hn:0≤n∧n<1048576:=by simp [JU] at h;omega
 rw[Int.tdiv_eq_ediv_of_nonneg hn.1,Int.tmod_eq_emod_of_nonneg hn.1,AK _ oM];have hr:=ZP (s:=s) (qe1 hn);refine jg5 mixm (α:=Nat) (fun i=>i≤8) (fun i=>[(0,vI s),(5,vI (fwd s i (cut n)).1),(6,vI (fwd s i (cut n)).2),(7,vI i)]) (fun _=>[]) (fun i=>8-i) 0 oM (.ofFr (by simp [qn5,TL.get,fwd,cut])) fun i hi=>?_;simp only[tZ,↓uU,simprocAttr,AZ,Ay];refine⟨fun h1=>?_,fun h1=>?_⟩
 ·refine C1.im (zb2 s i _) rfl rfl ?_;refine sW ?_;refine⟨i+1,oM,oM,.ofFr ?_⟩;rw[jy4 h oM (hr i).2];simp [qn5,TL.get,fwd];exact AK _ oM
 ·have:i=8:=by omega
  subst this;have:=hr 8;refine .imR ?_ rfl;rw[AK _ (by rw[AK _ oM];omega),AK _ oM];simp [keyI,h,tie]
def drw0 (seed id:Int):Int:=IntKind.u64.wrap (IntKind.u64.wrap (IntKind.u64.wrap (IntKind.u64.wrap seed*2654435761)+IntKind.u64.wrap (IntKind.u64.wrap id*40503))+97)
def drwA (h:Int):Int:=IntKind.u64.wrap (IntKind.u64.wrap (h*6364136223846793005)+1442695040888963407)
def drwX (h:Int):Int:=xorI .u64 (drwA h) (shrI .u64 (drwA h) 29)
def drwI (seed id:Int):Int:=IntKind.i64.wrap (shrI .u64 (iter drwX 3 (drw0 seed id)) 32)
def inS (x:Smp) (id:Int):Bool:=(smpE x==0)&&decide (1≤id)&&decide (id≤1048575)&&decide ((drwI x.seed id).tmod x.of<x.part)
theorem zb3 (x:Smp):Sp 162 [smpT x] [] (vI (smpE x)) []:=by
 refine sIr qK2 fun e _ hst=>?_;unfold Zv;refine sD ?_;refine⟨fun h=>?_,fun h=>?_⟩
 ·rw[smpE,Aj oM];exact .oA [] []
 ·rw[smpE,Aq oM];exact .oA [] []
theorem zq6 (seed id:Int):Sp 163 [vI seed,vI id] [] (vI (drwI seed id)) []:=by
 refine sIr qY1 fun e _ hst=>?_;unfold JB;refine sW ?_;refine qt mixm (α:=Nat) [5,6] (fun i=>i≤3) (fun i=>[(5,vU64 (iter drwX i (drw0 seed id))),(6,vI i)]) (fun i=>[]) (fun i=>3-i) 0 oM ?_ fun i hi=>?_
 ·exact .oA [] []
 have hwi:=qh (i:=i) oM;refine sD ?_;refine⟨fun h=>?_,fun h=>?_⟩
 ·simp only[tZ,↓uU,simprocAttr,hwi];refine⟨i+1,oM,oM,?_⟩;show Le _ _ ⟨(5,vU64 (drwX (iter drwX i (drw0 seed id))))::_,_⟩;exact .oA [] []
 ·have:i=3:=by omega
  subst this;exact .oA [] []
theorem zS2 (x:Smp) (id:Int):Sp 123 [smpT x,vI id] [] (vB (inS x id)) []:=by
 refine sIr zy5 fun e _ hst=>?_;unfold Yu;refine sW ?_;refine C1.im (zb3 x) rF rF ?_;refine sW ?_;refine C2.im (fun _=>zq6 x.seed id) (fun _=>rfl) rF ?_;refine sW ?_;rw[show (smpE x==0&&decide (id≥1)&&decide (id≤1048575)&&decide ((drwI x.seed id).tmod x.of<x.part))=inS x id from rfl];refine⟨fun h=>?_,kR,?_⟩
 ·simp only[tD,AY] at h;have:=h.1.1;unfold smpE at this
  grind
 ·exact .oA [] []
def ownP (s:Src) (d:Dcl) (r:List Int):Bool:=(qZ8 s.sch d.coh r==1)&&inS d.smp (hd r)
def ownR (s:Src) (d:Dcl):List (List Int):=if srcB s=false∨dclE s.sch d≠0 then [] else s.rows.filter (ownP s d)
def ownS (s:Src) (d:Dcl):List Int:=(ownR s d).map hd
theorem qL3 (s:Src) (d:Dcl) (hs:jy3 s) (hL:0<s.sch.lists.length):Sp 71 [srcT s,dclT d] [] (vIs (ownS s d)) []:=by
 refine sIr qw7 fun e _ hst=>?_;unfold yX;refine sW ?_;refine C1.im (qe0 s hs) rF rF ?_;refine sW ?_;refine C2.im (fun _=>qd9 s.sch hs.1 hL d) (fun _=>rfl) rF ?_;simp only[tZ,↓uU,simprocAttr,tD,Bj,Aw,Bx,Bz];refine⟨fun h=>?_,fun h=>?_⟩
 ·rw[ownS,ownR,Aj h];exact .oA [] []
 have hok:=qA7.1 h.1;have hrp:=hok.rowp;have hnr:=hok.nr;rw[ownS,ownR,Aq (by grind)];refine qt mixm (α:=Nat) [5,6,16] (fun i=>i≤s.rows.length) (fun i=>[(5,.asl 1 (((s.rows.take i).filter (ownP s d)).map hd).length),(6,vI i)]) (fun i=>[aR 4096 5 [srcT s],aR 4100 12 [dclT d],aR 1 1 ((((s.rows.take i).filter (ownP s d)).map hd).map vI)]) (fun i=>s.rows.length-i) 0 oM ?_ fun i hi=>?_
 ·exact .oA [uI 4096,uI 4100,(1,none)] []
 have hfl:=Fx (ownP s d) (s.rows.take i);rw[Cz] at hfl;refine sD ?_;refine⟨fun h2=>?_,fun h2=>?_⟩
 ·have hi2:i<s.rows.length:=by omega
  have hwi:=qh (i:=i) oM;have hgi:=kA (hrp _ (AX hi2));have hrpi:=hrp _ (AX hi2);have hsp:((s.rows.take (i+1)).filter (ownP s d)).map hd=((s.rows.take i).filter (ownP s d)).map hd++if ownP s d s.rows[i]=true then [hd s.rows[i]] else []:=by
   rw[qy hi2,FY,By,List.filter_cons,List.filter_nil]
   congr 1
   split <;> rfl
  have hP:ownP s d s.rows[i]=((qZ8 s.sch d.coh s.rows[i]==1)&&inS d.smp (hd s.rows[i])):=rfl;have hI:=zS2 d.smp (hd s.rows[i]);simp only[tZ,↓uU,simprocAttr,Ax,qd hi2];refine⟨oM,?_⟩;refine C1.im (zp5 s.sch hs.1 hL d.coh s.rows[i] (hs.2 _ (AX hi2))) rF rF ?_;simp only[tZ,↓uU,simprocAttr,Ax,qd hi2,hgi];refine⟨fun _=>by omega,fun _=>by omega,?_⟩;refine C2.im (fun _=>hI) (fun _=>rfl) rF ?_;refine sW ?_;rw[← hP];refine⟨kR,fun h3=>?_,fun h3=>?_⟩
  ·rw[Aj h3] at hsp;have hspl:=congrArg List.length hsp;simp only[AW,BY,CJ,Cw] at hspl;simp only[tZ,↓uU,simprocAttr,Ax,qd hi2,hgi,hwi];refine⟨oM,oM,oM,i+1,oM,oM,?_⟩;rw[hsp];exact .oA (U3 4096 4100 1) []
  ·rw[Aq (by rw[h3];simp),CW] at hsp;have hspl:=congrArg List.length hsp;simp only[AW,BY,CJ,Cw] at hspl;simp only[tZ,↓uU,simprocAttr,hwi];refine⟨i+1,oM,oM,?_⟩;rw[hsp];exact .oA (U3 4096 4100 1) []
 ·have hil:i=s.rows.length:=by omega
  subst hil;rw[Bw];exact .oA [] [1]
theorem zL3 {s:Src} (h:SrcOk s) {r:List Int} (hr:r∈s.rows):∃ j:Nat,qL2 s (hd r)=j∧∃ hj:j<s.rows.length,s.rows[j]=r:=by
 have h1:s.rows.any (atR (hd r))=true:=DJ.2 ⟨r,hr,by rw[jH7 (h.rows r hr)];simp⟩;have h2:s.rows.findIdx (atR (hd r))<s.rows.length:=List.findIdx_lt_length_of_exists (by
  obtain⟨x,a,b⟩:=DJ.1 h1;exact⟨x,a,b⟩)
 refine⟨_,by rw[qL2,Aj h1],h2,?_⟩;have h3:=List.findIdx_getElem (p:=atR (hd r)) (xs:=s.rows) (w:=h2);rw[jH7 (h.rows _ (AX h2)),AY] at h3;obtain⟨i,hi,rfl⟩:=CX hr;have hp:=DX.1 h.asc;by_cases c1:s.rows.findIdx (atR (hd s.rows[i]))<i
 ·have:=hp _ i h2 hi c1;omega
 ·by_cases c2:i<s.rows.findIdx (atR (hd s.rows[i]))
  ·have:=hp i _ hi h2 c2;omega
  ·have e:s.rows.findIdx (atR (hd s.rows[i]))=i:=by omega
   simp only[e]
theorem zq7 {s:Sch} {l:List Pk} (h:jH s l=0):l.length≤8:=by
 obtain⟨h1,h2,h3⟩:=wP h;have hn:=(qO h1).nc;have key:∀ i (hi:i<l.length),(i:Int)+1≤l[i].col:=by
  intro i
  induction i with
  | zero=>intro hi;have:=zW (h2 _ (AX hi));omega
  | succ i ih=>
    intro hi;have a:=ih oM;have b:=DX.1 h3 i (i+1) oM hi oM;omega
 refine AQ fun c=>?_;have a:=key 7 oM;have b:=zW (h2 _ (AX (show 7<l.length by omega)));omega
def rowX (s:Src) (l:List Pk) (k:Int) (r:List Int):List Int:=keyI k (hd r)::l.map fun p=>qk s.sch p.col p.lev (r.getD p.col.toNat 0)
def wS (s:Src) (l:List Pk) (k:Int):List (List Int)→List Int→List (List Int):=fun a r=>putR a (rowX s l k r)
def yq (s:Src) (d:Dcl) (l:List Pk) (k:Int):List (List Int):=(ownR s d).foldl (wS s l k) []
def buildE (s:Src) (d:Dcl) (l:List Pk) (k:Int):Int:=if srcB s=false then 13 else if zp2 s.sch d l≠0 then zp2 s.sch d l else if k<0∨k≥1152921504606846976 then 2 else 0
abbrev ext0:Ext:=⟨⟨#[]⟩,0,[],[]⟩
def qA9 (s:Src) (d:Dcl) (l:List Pk) (k:Int):Ext:=if buildE s d l k≠0 then ext0 else ⟨d.proj,s.ver,l,yq s d l k⟩
theorem jy5 {s:Sch} {d:Dcl} {l:List Pk} (h:zp2 s d l=0):dclE s d=0∧jH s l=0:=by
 unfold zp2 at h;split at h
 ·rename_i h1;exact absurd h h1
 rename_i h1;split at h
 ·rename_i h2;exact absurd h h2
 rename_i h2;exact⟨AQ h1,AQ h2⟩
theorem zL4 (s:Src) (l:List Pk) (k:Int) (r:List Int):0<(rowX s l k r).length:=by simp [rowX]
theorem jy6 {l:List (List Int)} {row:List Int} (h:∀ r∈l,0<r.length) (h0:0<row.length):∀ r∈putR l row,0<r.length:=by
 have key:∀ (m:List (List Int)) (x:List (List Int)×Bool),(∀ r∈m,0<r.length)→(∀ r∈x.1,0<r.length)→∀ r∈(m.foldl (putS row) x).1,0<r.length:=by
  intro m
  induction m with
  | nil=>intro x _ h;exact h
  | cons y m ih=>
    intro x h1 h2;rw[Dw];refine ih _ (fun r hr=>h1 r (CQ _ hr)) ?_;have hy:=h1 y sMp;unfold putS;intro r hr;split at hr
    ·exact h2 r hr
    ·split at hr
     ·simp only[Dz,Ey] at hr;rcases hr with (hr | hr) | hr
      ·exact h2 r hr
      ·rw[hr];exact h0
      ·rw[hr];exact hy
     ·simp only[Dz,Ey] at hr;rcases hr with hr | hr
      ·exact h2 r hr
      ·rw[hr];exact hy
 have k2:=key l ([],false) h sMp;unfold putR;dsimp only;split
 ·exact k2
 ·intro r hr;rcases Dz.1 hr with hr | hr
  ·exact k2 r hr
  ·rw[Ey.1 hr];exact h0
theorem zq8 (s:Src) (l:List Pk) (k:Int):∀ (m a:List (List Int)),(∀ r∈a,0<r.length)→(∀ r∈m.foldl (wS s l k) a,0<r.length)∧(m.foldl (wS s l k) a).length≤a.length+m.length
 | [],a,h=>⟨h,BZ _⟩
 | r::m,a,h=>by
   obtain⟨h1,h2⟩:=zq8 s l k m (wS s l k a r) (jy6 h (zL4 s l k r));have h3:=zb0 a (rowX s l k r);refine⟨h1,?_⟩;rw[Dw,CJ];unfold wS at h2 ⊢
   omega
theorem zb4 (s:Src) (d:Dcl) (l:List Pk) (k:Int) (hs:jy3 s) (hL:0<s.sch.lists.length) (hl:l.length<4611686018427387904):Sp 25 [srcT s,dclT d,vPs l,vI k] [] (.tup [extT (qA9 s d l k),vI (buildE s d l k)]) []:=by
 have hE:=(rfl:buildE s d l k=buildE s d l k);have hS:qA9 s d l k=if buildE s d l k≠0 then ext0 else ⟨d.proj,s.ver,l,yq s d l k⟩:=rfl
 conv at hE=>rhs;unfold buildE
 have hbad:∀ v,v≠0→buildE s d l k=v→qA9 s d l k=ext0∧buildE s d l k=v:=fun v h1 h2=>⟨by rw[hS,h2,Aj h1],h2⟩;have hgood:buildE s d l k=0→qA9 s d l k=⟨d.proj,s.ver,l,yq s d l k⟩:=fun h=>by rw[hS,h,Aq sMp]
 clear hS;generalize buildE s d l k=E at hE hbad hgood ⊢
 generalize qA9 s d l k=A at hbad hgood ⊢
 refine sIr qD8 fun e _ hst=>?_;unfold QO;refine sW ?_;refine C1.im (qe0 s hs) rF rF ?_;simp only[tZ,↓uU,simprocAttr,Bx,Bz];refine⟨fun h=>?_,fun h=>?_⟩
 ·obtain⟨a1,a2⟩:=hbad 13 (by decide) (by rw[hE,Aj h]);rw[a1,a2];exact .oA [] []
 rw[Aq (by rw[h];simp)] at hE;have hok:=qA7.1 h;refine C1.im (za7 s.sch hs.1 hL d l hl) rF rF ?_;simp only[tZ,↓uU,simprocAttr,Bj,Aw];refine⟨fun h2=>?_,fun h2=>?_⟩
 ·obtain⟨a1,a2⟩:=hbad _ h2 (by rw[hE,Aj h2]);rw[a1,a2];exact .oA [] []
 rw[Aq (by rw[h2];simp)] at hE;obtain⟨hd0,hp0⟩:=jy5 h2;refine sD ?_;refine⟨fun h3=>?_,fun h3=>?_⟩
 ·obtain⟨a1,a2⟩:=hbad 2 (by decide) (by rw[hE,Aj oM]);rw[a1,a2];exact .oA [] []
 rw[Aq oM] at hE;have a1:=hgood hE;rw[a1,hE];clear hbad hgood;have hpl:=zq7 hp0;obtain⟨_,hpk,_⟩:=wP hp0;refine⟨oM,kR,?_⟩;refine C1.im (qL3 s d hs hL) rF rF ?_;have hoR:∀ r∈ownR s d,r∈s.rows:=fun r hr=>by
  unfold ownR at hr;split at hr
  ·simp at hr
  ·exact (Fz.1 hr).1
 have hol:(ownR s d).length≤200:=by
  unfold ownR;split
  ·simp
  ·exact FZ (Fx _ _) hok.nr
 unfold ownS yq;generalize ownR s d=R at hoR hol ⊢
 refine sW ?_;refine qt mixm (α:=Nat) [13] (fun i=>i≤R.length) (fun i=>[(13,vI i)]) (fun i=>[aR 4096 5 [srcT s],aR 4104 4 [extT ext0],aR 36884 2 (l.map pkT),aR 36892 4 [.agg [vS d.proj,vI s.ver,.asl 36884 l.length,vRw ((R.take i).foldl (wS s l k) [])]]]) (fun i=>R.length-i) 0 oM ?_ fun i hi=>?_
 ·exact .oA (U4 4096 4104 36884 36892) []
 refine sD ?_;refine⟨fun h4=>?_,fun h4=>?_⟩
 ·have hi2:i<R.length:=by omega
  have hwi:=qh (i:=i) oM;obtain⟨b1,b2⟩:=zq8 s l k (R.take i) [] sMp;have hsu:(R.take (i+1)).foldl (wS s l k) []=putR ((R.take i).foldl (wS s l k) []) (rowX s l k R[i]):=by rw[qy hi2,Gx];rfl
  generalize (R.take i).foldl (wS s l k) []=C at hsu b1 b2 ⊢
  simp only[Cw,Cz] at b2;have hri:=hoR _ (AX hi2);obtain⟨j,f1,f2,f3⟩:=zL3 hok hri;have hgm:(R.map hd).length=R.length:=BY ..
  have hgh:((R.map hd).map vI).getD i .junk=vI (hd R[i]):=by rw[Gz,qd (f:=vI ∘ hd) hi2];rfl
  have hKey:=zz9 k (hd R[i]);have hpos:=zL4 s l k R[i];have hX:rowX s l k R[i]=keyI k (hd R[i])::l.map fun p=>qk s.sch p.col p.lev (R[i].getD p.col.toNat 0):=rfl;have hrl:=(wA (hok.rows _ hri)).2.1;have hnr:=hok.nr;have hPut:=qA8 C (rowX s l k R[i]) oM b1 hpos;simp only[tZ,↓uU,simprocAttr,Ax,hgh];refine⟨oM,?_⟩;refine C1.im (qm9 s (hd R[i]) oM) rF rF ?_;rw[f1];simp only[tZ,↓uU,simprocAttr,Ax,qd f2,f3];refine⟨oM,kR,?_⟩;generalize R[i]=r at hX hrl hKey hgh hpos hsu hPut ⊢
  simp only[tZ,↓uU,simprocAttr,Ax,hgh];refine⟨oM,?_⟩;refine C1.im hKey rF rF ?_;refine sW ?_;refine qt mixm (α:=Nat) [15,16] (fun n=>n≤l.length) (fun n=>[(15,.asl 61464 (n+1)),(16,vI n)]) (fun n=>[aR 4096 5 [srcT s],aR 4104 4 [extT ext0],aR 36884 2 (l.map pkT),aR 36892 4 [.agg [vS d.proj,vI s.ver,.asl 36884 l.length,vRw C]],aR 61464 1 ((keyI k (hd r)::(l.take n).map fun p=>qk s.sch p.col p.lev (r.getD p.col.toNat 0)).map vI)]) (fun n=>l.length-n) 0 oM ?_ fun n hn=>?_
  ·exact .oA (U5 4096 4104 36884 36892 61464) []
  have hnl:(l.take n).length=n:=by rw[Cz];omega
  refine sD ?_;refine⟨fun h5=>?_,fun h5=>?_⟩
  ·have hn2:n<l.length:=by omega
   have hwn:=qh (i:=n) oM;have hpn:=zW (hpk _ (AX hn2));have hcl:l[n].col.toNat<r.length:=by omega
   have hgc:(r.map vI).getD l[n].col.toNat .junk=vI (r.getD l[n].col.toNat 0):=by rw[qd hcl,qg hcl]
   simp only[tZ,↓uU,simprocAttr,Ax,qd hn2,hgc];refine⟨oM,oM,oM,oM,?_⟩;refine C1.im (zk s.sch hs.1 l[n].col l[n].lev _) rF rF ?_;simp only[tZ,↓uU,simprocAttr,hwn];refine⟨⟨hnl,oM⟩,kR,n+1,oM,oM,?_⟩;rw[qy hn2,By];exact .oA (U5 4096 4104 36884 36892 61464) []
  ·have hnl2:n=l.length:=by omega
   subst hnl2;rw[hX] at hPut;rw[Bw];refine C1.shut [61464] hPut ?_ rF rfl ?_
   ·simp only[tL,simprocAttr];exact⟨rfl,jg9 (_::_)⟩
   rw[← hX,← hsu];simp only[tZ,↓uU,simprocAttr,hwi];refine⟨i+1,oM,oM,?_⟩;exact .oA (U4 4096 4104 36884 36892) []
 ·have hil:i=R.length:=by omega
  subst hil;rw[Bw];exact .oA [] [36884]
end Go.Proofs
