/- A part of the proof: trees of Go values, short forms, contracts. -/
import Derived.WalkKit
import Derived.Still
import Derived.MapKept
import GoSem.Builtin.Cap
import Derived.Laws.Externs
import GoSem.Extern.SlicesOverlaps
import Derived.Carry
import Derived.ProofKit
import Derived.OpenShut
import Derived.HandedShaped
import Derived.Lay
import Derived.LaidLaws
import Derived.MakeChecks
import Derived.SevenTiedAt
import Derived.Test.YtpmgddadeedmbaaGreatDoorChecked
import Derived.Test.YtpmgddadeedmbaaGreatDoorK17
set_option linter.unusedSimpArgs false
set_option linter.unusedVariables false
namespace Go.Proofs
open Go Go.TL
set_option maxHeartbeats 4000000
theorem qN8 (s:Sch) (col kind:Int):Spc Tryz.prog YN [schT s,vI col,vI kind] [] (vB (isB s col kind)) []:=by
 by_cases h:0≤col∧col<s.cols.length
 ·obtain⟨i,rfl⟩:=AJ h.1;have hi:i<s.cols.length:=by omega
  have e1:decide ((i:Int)≥0)=true:=decide_eq_true (by omega);have e2:decide ((i:Int)<s.cols.length)=true:=decide_eq_true (by omega);have e3:isB s i kind=(s.cols[i].kind==kind):=by
   rw[isB,Ax,qk,qh hi,decide_eq_true h.1,decide_eq_true h.2];rfl
  refine qd qx3 mixm (by simp) fun e _ hst=>qg ?_;unfold Wa;simp only[tZ,↓un_u,simprocAttr,e1,e2,Ax,qe hi];rw[e3];refine⟨by omega,?_⟩;exact .oA [] []
 ·have e1:(decide (col≥0)&&decide (col<(s.cols.length:Int)))=false:=by
   rw[Bool.and_eq_false_iff,Ay,Ay];omega
  have e3:isB s col kind=false:=by
   unfold isB;rw[show (decide (0≤col)&&decide (col<(s.cols.length:Int)))=false from e1];rfl
  rcases Nat.lt_or_ge col.toNat s.cols.length with hk | hk
  ·refine qd qx3 mixm (by simp) fun e _ hst=>qg ?_;unfold Wa;simp only[tZ,↓un_u,simprocAttr,e1,qe hk];rw[e3];exact .oA [] []
  ·have hj:(s.cols.map colT).getD col.toNat .junk = .junk:=qp2 hk;refine qd qx3 mixm (by simp) fun e _ hst=>qg ?_;unfold Wa;simp only[tZ,↓un_u,simprocAttr,e1,hj,List.drop_succ_cons,List.drop_nil];rw[e3];exact .oA [] []
theorem zP6 (s:Sch) (hs:yd s) (l:List Pk):Spc Tryz.prog qk2 [schT s,vPs l] [] (vI (Wj s l)) []:=by
 refine qd zA1 mixm (by simp) fun e _ hst=>qg ?_;unfold qe1;refine sD ?_;refine⟨fun h=>?_,fun h=>?_⟩
 ·rw[Wj,Aj (by omega)];exact .oA [] []
 rw[Wj,Aq (by omega)];refine qu mixm (α:=Nat) [5,15] (fun i=>i≤l.length∧zE (dimE s l) i=0) (fun i=>[(5,vI i)]) (fun i=>[(4096,.arr 2 [schT s] false)]) (fun i=>l.length-i) 0 ⟨by omega,rfl⟩ ?_ fun i hi=>?_
 ·exact .oA [(4096,some 4096)] []
 refine sD ?_;refine⟨fun h3=>?_,fun h3=>?_⟩
 ·have hi2:i<l.length:=by omega
  have hwi:=qj (i:=i) (by omega);have hpi:pkAt l i=l[i]:=by rw[pkAt,qh hi2]
  have hstep:=yZ hi.2 hi2;have hnext:=jL hi.2;have hA:dimE s l i=if QV s l[i]≠0 then QV s l[i] else if isB s l[i].col 2=false then 7 else if ((l.take i).any fun x=>x.col==l[i].col)=true then 10 else 0:=by rw[dimE,hpi]
  simp only[tZ,↓un_u,simprocAttr,Ax,qe hi2];refine⟨by omega,?_⟩;refine C1.im (zO8 s hs l[i]) (by rfl) (by rfl) ?_;simp only[tZ,↓un_u,simprocAttr,bne_iff_ne,Aw];refine⟨by kernel_rfl,fun h4=>?_,fun h4=>?_⟩
  ·rw[Aj h4] at hA;rw[hstep (by rw[hA];exact h4),hA];exact .oA [] []
  rw[Aq (by rw[h4];simp)] at hA;simp only[tZ,↓un_u,simprocAttr,Ax,qe hi2];refine⟨by omega,?_⟩;refine C1.im (qN8 s l[i].col 2) (by rfl) (by rfl) ?_;simp only[tZ,↓un_u,simprocAttr,Bx,Bz];refine⟨by kernel_rfl,fun h5=>?_,fun h5=>?_⟩
  ·rw[Aj h5] at hA;rw[hstep (by rw[hA];simp),hA];exact .oA [] []
  rw[Aq (by rw[h5];simp)] at hA;refine qu mixm (α:=Nat) [7] (fun k=>k≤i∧(l.take k).any (fun x=>x.col==l[i].col)=false) (fun k=>[(7,vI k)]) (fun k=>[(4096,.arr 2 [schT s] false)]) (fun k=>i-k) 0 ⟨by omega,rfl⟩ ?_ fun k hk=>?_
  ·exact .oA [(4096,some 4096)] []
  refine sD ?_;refine⟨fun h6=>?_,fun h6=>?_⟩
  ·have hk2:k<l.length:=by omega
   have hwk:=qj (i:=k) (by omega);simp only[tZ,↓un_u,simprocAttr,Ax,qe hi2,qe hk2,hwk];refine⟨by omega,by omega,by kernel_rfl,fun h7=>?_,fun h7=>?_⟩
   ·rw[Aj (List.any_eq_true.2 ⟨l[k],List.mem_take_iff_getElem.2 ⟨k,by omega,rfl⟩,h7⟩)] at hA;rw[hstep (by rw[hA];simp),hA];exact .oA [] []
   ·refine⟨k+1,⟨by omega,kf hk2 hk.2 h7⟩,by omega,?_⟩;exact .oA [(4096,some 4096)] []
  ·have hki:k=i:=by omega
   subst hki;rw[Aq (by rw[hk.2];simp)] at hA;simp only[tZ,↓un_u,simprocAttr,hwi];refine⟨k+1,⟨by omega,by rw[hnext,hA]⟩,by omega,?_⟩;exact .oA [(4096,some 4096)] []
 ·have hil:i=l.length:=by omega
  subst hil;rw[hi.2];exact .oA [] []
theorem zB8 (s:Sch) (m:Int) (l:List Int):Spc Tryz.prog qb9 [schT s,vI m,vIs l] [] (vI (yj s m l)) []:=by
 refine qd zo5 mixm (by simp) fun e _ hst=>qg ?_;unfold Yt;refine sD ?_;refine⟨fun h=>?_,fun h=>?_⟩
 ·rw[yj,Aj (by omega)];exact .oA [] []
 rw[yj,Aq (by omega)];refine qu mixm (α:=Nat) [7,15] (fun i=>i≤l.length∧zE (zf5 s m l) i=0) (fun i=>[(7,vI i)]) (fun i=>[(4096,.arr 2 [schT s] false)]) (fun i=>l.length-i) 0 ⟨by omega,rfl⟩ ?_ fun i hi=>?_
 ·exact .oA [(4096,some 4096)] []
 refine sD ?_;refine⟨fun h3=>?_,fun h3=>?_⟩
 ·have hi2:i<l.length:=by omega
  have hwi:=qj (i:=i) (by omega);have hpi:l.getD i 0=l[i]:=qh hi2;have hstep:=yZ hi.2 hi2;have hnext:=jL hi.2;have hA:zf5 s m l i=if isB s l[i] 3=false then 7 else if l[i]=m∨(l.take i).contains l[i]=true then 10 else 0:=by rw[zf5,hpi]
  have hH:=qy2 (l.take i) l[i] (by rw[List.length_take];omega);simp only[tZ,↓un_u,simprocAttr,Ax,qe hi2];refine⟨by omega,?_⟩;refine C1.im (qN8 s l[i] 3) (by rfl) (by rfl) ?_;simp only[tZ,↓un_u,simprocAttr,Bx,Bz];refine⟨by kernel_rfl,fun h5=>?_,fun h5=>?_⟩
  ·rw[Aj h5] at hA;rw[hstep (by rw[hA];simp),hA];exact .oA [] []
  rw[Aq (by rw[h5];simp)] at hA;simp only[tZ,↓un_u,simprocAttr,Ax,qe hi2,qj1,zb2];refine⟨by omega,fun _=>by omega,fun _=>by omega,?_⟩;refine C2.im (fun _=>hH) (fun _=>rfl) (by rfl) ?_;simp only[tZ,↓un_u,simprocAttr,tD,AY,Ak,hwi];refine⟨by kernel_rfl,fun h6=>?_,fun h6=>?_⟩
  ·rw[Aj h6] at hA;rw[hstep (by rw[hA];simp),hA];exact .oA [] []
  ·rw[Aq (by grind)] at hA;refine⟨i+1,⟨by omega,by rw[hnext,hA]⟩,by omega,?_⟩;exact .oA [(4096,some 4096)] []
 ·have hil:i=l.length:=by omega
  subst hil;rw[hi.2];exact .oA [] []
theorem zP7 (c:Cnd):Spc Tryz.prog qj9 [cnT c] [] (vB (YX c cnd0)) []:=by
 have h:=zP5 c cnd0 fun h=>.mk c (by rw[h];decide) (by rw[List.length_eq_zero_iff.1 (show c.kids.length=0 from h)];simp);refine qd zz4 mixm (by simp) fun e _ hst=>qg ?_;unfold qd8;refine sW ?_;refine C1.shut [] h ?_ (by rfl) rfl ?_
 ·all_goals (try exact clA)
 refine sW ?_;exact .oA [] []
theorem zB9 (s:Sch) (hE:schE s=0) (hL:0<s.lists.length) (q:Qst):Spc Tryz.prog qb5 [schT s,qstT q] [] (vI (wM s q)) []:=by
 have hok:=qQ hE;refine qd zm5 mixm (by simp) fun e _ hst=>qg ?_;unfold Yj;refine sW ?_;refine C1.im (qN8 s q.meas 3) (by rfl) (by rfl) ?_;simp only[tZ,↓un_u,simprocAttr,AY,Ak];refine⟨fun h=>?_,fun h=>?_⟩
 ·rw[wM,Aj h];refine C1.im (zP6 s hok.sm q.dims) (by rfl) (by rfl) ?_;simp only[tZ,↓un_u,simprocAttr,bne_iff_ne,Aw];refine⟨fun h2=>?_,fun h2=>?_⟩
  ·rw[Aj h2];exact .oA [] []
  rw[Aq (by rw[h2];simp)];simp only[tZ,↓un_u,simprocAttr,bne_iff_ne,Aw,tD,Bx,Bz];refine⟨fun h3=>?_,fun h3=>?_⟩
  ·rw[Aj h3];exact .oA [] []
  ·rw[Aq (by grind)];exact .oA [] []
 rw[wM,Aq h];refine⟨fun h2=>?_,fun h2=>?_⟩
 ·rw[Aj h2];simp only[tZ,↓un_u,simprocAttr,Bx,Bz];refine⟨fun h3=>?_,fun h3=>?_⟩
  ·rw[Aj h3];exact .oA [] []
  rw[Aq (by rw[h3];simp)];refine C1.im (zB8 s q.meas q.terms) (by rfl) (by rfl) ?_;refine sW ?_;exact .oA [] []
 rw[Aq h2];simp only[tZ,↓un_u,simprocAttr,Bx,Bz];refine⟨fun h3=>?_,fun h3=>?_⟩
 ·rw[Aj h3];exact .oA [] []
 rw[Aq (by rw[h3];simp)];obtain⟨b1,b2,b3⟩:=zD.1 h3;have hil:q.meas.toNat<s.cols.length:=by omega
 rw[qk,qh hil];simp only[tZ,↓un_u,simprocAttr,qe hil,tD];refine⟨by omega,fun h4=>?_,fun h4=>?_⟩
 ·rw[Aj h4];exact .oA [] []
 rw[Aq h4];refine C1.im (QX s hok.sm hL q.event) (by rfl) (by rfl) ?_;refine sW ?_;exact .oA [] []
theorem qf6 (s:Sch) (hs:yd s) (hL:0<s.lists.length) (q:Qst):Spc Tryz.prog yo [schT s,qstT q] [] (vI (qstE s q)) []:=by
 refine qd qL2 mixm (by simp) fun e _ hst=>qg ?_;unfold Zy;refine sW ?_;refine C1.im (wI s hs) (by rfl) (by rfl) ?_;simp only[tZ,↓un_u,simprocAttr,bne_iff_ne,Aw];refine⟨fun h=>?_,fun h=>?_⟩
 ·rw[qstE,Aj h];exact .oA [] []
 rw[qstE,Aq (by rw[h];simp)];refine C1.im (yX q.name) (by rfl) (by rfl) ?_;simp only[tZ,↓un_u,simprocAttr,Bx,Bz];refine⟨fun h2=>?_,fun h2=>?_⟩
 ·rw[Aj h2];exact .oA [] []
 rw[Aq (by rw[h2];simp)];refine sD ?_;refine⟨fun h3=>?_,fun h3=>?_⟩
 ·rw[Aj (by omega)];exact .oA [] []
 rw[Aq (by omega)];refine C1.im (QX s hs hL q.filt) (by rfl) (by rfl) ?_;simp only[tZ,↓un_u,simprocAttr,bne_iff_ne,Aw];refine⟨fun h4=>?_,fun h4=>?_⟩
 ·rw[Aj h4];exact .oA [] []
 rw[Aq (by rw[h4];simp)];refine C1.im (zB9 s h hL q) (by rfl) (by rfl) ?_;simp only[tZ,↓un_u,simprocAttr,bne_iff_ne,Aw];refine⟨fun h5=>?_,fun h5=>?_⟩
 ·rw[Aj h5];exact .oA [] []
 rw[Aq (by rw[h5];simp)];refine C2.im (fun _=>zP7 q.event) (fun _=>rfl) (by rfl) ?_;simp only[tZ,↓un_u,simprocAttr,tD,bne_iff_ne,Aw,Bx,Bz];refine⟨fun h6=>?_,fun h6=>?_⟩
 ·rw[Aj (by grind)];exact .oA [] []
 ·rw[Aq (by grind)];exact .oA [] []
theorem zC0 (s:Sch) (hs:yd s) (hL:0<s.lists.length) (d:Dcl):Spc Tryz.prog qb2 [schT s,dclT d] [] (vI (dclE s d)) []:=by
 refine qd zj1 mixm (by simp) fun e _ hst=>qg ?_;unfold WS;refine sW ?_;refine C1.im (wI s hs) (by rfl) (by rfl) ?_;simp only[tZ,↓un_u,simprocAttr,bne_iff_ne,Aw];refine⟨fun h=>?_,fun h=>?_⟩
 ·rw[dclE,Aj h];exact .oA [] []
 rw[dclE,Aq (by rw[h];simp)];refine C1.im (yX d.proj) (by rfl) (by rfl) ?_;refine sW ?_;refine C2.im (fun _=>yX d.src) (fun _=>rfl) (by rfl) ?_;simp only[tZ,↓un_u,simprocAttr,tD,Bx,Bz];refine⟨fun h2=>?_,fun h2=>?_⟩
 ·rw[Aj h2];exact .oA [] []
 rw[Aq (by grind)];refine C1.im (QX s hs hL d.coh) (by rfl) (by rfl) ?_;simp only[tZ,↓un_u,simprocAttr,bne_iff_ne,Aw];refine⟨fun h3=>?_,fun h3=>?_⟩
 ·rw[Aj h3];exact .oA [] []
 rw[Aq (by rw[h3];simp)];refine sD ?_;refine⟨fun h4=>?_,fun h4=>?_⟩
 ·rw[Aj (by unfold smpE;grind)];exact .oA [] []
 rw[Aq (by unfold smpE;grind)];refine⟨fun h5=>?_,fun h5=>?_⟩
 ·rw[Aj (by omega)];exact .oA [] []
 rw[Aq (by omega)];refine qu mixm (α:=Nat) [8,74] (fun i=>i≤d.qs.length∧zE (qsE s d.qs) i=0) (fun i=>[(8,vI i)]) (fun i=>[(4096,.arr 2 [schT s] false),(4100,.arr 12 [dclT d] false)]) (fun i=>d.qs.length-i) 0 ⟨by omega,rfl⟩ ?_ fun i hi=>?_
 ·exact .oA [(4096,some 4096),(4100,some 4100)] []
 refine sD ?_;refine⟨fun h6=>?_,fun h6=>?_⟩
 ·have hi2:i<d.qs.length:=by omega
  have hwi:=qj (i:=i) (by omega);have hpi:qAt d.qs i=d.qs[i]:=by rw[qAt,qh hi2]
  have hstep:=yZ hi.2 hi2;have hnext:=jL hi.2;have hA:qsE s d.qs i=if qstE s d.qs[i]≠0 then qstE s d.qs[i] else if ((d.qs.take i).any fun x=>eqB x.name d.qs[i].name)=true then 10 else 0:=by rw[qsE,hpi]
  simp only[tZ,↓un_u,simprocAttr,Ax,qe hi2];refine⟨by omega,?_⟩;refine C1.im (qf6 s hs hL d.qs[i]) (by rfl) (by rfl) ?_;simp only[tZ,↓un_u,simprocAttr,bne_iff_ne,Aw];refine⟨by kernel_rfl,fun h7=>?_,fun h7=>?_⟩
  ·rw[Aj h7] at hA;rw[hstep (by rw[hA];exact h7),hA];exact .oA [] []
  rw[Aq (by rw[h7];simp)] at hA;refine qu mixm (α:=Nat) [10] (fun k=>k≤i∧(d.qs.take k).any (fun x=>eqB x.name d.qs[i].name)=false) (fun k=>[(10,vI k)]) (fun k=>[(4096,.arr 2 [schT s] false),(4100,.arr 12 [dclT d] false)]) (fun k=>i-k) 0 ⟨by omega,rfl⟩ ?_ fun k hk=>?_
  ·exact .oA [(4096,some 4096),(4100,some 4100)] []
  refine sD ?_;refine⟨fun h8=>?_,fun h8=>?_⟩
  ·have hk2:k<d.qs.length:=by omega
   have hwk:=qj (i:=k) (by omega);simp only[tZ,↓un_u,simprocAttr,Ax,qe hi2,qe hk2,hwk];refine⟨by omega,by omega,by kernel_rfl,fun h9=>?_,fun h9=>?_⟩
   ·rw[Aj (List.any_eq_true.2 ⟨d.qs[k],List.mem_take_iff_getElem.2 ⟨k,by omega,rfl⟩,h9⟩)] at hA;rw[hstep (by rw[hA];simp),hA];exact .oA [] []
   ·refine⟨k+1,⟨by omega,kf hk2 hk.2 h9⟩,by omega,?_⟩;exact .oA [(4096,some 4096),(4100,some 4100)] []
  ·have hki:k=i:=by omega
   subst hki;rw[Aq (by rw[hk.2];simp)] at hA;simp only[tZ,↓un_u,simprocAttr,hwi];refine⟨k+1,⟨by omega,by rw[hnext,hA]⟩,by omega,?_⟩;exact .oA [(4096,some 4096),(4100,some 4100)] []
 ·have hil:i=d.qs.length:=by omega
  subst hil;rw[hi.2];exact .oA [] []
end Go.Proofs
namespace Go.Proofs
open Go Go.TL
set_option maxHeartbeats 4000000
theorem zP8 (q:Qst) (k:Int) (ht:q.terms.length<4611686018427387904):Spc Tryz.prog qj7 [qstT q,vI k] [] (vB (jn7 q k)) []:=by
 refine qd zy4 mixm (by simp) fun e _ hst=>qg ?_;unfold qc7;refine sW ?_;refine C2.im (fun _=>qy2 q.terms k ht) (fun _=>rfl) (by rfl) ?_;refine sW ?_;rw[show (q.meas==k||q.terms.contains k)=jn7 q k from rfl];exact .oA [] []
theorem qn1:∀ (m l:List Pk),(Qe l m).length≤l.length+m.length
 | [],l=>Nat.le_refl _
 | p::m,l=>by
   have h1:=qn1 m (Kk l p.col p.lev);have h2:=qG1 l p.col p.lev;unfold Qe at h1 ⊢
   rw[List.foldl_cons,List.length_cons];omega
theorem zu0 (l m:List Pk) (p:Pk):Qe l (m++[p])=Kk (Qe l m) p.col p.lev:=by rw[Qe,List.foldl_append];rfl
theorem qn2 (s:Sch) (c:Cnd):(jd s c).length≤40:=by
 unfold jd;split
 ·simp
 ·rename_i h;obtain⟨hE,k2,k3,k4⟩:=qm9 (AQ h);have h1:=zf8 c 41 (by omega) k2;have h2:=zg3 s (atsC c) [];simp only[List.length_nil] at h2;unfold qV7 at h2;omega
structure QstOk (s:Sch) (q:Qst):Prop where
 sch:schE s=0
 kind:1≤q.kind∧q.kind≤3
 filt:chkC s q.filt=0
 dims:q.kind=1→Wj s q.dims=0∧(q.meas = -1∨isB s q.meas 3=true)
 nd:q.dims.length≤3
 terms:q.kind=2→isB s q.meas 3=true∧yj s q.meas q.terms=0
 nt:q.terms.length≤3
 event:q.kind=3→isB s q.meas 3=true∧0≤(qk s q.meas.toNat).low∧chkC s q.event=0
 d0:q.kind≠1→q.dims=[]
 t0:q.kind≠2→q.terms=[]
 e0:q.kind≠3→YX q.event cnd0=true
theorem qy7 {s:Sch} {q:Qst} (h:qstE s q=0):QstOk s q:=by
 unfold qstE at h;split at h
 ·rename_i h1;exact absurd h h1
 rename_i h1;split at h
 ·cases h
 rename_i h2;split at h
 ·cases h
 rename_i h3;split at h
 ·rename_i h4;exact absurd h h4
 rename_i h4;split at h
 ·rename_i h5;exact absurd h h5
 rename_i h5;split at h
 ·cases h
 rename_i h6;have hp:wM s q=0:=AQ h5;unfold wM at hp;have hd:q.kind=1→Wj s q.dims=0∧(q.meas = -1∨isB s q.meas 3=true):=fun k=>by
  rw[Aj k] at hp
  grind
 have ht:q.kind=2→isB s q.meas 3=true∧yj s q.meas q.terms=0:=fun k=>by
  rw[Aq (by omega),Aj k] at hp
  grind
 have hd0:q.kind≠1→q.dims=[]:=fun k=>List.length_eq_zero_iff.1 (by omega);have ht0:q.kind≠2→q.terms=[]:=fun k=>List.length_eq_zero_iff.1 (by omega);refine⟨AQ h1,by omega,AQ h4,hd,?_,ht,?_,fun k=>?_,hd0,ht0,fun k=>?_⟩
 ·by_cases k:q.kind=1
  ·have:=(hd k).1;unfold Wj at this
   grind
  ·rw[hd0 k];simp
 ·by_cases k:q.kind=2
  ·have:=(ht k).2;unfold yj at this
   grind
  ·rw[ht0 k];simp
 ·rw[Aq (by omega),Aq (by omega)] at hp
  grind
 ·grind
theorem qp3 (s:Sch):∀ (m l:List Pk),(m.foldl (fun l p=>Kk l p.col (jN s p.col p.lev)) l).length≤l.length+m.length
 | [],l=>Nat.le_refl _
 | p::m,l=>by
   have h1:=qp3 s m (Kk l p.col (jN s p.col p.lev));have h2:=qG1 l p.col (jN s p.col p.lev);rw[List.foldl_cons,List.length_cons];omega
theorem qN9 (s:Sch) (q:Qst):∀ (m:List Nat) (l:List Pk),(m.foldl (QW s q) l).length≤l.length+m.length
 | [],l=>Nat.le_refl _
 | k::m,l=>by
   have h1:=qN9 s q m (QW s q l k);have h2:(QW s q l k).length≤l.length+1:=by
    unfold QW;split
    ·exact qG1 _ _ _
    ·omega
   rw[List.foldl_cons,List.length_cons];omega
def zu1 (s:Sch) (q:Qst):List Pk:=if q.kind=3 then Qe (jd s q.filt) (jd s q.event) else jd s q.filt
theorem zu2 (s:Sch) (q:Qst):(zu1 s q).length≤80:=by
 have h1:=qn2 s q.filt;have h2:=qn2 s q.event;have h3:=qn1 (jd s q.event) (jd s q.filt);unfold zu1;split <;> omega
theorem zg4 (s:Sch) (q:Qst):(yQ s q).length≤100:=by
 unfold yQ kb5;split
 ·simp
 ·rename_i h;have hq:=qy7 (AQ h);have h1:=zu2 s q;unfold zu1 at h1;have h2:=qp3 s q.dims (if q.kind=3 then Qe (jd s q.filt) (jd s q.event) else jd s q.filt);have h3:=qN9 s q (List.range (s.cols.length-1)) (q.dims.foldl (fun l p=>Kk l p.col (jN s p.col p.lev)) (if q.kind=3 then Qe (jd s q.filt) (jd s q.event) else jd s q.filt));have h4:=(qQ hq.sch).nc;have h5:=hq.nd;rw[List.length_range] at h3;omega
theorem zC1 (s:Sch) (hs:yd s) (hL:0<s.lists.length) (q:Qst):Spc Tryz.prog qb4 [schT s,qstT q] [] (vPs (yQ s q)) []:=by
 refine qd zj5 mixm (by simp) fun e _ hst=>qg ?_;unfold WU;refine sW ?_;refine C1.im (qf6 s hs hL q) (by rfl) (by rfl) ?_;simp only[tZ,↓un_u,simprocAttr,bne_iff_ne,Aw];refine⟨fun h=>?_,fun h=>?_⟩
 ·rw[yQ,Aj h];exact .oA [] []
 have hq:=qy7 h;have hnc:=(qQ hq.sch).nc;have hnd:=hq.nd;have hnt:=hq.nt;have hN:yQ s q=(List.range (s.cols.length-1)).foldl (QW s q) (q.dims.foldl (fun l p=>Kk l p.col (jN s p.col p.lev)) (zu1 s q)):=by
  rw[yQ,Aq (by rw[h];simp)];rfl
 have h0:=zu2 s q;have hQ0:zu1 s q=if q.kind=3 then Qe (jd s q.filt) (jd s q.event) else jd s q.filt:=rfl
 rw[hN];generalize zu1 s q=A at h0 hQ0 ⊢
 refine C1.im (qG3 s hs hL q.filt) (by rfl) (by rfl) ?_;have hcl:=qn2 s q.filt;generalize jd s q.filt=C at hQ0 hcl ⊢
 simp only[tZ,↓un_u,simprocAttr,AY,Ak];apply mid
 ·intro hmain;refine⟨fun h1=>?_,fun h1=>?_⟩
  ·rw[Aj h1] at hQ0;refine C1.im (qG3 s hs hL q.event) (by rfl) (by rfl) ?_;have hel:=qn2 s q.event;generalize jd s q.event=V at hQ0 hel ⊢
   refine sW ?_;refine qu mixm (α:=Nat) [5,7,20] (fun i=>i≤V.length) (fun i=>[(5,vPs (Qe C (V.take i))),(7,vI i)]) (fun i=>[(4096,.arr 2 [schT s] false),(4100,.arr 17 [qstT q] false)]) (fun i=>V.length-i) 0 (by omega) ?_ fun i hi=>?_
   ·exact .oA [(4096,some 4096),(4100,some 4100)] []
   have hrl:=qn1 (V.take i) C;rw[List.length_take] at hrl;refine sD ?_;refine⟨fun h3=>?_,fun h3=>?_⟩
   ·have hi2:i<V.length:=by omega
    have hwi:=qj (i:=i) (by omega);simp only[tZ,↓un_u,simprocAttr,Ax,qe hi2];refine⟨by omega,by omega,?_⟩;refine C1.im (QZ (Qe C (V.take i)) V[i].col V[i].lev (by omega)) (by rfl) (by rfl) ?_;simp only[tZ,↓un_u,simprocAttr,hwi];refine⟨by kernel_rfl,i+1,by omega,by omega,?_⟩;rw[qH hi2,zu0];exact .oA [(4096,some 4096),(4100,some 4100)] []
   ·have hil:i=V.length:=by omega
    subst hil;rw[List.take_length,← hQ0];exact hmain
  ·rw[Aq h1] at hQ0;rw[← hQ0];exact hmain
 ·clear hQ0;refine qu mixm (α:=Nat) [5,8] (fun i=>i≤q.dims.length) (fun i=>[(5,vPs ((q.dims.take i).foldl (fun l p=>Kk l p.col (jN s p.col p.lev)) A)),(8,vI i)]) (fun i=>[(4096,.arr 2 [schT s] false),(4100,.arr 17 [qstT q] false)]) (fun i=>q.dims.length-i) 0 (by omega) ?_ fun i hi=>?_
  ·exact .oA [(4096,some 4096),(4100,some 4100)] []
  have hrl:=qp3 s (q.dims.take i) A;rw[List.length_take] at hrl;refine sD ?_;refine⟨fun h3=>?_,fun h3=>?_⟩
  ·have hi2:i<q.dims.length:=by omega
   have hwi:=qj (i:=i) (by omega);simp only[tZ,↓un_u,simprocAttr,Ax,qe hi2];refine⟨by omega,by omega,by omega,?_⟩;refine C1.im (qF9 s hs q.dims[i].col q.dims[i].lev) (by rfl) (by rfl) ?_;refine sW ?_;refine C1.im (QZ _ q.dims[i].col (jN s q.dims[i].col q.dims[i].lev) (by omega)) (by rfl) (by rfl) ?_;simp only[tZ,↓un_u,simprocAttr,hwi];refine⟨by kernel_rfl,i+1,by omega,by omega,?_⟩;rw[qH hi2,List.foldl_append];simp only[List.foldl_cons,List.foldl_nil];exact .oA [(4096,some 4096),(4100,some 4100)] []
  ·have hil:i=q.dims.length:=by omega
   subst hil;rw[List.take_length];have hB:=qp3 s q.dims A;generalize q.dims.foldl (fun l p=>Kk l p.col (jN s p.col p.lev)) A=B at hB ⊢
   refine qu mixm (α:=Nat) [5,9] (fun i=>i≤s.cols.length-1) (fun i=>[(5,vPs ((List.range i).foldl (QW s q) B)),(9,vI ((i+1:Nat):Int))]) (fun i=>[(4096,.arr 2 [schT s] false),(4100,.arr 17 [qstT q] false)]) (fun i=>s.cols.length-1-i) 0 (by omega) ?_ fun i hi=>?_
   ·exact .oA [(4096,some 4096),(4100,some 4100)] []
   have hrl:=qN9 s q (List.range i) B;rw[List.length_range] at hrl;have hsu:(List.range (i+1)).foldl (QW s q) B=QW s q ((List.range i).foldl (QW s q) B) i:=by rw[List.range_succ,List.foldl_append];rfl
   have hwi:=qj (i:=i+1) (by omega);have hU:=zP8 q ((i+1:Nat):Int) (by omega);refine sD ?_;refine⟨fun h3=>?_,fun h3=>?_⟩
   ·refine C1.im hU (by rfl) (by rfl) ?_;refine sW ?_;refine⟨fun h4=>?_,fun h4=>?_⟩
    ·have hsu:(List.range (i+1)).foldl (QW s q) B=Kk ((List.range i).foldl (QW s q) B) ((i+1:Nat):Int) (jN s ((i+1:Nat):Int) (finI s ((i+1:Nat):Int))):=by
      rw[hsu,QW];exact Aj h4
     refine C1.im (yi s hs ((i+1:Nat):Int)) (by rfl) (by rfl) ?_;refine sW ?_;refine C1.im (qF9 s hs ((i+1:Nat):Int) (finI s ((i+1:Nat):Int))) (by rfl) (by rfl) ?_;refine sW ?_;refine C1.im (QZ _ ((i+1:Nat):Int) (jN s ((i+1:Nat):Int) (finI s ((i+1:Nat):Int))) (by omega)) (by rfl) (by rfl) ?_;simp only[tZ,↓un_u,simprocAttr,hwi];refine⟨by kernel_rfl,i+1,by omega,by omega,?_⟩;rw[hsu];exact .oA [(4096,some 4096),(4100,some 4100)] []
    ·have hsu:(List.range (i+1)).foldl (QW s q) B=(List.range i).foldl (QW s q) B:=by
      rw[hsu,QW];exact Aq (by show ¬ jn7 q ((i+1:Nat):Int)=true;rw[h4];simp)
     simp only[tZ,↓un_u,simprocAttr,hwi];refine⟨i+1,by omega,by omega,?_⟩;rw[hsu];exact .oA [(4096,some 4096),(4100,some 4100)] []
   ·have hil:i=s.cols.length-1:=by omega
    subst hil;exact .oA [] []
def zC2 (s:Sch):List Pk→Qst→List Pk:=fun l q=>Qe l (yQ s q)
theorem zg5 (s:Sch):∀ (m:List Qst) (l:List Pk),(m.foldl (zC2 s) l).length≤l.length+100*m.length
 | [],l=>Nat.le_refl _
 | q::m,l=>by
   have h1:=zg5 s m (zC2 s l q);have h2:=qn1 (yQ s q) l;have h3:=zg4 s q;rw[List.foldl_cons,List.length_cons];unfold zC2 at h1 ⊢
   omega
theorem zP9 (s:Sch) (d:Dcl):(Wk s d).length≤800:=by
 unfold Wk;split
 ·simp
 ·rename_i h;have hd:=qN3 (AQ h);have:=zg5 s d.qs [];simp only[List.length_nil] at this;unfold zC2 at this;omega
theorem zQ0 (s:Sch) (hs:yd s) (hL:0<s.lists.length) (d:Dcl):Spc Tryz.prog qj4 [schT s,dclT d] [] (.tup [vPs (Wk s d),vI (dclE s d)]) []:=by
 refine qd zx5 mixm (by simp) fun e _ hst=>qg ?_;unfold qc3;refine sW ?_;refine C1.im (zC0 s hs hL d) (by rfl) (by rfl) ?_;simp only[tZ,↓un_u,simprocAttr,bne_iff_ne,Aw];refine⟨fun h=>?_,fun h=>?_⟩
 ·rw[Wk,Aj h];exact .oA [] []
 obtain⟨hE,_,_,_,_,hq1,hq2,_⟩:=qN3 h;have hP:Wk s d=d.qs.foldl (zC2 s) []:=by rw[Wk,Aq (by rw[h];simp)];rfl
 rw[hP,h];refine qu mixm (α:=Nat) [7,8,6] (fun i=>i≤d.qs.length) (fun i=>[(7,vPs ((d.qs.take i).foldl (zC2 s) [])),(8,vI i)]) (fun i=>[(4096,.arr 2 [schT s] false),(4100,.arr 12 [dclT d] false)]) (fun i=>d.qs.length-i) 0 (by omega) ?_ fun i hi=>?_
 ·exact .oA [(4096,some 4096),(4100,some 4100)] []
 have hpl:=zg5 s (d.qs.take i) [];rw[List.length_take,List.length_nil] at hpl;refine sD ?_;refine⟨fun h3=>?_,fun h3=>?_⟩
 ·have hi2:i<d.qs.length:=by omega
  have hwi:=qj (i:=i) (by omega);have hsu:(d.qs.take (i+1)).foldl (zC2 s) []=Qe ((d.qs.take i).foldl (zC2 s) []) (yQ s d.qs[i]):=by rw[qH hi2,List.foldl_append];rfl
  simp only[tZ,↓un_u,simprocAttr,Ax,qe hi2];refine⟨by omega,?_⟩;refine C1.im (zC1 s hs hL d.qs[i]) (by rfl) (by rfl) ?_;have hnl:=zg4 s d.qs[i];generalize yQ s d.qs[i]=V at hsu hnl ⊢
  generalize (d.qs.take i).foldl (zC2 s) []=C at hsu hpl ⊢
  refine sW ?_;refine⟨by kernel_rfl,?_⟩;refine qu mixm (α:=Nat) [7,10] (fun k=>k≤V.length) (fun k=>[(7,vPs (Qe C (V.take k))),(10,vI k)]) (fun k=>[(4096,.arr 2 [schT s] false),(4100,.arr 12 [dclT d] false)]) (fun k=>V.length-k) 0 (by omega) ?_ fun k hk=>?_
  ·exact .oA [(4096,some 4096),(4100,some 4100)] []
  have hrl:=qn1 (V.take k) C;rw[List.length_take] at hrl;refine sD ?_;refine⟨fun h4=>?_,fun h4=>?_⟩
  ·have hk2:k<V.length:=by omega
   have hwk:=qj (i:=k) (by omega);simp only[tZ,↓un_u,simprocAttr,Ax,qe hk2];refine⟨by omega,by omega,?_⟩;refine C1.im (QZ (Qe C (V.take k)) V[k].col V[k].lev (by omega)) (by rfl) (by rfl) ?_;simp only[tZ,↓un_u,simprocAttr,hwk];refine⟨by kernel_rfl,k+1,by omega,by omega,?_⟩;rw[qH hk2,zu0];exact .oA [(4096,some 4096),(4100,some 4100)] []
  ·have hkl:k=V.length:=by omega
   subst hkl;rw[List.take_length,← hsu];simp only[tZ,↓un_u,simprocAttr,hwi];refine⟨i+1,by omega,by omega,?_⟩;exact .oA [(4096,some 4096),(4100,some 4100)] []
 ·have hil:i=d.qs.length:=by omega
  subst hil;rw[List.take_length];exact .oA [] []
end Go.Proofs
namespace Go.Proofs
open Go Go.TL
def hd (r:List Int):Int:=r.getD 0 0
def putS (row:List Int):List (List Int)×Bool→List Int→List (List Int)×Bool:=fun x r=>
 if hd r=hd row then x
 else if hd r>hd row∧x.2=false then (x.1++[row]++[r],true)
 else (x.1++[r],x.2)
def putR (l:List (List Int)) (row:List Int):List (List Int):=
 let x:=l.foldl (putS row) ([],false)
 if x.2 then x.1 else x.1++[row]
def atR (id:Int) (r:List Int):Bool:=decide (0<r.length)&&(hd r==id)
def zp6 (s:Src) (id:Int):Int:=if s.rows.any (atR id)=true then (s.rows.findIdx (atR id):Int) else -1
def asc2 (l:List Int) (i:Nat):Bool:=decide (i=0)||decide (l.getD (i-1) 0<l.getD i 0)
def jE5 (s:Src):Bool:=(List.range s.rows.length).all fun i=>(rowE s.sch (s.rows.getD i [])==0)&&(decide (i=0)||decide (hd (s.rows.getD (i-1) [])<hd (s.rows.getD i [])))
def jX2 (s:Src):Bool:=(List.range s.gone.length).all fun i=>decide (1≤s.gone.getD i 0)&&decide (s.gone.getD i 0≤1048575)&&asc2 s.gone i&&decide (zp6 s (s.gone.getD i 0)<0)
def srcB (s:Src):Bool:=(schE s.sch==0)&&decide (s.rows.length≤200)&&decide (s.gone.length≤300)&&decide (0≤s.ver)&&decide (s.ver≤300)&&jE5 s&&jX2 s
abbrev src0:Src:=⟨⟨[],[]⟩,[],[],0⟩
end Go.Proofs
namespace Go.Proofs
open Go Go.TL
def AscR (l:List (List Int)):Prop:=l.Pairwise fun a b=>hd a<hd b
theorem zQ1 {row:List Int}:∀ (l acc:List (List Int)),(∀ r∈l,hd row<hd r)→l.foldl (putS row) (acc,true)=(acc++l,true)
 | [],acc,_=>by simp
 | r::l,acc,h=>by
   have h1:=h r (by simp);have e:putS row (acc,true) r=(acc++[r],true):=by
    unfold putS;rw[Aq (by omega),Aq (by simp)]
   rw[List.foldl_cons,e,zQ1 l _ fun x hx=>h x (List.mem_cons_of_mem _ hx)];simp
theorem qO0 {row:List Int}:∀ (l acc:List (List Int)),AscR l→l.foldl (putS row) (acc,false) =
 if (l.any fun r=>decide (hd row<hd r))=true then (acc++l.filter (fun r=>decide (hd r<hd row))++row::l.filter (fun r=>decide (hd row<hd r)),true)
 else (acc++l.filter (fun r=>decide (hd r<hd row)),false)
 | [],acc,_=>by simp
 | r::l,acc,h=>by
   obtain⟨h1,h2⟩:=List.pairwise_cons.1 h;rw[List.foldl_cons];by_cases e1:hd r=hd row
   ·have e:putS row (acc,false) r=(acc,false):=by unfold putS;rw[Aj e1]
    have d1:decide (hd row<hd r)=false:=by simp;omega
    have d2:decide (hd r<hd row)=false:=by simp;omega
    rw[e,qO0 l acc h2,List.any_cons,List.filter_cons,List.filter_cons,d1,d2];simp
   ·by_cases e2:hd r>hd row
    ·have e:putS row (acc,false) r=(acc++[row]++[r],true):=by unfold putS;rw[Aq e1,Aj ⟨e2,rfl⟩]
     have hall:∀ x∈l,hd row<hd x:=fun x hx=>by have:=h1 x hx;omega
     have d1:decide (hd row<hd r)=true:=by simp;omega
     have d2:decide (hd r<hd row)=false:=by simp;omega
     have f1:l.filter (fun r=>decide (hd row<hd r))=l:=List.filter_eq_self.2 fun x hx=>by simpa using hall x hx
     have f2:l.filter (fun r=>decide (hd r<hd row))=[]:=List.filter_eq_nil_iff.2 fun x hx=>by have:=hall x hx;simp;omega
     rw[e,zQ1 l _ hall,List.any_cons,List.filter_cons,List.filter_cons,d1,d2,f1,f2];simp
    ·have e:putS row (acc,false) r=(acc++[r],false):=by
      unfold putS;rw[Aq e1,Aq (fun k=>e2 k.1)]
     have d1:decide (hd row<hd r)=false:=by simp;omega
     have d2:decide (hd r<hd row)=true:=by simp;omega
     rw[e,qO0 l _ h2,List.any_cons,List.filter_cons,List.filter_cons,d1,d2];simp
theorem jE6 {l:List (List Int)} {row:List Int} (h:AscR l):putR l row=l.filter (fun r=>decide (hd r<hd row))++row::l.filter (fun r=>decide (hd row<hd r)):=by
 unfold putR;rw[qO0 l [] h];by_cases e:(l.any fun r=>decide (hd row<hd r))=true
 ·rw[Aj e];simp
 ·rw[Aq e];have f1:l.filter (fun r=>decide (hd row<hd r))=[]:=List.filter_eq_nil_iff.2 fun x hx=>by
   intro k;exact e (List.any_eq_true.2 ⟨x,hx,k⟩)
  rw[f1];simp
theorem zC3 {l:List (List Int)} {row:List Int} (h:AscR l):AscR (putR l row):=by
 rw[jE6 h];unfold AscR;rw[List.pairwise_append];refine⟨h.filter _,List.pairwise_cons.2 ⟨fun x hx=>?_,h.filter _⟩,fun a ha b hb=>?_⟩
 ·have:=(List.mem_filter.1 hx).2;simpa using this
 ·have h1:=(List.mem_filter.1 ha).2;rcases List.mem_cons.1 hb with rfl | hb
  ·simpa using h1
  ·have h2:=(List.mem_filter.1 hb).2;simp only[AZ] at h1 h2;omega
theorem zC4 {l:List (List Int)} {row r:List Int} (h:AscR l):r∈putR l row↔r=row∨(r∈l∧hd r≠hd row):=by
 rw[jE6 h,List.mem_append,List.mem_cons,List.mem_filter,List.mem_filter];simp only[AZ];constructor
 ·rintro (⟨a,b⟩ | a | ⟨a,b⟩)
  ·exact .inr ⟨a,by omega⟩
  ·exact .inl a
  ·exact .inr ⟨a,by omega⟩
 ·rintro (a | ⟨a,b⟩)
  ·exact .inr (.inl a)
  ·by_cases c:hd r<hd row
   ·exact .inl ⟨a,c⟩
   ·exact .inr (.inr ⟨a,by omega⟩)
theorem ji7 (l:List (List Int)) (row:List Int):(putR l row).length≤l.length+1:=by
 have key:∀ (l:List (List Int)) (x:List (List Int)×Bool),(l.foldl (putS row) x).1.length+(if (l.foldl (putS row) x).2 then 0 else 1)≤x.1.length+(if x.2 then 0 else 1)+l.length:=by
  intro l
  induction l with
  | nil=>intro x;simp only[List.foldl_nil,List.length_nil,Nat.add_zero];exact Nat.le_refl _
  | cons r l ih=>
    intro x;have h1:=ih (putS row x r);have h2:(putS row x r).1.length+(if (putS row x r).2 then 0 else 1)≤x.1.length+(if x.2 then 0 else 1)+1:=by
     unfold putS;split
     ·omega
     ·split
      ·rename_i h;rw[h.2];simp
      ·simp;omega
    rw[List.foldl_cons,List.length_cons];omega
 have:=key l ([],false);unfold putR;simp only[List.length_nil,Bool.false_eq_true,if_false] at this;dsimp only;split
 ·rename_i h;rw[h] at this;simp at this;omega
 ·rename_i h;rw[Aq h] at this;rw[AW];simp;omega
end Go.Proofs
namespace Go.Proofs
open Go Go.TL
theorem jn9 {α:Type} [Inhabited α] {f:α→Int} {l:List α} (h:∀ i,0<i→i<l.length→f (l.getD (i-1) default)<f (l.getD i default)):l.Pairwise fun a b=>f a<f b:=by
 rw[List.pairwise_iff_getElem];have key:∀ (d i:Nat) (hj:i+d+1<l.length),f (l[i]'(by omega))<f l[i+d+1]:=by
  intro d
  induction d with
  | zero=>
    intro i hj;have:=h (i+1) (by omega) (by omega);rw[qh (by omega),qh (by omega)] at this;simpa using this
  | succ d ih=>
    intro i hj;have h1:=ih i (by omega);have h2:=h (i+d+1+1) (by omega) (by omega);rw[qh (by omega),qh (by omega)] at h2;simp only[Nat.add_sub_cancel] at h2;have e:i+(d+1)+1=i+d+1+1:=by omega
    simp only[e];omega
 intro i j hi hj hij;have:=key (j-i-1) i (by omega);have e:i+(j-i-1)+1=j:=by omega
 simp only[e] at this;exact this
theorem ki0 {α:Type} [Inhabited α] {f:α→Int} {l:List α} (h:l.Pairwise fun a b=>f a<f b) {i:Nat} (h0:0<i) (hi:i<l.length):f (l.getD (i-1) default)<f (l.getD i default):=by
 rw[qh (by omega),qh hi];exact List.pairwise_iff_getElem.1 h (i-1) i (by omega) hi (by omega)
structure SrcOk (s:Src):Prop where
 sch:schE s.sch=0
 nr:s.rows.length≤200
 ng:s.gone.length≤300
 ver:0≤s.ver∧s.ver≤300
 rows:∀ r∈s.rows,rowE s.sch r=0
 asc:AscR s.rows
 gone:∀ g∈s.gone,1≤g∧g≤1048575∧zp6 s g<0
 gasc:s.gone.Pairwise fun a b=>a<b
theorem YD {s:Sch} {r:List Int} (h:rowE s r=0):0<r.length:=by
 obtain⟨h1,h2,_⟩:=qy1 h;have:=(qQ h1).nc;omega
theorem zQ2 {s:Src} {id:Int}:zp6 s id<0↔∀ r∈s.rows,atR id r=false:=by
 unfold zp6;split
 ·rename_i h;obtain⟨r,h1,h2⟩:=List.any_eq_true.1 h;constructor
  ·intro h3;omega
  ·intro h3;rw[h3 r h1] at h2;cases h2
 ·rename_i h;constructor
  ·intro _ r hr;cases e:atR id r with
   | false=>rfl
   | true=>exact absurd (List.any_eq_true.2 ⟨r,hr,e⟩) h
  ·intro _;omega
theorem qy8 {s:Src}:srcB s=true↔SrcOk s:=by
 unfold srcB jE5 jX2 asc2;simp only[Bq,AY,AZ,List.all_eq_true,List.mem_range,Bool.or_eq_true];constructor
 ·rintro ⟨⟨⟨⟨⟨⟨h1,h2⟩,h3⟩,h4⟩,h5⟩,h6⟩,h7⟩;refine⟨h1,h2,h3,⟨h4,h5⟩,fun r hr=>?_,?_,fun g hg=>?_,?_⟩
  ·obtain⟨i,hi,rfl⟩:=List.getElem_of_mem hr;have:=(h6 i hi).1;rw[qh hi] at this;exact this
  ·exact jn9 (f:=hd) fun i h0 hi=>((h6 i hi).2.resolve_left (by omega))
  ·obtain⟨i,hi,rfl⟩:=List.getElem_of_mem hg;obtain⟨⟨⟨a,b⟩,c⟩,d⟩:=h7 i hi;rw[qh hi] at a b d;exact⟨a,b,d⟩
  ·exact jn9 (f:=fun x:Int=>x) fun i h0 hi=>((h7 i hi).1.2.resolve_left (by omega))
 ·intro h;refine⟨⟨⟨⟨⟨⟨h.sch,h.nr⟩,h.ng⟩,h.ver.1⟩,h.ver.2⟩,fun i hi=>⟨?_,?_⟩⟩,fun i hi=>⟨⟨⟨?_,?_⟩,?_⟩,?_⟩⟩
  ·rw[qh hi];exact h.rows _ (AX hi)
  ·by_cases e:i=0
   ·exact .inl e
   ·exact .inr (ki0 (f:=hd) h.asc (by omega) hi)
  ·rw[qh hi];exact (h.gone _ (AX hi)).1
  ·rw[qh hi];exact (h.gone _ (AX hi)).2.1
  ·by_cases e:i=0
   ·exact .inl e
   ·exact .inr (ki0 (f:=fun x:Int=>x) h.gasc (by omega) hi)
  ·rw[qh hi];exact (h.gone _ (AX hi)).2.2
theorem ji8 {s:Sch} {r:List Int} (h:rowE s r=0) (id:Int):atR id r=(hd r==id):=by
 unfold atR;rw[decide_eq_true (YD h),Bool.true_and]
theorem jE7 {s:Sch} {r:List Int} (h:rowE s r=0):1≤hd r∧hd r≤1048575:=by
 obtain⟨h1,h2,h3⟩:=qy1 h;have h4:=h3 0 (YD h);unfold jC at h4;rw[Aj (qQ h1).c0] at h4;simp only[inB,Bq,AZ] at h4;exact h4
end Go.Proofs
namespace Go.Proofs
open Go Go.TL
set_option maxHeartbeats 4000000
open So
theorem kR {r:List Int} (h:0<r.length):(r.map vI).getD 0 .junk=vI (hd r):=by rw[qe h,hd,qh h]
theorem jP5 (row:List Int):∀ (l:List (List Int)) (x:List (List Int)×Bool),(l.foldl (putS row) x).1.length≤x.1.length+l.length+1
 | l,x=>by
   have key:∀ (l:List (List Int)) (x:List (List Int)×Bool),(l.foldl (putS row) x).1.length+(if (l.foldl (putS row) x).2 then 0 else 1)≤x.1.length+(if x.2 then 0 else 1)+l.length:=by
    intro l
    induction l with
    | nil=>intro x;simp only[List.foldl_nil,List.length_nil,Nat.add_zero];exact Nat.le_refl _
    | cons r l ih=>
      intro x;have h1:=ih (putS row x r);have h2:(putS row x r).1.length+(if (putS row x r).2 then 0 else 1)≤x.1.length+(if x.2 then 0 else 1)+1:=by
       unfold putS;split
       ·omega
       ·split
        ·rename_i h;rw[h.2];simp
        ·simp;omega
      rw[List.foldl_cons,List.length_cons];omega
   have:=key l x;split at this <;> split at this <;> omega
theorem zX1 (l:List (List Int)) (row:List Int) (hl:l.length<1000000000) (hr:∀ r∈l,0<r.length) (h0:0<row.length):Spc Tryz.prog qv1 [vRw l,vIs row] [] (vRw (putR l row)) []:=by
 have hP:putR l row=if (l.foldl (putS row) ([],false)).2 then (l.foldl (putS row) ([],false)).1 else (l.foldl (putS row) ([],false)).1++[row]:=rfl
 have hS:=fun i=>jP5 row (l.take i) ([],false);have hg0:=kR h0;refine qd zN1 mixm (by simp) fun e _ hst=>qg ?_;unfold qk7;refine sW ?_;refine qu mixm (α:=Nat×List (List Int)×Bool) [5,6,7] (fun x=>x.1≤l.length∧x.2=(l.take x.1).foldl (putS row) ([],false)) (fun x=>[(5,.asl 1 x.2.1.length),(6,vB x.2.2),(7,vI x.1)]) (fun x=>[(1,.arr 1 (x.2.1.map vIs) false)]) (fun x=>l.length-x.1) (0,[],false) ⟨by simp,by simp⟩ ?_ fun x hx=>?_
 ·exact .oA [(1,none)] []
 obtain⟨i,a,b⟩:=x;obtain⟨x1,x2⟩:=hx;dsimp only at x1 x2;have hSi:=hS i;rw[← x2] at hSi;simp only[List.length_nil,List.length_take] at hSi;refine sD ?_;refine⟨fun h=>?_,fun h=>?_⟩
 ·have hi2:i<l.length:=by omega
  have hwi:=qj (i:=i) (by omega);have hs:(l.take (i+1)).foldl (putS row) ([],false)=putS row (a,b) l[i]:=by rw[qH hi2,List.foldl_append,← x2];rfl
  have hrp:=hr _ (AX hi2);have hgi:=kR hrp;have hr2:putS row (a,b) l[i]=if hd l[i]=hd row then (a,b) else if hd l[i]>hd row∧b=false then (a++[row]++[l[i]],true) else (a++[l[i]],b):=rfl
  rw[hr2] at hs;simp only[tZ,↓un_u,simprocAttr,Ax,qe hi2,hgi,hg0,tD,AY,Ak,Bx,Bz,hwi];refine⟨by omega,by omega,by omega,by kernel_rfl,fun h2=>?_,fun h2=>⟨by omega,by omega,by omega,by kernel_rfl,fun h3=>?_,fun h3=>?_⟩⟩
  ·rw[Aj h2] at hs;refine⟨(i+1,a,b),⟨by dsimp only;omega,hs.symm⟩,by dsimp only;omega,?_⟩;exact .oA [(1,some 1)] []
  ·rw[Aq h2,Aj h3] at hs;refine⟨by omega,by omega,by omega,(i+1,a++[row]++[l[i]],true),⟨by dsimp only;omega,hs.symm⟩,by dsimp only;omega,?_⟩;exact .oA [(1,some 1)] []
  ·rw[Aq h2,Aq (by grind)] at hs;refine⟨by omega,by omega,(i+1,a++[l[i]],b),⟨by dsimp only;omega,hs.symm⟩,by dsimp only;omega,?_⟩;exact .oA [(1,some 1)] []
 ·have hil:i=l.length:=by omega
  subst hil;rw[List.take_length] at x2;rw[← x2] at hP;dsimp only at hP;simp only[tZ,↓un_u,simprocAttr,Bx,Bz];refine⟨fun h2=>?_,fun h2=>?_⟩
  ·rw[hP,h2,Aq (by simp)];refine⟨by omega,?_⟩;show Zh [] _ _ (.sl 1 ((a++[row]).map vIs)) [];rw[List.map_append];exact .oA [] [1]
  ·rw[hP,Aj h2];exact .oA [] [1]
theorem zQ3 (s:Src) (id:Int) (hl:s.rows.length<4611686018427387904):Spc Tryz.prog qj5 [srcT s,vI id] [] (vI (zp6 s id)) []:=by
 refine qd zx9 mixm (by simp) fun e _ hst=>qg ?_;unfold qc5;refine sW ?_;refine qu mixm (α:=Nat) [5] (fun i=>i≤s.rows.length∧(s.rows.take i).any (atR id)=false) (fun i=>[(5,vI i)]) (fun i=>[(4096,.arr 5 [srcT s] false)]) (fun i=>s.rows.length-i) 0 ⟨by omega,rfl⟩ ?_ fun i hi=>?_
 ·exact .oA [(4096,some 4096)] []
 refine sD ?_;refine⟨fun h=>?_,fun h=>?_⟩
 ·have hi2:i<s.rows.length:=by omega
  have hwi:=qj (i:=i) (by omega);have hno:atR id s.rows[i]=false→∃ y,(y≤s.rows.length∧(s.rows.take y).any (atR id)=false)∧s.rows.length-y<s.rows.length-i∧Le e ⟨[(1,vI id),(2,.ptr 4096 1 0 0),(5,vI ((i+1:Nat):Int))],[(4096,.arr 5 [srcT s] false)]⟩ ⟨[(5,vI y),(1,vI id),(2,.ptr 4096 1 0 0)],[(4096,.arr 5 [srcT s] false)]⟩:=fun h3=>by
   refine⟨i+1,⟨by omega,kf hi2 hi.2 h3⟩,by omega,?_⟩;exact .oA [(4096,some 4096)] []
  have hat:atR id s.rows[i]=(decide (0<s.rows[i].length)&&(hd s.rows[i]==id)):=rfl;rcases Nat.eq_zero_or_pos s.rows[i].length with h0 | h0
  ·have e0:decide ((s.rows[i].length:Int)>0)=false:=decide_eq_false (by omega);have hgj:(s.rows[i].map vI).getD 0 .junk = .junk:=qp2 (by omega);simp only[tZ,↓un_u,simprocAttr,Ax,qe hi2,e0,hgj,hwi];exact⟨by omega,hno (by rw[hat,decide_eq_false (by omega)];rfl)⟩
  ·have e0:decide ((s.rows[i].length:Int)>0)=true:=decide_eq_true (by omega);rw[decide_eq_true h0,Bool.true_and] at hat;simp only[tZ,↓un_u,simprocAttr,Ax,qe hi2,e0,kR h0,hwi];refine⟨by omega,by omega,by omega,fun h3=>?_,fun h3=>hno (by rw[hat];exact h3)⟩;rw[zp6,Aj (zt4 hi2 (by rw[hat];exact h3)),yV hi2 hi.2 (by rw[hat];exact h3)];exact .oA [] []
 ·have hil:i=s.rows.length:=by omega
  subst hil;have h2:=hi.2;rw[List.take_length] at h2;rw[zp6,Aq (by rw[h2];simp)];exact .oA [] []
def jE8 (s:Src):Prop:=yd s.sch∧∀ r∈s.rows,r.length<4611686018427387904
end Go.Proofs
namespace Go.Proofs
open Go Go.TL
set_option maxHeartbeats 4000000
open So
theorem SrcOk.rowp {s:Src} (h:SrcOk s):∀ r∈s.rows,0<r.length:=fun r hr=>YD (h.rows r hr)
end Go.Proofs
namespace Go.Proofs
open Go Go.TL
set_option maxRecDepth 4000
def mixA (h:Int):Int:=IntKind.u64.wrap (xorI .u64 h (shrI .u64 h 31)*13787848793156543929)
def mix0 (s r x:Int):Int:=IntKind.u64.wrap (IntKind.u64.wrap (IntKind.u64.wrap s+IntKind.u64.wrap (IntKind.u64.wrap r*11400714819323198485))+IntKind.u64.wrap (IntKind.u64.wrap x*14029467366897019727))
def iter {α:Type} (f:α→α):Nat→α→α
 | 0,x=>x
 | n+1,x=>f (iter f n x)
def mixI (s r x:Int):Int:=IntKind.i64.wrap (shrI .u64 (iter mixA 3 (mix0 s r x)) 54)
def fwd (s:Int):Nat→Int×Int→Int×Int
 | 0,p=>p
 | r+1,p=>((fwd s r p).2,xorI .i64 (fwd s r p).1 (mixI s r (fwd s r p).2))
def bwd (s:Int):Nat→Int×Int→Int×Int
 | 0,p=>p
 | r+1,p=>bwd s r (xorI .i64 p.2 (mixI s r p.1),p.1)
def Jd (s n:Int):Bool:=decide (0≤s)&&decide (s<1152921504606846976)&&decide (0≤n)&&decide (n<1048576)
def tie (p:Int×Int):Int:=p.1*1024+p.2
def cut (n:Int):Int×Int:=(n / 1024,n % 1024)
def keyI (s n:Int):Int:=if Jd s n=true then tie (fwd s 8 (cut n)) else -1
def idI (s n:Int):Int:=if Jd s n=true then tie (bwd s 8 (cut n)) else -1
theorem bits_nat {n:Int} (h0:0≤n):BitVec.ofInt 64 n=BitVec.ofNat 64 n.toNat:=by
 apply BitVec.eq_of_toNat_eq
 simp [BitVec.toNat_ofInt];omega
theorem zX2 {a b:Int} (ha:0≤a∧a<9223372036854775808) (hb:0≤b∧b<9223372036854775808):xorI .i64 a b=((a.toNat ^^^ b.toNat:Nat):Int):=by
 have h1:a.toNat<2 ^ 63:=by omega
 have h2:b.toNat<2 ^ 63:=by omega
 have h3:=Nat.xor_lt_two_pow h1 h2;unfold xorI;rw[show IntKind.i64.bits=64 from rfl,bits_nat ha.1,bits_nat hb.1,BitVec.toNat_xor,BitVec.toNat_ofNat,BitVec.toNat_ofNat,Nat.mod_eq_of_lt (by omega),Nat.mod_eq_of_lt (by omega)];exact AK _ (by omega)
theorem qG4 {a b:Int} (ha:0≤a∧a<1024) (hb:0≤b∧b<1024):0≤xorI .i64 a b∧xorI .i64 a b<1024:=by
 have h1:a.toNat<2 ^ 10:=by omega
 have h2:b.toNat<2 ^ 10:=by omega
 have h3:=Nat.xor_lt_two_pow h1 h2;rw[zX2 (by omega) (by omega)];omega
theorem kb7 {a b:Int} (ha:0≤a∧a<1024) (hb:0≤b∧b<1024):xorI .i64 (xorI .i64 a b) b=a:=by
 have:=qG4 ha hb;rw[zX2 (by omega) (by omega),zX2 (by omega) (by omega)];simp only[Ax,Nat.xor_assoc,Nat.xor_self,Nat.xor_zero];omega
theorem qG5 (s r x:Int):0≤mixI s r x∧mixI s r x<1024:=by
 unfold mixI;have h:∀ n,0≤iter mixA 3 n∧iter mixA 3 n<18446744073709551616:=by
  intro n;simp only[iter];unfold mixA;rw[IntKind.wrap_u64];omega
 have:=h (mix0 s r x);have h1:shrI .u64 (iter mixA 3 (mix0 s r x)) 54=(iter mixA 3 (mix0 s r x)) / 18014398509481984:=by
  unfold shrI;rw[Int.fdiv_eq_ediv_of_nonneg _ (by decide)]
  rfl
 rw[h1];rw[AK _ (by omega)];omega
theorem Wl {s:Int} {p:Int×Int} (h:(0≤p.1∧p.1<1024)∧0≤p.2∧p.2<1024):∀ r,(0≤(fwd s r p).1∧(fwd s r p).1<1024)∧0≤(fwd s r p).2∧(fwd s r p).2<1024
 | 0=>h
 | r+1=>⟨(Wl h r).2,qG4 (Wl h r).1 (qG5 _ _ _)⟩
theorem zQ4 {s:Int}:∀ (r:Nat) {p:Int×Int},(0≤p.1∧p.1<1024)∧0≤p.2∧p.2<1024→(0≤(bwd s r p).1∧(bwd s r p).1<1024)∧0≤(bwd s r p).2∧(bwd s r p).2<1024
 | 0,_,h=>h
 | r+1,_,h=>zQ4 r ⟨qG4 h.2 (qG5 _ _ _),h.1⟩
theorem jE9 {s:Int} {p:Int×Int} (h:(0≤p.1∧p.1<1024)∧0≤p.2∧p.2<1024):∀ r,bwd s r (fwd s r p)=p
 | 0=>rfl
 | r+1=>by
   simp only[bwd,fwd];rw[kb7 (Wl h r).1 (qG5 _ _ _)];exact jE9 h r
theorem Wm {n:Int} (h:0≤n∧n<1048576):(0≤(cut n).1∧(cut n).1<1024)∧0≤(cut n).2∧(cut n).2<1024:=by
 simp only[cut];omega
theorem kb8 {p:Int×Int} (h:(0≤p.1∧p.1<1024)∧0≤p.2∧p.2<1024):cut (tie p)=p:=by
 obtain⟨a,b⟩:=p;simp only[cut,tie] at *
 congr 1 <;> omega
theorem kb9 (n:Int):tie (cut n)=n:=by simp only[cut,tie];omega
theorem zQ5 {p:Int×Int} (h:(0≤p.1∧p.1<1024)∧0≤p.2∧p.2<1024):0≤tie p∧tie p<1048576:=by
 simp only[tie];omega
theorem qO1 (a b:Int):Spc Tryz.prog Zq [vI a,vI b] [] (vB (Jd a b)) []:=by
 refine qd qE2 mixm (by simp) fun e hn hst=>qg ?_;unfold QN;refine sW ?_;exact .imR rfl rfl
theorem zg6 (a b c:Int):Spc Tryz.prog KD [vI a,vI b,vI c] [] (vI (mixI a b c)) []:=by
 refine qd qT7 mixm (by simp) fun e hn hst=>qg ?_;unfold Jx;refine sW ?_;refine zs5 mixm (α:=Nat) (fun i=>i≤3) (fun i=>[(7,vU64 (iter mixA i (mix0 a b c))),(18,vI i)]) (fun _=>[]) (fun i=>3-i) 0 (by omega) (.ofFr (by simp [qg2,TL.get,iter,mix0])) fun i hi=>?_;simp only[tZ,↓un_u,simprocAttr,AZ,Ay];refine⟨fun h=>⟨i+1,by omega,by omega,.ofFr ?_⟩,fun h=>?_⟩
 ·simp [qg2,TL.get,iter,mixA];exact AK _ (by omega)
 ·have:i=3:=by omega
  subst this;exact .imR rfl rfl
theorem qn3 (s n:Int):Spc Tryz.prog Qq [vI s,vI n] [] (vI (keyI s n)) []:=by
 refine qd qS9 mixm (by simp) fun e hn hst=>qg ?_;unfold Jt;refine sW ?_;refine C1.im (qO1 s n) rfl rfl ?_;simp only[tZ,↓un_u,simprocAttr,Bz];refine⟨fun h=>.imR (by simp [keyI,h]) rfl,fun h=>?_⟩;have hn:0≤n∧n<1048576:=by simp [Jd] at h;omega
 rw[Int.tdiv_eq_ediv_of_nonneg hn.1,Int.tmod_eq_emod_of_nonneg hn.1,AK _ (by omega)];have hr:=Wl (s:=s) (Wm hn);refine zs5 mixm (α:=Nat) (fun i=>i≤8) (fun i=>[(0,vI s),(5,vI (fwd s i (cut n)).1),(6,vI (fwd s i (cut n)).2),(16,vI i)]) (fun _=>[]) (fun i=>8-i) 0 (by omega) (.ofFr (by simp [qg2,TL.get,fwd,cut])) fun i hi=>?_;simp only[tZ,↓un_u,simprocAttr,AZ,Ay];refine⟨fun h=>?_,fun h=>?_⟩
 ·refine C1.im (zg6 s i _) rfl rfl ?_;refine sW ?_;refine⟨i+1,by omega,by omega,.ofFr ?_⟩;simp [qg2,TL.get,fwd];exact AK _ (by omega)
 ·have:i=8:=by omega
  subst this;have:=hr 8;refine .imR ?_ rfl;rw[AK _ (by rw[AK _ (by omega)];omega),AK _ (by omega)];simp [keyI,h,tie, *]
theorem qG6 (a b:Int):Spc Tryz.prog JT [vI a,vI b] [] (vB (Jd a b)) []:=by
 refine qd zk9 mixm (by simp) fun e hn hst=>qg ?_;unfold Yb;refine sW ?_;exact .imR rfl rfl
def zQ6 (s r x:Int):Int:=if s<0∨1152921504606846976≤s∨r<0∨8≤r∨x<0∨1024≤x then 0 else mixI s r x
theorem qG7 (a b c:Int):Spc Tryz.prog JU [vI a,vI b,vI c] [] (vI (zQ6 a b c)) []:=by
 refine qd zl1 mixm (by simp) fun e hn hst=>qg ?_;unfold Yc;simp only[tZ,↓un_u,simprocAttr,Bool.or_eq_true,Bool.or_eq_false_iff,AZ,Ay];refine⟨fun h=>.imR ?_ rfl,fun h=>?_⟩
 ·rw[zQ6,Aj (by omega)]
 ·refine zs5 mixm (α:=Nat) (fun i=>i≤3) (fun i=>[(7,vU64 (iter mixA i (mix0 a b c))),(8,vI i)]) (fun _=>[]) (fun i=>3-i) 0 (by omega) (.ofFr (by simp [qg2,TL.get,iter,mix0])) fun i hi=>?_;simp only[tZ,↓un_u,simprocAttr,AZ,Ay];refine⟨fun h=>⟨i+1,by omega,by omega,.ofFr ?_⟩,fun h=>?_⟩
  ·simp [qg2,TL.get,iter,mixA];exact AK _ (by omega)
  ·have:i=3:=by omega
   subst this;refine .imR ?_ rfl;rw[zQ6,Aq (by omega)]
   rfl
theorem ji9 {s n x:Int} {r:Nat} (h:Jd s n=true) (hr:r<8) (hx:0≤x∧x<1024):zQ6 s r x=mixI s r x:=by
 simp [Jd] at h;rw[zQ6,Aq (by omega)]
theorem zX3 (s n:Int):Spc Tryz.prog qv0 [vI s,vI n] [] (vI (keyI s n)) []:=by
 refine qd zM9 mixm (by simp) fun e hn hst=>qg ?_;unfold qk6;refine sW ?_;refine C1.im (qG6 s n) rfl rfl ?_;simp only[tZ,↓un_u,simprocAttr,Bz];refine⟨fun h=>.imR (by simp [keyI,h]) rfl,fun h=>?_⟩;have hn:0≤n∧n<1048576:=by simp [Jd] at h;omega
 rw[Int.tdiv_eq_ediv_of_nonneg hn.1,Int.tmod_eq_emod_of_nonneg hn.1,AK _ (by omega)];have hr:=Wl (s:=s) (Wm hn);refine zs5 mixm (α:=Nat) (fun i=>i≤8) (fun i=>[(0,vI s),(5,vI (fwd s i (cut n)).1),(6,vI (fwd s i (cut n)).2),(7,vI i)]) (fun _=>[]) (fun i=>8-i) 0 (by omega) (.ofFr (by simp [qg2,TL.get,fwd,cut])) fun i hi=>?_;simp only[tZ,↓un_u,simprocAttr,AZ,Ay];refine⟨fun h1=>?_,fun h1=>?_⟩
 ·refine C1.im (qG7 s i _) rfl rfl ?_;refine sW ?_;refine⟨i+1,by omega,by omega,.ofFr ?_⟩;rw[ji9 h (by omega) (hr i).2];simp [qg2,TL.get,fwd];exact AK _ (by omega)
 ·have:i=8:=by omega
  subst this;have:=hr 8;refine .imR ?_ rfl;rw[AK _ (by rw[AK _ (by omega)];omega),AK _ (by omega)];simp [keyI,h,tie]
theorem jo0 (s n:Int):Spc Tryz.prog qK0 [vI s,vI n] [] (vI (idI s n)) []:=by
 refine qd zV3 mixm (by simp) fun e hn hst=>qg ?_;unfold qv5;refine sW ?_;refine C1.im (qG6 s n) rfl rfl ?_;simp only[tZ,↓un_u,simprocAttr,Bz];refine⟨fun h=>.imR (by simp [idI,h]) rfl,fun h=>?_⟩;have hn:0≤n∧n<1048576:=by simp [Jd] at h;omega
 rw[Int.tdiv_eq_ediv_of_nonneg hn.1,Int.tmod_eq_emod_of_nonneg hn.1,AK _ (by omega)];have hr:=zQ4 (s:=s) 8 (Wm hn);refine zs5 mixm (α:=Nat×Int×Int) (fun x=>x.1≤8∧bwd s x.1 x.2=bwd s 8 (cut n)∧(0≤x.2.1∧x.2.1<1024)∧0≤x.2.2∧x.2.2<1024) (fun x=>[(0,vI s),(5,vI x.2.1),(6,vI x.2.2),(7,vI (x.1-1:Int))]) (fun _=>[]) (fun x=>x.1) (8,cut n) ⟨by omega,rfl,Wm hn⟩ (.ofFr (by simp [qg2,TL.get,cut])) ?_;rintro ⟨k,a,b⟩ ⟨hk,hI,hab⟩;simp only[tZ,↓un_u,simprocAttr,AZ,Ay];simp only at hk hI hab;refine⟨fun h1=>?_,fun h1=>?_⟩
 ·refine C1.im (qG7 s _ _) rfl rfl ?_;refine sW ?_;obtain⟨k,rfl⟩:∃ k',k=k'+1:=⟨k-1,by omega⟩;refine⟨(k,xorI .i64 b (mixI s k a),a),⟨by simp only;omega,by simpa [bwd] using hI,qG4 hab.2 (qG5 _ _ _),hab.1⟩,by simp only;omega,.ofFr ?_⟩;have:((k+1:Nat):Int)-1=k:=by omega
  rw[this,ji9 h (by omega) hab.1];simp [qg2,TL.get];exact AK _ (by omega)
 ·have:k=0:=by omega
  subst this;have hI:(a,b)=bwd s 8 (cut n):=hI;refine .imR ?_ rfl;have h2:a=(bwd s 8 (cut n)).1:=by rw[← hI]
  have h3:b=(bwd s 8 (cut n)).2:=by rw[← hI]
  rw[AK _ (by rw[AK _ (by omega)];omega),AK _ (by omega)];simp [idI,h,tie,h2,h3]
end Go.Proofs
namespace Go.Proofs
open Go Go.TL
set_option maxHeartbeats 4000000
open So
def drw0 (seed id:Int):Int:=IntKind.u64.wrap (IntKind.u64.wrap (IntKind.u64.wrap (IntKind.u64.wrap seed*2654435761)+IntKind.u64.wrap (IntKind.u64.wrap id*40503))+97)
def drwA (h:Int):Int:=IntKind.u64.wrap (IntKind.u64.wrap (h*6364136223846793005)+1442695040888963407)
def drwX (h:Int):Int:=xorI .u64 (drwA h) (shrI .u64 (drwA h) 29)
def drwI (seed id:Int):Int:=IntKind.i64.wrap (shrI .u64 (iter drwX 3 (drw0 seed id)) 32)
def inS (x:Smp) (id:Int):Bool:=(smpE x==0)&&decide (1≤id)&&decide (id≤1048575)&&decide ((drwI x.seed id).tmod x.of<x.part)
def ownP (s:Src) (d:Dcl) (r:List Int):Bool:=(jn6 s.sch d.coh r==1)&&inS d.smp (hd r)
def ownR (s:Src) (d:Dcl):List (List Int):=if srcB s=false∨dclE s.sch d≠0 then [] else s.rows.filter (ownP s d)
def ownS (s:Src) (d:Dcl):List Int:=(ownR s d).map hd
end Go.Proofs
namespace Go.Proofs
open Go Go.TL
set_option maxHeartbeats 4000000
theorem jP6 {s:Src} (h:SrcOk s) {r:List Int} (hr:r∈s.rows):∃ j:Nat,zp6 s (hd r)=j∧∃ hj:j<s.rows.length,s.rows[j]=r:=by
 have h1:s.rows.any (atR (hd r))=true:=List.any_eq_true.2 ⟨r,hr,by rw[ji8 (h.rows r hr)];simp⟩;have h2:s.rows.findIdx (atR (hd r))<s.rows.length:=List.findIdx_lt_length_of_exists (by
  obtain⟨x,a,b⟩:=List.any_eq_true.1 h1;exact⟨x,a,b⟩)
 refine⟨_,by rw[zp6,Aj h1],h2,?_⟩;have h3:=List.findIdx_getElem (p:=atR (hd r)) (xs:=s.rows) (w:=h2);rw[ji8 (h.rows _ (AX h2)),AY] at h3;obtain⟨i,hi,rfl⟩:=List.getElem_of_mem hr;have hp:=List.pairwise_iff_getElem.1 h.asc;by_cases c1:s.rows.findIdx (atR (hd s.rows[i]))<i
 ·have:=hp _ i h2 hi c1;omega
 ·by_cases c2:i<s.rows.findIdx (atR (hd s.rows[i]))
  ·have:=hp i _ hi h2 c2;omega
  ·have e:s.rows.findIdx (atR (hd s.rows[i]))=i:=by omega
   simp only[e]
theorem zg7 {s:Sch} {l:List Pk} (h:Qa s l=0):l.length≤8:=by
 obtain⟨h1,h2,h3⟩:=YZ h;have hn:=(qQ h1).nc;have key:∀ i (hi:i<l.length),(i:Int)+1≤l[i].col:=by
  intro i
  induction i with
  | zero=>intro hi;have:=qe6 (h2 _ (AX hi));omega
  | succ i ih=>
    intro hi;have a:=ih (by omega);have b:=List.pairwise_iff_getElem.1 h3 i (i+1) (by omega) hi (by omega);omega
 refine AQ fun c=>?_;have a:=key 7 (by omega);have b:=qe6 (h2 _ (AX (show 7<l.length by omega)));omega
def rowX (s:Src) (l:List Pk) (k:Int) (r:List Int):List Int:=keyI k (hd r)::l.map fun p=>qU s.sch p.col p.lev (r.getD p.col.toNat 0)
def qG8 (s:Src) (l:List Pk) (k:Int):List (List Int)→List Int→List (List Int):=fun a r=>putR a (rowX s l k r)
def qf7 (s:Src) (d:Dcl) (l:List Pk) (k:Int):List (List Int):=(ownR s d).foldl (qG8 s l k) []
def buildE (s:Src) (d:Dcl) (l:List Pk) (k:Int):Int:=if srcB s=false then 13 else if zf6 s.sch d l≠0 then zf6 s.sch d l else if k<0∨k≥1152921504606846976 then 2 else 0
abbrev ext0:Ext:=⟨⟨#[]⟩,0,[],[]⟩
def qR4 (s:Src) (d:Dcl) (l:List Pk) (k:Int):Ext:=if buildE s d l k≠0 then ext0 else ⟨d.proj,s.ver,l,qf7 s d l k⟩
theorem jP7 {s:Sch} {d:Dcl} {l:List Pk} (h:zf6 s d l=0):dclE s d=0∧Qa s l=0:=by
 unfold zf6 at h;split at h
 ·rename_i h1;exact absurd h h1
 rename_i h1;split at h
 ·rename_i h2;exact absurd h h2
 rename_i h2;exact⟨AQ h1,AQ h2⟩
theorem jP8 (s:Src) (l:List Pk) (k:Int) (r:List Int):0<(rowX s l k r).length:=by simp [rowX]
end Go.Proofs
