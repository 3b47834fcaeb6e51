/- A part of the proof: trees of Go values, short forms, contracts. -/
import Derived.WalkKit
import Derived.Still
import Derived.MapKept
import GoSem.Builtin.Cap
import Derived.Laws.Externs
import GoSem.Extern.SlicesOverlaps
import Derived.Carry
import Derived.ProofKit
import Derived.OpenShut
import Derived.HandedShaped
import Derived.Lay
import Derived.LaidLaws
import Derived.MakeChecks
import Derived.SevenTiedAt
import Derived.Test.YtnfagfikoblhfaaGreatDoorChecked
import Derived.Test.YtnfagfikoblhfaaGreatDoorK17
set_option linter.unusedSimpArgs false
set_option linter.unusedVariables false
namespace Go.Proofs
open Go Go.TL
set_option maxHeartbeats 4000000
theorem zT7 (q:Qst) (k:Int) (ht:q.terms.length<4611686018427387904):Spc Tryz.prog ql2 [qstT q,vI k] [] (vB (jr9 q k)) []:=by
 refine qd zB3 mixm (by simp) fun e _ hst=>qg ?_;unfold qe2;refine sW ?_;refine C2.im (fun _=>qA3 q.terms k ht) (fun _=>rfl) (by rfl) ?_;refine sW ?_;rw[show (q.meas==k||q.terms.contains k)=jr9 q k from rfl];exact .oA [] []
theorem qp2:∀ (m l:List Pk),(Qf l m).length≤l.length+m.length
 | [],l=>BZ _
 | p::m,l=>by
   have h1:=qp2 m (Kr l p.col p.lev);have h2:=qI3 l p.col p.lev;unfold Qf at h1 ⊢
   rw[Dw,CJ];omega
theorem zw8 (l m:List Pk) (p:Pk):Qf l (m++[p])=Kr (Qf l m) p.col p.lev:=by rw[Qf,Gx];rfl
theorem qp3 (s:Sch) (c:Cnd):(jg s c).length≤40:=by
 unfold jg;split
 ·simp
 ·rename_i h;obtain⟨hE,k2,k3,k4⟩:=qo9 (AQ h);have h1:=zi1 c 41 (by omega) k2;have h2:=zi6 s (atsC c) [];simp only[Cw] at h2;unfold qX5 at h2;omega
structure QstOk (s:Sch) (q:Qst):Prop where
 sch:schE s=0
 kind:1≤q.kind∧q.kind≤3
 filt:chkC s q.filt=0
 dims:q.kind=1→Wp s q.dims=0∧(q.meas = -1∨isB s q.meas 3=true)
 nd:q.dims.length≤3
 terms:q.kind=2→isB s q.meas 3=true∧yn s q.meas q.terms=0
 nt:q.terms.length≤3
 event:q.kind=3→isB s q.meas 3=true∧0≤(qk s q.meas.toNat).low∧chkC s q.event=0
 d0:q.kind≠1→q.dims=[]
 t0:q.kind≠2→q.terms=[]
 e0:q.kind≠3→qa7 q.event cnd0=true
theorem qA8 {s:Sch} {q:Qst} (h:qstE s q=0):QstOk s q:=by
 unfold qstE at h;split at h
 ·rename_i h1;exact absurd h h1
 rename_i h1;split at h
 ·cases h
 rename_i h2;split at h
 ·cases h
 rename_i h3;split at h
 ·rename_i h4;exact absurd h h4
 rename_i h4;split at h
 ·rename_i h5;exact absurd h h5
 rename_i h5;split at h
 ·cases h
 rename_i h6;have hp:wP s q=0:=AQ h5;unfold wP at hp;have hd:q.kind=1→Wp s q.dims=0∧(q.meas = -1∨isB s q.meas 3=true):=fun k=>by
  rw[Aj k] at hp
  grind
 have ht:q.kind=2→isB s q.meas 3=true∧yn s q.meas q.terms=0:=fun k=>by
  rw[Aq (by omega),Aj k] at hp
  grind
 have hd0:q.kind≠1→q.dims=[]:=fun k=>Dy.1 (by omega);have ht0:q.kind≠2→q.terms=[]:=fun k=>Dy.1 (by omega);refine⟨AQ h1,by omega,AQ h4,hd,?_,ht,?_,fun k=>?_,hd0,ht0,fun k=>?_⟩
 ·by_cases k:q.kind=1
  ·have:=(hd k).1;unfold Wp at this
   grind
  ·rw[hd0 k];simp
 ·by_cases k:q.kind=2
  ·have:=(ht k).2;unfold yn at this
   grind
  ·rw[ht0 k];simp
 ·rw[Aq (by omega),Aq (by omega)] at hp
  grind
 ·grind
theorem qr5 (s:Sch):∀ (m l:List Pk),(m.foldl (fun l p=>Kr l p.col (jQ s p.col p.lev)) l).length≤l.length+m.length
 | [],l=>BZ _
 | p::m,l=>by
   have h1:=qr5 s m (Kr l p.col (jQ s p.col p.lev));have h2:=qI3 l p.col (jQ s p.col p.lev);rw[Dw,CJ];omega
theorem qP9 (s:Sch) (q:Qst):∀ (m:List Nat) (l:List Pk),(m.foldl (QV s q) l).length≤l.length+m.length
 | [],l=>BZ _
 | k::m,l=>by
   have h1:=qP9 s q m (QV s q l k);have h2:(QV s q l k).length≤l.length+1:=by
    unfold QV;split
    ·exact qI3 _ _ _
    ·omega
   rw[Dw,CJ];omega
def zw9 (s:Sch) (q:Qst):List Pk:=if q.kind=3 then Qf (jg s q.filt) (jg s q.event) else jg s q.filt
theorem zx0 (s:Sch) (q:Qst):(zw9 s q).length≤80:=by
 have h1:=qp3 s q.filt;have h2:=qp3 s q.event;have h3:=qp2 (jg s q.event) (jg s q.filt);unfold zw9;split <;> omega
theorem zi7 (s:Sch) (q:Qst):(yS s q).length≤100:=by
 unfold yS kg1;split
 ·simp
 ·rename_i h;have hq:=qA8 (AQ h);have h1:=zx0 s q;unfold zw9 at h1;have h2:=qr5 s q.dims (if q.kind=3 then Qf (jg s q.filt) (jg s q.event) else jg s q.filt);have h3:=qP9 s q (List.range (s.cols.length-1)) (q.dims.foldl (fun l p=>Kr l p.col (jQ s p.col p.lev)) (if q.kind=3 then Qf (jg s q.filt) (jg s q.event) else jg s q.filt));have h4:=(qR hq.sch).nc;have h5:=hq.nd;rw[List.length_range] at h3;omega
theorem zF4 (s:Sch) (hs:yg s) (hL:0<s.lists.length) (q:Qst):Spc Tryz.prog qc3 [schT s,qstT q] [] (vPs (yS s q)) []:=by
 refine qd zm0 mixm (by simp) fun e _ hst=>qg ?_;unfold Yc;refine sW ?_;refine C1.im (qh4 s hs hL q) (by rfl) (by rfl) ?_;simp only[tZ,↓un_u,simprocAttr,Bj,Aw];refine⟨fun h=>?_,fun h=>?_⟩
 ·rw[yS,Aj h];exact .oA [] []
 have hq:=qA8 h;have hnc:=(qR hq.sch).nc;have hnd:=hq.nd;have hnt:=hq.nt;have hN:yS s q=(List.range (s.cols.length-1)).foldl (QV s q) (q.dims.foldl (fun l p=>Kr l p.col (jQ s p.col p.lev)) (zw9 s q)):=by
  rw[yS,Aq (by rw[h];simp)];rfl
 have h0:=zx0 s q;have hQ0:zw9 s q=if q.kind=3 then Qf (jg s q.filt) (jg s q.event) else jg s q.filt:=rfl
 rw[hN];generalize zw9 s q=A at h0 hQ0 ⊢
 refine C1.im (qI5 s hs hL q.filt) (by rfl) (by rfl) ?_;have hcl:=qp3 s q.filt;generalize jg s q.filt=C at hQ0 hcl ⊢
 simp only[tZ,↓un_u,simprocAttr,AY,Ak];apply mid
 ·intro hmain;refine⟨fun h1=>?_,fun h1=>?_⟩
  ·rw[Aj h1] at hQ0;refine C1.im (qI5 s hs hL q.event) (by rfl) (by rfl) ?_;have hel:=qp3 s q.event;generalize jg s q.event=V at hQ0 hel ⊢
   refine sW ?_;refine qu mixm (α:=Nat) [5,7,20] (fun i=>i≤V.length) (fun i=>[(5,vPs (Qf C (V.take i))),(7,vI i)]) (fun i=>[(4096,.arr 2 [schT s] false),(4100,.arr 17 [qstT q] false)]) (fun i=>V.length-i) 0 (by omega) ?_ fun i hi=>?_
   ·exact .oA [(4096,some 4096),(4100,some 4100)] []
   have hrl:=qp2 (V.take i) C;rw[Cz] at hrl;refine sD ?_;refine⟨fun h3=>?_,fun h3=>?_⟩
   ·have hi2:i<V.length:=by omega
    have hwi:=qj (i:=i) (by omega);simp only[tZ,↓un_u,simprocAttr,Ax,qe hi2];refine⟨by omega,by omega,?_⟩;refine C1.im (QY (Qf C (V.take i)) V[i].col V[i].lev (by omega)) (by rfl) (by rfl) ?_;simp only[tZ,↓un_u,simprocAttr,hwi];refine⟨by kernel_rfl,i+1,by omega,by omega,?_⟩;rw[qH hi2,zw8];exact .oA [(4096,some 4096),(4100,some 4100)] []
   ·have hil:i=V.length:=by omega
    subst hil;rw[Bw,← hQ0];exact hmain
  ·rw[Aq h1] at hQ0;rw[← hQ0];exact hmain
 ·clear hQ0;refine qu mixm (α:=Nat) [5,8] (fun i=>i≤q.dims.length) (fun i=>[(5,vPs ((q.dims.take i).foldl (fun l p=>Kr l p.col (jQ s p.col p.lev)) A)),(8,vI i)]) (fun i=>[(4096,.arr 2 [schT s] false),(4100,.arr 17 [qstT q] false)]) (fun i=>q.dims.length-i) 0 (by omega) ?_ fun i hi=>?_
  ·exact .oA [(4096,some 4096),(4100,some 4100)] []
  have hrl:=qr5 s (q.dims.take i) A;rw[Cz] at hrl;refine sD ?_;refine⟨fun h3=>?_,fun h3=>?_⟩
  ·have hi2:i<q.dims.length:=by omega
   have hwi:=qj (i:=i) (by omega);simp only[tZ,↓un_u,simprocAttr,Ax,qe hi2];refine⟨by omega,by omega,by omega,?_⟩;refine C1.im (qI1 s hs q.dims[i].col q.dims[i].lev) (by rfl) (by rfl) ?_;refine sW ?_;refine C1.im (QY _ q.dims[i].col (jQ s q.dims[i].col q.dims[i].lev) (by omega)) (by rfl) (by rfl) ?_;simp only[tZ,↓un_u,simprocAttr,hwi];refine⟨by kernel_rfl,i+1,by omega,by omega,?_⟩;rw[qH hi2,Gx];simp only[Dw,List.foldl_nil];exact .oA [(4096,some 4096),(4100,some 4100)] []
  ·have hil:i=q.dims.length:=by omega
   subst hil;rw[Bw];have hB:=qr5 s q.dims A;generalize q.dims.foldl (fun l p=>Kr l p.col (jQ s p.col p.lev)) A=B at hB ⊢
   refine qu mixm (α:=Nat) [5,9] (fun i=>i≤s.cols.length-1) (fun i=>[(5,vPs ((List.range i).foldl (QV s q) B)),(9,vI ((i+1:Nat):Int))]) (fun i=>[(4096,.arr 2 [schT s] false),(4100,.arr 17 [qstT q] false)]) (fun i=>s.cols.length-1-i) 0 (by omega) ?_ fun i hi=>?_
   ·exact .oA [(4096,some 4096),(4100,some 4100)] []
   have hrl:=qP9 s q (List.range i) B;rw[List.length_range] at hrl;have hsu:(List.range (i+1)).foldl (QV s q) B=QV s q ((List.range i).foldl (QV s q) B) i:=by rw[List.range_succ,Gx];rfl
   have hwi:=qj (i:=i+1) (by omega);have hU:=zT7 q ((i+1:Nat):Int) (by omega);refine sD ?_;refine⟨fun h3=>?_,fun h3=>?_⟩
   ·refine C1.im hU (by rfl) (by rfl) ?_;refine sW ?_;refine⟨fun h4=>?_,fun h4=>?_⟩
    ·have hsu:(List.range (i+1)).foldl (QV s q) B=Kr ((List.range i).foldl (QV s q) B) ((i+1:Nat):Int) (jQ s ((i+1:Nat):Int) (finI s ((i+1:Nat):Int))):=by
      rw[hsu,QV];exact Aj h4
     refine C1.im (yl s hs ((i+1:Nat):Int)) (by rfl) (by rfl) ?_;refine sW ?_;refine C1.im (qI1 s hs ((i+1:Nat):Int) (finI s ((i+1:Nat):Int))) (by rfl) (by rfl) ?_;refine sW ?_;refine C1.im (QY _ ((i+1:Nat):Int) (jQ s ((i+1:Nat):Int) (finI s ((i+1:Nat):Int))) (by omega)) (by rfl) (by rfl) ?_;simp only[tZ,↓un_u,simprocAttr,hwi];refine⟨by kernel_rfl,i+1,by omega,by omega,?_⟩;rw[hsu];exact .oA [(4096,some 4096),(4100,some 4100)] []
    ·have hsu:(List.range (i+1)).foldl (QV s q) B=(List.range i).foldl (QV s q) B:=by
      rw[hsu,QV];exact Aq (by show ¬ jr9 q ((i+1:Nat):Int)=true;rw[h4];simp)
     simp only[tZ,↓un_u,simprocAttr,hwi];refine⟨i+1,by omega,by omega,?_⟩;rw[hsu];exact .oA [(4096,some 4096),(4100,some 4100)] []
   ·have hil:i=s.cols.length-1:=by omega
    subst hil;exact .oA [] []
def zF5 (s:Sch):List Pk→Qst→List Pk:=fun l q=>Qf l (yS s q)
theorem zi8 (s:Sch):∀ (m:List Qst) (l:List Pk),(m.foldl (zF5 s) l).length≤l.length+100*m.length
 | [],l=>BZ _
 | q::m,l=>by
   have h1:=zi8 s m (zF5 s l q);have h2:=qp2 (yS s q) l;have h3:=zi7 s q;rw[Dw,CJ];unfold zF5 at h1 ⊢
   omega
theorem zT8 (s:Sch) (d:Dcl):(ZP s d).length≤800:=by
 unfold ZP;split
 ·simp
 ·rename_i h;have hd:=qP3 (AQ h);have:=zi8 s d.qs [];simp only[Cw] at this;unfold zF5 at this;omega
theorem zT9 (s:Sch) (hs:yg s) (hL:0<s.lists.length) (d:Dcl):Spc Tryz.prog qk9 [schT s,dclT d] [] (.tup [vPs (ZP s d),vI (dclE s d)]) []:=by
 refine qd zA2 mixm (by simp) fun e _ hst=>qg ?_;unfold qd7;refine sW ?_;refine C1.im (qI6 s hs hL d) (by rfl) (by rfl) ?_;simp only[tZ,↓un_u,simprocAttr,Bj,Aw];refine⟨fun h=>?_,fun h=>?_⟩
 ·rw[ZP,Aj h];exact .oA [] []
 obtain⟨hE,_,_,_,_,hq1,hq2,_⟩:=qP3 h;have hP:ZP s d=d.qs.foldl (zF5 s) []:=by rw[ZP,Aq (by rw[h];simp)];rfl
 rw[hP,h];refine qu mixm (α:=Nat) [7,8,6] (fun i=>i≤d.qs.length) (fun i=>[(7,vPs ((d.qs.take i).foldl (zF5 s) [])),(8,vI i)]) (fun i=>[(4096,.arr 2 [schT s] false),(4100,.arr 12 [dclT d] false)]) (fun i=>d.qs.length-i) 0 (by omega) ?_ fun i hi=>?_
 ·exact .oA [(4096,some 4096),(4100,some 4100)] []
 have hpl:=zi8 s (d.qs.take i) [];rw[Cz,Cw] at hpl;refine sD ?_;refine⟨fun h3=>?_,fun h3=>?_⟩
 ·have hi2:i<d.qs.length:=by omega
  have hwi:=qj (i:=i) (by omega);have hsu:(d.qs.take (i+1)).foldl (zF5 s) []=Qf ((d.qs.take i).foldl (zF5 s) []) (yS s d.qs[i]):=by rw[qH hi2,Gx];rfl
  simp only[tZ,↓un_u,simprocAttr,Ax,qe hi2];refine⟨by omega,?_⟩;refine C1.im (zF4 s hs hL d.qs[i]) (by rfl) (by rfl) ?_;have hnl:=zi7 s d.qs[i];generalize yS s d.qs[i]=V at hsu hnl ⊢
  generalize (d.qs.take i).foldl (zF5 s) []=C at hsu hpl ⊢
  refine sW ?_;refine⟨by kernel_rfl,?_⟩;refine qu mixm (α:=Nat) [7,10] (fun k=>k≤V.length) (fun k=>[(7,vPs (Qf C (V.take k))),(10,vI k)]) (fun k=>[(4096,.arr 2 [schT s] false),(4100,.arr 12 [dclT d] false)]) (fun k=>V.length-k) 0 (by omega) ?_ fun k hk=>?_
  ·exact .oA [(4096,some 4096),(4100,some 4100)] []
  have hrl:=qp2 (V.take k) C;rw[Cz] at hrl;refine sD ?_;refine⟨fun h4=>?_,fun h4=>?_⟩
  ·have hk2:k<V.length:=by omega
   have hwk:=qj (i:=k) (by omega);simp only[tZ,↓un_u,simprocAttr,Ax,qe hk2];refine⟨by omega,by omega,?_⟩;refine C1.im (QY (Qf C (V.take k)) V[k].col V[k].lev (by omega)) (by rfl) (by rfl) ?_;simp only[tZ,↓un_u,simprocAttr,hwk];refine⟨by kernel_rfl,k+1,by omega,by omega,?_⟩;rw[qH hk2,zw8];exact .oA [(4096,some 4096),(4100,some 4100)] []
  ·have hkl:k=V.length:=by omega
   subst hkl;rw[Bw,← hsu];simp only[tZ,↓un_u,simprocAttr,hwi];refine⟨i+1,by omega,by omega,?_⟩;exact .oA [(4096,some 4096),(4100,some 4100)] []
 ·have hil:i=d.qs.length:=by omega
  subst hil;rw[Bw];exact .oA [] []
end Go.Proofs
namespace Go.Proofs
open Go Go.TL
def hd (r:List Int):Int:=r.getD 0 0
def putS (row:List Int):List (List Int)×Bool→List Int→List (List Int)×Bool:=fun x r=>
 if hd r=hd row then x
 else if hd r>hd row∧x.2=false then (x.1++[row]++[r],true)
 else (x.1++[r],x.2)
def putR (l:List (List Int)) (row:List Int):List (List Int):=
 let x:=l.foldl (putS row) ([],false)
 if x.2 then x.1 else x.1++[row]
def atR (id:Int) (r:List Int):Bool:=decide (0<r.length)&&(hd r==id)
def qX6 (s:Src) (id:Int):Int:=if s.rows.any (atR id)=true then (s.rows.findIdx (atR id):Int) else -1
def asc2 (l:List Int) (i:Nat):Bool:=decide (i=0)||decide (l.getD (i-1) 0<l.getD i 0)
def jI7 (s:Src):Bool:=(List.range s.rows.length).all fun i=>(rowE s.sch (s.rows.getD i [])==0)&&(decide (i=0)||decide (hd (s.rows.getD (i-1) [])<hd (s.rows.getD i [])))
def kb8 (s:Src):Bool:=(List.range s.gone.length).all fun i=>decide (1≤s.gone.getD i 0)&&decide (s.gone.getD i 0≤1048575)&&asc2 s.gone i&&decide (qX6 s (s.gone.getD i 0)<0)
def srcB (s:Src):Bool:=(schE s.sch==0)&&decide (s.rows.length≤200)&&decide (s.gone.length≤300)&&decide (0≤s.ver)&&decide (s.ver≤300)&&jI7 s&&kb8 s
abbrev src0:Src:=⟨⟨[],[]⟩,[],[],0⟩
end Go.Proofs
namespace Go.Proofs
open Go Go.TL
def AscR (l:List (List Int)):Prop:=l.Pairwise fun a b=>hd a<hd b
theorem zU0 {row:List Int}:∀ (l acc:List (List Int)),(∀ r∈l,hd row<hd r)→l.foldl (putS row) (acc,true)=(acc++l,true)
 | [],acc,_=>by simp
 | r::l,acc,h=>by
   have h1:=h r (by simp);have e:putS row (acc,true) r=(acc++[r],true):=by
    unfold putS;rw[Aq (by omega),Aq (by simp)]
   rw[Dw,e,zU0 l _ fun x hx=>h x (CQ _ hx)];simp
theorem qQ0 {row:List Int}:∀ (l acc:List (List Int)),AscR l→l.foldl (putS row) (acc,false) =
 if (l.any fun r=>decide (hd row<hd r))=true then (acc++l.filter (fun r=>decide (hd r<hd row))++row::l.filter (fun r=>decide (hd row<hd r)),true)
 else (acc++l.filter (fun r=>decide (hd r<hd row)),false)
 | [],acc,_=>by simp
 | r::l,acc,h=>by
   obtain⟨h1,h2⟩:=List.pairwise_cons.1 h;rw[Dw];by_cases e1:hd r=hd row
   ·have e:putS row (acc,false) r=(acc,false):=by unfold putS;rw[Aj e1]
    have d1:decide (hd row<hd r)=false:=by simp;omega
    have d2:decide (hd r<hd row)=false:=by simp;omega
    rw[e,qQ0 l acc h2,List.any_cons,List.filter_cons,List.filter_cons,d1,d2];simp
   ·by_cases e2:hd r>hd row
    ·have e:putS row (acc,false) r=(acc++[row]++[r],true):=by unfold putS;rw[Aq e1,Aj ⟨e2,rfl⟩]
     have hall:∀ x∈l,hd row<hd x:=fun x hx=>by have:=h1 x hx;omega
     have d1:decide (hd row<hd r)=true:=by simp;omega
     have d2:decide (hd r<hd row)=false:=by simp;omega
     have f1:l.filter (fun r=>decide (hd row<hd r))=l:=List.filter_eq_self.2 fun x hx=>by simpa using hall x hx
     have f2:l.filter (fun r=>decide (hd r<hd row))=[]:=List.filter_eq_nil_iff.2 fun x hx=>by have:=hall x hx;simp;omega
     rw[e,zU0 l _ hall,List.any_cons,List.filter_cons,List.filter_cons,d1,d2,f1,f2];simp
    ·have e:putS row (acc,false) r=(acc++[r],false):=by
      unfold putS;rw[Aq e1,Aq (fun k=>e2 k.1)]
     have d1:decide (hd row<hd r)=false:=by simp;omega
     have d2:decide (hd r<hd row)=true:=by simp;omega
     rw[e,qQ0 l _ h2,List.any_cons,List.filter_cons,List.filter_cons,d1,d2];simp
theorem jI8 {l:List (List Int)} {row:List Int} (h:AscR l):putR l row=l.filter (fun r=>decide (hd r<hd row))++row::l.filter (fun r=>decide (hd row<hd r)):=by
 unfold putR;rw[qQ0 l [] h];by_cases e:(l.any fun r=>decide (hd row<hd r))=true
 ·rw[Aj e];simp
 ·rw[Aq e];have f1:l.filter (fun r=>decide (hd row<hd r))=[]:=List.filter_eq_nil_iff.2 fun x hx=>by
   intro k;exact e (DJ.2 ⟨x,hx,k⟩)
  rw[f1];simp
theorem zF6 {l:List (List Int)} {row:List Int} (h:AscR l):AscR (putR l row):=by
 rw[jI8 h];unfold AscR;rw[List.pairwise_append];refine⟨h.filter _,List.pairwise_cons.2 ⟨fun x hx=>?_,h.filter _⟩,fun a ha b hb=>?_⟩
 ·have:=(Fz.1 hx).2;simpa using this
 ·have h1:=(Fz.1 ha).2;rcases Ck.1 hb with rfl | hb
  ·simpa using h1
  ·have h2:=(Fz.1 hb).2;simp only[AZ] at h1 h2;omega
theorem zF7 {l:List (List Int)} {row r:List Int} (h:AscR l):r∈putR l row↔r=row∨(r∈l∧hd r≠hd row):=by
 rw[jI8 h,Dz,Ck,Fz,Fz];simp only[AZ];constructor
 ·rintro (⟨a,b⟩ | a | ⟨a,b⟩)
  ·exact .inr ⟨a,by omega⟩
  ·exact .inl a
  ·exact .inr ⟨a,by omega⟩
 ·rintro (a | ⟨a,b⟩)
  ·exact .inr (.inl a)
  ·by_cases c:hd r<hd row
   ·exact .inl ⟨a,c⟩
   ·exact .inr (.inr ⟨a,by omega⟩)
theorem jm9 (l:List (List Int)) (row:List Int):(putR l row).length≤l.length+1:=by
 have key:∀ (l:List (List Int)) (x:List (List Int)×Bool),(l.foldl (putS row) x).1.length+(if (l.foldl (putS row) x).2 then 0 else 1)≤x.1.length+(if x.2 then 0 else 1)+l.length:=by
  intro l
  induction l with
  | nil=>intro x;simp only[List.foldl_nil,Cw,Nat.add_zero];exact BZ _
  | cons r l ih=>
    intro x;have h1:=ih (putS row x r);have h2:(putS row x r).1.length+(if (putS row x r).2 then 0 else 1)≤x.1.length+(if x.2 then 0 else 1)+1:=by
     unfold putS;split
     ·omega
     ·split
      ·rename_i h;rw[h.2];simp
      ·simp;omega
    rw[Dw,CJ];omega
 have:=key l ([],false);unfold putR;simp only[Cw,EZ,if_false] at this;dsimp only;split
 ·rename_i h;rw[h] at this;simp at this;omega
 ·rename_i h;rw[Aq h] at this;rw[AW];simp;omega
end Go.Proofs
namespace Go.Proofs
open Go Go.TL
theorem js1 {α:Type} [Inhabited α] {f:α→Int} {l:List α} (h:∀ i,0<i→i<l.length→f (l.getD (i-1) default)<f (l.getD i default)):l.Pairwise fun a b=>f a<f b:=by
 rw[DX];have key:∀ (d i:Nat) (hj:i+d+1<l.length),f (l[i]'(by omega))<f l[i+d+1]:=by
  intro d
  induction d with
  | zero=>
    intro i hj;have:=h (i+1) (by omega) (by omega);rw[qh (by omega),qh (by omega)] at this;simpa using this
  | succ d ih=>
    intro i hj;have h1:=ih i (by omega);have h2:=h (i+d+1+1) (by omega) (by omega);rw[qh (by omega),qh (by omega)] at h2;simp only[Nat.add_sub_cancel] at h2;have e:i+(d+1)+1=i+d+1+1:=by omega
    simp only[e];omega
 intro i j hi hj hij;have:=key (j-i-1) i (by omega);have e:i+(j-i-1)+1=j:=by omega
 simp only[e] at this;exact this
theorem km7 {α:Type} [Inhabited α] {f:α→Int} {l:List α} (h:l.Pairwise fun a b=>f a<f b) {i:Nat} (h0:0<i) (hi:i<l.length):f (l.getD (i-1) default)<f (l.getD i default):=by
 rw[qh (by omega),qh hi];exact DX.1 h (i-1) i (by omega) hi (by omega)
structure SrcOk (s:Src):Prop where
 sch:schE s.sch=0
 nr:s.rows.length≤200
 ng:s.gone.length≤300
 ver:0≤s.ver∧s.ver≤300
 rows:∀ r∈s.rows,rowE s.sch r=0
 asc:AscR s.rows
 gone:∀ g∈s.gone,1≤g∧g≤1048575∧qX6 s g<0
 gasc:s.gone.Pairwise fun a b=>a<b
theorem QZ {s:Sch} {r:List Int} (h:rowE s r=0):0<r.length:=by
 obtain⟨h1,h2,_⟩:=qg2 h;have:=(qR h1).nc;omega
theorem zU1 {s:Src} {id:Int}:qX6 s id<0↔∀ r∈s.rows,atR id r=false:=by
 unfold qX6;split
 ·rename_i h;obtain⟨r,h1,h2⟩:=DJ.1 h;constructor
  ·intro h3;omega
  ·intro h3;rw[h3 r h1] at h2;cases h2
 ·rename_i h;constructor
  ·intro _ r hr;cases e:atR id r with
   | false=>rfl
   | true=>exact absurd (DJ.2 ⟨r,hr,e⟩) h
  ·intro _;omega
theorem qp4 {s:Src}:srcB s=true↔SrcOk s:=by
 unfold srcB jI7 kb8 asc2;simp only[Bq,AY,AZ,Bk,Dk,DZ];constructor
 ·rintro ⟨⟨⟨⟨⟨⟨h1,h2⟩,h3⟩,h4⟩,h5⟩,h6⟩,h7⟩;refine⟨h1,h2,h3,⟨h4,h5⟩,fun r hr=>?_,?_,fun g hg=>?_,?_⟩
  ·obtain⟨i,hi,rfl⟩:=CX hr;have:=(h6 i hi).1;rw[qh hi] at this;exact this
  ·exact js1 (f:=hd) fun i h0 hi=>((h6 i hi).2.resolve_left (by omega))
  ·obtain⟨i,hi,rfl⟩:=CX hg;obtain⟨⟨⟨a,b⟩,c⟩,d⟩:=h7 i hi;rw[qh hi] at a b d;exact⟨a,b,d⟩
  ·exact js1 (f:=fun x:Int=>x) fun i h0 hi=>((h7 i hi).1.2.resolve_left (by omega))
 ·intro h;refine⟨⟨⟨⟨⟨⟨h.sch,h.nr⟩,h.ng⟩,h.ver.1⟩,h.ver.2⟩,fun i hi=>⟨?_,?_⟩⟩,fun i hi=>⟨⟨⟨?_,?_⟩,?_⟩,?_⟩⟩
  ·rw[qh hi];exact h.rows _ (AX hi)
  ·by_cases e:i=0
   ·exact .inl e
   ·exact .inr (km7 (f:=hd) h.asc (by omega) hi)
  ·rw[qh hi];exact (h.gone _ (AX hi)).1
  ·rw[qh hi];exact (h.gone _ (AX hi)).2.1
  ·by_cases e:i=0
   ·exact .inl e
   ·exact .inr (km7 (f:=fun x:Int=>x) h.gasc (by omega) hi)
  ·rw[qh hi];exact (h.gone _ (AX hi)).2.2
theorem jn0 {s:Sch} {r:List Int} (h:rowE s r=0) (id:Int):atR id r=(hd r==id):=by
 unfold atR;rw[Cx (QZ h),Fq]
theorem jI9 {s:Sch} {r:List Int} (h:rowE s r=0):1≤hd r∧hd r≤1048575:=by
 obtain⟨h1,h2,h3⟩:=qg2 h;have h4:=h3 0 (QZ h);unfold jo at h4;rw[Aj (qR h1).c0] at h4;simp only[inB,Bq,AZ] at h4;exact h4
end Go.Proofs
namespace Go.Proofs
open Go Go.TL
set_option maxHeartbeats 4000000
open So
theorem zZ {r:List Int} (h:0<r.length):(r.map vI).getD 0 .junk=vI (hd r):=by rw[qe h,hd,qh h]
theorem jT8 (row:List Int):∀ (l:List (List Int)) (x:List (List Int)×Bool),(l.foldl (putS row) x).1.length≤x.1.length+l.length+1
 | l,x=>by
   have key:∀ (l:List (List Int)) (x:List (List Int)×Bool),(l.foldl (putS row) x).1.length+(if (l.foldl (putS row) x).2 then 0 else 1)≤x.1.length+(if x.2 then 0 else 1)+l.length:=by
    intro l
    induction l with
    | nil=>intro x;simp only[List.foldl_nil,Cw,Nat.add_zero];exact BZ _
    | cons r l ih=>
      intro x;have h1:=ih (putS row x r);have h2:(putS row x r).1.length+(if (putS row x r).2 then 0 else 1)≤x.1.length+(if x.2 then 0 else 1)+1:=by
       unfold putS;split
       ·omega
       ·split
        ·rename_i h;rw[h.2];simp
        ·simp;omega
      rw[Dw,CJ];omega
   have:=key l x;split at this <;> split at this <;> omega
theorem jb2 (l:List (List Int)) (row:List Int) (hl:l.length<1000000000) (hr:∀ r∈l,0<r.length) (h0:0<row.length):Spc Tryz.prog qx4 [vRw l,vIs row] [] (vRw (putR l row)) []:=by
 have hP:putR l row=if (l.foldl (putS row) ([],false)).2 then (l.foldl (putS row) ([],false)).1 else (l.foldl (putS row) ([],false)).1++[row]:=rfl
 have hS:=fun i=>jT8 row (l.take i) ([],false);have hg0:=zZ h0;refine qd zR0 mixm (by simp) fun e _ hst=>qg ?_;unfold qm6;refine sW ?_;refine qu mixm (α:=Nat×List (List Int)×Bool) [5,6,7] (fun x=>x.1≤l.length∧x.2=(l.take x.1).foldl (putS row) ([],false)) (fun x=>[(5,.asl 1 x.2.1.length),(6,vB x.2.2),(7,vI x.1)]) (fun x=>[(1,.arr 1 (x.2.1.map vIs) false)]) (fun x=>l.length-x.1) (0,[],false) ⟨by simp,by simp⟩ ?_ fun x hx=>?_
 ·exact .oA [(1,none)] []
 obtain⟨i,a,b⟩:=x;obtain⟨x1,x2⟩:=hx;dsimp only at x1 x2;have hSi:=hS i;rw[← x2] at hSi;simp only[Cw,Cz] at hSi;refine sD ?_;refine⟨fun h=>?_,fun h=>?_⟩
 ·have hi2:i<l.length:=by omega
  have hwi:=qj (i:=i) (by omega);have hs:(l.take (i+1)).foldl (putS row) ([],false)=putS row (a,b) l[i]:=by rw[qH hi2,Gx,← x2];rfl
  have hrp:=hr _ (AX hi2);have hgi:=zZ hrp;have hr2:putS row (a,b) l[i]=if hd l[i]=hd row then (a,b) else if hd l[i]>hd row∧b=false then (a++[row]++[l[i]],true) else (a++[l[i]],b):=rfl
  rw[hr2] at hs;simp only[tZ,↓un_u,simprocAttr,Ax,qe hi2,hgi,hg0,tD,AY,Ak,Bx,Bz,hwi];refine⟨by omega,by omega,by omega,by kernel_rfl,fun h2=>?_,fun h2=>⟨by omega,by omega,by omega,by kernel_rfl,fun h3=>?_,fun h3=>?_⟩⟩
  ·rw[Aj h2] at hs;refine⟨(i+1,a,b),⟨by dsimp only;omega,hs.symm⟩,by dsimp only;omega,?_⟩;exact .oA [(1,some 1)] []
  ·rw[Aq h2,Aj h3] at hs;refine⟨by omega,by omega,by omega,(i+1,a++[row]++[l[i]],true),⟨by dsimp only;omega,hs.symm⟩,by dsimp only;omega,?_⟩;exact .oA [(1,some 1)] []
  ·rw[Aq h2,Aq (by grind)] at hs;refine⟨by omega,by omega,(i+1,a++[l[i]],b),⟨by dsimp only;omega,hs.symm⟩,by dsimp only;omega,?_⟩;exact .oA [(1,some 1)] []
 ·have hil:i=l.length:=by omega
  subst hil;rw[Bw] at x2;rw[← x2] at hP;dsimp only at hP;simp only[tZ,↓un_u,simprocAttr,Bx,Bz];refine⟨fun h2=>?_,fun h2=>?_⟩
  ·rw[hP,h2,Aq (by simp)];refine⟨by omega,?_⟩;show Zi [] _ _ (.sl 1 ((a++[row]).map vIs)) [];rw[By];exact .oA [] [1]
  ·rw[hP,Aj h2];exact .oA [] [1]
theorem zU2 (s:Src) (id:Int) (hl:s.rows.length<4611686018427387904):Spc Tryz.prog ql1 [srcT s,vI id] [] (vI (qX6 s id)) []:=by
 refine qd zB0 mixm (by simp) fun e _ hst=>qg ?_;unfold qe1;refine sW ?_;refine qu mixm (α:=Nat) [5] (fun i=>i≤s.rows.length∧(s.rows.take i).any (atR id)=false) (fun i=>[(5,vI i)]) (fun i=>[(4096,.arr 5 [srcT s] false)]) (fun i=>s.rows.length-i) 0 ⟨by omega,rfl⟩ ?_ fun i hi=>?_
 ·exact .oA [(4096,some 4096)] []
 refine sD ?_;refine⟨fun h=>?_,fun h=>?_⟩
 ·have hi2:i<s.rows.length:=by omega
  have hwi:=qj (i:=i) (by omega);have hno:atR id s.rows[i]=false→∃ y,(y≤s.rows.length∧(s.rows.take y).any (atR id)=false)∧s.rows.length-y<s.rows.length-i∧Le e ⟨[(1,vI id),(2,.ptr 4096 1 0 0),(5,vI ((i+1:Nat):Int))],[(4096,.arr 5 [srcT s] false)]⟩ ⟨[(5,vI y),(1,vI id),(2,.ptr 4096 1 0 0)],[(4096,.arr 5 [srcT s] false)]⟩:=fun h3=>by
   refine⟨i+1,⟨by omega,ki hi2 hi.2 h3⟩,by omega,?_⟩;exact .oA [(4096,some 4096)] []
  have hat:atR id s.rows[i]=(decide (0<s.rows[i].length)&&(hd s.rows[i]==id)):=rfl;rcases DQ s.rows[i].length with h0 | h0
  ·have e0:decide ((s.rows[i].length:Int)>0)=false:=Cq (by omega);have hgj:(s.rows[i].map vI).getD 0 .junk = .junk:=WQ (by omega);simp only[tZ,↓un_u,simprocAttr,Ax,qe hi2,e0,hgj,hwi];exact⟨by omega,hno (by rw[hat,Cq (by omega)];rfl)⟩
  ·have e0:decide ((s.rows[i].length:Int)>0)=true:=Cx (by omega);rw[Cx h0,Fq] at hat;simp only[tZ,↓un_u,simprocAttr,Ax,qe hi2,e0,zZ h0,hwi];refine⟨by omega,by omega,by omega,fun h3=>?_,fun h3=>hno (by rw[hat];exact h3)⟩;rw[qX6,Aj (zw2 hi2 (by rw[hat];exact h3)),yX hi2 hi.2 (by rw[hat];exact h3)];exact .oA [] []
 ·have hil:i=s.rows.length:=by omega
  subst hil;have h2:=hi.2;rw[Bw] at h2;rw[qX6,Aq (by rw[h2];simp)];exact .oA [] []
def jb3 (s:Src):Prop:=yg s.sch∧∀ r∈s.rows,r.length<4611686018427387904
def rowP (s:Src) (i:Nat):Bool:=(rowE s.sch (s.rows.getD i [])==0)&&(decide (i=0)||decide (hd (s.rows.getD (i-1) [])<hd (s.rows.getD i [])))
def zU3 (s:Src) (i:Nat):Bool:=decide (1≤s.gone.getD i 0)&&decide (s.gone.getD i 0≤1048575)&&asc2 s.gone i&&decide (qX6 s (s.gone.getD i 0)<0)
theorem zF8 (s:Src) (hs:jb3 s):Spc Tryz.prog qc4 [srcT s] [] (vB (srcB s)) []:=by
 obtain⟨hs1,hs2⟩:=hs;have hB:srcB s=((schE s.sch==0)&&decide (s.rows.length≤200)&&decide (s.gone.length≤300)&&decide (0≤s.ver)&&decide (s.ver≤300)&&(List.range s.rows.length).all (rowP s)&&(List.range s.gone.length).all (zU3 s)):=rfl;refine qd zn0 mixm (by simp) fun e _ hst=>qg ?_;unfold Yh;refine sW ?_;refine C1.im (kF s.sch hs1) (by rfl) (by rfl) ?_;simp only[tZ,↓un_u,simprocAttr,tD,Bj,Aw];refine⟨fun h=>?_,fun h=>?_⟩
 ·rw[show srcB s=false by rw[hB];grind];exact .oA [] []
 have hB2:srcB s=((List.range s.rows.length).all (rowP s)&&(List.range s.gone.length).all (zU3 s)):=by rw[hB];grind
 clear hB;refine qu mixm (α:=Nat) [3,30] (fun i=>i≤s.rows.length∧(List.range i).all (rowP s)=true) (fun i=>[(3,vI i)]) (fun i=>[(4096,.arr 5 [srcT s] false)]) (fun i=>s.rows.length-i) 0 ⟨by omega,rfl⟩ ?_ fun i hi=>?_
 ·exact .oA [(4096,some 4096)] []
 obtain⟨i1,i2⟩:=hi;refine sD ?_;refine⟨fun h2=>?_,fun h2=>?_⟩
 ·have hi2:i<s.rows.length:=by omega
  have hwi:=qj (i:=i) (by omega);have hpi:s.rows.getD i []=s.rows[i]:=qh hi2;have hbad:rowP s i=false→srcB s=false:=fun k=>by rw[hB2,jm6 hi2 k];rfl
  have hgd:rowP s i=true→(List.range (i+1)).all (rowP s)=true:=fun k=>by rw[qI0,i2,k];rfl
  have hP:rowP s i=((rowE s.sch s.rows[i]==0)&&(decide (i=0)||decide (hd (s.rows.getD (i-1) [])<hd s.rows[i]))):=by rw[rowP,hpi]
  simp only[tZ,↓un_u,simprocAttr,Ax,qe hi2];refine⟨by omega,?_⟩;refine C1.im (zh6 s.sch hs1 s.rows[i] (hs2 _ (AX hi2))) (by rfl) (by rfl) ?_;by_cases hR:rowE s.sch s.rows[i]=0
  case neg=>
   have e0:(rowE s.sch s.rows[i] != 0)=true:=Bj.2 hR;rw[hbad (by rw[hP,Ak.2 hR];rfl)];rcases DQ i with hi0 | hi0
   ·subst hi0;have hz:((0:Nat):Int)=0:=rfl;have hz2:(IntKind.i64.wrap (-1)).toNat=0:=by decide
    rcases DQ s.rows[0].length with h0 | h0
    ·have hgj:(s.rows[0].map vI).getD 0 .junk = .junk:=WQ (by omega);simp only[tZ,↓un_u,simprocAttr,e0,Ax,hz,beq_self_eq_true,gt_iff_lt,Int.lt_irrefl,Fq,hz2,qe hi2,hgj];refine⟨by kernel_rfl,?_⟩;exact .oA [] []
    ·simp only[tZ,↓un_u,simprocAttr,e0,Ax,hz,beq_self_eq_true,gt_iff_lt,Int.lt_irrefl,Fq,hz2,qe hi2,zZ h0];refine⟨by kernel_rfl,?_⟩;exact .oA [] []
   ·obtain⟨k,rfl⟩:∃ k,i=k+1:=⟨i-1,by omega⟩;have hk3:k<s.rows.length:=by omega
    have e2:decide (((k+1:Nat):Int)>0)=true:=Cx (by omega);have e3:=jp (i:=k+1) (by omega) (by omega);rw[Nat.add_sub_cancel] at e3;have hkp:0<s.rows[k].length:=by
     have:=Bk.1 i2 k (Dk.2 (by omega));rw[rowP,qh hk3,Bq,AY] at this;exact QZ this.1
    rcases DQ s.rows[k+1].length with h0 | h0
    ·have hgj:(s.rows[k+1].map vI).getD 0 .junk = .junk:=WQ (by omega);simp only[tZ,↓un_u,simprocAttr,e0,Ax,qe hi2,qe hk3,e2,e3,hgj,zZ hkp];refine⟨by kernel_rfl,?_⟩;exact .oA [] []
    ·simp only[tZ,↓un_u,simprocAttr,e0,Ax,qe hi2,qe hk3,e2,e3,zZ h0,zZ hkp];refine⟨by kernel_rfl,?_⟩;exact .oA [] []
  have e0:(rowE s.sch s.rows[i] != 0)=false:=Aw.2 hR;rw[AY.2 hR,Fq] at hP;have hrp:=QZ hR;rcases DQ i with hi0 | hi0
  ·subst hi0;have hz:((0:Nat):Int)=0:=rfl;have hz2:(IntKind.i64.wrap (-1)).toNat=0:=by decide
   have hz3:=qj (i:=0) (by omega);rw[hz] at hz3;simp only[tZ,↓un_u,simprocAttr,e0,Ax,hz,beq_self_eq_true,gt_iff_lt,Int.lt_irrefl,Fq,hz2,qe hi2,hz3,zZ hrp];refine⟨by kernel_rfl,1,⟨by omega,hgd (by rw[hP];rfl)⟩,by omega,?_⟩;exact .oA [(4096,some 4096)] []
  ·obtain⟨k,rfl⟩:∃ k,i=k+1:=⟨i-1,by omega⟩;have hk3:k<s.rows.length:=by omega
   have e2:decide (((k+1:Nat):Int)>0)=true:=Cx (by omega);have e3:=jp (i:=k+1) (by omega) (by omega);rw[Nat.add_sub_cancel] at e3 hP;rw[qh hk3,Cq (by omega),Bool.false_or] at hP;have hkp:0<s.rows[k].length:=by
    have:=Bk.1 i2 k (Dk.2 (by omega));rw[rowP,qh hk3,Bq,AY] at this;exact QZ this.1
   simp only[tZ,↓un_u,simprocAttr,e0,Ax,qe hi2,qe hk3,e2,e3,hwi,zZ hrp,zZ hkp,tD];refine⟨by omega,by omega,by omega,by omega,by kernel_rfl,fun h4=>?_,fun h4=>?_⟩
   ·rw[hbad (by rw[hP];exact Cq (by omega))];exact .oA [] []
   ·refine⟨k+2,⟨by omega,hgd (by rw[hP];exact Cx (by omega))⟩,by omega,?_⟩;exact .oA [(4096,some 4096)] []
 ·have hil:i=s.rows.length:=by omega
  subst hil;rw[i2,Fq] at hB2;have hrl:s.rows.length<4611686018427387904:=by omega
  refine qu mixm (α:=Nat) [4] (fun i=>i≤s.gone.length∧(List.range i).all (zU3 s)=true) (fun i=>[(4,vI i)]) (fun i=>[(4096,.arr 5 [srcT s] false)]) (fun i=>s.gone.length-i) 0 ⟨by omega,rfl⟩ ?_ fun i hi=>?_
  ·exact .oA [(4096,some 4096)] []
  obtain⟨j1,j2⟩:=hi;refine sD ?_;refine⟨fun h2=>?_,fun h2=>?_⟩
  ·have hi2:i<s.gone.length:=by omega
   have hwi:=qj (i:=i) (by omega);have hpi:s.gone.getD i 0=s.gone[i]:=qh hi2;have hbad:zU3 s i=false→srcB s=false:=fun k=>by rw[hB2,jm6 hi2 k]
   have hgd:zU3 s i=true→(List.range (i+1)).all (zU3 s)=true:=fun k=>by rw[qI0,j2,k];rfl
   have hP:zU3 s i=(decide (1≤s.gone[i])&&decide (s.gone[i]≤1048575)&&asc2 s.gone i&&decide (qX6 s s.gone[i]<0)):=by rw[zU3,hpi]
   have hF:=zU2 s s.gone[i] hrl;rcases DQ i with hi0 | hi0
   ·subst hi0;have hz:((0:Nat):Int)=0:=rfl;have hz2:(IntKind.i64.wrap (-1)).toNat=0:=by decide
    have hz3:=qj (i:=0) (by omega);rw[hz] at hz3;have hA:asc2 s.gone 0=true:=rfl;rw[hA,Bool.and_true] at hP;simp only[tZ,↓un_u,simprocAttr,Ax,hz,beq_self_eq_true,gt_iff_lt,Int.lt_irrefl,Fq,hz2,qe hi2,hz3,Bool.or_false];refine⟨by omega,fun _=>by omega,fun _=>by omega,?_⟩;refine C2.im (fun _=>hF) (fun _=>rfl) (by rfl) ?_;simp only[tZ,↓un_u,simprocAttr,tD,hz3];refine⟨by kernel_rfl,fun h4=>?_,fun h4=>?_⟩
    ·rw[hbad (by rw[hP];grind)];exact .oA [] []
    ·refine⟨1,⟨by omega,hgd (by rw[hP];grind)⟩,by omega,?_⟩;exact .oA [(4096,some 4096)] []
   ·obtain⟨k,rfl⟩:∃ k,i=k+1:=⟨i-1,by omega⟩;have hk3:k<s.gone.length:=by omega
    have e2:decide (((k+1:Nat):Int)>0)=true:=Cx (by omega);have e3:=jp (i:=k+1) (by omega) (by omega);rw[Nat.add_sub_cancel] at e3;have hA:asc2 s.gone (k+1)=decide (s.gone[k]<s.gone[k+1]):=by
     rw[asc2,Nat.add_sub_cancel,qh hk3,hpi,Cq (by omega)];rfl
    rw[hA] at hP;simp only[tZ,↓un_u,simprocAttr,Ax,qe hi2,qe hk3,e2,e3];refine⟨by omega,fun _=>by omega,fun _=>by omega,fun _=>by omega,fun _=>by omega,?_⟩;refine C2.im (fun _=>hF) (fun _=>rfl) (by rfl) ?_;simp only[tZ,↓un_u,simprocAttr,tD,hwi];refine⟨by kernel_rfl,fun h4=>?_,fun h4=>?_⟩
    ·rw[hbad (by rw[hP];grind)];exact .oA [] []
    ·refine⟨k+2,⟨by omega,hgd (by rw[hP];grind)⟩,by omega,?_⟩;exact .oA [(4096,some 4096)] []
  ·have hil:i=s.gone.length:=by omega
   subst hil;rw[hB2,j2];exact .oA [] []
end Go.Proofs
namespace Go.Proofs
open Go Go.TL
set_option maxHeartbeats 4000000
open So
theorem SrcOk.rowp {s:Src} (h:SrcOk s):∀ r∈s.rows,0<r.length:=fun r hr=>QZ (h.rows r hr)
end Go.Proofs
namespace Go.Proofs
open Go Go.TL
set_option maxRecDepth 4000
def mixA (h:Int):Int:=IntKind.u64.wrap (xorI .u64 h (shrI .u64 h 31)*13787848793156543929)
def mix0 (s r x:Int):Int:=IntKind.u64.wrap (IntKind.u64.wrap (IntKind.u64.wrap s+IntKind.u64.wrap (IntKind.u64.wrap r*11400714819323198485))+IntKind.u64.wrap (IntKind.u64.wrap x*14029467366897019727))
def iter {α:Type} (f:α→α):Nat→α→α
 | 0,x=>x
 | n+1,x=>f (iter f n x)
def mixI (s r x:Int):Int:=IntKind.i64.wrap (shrI .u64 (iter mixA 3 (mix0 s r x)) 54)
def fwd (s:Int):Nat→Int×Int→Int×Int
 | 0,p=>p
 | r+1,p=>((fwd s r p).2,xorI .i64 (fwd s r p).1 (mixI s r (fwd s r p).2))
def bwd (s:Int):Nat→Int×Int→Int×Int
 | 0,p=>p
 | r+1,p=>bwd s r (xorI .i64 p.2 (mixI s r p.1),p.1)
def JV (s n:Int):Bool:=decide (0≤s)&&decide (s<1152921504606846976)&&decide (0≤n)&&decide (n<1048576)
def tie (p:Int×Int):Int:=p.1*1024+p.2
def cut (n:Int):Int×Int:=(n / 1024,n % 1024)
def keyI (s n:Int):Int:=if JV s n=true then tie (fwd s 8 (cut n)) else -1
def idI (s n:Int):Int:=if JV s n=true then tie (bwd s 8 (cut n)) else -1
theorem bits_nat {n:Int} (h0:0≤n):BitVec.ofInt 64 n=BitVec.ofNat 64 n.toNat:=by
 apply BitVec.eq_of_toNat_eq
 simp [BitVec.toNat_ofInt];omega
theorem jb4 {a b:Int} (ha:0≤a∧a<9223372036854775808) (hb:0≤b∧b<9223372036854775808):xorI .i64 a b=((a.toNat ^^^ b.toNat:Nat):Int):=by
 have h1:a.toNat<2 ^ 63:=by omega
 have h2:b.toNat<2 ^ 63:=by omega
 have h3:=Nat.xor_lt_two_pow h1 h2;unfold xorI;rw[show IntKind.i64.bits=64 from rfl,bits_nat ha.1,bits_nat hb.1,BitVec.toNat_xor,BitVec.toNat_ofNat,BitVec.toNat_ofNat,Nat.mod_eq_of_lt (by omega),Nat.mod_eq_of_lt (by omega)];exact AK _ (by omega)
theorem zU4 {a b:Int} (ha:0≤a∧a<1024) (hb:0≤b∧b<1024):0≤xorI .i64 a b∧xorI .i64 a b<1024:=by
 have h1:a.toNat<2 ^ 10:=by omega
 have h2:b.toNat<2 ^ 10:=by omega
 have h3:=Nat.xor_lt_two_pow h1 h2;rw[jb4 (by omega) (by omega)];omega
theorem kg3 {a b:Int} (ha:0≤a∧a<1024) (hb:0≤b∧b<1024):xorI .i64 (xorI .i64 a b) b=a:=by
 have:=zU4 ha hb;rw[jb4 (by omega) (by omega),jb4 (by omega) (by omega)];simp only[Ax,Nat.xor_assoc,Nat.xor_self,Nat.xor_zero];omega
theorem zU5 (s r x:Int):0≤mixI s r x∧mixI s r x<1024:=by
 unfold mixI;have h:∀ n,0≤iter mixA 3 n∧iter mixA 3 n<18446744073709551616:=by
  intro n;simp only[iter];unfold mixA;rw[IntKind.wrap_u64];omega
 have:=h (mix0 s r x);have h1:shrI .u64 (iter mixA 3 (mix0 s r x)) 54=(iter mixA 3 (mix0 s r x)) / 18014398509481984:=by
  unfold shrI;rw[DW _ (by decide)]
  rfl
 rw[h1];rw[AK _ (by omega)];omega
theorem Wq {s:Int} {p:Int×Int} (h:(0≤p.1∧p.1<1024)∧0≤p.2∧p.2<1024):∀ r,(0≤(fwd s r p).1∧(fwd s r p).1<1024)∧0≤(fwd s r p).2∧(fwd s r p).2<1024
 | 0=>h
 | r+1=>⟨(Wq h r).2,zU4 (Wq h r).1 (zU5 _ _ _)⟩
theorem jJ0 {s:Int} {p:Int×Int} (h:(0≤p.1∧p.1<1024)∧0≤p.2∧p.2<1024):∀ r,bwd s r (fwd s r p)=p
 | 0=>rfl
 | r+1=>by
   simp only[bwd,fwd];rw[kg3 (Wq h r).1 (zU5 _ _ _)];exact jJ0 h r
theorem qp5 {n:Int} (h:0≤n∧n<1048576):(0≤(cut n).1∧(cut n).1<1024)∧0≤(cut n).2∧(cut n).2<1024:=by
 simp only[cut];omega
theorem kg4 {p:Int×Int} (h:(0≤p.1∧p.1<1024)∧0≤p.2∧p.2<1024):cut (tie p)=p:=by
 obtain⟨a,b⟩:=p;simp only[cut,tie] at *
 congr 1 <;> omega
theorem kg5 (n:Int):tie (cut n)=n:=by simp only[cut,tie];omega
theorem zU6 {p:Int×Int} (h:(0≤p.1∧p.1<1024)∧0≤p.2∧p.2<1024):0≤tie p∧tie p<1048576:=by
 simp only[tie];omega
theorem qQ1 (a b:Int):Spc Tryz.prog Zt [vI a,vI b] [] (vB (JV a b)) []:=by
 refine qd qG2 mixm (by simp) fun e hn hst=>qg ?_;unfold QM;refine sW ?_;exact .imR rfl rfl
theorem zi9 (a b c:Int):Spc Tryz.prog KJ [vI a,vI b,vI c] [] (vI (mixI a b c)) []:=by
 refine qd qV5 mixm (by simp) fun e hn hst=>qg ?_;unfold JD;refine sW ?_;refine zO8 mixm (α:=Nat) (fun i=>i≤3) (fun i=>[(7,vU64 (iter mixA i (mix0 a b c))),(18,vI i)]) (fun _=>[]) (fun i=>3-i) 0 (by omega) (.ofFr (by simp [qs4,TL.get,iter,mix0])) fun i hi=>?_;simp only[tZ,↓un_u,simprocAttr,AZ,Ay];refine⟨fun h=>⟨i+1,by omega,by omega,.ofFr ?_⟩,fun h=>?_⟩
 ·simp [qs4,TL.get,iter,mixA];exact AK _ (by omega)
 ·have:i=3:=by omega
  subst this;exact .imR rfl rfl
theorem qp6 (s n:Int):Spc Tryz.prog Qo [vI s,vI n] [] (vI (keyI s n)) []:=by
 refine qd qU7 mixm (by simp) fun e hn hst=>qg ?_;unfold Jz;refine sW ?_;refine C1.im (qQ1 s n) rfl rfl ?_;simp only[tZ,↓un_u,simprocAttr,Bz];refine⟨fun h=>.imR (by simp [keyI,h]) rfl,fun h=>?_⟩;have hn:0≤n∧n<1048576:=by simp [JV] at h;omega
 rw[Int.tdiv_eq_ediv_of_nonneg hn.1,Int.tmod_eq_emod_of_nonneg hn.1,AK _ (by omega)];have hr:=Wq (s:=s) (qp5 hn);refine zO8 mixm (α:=Nat) (fun i=>i≤8) (fun i=>[(0,vI s),(5,vI (fwd s i (cut n)).1),(6,vI (fwd s i (cut n)).2),(16,vI i)]) (fun _=>[]) (fun i=>8-i) 0 (by omega) (.ofFr (by simp [qs4,TL.get,fwd,cut])) fun i hi=>?_;simp only[tZ,↓un_u,simprocAttr,AZ,Ay];refine⟨fun h=>?_,fun h=>?_⟩
 ·refine C1.im (zi9 s i _) rfl rfl ?_;refine sW ?_;refine⟨i+1,by omega,by omega,.ofFr ?_⟩;simp [qs4,TL.get,fwd];exact AK _ (by omega)
 ·have:i=8:=by omega
  subst this;have:=hr 8;refine .imR ?_ rfl;rw[AK _ (by rw[AK _ (by omega)];omega),AK _ (by omega)];simp [keyI,h,tie, *]
theorem zF9 (a b:Int):Spc Tryz.prog qc6 [vI a,vI b] [] (vB (JV a b)) []:=by
 refine qd zn6 mixm (by simp) fun e hn hst=>qg ?_;unfold Yk;refine sW ?_;exact .imR rfl rfl
def zU7 (s r x:Int):Int:=if s<0∨1152921504606846976≤s∨r<0∨8≤r∨x<0∨1024≤x then 0 else mixI s r x
theorem zG0 (a b c:Int):Spc Tryz.prog qc7 [vI a,vI b,vI c] [] (vI (zU7 a b c)) []:=by
 refine qd zn8 mixm (by simp) fun e hn hst=>qg ?_;unfold Yl;simp only[tZ,↓un_u,simprocAttr,DZ,FX,AZ,Ay];refine⟨fun h=>.imR ?_ rfl,fun h=>?_⟩
 ·rw[zU7,Aj (by omega)]
 ·refine zO8 mixm (α:=Nat) (fun i=>i≤3) (fun i=>[(7,vU64 (iter mixA i (mix0 a b c))),(8,vI i)]) (fun _=>[]) (fun i=>3-i) 0 (by omega) (.ofFr (by simp [qs4,TL.get,iter,mix0])) fun i hi=>?_;simp only[tZ,↓un_u,simprocAttr,AZ,Ay];refine⟨fun h=>⟨i+1,by omega,by omega,.ofFr ?_⟩,fun h=>?_⟩
  ·simp [qs4,TL.get,iter,mixA];exact AK _ (by omega)
  ·have:i=3:=by omega
   subst this;refine .imR ?_ rfl;rw[zU7,Aq (by omega)]
   rfl
theorem jT9 {s n x:Int} {r:Nat} (h:JV s n=true) (hr:r<8) (hx:0≤x∧x<1024):zU7 s r x=mixI s r x:=by
 simp [JV] at h;rw[zU7,Aq (by omega)]
theorem jb5 (s n:Int):Spc Tryz.prog qx3 [vI s,vI n] [] (vI (keyI s n)) []:=by
 refine qd zQ8 mixm (by simp) fun e hn hst=>qg ?_;unfold qm5;refine sW ?_;refine C1.im (zF9 s n) rfl rfl ?_;simp only[tZ,↓un_u,simprocAttr,Bz];refine⟨fun h=>.imR (by simp [keyI,h]) rfl,fun h=>?_⟩;have hn:0≤n∧n<1048576:=by simp [JV] at h;omega
 rw[Int.tdiv_eq_ediv_of_nonneg hn.1,Int.tmod_eq_emod_of_nonneg hn.1,AK _ (by omega)];have hr:=Wq (s:=s) (qp5 hn);refine zO8 mixm (α:=Nat) (fun i=>i≤8) (fun i=>[(0,vI s),(5,vI (fwd s i (cut n)).1),(6,vI (fwd s i (cut n)).2),(7,vI i)]) (fun _=>[]) (fun i=>8-i) 0 (by omega) (.ofFr (by simp [qs4,TL.get,fwd,cut])) fun i hi=>?_;simp only[tZ,↓un_u,simprocAttr,AZ,Ay];refine⟨fun h1=>?_,fun h1=>?_⟩
 ·refine C1.im (zG0 s i _) rfl rfl ?_;refine sW ?_;refine⟨i+1,by omega,by omega,.ofFr ?_⟩;rw[jT9 h (by omega) (hr i).2];simp [qs4,TL.get,fwd];exact AK _ (by omega)
 ·have:i=8:=by omega
  subst this;have:=hr 8;refine .imR ?_ rfl;rw[AK _ (by rw[AK _ (by omega)];omega),AK _ (by omega)];simp [keyI,h,tie]
end Go.Proofs
namespace Go.Proofs
open Go Go.TL
set_option maxHeartbeats 4000000
open So
def drw0 (seed id:Int):Int:=IntKind.u64.wrap (IntKind.u64.wrap (IntKind.u64.wrap (IntKind.u64.wrap seed*2654435761)+IntKind.u64.wrap (IntKind.u64.wrap id*40503))+97)
def drwA (h:Int):Int:=IntKind.u64.wrap (IntKind.u64.wrap (h*6364136223846793005)+1442695040888963407)
def drwX (h:Int):Int:=xorI .u64 (drwA h) (shrI .u64 (drwA h) 29)
def drwI (seed id:Int):Int:=IntKind.i64.wrap (shrI .u64 (iter drwX 3 (drw0 seed id)) 32)
def inS (x:Smp) (id:Int):Bool:=(smpE x==0)&&decide (1≤id)&&decide (id≤1048575)&&decide ((drwI x.seed id).tmod x.of<x.part)
theorem zG1 (x:Smp):Spc Tryz.prog qd1 [smpT x] [] (vI (smpE x)) []:=by
 refine qd zq0 mixm (by simp) fun e _ hst=>qg ?_;unfold Yw;refine sD ?_;refine⟨fun h=>?_,fun h=>?_⟩
 ·rw[smpE,Aj (by omega)];exact .oA [] []
 ·rw[smpE,Aq (by omega)];exact .oA [] []
theorem zU8 (seed id:Int):Spc Tryz.prog ql6 [vI seed,vI id] [] (vI (drwI seed id)) []:=by
 refine qd zC7 mixm (by simp) fun e _ hst=>qg ?_;unfold qf5;refine sW ?_;refine qu mixm (α:=Nat) [5,6] (fun i=>i≤3) (fun i=>[(5,vU64 (iter drwX i (drw0 seed id))),(6,vI i)]) (fun i=>[]) (fun i=>3-i) 0 (by omega) ?_ fun i hi=>?_
 ·exact .oA [] []
 have hwi:=qj (i:=i) (by omega);refine sD ?_;refine⟨fun h=>?_,fun h=>?_⟩
 ·simp only[tZ,↓un_u,simprocAttr,hwi];refine⟨i+1,by omega,by omega,?_⟩;show Le _ _ ⟨(5,vU64 (drwX (iter drwX i (drw0 seed id))))::_,_⟩;exact .oA [] []
 ·have:i=3:=by omega
  subst this;exact .oA [] []
theorem js2 (x:Smp) (id:Int):Spc Tryz.prog qM0 [smpT x,vI id] [] (vB (inS x id)) []:=by
 refine qd ja0 mixm (by simp) fun e _ hst=>qg ?_;unfold qy4;refine sW ?_;refine C1.im (zG1 x) (by rfl) (by rfl) ?_;refine sW ?_;refine C2.im (fun _=>zU8 x.seed id) (fun _=>rfl) (by rfl) ?_;refine sW ?_;rw[show (smpE x==0&&decide (id≥1)&&decide (id≤1048575)&&decide ((drwI x.seed id).tmod x.of<x.part))=inS x id from rfl];refine⟨fun h=>?_,by kernel_rfl,?_⟩
 ·simp only[tD,AY] at h;have:=h.1.1;unfold smpE at this
  grind
 ·exact .oA [] []
def ownP (s:Src) (d:Dcl) (r:List Int):Bool:=(zh7 s.sch d.coh r==1)&&inS d.smp (hd r)
def ownR (s:Src) (d:Dcl):List (List Int):=if srcB s=false∨dclE s.sch d≠0 then [] else s.rows.filter (ownP s d)
def ownS (s:Src) (d:Dcl):List Int:=(ownR s d).map hd
theorem zs5 (s:Src) (d:Dcl) (hs:jb3 s) (hL:0<s.sch.lists.length):Spc Tryz.prog WS [srcT s,dclT d] [] (vIs (ownS s d)) []:=by
 refine qd zd9 mixm (by simp) fun e _ hst=>qg ?_;unfold KR;refine sW ?_;refine C1.im (zF8 s hs) (by rfl) (by rfl) ?_;refine sW ?_;refine C2.im (fun _=>qI6 s.sch hs.1 hL d) (fun _=>rfl) (by rfl) ?_;simp only[tZ,↓un_u,simprocAttr,tD,Bj,Aw,Bx,Bz];refine⟨fun h=>?_,fun h=>?_⟩
 ·rw[ownS,ownR,Aj h];exact .oA [] []
 have hok:=qp4.1 h.1;have hrp:=hok.rowp;have hnr:=hok.nr;rw[ownS,ownR,Aq (by grind)];refine qu mixm (α:=Nat) [5,6,16] (fun i=>i≤s.rows.length) (fun i=>[(5,.asl 1 (((s.rows.take i).filter (ownP s d)).map hd).length),(6,vI i)]) (fun i=>[(4096,.arr 5 [srcT s] false),(4100,.arr 12 [dclT d] false),(1,.arr 1 ((((s.rows.take i).filter (ownP s d)).map hd).map vI) false)]) (fun i=>s.rows.length-i) 0 (by omega) ?_ fun i hi=>?_
 ·exact .oA [(4096,some 4096),(4100,some 4100),(1,none)] []
 have hfl:=Fx (ownP s d) (s.rows.take i);rw[Cz] at hfl;refine sD ?_;refine⟨fun h2=>?_,fun h2=>?_⟩
 ·have hi2:i<s.rows.length:=by omega
  have hwi:=qj (i:=i) (by omega);have hgi:=zZ (hrp _ (AX hi2));have hrpi:=hrp _ (AX hi2);have hsp:((s.rows.take (i+1)).filter (ownP s d)).map hd=((s.rows.take i).filter (ownP s d)).map hd++if ownP s d s.rows[i]=true then [hd s.rows[i]] else []:=by
   rw[qH hi2,FY,By,List.filter_cons,List.filter_nil]
   congr 1
   split <;> rfl
  have hP:ownP s d s.rows[i]=((zh7 s.sch d.coh s.rows[i]==1)&&inS d.smp (hd s.rows[i])):=rfl;have hI:=js2 d.smp (hd s.rows[i]);simp only[tZ,↓un_u,simprocAttr,Ax,qe hi2];refine⟨by omega,?_⟩;refine C1.im (qp1 s.sch hs.1 hL d.coh s.rows[i] (hs.2 _ (AX hi2))) (by rfl) (by rfl) ?_;simp only[tZ,↓un_u,simprocAttr,Ax,qe hi2,hgi];refine⟨fun _=>by omega,fun _=>by omega,?_⟩;refine C2.im (fun _=>hI) (fun _=>rfl) (by rfl) ?_;refine sW ?_;rw[← hP];refine⟨by kernel_rfl,fun h3=>?_,fun h3=>?_⟩
  ·rw[Aj h3] at hsp;have hspl:=congrArg List.length hsp;simp only[AW,BY,CJ,Cw] at hspl;simp only[tZ,↓un_u,simprocAttr,Ax,qe hi2,hgi,hwi];refine⟨by omega,by omega,by omega,i+1,by omega,by omega,?_⟩;rw[hsp];exact .oA [(4096,some 4096),(4100,some 4100),(1,some 1)] []
  ·rw[Aq (by rw[h3];simp),CW] at hsp;have hspl:=congrArg List.length hsp;simp only[AW,BY,CJ,Cw] at hspl;simp only[tZ,↓un_u,simprocAttr,hwi];refine⟨i+1,by omega,by omega,?_⟩;rw[hsp];exact .oA [(4096,some 4096),(4100,some 4100),(1,some 1)] []
 ·have hil:i=s.rows.length:=by omega
  subst hil;rw[Bw];exact .oA [] [1]
end Go.Proofs
namespace Go.Proofs
open Go Go.TL
set_option maxHeartbeats 4000000
theorem jU0 {s:Src} (h:SrcOk s) {r:List Int} (hr:r∈s.rows):∃ j:Nat,qX6 s (hd r)=j∧∃ hj:j<s.rows.length,s.rows[j]=r:=by
 have h1:s.rows.any (atR (hd r))=true:=DJ.2 ⟨r,hr,by rw[jn0 (h.rows r hr)];simp⟩;have h2:s.rows.findIdx (atR (hd r))<s.rows.length:=List.findIdx_lt_length_of_exists (by
  obtain⟨x,a,b⟩:=DJ.1 h1;exact⟨x,a,b⟩)
 refine⟨_,by rw[qX6,Aj h1],h2,?_⟩;have h3:=List.findIdx_getElem (p:=atR (hd r)) (xs:=s.rows) (w:=h2);rw[jn0 (h.rows _ (AX h2)),AY] at h3;obtain⟨i,hi,rfl⟩:=CX hr;have hp:=DX.1 h.asc;by_cases c1:s.rows.findIdx (atR (hd s.rows[i]))<i
 ·have:=hp _ i h2 hi c1;omega
 ·by_cases c2:i<s.rows.findIdx (atR (hd s.rows[i]))
  ·have:=hp i _ hi h2 c2;omega
  ·have e:s.rows.findIdx (atR (hd s.rows[i]))=i:=by omega
   simp only[e]
theorem qI7 {s:Sch} {l:List Pk} (h:ym s l=0):l.length≤8:=by
 obtain⟨h1,h2,h3⟩:=qa9 h;have hn:=(qR h1).nc;have key:∀ i (hi:i<l.length),(i:Int)+1≤l[i].col:=by
  intro i
  induction i with
  | zero=>intro hi;have:=qg4 (h2 _ (AX hi));omega
  | succ i ih=>
    intro hi;have a:=ih (by omega);have b:=DX.1 h3 i (i+1) (by omega) hi (by omega);omega
 refine AQ fun c=>?_;have a:=key 7 (by omega);have b:=qg4 (h2 _ (AX (show 7<l.length by omega)));omega
def rowX (s:Src) (l:List Pk) (k:Int) (r:List Int):List Int:=keyI k (hd r)::l.map fun p=>qK s.sch p.col p.lev (r.getD p.col.toNat 0)
def qI8 (s:Src) (l:List Pk) (k:Int):List (List Int)→List Int→List (List Int):=fun a r=>putR a (rowX s l k r)
def Ze (s:Src) (d:Dcl) (l:List Pk) (k:Int):List (List Int):=(ownR s d).foldl (qI8 s l k) []
def buildE (s:Src) (d:Dcl) (l:List Pk) (k:Int):Int:=if srcB s=false then 13 else if zh9 s.sch d l≠0 then zh9 s.sch d l else if k<0∨k≥1152921504606846976 then 2 else 0
abbrev ext0:Ext:=⟨⟨#[]⟩,0,[],[]⟩
def qT2 (s:Src) (d:Dcl) (l:List Pk) (k:Int):Ext:=if buildE s d l k≠0 then ext0 else ⟨d.proj,s.ver,l,Ze s d l k⟩
theorem jU1 {s:Sch} {d:Dcl} {l:List Pk} (h:zh9 s d l=0):dclE s d=0∧ym s l=0:=by
 unfold zh9 at h;split at h
 ·rename_i h1;exact absurd h h1
 rename_i h1;split at h
 ·rename_i h2;exact absurd h h2
 rename_i h2;exact⟨AQ h1,AQ h2⟩
theorem jU2 (s:Src) (l:List Pk) (k:Int) (r:List Int):0<(rowX s l k r).length:=by simp [rowX]
theorem zU9 (a b:Ext) (ha:a.picks.length<4611686018427387904) (har:a.rows.length<4611686018427387904) (hr:∀ r∈a.rows,r.length<4611686018427387904):Spc Tryz.prog ql0 [extT a,extT b] [] (vB (eqB a.proj b.proj&&(a.ver==b.ver)&&qH6 a.picks b.picks&&qT0 a.rows b.rows)) []:=by
 refine qd zA6 mixm (by simp) fun e _ hst=>qg ?_;unfold qd9;refine sW ?_;refine C2.im (fun _=>qP4 a.picks b.picks ha) (fun _=>rfl) (by rfl) ?_;refine sW ?_;refine C2.im (fun _=>zS4 a.rows b.rows har hr) (fun _=>rfl) (by rfl) ?_;refine sW ?_;rw[show (a.proj.toList==b.proj.toList)=eqB a.proj b.proj from rfl];exact .oA [] []
end Go.Proofs
