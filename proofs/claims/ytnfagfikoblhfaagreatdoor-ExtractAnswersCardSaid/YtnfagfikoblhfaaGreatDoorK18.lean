/- A part of the proof: trees of Go values, short forms, contracts. -/
import Derived.WalkKit
import Derived.Still
import Derived.MapKept
import GoSem.Builtin.Cap
import Derived.Laws.Externs
import GoSem.Extern.SlicesOverlaps
import Derived.Carry
import Derived.ProofKit
import Derived.OpenShut
import Derived.HandedShaped
import Derived.Lay
import Derived.LaidLaws
import Derived.MakeChecks
import Derived.SevenTiedAt
import Derived.Test.YtnfagfikoblhfaaGreatDoorChecked
import Derived.Test.YtnfagfikoblhfaaGreatDoorK17
set_option linter.unusedSimpArgs false
set_option linter.unusedVariables false
namespace Go.Proofs
open Go Go.TL
set_option maxHeartbeats 4000000
theorem zO8 (q:Qst) (k:Int) (ht:q.terms.length<4611686018427387904):Spc Tryz.prog qk6 [qstT q,vI k] [] (vB (zW1 q k)) []:=by
 refine qd zy3 mixm (by simp) fun e _ hst=>qh ?_;unfold qe0;refine sW ?_;refine C2.im (fun _=>ze9 q.terms k ht) (fun _=>rfl) (by rfl) ?_;refine sW ?_;rw[show (q.meas==k||q.terms.contains k)=zW1 q k from rfl];exact .oA [] []
theorem qn5:∀ (m l:List Pk),(Qm l m).length≤l.length+m.length
 | [],l=>BZ _
 | p::m,l=>by
   have h1:=qn5 m (Ks l p.col p.lev);have h2:=qF9 l p.col p.lev;unfold Qm at h1 ⊢
   rw[Dw,CJ];omega
theorem zu2 (l m:List Pk) (p:Pk):Qm l (m++[p])=Ks (Qm l m) p.col p.lev:=by rw[Qm,Gx];rfl
theorem qn6 (s:Sch) (c:Cnd):(ji s c).length≤40:=by
 unfold ji;split
 ·simp
 ·rename_i h;obtain⟨hE,k2,k3,k4⟩:=qy7 (AQ h);have h1:=zf5 c 41 (by omega) k2;have h2:=zf9 s (atsC c) [];simp only[Cw] at h2;unfold qV3 at h2;omega
structure QstOk (s:Sch) (q:Qst):Prop where
 sch:schE s=0
 kind:1≤q.kind∧q.kind≤3
 filt:chkC s q.filt=0
 dims:q.kind=1→Wq s q.dims=0∧(q.meas = -1∨isB s q.meas 3=true)
 nd:q.dims.length≤3
 terms:q.kind=2→isB s q.meas 3=true∧wU s q.meas q.terms=0
 nt:q.terms.length≤3
 event:q.kind=3→isB s q.meas 3=true∧0≤(qj s q.meas.toNat).low∧chkC s q.event=0
 d0:q.kind≠1→q.dims=[]
 t0:q.kind≠2→q.terms=[]
 e0:q.kind≠3→qa6 q.event cnd0=true
theorem Wr {s:Sch} {q:Qst} (h:qstE s q=0):QstOk s q:=by
 unfold qstE at h;split at h
 ·rename_i h1;exact absurd h h1
 rename_i h1;split at h
 ·cases h
 rename_i h2;split at h
 ·cases h
 rename_i h3;split at h
 ·rename_i h4;exact absurd h h4
 rename_i h4;split at h
 ·rename_i h5;exact absurd h h5
 rename_i h5;split at h
 ·cases h
 rename_i h6;have hp:wV s q=0:=AQ h5;unfold wV at hp;have hd:q.kind=1→Wq s q.dims=0∧(q.meas = -1∨isB s q.meas 3=true):=fun k=>by
  rw[Aj k] at hp
  grind
 have ht:q.kind=2→isB s q.meas 3=true∧wU s q.meas q.terms=0:=fun k=>by
  rw[Aq (by omega),Aj k] at hp
  grind
 have hd0:q.kind≠1→q.dims=[]:=fun k=>Dy.1 (by omega);have ht0:q.kind≠2→q.terms=[]:=fun k=>Dy.1 (by omega);refine⟨AQ h1,by omega,AQ h4,hd,?_,ht,?_,fun k=>?_,hd0,ht0,fun k=>?_⟩
 ·by_cases k:q.kind=1
  ·have:=(hd k).1;unfold Wq at this
   grind
  ·rw[hd0 k];simp
 ·by_cases k:q.kind=2
  ·have:=(ht k).2;unfold wU at this
   grind
  ·rw[ht0 k];simp
 ·rw[Aq (by omega),Aq (by omega)] at hp
  grind
 ·grind
theorem qp9 (s:Sch):∀ (m l:List Pk),(m.foldl (fun l p=>Ks l p.col (jr s p.col p.lev)) l).length≤l.length+m.length
 | [],l=>BZ _
 | p::m,l=>by
   have h1:=qp9 s m (Ks l p.col (jr s p.col p.lev));have h2:=qF9 l p.col (jr s p.col p.lev);rw[Dw,CJ];omega
theorem qN4 (s:Sch) (q:Qst):∀ (m:List Nat) (l:List Pk),(m.foldl (Ze s q) l).length≤l.length+m.length
 | [],l=>BZ _
 | k::m,l=>by
   have h1:=qN4 s q m (Ze s q l k);have h2:(Ze s q l k).length≤l.length+1:=by
    unfold Ze;split
    ·exact qF9 _ _ _
    ·omega
   rw[Dw,CJ];omega
def zu3 (s:Sch) (q:Qst):List Pk:=if q.kind=3 then Qm (ji s q.filt) (ji s q.event) else ji s q.filt
theorem zu4 (s:Sch) (q:Qst):(zu3 s q).length≤80:=by
 have h1:=qn6 s q.filt;have h2:=qn6 s q.event;have h3:=qn5 (ji s q.event) (ji s q.filt);unfold zu3;split <;> omega
theorem zg0 (s:Sch) (q:Qst):(yp s q).length≤100:=by
 unfold yp kb3;split
 ·simp
 ·rename_i h;have hq:=Wr (AQ h);have h1:=zu4 s q;unfold zu3 at h1;have h2:=qp9 s q.dims (if q.kind=3 then Qm (ji s q.filt) (ji s q.event) else ji s q.filt);have h3:=qN4 s q (List.range (s.cols.length-1)) (q.dims.foldl (fun l p=>Ks l p.col (jr s p.col p.lev)) (if q.kind=3 then Qm (ji s q.filt) (ji s q.event) else ji s q.filt));have h4:=(qO hq.sch).nc;have h5:=hq.nd;rw[List.length_range] at h3;omega
theorem zB7 (s:Sch) (hs:yX s) (hL:0<s.lists.length) (q:Qst):Spc Tryz.prog qc5 [schT s,qstT q] [] (vPs (yp s q)) []:=by
 refine qd zj6 mixm (by simp) fun e _ hst=>qh ?_;unfold Yb;refine sW ?_;refine C1.im (qg6 s hs hL q) (by rfl) (by rfl) ?_;simp only[tZ,↓un_u,simprocAttr,Bj,Aw];refine⟨fun h=>?_,fun h=>?_⟩
 ·rw[yp,Aj h];exact .oA [] []
 have hq:=Wr h;have hnc:=(qO hq.sch).nc;have hnd:=hq.nd;have hnt:=hq.nt;have hN:yp s q=(List.range (s.cols.length-1)).foldl (Ze s q) (q.dims.foldl (fun l p=>Ks l p.col (jr s p.col p.lev)) (zu3 s q)):=by
  rw[yp,Aq (by rw[h];simp)];rfl
 have h0:=zu4 s q;have hQ0:zu3 s q=if q.kind=3 then Qm (ji s q.filt) (ji s q.event) else ji s q.filt:=rfl
 rw[hN];generalize zu3 s q=A at h0 hQ0 ⊢
 refine C1.im (qG1 s hs hL q.filt) (by rfl) (by rfl) ?_;have hcl:=qn6 s q.filt;generalize ji s q.filt=C at hQ0 hcl ⊢
 simp only[tZ,↓un_u,simprocAttr,AY,Ak];apply mid
 ·intro hmain;refine⟨fun h1=>?_,fun h1=>?_⟩
  ·rw[Aj h1] at hQ0;refine C1.im (qG1 s hs hL q.event) (by rfl) (by rfl) ?_;have hel:=qn6 s q.event;generalize ji s q.event=V at hQ0 hel ⊢
   refine sW ?_;refine qw mixm (α:=Nat) [5,7,20] (fun i=>i≤V.length) (fun i=>[(5,vPs (Qm C (V.take i))),(7,vI i)]) (fun i=>[(4096,.arr 2 [schT s] false),(4100,.arr 17 [qstT q] false)]) (fun i=>V.length-i) 0 (by omega) ?_ fun i hi=>?_
   ·exact .oA [(4096,some 4096),(4100,some 4100)] []
   have hrl:=qn5 (V.take i) C;rw[Cz] at hrl;refine sD ?_;refine⟨fun h3=>?_,fun h3=>?_⟩
   ·have hi2:i<V.length:=by omega
    have hwi:=qk (i:=i) (by omega);simp only[tZ,↓un_u,simprocAttr,Ax,qe hi2];refine⟨by omega,by omega,?_⟩;refine C1.im (Zg (Qm C (V.take i)) V[i].col V[i].lev (by omega)) (by rfl) (by rfl) ?_;simp only[tZ,↓un_u,simprocAttr,hwi];refine⟨by kernel_rfl,i+1,by omega,by omega,?_⟩;rw[qM hi2,zu2];exact .oA [(4096,some 4096),(4100,some 4100)] []
   ·have hil:i=V.length:=by omega
    subst hil;rw[Bw,← hQ0];exact hmain
  ·rw[Aq h1] at hQ0;rw[← hQ0];exact hmain
 ·clear hQ0;refine qw mixm (α:=Nat) [5,8] (fun i=>i≤q.dims.length) (fun i=>[(5,vPs ((q.dims.take i).foldl (fun l p=>Ks l p.col (jr s p.col p.lev)) A)),(8,vI i)]) (fun i=>[(4096,.arr 2 [schT s] false),(4100,.arr 17 [qstT q] false)]) (fun i=>q.dims.length-i) 0 (by omega) ?_ fun i hi=>?_
  ·exact .oA [(4096,some 4096),(4100,some 4100)] []
  have hrl:=qp9 s (q.dims.take i) A;rw[Cz] at hrl;refine sD ?_;refine⟨fun h3=>?_,fun h3=>?_⟩
  ·have hi2:i<q.dims.length:=by omega
   have hwi:=qk (i:=i) (by omega);simp only[tZ,↓un_u,simprocAttr,Ax,qe hi2];refine⟨by omega,by omega,by omega,?_⟩;refine C1.im (qF7 s hs q.dims[i].col q.dims[i].lev) (by rfl) (by rfl) ?_;refine sW ?_;refine C1.im (Zg _ q.dims[i].col (jr s q.dims[i].col q.dims[i].lev) (by omega)) (by rfl) (by rfl) ?_;simp only[tZ,↓un_u,simprocAttr,hwi];refine⟨by kernel_rfl,i+1,by omega,by omega,?_⟩;rw[qM hi2,Gx];simp only[Dw,List.foldl_nil];exact .oA [(4096,some 4096),(4100,some 4100)] []
  ·have hil:i=q.dims.length:=by omega
   subst hil;rw[Bw];have hB:=qp9 s q.dims A;generalize q.dims.foldl (fun l p=>Ks l p.col (jr s p.col p.lev)) A=B at hB ⊢
   refine qw mixm (α:=Nat) [5,9] (fun i=>i≤s.cols.length-1) (fun i=>[(5,vPs ((List.range i).foldl (Ze s q) B)),(9,vI ((i+1:Nat):Int))]) (fun i=>[(4096,.arr 2 [schT s] false),(4100,.arr 17 [qstT q] false)]) (fun i=>s.cols.length-1-i) 0 (by omega) ?_ fun i hi=>?_
   ·exact .oA [(4096,some 4096),(4100,some 4100)] []
   have hrl:=qN4 s q (List.range i) B;rw[List.length_range] at hrl;have hsu:(List.range (i+1)).foldl (Ze s q) B=Ze s q ((List.range i).foldl (Ze s q) B) i:=by rw[List.range_succ,Gx];rfl
   have hwi:=qk (i:=i+1) (by omega);have hU:=zO8 q ((i+1:Nat):Int) (by omega);refine sD ?_;refine⟨fun h3=>?_,fun h3=>?_⟩
   ·refine C1.im hU (by rfl) (by rfl) ?_;refine sW ?_;refine⟨fun h4=>?_,fun h4=>?_⟩
    ·have hsu:(List.range (i+1)).foldl (Ze s q) B=Ks ((List.range i).foldl (Ze s q) B) ((i+1:Nat):Int) (jr s ((i+1:Nat):Int) (finI s ((i+1:Nat):Int))):=by
      rw[hsu,Ze];exact Aj h4
     refine C1.im (kK s hs ((i+1:Nat):Int)) (by rfl) (by rfl) ?_;refine sW ?_;refine C1.im (qF7 s hs ((i+1:Nat):Int) (finI s ((i+1:Nat):Int))) (by rfl) (by rfl) ?_;refine sW ?_;refine C1.im (Zg _ ((i+1:Nat):Int) (jr s ((i+1:Nat):Int) (finI s ((i+1:Nat):Int))) (by omega)) (by rfl) (by rfl) ?_;simp only[tZ,↓un_u,simprocAttr,hwi];refine⟨by kernel_rfl,i+1,by omega,by omega,?_⟩;rw[hsu];exact .oA [(4096,some 4096),(4100,some 4100)] []
    ·have hsu:(List.range (i+1)).foldl (Ze s q) B=(List.range i).foldl (Ze s q) B:=by
      rw[hsu,Ze];exact Aq (by show ¬ zW1 q ((i+1:Nat):Int)=true;rw[h4];simp)
     simp only[tZ,↓un_u,simprocAttr,hwi];refine⟨i+1,by omega,by omega,?_⟩;rw[hsu];exact .oA [(4096,some 4096),(4100,some 4100)] []
   ·have hil:i=s.cols.length-1:=by omega
    subst hil;exact .oA [] []
def zB8 (s:Sch):List Pk→Qst→List Pk:=fun l q=>Qm l (yp s q)
theorem zg1 (s:Sch):∀ (m:List Qst) (l:List Pk),(m.foldl (zB8 s) l).length≤l.length+100*m.length
 | [],l=>BZ _
 | q::m,l=>by
   have h1:=zg1 s m (zB8 s l q);have h2:=qn5 (yp s q) l;have h3:=zg0 s q;rw[Dw,CJ];unfold zB8 at h1 ⊢
   omega
theorem zO9 (s:Sch) (d:Dcl):(kZ s d).length≤800:=by
 unfold kZ;split
 ·simp
 ·rename_i h;have hd:=qn3 (AQ h);have:=zg1 s d.qs [];simp only[Cw] at this;unfold zB8 at this;omega
theorem zP0 (s:Sch) (hs:yX s) (hL:0<s.lists.length) (d:Dcl):Spc Tryz.prog qk4 [schT s,dclT d] [] (.tup [vPs (kZ s d),vI (dclE s d)]) []:=by
 refine qd zx6 mixm (by simp) fun e _ hst=>qh ?_;unfold qd7;refine sW ?_;refine C1.im (zB6 s hs hL d) (by rfl) (by rfl) ?_;simp only[tZ,↓un_u,simprocAttr,Bj,Aw];refine⟨fun h=>?_,fun h=>?_⟩
 ·rw[kZ,Aj h];exact .oA [] []
 obtain⟨hE,_,_,_,_,hq1,hq2,_⟩:=qn3 h;have hP:kZ s d=d.qs.foldl (zB8 s) []:=by rw[kZ,Aq (by rw[h];simp)];rfl
 rw[hP,h];refine qw mixm (α:=Nat) [7,8,6] (fun i=>i≤d.qs.length) (fun i=>[(7,vPs ((d.qs.take i).foldl (zB8 s) [])),(8,vI i)]) (fun i=>[(4096,.arr 2 [schT s] false),(4100,.arr 12 [dclT d] false)]) (fun i=>d.qs.length-i) 0 (by omega) ?_ fun i hi=>?_
 ·exact .oA [(4096,some 4096),(4100,some 4100)] []
 have hpl:=zg1 s (d.qs.take i) [];rw[Cz,Cw] at hpl;refine sD ?_;refine⟨fun h3=>?_,fun h3=>?_⟩
 ·have hi2:i<d.qs.length:=by omega
  have hwi:=qk (i:=i) (by omega);have hsu:(d.qs.take (i+1)).foldl (zB8 s) []=Qm ((d.qs.take i).foldl (zB8 s) []) (yp s d.qs[i]):=by rw[qM hi2,Gx];rfl
  simp only[tZ,↓un_u,simprocAttr,Ax,qe hi2];refine⟨by omega,?_⟩;refine C1.im (zB7 s hs hL d.qs[i]) (by rfl) (by rfl) ?_;have hnl:=zg0 s d.qs[i];generalize yp s d.qs[i]=V at hsu hnl ⊢
  generalize (d.qs.take i).foldl (zB8 s) []=C at hsu hpl ⊢
  refine sW ?_;refine⟨by kernel_rfl,?_⟩;refine qw mixm (α:=Nat) [7,10] (fun k=>k≤V.length) (fun k=>[(7,vPs (Qm C (V.take k))),(10,vI k)]) (fun k=>[(4096,.arr 2 [schT s] false),(4100,.arr 12 [dclT d] false)]) (fun k=>V.length-k) 0 (by omega) ?_ fun k hk=>?_
  ·exact .oA [(4096,some 4096),(4100,some 4100)] []
  have hrl:=qn5 (V.take k) C;rw[Cz] at hrl;refine sD ?_;refine⟨fun h4=>?_,fun h4=>?_⟩
  ·have hk2:k<V.length:=by omega
   have hwk:=qk (i:=k) (by omega);simp only[tZ,↓un_u,simprocAttr,Ax,qe hk2];refine⟨by omega,by omega,?_⟩;refine C1.im (Zg (Qm C (V.take k)) V[k].col V[k].lev (by omega)) (by rfl) (by rfl) ?_;simp only[tZ,↓un_u,simprocAttr,hwk];refine⟨by kernel_rfl,k+1,by omega,by omega,?_⟩;rw[qM hk2,zu2];exact .oA [(4096,some 4096),(4100,some 4100)] []
  ·have hkl:k=V.length:=by omega
   subst hkl;rw[Bw,← hsu];simp only[tZ,↓un_u,simprocAttr,hwi];refine⟨i+1,by omega,by omega,?_⟩;exact .oA [(4096,some 4096),(4100,some 4100)] []
 ·have hil:i=d.qs.length:=by omega
  subst hil;rw[Bw];exact .oA [] []
end Go.Proofs
namespace Go.Proofs
open Go Go.TL
def hd (r:List Int):Int:=r.getD 0 0
def putS (row:List Int):List (List Int)×Bool→List Int→List (List Int)×Bool:=fun x r=>
 if hd r=hd row then x
 else if hd r>hd row∧x.2=false then (x.1++[row]++[r],true)
 else (x.1++[r],x.2)
def putR (l:List (List Int)) (row:List Int):List (List Int):=
 let x:=l.foldl (putS row) ([],false)
 if x.2 then x.1 else x.1++[row]
def atR (id:Int) (r:List Int):Bool:=decide (0<r.length)&&(hd r==id)
def zg2 (s:Src) (id:Int):Int:=if s.rows.any (atR id)=true then (s.rows.findIdx (atR id):Int) else -1
def asc2 (l:List Int) (i:Nat):Bool:=decide (i=0)||decide (l.getD (i-1) 0<l.getD i 0)
def jE1 (s:Src):Bool:=(List.range s.rows.length).all fun i=>(rowE s.sch (s.rows.getD i [])==0)&&(decide (i=0)||decide (hd (s.rows.getD (i-1) [])<hd (s.rows.getD i [])))
def jW7 (s:Src):Bool:=(List.range s.gone.length).all fun i=>decide (1≤s.gone.getD i 0)&&decide (s.gone.getD i 0≤1048575)&&asc2 s.gone i&&decide (zg2 s (s.gone.getD i 0)<0)
def srcB (s:Src):Bool:=(schE s.sch==0)&&decide (s.rows.length≤200)&&decide (s.gone.length≤300)&&decide (0≤s.ver)&&decide (s.ver≤300)&&jE1 s&&jW7 s
abbrev src0:Src:=⟨⟨[],[]⟩,[],[],0⟩
end Go.Proofs
namespace Go.Proofs
open Go Go.TL
def AscR (l:List (List Int)):Prop:=l.Pairwise fun a b=>hd a<hd b
theorem zP1 {row:List Int}:∀ (l acc:List (List Int)),(∀ r∈l,hd row<hd r)→l.foldl (putS row) (acc,true)=(acc++l,true)
 | [],acc,_=>by simp
 | r::l,acc,h=>by
   have h1:=h r (by simp);have e:putS row (acc,true) r=(acc++[r],true):=by
    unfold putS;rw[Aq (by omega),Aq (by simp)]
   rw[Dw,e,zP1 l _ fun x hx=>h x (CQ _ hx)];simp
theorem qN5 {row:List Int}:∀ (l acc:List (List Int)),AscR l→l.foldl (putS row) (acc,false) =
 if (l.any fun r=>decide (hd row<hd r))=true then (acc++l.filter (fun r=>decide (hd r<hd row))++row::l.filter (fun r=>decide (hd row<hd r)),true)
 else (acc++l.filter (fun r=>decide (hd r<hd row)),false)
 | [],acc,_=>by simp
 | r::l,acc,h=>by
   obtain⟨h1,h2⟩:=List.pairwise_cons.1 h;rw[Dw];by_cases e1:hd r=hd row
   ·have e:putS row (acc,false) r=(acc,false):=by unfold putS;rw[Aj e1]
    have d1:decide (hd row<hd r)=false:=by simp;omega
    have d2:decide (hd r<hd row)=false:=by simp;omega
    rw[e,qN5 l acc h2,List.any_cons,List.filter_cons,List.filter_cons,d1,d2];simp
   ·by_cases e2:hd r>hd row
    ·have e:putS row (acc,false) r=(acc++[row]++[r],true):=by unfold putS;rw[Aq e1,Aj ⟨e2,rfl⟩]
     have hall:∀ x∈l,hd row<hd x:=fun x hx=>by have:=h1 x hx;omega
     have d1:decide (hd row<hd r)=true:=by simp;omega
     have d2:decide (hd r<hd row)=false:=by simp;omega
     have f1:l.filter (fun r=>decide (hd row<hd r))=l:=List.filter_eq_self.2 fun x hx=>by simpa using hall x hx
     have f2:l.filter (fun r=>decide (hd r<hd row))=[]:=List.filter_eq_nil_iff.2 fun x hx=>by have:=hall x hx;simp;omega
     rw[e,zP1 l _ hall,List.any_cons,List.filter_cons,List.filter_cons,d1,d2,f1,f2];simp
    ·have e:putS row (acc,false) r=(acc++[r],false):=by
      unfold putS;rw[Aq e1,Aq (fun k=>e2 k.1)]
     have d1:decide (hd row<hd r)=false:=by simp;omega
     have d2:decide (hd r<hd row)=true:=by simp;omega
     rw[e,qN5 l _ h2,List.any_cons,List.filter_cons,List.filter_cons,d1,d2];simp
theorem jE2 {l:List (List Int)} {row:List Int} (h:AscR l):putR l row=l.filter (fun r=>decide (hd r<hd row))++row::l.filter (fun r=>decide (hd row<hd r)):=by
 unfold putR;rw[qN5 l [] h];by_cases e:(l.any fun r=>decide (hd row<hd r))=true
 ·rw[Aj e];simp
 ·rw[Aq e];have f1:l.filter (fun r=>decide (hd row<hd r))=[]:=List.filter_eq_nil_iff.2 fun x hx=>by
   intro k;exact e (DJ.2 ⟨x,hx,k⟩)
  rw[f1];simp
theorem zB9 {l:List (List Int)} {row:List Int} (h:AscR l):AscR (putR l row):=by
 rw[jE2 h];unfold AscR;rw[List.pairwise_append];refine⟨h.filter _,List.pairwise_cons.2 ⟨fun x hx=>?_,h.filter _⟩,fun a ha b hb=>?_⟩
 ·have:=(Fz.1 hx).2;simpa using this
 ·have h1:=(Fz.1 ha).2;rcases Ck.1 hb with rfl | hb
  ·simpa using h1
  ·have h2:=(Fz.1 hb).2;simp only[AZ] at h1 h2;omega
theorem zC0 {l:List (List Int)} {row r:List Int} (h:AscR l):r∈putR l row↔r=row∨(r∈l∧hd r≠hd row):=by
 rw[jE2 h,Dz,Ck,Fz,Fz];simp only[AZ];constructor
 ·rintro (⟨a,b⟩ | a | ⟨a,b⟩)
  ·exact .inr ⟨a,by omega⟩
  ·exact .inl a
  ·exact .inr ⟨a,by omega⟩
 ·rintro (a | ⟨a,b⟩)
  ·exact .inr (.inl a)
  ·by_cases c:hd r<hd row
   ·exact .inl ⟨a,c⟩
   ·exact .inr (.inr ⟨a,by omega⟩)
theorem jh7 (l:List (List Int)) (row:List Int):(putR l row).length≤l.length+1:=by
 have key:∀ (l:List (List Int)) (x:List (List Int)×Bool),(l.foldl (putS row) x).1.length+(if (l.foldl (putS row) x).2 then 0 else 1)≤x.1.length+(if x.2 then 0 else 1)+l.length:=by
  intro l
  induction l with
  | nil=>intro x;simp only[List.foldl_nil,Cw,Nat.add_zero];exact BZ _
  | cons r l ih=>
    intro x;have h1:=ih (putS row x r);have h2:(putS row x r).1.length+(if (putS row x r).2 then 0 else 1)≤x.1.length+(if x.2 then 0 else 1)+1:=by
     unfold putS;split
     ·omega
     ·split
      ·rename_i h;rw[h.2];simp
      ·simp;omega
    rw[Dw,CJ];omega
 have:=key l ([],false);unfold putR;simp only[Cw,EZ,if_false] at this;dsimp only;split
 ·rename_i h;rw[h] at this;simp at this;omega
 ·rename_i h;rw[Aq h] at this;rw[AW];simp;omega
end Go.Proofs
namespace Go.Proofs
open Go Go.TL
theorem jn2 {α:Type} [Inhabited α] {f:α→Int} {l:List α} (h:∀ i,0<i→i<l.length→f (l.getD (i-1) default)<f (l.getD i default)):l.Pairwise fun a b=>f a<f b:=by
 rw[DX];have key:∀ (d i:Nat) (hj:i+d+1<l.length),f (l[i]'(by omega))<f l[i+d+1]:=by
  intro d
  induction d with
  | zero=>
    intro i hj;have:=h (i+1) (by omega) (by omega);rw[qg (by omega),qg (by omega)] at this;simpa using this
  | succ d ih=>
    intro i hj;have h1:=ih i (by omega);have h2:=h (i+d+1+1) (by omega) (by omega);rw[qg (by omega),qg (by omega)] at h2;simp only[Nat.add_sub_cancel] at h2;have e:i+(d+1)+1=i+d+1+1:=by omega
    simp only[e];omega
 intro i j hi hj hij;have:=key (j-i-1) i (by omega);have e:i+(j-i-1)+1=j:=by omega
 simp only[e] at this;exact this
theorem ki6 {α:Type} [Inhabited α] {f:α→Int} {l:List α} (h:l.Pairwise fun a b=>f a<f b) {i:Nat} (h0:0<i) (hi:i<l.length):f (l.getD (i-1) default)<f (l.getD i default):=by
 rw[qg (by omega),qg hi];exact DX.1 h (i-1) i (by omega) hi (by omega)
structure SrcOk (s:Src):Prop where
 sch:schE s.sch=0
 nr:s.rows.length≤200
 ng:s.gone.length≤300
 ver:0≤s.ver∧s.ver≤300
 rows:∀ r∈s.rows,rowE s.sch r=0
 asc:AscR s.rows
 gone:∀ g∈s.gone,1≤g∧g≤1048575∧zg2 s g<0
 gasc:s.gone.Pairwise fun a b=>a<b
theorem YK {s:Sch} {r:List Int} (h:rowE s r=0):0<r.length:=by
 obtain⟨h1,h2,_⟩:=qy4 h;have:=(qO h1).nc;omega
theorem zP2 {s:Src} {id:Int}:zg2 s id<0↔∀ r∈s.rows,atR id r=false:=by
 unfold zg2;split
 ·rename_i h;obtain⟨r,h1,h2⟩:=DJ.1 h;constructor
  ·intro h3;omega
  ·intro h3;rw[h3 r h1] at h2;cases h2
 ·rename_i h;constructor
  ·intro _ r hr;cases e:atR id r with
   | false=>rfl
   | true=>exact absurd (DJ.2 ⟨r,hr,e⟩) h
  ·intro _;omega
theorem qy9 {s:Src}:srcB s=true↔SrcOk s:=by
 unfold srcB jE1 jW7 asc2;simp only[Bq,AY,AZ,Bk,Dk,DZ];constructor
 ·rintro ⟨⟨⟨⟨⟨⟨h1,h2⟩,h3⟩,h4⟩,h5⟩,h6⟩,h7⟩;refine⟨h1,h2,h3,⟨h4,h5⟩,fun r hr=>?_,?_,fun g hg=>?_,?_⟩
  ·obtain⟨i,hi,rfl⟩:=CX hr;have:=(h6 i hi).1;rw[qg hi] at this;exact this
  ·exact jn2 (f:=hd) fun i h0 hi=>((h6 i hi).2.resolve_left (by omega))
  ·obtain⟨i,hi,rfl⟩:=CX hg;obtain⟨⟨⟨a,b⟩,c⟩,d⟩:=h7 i hi;rw[qg hi] at a b d;exact⟨a,b,d⟩
  ·exact jn2 (f:=fun x:Int=>x) fun i h0 hi=>((h7 i hi).1.2.resolve_left (by omega))
 ·intro h;refine⟨⟨⟨⟨⟨⟨h.sch,h.nr⟩,h.ng⟩,h.ver.1⟩,h.ver.2⟩,fun i hi=>⟨?_,?_⟩⟩,fun i hi=>⟨⟨⟨?_,?_⟩,?_⟩,?_⟩⟩
  ·rw[qg hi];exact h.rows _ (AX hi)
  ·by_cases e:i=0
   ·exact .inl e
   ·exact .inr (ki6 (f:=hd) h.asc (by omega) hi)
  ·rw[qg hi];exact (h.gone _ (AX hi)).1
  ·rw[qg hi];exact (h.gone _ (AX hi)).2.1
  ·by_cases e:i=0
   ·exact .inl e
   ·exact .inr (ki6 (f:=fun x:Int=>x) h.gasc (by omega) hi)
  ·rw[qg hi];exact (h.gone _ (AX hi)).2.2
theorem jh8 {s:Sch} {r:List Int} (h:rowE s r=0) (id:Int):atR id r=(hd r==id):=by
 unfold atR;rw[Cx (YK h),Fq]
theorem jn3 {s:Sch} {r:List Int} (h:rowE s r=0):1≤hd r∧hd r≤1048575:=by
 obtain⟨h1,h2,h3⟩:=qy4 h;have h4:=h3 0 (YK h);unfold qS at h4;rw[Aj (qO h1).c0] at h4;simp only[inB,Bq,AZ] at h4;exact h4
end Go.Proofs
namespace Go.Proofs
open Go Go.TL
set_option maxHeartbeats 4000000
open So
theorem yl {r:List Int} (h:0<r.length):(r.map vI).getD 0 .junk=vI (hd r):=by rw[qe h,hd,qg h]
theorem jO6 (row:List Int):∀ (l:List (List Int)) (x:List (List Int)×Bool),(l.foldl (putS row) x).1.length≤x.1.length+l.length+1
 | l,x=>by
   have key:∀ (l:List (List Int)) (x:List (List Int)×Bool),(l.foldl (putS row) x).1.length+(if (l.foldl (putS row) x).2 then 0 else 1)≤x.1.length+(if x.2 then 0 else 1)+l.length:=by
    intro l
    induction l with
    | nil=>intro x;simp only[List.foldl_nil,Cw,Nat.add_zero];exact BZ _
    | cons r l ih=>
      intro x;have h1:=ih (putS row x r);have h2:(putS row x r).1.length+(if (putS row x r).2 then 0 else 1)≤x.1.length+(if x.2 then 0 else 1)+1:=by
       unfold putS;split
       ·omega
       ·split
        ·rename_i h;rw[h.2];simp
        ·simp;omega
      rw[Dw,CJ];omega
   have:=key l x;split at this <;> split at this <;> omega
theorem zW2 (l:List (List Int)) (row:List Int) (hl:l.length<1000000000) (hr:∀ r∈l,0<r.length) (h0:0<row.length):Spc Tryz.prog qv4 [vRw l,vIs row] [] (vRw (putR l row)) []:=by
 have hP:putR l row=if (l.foldl (putS row) ([],false)).2 then (l.foldl (putS row) ([],false)).1 else (l.foldl (putS row) ([],false)).1++[row]:=rfl
 have hS:=fun i=>jO6 row (l.take i) ([],false);have hg0:=yl h0;refine qd zM6 mixm (by simp) fun e _ hst=>qh ?_;unfold ql5;refine sW ?_;refine qw mixm (α:=Nat×List (List Int)×Bool) [5,6,7] (fun x=>x.1≤l.length∧x.2=(l.take x.1).foldl (putS row) ([],false)) (fun x=>[(5,.asl 1 x.2.1.length),(6,vB x.2.2),(7,vI x.1)]) (fun x=>[(1,.arr 1 (x.2.1.map vIs) false)]) (fun x=>l.length-x.1) (0,[],false) ⟨by simp,by simp⟩ ?_ fun x hx=>?_
 ·exact .oA [(1,none)] []
 obtain⟨i,a,b⟩:=x;obtain⟨x1,x2⟩:=hx;dsimp only at x1 x2;have hSi:=hS i;rw[← x2] at hSi;simp only[Cw,Cz] at hSi;refine sD ?_;refine⟨fun h=>?_,fun h=>?_⟩
 ·have hi2:i<l.length:=by omega
  have hwi:=qk (i:=i) (by omega);have hs:(l.take (i+1)).foldl (putS row) ([],false)=putS row (a,b) l[i]:=by rw[qM hi2,Gx,← x2];rfl
  have hrp:=hr _ (AX hi2);have hgi:=yl hrp;have hr2:putS row (a,b) l[i]=if hd l[i]=hd row then (a,b) else if hd l[i]>hd row∧b=false then (a++[row]++[l[i]],true) else (a++[l[i]],b):=rfl
  rw[hr2] at hs;simp only[tZ,↓un_u,simprocAttr,Ax,qe hi2,hgi,hg0,tD,AY,Ak,Bx,Bz,hwi];refine⟨by omega,by omega,by omega,by kernel_rfl,fun h2=>?_,fun h2=>⟨by omega,by omega,by omega,by kernel_rfl,fun h3=>?_,fun h3=>?_⟩⟩
  ·rw[Aj h2] at hs;refine⟨(i+1,a,b),⟨by dsimp only;omega,hs.symm⟩,by dsimp only;omega,?_⟩;exact .oA [(1,some 1)] []
  ·rw[Aq h2,Aj h3] at hs;refine⟨by omega,by omega,by omega,(i+1,a++[row]++[l[i]],true),⟨by dsimp only;omega,hs.symm⟩,by dsimp only;omega,?_⟩;exact .oA [(1,some 1)] []
  ·rw[Aq h2,Aq (by grind)] at hs;refine⟨by omega,by omega,(i+1,a++[l[i]],b),⟨by dsimp only;omega,hs.symm⟩,by dsimp only;omega,?_⟩;exact .oA [(1,some 1)] []
 ·have hil:i=l.length:=by omega
  subst hil;rw[Bw] at x2;rw[← x2] at hP;dsimp only at hP;simp only[tZ,↓un_u,simprocAttr,Bx,Bz];refine⟨fun h2=>?_,fun h2=>?_⟩
  ·rw[hP,h2,Aq (by simp)];refine⟨by omega,?_⟩;show Zq [] _ _ (.sl 1 ((a++[row]).map vIs)) [];rw[By];exact .oA [] [1]
  ·rw[hP,Aj h2];exact .oA [] [1]
theorem zP3 (s:Src) (id:Int) (hl:s.rows.length<4611686018427387904):Spc Tryz.prog qk5 [srcT s,vI id] [] (vI (zg2 s id)) []:=by
 refine qd zy0 mixm (by simp) fun e _ hst=>qh ?_;unfold qd9;refine sW ?_;refine qw mixm (α:=Nat) [5] (fun i=>i≤s.rows.length∧(s.rows.take i).any (atR id)=false) (fun i=>[(5,vI i)]) (fun i=>[(4096,.arr 5 [srcT s] false)]) (fun i=>s.rows.length-i) 0 ⟨by omega,rfl⟩ ?_ fun i hi=>?_
 ·exact .oA [(4096,some 4096)] []
 refine sD ?_;refine⟨fun h=>?_,fun h=>?_⟩
 ·have hi2:i<s.rows.length:=by omega
  have hwi:=qk (i:=i) (by omega);have hno:atR id s.rows[i]=false→∃ y,(y≤s.rows.length∧(s.rows.take y).any (atR id)=false)∧s.rows.length-y<s.rows.length-i∧Le e ⟨[(1,vI id),(2,.ptr 4096 1 0 0),(5,vI ((i+1:Nat):Int))],[(4096,.arr 5 [srcT s] false)]⟩ ⟨[(5,vI y),(1,vI id),(2,.ptr 4096 1 0 0)],[(4096,.arr 5 [srcT s] false)]⟩:=fun h3=>by
   refine⟨i+1,⟨by omega,kh hi2 hi.2 h3⟩,by omega,?_⟩;exact .oA [(4096,some 4096)] []
  have hat:atR id s.rows[i]=(decide (0<s.rows[i].length)&&(hd s.rows[i]==id)):=rfl;rcases DQ s.rows[i].length with h0 | h0
  ·have e0:decide ((s.rows[i].length:Int)>0)=false:=Cq (by omega);have hgj:(s.rows[i].map vI).getD 0 .junk = .junk:=qp8 (by omega);simp only[tZ,↓un_u,simprocAttr,Ax,qe hi2,e0,hgj,hwi];exact⟨by omega,hno (by rw[hat,Cq (by omega)];rfl)⟩
  ·have e0:decide ((s.rows[i].length:Int)>0)=true:=Cx (by omega);rw[Cx h0,Fq] at hat;simp only[tZ,↓un_u,simprocAttr,Ax,qe hi2,e0,yl h0,hwi];refine⟨by omega,by omega,by omega,fun h3=>?_,fun h3=>hno (by rw[hat];exact h3)⟩;rw[zg2,Aj (zt5 hi2 (by rw[hat];exact h3)),Qd hi2 hi.2 (by rw[hat];exact h3)];exact .oA [] []
 ·have hil:i=s.rows.length:=by omega
  subst hil;have h2:=hi.2;rw[Bw] at h2;rw[zg2,Aq (by rw[h2];simp)];exact .oA [] []
def jE3 (s:Src):Prop:=yX s.sch∧∀ r∈s.rows,r.length<4611686018427387904
end Go.Proofs
namespace Go.Proofs
open Go Go.TL
set_option maxHeartbeats 4000000
open So
theorem SrcOk.rowp {s:Src} (h:SrcOk s):∀ r∈s.rows,0<r.length:=fun r hr=>YK (h.rows r hr)
end Go.Proofs
namespace Go.Proofs
open Go Go.TL
set_option maxRecDepth 4000
def mixA (h:Int):Int:=IntKind.u64.wrap (xorI .u64 h (shrI .u64 h 31)*13787848793156543929)
def mix0 (s r x:Int):Int:=IntKind.u64.wrap (IntKind.u64.wrap (IntKind.u64.wrap s+IntKind.u64.wrap (IntKind.u64.wrap r*11400714819323198485))+IntKind.u64.wrap (IntKind.u64.wrap x*14029467366897019727))
def iter {α:Type} (f:α→α):Nat→α→α
 | 0,x=>x
 | n+1,x=>f (iter f n x)
def mixI (s r x:Int):Int:=IntKind.i64.wrap (shrI .u64 (iter mixA 3 (mix0 s r x)) 54)
def fwd (s:Int):Nat→Int×Int→Int×Int
 | 0,p=>p
 | r+1,p=>((fwd s r p).2,xorI .i64 (fwd s r p).1 (mixI s r (fwd s r p).2))
def bwd (s:Int):Nat→Int×Int→Int×Int
 | 0,p=>p
 | r+1,p=>bwd s r (xorI .i64 p.2 (mixI s r p.1),p.1)
def Jj (s n:Int):Bool:=decide (0≤s)&&decide (s<1152921504606846976)&&decide (0≤n)&&decide (n<1048576)
def tie (p:Int×Int):Int:=p.1*1024+p.2
def cut (n:Int):Int×Int:=(n / 1024,n % 1024)
def keyI (s n:Int):Int:=if Jj s n=true then tie (fwd s 8 (cut n)) else -1
def idI (s n:Int):Int:=if Jj s n=true then tie (bwd s 8 (cut n)) else -1
theorem bits_nat {n:Int} (h0:0≤n):BitVec.ofInt 64 n=BitVec.ofNat 64 n.toNat:=by
 apply BitVec.eq_of_toNat_eq
 simp [BitVec.toNat_ofInt];omega
theorem zW3 {a b:Int} (ha:0≤a∧a<9223372036854775808) (hb:0≤b∧b<9223372036854775808):xorI .i64 a b=((a.toNat ^^^ b.toNat:Nat):Int):=by
 have h1:a.toNat<2 ^ 63:=by omega
 have h2:b.toNat<2 ^ 63:=by omega
 have h3:=Nat.xor_lt_two_pow h1 h2;unfold xorI;rw[show IntKind.i64.bits=64 from rfl,bits_nat ha.1,bits_nat hb.1,BitVec.toNat_xor,BitVec.toNat_ofNat,BitVec.toNat_ofNat,Nat.mod_eq_of_lt (by omega),Nat.mod_eq_of_lt (by omega)];exact AK _ (by omega)
theorem qG2 {a b:Int} (ha:0≤a∧a<1024) (hb:0≤b∧b<1024):0≤xorI .i64 a b∧xorI .i64 a b<1024:=by
 have h1:a.toNat<2 ^ 10:=by omega
 have h2:b.toNat<2 ^ 10:=by omega
 have h3:=Nat.xor_lt_two_pow h1 h2;rw[zW3 (by omega) (by omega)];omega
theorem kb5 {a b:Int} (ha:0≤a∧a<1024) (hb:0≤b∧b<1024):xorI .i64 (xorI .i64 a b) b=a:=by
 have:=qG2 ha hb;rw[zW3 (by omega) (by omega),zW3 (by omega) (by omega)];simp only[Ax,Nat.xor_assoc,Nat.xor_self,Nat.xor_zero];omega
theorem qG3 (s r x:Int):0≤mixI s r x∧mixI s r x<1024:=by
 unfold mixI;have h:∀ n,0≤iter mixA 3 n∧iter mixA 3 n<18446744073709551616:=by
  intro n;simp only[iter];unfold mixA;rw[IntKind.wrap_u64];omega
 have:=h (mix0 s r x);have h1:shrI .u64 (iter mixA 3 (mix0 s r x)) 54=(iter mixA 3 (mix0 s r x)) / 18014398509481984:=by
  unfold shrI;rw[DW _ (by decide)]
  rfl
 rw[h1];rw[AK _ (by omega)];omega
theorem Ws {s:Int} {p:Int×Int} (h:(0≤p.1∧p.1<1024)∧0≤p.2∧p.2<1024):∀ r,(0≤(fwd s r p).1∧(fwd s r p).1<1024)∧0≤(fwd s r p).2∧(fwd s r p).2<1024
 | 0=>h
 | r+1=>⟨(Ws h r).2,qG2 (Ws h r).1 (qG3 _ _ _)⟩
theorem zP4 {s:Int}:∀ (r:Nat) {p:Int×Int},(0≤p.1∧p.1<1024)∧0≤p.2∧p.2<1024→(0≤(bwd s r p).1∧(bwd s r p).1<1024)∧0≤(bwd s r p).2∧(bwd s r p).2<1024
 | 0,_,h=>h
 | r+1,_,h=>zP4 r ⟨qG2 h.2 (qG3 _ _ _),h.1⟩
theorem jE4 {s:Int} {p:Int×Int} (h:(0≤p.1∧p.1<1024)∧0≤p.2∧p.2<1024):∀ r,bwd s r (fwd s r p)=p
 | 0=>rfl
 | r+1=>by
   simp only[bwd,fwd];rw[kb5 (Ws h r).1 (qG3 _ _ _)];exact jE4 h r
theorem Wt {n:Int} (h:0≤n∧n<1048576):(0≤(cut n).1∧(cut n).1<1024)∧0≤(cut n).2∧(cut n).2<1024:=by
 simp only[cut];omega
theorem kb6 {p:Int×Int} (h:(0≤p.1∧p.1<1024)∧0≤p.2∧p.2<1024):cut (tie p)=p:=by
 obtain⟨a,b⟩:=p;simp only[cut,tie] at *
 congr 1 <;> omega
theorem kb7 (n:Int):tie (cut n)=n:=by simp only[cut,tie];omega
theorem zP5 {p:Int×Int} (h:(0≤p.1∧p.1<1024)∧0≤p.2∧p.2<1024):0≤tie p∧tie p<1048576:=by
 simp only[tie];omega
theorem qN6 (a b:Int):Spc Tryz.prog Zy [vI a,vI b] [] (vB (Jj a b)) []:=by
 refine qd qE1 mixm (by simp) fun e hn hst=>qh ?_;unfold QU;refine sW ?_;exact .imR rfl rfl
theorem zg3 (a b c:Int):Spc Tryz.prog KK [vI a,vI b,vI c] [] (vI (mixI a b c)) []:=by
 refine qd qT2 mixm (by simp) fun e hn hst=>qh ?_;unfold JF;refine sW ?_;refine zs6 mixm (α:=Nat) (fun i=>i≤3) (fun i=>[(7,vU64 (iter mixA i (mix0 a b c))),(18,vI i)]) (fun _=>[]) (fun i=>3-i) 0 (by omega) (.ofFr (by simp [qh1,TL.get,iter,mix0])) fun i hi=>?_;simp only[tZ,↓un_u,simprocAttr,AZ,Ay];refine⟨fun h=>⟨i+1,by omega,by omega,.ofFr ?_⟩,fun h=>?_⟩
 ·simp [qh1,TL.get,iter,mixA];exact AK _ (by omega)
 ·have:i=3:=by omega
  subst this;exact .imR rfl rfl
theorem qn7 (s n:Int):Spc Tryz.prog Qx [vI s,vI n] [] (vI (keyI s n)) []:=by
 refine qd qS4 mixm (by simp) fun e hn hst=>qh ?_;unfold JB;refine sW ?_;refine C1.im (qN6 s n) rfl rfl ?_;simp only[tZ,↓un_u,simprocAttr,Bz];refine⟨fun h=>.imR (by simp [keyI,h]) rfl,fun h=>?_⟩;have hn:0≤n∧n<1048576:=by simp [Jj] at h;omega
 rw[Int.tdiv_eq_ediv_of_nonneg hn.1,Int.tmod_eq_emod_of_nonneg hn.1,AK _ (by omega)];have hr:=Ws (s:=s) (Wt hn);refine zs6 mixm (α:=Nat) (fun i=>i≤8) (fun i=>[(0,vI s),(5,vI (fwd s i (cut n)).1),(6,vI (fwd s i (cut n)).2),(16,vI i)]) (fun _=>[]) (fun i=>8-i) 0 (by omega) (.ofFr (by simp [qh1,TL.get,fwd,cut])) fun i hi=>?_;simp only[tZ,↓un_u,simprocAttr,AZ,Ay];refine⟨fun h=>?_,fun h=>?_⟩
 ·refine C1.im (zg3 s i _) rfl rfl ?_;refine sW ?_;refine⟨i+1,by omega,by omega,.ofFr ?_⟩;simp [qh1,TL.get,fwd];exact AK _ (by omega)
 ·have:i=8:=by omega
  subst this;have:=hr 8;refine .imR ?_ rfl;rw[AK _ (by rw[AK _ (by omega)];omega),AK _ (by omega)];simp [keyI,h,tie, *]
theorem qG4 (a b:Int):Spc Tryz.prog Ka [vI a,vI b] [] (vB (Jj a b)) []:=by
 refine qd zl0 mixm (by simp) fun e hn hst=>qh ?_;unfold Yi;refine sW ?_;exact .imR rfl rfl
def zP6 (s r x:Int):Int:=if s<0∨1152921504606846976≤s∨r<0∨8≤r∨x<0∨1024≤x then 0 else mixI s r x
theorem qG5 (a b c:Int):Spc Tryz.prog Kb [vI a,vI b,vI c] [] (vI (zP6 a b c)) []:=by
 refine qd zl2 mixm (by simp) fun e hn hst=>qh ?_;unfold Yj;simp only[tZ,↓un_u,simprocAttr,DZ,FX,AZ,Ay];refine⟨fun h=>.imR ?_ rfl,fun h=>?_⟩
 ·rw[zP6,Aj (by omega)]
 ·refine zs6 mixm (α:=Nat) (fun i=>i≤3) (fun i=>[(7,vU64 (iter mixA i (mix0 a b c))),(8,vI i)]) (fun _=>[]) (fun i=>3-i) 0 (by omega) (.ofFr (by simp [qh1,TL.get,iter,mix0])) fun i hi=>?_;simp only[tZ,↓un_u,simprocAttr,AZ,Ay];refine⟨fun h=>⟨i+1,by omega,by omega,.ofFr ?_⟩,fun h=>?_⟩
  ·simp [qh1,TL.get,iter,mixA];exact AK _ (by omega)
  ·have:i=3:=by omega
   subst this;refine .imR ?_ rfl;rw[zP6,Aq (by omega)]
   rfl
theorem jh9 {s n x:Int} {r:Nat} (h:Jj s n=true) (hr:r<8) (hx:0≤x∧x<1024):zP6 s r x=mixI s r x:=by
 simp [Jj] at h;rw[zP6,Aq (by omega)]
theorem zW4 (s n:Int):Spc Tryz.prog qv3 [vI s,vI n] [] (vI (keyI s n)) []:=by
 refine qd zM4 mixm (by simp) fun e hn hst=>qh ?_;unfold ql4;refine sW ?_;refine C1.im (qG4 s n) rfl rfl ?_;simp only[tZ,↓un_u,simprocAttr,Bz];refine⟨fun h=>.imR (by simp [keyI,h]) rfl,fun h=>?_⟩;have hn:0≤n∧n<1048576:=by simp [Jj] at h;omega
 rw[Int.tdiv_eq_ediv_of_nonneg hn.1,Int.tmod_eq_emod_of_nonneg hn.1,AK _ (by omega)];have hr:=Ws (s:=s) (Wt hn);refine zs6 mixm (α:=Nat) (fun i=>i≤8) (fun i=>[(0,vI s),(5,vI (fwd s i (cut n)).1),(6,vI (fwd s i (cut n)).2),(7,vI i)]) (fun _=>[]) (fun i=>8-i) 0 (by omega) (.ofFr (by simp [qh1,TL.get,fwd,cut])) fun i hi=>?_;simp only[tZ,↓un_u,simprocAttr,AZ,Ay];refine⟨fun h1=>?_,fun h1=>?_⟩
 ·refine C1.im (qG5 s i _) rfl rfl ?_;refine sW ?_;refine⟨i+1,by omega,by omega,.ofFr ?_⟩;rw[jh9 h (by omega) (hr i).2];simp [qh1,TL.get,fwd];exact AK _ (by omega)
 ·have:i=8:=by omega
  subst this;have:=hr 8;refine .imR ?_ rfl;rw[AK _ (by rw[AK _ (by omega)];omega),AK _ (by omega)];simp [keyI,h,tie]
theorem jn4 (s n:Int):Spc Tryz.prog qJ8 [vI s,vI n] [] (vI (idI s n)) []:=by
 refine qd zU6 mixm (by simp) fun e hn hst=>qh ?_;unfold qv8;refine sW ?_;refine C1.im (qG4 s n) rfl rfl ?_;simp only[tZ,↓un_u,simprocAttr,Bz];refine⟨fun h=>.imR (by simp [idI,h]) rfl,fun h=>?_⟩;have hn:0≤n∧n<1048576:=by simp [Jj] at h;omega
 rw[Int.tdiv_eq_ediv_of_nonneg hn.1,Int.tmod_eq_emod_of_nonneg hn.1,AK _ (by omega)];have hr:=zP4 (s:=s) 8 (Wt hn);refine zs6 mixm (α:=Nat×Int×Int) (fun x=>x.1≤8∧bwd s x.1 x.2=bwd s 8 (cut n)∧(0≤x.2.1∧x.2.1<1024)∧0≤x.2.2∧x.2.2<1024) (fun x=>[(0,vI s),(5,vI x.2.1),(6,vI x.2.2),(7,vI (x.1-1:Int))]) (fun _=>[]) (fun x=>x.1) (8,cut n) ⟨by omega,rfl,Wt hn⟩ (.ofFr (by simp [qh1,TL.get,cut])) ?_;rintro ⟨k,a,b⟩ ⟨hk,hI,hab⟩;simp only[tZ,↓un_u,simprocAttr,AZ,Ay];simp only at hk hI hab;refine⟨fun h1=>?_,fun h1=>?_⟩
 ·refine C1.im (qG5 s _ _) rfl rfl ?_;refine sW ?_;obtain⟨k,rfl⟩:∃ k',k=k'+1:=⟨k-1,by omega⟩;refine⟨(k,xorI .i64 b (mixI s k a),a),⟨by simp only;omega,by simpa [bwd] using hI,qG2 hab.2 (qG3 _ _ _),hab.1⟩,by simp only;omega,.ofFr ?_⟩;have:((k+1:Nat):Int)-1=k:=by omega
  rw[this,jh9 h (by omega) hab.1];simp [qh1,TL.get];exact AK _ (by omega)
 ·have:k=0:=by omega
  subst this;have hI:(a,b)=bwd s 8 (cut n):=hI;refine .imR ?_ rfl;have h2:a=(bwd s 8 (cut n)).1:=by rw[← hI]
  have h3:b=(bwd s 8 (cut n)).2:=by rw[← hI]
  rw[AK _ (by rw[AK _ (by omega)];omega),AK _ (by omega)];simp [idI,h,tie,h2,h3]
end Go.Proofs
namespace Go.Proofs
open Go Go.TL
set_option maxHeartbeats 4000000
open So
def drw0 (seed id:Int):Int:=IntKind.u64.wrap (IntKind.u64.wrap (IntKind.u64.wrap (IntKind.u64.wrap seed*2654435761)+IntKind.u64.wrap (IntKind.u64.wrap id*40503))+97)
def drwA (h:Int):Int:=IntKind.u64.wrap (IntKind.u64.wrap (h*6364136223846793005)+1442695040888963407)
def drwX (h:Int):Int:=xorI .u64 (drwA h) (shrI .u64 (drwA h) 29)
def drwI (seed id:Int):Int:=IntKind.i64.wrap (shrI .u64 (iter drwX 3 (drw0 seed id)) 32)
def inS (x:Smp) (id:Int):Bool:=(smpE x==0)&&decide (1≤id)&&decide (id≤1048575)&&decide ((drwI x.seed id).tmod x.of<x.part)
def ownP (s:Src) (d:Dcl) (r:List Int):Bool:=(kb2 s.sch d.coh r==1)&&inS d.smp (hd r)
def ownR (s:Src) (d:Dcl):List (List Int):=if srcB s=false∨dclE s.sch d≠0 then [] else s.rows.filter (ownP s d)
def ownS (s:Src) (d:Dcl):List Int:=(ownR s d).map hd
end Go.Proofs
namespace Go.Proofs
open Go Go.TL
set_option maxHeartbeats 4000000
theorem jO7 {s:Src} (h:SrcOk s) {r:List Int} (hr:r∈s.rows):∃ j:Nat,zg2 s (hd r)=j∧∃ hj:j<s.rows.length,s.rows[j]=r:=by
 have h1:s.rows.any (atR (hd r))=true:=DJ.2 ⟨r,hr,by rw[jh8 (h.rows r hr)];simp⟩;have h2:s.rows.findIdx (atR (hd r))<s.rows.length:=List.findIdx_lt_length_of_exists (by
  obtain⟨x,a,b⟩:=DJ.1 h1;exact⟨x,a,b⟩)
 refine⟨_,by rw[zg2,Aj h1],h2,?_⟩;have h3:=List.findIdx_getElem (p:=atR (hd r)) (xs:=s.rows) (w:=h2);rw[jh8 (h.rows _ (AX h2)),AY] at h3;obtain⟨i,hi,rfl⟩:=CX hr;have hp:=DX.1 h.asc;by_cases c1:s.rows.findIdx (atR (hd s.rows[i]))<i
 ·have:=hp _ i h2 hi c1;omega
 ·by_cases c2:i<s.rows.findIdx (atR (hd s.rows[i]))
  ·have:=hp i _ hi h2 c2;omega
  ·have e:s.rows.findIdx (atR (hd s.rows[i]))=i:=by omega
   simp only[e]
theorem zg4 {s:Sch} {l:List Pk} (h:kY s l=0):l.length≤8:=by
 obtain⟨h1,h2,h3⟩:=Zd h;have hn:=(qO h1).nc;have key:∀ i (hi:i<l.length),(i:Int)+1≤l[i].col:=by
  intro i
  induction i with
  | zero=>intro hi;have:=Jb (h2 _ (AX hi));omega
  | succ i ih=>
    intro hi;have a:=ih (by omega);have b:=DX.1 h3 i (i+1) (by omega) hi (by omega);omega
 refine AQ fun c=>?_;have a:=key 7 (by omega);have b:=Jb (h2 _ (AX (show 7<l.length by omega)));omega
def rowX (s:Src) (l:List Pk) (k:Int) (r:List Int):List Int:=keyI k (hd r)::l.map fun p=>qu s.sch p.col p.lev (r.getD p.col.toNat 0)
def qG6 (s:Src) (l:List Pk) (k:Int):List (List Int)→List Int→List (List Int):=fun a r=>putR a (rowX s l k r)
def yr (s:Src) (d:Dcl) (l:List Pk) (k:Int):List (List Int):=(ownR s d).foldl (qG6 s l k) []
def buildE (s:Src) (d:Dcl) (l:List Pk) (k:Int):Int:=if srcB s=false then 13 else if zf3 s.sch d l≠0 then zf3 s.sch d l else if k<0∨k≥1152921504606846976 then 2 else 0
abbrev ext0:Ext:=⟨⟨#[]⟩,0,[],[]⟩
def qQ9 (s:Src) (d:Dcl) (l:List Pk) (k:Int):Ext:=if buildE s d l k≠0 then ext0 else ⟨d.proj,s.ver,l,yr s d l k⟩
theorem jO8 {s:Sch} {d:Dcl} {l:List Pk} (h:zf3 s d l=0):dclE s d=0∧kY s l=0:=by
 unfold zf3 at h;split at h
 ·rename_i h1;exact absurd h h1
 rename_i h1;split at h
 ·rename_i h2;exact absurd h h2
 rename_i h2;exact⟨AQ h1,AQ h2⟩
theorem ji0 (s:Src) (l:List Pk) (k:Int) (r:List Int):0<(rowX s l k r).length:=by simp [rowX]
end Go.Proofs
namespace Go.Proofs
open Go Go.TL
set_option maxRecDepth 4000
set_option maxHeartbeats 4000000
def d36:ByteArray:=⟨#[48,49,50,51,52,53,54,55,56,57,97,98,99,100,101,102,103,104,105,106,107,108,109,110,111,112,113,114,115,116,117,118,119,120,121,122]⟩
theorem zu5 {a b:ByteArray} (h:a.data.toList=b.data.toList):a=b:=by
 cases a;cases b;exact congrArg ByteArray.mk (Array.ext' h)
def dgS (n:Nat):ByteArray:=⟨#[dgt n]⟩
theorem ki7 (n:Nat) (h:n<10):d36.extract n (n+1)=dgS n:=by
 have:((List.range 10).all fun n=>(d36.extract n (n+1)).data.toList==(dgS n).data.toList)=true:=by decide +kernel
 exact zu5 (eq_of_beq (Bk.1 this n (Dk.2 h)))
theorem qG7 (c:UInt8) (n:Nat):(⟨#[c]⟩:ByteArray)++dgS n=⟨#[c,dgt n]⟩:=by
 apply zu5
 rw[ByteArray.toList_data_append]
 rfl
theorem kb8 (n:Nat) (h:n<10):Spc Tryz.prog jT [vI n] [] (vS (dgS n)) []:=by
 have h1:=qk (i:=n) (by omega);have z1:d36.size=36:=rfl;refine qd YE mixm (by simp) fun e _ hst=>qh ?_;unfold jN;simp only[tZ,↓un_u,simprocAttr,tD,h1,Ax];refine⟨fun h2=>?_,fun h2=>by omega⟩;refine⟨?_,?_⟩
 ·show (0≤(n:Int)∧(n:Int)≤((n+1:Nat):Int)∧((n+1:Nat):Int)≤(d36.size:Int));omega
 ·show Zq [] (vS (d36.extract n (n+1))) [] (vS (dgS n)) [];rw[ki7 n (by omega)];exact .oA [] []
theorem qG8 (n:Nat) (h:n<10):Spc Tryz.prog jI [vI n] [] (vS (dgS n)) []:=by
 have h1:Spc Tryz.prog zY [vI n,vI 10] [] (vS (dgS n)) []:=by
  have e1:decide (0≤(n:Int))=true:=Cx (by omega);have e2:decide ((n:Int)<100)=true:=Cx (by omega);refine qd JK mixm (by simp) fun e _ hst=>qh ?_;unfold zS;simp only[tZ,↓un_u,simprocAttr,beq_self_eq_true,e1,e2,Fq];refine C1.im (kb8 n h) (by rfl) (by rfl) ?_;refine sW ?_;exact .oA [] []
 have h2:Spc Tryz.prog kr [vI n] [] (vS (dgS n)) []:=by
  refine qd qa0 mixm (by simp) fun e _ hst=>qh ?_;unfold jW;refine sW ?_;refine C1.im h1 (by rfl) (by rfl) ?_;refine sW ?_;exact .oA [] []
 refine qd zb9 mixm (by simp) fun e _ hst=>qh ?_;unfold KT;refine sW ?_;refine C1.im h2 (by rfl) (by rfl) ?_;refine sW ?_;exact .oA [] []
def oneB (l:List UInt8) (a:Nat) (n:Int):Bool:=(nx l a n).1==n-1
theorem yG (l:List UInt8) (a:Nat) (n:Int) (hl:l.length≤400) (ha:a≤l.length) (hn:0≤n∧n≤1000000):Spc Tryz.prog zd [.ptr 0 1 0 0,vI n] [(0,oC l a)] (vB (oneB l a n)) [(0,oC l (nx l a n).2)]:=by
 have hw:IntKind.i64.wrap (n-1)=n-1:=AK _ (by omega);refine qd qK8 mixm (by simp) fun e _ hst=>qh ?_;unfold ZF;refine sW ?_;refine C1.draw 0 l a _ (jh l a n hl ha hn.2) rfl rfl rfl ?_;simp only[tZ,↓un_u,simprocAttr,hw];rw[show ((nx l a n).1==n-1)=oneB l a n from rfl];exact .oA [(0,some 0)] []
theorem yu (l:List UInt8) (a:Nat) (n:Int) (hl:l.length≤400) (ha:a≤l.length) (hn:1≤n∧n≤1000000) :
 ∃ v b,0≤v∧v<n∧b≤l.length∧Spc Tryz.prog qE [.ptr 0 1 0 0,vI n] [(0,oC l a)] (vI v) [(0,oC l b)]:=
 ⟨_,_,(yw l a n hn.1).1,(yw l a n hn.1).2,qB3 l a n ha,jh l a n hl ha hn.2⟩
theorem YL (l:List UInt8) (a:Nat) (lo hi:Int) (hl:l.length≤400) (ha:a≤l.length) (hlo : -1000000≤lo∧lo≤1000000) (hhi:lo≤hi∧hi≤lo+100000) :
 ∃ v b,lo≤v∧v≤hi∧b≤l.length∧Spc Tryz.prog qR [.ptr 0 1 0 0,vI lo,vI hi] [(0,oC l a)] (vI v) [(0,oC l b)]:=by
 have r:=yw l a (hi-lo+1) (by omega);exact⟨_,_,by omega,by omega,qB3 l a (hi-lo+1) ha,zQ l a lo hi hl ha hlo hhi⟩
theorem jE5 (l:List UInt8) (a:Nat) (n:Int) (hl:l.length≤400) (ha:a≤l.length) (hn:0≤n∧n≤1000000) :
 ∃ o b,b≤l.length∧Spc Tryz.prog zd [.ptr 0 1 0 0,vI n] [(0,oC l a)] (vB o) [(0,oC l b)]:=
 ⟨_,_,qB3 l a n ha,yG l a n hl ha hn⟩
theorem kb9 (m:Nat) (h:m<4):wTab.getD m []∈wTab:=by rw[qg (by exact h)];exact AX _
theorem JW (n:Nat) (l:List UInt8) (a:Nat) (hl:l.length≤400) (ha:a≤l.length) :
 ∃ r:Col×Nat,(DrM n r.1∧r.2≤l.length)∧Spc Tryz.prog wW [.ptr 0 1 0 0,vS ⟨#[109,dgt n]⟩] [(0,oC l a)] (colT r.1) [(0,oC l r.2)]:=by
 have h1:=zQ l a (-4) 2 hl ha (by omega) (by omega);have r1:=yw l a (2 - -4+1) (by omega);have b1:=qB3 l a (2 - -4+1) ha;generalize nx l a (2 - -4+1)=x1 at h1 r1 b1;have h2:=jh l x1.2 4 hl b1 (by omega);have r2:=yw l x1.2 4 (by omega);have b2:=qB3 l x1.2 4 b1;generalize nx l x1.2 4=x2 at h2 r2 b2;have h3:=yG l x2.2 3 hl b2 (by omega);have b3:=qB3 l x2.2 3 b2;generalize (nx l x2.2 3).2=a3 at h3 b3;generalize oneB l x2.2 3=o at h3;have h4:=jh l a3 45 hl b3 (by omega);have r4:=yw l a3 45 (by omega);have b4:=qB3 l a3 45 b3;generalize nx l a3 45=x4 at h4 r4 b4;refine⟨(⟨⟨#[109,dgt n]⟩,3,0,-4+x1.1,-4+x1.1+x4.1,wTab.getD x2.1.toNat [],o⟩,x4.2),⟨⟨rfl,rfl,rfl,by dsimp only;omega,by dsimp only;omega,kb9 _ (by omega)⟩,b4⟩,?_⟩;obtain⟨m,hm⟩:=AJ r2.1;have hw:IntKind.i64.wrap (-4+x1.1+x4.1) = -4+x1.1+x4.1:=AK _ (by omega);refine qd ql3 mixm (by simp) fun e _ hst=>qh ?_;unfold wq;refine sW ?_;refine C1.draw 0 l a _ h1 rfl rfl rfl ?_;refine sW ?_;refine C1.draw 0 l x1.2 _ h2 rfl rfl rfl ?_;rw[hm] at r2 ⊢
 rw[Ax];have hm4:m=0∨m=1∨m=2∨m=3:=by omega
 have k0:wTab.getD 0 []=[1]:=rfl;have k1:wTab.getD 1 []=[1,5]:=rfl;have k2:wTab.getD 2 []=[1,5,20]:=rfl;have k3:wTab.getD 3 []=[1,2,4,12]:=rfl;rcases hm4 with e | e | e | e
 all_goals (
  subst e;simp only[tZ,↓un_u,simprocAttr,Ax,k0,k1,k2,k3]
  repeat (refine⟨by omega,?_⟩)
  refine C1.draw 0 l x2.2 _ h3 rfl rfl rfl ?_;refine sW ?_;refine⟨by kernel_rfl,?_⟩;refine C1.draw 0 l a3 _ h4 rfl rfl rfl ?_;simp only[tZ,↓un_u,simprocAttr,hw];refine⟨by kernel_rfl,?_⟩
  )
 ·exact .oA [(0,some 0)] [8204]
 ·exact .oA [(0,some 0)] [8208]
 ·exact .oA [(0,some 0)] [8212]
 ·exact .oA [(0,some 0)] [8216]
def addN (i:Nat):Nat→List Cod→List Cod
 | 0,cs=>cs
 | k+1,cs=>addN i k (addL cs i)
theorem zg5 (i:Nat):∀ (k:Nat) (cs:List Cod),(List.range k).foldl (fun cs _=>addL cs i) cs=addN i k cs:=by
 have key:∀ (m:List Nat) (cs:List Cod),m.foldl (fun cs _=>addL cs i) cs=addN i m.length cs:=by
  intro m
  induction m with
  | nil=>intro cs;rfl
  | cons x m ih=>intro cs;rw[Dw,ih];rfl
 intro k cs;rw[key,List.length_range]
theorem zP7:∀ (ns:List Nat) (cs:List Cod) (i n:Nat),lefL cs i (ns++[n])=addN (i+ns.length) n (lefL cs i ns)
 | [],cs,i,n=>by rw[Cy,lefL,lefL,zg5];rfl
 | x::r,cs,i,n=>by rw[BW,lefL,lefL,zP7 r _ (i+1) n,CJ,show i+1+r.length=i+(r.length+1) by omega]
theorem ji1 (i:Nat):∀ (k:Nat) (cs:List Cod),(addN i k cs).length=cs.length+k
 | 0,cs=>rfl
 | k+1,cs=>by rw[addN,ji1 i k,addL,AW];simp;omega
theorem ji2:∀ (ns:List Nat) (cs:List Cod) (i:Nat),(∀ x∈ns,x=1∨x=2)→cs.length+ns.length≤(lefL cs i ns).length∧(lefL cs i ns).length≤cs.length+2*ns.length
 | [],cs,i,_=>by rw[lefL];simp
 | x::r,cs,i,h=>by
   have h1:=ji2 r ((List.range x).foldl (fun cs _=>addL cs i) cs) (i+1) fun y hy=>h y (CQ _ hy);rw[zg5,ji1] at h1;rw[lefL,zg5,CJ];have:=h x (by simp);omega
theorem qa9 (nm:ByteArray) (hnm:nm=zN2∨nm=zN3) (l:List UInt8) (a:Nat) (hl:l.length≤400) (ha:a≤l.length) :
 ∃ r:CodL×Nat,(DrL nm r.1∧r.2≤l.length)∧Spc Tryz.prog wG [.ptr 0 1 0 0,vS nm] [(0,oC l a)] (cdlT r.1) [(0,oC l r.2)]:=by
 have h1:=zQ l a 1 3 hl ha (by omega) (by omega);have r1:=yw l a (3-1+1) (by omega);have b1:=qB3 l a (3-1+1) ha;generalize nx l a (3-1+1)=x1 at h1 r1 b1;obtain⟨K,hK⟩:=AJ (show 0≤1+x1.1 by omega);rw[hK] at h1;have hK3:1≤K∧K≤3:=by omega
 refine jd qC0 mixm (fun r:CodL×Nat=>cdlT r.1) (fun r=>[(0,oC l r.2)]) (by simp) ?_;unfold QK;refine sW ?_;refine XE.mp (fun _ _=>C1.draw 0 l a _ h1 rfl rfl rfl) ?_;refine sW ?_;have hk0:(qi4 0).map codT=[.agg [vS ⟨#[116,111,112]⟩,vI (-1)]]:=rfl;have hkl:∀ i,(qi4 i).length=i+1:=fun i=>by simp [qi4]
 have hks:∀ i,qi4 (i+1)=qi4 i++[kidC i]:=fun i=>by rw[qi4,List.range_succ,By];rfl
 refine XE.loopF mixm [7] (fun i:Nat=>i≤K) (fun i=>[(7,vI i)]) (fun i=>[(0,oC l x1.2),(4096,.arr 2 [cdlT default] false),(8200,.arr 2 ((qi4 i).map codT) false),(8208,.arr 2 [.agg [vS nm,.asl 8200 (i+1)]] false)]) (fun i=>K-i) 0 (by omega) (fun e ⟨_,hst⟩=>?_) fun T' i hi ih=>?_
 ·simp only[hk0];exact .oA [(0,some 0),(4096,some 4096),(8200,some 8200),(8208,some 8208)] []
 simp only[tZ,↓un_u,simprocAttr,AZ,Ay];refine XE.brN (fun h=>?_) (fun h=>?_)
 ·have hwi:=qk (i:=i) (by omega);refine XE.mp (fun _ _=>C1.im (qG8 i (by omega)) (by rfl) (by rfl)) ?_;simp only[tZ,↓un_u,simprocAttr,hwi];refine XE.sd (show 1+1≤9223372036854775807 by omega) (XE.sd ⟨hkl i,by omega⟩ (XE.sd (hkl i) (XE.sd (by kernel_rfl) ?_)));refine XE.next ih (i+1) (by omega) (by omega) fun e ⟨_,hst⟩=>?_;rw[qG7,hks];exact .oA [(0,some 0),(4096,some 4096),(8200,some 8200),(8208,some 8208)] []
 ·have hiK:i=K:=by omega
  subst hiK;have h2:=yG l x1.2 2 hl b1 (by omega);have b2:=qB3 l x1.2 2 b1;generalize (nx l x1.2 2).2=a2 at h2 b2;generalize oneB l x1.2 2=o at h2;refine XE.mp (fun _ _=>C1.draw 0 l x1.2 _ h2 rfl rfl rfl) ?_;refine sW ?_;refine XE.brB (fun h3=>?_) (fun h3=>?_)
  ·refine XE.fin (⟨nm,qi4 i⟩,a2) ⟨⟨rfl,(jD0 hnm hK3).1,by rw[hkl];omega⟩,b2⟩ fun e ⟨_,hst⟩=>?_;have hkli:=hkl i;refine⟨hkl i,?_⟩;exact .oA [(0,some 0)] [8200]
  ·refine XE.loopF mixm [8] (fun y:List Nat×Nat=>y.1.length≤i∧(∀ x∈y.1,x=1∨x=2)∧y.2≤l.length) (fun y=>[(8,vI y.1.length)]) (fun y=>[(0,oC l y.2),(4096,.arr 2 [cdlT default] false),(8200,.arr 2 ((lefL (qi4 i) 0 y.1).map codT) false),(8208,.arr 2 [.agg [vS nm,.asl 8200 (lefL (qi4 i) 0 y.1).length]] false)]) (fun y=>i-y.1.length) ([],a2) ⟨by simp,by simp,b2⟩ (fun e ⟨_,hst⟩=>?_) fun T2 y hy ih2=>?_
   ·have hkli:=hkl i;simp only[lefL];refine .of [(0,some 0),(4096,some 4096),(8200,some 8200),(8208,some 8208)] [] rfl (by first | rfl | (rw[hst];rfl)) ?_ ?_
    all_goals (try simp only[tL,simprocAttr,By,List.map_cons,List.map_nil,BW,Cy,hkl])
    all_goals (try (repeat' (first | exact ze | (apply zB;intro _;exact⟨rfl,rfl⟩) | (apply qH;intro _;exact⟨rfl,rfl⟩) | with_reducible apply qX | with_reducible refine qT ⟨rfl,rfl⟩ ?_ | exact qY | with_reducible apply qU | with_reducible refine qW ⟨rfl,rfl,?_⟩ ?_ | with_reducible apply Az | exact qV rfl | exact qV (by assumption) | (refine⟨⟨?_,rfl,?_,rfl,?_⟩,trivial⟩ <;> first | (simp;done) | (apply qH;intro _;exact⟨rfl,rfl⟩)) | trivial | rfl | (rw[qk (by omega)]) | omega)))
   obtain⟨ns,a3⟩:=y;obtain⟨y1,y2,y3⟩:=hy;dsimp only at y1 y2 y3;have hll:=ji2 ns (qi4 i) 0 y2;rw[hkl] at hll;simp only[tZ,↓un_u,simprocAttr,AZ,Ay];refine XE.brN (fun h4=>?_) (fun h4=>?_)
   ·have h5:=zQ l a3 1 2 hl y3 (by omega) (by omega);have r5:=yw l a3 (2-1+1) (by omega);have b5:=qB3 l a3 (2-1+1) y3;generalize nx l a3 (2-1+1)=x5 at h5 r5 b5;obtain⟨M,hM⟩:=AJ (show 0≤1+x5.1 by omega);rw[hM] at h5;have hsn:=zP7 ns (qi4 i) 0 M;rw[Nat.zero_add] at hsn;refine XE.mp (fun _ _=>C1.draw 0 l a3 _ h5 rfl rfl rfl) ?_;refine sW ?_;generalize lefL (qi4 i) 0 ns=cs at hll hsn ⊢
    refine XE.loopF mixm [9] (fun z:Nat×List Cod=>addN ns.length z.1 z.2=addN ns.length M cs∧z.2.length+z.1=cs.length+M) (fun z=>[(9,vI z.1)]) (fun z=>[(0,oC l x5.2),(4096,.arr 2 [cdlT default] false),(8200,.arr 2 (z.2.map codT) false),(8208,.arr 2 [.agg [vS nm,.asl 8200 z.2.length]] false)]) (fun z=>z.1) (M,cs) ⟨rfl,rfl⟩ (fun e ⟨_,hst⟩=>?_) fun T3 z hz ih3=>?_
    ·exact .oA [(0,some 0),(4096,some 4096),(8200,some 8200),(8208,some 8208)] []
    obtain⟨k,ds⟩:=z;obtain⟨z1,z2⟩:=hz;dsimp only at z1 z2;simp only[tZ,↓un_u,simprocAttr,AZ,Ay];refine XE.brN (fun h6=>?_) (fun h6=>?_)
    ·have hwn:=qk (i:=ns.length) (by omega);have hwk:=kg (i:=k) (by omega) (by omega);have hw1:IntKind.i64.wrap (1+(ns.length:Int))=1+(ns.length:Int):=AK _ (by omega);refine XE.mp (fun _ _=>C1.im (qG8 ds.length (by omega)) (by rfl) (by rfl)) ?_;simp only[tZ,↓un_u,simprocAttr,hwk,hw1];refine XE.sd (show 1+1≤9223372036854775807 by omega) (XE.sd (by omega) (XE.sd (by kernel_rfl) ?_));refine XE.next ih3 (k-1,addL ds ns.length) ⟨?_,by dsimp only;rw[addL,AW];simp;omega⟩ (by dsimp only;omega) fun e ⟨_,hst⟩=>?_
     ·dsimp only;rw[← z1];obtain⟨j,rfl⟩:∃ j,k=j+1:=⟨k-1,by omega⟩
      rfl
     ·rw[qG7];have e1:addL ds ns.length=ds++[⟨⟨#[108,dgt ds.length]⟩,1+(ns.length:Int)⟩]:=rfl;rw[e1];exact .oA [(0,some 0),(4096,some 4096),(8200,some 8200),(8208,some 8208)] []
    ·have hk0:k=0:=by omega
     subst hk0;have hwn:=qk (i:=ns.length) (by omega);rw[addN,← hsn] at z1;simp only[tZ,↓un_u,simprocAttr,hwn];refine XE.next ih2 (ns++[M],x5.2) ⟨by simp;omega,fun x hx=>?_,b5⟩ (by simp;omega) fun e ⟨_,hst⟩=>?_
     ·rcases Dz.1 hx with hx | hx
      ·exact y2 x hx
      ·rw[Ey.1 hx];omega
     ·simp only[z1,AW,CJ,Cw];rw[← z1];exact .oA [(0,some 0),(4096,some 4096),(8200,some 8200),(8208,some 8208)] []
   ·have hni:ns.length=i:=by omega
    have hok:=(jD0 hnm hK3).2 ns hni y2;refine XE.fin (⟨nm,lefL (qi4 i) 0 ns⟩,a3) ⟨⟨rfl,hok,by dsimp only;omega⟩,y3⟩ fun e ⟨_,hst⟩=>?_;exact .oA [(0,some 0)] [8200]
end Go.Proofs
namespace Go.Proofs
open Go Go.TL
set_option maxRecDepth 4000
set_option maxHeartbeats 4000000
theorem qz0 (l:List UInt8) (a:Nat) (hl:l.length≤400) (ha:a≤l.length) :
 ∃ r:Sch×Nat,(DrS r.1∧r.2≤l.length)∧Spc Tryz.prog yH [.ptr 0 1 0 0] [(0,oC l a)] (schT r.1) [(0,oC l r.2)]:=by
 obtain⟨⟨A,a1⟩,⟨dA,ha1⟩,sA⟩:=qa9 zN2 (.inl rfl) l a hl ha;obtain⟨⟨B,a2⟩,⟨dB,ha2⟩,sB⟩:=qa9 zN3 (.inr rfl) l a1 hl ha1;dsimp only at dA ha1 sA dB ha2 sB;have h1:=yG l a2 2 hl ha2 (by omega);have b1:=qB3 l a2 2 ha2;generalize (nx l a2 2).2=a3 at h1 b1;generalize oneB l a2 2=o at h1;have h2:=zQ l a3 1 3 hl b1 (by omega) (by omega);have r2:=yw l a3 (3-1+1) (by omega);have b2:=qB3 l a3 (3-1+1) b1;generalize nx l a3 (3-1+1)=x2 at h2 r2 b2;obtain⟨N,hN⟩:=AJ (show 0≤1+x2.1 by omega);rw[hN] at h2;refine jd qq8 mixm (fun r:Sch×Nat=>schT r.1) (fun r=>[(0,oC l r.2)]) (by simp) ?_;unfold yb;refine sW ?_;refine XE.mp (fun _ _=>C1.draw 0 l a _ sA rfl rfl rfl) ?_;refine sW ?_;refine XE.mp (fun _ _=>C1.draw 0 l a1 _ sB rfl rfl rfl) ?_;refine sW ?_;refine XE.mp (fun _ _=>C1.draw 0 l a2 _ h1 rfl rfl rfl) ?_;refine sW ?_;refine XE.brB (fun ho=>?_) (fun ho=>?_)
 ·refine XE.mp (fun _ _=>C1.draw 0 l a3 _ h2 rfl rfl rfl) ?_;refine sW ?_;refine XE.loopF mixm [4,15] (fun y:List Col×Nat=>y.1.length≤N∧(∀ i (h:i<y.1.length),DrM (3+i) y.1[i])∧y.2≤l.length) (fun y=>[(4,vI ((N-y.1.length:Nat):Int))]) (fun y=>[(0,oC l y.2),(4096,.arr 2 [schT default] false),(8208,.arr 2 [cdlT A,cdlT B] false),(8220,.arr 7 (([whoC,sexC,jobC]++y.1).map colT) false),(8228,.arr 2 [.agg [.asl 8208 2,.asl 8220 (3+y.1.length)]] false)]) (fun y=>N-y.1.length) ([],x2.2) ⟨by simp,fun i h=>by simp at h,b2⟩ (fun e ⟨_,hst⟩=>?_) fun T' y hy ih=>?_
  ·show Le _ _ ⟨[(4,vI N),(0,_),(2,_),(3,_)],[(0,oC l x2.2),(4096,.arr 2 [schT default] false),(8208,.arr 2 [cdlT A,cdlT B] false),(8220,.arr 7 [colT whoC,colT sexC,colT jobC] false),(8228,.arr 2 [.agg [.asl 8208 2,.asl 8220 3]] false)]⟩;exact .oA [(0,some 0),(4096,some 4096),(8208,some 8208),(8220,some 8220),(8228,some 8228)] []
  obtain⟨ms,a4⟩:=y;obtain⟨y1,y2,y3⟩:=hy;dsimp only at y1 y2 y3;simp only[tZ,↓un_u,simprocAttr,AZ,Ay];refine XE.brN (fun h4=>?_) (fun h4=>?_)
  ·have hlt:ms.length<N:=by omega
   have hI:=qG8 (3+ms.length) (by omega);obtain⟨⟨M,a5⟩,⟨dM,ha5⟩,sM⟩:=JW (3+ms.length) l a4 hl y3;dsimp only at dM ha5 sM;have hwk:=kg (i:=N-ms.length) (by omega) (by omega);refine XE.sd (by omega) ?_;refine XE.mp (fun _ _=>C1.im hI (by rfl) (by rfl)) ?_;simp only[tZ,↓un_u,simprocAttr,qG7];refine XE.sd (show 1+1≤9223372036854775807 by omega) ?_;refine XE.mp (fun _ _=>C1.draw 0 l a4 _ sM rfl rfl rfl) ?_;simp only[tZ,↓un_u,simprocAttr,hwk];refine XE.sd (by omega) (XE.sd (by omega) (XE.sd (by kernel_rfl) ?_));refine XE.next ih (ms++[M],a5) ⟨by simp;omega,fun i h=>?_,ha5⟩ (by simp;omega) fun e ⟨_,hst⟩=>?_
   ·dsimp only at h ⊢
    by_cases hi:i<ms.length
    ·rw[List.getElem_append_left hi];exact y2 i hi
    ·have he:i=ms.length:=by rw[AW] at h;simp at h;omega
     subst he;rw[List.getElem_append_right (BZ _)];simpa using dM
   ·have e1:N-(ms++[M]).length=N-ms.length-1:=by rw[AW];simp;omega
    simp only[e1];exact .oA [(0,some 0),(4096,some 4096),(8208,some 8208),(8220,some 8220),(8228,some 8228)] []
  ·have hnl:ms.length=N:=by omega
   refine XE.fin (⟨[A,B],[whoC,sexC,jobC]++ms⟩,a4) ⟨⟨⟨A,B,rfl,dA,dB⟩,⟨ms,.inr ⟨rfl,y2⟩,by omega,by omega⟩⟩,y3⟩ fun e ⟨_,hst⟩=>?_;refine⟨by omega,?_⟩;exact .oA [(0,some 0)] [8208,8220]
 ·refine XE.mp (fun _ _=>C1.draw 0 l a3 _ h2 rfl rfl rfl) ?_;refine sW ?_;refine XE.loopF mixm [4,15] (fun y:List Col×Nat=>y.1.length≤N∧(∀ i (h:i<y.1.length),DrM (2+i) y.1[i])∧y.2≤l.length) (fun y=>[(4,vI ((N-y.1.length:Nat):Int))]) (fun y=>[(0,oC l y.2),(4096,.arr 2 [schT default] false),(8208,.arr 2 [cdlT A,cdlT B] false),(8220,.arr 7 (([whoC,sexC]++y.1).map colT) false),(8228,.arr 2 [.agg [.asl 8208 2,.asl 8220 (2+y.1.length)]] false)]) (fun y=>N-y.1.length) ([],x2.2) ⟨by simp,fun i h=>by simp at h,b2⟩ (fun e ⟨_,hst⟩=>?_) fun T' y hy ih=>?_
  ·show Le _ _ ⟨[(4,vI N),(0,_),(2,_),(3,_)],[(0,oC l x2.2),(4096,.arr 2 [schT default] false),(8208,.arr 2 [cdlT A,cdlT B] false),(8220,.arr 7 [colT whoC,colT sexC] false),(8228,.arr 2 [.agg [.asl 8208 2,.asl 8220 2]] false)]⟩;exact .oA [(0,some 0),(4096,some 4096),(8208,some 8208),(8220,some 8220),(8228,some 8228)] []
  obtain⟨ms,a4⟩:=y;obtain⟨y1,y2,y3⟩:=hy;dsimp only at y1 y2 y3;simp only[tZ,↓un_u,simprocAttr,AZ,Ay];refine XE.brN (fun h4=>?_) (fun h4=>?_)
  ·have hlt:ms.length<N:=by omega
   have hI:=qG8 (2+ms.length) (by omega);obtain⟨⟨M,a5⟩,⟨dM,ha5⟩,sM⟩:=JW (2+ms.length) l a4 hl y3;dsimp only at dM ha5 sM;have hwk:=kg (i:=N-ms.length) (by omega) (by omega);refine XE.sd (by omega) ?_;refine XE.mp (fun _ _=>C1.im hI (by rfl) (by rfl)) ?_;simp only[tZ,↓un_u,simprocAttr,qG7];refine XE.sd (show 1+1≤9223372036854775807 by omega) ?_;refine XE.mp (fun _ _=>C1.draw 0 l a4 _ sM rfl rfl rfl) ?_;simp only[tZ,↓un_u,simprocAttr,hwk];refine XE.sd (by omega) (XE.sd (by omega) (XE.sd (by kernel_rfl) ?_));refine XE.next ih (ms++[M],a5) ⟨by simp;omega,fun i h=>?_,ha5⟩ (by simp;omega) fun e ⟨_,hst⟩=>?_
   ·dsimp only at h ⊢
    by_cases hi:i<ms.length
    ·rw[List.getElem_append_left hi];exact y2 i hi
    ·have he:i=ms.length:=by rw[AW] at h;simp at h;omega
     subst he;rw[List.getElem_append_right (BZ _)];simpa using dM
   ·have e1:N-(ms++[M]).length=N-ms.length-1:=by rw[AW];simp;omega
    simp only[e1];exact .oA [(0,some 0),(4096,some 4096),(8208,some 8208),(8220,some 8220),(8228,some 8228)] []
  ·have hnl:ms.length=N:=by omega
   refine XE.fin (⟨[A,B],[whoC,sexC]++ms⟩,a4) ⟨⟨⟨A,B,rfl,dA,dB⟩,⟨ms,.inl ⟨rfl,y2⟩,by omega,by omega⟩⟩,y3⟩ fun e ⟨_,hst⟩=>?_;refine⟨by omega,?_⟩;exact .oA [(0,some 0)] [8208,8220]
end Go.Proofs
