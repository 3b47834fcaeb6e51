/- A part of the proof: trees of Go values, short forms, contracts. -/
import Derived.WalkKit
import Derived.Still
import Derived.MapKept
import GoSem.Builtin.Cap
import Derived.Laws.Externs
import GoSem.Extern.SlicesOverlaps
import Derived.Carry
import Derived.ProofKit
import Derived.OpenShut
import Derived.HandedShaped
import Derived.Lay
import Derived.LaidLaws
import Derived.MakeChecks
import Derived.SevenTiedAt
import Derived.Test.YtpmgddadeedmbaaGreatDoorChecked
import Derived.Test.YtpmgddadeedmbaaGreatDoorK24
set_option linter.unusedSimpArgs false
set_option linter.unusedVariables false
namespace Go.Proofs
open Go Go.TL
set_option maxRecDepth 4000
set_option maxHeartbeats 8000000
open So
def fitV (s:Sch) (ps:List Pk) (row:List Int) (i:Nat):Bool:=(jm9 s (ps.getD i default).col.toNat (ps.getD i default).lev (row.getD (i+1) 0)).2
def fitX (s:Sch) (ps:List Pk) (row:List Int):Bool:=(row.length==ps.length+1)&&decide (0≤hd row)&&decide (hd row≤1048575)&&(List.range ps.length).all (fitV s ps row)
theorem jn3 {n:Nat} {p:Nat→Bool}:(List.range (n+1)).all p=((List.range n).all p&&p n):=by
 rw[List.range_succ,List.all_append];simp
theorem jH7 {n m:Nat} {p:Nat→Bool} (h:n<m) (hp:p n=false):(List.range m).all p=false:=by
 rw[List.all_eq_false];exact⟨n,List.mem_range.2 h,by rw[hp];simp⟩
theorem zp3 (s:Sch) (ps:List Pk) (row:List Int) (hp:Qd s ps=0) (hr:row.length<4611686018427387904):Spc Tryz.prog WM [schT s,vPs ps,vIs row] [] (vB (fitX s ps row)) []:=by
 obtain⟨hE,hpk,_⟩:=qm7 hp;have hpl:=zg1 hp;have hwl:=qj (i:=ps.length) (by omega);by_cases hl:row.length=ps.length+1
 ·have h0:0<row.length:=by omega
  have hgi:=yU h0;have q1:((row.length:Int) != ((ps.length+1:Nat):Int))=false:=by rw[Aw];omega
  have hX:fitX s ps row=(decide (0≤hd row)&&decide (hd row≤1048575)&&(List.range ps.length).all (fitV s ps row)):=by
   rw[fitX,beq_iff_eq.2 hl,Bool.true_and]
  rw[hX];refine qd KU mixm (by simp) fun e _ hst=>qg ?_;unfold wj;simp only[tZ,↓un_u,simprocAttr,hwl,q1,hgi,tD,gt_iff_lt];refine⟨by omega,by omega,fun h=>?_,fun h=>?_⟩
  ·rw[show (decide (0≤hd row)&&decide (hd row≤1048575))=false from by
    rw[Bool.eq_false_iff];intro k;simp only[Bq,AZ] at k;omega,Bool.false_and]
   exact .oA [] []
  rw[show (decide (0≤hd row)&&decide (hd row≤1048575))=true from by simp only[Bq,AZ];omega,Bool.true_and];refine qu mixm (α:=Nat) [31] (fun i=>i≤ps.length∧((List.range i).all (fitV s ps row)=true)) (fun i=>[(31,vI i)]) (fun i=>[(4096,.arr 2 [schT s] false)]) (fun i=>ps.length-i) 0 ⟨by omega,?_⟩ ?_ fun i hi=>?_
  ·rfl
  ·exact .oA [(4096,some 4096)] []
  simp only[tZ,↓un_u,simprocAttr,AZ,Ay];refine⟨fun h=>?_,fun h=>?_⟩
  ·have hi2:i<ps.length:=by omega
   have hpi:=qp4 (hpk _ (AX hi2));obtain⟨c,hc⟩:=AJ (show 0≤ps[i].col by omega);have hwi:=qj (i:=i) (by omega);have hs:=zC4 s hE c (by omega) (by omega) ps[i].lev (row.getD (i+1) 0) (by rw[hc] at hpi;omega);have hrl:i+1<row.length:=by omega
   have hgr:(row.map vI).getD (i+1) .junk=vI (row.getD (i+1) 0):=by rw[qe hrl,qh hrl]
   have hV:fitV s ps row i=(jm9 s c ps[i].lev (row.getD (i+1) 0)).2:=by rw[fitV,qh hi2,hc,Ax]
   have hi2:i<ps.length:=by omega
   have hwi:=qj (i:=i) (by omega);simp only[tZ,↓un_u,simprocAttr,Ax,qe hi2,hwi,hc,hgr];refine⟨by omega,by omega,?_⟩;refine C1.im hs (by rfl) (by rfl) ?_;simp only[tZ,↓un_u,simprocAttr,Bx,Bz,hwi];refine⟨by kernel_rfl,fun h6=>?_,fun h6=>?_⟩
   ·rw[jH7 hi2 (hV.trans h6)];exact .oA [] []
   ·refine⟨i+1,⟨by omega,by rw[jn3,hi.2,hV,h6];rfl⟩,by omega,?_⟩;exact .oA [(4096,some 4096)] []
  ·have hi2:i=ps.length:=by omega
   subst hi2;rw[hi.2];exact .oA [] []
 ·have q1:((row.length:Int) != ((ps.length+1:Nat):Int))=true:=by rw[bne_iff_ne];omega
  have hX:fitX s ps row=false:=by
   rw[fitX,beq_eq_false_iff_ne.2 hl]
   rfl
  rw[hX];by_cases h0:0<row.length
  ·have hgi:=yU h0;refine qd KU mixm (by simp) fun e _ hst=>qg ?_;unfold wj;simp only[tZ,↓un_u,simprocAttr,hwl,q1,hgi];exact .oA [] []
  ·obtain rfl:row=[]:=List.length_eq_zero_iff.1 (by omega);have hb1:∀ n,binR BinOp.lss false (((List.map vI ([]:List Int)).getD 0 T.junk).cells.getD 0 T.junk) (T.v (Value.int IntKind.i64 n))=none:=fun _=>rfl;have hb2:∀ n,binR BinOp.gtr false (((List.map vI ([]:List Int)).getD 0 T.junk).cells.getD 0 T.junk) (T.v (Value.int IntKind.i64 n))=none:=fun _=>rfl;have q0:((0:Int) != ((ps.length+1:Nat):Int))=true:=by rw[bne_iff_ne];omega
   refine qd KU mixm (by simp) fun e _ hst=>qg ?_;unfold wj;simp only[tZ,↓un_u,simprocAttr,hwl,q0,hb1,hb2];exact .oA [] []
theorem zX2 {s:Sch} {ps:List Pk} {row:List Int} (h:fitX s ps row=true):row.length=ps.length+1∧0≤hd row∧hd row≤1048575:=by
 unfold fitX at h;simp only[Bq,AY,AZ] at h;exact⟨h.1.1.1,h.1.1.2,h.1.2⟩
def zX3 (s:Sch) (x:Ext) (i:Nat):Int:=if fitX s x.picks (x.rows.getD i [])=false then 9 else if 0<i∧hd (x.rows.getD i [])≤hd (x.rows.getD (i-1) []) then 10 else 0
def extE (s:Sch) (x:Ext):Int:=if schE s≠0 then schE s else if jm x.proj=false then 3 else if x.ver<0∨x.ver>300 then 13 else if Qd s x.picks≠0 then Qd s x.picks else if x.rows.length>200 then 1 else zC (zX3 s x) x.rows.length
theorem qo3 (s:Sch) (hs:yR s) (x:Ext) (hp:x.picks.length<4611686018427387904) (hr:∀ r∈x.rows,r.length<4611686018427387904):Spc Tryz.prog Qm [schT s,extT x] [] (vI (extE s x)) []:=by
 refine qd qR7 mixm (by simp) fun e _ hst=>qg ?_;unfold Jt;refine sW ?_;refine C1.im (zY s hs.2.1 hs.1) (by rfl) (by rfl) ?_;simp only[tZ,↓un_u,simprocAttr,bne_iff_ne,Aw];refine⟨fun h=>?_,fun h=>?_⟩
 ·rw[extE,Aj h];exact .oA [] []
 rw[extE,Aq (by rw[h];simp)];refine C1.im (ww x.proj) (by rfl) (by rfl) ?_;simp only[tZ,↓un_u,simprocAttr,tD,Bx,Bz,gt_iff_lt];refine⟨fun h2=>?_,fun h2=>⟨fun h3=>?_,fun h3=>?_⟩⟩
 ·rw[Aj h2];exact .oA [] []
 ·rw[Aq (by rw[h2];simp),Aj h3];exact .oA [] []
 rw[Aq (by rw[h2];simp),Aq (by omega)];refine C1.im (qu0 s hs x.picks hp) (by rfl) (by rfl) ?_;simp only[tZ,↓un_u,simprocAttr,bne_iff_ne,Aw];refine⟨fun h4=>?_,fun h4=>?_⟩
 ·rw[Aj h4];exact .oA [] []
 rw[Aq (by rw[h4];simp)];simp only[tZ,↓un_u,simprocAttr,tD,gt_iff_lt];refine⟨fun h5=>?_,fun h5=>?_⟩
 ·rw[Aj (by omega)];exact .oA [] []
 rw[Aq (by omega)];generalize hE:zC (zX3 s x) x.rows.length=E;refine qu mixm (α:=Nat) [42] (fun i=>i≤x.rows.length∧(zC (zX3 s x) i=0)) (fun i=>[(42,vI i)]) (fun i=>[(4096,.arr 2 [schT s] false),(4100,.arr 4 [extT x] false)]) (fun i=>x.rows.length-i) 0 ⟨by omega,?_⟩ ?_ fun i hi=>?_
 ·rfl
 ·exact .oA [(4096,some 4096),(4100,some 4100)] []
 simp only[tZ,↓un_u,simprocAttr,AZ,Ay];refine⟨fun h=>?_,fun h=>?_⟩
 ·have hi2:i<x.rows.length:=by omega
  have hg:x.rows.getD i []=x.rows[i]:=qh hi2;have hstep:=Qc hi.2 hi2;have hnext:=jI hi.2;have hA:zX3 s x i=if fitX s x.picks x.rows[i]=false then 9 else if 0<i∧hd x.rows[i]≤hd (x.rows.getD (i-1) []) then 10 else 0:=by rw[zX3,hg]
  have hprev:0<i→fitX s x.picks (x.rows.getD (i-1) [])=true:=fun h0=>by
   have:=ZQ hi.2 (i-1) (by omega);unfold zX3 at this;split at this
   ·cases this
   ·rename_i k;simpa using k
  rw[hE] at hstep;have hF:=zp3 s x.picks x.rows[i] h4 (hr _ (AX hi2));obtain⟨k,hk1,hk2,hk3⟩:∃ k:Nat,(IntKind.i64.wrap ((i:Int)-1)).toNat=k∧k<x.rows.length∧(i=0∧k=0∨0<i∧k+1=i∧IntKind.i64.wrap ((i:Int)-1)=k):=by
   rcases Nat.eq_zero_or_pos i with h0 | h0
   ·subst h0;exact⟨0,by decide,hi2,.inl ⟨rfl,rfl⟩⟩
   ·have e:=ka h0 (show i<4611686018427387904 by omega);exact⟨i-1,by rw[e];omega,by omega,.inr ⟨h0,by omega,e⟩⟩
  have hwi:=qj (i:=i) (by omega);have hi2:i<x.rows.length:=by omega
  have hwi:=qj (i:=i) (by omega);simp only[tZ,↓un_u,simprocAttr,Ax,qe hi2,hwi];refine⟨by omega,?_⟩;refine C1.im hF (by rfl) (by rfl) ?_;simp only[tZ,↓un_u,simprocAttr,Bx,Bz];refine⟨fun h6=>?_,fun h6=>?_⟩
  ·rw[Aj h6] at hA;rw[hstep (by rw[hA];simp),hA];exact .oA [] []
  rw[Aq (by rw[h6];simp)] at hA;obtain⟨f1,f2,f3⟩:=zX2 h6;have hip:0<x.rows[i].length:=by omega
  have hkp:0<x.rows[k].length:=by
   rcases hk3 with⟨a,b⟩ | ⟨a,b,_⟩
   ·subst a;subst b;exact hip
   ·have:=(zX2 (hprev a)).1;rw[show i-1=k by omega,qh hk2] at this;omega
  have hgk:0<i→x.rows.getD (i-1) []=x.rows[k]:=fun h0=>by
   rw[show i-1=k by omega,qh hk2]
  simp only[tZ,↓un_u,simprocAttr,hk1,qe hk2,yU hip,yU hkp,tD,gt_iff_lt,hwi];refine⟨fun _=>by omega,fun _=>by omega,fun _=>by omega,by kernel_rfl,fun h7=>?_,fun h7=>?_⟩
  ·have h8:0<i:=by omega
   rw[Aj ⟨h8,by rw[hgk h8];exact h7.2⟩] at hA;rw[hstep (by rw[hA];simp),hA];exact .oA [] []
  ·rw[Aq (fun k=>by
    have h8:=k.1;rw[hgk h8] at k;omega)] at hA
   refine⟨i+1,⟨by omega,by rw[hnext,hA]⟩,by omega,?_⟩;exact .oA [(4096,some 4096),(4100,some 4100)] []
 ·have hi2:i=x.rows.length:=by omega
  subst hi2;rw[← hE,hi.2];exact .oA [] []
theorem kc9 {s:Sch} {x:Ext} (h:extE s x=0):schE s=0∧jm x.proj=true∧(0≤x.ver∧x.ver≤300)∧Qd s x.picks=0∧x.rows.length≤200∧(∀ i (hi:i<x.rows.length),fitX s x.picks x.rows[i]=true)∧AscR x.rows:=by
 unfold extE at h;split at h
 ·rename_i h1;exact absurd h h1
 rename_i h1;split at h
 ·cases h
 rename_i h2;split at h
 ·cases h
 rename_i h3;split at h
 ·rename_i h4;exact absurd h h4
 rename_i h4;split at h
 ·cases h
 rename_i h5;have key:∀ i (hi:i<x.rows.length),fitX s x.picks x.rows[i]=true∧¬ (0<i∧hd (x.rows.getD i [])≤hd (x.rows.getD (i-1) [])):=fun i hi=>by
  have:=ZQ h i hi;unfold zX3 at this;split at this
  ·cases this
  ·rename_i k;rw[qh hi] at k;split at this
   ·cases this
   ·rename_i k2;exact⟨by simpa using k,k2⟩
 refine⟨AQ h1,by simpa using h2,by omega,AQ h4,by omega,fun i hi=>(key i hi).1,jm8 (f:=hd) fun i h0 hi=>?_⟩;have:=(key i hi).2;have e1:x.rows.getD i default=x.rows.getD i []:=rfl;have e2:x.rows.getD (i-1) default=x.rows.getD (i-1) []:=rfl;rw[e1,e2];omega
def knwP (x:Ext) (r:Nat) (c:Int):Int×Int:=if (x.picks.any fun p=>p.col==c)=true then ((x.picks.getD (x.picks.findIdx fun p=>p.col==c) default).lev,(x.rows.getD r []).getD ((x.picks.findIdx fun p=>p.col==c)+1) 0) else (0,0)
def knwI (s:Sch) (x:Ext) (r:Nat) (c lev:Int):Int×Bool:=zh4 s c (knwP x r c).1 (knwP x r c).2 lev
theorem qO9 (p:Pk) (c:Int):Spc Tryz.prog wG [pkT p,.ip [vI c]] [] (vB (p.col==c)) []:=by
 refine qd qE4 mixm (by simp) fun e _ hst=>qg ?_;unfold QP;refine sW ?_;exact .oA [] []
theorem zh5 (s:Sch) (hE:schE s=0) (x:Ext) (r:Nat) (hr:r<x.rows.length) (hrl:x.rows[r].length=x.picks.length+1) (hpl:x.picks.length≤1000) (c lev:Int):Spc Tryz.prog KG [schT s,extT x,vI r,vI c,vI lev] [] (.tup [vI (knwI s x r c lev).1,vB (knwI s x r c lev).2]) []:=by
 have sI:=Zb (fun p=>p.col==c) wG [.ip [vI c]] rfl x.picks (fun p _=>qO9 p c) (by omega);cases ha:x.picks.any fun p=>p.col==c with
 | false=>
   have h0:idxI (fun p:Pk=>p.col==c) x.picks = -1:=by rw[idxI,Aq (by rw[ha];simp)]
   have hT:=qo2 s hE c 0 0 lev;have hK:knwI s x r c lev=zh4 s c 0 0 lev:=by rw[knwI,knwP,Aq (by rw[ha];simp)]
   rw[hK];generalize zh4 s c 0 0 lev=w at hT ⊢
   rw[h0] at sI;refine qd qf7 mixm (by simp) fun e _ hst=>qg ?_;unfold yz;refine sW ?_;refine C1.lend [4104] sI ?_ (by rfl) (by rfl) ?_
   ·all_goals (try simp only[tL,simprocAttr,List.map_append,List.map_cons,List.map_nil,List.cons_append,List.nil_append])
    all_goals (try (repeat' (first | exact qZ | (apply zo;intro _;exact⟨rfl,rfl⟩) | (apply qD;intro _;exact⟨rfl,rfl⟩) | with_reducible apply qT | with_reducible refine qM ⟨rfl,rfl⟩ ?_ | exact qX | with_reducible apply qQ | with_reducible refine qU ⟨rfl,rfl,?_⟩ ?_ | with_reducible apply Az | exact qR rfl | exact qR (by assumption) | (refine⟨⟨?_,rfl,?_,rfl,?_⟩,trivial⟩ <;> first | (simp;done) | (apply qD;intro _;exact⟨rfl,rfl⟩)) | trivial | rfl | (rw[qj (by omega)]) | omega)))
    all_goals (simp only[ltP];exact⟨rfl,by decide,rfl,qM ⟨rfl,rfl⟩ qX⟩)
   refine sW ?_;refine C1.im hT (by rfl) (by rfl) ?_;refine sW ?_;exact .oA [] []
 | true=>
   obtain⟨i,hi,e1,_⟩:=zX1 ha;have e2:idxI (fun p:Pk=>p.col==c) x.picks=(x.picks.findIdx fun p=>p.col==c:Nat):=by rw[idxI,Aj ha]
   have e3:(x.picks.findIdx fun p=>p.col==c)=i:=by omega
   have hK:knwI s x r c lev=zh4 s c x.picks[i].lev (x.rows[r].getD (i+1) 0) lev:=by rw[knwI,knwP,Aj ha,e3,qh hi,qh hr]
   have hT:=qo2 s hE c x.picks[i].lev (x.rows[r].getD (i+1) 0) lev;rw[hK];generalize zh4 s c x.picks[i].lev (x.rows[r].getD (i+1) 0) lev=w at hT ⊢
   rw[e1] at sI;have hwi:=qj (i:=i) (by omega);have hil:i+1<x.rows[r].length:=by omega
   have hgr:(x.rows[r].map vI).getD (i+1) .junk=vI (x.rows[r].getD (i+1) 0):=by rw[qe hil,qh hil]
   refine qd qf7 mixm (by simp) fun e _ hst=>qg ?_;unfold yz;refine sW ?_;refine C1.lend [4104] sI ?_ (by rfl) (by rfl) ?_
   ·all_goals (try simp only[tL,simprocAttr,List.map_append,List.map_cons,List.map_nil,List.cons_append,List.nil_append])
    all_goals (try (repeat' (first | exact qZ | (apply zo;intro _;exact⟨rfl,rfl⟩) | (apply qD;intro _;exact⟨rfl,rfl⟩) | with_reducible apply qT | with_reducible refine qM ⟨rfl,rfl⟩ ?_ | exact qX | with_reducible apply qQ | with_reducible refine qU ⟨rfl,rfl,?_⟩ ?_ | with_reducible apply Az | exact qR rfl | exact qR (by assumption) | (refine⟨⟨?_,rfl,?_,rfl,?_⟩,trivial⟩ <;> first | (simp;done) | (apply qD;intro _;exact⟨rfl,rfl⟩)) | trivial | rfl | (rw[qj (by omega)]) | omega)))
    all_goals (simp only[ltP];exact⟨rfl,by decide,rfl,qM ⟨rfl,rfl⟩ qX⟩)
   have q1:decide ((i:Int)<0)=false:=decide_eq_false (by omega);have hgi2:=qe (f:=pkT) hi;simp only[tZ,↓un_u,simprocAttr,q1,Ax,hgi2,qe hr,hwi,hgr];refine⟨by omega,by omega,by omega,?_⟩;refine C1.im hT (by rfl) (by rfl) ?_;refine sW ?_;refine⟨by kernel_rfl,?_⟩;exact .oA [] []
def valI (s:Sch) (x:Ext) (r c lev:Int):Int×Bool:=if extE s x≠0∨r<0∨r≥x.rows.length then (0,false) else knwI s x r.toNat c lev
theorem zh6 (s:Sch) (hs:yR s) (x:Ext) (hp:x.picks.length<4611686018427387904) (hr:∀ r∈x.rows,r.length<4611686018427387904) (r c lev:Int):Spc Tryz.prog KB [schT s,extT x,vI r,vI c,vI lev] [] (.tup [vI (valI s x r c lev).1,vB (valI s x r c lev).2]) []:=by
 have hV:valI s x r c lev=if extE s x≠0∨r<0∨r≥x.rows.length then (0,false) else knwI s x r.toNat c lev:=rfl
 have hC:=qo3 s hs x hp hr;by_cases h:extE s x≠0∨r<0∨r≥x.rows.length
 ·rw[hV,Aj h];refine qd qf6 mixm (by simp) fun e _ hst=>qg ?_;unfold yx;refine sW ?_;refine C1.im hC (by rfl) (by rfl) ?_;simp only[tZ,↓un_u,simprocAttr,tD,bne_iff_ne,Aw];refine⟨fun _=>?_,fun k=>by omega⟩;exact .oA [] []
 ·obtain⟨hE,_,_,hp0,_,hf,_⟩:=kc9 (s:=s) (x:=x) (by omega);obtain⟨j,rfl⟩:=AJ (show 0≤r by omega);have hj:j<x.rows.length:=by omega
  have hpl:=zg1 hp0;have hK:=zh5 s hE x j hj (zX2 (hf j hj)).1 (by omega) c lev;rw[hV,Aq h,Ax];generalize knwI s x j c lev=w at hK ⊢
  refine qd qf6 mixm (by simp) fun e _ hst=>qg ?_;unfold yx;refine sW ?_;refine C1.im hC (by rfl) (by rfl) ?_;simp only[tZ,↓un_u,simprocAttr,tD,bne_iff_ne,Aw];refine⟨fun k=>by omega,fun _=>?_⟩;refine C1.im hK (by rfl) (by rfl) ?_;refine sW ?_;exact .oA [] []
def nrwX (x:Ext) (ks:List Int):Ext:=⟨x.proj,x.ver,x.picks,x.rows.filter fun r=>decide (0<r.length)&&ks.contains (hd r)⟩
end Go.Proofs
namespace Go.Proofs
open Go Go.TL
set_option maxRecDepth 4000
set_option maxHeartbeats 8000000
open So
def nrwP (ks:List Int) (r:List Int):Bool:=decide (0<r.length)&&ks.contains (hd r)
theorem qg1 (x:Ext) (ks:List Int) (hk:ks.length<4611686018427387904) (hp:x.picks.length*16≤140737488355328) (hrl:x.rows.length≤1000000) (hr:∀ r∈x.rows,r.length<10000000000):Spc Tryz.prog yo [extT x,vIs ks] [] (extT (nrwX x ks)) []:=by
 rw[show nrwX x ks=⟨x.proj,x.ver,x.picks,x.rows.filter (nrwP ks)⟩ from rfl];refine qd qK3 mixm (by simp) fun e _ hst=>qg ?_;unfold ZB;refine sW ?_;refine C1.im (Wr x.picks hp) (by rfl) (by rfl) ?_;refine sW ?_;refine⟨by kernel_rfl,?_⟩;refine qu mixm (α:=Nat) [19] (fun i=>i≤x.rows.length) (fun i=>[(19,vI i)]) (fun i=>[(4100,.arr 4 [extT ext0] false),(8224,.arr 4 [.agg [vS x.proj,vI x.ver,vPs x.picks,.asl 1 ((x.rows.take i).filter (nrwP ks)).length]] false),(1,.arr 1 (((x.rows.take i).filter (nrwP ks)).map vIs) false)]) (fun i=>x.rows.length-i) 0 (by omega) ?_ fun i hi=>?_
 ·exact .oA [(4100,some 4100),(8224,some 8224),(1,none)] []
 have hfl:=List.length_filter_le (nrwP ks) (x.rows.take i);rw[List.length_take] at hfl;refine sD ?_;refine⟨fun h4=>?_,fun h4=>?_⟩
 ·have hi2:i<x.rows.length:=by omega
  have hwi:=qj (i:=i) (by omega);have hsp:(x.rows.take (i+1)).filter (nrwP ks)=(x.rows.take i).filter (nrwP ks)++if nrwP ks x.rows[i]=true then [x.rows[i]] else []:=by
   rw[qH hi2,List.filter_append,List.filter_cons,List.filter_nil]
  have hrr:=hr _ (AX hi2);have hCl:=qH5 x.rows[i] (by omega);simp only[tZ,↓un_u,simprocAttr,Ax,qe hi2];refine⟨by omega,?_⟩;generalize x.rows[i]=r at hsp hrr hCl ⊢
  by_cases h0:0<r.length
  ·have hgi:=yU h0;have hCt:=wx ks (hd r) hk;have q1:decide ((r.length:Int)>0)=true:=decide_eq_true (by omega);have hP:nrwP ks r=ks.contains (hd r):=by rw[nrwP,decide_eq_true h0,Bool.true_and]
   rw[hP] at hsp;simp only[tZ,↓un_u,simprocAttr,hgi,q1];refine⟨by omega,?_⟩;refine C2.im (fun _=>hCt) (fun _=>rfl) (by rfl) ?_;simp only[tZ,↓un_u,simprocAttr,hwi];refine⟨fun h6=>?_,fun h6=>?_⟩
   ·rw[Aj h6] at hsp;refine C1.im hCl (by rfl) (by rfl) ?_;simp only[tZ,↓un_u,simprocAttr,hwi];have hspl:=congrArg List.length hsp;simp only[AW,List.length_cons,List.length_nil] at hspl;refine⟨by omega,by kernel_rfl,i+1,by omega,by omega,?_⟩;rw[hsp];exact .oA [(4100,some 4100),(8224,some 8224),(1,some 1)] []
   ·rw[Aq (by rw[h6];simp),List.append_nil] at hsp;refine⟨i+1,by omega,by omega,?_⟩;rw[hsp];exact .oA [(4100,some 4100),(8224,some 8224),(1,some 1)] []
  ·have q1:decide ((r.length:Int)>0)=false:=decide_eq_false (by omega);have hP:nrwP ks r=false:=by rw[nrwP,decide_eq_false h0,Bool.false_and]
   rw[hP,Aq (by simp),List.append_nil] at hsp;obtain rfl:r=[]:=List.length_eq_zero_iff.1 (by omega);simp only[tZ,↓un_u,simprocAttr,q1];refine C2.im (r:=vB false) (fun h=>absurd h (by simp)) (fun h=>absurd h (by simp)) (by rfl) ?_;simp only[tZ,↓un_u,simprocAttr,hwi];refine⟨i+1,by omega,by omega,?_⟩;rw[hsp];exact .oA [(4100,some 4100),(8224,some 8224),(1,some 1)] []
 ·have hil:i=x.rows.length:=by omega
  subst hil;rw[List.take_length];exact .oA [] [1]
end Go.Proofs
namespace Go.Proofs
open Go Go.TL
set_option maxRecDepth 4000
set_option maxHeartbeats 8000000
def zD5:CodL:=⟨⟨#[108]⟩,[⟨⟨#[97]⟩,-1⟩,⟨⟨#[98]⟩,0⟩,⟨⟨#[99]⟩,0⟩]⟩
def qt3:Sch:=⟨[zD5],[⟨⟨#[119,104,111]⟩,1,0,0,0,[],false⟩,⟨⟨#[115,101,120]⟩,2,0,0,0,[],false⟩]⟩
def zD6:Qst:=⟨⟨#[113]⟩,1,.mk 1 0 0 0 0 [],[⟨1,1⟩],-1,[],cnd0⟩
def qP0:Dcl:=⟨⟨#[112]⟩,⟨#[115]⟩,.mk 1 0 0 0 0 [],⟨1,1,0⟩,[zD6]⟩
theorem qX4:yR qt3:=⟨by decide,by decide,by decide⟩
end Go.Proofs
namespace Go.Proofs
open Go Go.TL
set_option maxRecDepth 4000
set_option maxHeartbeats 8000000
open So
def nmbL (rs:List (List Int)):List Int:=(rs.filter fun r=>decide (0<r.length)).map hd
theorem zh7 (x:Ext) (hrl:x.rows.length≤1000000):Spc Tryz.prog KA [extT x] [] (vIs (nmbL x.rows)) []:=by
 refine qd qR5 mixm (by simp) fun e _ hst=>qg ?_;unfold Js;refine sW ?_;refine qu mixm (α:=Nat) [3,9] (fun i=>i≤x.rows.length) (fun i=>[(3,.asl 1 (nmbL (x.rows.take i)).length),(9,vI i)]) (fun i=>[(1,.arr 1 ((nmbL (x.rows.take i)).map vI) false)]) (fun i=>x.rows.length-i) 0 (by omega) ?_ fun i hi=>?_
 ·exact .oA [(1,none)] []
 have hfl:=List.length_filter_le (fun r:List Int=>decide (0<r.length)) (x.rows.take i);rw[List.length_take] at hfl;have hnl:(nmbL (x.rows.take i)).length≤i:=by rw[nmbL,List.length_map];omega
 refine sD ?_;refine⟨fun h4=>?_,fun h4=>?_⟩
 ·have hi2:i<x.rows.length:=by omega
  have hwi:=qj (i:=i) (by omega);have hsp:nmbL (x.rows.take (i+1))=nmbL (x.rows.take i)++if 0<x.rows[i].length then [hd x.rows[i]] else []:=by
   rw[nmbL,nmbL,qH hi2,List.filter_append,List.map_append,List.filter_cons,List.filter_nil]
   congr 1
   by_cases h:0<x.rows[i].length
   ·rw[Aj h,decide_eq_true h,Aj rfl];rfl
   ·rw[Aq h,decide_eq_false h,Aq (by simp)];rfl
  simp only[tZ,↓un_u,simprocAttr,Ax,qe hi2,tD,gt_iff_lt];refine⟨by omega,fun h5=>?_,fun h5=>?_⟩
  ·have h6:0<x.rows[i].length:=by omega
   have hgi:=yU h6;rw[Aj h6] at hsp;have hspl:=congrArg List.length hsp;simp only[AW,List.length_cons,List.length_nil] at hspl;simp only[tZ,↓un_u,simprocAttr,hgi,hwi];refine⟨by omega,by omega,i+1,by omega,by omega,?_⟩;rw[hsp];exact .oA [(1,some 1)] []
  ·rw[Aq (by omega),List.append_nil] at hsp;simp only[tZ,↓un_u,simprocAttr,hwi];refine⟨i+1,by omega,by omega,?_⟩;rw[hsp];exact .oA [(1,some 1)] []
 ·have hil:i=x.rows.length:=by omega
  subst hil;rw[List.take_length];exact .oA [] [1]
theorem zt9 (a:List Int):zz4 a a=true:=zN6.2 rfl
def qI4:Src:=⟨qt3,[[7,2]],[],0⟩
def qt4:Ext:=⟨⟨#[112]⟩,0,[⟨1,1⟩],[[keyI 99 7,2]]⟩
theorem ji9:qQ7 qI4 qP0 [⟨1,1⟩] 99=qt4∧buildE qI4 qP0 [⟨1,1⟩] 99=0:=⟨by kernel_rfl,by kernel_rfl⟩
theorem ki7:valI qt3 qt4 0 1 0=(0,true):=by kernel_rfl
theorem ki8:extE qt3 qt4=0:=by kernel_rfl
theorem ki9:ownS qI4 qP0=[7]:=by kernel_rfl
theorem zD7:Spc Tryz.prog qb3 [] [] (vB true) []:=by
 have hsm:jO7 qI4:=⟨qX4,by decide⟩;have hB:=Wx qI4 qP0 [⟨1,1⟩] 99 hsm (by decide) (by decide);rw[ji9.1,ji9.2] at hB;have hV:=zh6 qt3 qX4 qt4 (by decide) (by decide) 0 1 0;rw[ki7] at hV;have hK:=zW2 99 7;have hI:=qm4 [keyI 99 7,2] [keyI 99 7,2] (by decide);rw[zt9] at hI;have hC:=qo3 qt3 qX4 qt4 (by decide) (by decide);rw[ki8] at hC;have hO:=JQ qI4 qP0 hsm;rw[ki9] at hO;have hI2:=qm4 [7] [7] (by decide);rw[zt9] at hI2;have hN:=jY qt3 qX4 (.mk 1 0 0 0 0 []);rw[show chkC qt3 (.mk 1 0 0 0 0 [])=0 by kernel_rfl] at hN;have hW:=qg1 qt4 [] (by decide) (by decide) (by decide) (by decide);rw[show nrwX qt4 []=⟨⟨#[112]⟩,0,[⟨1,1⟩],[]⟩ by kernel_rfl] at hW;have hE1:qt4.rows=[[keyI 99 7,2]]:=rfl;refine qd zi7 mixm (by simp) fun e _ hst=>qg ?_;unfold WU;refine sW ?_;refine C1.shutD [8204,8212,8224,16400,16408,20484,20488,24588] hB ?_ (by rfl) rfl ?_
 ·simp [ptw,ltAD,ltD,TL.get,T.cells,imT,imL,qI4,qt4,qt3,zD6,qP0,zD5]
  all_goals (try (repeat' apply Az))
  all_goals (try rfl)
 refine sW ?_;refine C1.lendD [8204,8212,8224,16400,16408,20484,20488,24588] hV ?_ (by rfl) (by rfl) ?_
 ·simp [ptw,ltAD,ltD,TL.get,T.cells,imT,imL,qI4,qt4,qt3,zD6,qP0,zD5]
  all_goals (try (repeat' apply Az))
  all_goals (try rfl)
 simp only[tZ,↓un_u,simprocAttr,hE1];refine C2.im (fun _=>hK) (fun _=>rfl) (by rfl) ?_;refine sW ?_;refine C2.lendD [32824] (fun _=>hI) (fun _=>?_) (by rfl) (by rfl) ?_
 ·simp [ptw,ltAD,ltD,TL.get,T.cells,imT,imL,qI4,qt4,qt3,zD6,qP0,zD5]
  all_goals (try (repeat' apply Az))
  all_goals (try rfl)
 refine sW ?_;refine C2.lendD [8204,8212,8224,16400,16408,20484,20488,24588] (fun _=>hC) (fun _=>?_) (by rfl) (by rfl) ?_
 ·simp [ptw,ltAD,ltD,TL.get,T.cells,imT,imL,qI4,qt4,qt3,zD6,qP0,zD5]
  all_goals (try (repeat' apply Az))
  all_goals (try rfl)
 simp only[tZ,↓un_u,simprocAttr,bne_self_eq_false,beq_self_eq_true];refine C2.one trivial (C1.shutD [8204,8212,8224,16400,16408,20484,20488,24588] hO ?_ (by rfl) rfl ?_)
 ·simp [ptw,ltAD,ltD,TL.get,T.cells,imT,imL,qI4,qt4,qt3,zD6,qP0,zD5]
  all_goals (try (repeat' apply Az))
  all_goals (try rfl)
 refine sW ?_;refine C2.lendD [32904] (fun _=>hI2) (fun _=>?_) (by rfl) (by rfl) ?_
 ·simp [ptw,ltAD,ltD,TL.get,T.cells,imT,imL,qI4,qt4,qt3,zD6,qP0,zD5]
  all_goals (try (repeat' apply Az))
  all_goals (try rfl)
 refine sW ?_;refine C2.lendD [8204,8212,8224,16400,16408,20484,20488,24588] (fun _=>hN) (fun _=>?_) (by rfl) (by rfl) ?_
 ·simp [ptw,ltAD,ltD,TL.get,T.cells,imT,imL,qI4,qt4,qt3,zD6,qP0,zD5]
  all_goals (try (repeat' apply Az))
  all_goals (try rfl)
 refine sW ?_;refine C2.one trivial (C1.shutD [8204,8212,8224,16400,16408,20484,20488,24588] hW ?_ (by rfl) rfl ?_)
 ·simp [ptw,ltAD,ltD,TL.get,T.cells,imT,imL,qI4,qt4,qt3,zD6,qP0,zD5]
  all_goals (try (repeat' apply Az))
  all_goals (try rfl)
 refine sW ?_;refine⟨by kernel_rfl,?_⟩;exact .oA [] []
end Go.Proofs
namespace Go.Proofs
open Go Go.TL
set_option maxRecDepth 4000
set_option maxHeartbeats 8000000
theorem zX4 {s:Sch} {d:Dcl} (h:dclE s d=0):Qd s (Ze s d)=0∧(∀ p∈Ze s d,0<p.lev)∧(Ze s d).Pairwise fun a b=>a.col<b.col:=by
 obtain⟨hE,_,_,_,_,_,_,hqs⟩:=qm6 h;have hp:Qd s (Ze s d)=0:=by
  rw[qq2 h];refine jn1 hE fun k hk h0=>?_;obtain⟨p,hp,e1,e2⟩:=zD3 h0;obtain⟨q,hq,hp2⟩:=List.mem_flatMap.1 hp;have hb:=qX1 q p hp2;have hqe:qstE s q=0:=by
   obtain⟨n,hn,rfl⟩:=List.getElem_of_mem hq;have:=hqs n hn;rw[qAt,qh hn] at this;exact this
  have hqk:=qy6 hqe;refine⟨by omega,?_⟩;rw[← e2];have h1:=jG4 hp2;rw[e1,jH4 hqe hk] at h1;have:=jX2 (l:=zh0 s q) (k:=k) (zD2 hE (by omega) hk) fun p hp e=>by rw[← e];exact jG3 hqk p hp
  omega
 refine⟨hp,fun p hp=>?_,(qm7 hp).2.2⟩;rw[qq2 h] at hp;exact (zR1 hp).1
theorem jH8 (l:List Pk):covB l l=true:=qX2.2 fun x hx=>⟨x,hx,rfl,Int.le_refl _⟩
end Go.Proofs
namespace Go.Proofs
open Go Go.TL
set_option maxRecDepth 4000
set_option maxHeartbeats 8000000
open So
theorem jH9 {x:Src} {d:Dcl} {k:Int} (h:SrcOk x) (hd0:dclE x.sch d=0) (hk:0≤k∧k<1152921504606846976) {l:List Pk} (hc:qF9 x.sch d l=0):buildE x d l k=0∧qQ7 x d l k=⟨d.proj,x.ver,l,Zg x d l k⟩:=by
 have h1:buildE x d l k=0:=by
  rw[buildE,Aq (by rw[qy7.2 h];simp),Aq (by rw[hc];simp),Aq (by omega)]
 exact⟨h1,by rw[qQ7,h1,Aq (by simp)]⟩
theorem kd0 {s:Sch} {d:Dcl} (h:dclE s d=0):qF9 s d (Ze s d)=0:=by
 rw[ji7 h (zX4 h).1,Aj (jH8 _)]
structure BldF (x:Src) (d:Dcl) (P:List Pk) (k:Int) (R:List (List Int)) (O:List Int):Prop where
 len:R.length=O.length
 asc:AscR R
 row:∀ i (hi:i<R.length),∃ (j:Nat) (hj:j<x.rows.length),R[i]=rowX x P k x.rows[j]∧zV8 x (hd x.rows[j])=j∧idI k (hd R[i])=hd x.rows[j]∧O.contains (hd x.rows[j])=true∧jO0 x.sch d.coh x.rows[j]=1
theorem zR2 {x:Src} {d:Dcl} {k:Int} (h:SrcOk x) (hd0:dclE x.sch d=0) (hk:0≤k∧k<1152921504606846976) (P:List Pk):BldF x d P k (Zg x d P k) (ownS x d):=by
 have hpw:=jG9 (d:=d) h hk;obtain⟨q1,_,_⟩:=zh3 x P k (ownR x d) [] List.Pairwise.nil (by simp);have hnd1:((ownR x d).map (rowX x P k)).Nodup:=by
  refine List.pairwise_map.2 (hpw.imp fun {a b} h e=>h ?_);have:=congrArg hd e;exact this
 have hnd2:(Zg x d P k).Nodup:=q1.imp fun {a b} h e=>by rw[e] at h;omega
 have hperm:(Zg x d P k).Perm ((ownR x d).map (rowX x P k)):=(List.perm_ext_iff_of_nodup hnd2 hnd1).2 fun r=>by
  rw[Kv h hd0 hk,List.mem_map];constructor
  ·rintro ⟨r0,a,b,rfl⟩;exact⟨r0,(qz4 h hd0 r0).2 ⟨a,b⟩,rfl⟩
  ·rintro ⟨r0,a,rfl⟩;obtain⟨b,c⟩:=(qz4 h hd0 r0).1 a;exact⟨r0,b,c,rfl⟩
 refine⟨by rw[hperm.length_eq,List.length_map,ownS,List.length_map],q1,fun i hi=>?_⟩;obtain⟨r0,a,b,e⟩:=(Kv h hd0 hk _).1 (AX hi);obtain⟨j,f1,f2,rfl⟩:=jO9 h a;have hin:=zV9 (h.rows _ a);have hki:=jG7 hk (n:=hd x.rows[j]) (by omega);refine⟨j,f2,e,f1,by rw[e];exact hki.2,?_,?_⟩
 ·rw[List.contains_iff_mem];exact List.mem_map.2 ⟨_,(qz4 h hd0 _).2 ⟨a,b⟩,rfl⟩
 ·rw[ownP,Bq,AY] at b;exact b.1
theorem zX5 (l:List Pk):qF6 l l=true:=by
 rw[jm7]
end Go.Proofs
namespace Go.Proofs
open Go Go.TL
set_option maxRecDepth 4000
set_option maxHeartbeats 8000000
open So
def YK (d:Dcl) (x:Cnd):Dcl:=⟨d.proj,d.src,.mk 5 0 0 0 0 [d.coh,x],d.smp,d.qs⟩
theorem kd1 {s:Sch} {f x:Cnd} (hE:schE s=0) (hf:CndOk s 2 f) (hx:CndOk s 2 x):chkC s (.mk 5 0 0 0 0 [f,x])=0:=by
 have h1:=jE0 (.mk 5 0 0 0 0 [f,x]) 41 (by omega);have h2:=hf.siz;have h3:=hx.siz;have h4:=hf.dep;have h5:=hx.dep;rw[sizC,qn5,qn5,qn5] at h1;rw[chkC,Aq (by rw[hE];simp),Aq (by omega),Aq (by rw[depC,jX,jX,jX];omega)];exact zB7 (zW3 (.inl rfl) rfl) (by
  show yj s [f,x]=0;rw[yj,yj,yj,hf.ok,hx.ok];simp)
theorem kd2 {s:Sch} {d:Dcl} {x:Cnd} (h:dclE s d=0) (hf:CndOk s 2 d.coh) (hx:CndOk s 2 x):dclE s (YK d x)=0∧Ze s (YK d x)=Ze s d∧∀ l,qF9 s (YK d x) l=qF9 s d l:=by
 have hA:=kd1 (qm6 h).1 hf hx;have hc:=(qm6 h).2.2.2.1;have h1:dclE s (YK d x)=dclE s d:=by
  unfold dclE;rw[show (YK d x).coh = .mk 5 0 0 0 0 [d.coh,x] from rfl,hA,hc]
  rfl
 refine⟨by rw[h1,h],?_,fun l=>?_⟩
 ·unfold Ze;rw[h1];rfl
 ·unfold qF9;rw[h1];rfl
theorem jj0 {x:Src} {d:Dcl} {c:Cnd} (hX:SrcOk x) (h:dclE x.sch d=0) (h2:dclE x.sch (YK d c)=0) {r:List Int} (hr:r∈x.rows) (ho:ownP x (YK d c) r=true):ownP x d r=true:=by
 have hc1:=(qX3 h).1;have hc2:=(qX3 h2).1;have hrE:=hX.rows r hr;rw[ownP,Bq,AY] at ho ⊢
 refine⟨?_,ho.2⟩;have h3:=ho.1;rw[jO0,Aq (by omega)] at h3 ⊢
 rw[show (YK d c).coh = .mk 5 0 0 0 0 [d.coh,c] from rfl,jD3,Aq (show ¬ isAt (.mk 5 0 0 0 0 [d.coh,c])=true from fun h=>by simp [isAt,Cnd.op,Cnd.col,Cnd.code,Cnd.lo,Cnd.hi,Cnd.kids] at h)] at h3;have h4:min (evC x.sch r d.coh) (evC x.sch r c)=1:=h3;have h5:=jh3 x.sch r d.coh;omega
theorem jQ9 {x:Src} {d:Dcl} {c:Cnd} {k:Int} (hX:SrcOk x) (h:dclE x.sch d=0) (h2:dclE x.sch (YK d c)=0) (hk:0≤k∧k<1152921504606846976) (P:List Pk) :
 (Zg x d P k).filter (nrwP (nmbL (Zg x (YK d c) P k)))=Zg x (YK d c) P k:=by
 obtain⟨q1,_,_⟩:=zh3 x P k (ownR x d) [] List.Pairwise.nil (by simp);obtain⟨q2,_,_⟩:=zh3 x P k (ownR x (YK d c)) [] List.Pairwise.nil (by simp);refine ji1 (q1.filter _) q2 fun r=>?_;have hm1:=fun r=>Kv (l:=P) hX h hk r;have hm2:=fun r=>Kv (l:=P) hX h2 hk r;show r∈(Zg x d P k).filter _↔r∈Zg x (YK d c) P k;rw[List.mem_filter];constructor
 ·rintro ⟨a,b⟩;unfold nrwP at b;rw[Bq,List.contains_iff_mem,nmbL,List.mem_map] at b;obtain⟨r2,c1,c2⟩:=b.2;have c3:=(List.mem_filter.1 c1).1;obtain⟨r0,d1,d2,d3⟩:=(hm1 r).1 a;obtain⟨r3,e1,e2,e3⟩:=(hm2 r2).1 c3;have g1:=zV9 (hX.rows _ d1);have g2:=zV9 (hX.rows _ e1);have hid:hd r3=hd r0:=jG8 hk (by omega) (by omega) (by
   have f1:hd r=keyI k (hd r0):=by rw[d3];rfl
   have f2:hd r2=keyI k (hd r3):=by rw[e3];rfl
   rw[← f1,← f2,c2])
  have:=kb5 hX.asc e1 d1 hid;subst this;rw[d3,← e3];exact c3
 ·intro a;obtain⟨r0,d1,d2,d3⟩:=(hm2 r).1 a;refine⟨(hm1 r).2 ⟨r0,d1,jj0 hX h h2 d1 d2,d3⟩,?_⟩;have hp:0<r.length:=by rw[d3];exact jh6 x P k r0
  unfold nrwP;rw[Bq,AZ,List.contains_iff_mem];exact⟨hp,List.mem_map.2 ⟨r,List.mem_filter.2 ⟨a,decide_eq_true hp⟩,rfl⟩⟩
theorem qi1 (bs:List UInt8):Spc Tryz.prog Zf [vL bs] [] (vB true) []:=by
 have hl4:(bs.take 400).length≤400:=by rw[List.length_take];omega
 obtain⟨⟨x,a1⟩,⟨⟨hX,hr10,_⟩,ha1⟩,sS⟩:=qs6 10 (bs.take 400) 0 hl4 (by omega) (by omega);dsimp only at hX hr10 ha1 sS;obtain⟨⟨d,a2⟩,⟨⟨hdE,hDD⟩,ha2⟩,sDd⟩:=YH x.sch hX.sch (bs.take 400) a1 hl4 ha1;dsimp only at hdE hDD ha2 sDd;obtain⟨⟨c,a3⟩,⟨hc1,ha3⟩,sC⟩:=wK x.sch hX.sch (bs.take 400) hl4 1 a2 ha2 (by omega);dsimp only at hc1 ha3 sC;obtain⟨k,a4,hk1,hk2,ha4,sK⟩:=jP4 (bs.take 400) a3 hl4 ha3;have hsm:=hX.ok.smx;have hL:0<x.sch.lists.length:=by obtain⟨a,b,e,_⟩:=hX.sch.ls;rw[e];simp
 have hk:=Az hk1 hk2;obtain⟨hlE,_,hlC⟩:=kd2 hdE (hDD.coh.mono (m:=2) (by omega)) (hc1.mono (m:=2) (by omega));have sP:=zP0 x.sch hsm.1 hL d;rw[hdE] at sP;have hpl:=zO9 x.sch d;have hck:=kd0 hdE;have hckl:=(hlC (Ze x.sch d)).trans hck;obtain⟨e1,e2⟩:=jH9 hX.ok hdE hk hck;obtain⟨e3,e4⟩:=jH9 hX.ok hlE hk hckl;have sB:=Wx x d (Ze x.sch d) k hsm (by omega) (by omega);rw[e1,e2] at sB;have sBl:=Wx x (YK d c) (Ze x.sch d) k hsm (by omega) (by omega);rw[e3,e4] at sBl;have sO:=JQ x d hsm;have sOl:=JQ x (YK d c) hsm;have hF:=zR2 hX.ok hdE hk (Ze x.sch d);have hFl:=zR2 hX.ok hlE hk (Ze x.sch d);have hN:=jQ9 (c:=c) hX.ok hdE hlE hk (Ze x.sch d);have hsub:∀ v∈ownS x (YK d c),(ownS x d).contains v=true:=fun v hv=>by
  obtain⟨r,hr,rfl⟩:=List.mem_map.1 hv;obtain⟨b1,b2⟩:=(qz4 hX.ok hlE r).1 hr;rw[List.contains_iff_mem];exact List.mem_map.2 ⟨r,(qz4 hX.ok hdE r).2 ⟨b1,jj0 hX.ok hdE hlE b1 b2⟩,rfl⟩
 have hOl:(ownS x d).length≤200:=by rw[ownS,List.length_map];exact ji8 hX.ok d
 have hOl2:(ownS x (YK d c)).length≤200:=by rw[ownS,List.length_map];exact ji8 hX.ok _
 have hRp:∀ r∈Zg x d (Ze x.sch d) k,r.length≤1000000:=fun r hr=>by
  obtain⟨r0,_,_,e⟩:=(Kv hX.ok hdE hk r).1 hr;rw[e,rowX,List.length_cons,List.length_map];omega
 generalize Ze x.sch d=P at sP hpl hck hckl e1 e2 e3 e4 sB sBl hF hFl hN hRp;generalize Zg x d P k=R at sB hF hN hRp;generalize Zg x (YK d c) P k=R2 at sBl hFl hN;generalize ownS x d=O at sO hF hsub hOl;generalize ownS x (YK d c)=O2 at sOl hFl hsub hOl2;have h1:=hF.len;have h2:=hFl.len;have sNm:=zh7 ⟨d.proj,x.ver,P,R2⟩ (by dsimp only;omega);dsimp only at sNm;have sNr:=qg1 ⟨d.proj,x.ver,P,R⟩ (nmbL R2) (by
  have:=List.length_filter_le (fun r:List Int=>decide (0<r.length)) R2;rw[nmbL,List.length_map];omega) (by dsimp only;omega) (by dsimp only;omega) (fun r hr=>by have:=hRp r hr;omega)
 rw[show nrwX ⟨d.proj,x.ver,P,R⟩ (nmbL R2)=⟨d.proj,x.ver,P,R.filter (nrwP (nmbL R2))⟩ from rfl,hN] at sNr;have sSm:=zP7 ⟨d.proj,x.ver,P,R2⟩ ⟨d.proj,x.ver,P,R2⟩ (by dsimp only;omega) (by dsimp only;omega) (fun r hr=>by
  obtain⟨i,hi,rfl⟩:=List.getElem_of_mem hr;obtain⟨_,_,e,_⟩:=hFl.row i hi;dsimp only at e ⊢
  rw[e,rowX,List.length_cons,List.length_map];omega)
 rw[jQ8,zX5,jm5.2 rfl,beq_self_eq_true] at sSm;refine Zl [7] qc7 mixm (by simp) fun e _ hst=>qg ?_;unfold kv;simp only[YO,List.contains_cons,List.contains_nil,Nat.reduceBEq,Bool.or_false,Bool.or_true,Bool.true_or,Bool.false_or,cond_true,cond_false];refine sW ?_;refine C1.newdraw 8196 (jm2 bs) rfl rfl ?_;generalize bs.take 400=m at hl4 sS sDd sC sK ha1 ha2 ha3 ha4 ⊢
 refine sW ?_;refine C1.draw 8196 m 0 _ sS rfl rfl rfl ?_;refine sW ?_;refine C1.draw 8196 m a1 _ sDd rfl rfl rfl ?_;refine sW ?_;refine C1.draw 8196 m a2 _ sC rfl rfl rfl ?_;refine sW ?_;refine⟨by kernel_rfl,?_⟩;have f1:=zn d.coh;have f2:=zn c;refine kj5 [(8196,oC m a3),(12296,.arr 5 [srcT x] false),(16392,.arr 2 [schT x.sch] false),(20492,.arr 12 [dclT d] false),(24580,.arr 12 [dclT (YK d c)] false)] ?_ ?_
 ·show Le _ _ ⟨_,[(8196,oC m a3),(12296,.arr 5 [srcT x] false),(16392,.arr 2 [schT x.sch] false),(20492,.arr 12 [dclT d] false),(24580,.arr 12 [.agg [vS d.proj,vS d.src,vI 5,vI 0,vI 0,vI 0,vI 0,.sl 6 [cndT d.coh,cndT c],vI d.smp.part,vI d.smp.of,vI d.smp.seed,.sl 17 (d.qs.map qstT)]] false)]⟩;rw[f1,f2];refine .of [(8196,some 8196),(12296,some 12296),(16392,some 16392),(20492,some 20492),(24580,some 24580)] [28692] rfl (by first | rfl | (rw[hst];rfl)) ?_ ?_
  all_goals (try simp only[tL,simprocAttr,List.map_append,List.map_cons,List.map_nil,List.cons_append,List.nil_append])
  all_goals (try (repeat' (first | exact qZ | (apply zo;intro _;exact⟨rfl,rfl⟩) | (apply qD;intro _;exact⟨rfl,rfl⟩) | with_reducible apply qT | with_reducible refine qM ⟨rfl,rfl⟩ ?_ | exact qX | with_reducible apply qQ | with_reducible refine qU ⟨rfl,rfl,?_⟩ ?_ | with_reducible apply Az | exact qR rfl | exact qR (by assumption) | (refine⟨⟨?_,rfl,?_,rfl,?_⟩,trivial⟩ <;> first | (simp;done) | (apply qD;intro _;exact⟨rfl,rfl⟩)) | trivial | rfl | (rw[qj (by omega)]) | omega)))
  simp only[T.cells,tL,simprocAttr]
  all_goals (try simp only[tL,simprocAttr,List.map_append,List.map_cons,List.map_nil,List.cons_append,List.nil_append])
  all_goals (try (repeat' (first | exact qZ | (apply zo;intro _;exact⟨rfl,rfl⟩) | (apply qD;intro _;exact⟨rfl,rfl⟩) | with_reducible apply qT | with_reducible refine qM ⟨rfl,rfl⟩ ?_ | exact qX | with_reducible apply qQ | with_reducible refine qU ⟨rfl,rfl,?_⟩ ?_ | with_reducible apply Az | exact qR rfl | exact qR (by assumption) | (refine⟨⟨?_,rfl,?_,rfl,?_⟩,trivial⟩ <;> first | (simp;done) | (apply qD;intro _;exact⟨rfl,rfl⟩)) | trivial | rfl | (rw[qj (by omega)]) | omega)))
  done
 refine sW ?_;refine C1.im sP (by rfl) (by rfl) ?_;refine sW ?_;refine C1.draw 8196 m a3 _ sK rfl rfl rfl ?_;refine sW ?_;refine C1.im sB (by rfl) (by rfl) ?_;refine sW ?_;refine C1.im sBl (by rfl) (by rfl) ?_;simp only[tZ,↓un_u,simprocAttr,bne_self_eq_false];refine C1.im sOl (by rfl) (by rfl) ?_;refine sW ?_;refine qu mixm (α:=Nat) [69] (fun i=>i≤O2.length) (fun i=>[(69,vI i)]) (fun i=>[(12296,.arr 5 [srcT x] false),(20492,.arr 12 [dclT d] false),(24580,.arr 12 [dclT (YK d c)] false),(40992,.arr 4 [extT ⟨d.proj,x.ver,P,R⟩] false),(45088,.arr 4 [extT ⟨d.proj,x.ver,P,R2⟩] false)]) (fun i=>O2.length-i) 0 (by omega) ?_ fun i hi=>?_
 ·exact .oA [(12296,some 12296),(20492,some 20492),(24580,some 24580),(40992,some 40992),(45088,some 45088)] []
 refine sD ?_;refine⟨fun h4=>?_,fun h4=>?_⟩
 ·have hi2:i<O2.length:=by omega
  have hwi:=qj (i:=i) (by omega);have sH:=qy1 O O2[i] (by omega);rw[hsub _ (AX hi2)] at sH;simp only[tZ,↓un_u,simprocAttr,Ax,qe hi2];refine⟨by omega,?_⟩;refine C1.im sO (by rfl) (by rfl) ?_;refine sW ?_;refine C1.im sH (by rfl) (by rfl) ?_;simp only[tZ,↓un_u,simprocAttr,hwi];refine⟨i+1,by omega,by omega,?_⟩;exact .oA [(12296,some 12296),(20492,some 20492),(24580,some 24580),(40992,some 40992),(45088,some 45088)] []
 ·refine C1.im sNm (by rfl) (by rfl) ?_;refine sW ?_;refine C1.im sNr (by rfl) (by rfl) ?_;refine sW ?_;refine C1.im sSm (by rfl) (by rfl) ?_;refine sW ?_;refine C2.im (fun _=>sOl) (fun _=>rfl) (by rfl) ?_;simp only[tZ,↓un_u,simprocAttr,h2];refine C2.im (fun _=>zD7) (fun _=>rfl) (by rfl) ?_;refine sW ?_;refine⟨by kernel_rfl,?_⟩;exact .oA [] []
end Go.Proofs
