/- A part of the proof: trees of Go values, short forms, contracts. -/
import Derived.WalkKit
import Derived.Still
import Derived.MapKept
import GoSem.Builtin.Cap
import Derived.Laws.Externs
import GoSem.Extern.SlicesOverlaps
import Derived.Carry
import Derived.ProofKit
import Derived.OpenShut
import Derived.HandedShaped
import Derived.Lay
import Derived.LaidLaws
import Derived.MakeChecks
import Derived.SevenTiedAt
import Derived.Test.YtpmgddadeedmbaaGreatDoorChecked
import Derived.Test.YtpmgddadeedmbaaGreatDoorK24
set_option linter.unusedSimpArgs false
set_option linter.unusedVariables false
namespace Go.Proofs
open Go Go.TL
set_option maxRecDepth 4000
set_option maxHeartbeats 8000000
open So
def fitV (s:Sch) (ps:List Pk) (row:List Int) (i:Nat):Bool:=(jo1 s (ps.getD i default).col.toNat (ps.getD i default).lev (row.getD (i+1) 0)).2
def fitX (s:Sch) (ps:List Pk) (row:List Int):Bool:=(row.length==ps.length+1)&&decide (0≤hd row)&&decide (hd row≤1048575)&&(List.range ps.length).all (fitV s ps row)
theorem jo5 {n:Nat} {p:Nat→Bool}:(List.range (n+1)).all p=((List.range n).all p&&p n):=by
 rw[List.range_succ,List.all_append];simp
theorem jI8 {n m:Nat} {p:Nat→Bool} (h:n<m) (hp:p n=false):(List.range m).all p=false:=by
 rw[List.all_eq_false];exact⟨n,List.mem_range.2 h,by rw[hp];simp⟩
theorem zp9 (s:Sch) (ps:List Pk) (row:List Int) (hp:Qa s ps=0) (hr:row.length<4611686018427387904):Spc Tryz.prog WL [schT s,vPs ps,vIs row] [] (vB (fitX s ps row)) []:=by
 obtain⟨hE,hpk,_⟩:=YZ hp;have hpl:=zg7 hp;have hwl:=qj (i:=ps.length) (by omega);by_cases hl:row.length=ps.length+1
 ·have h0:0<row.length:=by omega
  have hgi:=kR h0;have q1:((row.length:Int) != ((ps.length+1:Nat):Int))=false:=by rw[Aw];omega
  have hX:fitX s ps row=(decide (0≤hd row)&&decide (hd row≤1048575)&&(List.range ps.length).all (fitV s ps row)):=by
   rw[fitX,beq_iff_eq.2 hl,Bool.true_and]
  rw[hX];refine qd KR mixm (by simp) fun e _ hst=>qg ?_;unfold wi;simp only[tZ,↓un_u,simprocAttr,hwl,q1,hgi,tD,gt_iff_lt];refine⟨by omega,by omega,fun h=>?_,fun h=>?_⟩
  ·rw[show (decide (0≤hd row)&&decide (hd row≤1048575))=false from by
    rw[Bool.eq_false_iff];intro k;simp only[Bq,AZ] at k;omega,Bool.false_and]
   exact .oA [] []
  rw[show (decide (0≤hd row)&&decide (hd row≤1048575))=true from by simp only[Bq,AZ];omega,Bool.true_and];refine qu mixm (α:=Nat) [31] (fun i=>i≤ps.length∧((List.range i).all (fitV s ps row)=true)) (fun i=>[(31,vI i)]) (fun i=>[(4096,.arr 2 [schT s] false)]) (fun i=>ps.length-i) 0 ⟨by omega,?_⟩ ?_ fun i hi=>?_
  ·rfl
  ·exact .oA [(4096,some 4096)] []
  simp only[tZ,↓un_u,simprocAttr,AZ,Ay];refine⟨fun h=>?_,fun h=>?_⟩
  ·have hi2:i<ps.length:=by omega
   have hpi:=qe6 (hpk _ (AX hi2));obtain⟨c,hc⟩:=AJ (show 0≤ps[i].col by omega);have hwi:=qj (i:=i) (by omega);have hs:=zD2 s hE c (by omega) (by omega) ps[i].lev (row.getD (i+1) 0) (by rw[hc] at hpi;omega);have hrl:i+1<row.length:=by omega
   have hgr:(row.map vI).getD (i+1) .junk=vI (row.getD (i+1) 0):=by rw[qe hrl,qh hrl]
   have hV:fitV s ps row i=(jo1 s c ps[i].lev (row.getD (i+1) 0)).2:=by rw[fitV,qh hi2,hc,Ax]
   have hi2:i<ps.length:=by omega
   have hwi:=qj (i:=i) (by omega);simp only[tZ,↓un_u,simprocAttr,Ax,qe hi2,hwi,hc,hgr];refine⟨by omega,by omega,?_⟩;refine C1.im hs (by rfl) (by rfl) ?_;simp only[tZ,↓un_u,simprocAttr,Bx,Bz,hwi];refine⟨by kernel_rfl,fun h6=>?_,fun h6=>?_⟩
   ·rw[jI8 hi2 (hV.trans h6)];exact .oA [] []
   ·refine⟨i+1,⟨by omega,by rw[jo5,hi.2,hV,h6];rfl⟩,by omega,?_⟩;exact .oA [(4096,some 4096)] []
  ·have hi2:i=ps.length:=by omega
   subst hi2;rw[hi.2];exact .oA [] []
 ·have q1:((row.length:Int) != ((ps.length+1:Nat):Int))=true:=by rw[bne_iff_ne];omega
  have hX:fitX s ps row=false:=by
   rw[fitX,beq_eq_false_iff_ne.2 hl]
   rfl
  rw[hX];by_cases h0:0<row.length
  ·have hgi:=kR h0;refine qd KR mixm (by simp) fun e _ hst=>qg ?_;unfold wi;simp only[tZ,↓un_u,simprocAttr,hwl,q1,hgi];exact .oA [] []
  ·obtain rfl:row=[]:=List.length_eq_zero_iff.1 (by omega);have hb1:∀ n,binR BinOp.lss false (((List.map vI ([]:List Int)).getD 0 T.junk).cells.getD 0 T.junk) (T.v (Value.int IntKind.i64 n))=none:=fun _=>rfl;have hb2:∀ n,binR BinOp.gtr false (((List.map vI ([]:List Int)).getD 0 T.junk).cells.getD 0 T.junk) (T.v (Value.int IntKind.i64 n))=none:=fun _=>rfl;have q0:((0:Int) != ((ps.length+1:Nat):Int))=true:=by rw[bne_iff_ne];omega
   refine qd KR mixm (by simp) fun e _ hst=>qg ?_;unfold wi;simp only[tZ,↓un_u,simprocAttr,hwl,q0,hb1,hb2];exact .oA [] []
theorem zY4 {s:Sch} {ps:List Pk} {row:List Int} (h:fitX s ps row=true):row.length=ps.length+1∧0≤hd row∧hd row≤1048575:=by
 unfold fitX at h;simp only[Bq,AY,AZ] at h;exact⟨h.1.1.1,h.1.1.2,h.1.2⟩
def zY5 (s:Sch) (x:Ext) (i:Nat):Int:=if fitX s x.picks (x.rows.getD i [])=false then 9 else if 0<i∧hd (x.rows.getD i [])≤hd (x.rows.getD (i-1) []) then 10 else 0
def extE (s:Sch) (x:Ext):Int:=if schE s≠0 then schE s else if jo x.proj=false then 3 else if x.ver<0∨x.ver>300 then 13 else if Qa s x.picks≠0 then Qa s x.picks else if x.rows.length>200 then 1 else zE (zY5 s x) x.rows.length
theorem qo2 (s:Sch) (hs:yd s) (x:Ext) (hp:x.picks.length<4611686018427387904) (hr:∀ r∈x.rows,r.length<4611686018427387904):Spc Tryz.prog Ql [schT s,extT x] [] (vI (extE s x)) []:=by
 refine qd qS2 mixm (by simp) fun e _ hst=>qg ?_;unfold Jq;refine sW ?_;refine C1.im (zZ s hs.2.1 hs.1) (by rfl) (by rfl) ?_;simp only[tZ,↓un_u,simprocAttr,bne_iff_ne,Aw];refine⟨fun h=>?_,fun h=>?_⟩
 ·rw[extE,Aj h];exact .oA [] []
 rw[extE,Aq (by rw[h];simp)];refine C1.im (wv x.proj) (by rfl) (by rfl) ?_;simp only[tZ,↓un_u,simprocAttr,tD,Bx,Bz,gt_iff_lt];refine⟨fun h2=>?_,fun h2=>⟨fun h3=>?_,fun h3=>?_⟩⟩
 ·rw[Aj h2];exact .oA [] []
 ·rw[Aq (by rw[h2];simp),Aj h3];exact .oA [] []
 rw[Aq (by rw[h2];simp),Aq (by omega)];refine C1.im (qt9 s hs x.picks hp) (by rfl) (by rfl) ?_;simp only[tZ,↓un_u,simprocAttr,bne_iff_ne,Aw];refine⟨fun h4=>?_,fun h4=>?_⟩
 ·rw[Aj h4];exact .oA [] []
 rw[Aq (by rw[h4];simp)];simp only[tZ,↓un_u,simprocAttr,tD,gt_iff_lt];refine⟨fun h5=>?_,fun h5=>?_⟩
 ·rw[Aj (by omega)];exact .oA [] []
 rw[Aq (by omega)];generalize hE:zE (zY5 s x) x.rows.length=E;refine qu mixm (α:=Nat) [42] (fun i=>i≤x.rows.length∧(zE (zY5 s x) i=0)) (fun i=>[(42,vI i)]) (fun i=>[(4096,.arr 2 [schT s] false),(4100,.arr 4 [extT x] false)]) (fun i=>x.rows.length-i) 0 ⟨by omega,?_⟩ ?_ fun i hi=>?_
 ·rfl
 ·exact .oA [(4096,some 4096),(4100,some 4100)] []
 simp only[tZ,↓un_u,simprocAttr,AZ,Ay];refine⟨fun h=>?_,fun h=>?_⟩
 ·have hi2:i<x.rows.length:=by omega
  have hg:x.rows.getD i []=x.rows[i]:=qh hi2;have hstep:=yZ hi.2 hi2;have hnext:=jL hi.2;have hA:zY5 s x i=if fitX s x.picks x.rows[i]=false then 9 else if 0<i∧hd x.rows[i]≤hd (x.rows.getD (i-1) []) then 10 else 0:=by rw[zY5,hg]
  have hprev:0<i→fitX s x.picks (x.rows.getD (i-1) [])=true:=fun h0=>by
   have:=ZL hi.2 (i-1) (by omega);unfold zY5 at this;split at this
   ·cases this
   ·rename_i k;simpa using k
  rw[hE] at hstep;have hF:=zp9 s x.picks x.rows[i] h4 (hr _ (AX hi2));obtain⟨k,hk1,hk2,hk3⟩:∃ k:Nat,(IntKind.i64.wrap ((i:Int)-1)).toNat=k∧k<x.rows.length∧(i=0∧k=0∨0<i∧k+1=i∧IntKind.i64.wrap ((i:Int)-1)=k):=by
   rcases Nat.eq_zero_or_pos i with h0 | h0
   ·subst h0;exact⟨0,by decide,hi2,.inl ⟨rfl,rfl⟩⟩
   ·have e:=jO h0 (show i<4611686018427387904 by omega);exact⟨i-1,by rw[e];omega,by omega,.inr ⟨h0,by omega,e⟩⟩
  have hwi:=qj (i:=i) (by omega);have hi2:i<x.rows.length:=by omega
  have hwi:=qj (i:=i) (by omega);simp only[tZ,↓un_u,simprocAttr,Ax,qe hi2,hwi];refine⟨by omega,?_⟩;refine C1.im hF (by rfl) (by rfl) ?_;simp only[tZ,↓un_u,simprocAttr,Bx,Bz];refine⟨fun h6=>?_,fun h6=>?_⟩
  ·rw[Aj h6] at hA;rw[hstep (by rw[hA];simp),hA];exact .oA [] []
  rw[Aq (by rw[h6];simp)] at hA;obtain⟨f1,f2,f3⟩:=zY4 h6;have hip:0<x.rows[i].length:=by omega
  have hkp:0<x.rows[k].length:=by
   rcases hk3 with⟨a,b⟩ | ⟨a,b,_⟩
   ·subst a;subst b;exact hip
   ·have:=(zY4 (hprev a)).1;rw[show i-1=k by omega,qh hk2] at this;omega
  have hgk:0<i→x.rows.getD (i-1) []=x.rows[k]:=fun h0=>by
   rw[show i-1=k by omega,qh hk2]
  simp only[tZ,↓un_u,simprocAttr,hk1,qe hk2,kR hip,kR hkp,tD,gt_iff_lt,hwi];refine⟨fun _=>by omega,fun _=>by omega,fun _=>by omega,by kernel_rfl,fun h7=>?_,fun h7=>?_⟩
  ·have h8:0<i:=by omega
   rw[Aj ⟨h8,by rw[hgk h8];exact h7.2⟩] at hA;rw[hstep (by rw[hA];simp),hA];exact .oA [] []
  ·rw[Aq (fun k=>by
    have h8:=k.1;rw[hgk h8] at k;omega)] at hA
   refine⟨i+1,⟨by omega,by rw[hnext,hA]⟩,by omega,?_⟩;exact .oA [(4096,some 4096),(4100,some 4100)] []
 ·have hi2:i=x.rows.length:=by omega
  subst hi2;rw[← hE,hi.2];exact .oA [] []
theorem kd8 {s:Sch} {x:Ext} (h:extE s x=0):schE s=0∧jo x.proj=true∧(0≤x.ver∧x.ver≤300)∧Qa s x.picks=0∧x.rows.length≤200∧(∀ i (hi:i<x.rows.length),fitX s x.picks x.rows[i]=true)∧AscR x.rows:=by
 unfold extE at h;split at h
 ·rename_i h1;exact absurd h h1
 rename_i h1;split at h
 ·cases h
 rename_i h2;split at h
 ·cases h
 rename_i h3;split at h
 ·rename_i h4;exact absurd h h4
 rename_i h4;split at h
 ·cases h
 rename_i h5;have key:∀ i (hi:i<x.rows.length),fitX s x.picks x.rows[i]=true∧¬ (0<i∧hd (x.rows.getD i [])≤hd (x.rows.getD (i-1) [])):=fun i hi=>by
  have:=ZL h i hi;unfold zY5 at this;split at this
  ·cases this
  ·rename_i k;rw[qh hi] at k;split at this
   ·cases this
   ·rename_i k2;exact⟨by simpa using k,k2⟩
 refine⟨AQ h1,by simpa using h2,by omega,AQ h4,by omega,fun i hi=>(key i hi).1,jn9 (f:=hd) fun i h0 hi=>?_⟩;have:=(key i hi).2;have e1:x.rows.getD i default=x.rows.getD i []:=rfl;have e2:x.rows.getD (i-1) default=x.rows.getD (i-1) []:=rfl;rw[e1,e2];omega
def knwP (x:Ext) (r:Nat) (c:Int):Int×Int:=if (x.picks.any fun p=>p.col==c)=true then ((x.picks.getD (x.picks.findIdx fun p=>p.col==c) default).lev,(x.rows.getD r []).getD ((x.picks.findIdx fun p=>p.col==c)+1) 0) else (0,0)
def knwI (s:Sch) (x:Ext) (r:Nat) (c lev:Int):Int×Bool:=zi0 s c (knwP x r c).1 (knwP x r c).2 lev
theorem qP6 (p:Pk) (c:Int):Spc Tryz.prog wE [pkT p,.ip [vI c]] [] (vB (p.col==c)) []:=by
 refine qd qE4 mixm (by simp) fun e _ hst=>qg ?_;unfold QO;refine sW ?_;exact .oA [] []
theorem zi1 (s:Sch) (hE:schE s=0) (x:Ext) (r:Nat) (hr:r<x.rows.length) (hrl:x.rows[r].length=x.picks.length+1) (hpl:x.picks.length≤1000) (c lev:Int):Spc Tryz.prog KC [schT s,extT x,vI r,vI c,vI lev] [] (.tup [vI (knwI s x r c lev).1,vB (knwI s x r c lev).2]) []:=by
 have sI:=Za (fun p=>p.col==c) wE [.ip [vI c]] rfl x.picks (fun p _=>qP6 p c) (by omega);cases ha:x.picks.any fun p=>p.col==c with
 | false=>
   have h0:idxI (fun p:Pk=>p.col==c) x.picks = -1:=by rw[idxI,Aq (by rw[ha];simp)]
   have hT:=qo1 s hE c 0 0 lev;have hK:knwI s x r c lev=zi0 s c 0 0 lev:=by rw[knwI,knwP,Aq (by rw[ha];simp)]
   rw[hK];generalize zi0 s c 0 0 lev=w at hT ⊢
   rw[h0] at sI;refine qd qf5 mixm (by simp) fun e _ hst=>qg ?_;unfold yx;refine sW ?_;refine C1.lend [4104] sI ?_ (by rfl) (by rfl) ?_
   ·all_goals (try simp only[tL,simprocAttr,List.map_append,List.map_cons,List.map_nil,List.cons_append,List.nil_append])
    all_goals (try (repeat' (first | exact zb | (apply zx;intro _;exact⟨rfl,rfl⟩) | (apply qE;intro _;exact⟨rfl,rfl⟩) | with_reducible apply qW | with_reducible refine qR ⟨rfl,rfl⟩ ?_ | exact qX | with_reducible apply qS | with_reducible refine qV ⟨rfl,rfl,?_⟩ ?_ | with_reducible apply Az | exact qT rfl | exact qT (by assumption) | (refine⟨⟨?_,rfl,?_,rfl,?_⟩,trivial⟩ <;> first | (simp;done) | (apply qE;intro _;exact⟨rfl,rfl⟩)) | trivial | rfl | (rw[qj (by omega)]) | omega)))
    all_goals (simp only[ltP];exact⟨rfl,by decide,rfl,qR ⟨rfl,rfl⟩ qX⟩)
   refine sW ?_;refine C1.im hT (by rfl) (by rfl) ?_;refine sW ?_;exact .oA [] []
 | true=>
   obtain⟨i,hi,e1,_⟩:=zY3 ha;have e2:idxI (fun p:Pk=>p.col==c) x.picks=(x.picks.findIdx fun p=>p.col==c:Nat):=by rw[idxI,Aj ha]
   have e3:(x.picks.findIdx fun p=>p.col==c)=i:=by omega
   have hK:knwI s x r c lev=zi0 s c x.picks[i].lev (x.rows[r].getD (i+1) 0) lev:=by rw[knwI,knwP,Aj ha,e3,qh hi,qh hr]
   have hT:=qo1 s hE c x.picks[i].lev (x.rows[r].getD (i+1) 0) lev;rw[hK];generalize zi0 s c x.picks[i].lev (x.rows[r].getD (i+1) 0) lev=w at hT ⊢
   rw[e1] at sI;have hwi:=qj (i:=i) (by omega);have hil:i+1<x.rows[r].length:=by omega
   have hgr:(x.rows[r].map vI).getD (i+1) .junk=vI (x.rows[r].getD (i+1) 0):=by rw[qe hil,qh hil]
   refine qd qf5 mixm (by simp) fun e _ hst=>qg ?_;unfold yx;refine sW ?_;refine C1.lend [4104] sI ?_ (by rfl) (by rfl) ?_
   ·all_goals (try simp only[tL,simprocAttr,List.map_append,List.map_cons,List.map_nil,List.cons_append,List.nil_append])
    all_goals (try (repeat' (first | exact zb | (apply zx;intro _;exact⟨rfl,rfl⟩) | (apply qE;intro _;exact⟨rfl,rfl⟩) | with_reducible apply qW | with_reducible refine qR ⟨rfl,rfl⟩ ?_ | exact qX | with_reducible apply qS | with_reducible refine qV ⟨rfl,rfl,?_⟩ ?_ | with_reducible apply Az | exact qT rfl | exact qT (by assumption) | (refine⟨⟨?_,rfl,?_,rfl,?_⟩,trivial⟩ <;> first | (simp;done) | (apply qE;intro _;exact⟨rfl,rfl⟩)) | trivial | rfl | (rw[qj (by omega)]) | omega)))
    all_goals (simp only[ltP];exact⟨rfl,by decide,rfl,qR ⟨rfl,rfl⟩ qX⟩)
   have q1:decide ((i:Int)<0)=false:=decide_eq_false (by omega);have hgi2:=qe (f:=pkT) hi;simp only[tZ,↓un_u,simprocAttr,q1,Ax,hgi2,qe hr,hwi,hgr];refine⟨by omega,by omega,by omega,?_⟩;refine C1.im hT (by rfl) (by rfl) ?_;refine sW ?_;refine⟨by kernel_rfl,?_⟩;exact .oA [] []
def valI (s:Sch) (x:Ext) (r c lev:Int):Int×Bool:=if extE s x≠0∨r<0∨r≥x.rows.length then (0,false) else knwI s x r.toNat c lev
theorem zi2 (s:Sch) (hs:yd s) (x:Ext) (hp:x.picks.length<4611686018427387904) (hr:∀ r∈x.rows,r.length<4611686018427387904) (r c lev:Int):Spc Tryz.prog Ky [schT s,extT x,vI r,vI c,vI lev] [] (.tup [vI (valI s x r c lev).1,vB (valI s x r c lev).2]) []:=by
 have hV:valI s x r c lev=if extE s x≠0∨r<0∨r≥x.rows.length then (0,false) else knwI s x r.toNat c lev:=rfl
 have hC:=qo2 s hs x hp hr;by_cases h:extE s x≠0∨r<0∨r≥x.rows.length
 ·rw[hV,Aj h];refine qd qf4 mixm (by simp) fun e _ hst=>qg ?_;unfold yw;refine sW ?_;refine C1.im hC (by rfl) (by rfl) ?_;simp only[tZ,↓un_u,simprocAttr,tD,bne_iff_ne,Aw];refine⟨fun _=>?_,fun k=>by omega⟩;exact .oA [] []
 ·obtain⟨hE,_,_,hp0,_,hf,_⟩:=kd8 (s:=s) (x:=x) (by omega);obtain⟨j,rfl⟩:=AJ (show 0≤r by omega);have hj:j<x.rows.length:=by omega
  have hpl:=zg7 hp0;have hK:=zi1 s hE x j hj (zY4 (hf j hj)).1 (by omega) c lev;rw[hV,Aq h,Ax];generalize knwI s x j c lev=w at hK ⊢
  refine qd qf4 mixm (by simp) fun e _ hst=>qg ?_;unfold yw;refine sW ?_;refine C1.im hC (by rfl) (by rfl) ?_;simp only[tZ,↓un_u,simprocAttr,tD,bne_iff_ne,Aw];refine⟨fun k=>by omega,fun _=>?_⟩;refine C1.im hK (by rfl) (by rfl) ?_;refine sW ?_;exact .oA [] []
def nrwX (x:Ext) (ks:List Int):Ext:=⟨x.proj,x.ver,x.picks,x.rows.filter fun r=>decide (0<r.length)&&ks.contains (hd r)⟩
end Go.Proofs
namespace Go.Proofs
open Go Go.TL
set_option maxRecDepth 4000
set_option maxHeartbeats 8000000
open So
def nrwP (ks:List Int) (r:List Int):Bool:=decide (0<r.length)&&ks.contains (hd r)
theorem qW7 (x:Ext) (ks:List Int) (hk:ks.length<4611686018427387904) (hp:x.picks.length*16≤140737488355328) (hrl:x.rows.length≤1000000) (hr:∀ r∈x.rows,r.length<10000000000):Spc Tryz.prog Jj [extT x,vIs ks] [] (extT (nrwX x ks)) []:=by
 rw[show nrwX x ks=⟨x.proj,x.ver,x.picks,x.rows.filter (nrwP ks)⟩ from rfl];refine qd qK8 mixm (by simp) fun e _ hst=>qg ?_;unfold Zw;refine sW ?_;refine C1.im (Wq x.picks hp) (by rfl) (by rfl) ?_;refine sW ?_;refine⟨by kernel_rfl,?_⟩;refine qu mixm (α:=Nat) [19] (fun i=>i≤x.rows.length) (fun i=>[(19,vI i)]) (fun i=>[(4100,.arr 4 [extT ext0] false),(8224,.arr 4 [.agg [vS x.proj,vI x.ver,vPs x.picks,.asl 1 ((x.rows.take i).filter (nrwP ks)).length]] false),(1,.arr 1 (((x.rows.take i).filter (nrwP ks)).map vIs) false)]) (fun i=>x.rows.length-i) 0 (by omega) ?_ fun i hi=>?_
 ·exact .oA [(4100,some 4100),(8224,some 8224),(1,none)] []
 have hfl:=List.length_filter_le (nrwP ks) (x.rows.take i);rw[List.length_take] at hfl;refine sD ?_;refine⟨fun h4=>?_,fun h4=>?_⟩
 ·have hi2:i<x.rows.length:=by omega
  have hwi:=qj (i:=i) (by omega);have hsp:(x.rows.take (i+1)).filter (nrwP ks)=(x.rows.take i).filter (nrwP ks)++if nrwP ks x.rows[i]=true then [x.rows[i]] else []:=by
   rw[qH hi2,List.filter_append,List.filter_cons,List.filter_nil]
  have hrr:=hr _ (AX hi2);have hCl:=qH8 x.rows[i] (by omega);simp only[tZ,↓un_u,simprocAttr,Ax,qe hi2];refine⟨by omega,?_⟩;generalize x.rows[i]=r at hsp hrr hCl ⊢
  by_cases h0:0<r.length
  ·have hgi:=kR h0;have hCt:=ww ks (hd r) hk;have q1:decide ((r.length:Int)>0)=true:=decide_eq_true (by omega);have hP:nrwP ks r=ks.contains (hd r):=by rw[nrwP,decide_eq_true h0,Bool.true_and]
   rw[hP] at hsp;simp only[tZ,↓un_u,simprocAttr,hgi,q1];refine⟨by omega,?_⟩;refine C2.im (fun _=>hCt) (fun _=>rfl) (by rfl) ?_;simp only[tZ,↓un_u,simprocAttr,hwi];refine⟨fun h6=>?_,fun h6=>?_⟩
   ·rw[Aj h6] at hsp;refine C1.im hCl (by rfl) (by rfl) ?_;simp only[tZ,↓un_u,simprocAttr,hwi];have hspl:=congrArg List.length hsp;simp only[AW,List.length_cons,List.length_nil] at hspl;refine⟨by omega,by kernel_rfl,i+1,by omega,by omega,?_⟩;rw[hsp];exact .oA [(4100,some 4100),(8224,some 8224),(1,some 1)] []
   ·rw[Aq (by rw[h6];simp),List.append_nil] at hsp;refine⟨i+1,by omega,by omega,?_⟩;rw[hsp];exact .oA [(4100,some 4100),(8224,some 8224),(1,some 1)] []
  ·have q1:decide ((r.length:Int)>0)=false:=decide_eq_false (by omega);have hP:nrwP ks r=false:=by rw[nrwP,decide_eq_false h0,Bool.false_and]
   rw[hP,Aq (by simp),List.append_nil] at hsp;obtain rfl:r=[]:=List.length_eq_zero_iff.1 (by omega);simp only[tZ,↓un_u,simprocAttr,q1];refine C2.im (r:=vB false) (fun h=>absurd h (by simp)) (fun h=>absurd h (by simp)) (by rfl) ?_;simp only[tZ,↓un_u,simprocAttr,hwi];refine⟨i+1,by omega,by omega,?_⟩;rw[hsp];exact .oA [(4100,some 4100),(8224,some 8224),(1,some 1)] []
 ·have hil:i=x.rows.length:=by omega
  subst hil;rw[List.take_length];exact .oA [] [1]
end Go.Proofs
namespace Go.Proofs
open Go Go.TL
set_option maxRecDepth 4000
set_option maxHeartbeats 8000000
def zE3:CodL:=⟨⟨#[108]⟩,[⟨⟨#[97]⟩,-1⟩,⟨⟨#[98]⟩,0⟩,⟨⟨#[99]⟩,0⟩]⟩
def qt2:Sch:=⟨[zE3],[⟨⟨#[119,104,111]⟩,1,0,0,0,[],false⟩,⟨⟨#[115,101,120]⟩,2,0,0,0,[],false⟩]⟩
def zE4:Qst:=⟨⟨#[113]⟩,1,.mk 1 0 0 0 0 [],[⟨1,1⟩],-1,[],cnd0⟩
def qP7:Dcl:=⟨⟨#[112]⟩,⟨#[115]⟩,.mk 1 0 0 0 0 [],⟨1,1,0⟩,[zE4]⟩
theorem qX8:yd qt2:=⟨by decide,by decide,by decide⟩
end Go.Proofs
namespace Go.Proofs
open Go Go.TL
set_option maxRecDepth 4000
set_option maxHeartbeats 8000000
open So
theorem zu7 (a:List Int):zO4 a a=true:=jE2.2 rfl
def qI7:Src:=⟨qt2,[[7,2]],[],0⟩
def qt3:Ext:=⟨⟨#[112]⟩,0,[⟨1,1⟩],[[keyI 99 7,2]]⟩
theorem jk1:qR4 qI7 qP7 [⟨1,1⟩] 99=qt3∧buildE qI7 qP7 [⟨1,1⟩] 99=0:=⟨by kernel_rfl,by kernel_rfl⟩
theorem kj6:valI qt2 qt3 0 1 0=(0,true):=by kernel_rfl
theorem kj7:extE qt2 qt3=0:=by kernel_rfl
theorem kj8:ownS qI7 qP7=[7]:=by kernel_rfl
theorem zE5:Spc Tryz.prog qb3 [] [] (vB true) []:=by
 have hsm:jE8 qI7:=⟨qX8,by decide⟩;have hB:=qo0 qI7 qP7 [⟨1,1⟩] 99 hsm (by decide) (by decide);rw[jk1.1,jk1.2] at hB;have hV:=zi2 qt2 qX8 qt3 (by decide) (by decide) 0 1 0;rw[kj6] at hV;have hK:=zX3 99 7;have hI:=qR2 [keyI 99 7,2] [keyI 99 7,2] (by decide);rw[zu7] at hI;have hC:=qo2 qt2 qX8 qt3 (by decide) (by decide);rw[kj7] at hC;have hO:=qg0 qI7 qP7 hsm;rw[kj8] at hO;have hI2:=qR2 [7] [7] (by decide);rw[zu7] at hI2;have hN:=ka qt2 qX8 (.mk 1 0 0 0 0 []);rw[show chkC qt2 (.mk 1 0 0 0 0 [])=0 by kernel_rfl] at hN;have hW:=qW7 qt3 [] (by decide) (by decide) (by decide) (by decide);rw[show nrwX qt3 []=⟨⟨#[112]⟩,0,[⟨1,1⟩],[]⟩ by kernel_rfl] at hW;have hE1:qt3.rows=[[keyI 99 7,2]]:=rfl;refine qd zj3 mixm (by simp) fun e _ hst=>qg ?_;unfold WT;refine sW ?_;refine C1.shutD [8204,8212,8224,16400,16408,20484,20488,24588] hB ?_ (by rfl) rfl ?_
 ·simp [ptw,ltAD,ltD,TL.get,T.cells,imT,imL,qI7,qt3,qt2,zE4,qP7,zE3]
  all_goals (try (repeat' apply Az))
  all_goals (try rfl)
 refine sW ?_;refine C1.lendD [8204,8212,8224,16400,16408,20484,20488,24588] hV ?_ (by rfl) (by rfl) ?_
 ·simp [ptw,ltAD,ltD,TL.get,T.cells,imT,imL,qI7,qt3,qt2,zE4,qP7,zE3]
  all_goals (try (repeat' apply Az))
  all_goals (try rfl)
 simp only[tZ,↓un_u,simprocAttr,hE1];refine C2.im (fun _=>hK) (fun _=>rfl) (by rfl) ?_;refine sW ?_;refine C2.lendD [32824] (fun _=>hI) (fun _=>?_) (by rfl) (by rfl) ?_
 ·simp [ptw,ltAD,ltD,TL.get,T.cells,imT,imL,qI7,qt3,qt2,zE4,qP7,zE3]
  all_goals (try (repeat' apply Az))
  all_goals (try rfl)
 refine sW ?_;refine C2.lendD [8204,8212,8224,16400,16408,20484,20488,24588] (fun _=>hC) (fun _=>?_) (by rfl) (by rfl) ?_
 ·simp [ptw,ltAD,ltD,TL.get,T.cells,imT,imL,qI7,qt3,qt2,zE4,qP7,zE3]
  all_goals (try (repeat' apply Az))
  all_goals (try rfl)
 simp only[tZ,↓un_u,simprocAttr,bne_self_eq_false,beq_self_eq_true];refine C2.one trivial (C1.shutD [8204,8212,8224,16400,16408,20484,20488,24588] hO ?_ (by rfl) rfl ?_)
 ·simp [ptw,ltAD,ltD,TL.get,T.cells,imT,imL,qI7,qt3,qt2,zE4,qP7,zE3]
  all_goals (try (repeat' apply Az))
  all_goals (try rfl)
 refine sW ?_;refine C2.lendD [32904] (fun _=>hI2) (fun _=>?_) (by rfl) (by rfl) ?_
 ·simp [ptw,ltAD,ltD,TL.get,T.cells,imT,imL,qI7,qt3,qt2,zE4,qP7,zE3]
  all_goals (try (repeat' apply Az))
  all_goals (try rfl)
 refine sW ?_;refine C2.lendD [8204,8212,8224,16400,16408,20484,20488,24588] (fun _=>hN) (fun _=>?_) (by rfl) (by rfl) ?_
 ·simp [ptw,ltAD,ltD,TL.get,T.cells,imT,imL,qI7,qt3,qt2,zE4,qP7,zE3]
  all_goals (try (repeat' apply Az))
  all_goals (try rfl)
 refine sW ?_;refine C2.one trivial (C1.shutD [8204,8212,8224,16400,16408,20484,20488,24588] hW ?_ (by rfl) rfl ?_)
 ·simp [ptw,ltAD,ltD,TL.get,T.cells,imT,imL,qI7,qt3,qt2,zE4,qP7,zE3]
  all_goals (try (repeat' apply Az))
  all_goals (try rfl)
 refine sW ?_;refine⟨by kernel_rfl,?_⟩;exact .oA [] []
end Go.Proofs
namespace Go.Proofs
open Go Go.TL
set_option maxRecDepth 4000
set_option maxHeartbeats 8000000
theorem zi3 {s:Sch} {d:Dcl} (h:dclE s d=0):Qa s (Wk s d)=0∧(∀ p∈Wk s d,0<p.lev)∧(Wk s d).Pairwise fun a b=>a.col<b.col:=by
 obtain⟨hE,_,_,_,_,_,_,hqs⟩:=qN3 h;have hp:Qa s (Wk s d)=0:=by
  rw[qq0 h];refine jo3 hE fun k hk h0=>?_;obtain⟨p,hp,e1,e2⟩:=zE1 h0;obtain⟨q,hq,hp2⟩:=List.mem_flatMap.1 hp;have hb:=qX6 q p hp2;have hqe:qstE s q=0:=by
   obtain⟨n,hn,rfl⟩:=List.getElem_of_mem hq;have:=hqs n hn;rw[qAt,qh hn] at this;exact this
  have hqk:=qy7 hqe;refine⟨by omega,?_⟩;rw[← e2];have h1:=jH6 hp2;rw[e1,jI5 hqe hk] at h1;have:=jY0 (l:=zh6 s q) (k:=k) (zE0 hE (by omega) hk) fun p hp e=>by rw[← e];exact jH5 hqk p hp
  omega
 refine⟨hp,fun p hp=>?_,(YZ hp).2.2⟩;rw[qq0 h] at hp;exact (zS0 hp).1
theorem jI9 (l:List Pk):covB l l=true:=qX7.2 fun x hx=>⟨x,hx,rfl,Int.le_refl _⟩
end Go.Proofs
namespace Go.Proofs
open Go Go.TL
set_option maxRecDepth 4000
set_option maxHeartbeats 8000000
open So
theorem kd9 {x:Src} {d:Dcl} {k:Int} (h:SrcOk x) (hd0:dclE x.sch d=0) (hk:0≤k∧k<1152921504606846976) {l:List Pk} (hc:zf6 x.sch d l=0):buildE x d l k=0∧qR4 x d l k=⟨d.proj,x.ver,l,qf7 x d l k⟩:=by
 have h1:buildE x d l k=0:=by
  rw[buildE,Aq (by rw[qy8.2 h];simp),Aq (by rw[hc];simp),Aq (by omega)]
 exact⟨h1,by rw[qR4,h1,Aq (by simp)]⟩
theorem ke0 {s:Sch} {d:Dcl} (h:dclE s d=0):zf6 s d (Wk s d)=0:=by
 rw[jj9 h (zi3 h).1,Aj (jI9 _)]
structure BldF (x:Src) (d:Dcl) (P:List Pk) (k:Int) (R:List (List Int)) (O:List Int):Prop where
 len:R.length=O.length
 asc:AscR R
 row:∀ i (hi:i<R.length),∃ (j:Nat) (hj:j<x.rows.length),R[i]=rowX x P k x.rows[j]∧zp6 x (hd x.rows[j])=j∧idI k (hd R[i])=hd x.rows[j]∧O.contains (hd x.rows[j])=true∧jn6 x.sch d.coh x.rows[j]=1
theorem jJ0 {x:Src} {d:Dcl} {k:Int} (h:SrcOk x) (hd0:dclE x.sch d=0) (hk:0≤k∧k<1152921504606846976) (P:List Pk):BldF x d P k (qf7 x d P k) (ownS x d):=by
 have hpw:=jI0 (d:=d) h hk;obtain⟨q1,_,_⟩:=zY1 x P k (ownR x d) [] List.Pairwise.nil (by simp);have hnd1:((ownR x d).map (rowX x P k)).Nodup:=by
  refine List.pairwise_map.2 (hpw.imp fun {a b} h e=>h ?_);have:=congrArg hd e;exact this
 have hnd2:(qf7 x d P k).Nodup:=q1.imp fun {a b} h e=>by rw[e] at h;omega
 have hperm:(qf7 x d P k).Perm ((ownR x d).map (rowX x P k)):=(List.perm_ext_iff_of_nodup hnd2 hnd1).2 fun r=>by
  rw[qP3 h hd0 hk,List.mem_map];constructor
  ·rintro ⟨r0,a,b,rfl⟩;exact⟨r0,(zh9 h hd0 r0).2 ⟨a,b⟩,rfl⟩
  ·rintro ⟨r0,a,rfl⟩;obtain⟨b,c⟩:=(zh9 h hd0 r0).1 a;exact⟨r0,b,c,rfl⟩
 refine⟨by rw[hperm.length_eq,List.length_map,ownS,List.length_map],q1,fun i hi=>?_⟩;obtain⟨r0,a,b,e⟩:=(qP3 h hd0 hk _).1 (AX hi);obtain⟨j,f1,f2,rfl⟩:=jP6 h a;have hin:=jE7 (h.rows _ a);have hki:=jH9 hk (n:=hd x.rows[j]) (by omega);refine⟨j,f2,e,f1,by rw[e];exact hki.2,?_,?_⟩
 ·rw[List.contains_iff_mem];exact List.mem_map.2 ⟨_,(zh9 h hd0 _).2 ⟨a,b⟩,rfl⟩
 ·rw[ownP,Bq,AY] at b;exact b.1
theorem zY6 (l:List Pk):qR1 l l=true:=by
 rw[jn8]
theorem kl0 (n:Int) (hn:0≤n∧n≤12) (l:List UInt8) (a:Nat) (hl:l.length≤400) (ha:a≤l.length):∃ (x:Src) (d:Dcl) (a1 a2:Nat),DrX x∧x.rows.length≤12∧jE8 x∧0<x.sch.lists.length∧dclE x.sch d=0∧a1≤l.length∧a2≤l.length∧
 Spc Tryz.prog jf [.ptr 0 1 0 0,vI n] [(0,oC l a)] (srcT x) [(0,oC l a1)]∧Spc Tryz.prog zn [.ptr 0 1 0 0,schT x.sch] [(0,oC l a1)] (dclT d) [(0,oC l a2)]:=by
 obtain⟨⟨x,a1⟩,⟨⟨hX,hr,_⟩,ha1⟩,sS⟩:=qs5 n l a hl ha (by omega);dsimp only at hX hr ha1 sS;obtain⟨⟨d,a2⟩,⟨hd,ha2⟩,sDd⟩:=qa2 x.sch hX.sch l a1 hl ha1;dsimp only at hd ha2 sDd;exact⟨x,d,a1,a2,hX,by omega,hX.ok.smx,by obtain⟨a,b,e,_⟩:=hX.sch.ls;rw[e];simp,hd,ha1,ha2,sS,sDd⟩
theorem qz6 (bs:List UInt8):Spc Tryz.prog Kx [vL bs] [] (vB true) []:=by
 have hl4:(bs.take 400).length≤400:=by rw[List.length_take];omega
 obtain⟨x,d,a1,a2,hX,h12,hsm,hL,hdE,ha1,ha2,sS,sDd⟩:=kl0 10 (by omega) (bs.take 400) 0 hl4 (by omega);obtain⟨k,a3,hk1,hk2,ha3,sK⟩:=jQ2 (bs.take 400) a2 hl4 ha2;have sP:=zQ0 x.sch hsm.1 hL d;rw[hdE] at sP;have hpl:=zP9 x.sch d;have hck:=ke0 hdE;obtain⟨e1,e2⟩:=kd9 hX.ok hdE ⟨hk1,hk2⟩ hck;have sB:=qo0 x d (Wk x.sch d) k hsm h12 (by omega);rw[e1,e2] at sB;have sO:=qg0 x d hsm;have hF:=jJ0 hX.ok hdE ⟨hk1,hk2⟩ (Wk x.sch d);have hpp:=(zi3 hdE).1;have sSP:=qN4 (Wk x.sch d) (Wk x.sch d) (by omega);rw[zY6] at sSP;have hRl:(qf7 x d (Wk x.sch d) k).length≤200:=by
  have h1:=hF.len;rw[ownS,List.length_map] at h1;have:=jR7 hX.ok d;omega
 generalize Wk x.sch d=P at sP hpl hck e1 e2 sB hF hpp sSP hRl;generalize qf7 x d P k=R at sB hF hRl;generalize ownS x d=O at sO hF;refine qd qq3 mixm (by simp) fun e _ hst=>qg ?_;unfold wS;refine sW ?_;refine C1.newdraw 8196 (jn3 bs) rfl rfl ?_;generalize bs.take 400=m at hl4 sS sDd sK ha1 ha2 ha3 ⊢
 refine sW ?_;refine C1.draw 8196 m 0 _ sS rfl rfl rfl ?_;refine sW ?_;refine C1.draw 8196 m a1 _ sDd rfl rfl rfl ?_;refine sW ?_;refine C1.im sP (by rfl) (by rfl) ?_;refine sW ?_;refine C1.draw 8196 m a2 _ sK rfl rfl rfl ?_;refine sW ?_;refine C1.im sB (by rfl) (by rfl) ?_;refine sW ?_;refine C1.im sO (by rfl) (by rfl) ?_;simp only[tZ,↓un_u,simprocAttr,bne_self_eq_false,hF.len];refine C2.im (fun _=>sSP) (fun _=>rfl) (by rfl) ?_;refine sW ?_;refine qu mixm (α:=Nat) [80] (fun i=>i≤R.length) (fun i=>[(80,vI i)]) (fun i=>[(12296,.arr 5 [srcT x] false),(16400,.arr 12 [dclT d] false),(28704,.arr 4 [extT ⟨d.proj,x.ver,P,R⟩] false)]) (fun i=>R.length-i) 0 (by omega) ?_ fun i hi=>?_
 ·exact .oA [(12296,some 12296),(16400,some 16400),(28704,some 28704)] []
 refine sD ?_;refine⟨fun h4=>?_,fun h4=>?_⟩
 ·have hi2:i<R.length:=by omega
  have hwi:=qj (i:=i) (by omega);obtain⟨j,hj,g1,g2,g3,g4,g5⟩:=hF.row i hi2;have hlen:∀ i (hi:i<R.length),R[i].length=P.length+1:=fun i hi=>by
   obtain⟨_,_,g,_⟩:=hF.row i hi;rw[g,rowX,List.length_cons,List.length_map]
  have hip:0<R[i].length:=by rw[hlen i hi2];omega
  have hwp:=qj (i:=P.length) (by omega);have q1:((R[i].length:Int) != ((P.length+1:Nat):Int))=false:=by rw[Aw,hlen i hi2]
  have sId:=jo0 k (hd R[i]);rw[g3] at sId;have hnr:=hX.ok.nr;have sFd:=zQ3 x (hd x.rows[j]) (by omega);rw[g2] at sFd;have hOl:=hF.len;have sHs:=qy2 O (hd x.rows[j]) (by omega);rw[g4] at sHs;have hrj:=qy1 (hX.ok.rows _ (AX hj));have hrl:=hrj.2.1;have sEv:=zP2 x.sch hsm.1 hL d.coh x.rows[j] (hsm.2 _ (AX hj));rw[g5] at sEv;obtain⟨z,hk1',hk2',hk3'⟩:∃ z:Nat,(IntKind.i64.wrap ((i:Int)-1)).toNat=z∧z<R.length∧(i=0∧z=0∨0<i∧z+1=i∧IntKind.i64.wrap ((i:Int)-1)=z):=by
   rcases Nat.eq_zero_or_pos i with h0 | h0
   ·subst h0;exact⟨0,by decide,hi2,.inl ⟨rfl,rfl⟩⟩
   ·have e:=jO h0 (show i<4611686018427387904 by omega);exact⟨i-1,by rw[e];omega,by omega,.inr ⟨h0,by omega,e⟩⟩
  have hzp:0<R[z].length:=by rw[hlen z hk2'];omega
  have q2:(decide ((i:Int)>0)&&decide (hd R[i]≤hd R[z]))=false:=by
   rw[Bool.eq_false_iff];intro q;rw[Bq,AZ,AZ] at q;have:=List.pairwise_iff_getElem.1 hF.asc z i hk2' hi2 (by omega);omega
  have q3:decide ((j:Int)<0)=false:=decide_eq_false (by omega);simp only[tZ,↓un_u,simprocAttr,Ax,qe hi2,hwp,q1,kR hip];refine⟨by omega,by omega,?_⟩;refine C1.im sId (by rfl) (by rfl) ?_;refine sW ?_;refine C1.im sFd (by rfl) (by rfl) ?_;simp only[tZ,↓un_u,simprocAttr,Ax,hk1',qe hk2',qe hi2,kR hip,kR hzp,q2,q3,qe hj];refine⟨fun _=>by omega,fun q=>by have:=of_decide_eq_true q;omega,fun _=>by omega,?_⟩;refine C2.im (fun _=>sHs) (fun _=>rfl) (by rfl) ?_;simp only[tZ,↓un_u,simprocAttr,Ax,qe hj];refine⟨by omega,?_⟩;refine C2.im (fun _=>sEv) (fun _=>rfl) (by rfl) ?_;simp only[tZ,↓un_u,simprocAttr,bne_self_eq_false];refine⟨by kernel_rfl,?_⟩;have hgR:∀ n (hn:n<P.length),R[i].getD (n+1) 0=qU x.sch P[n].col P[n].lev (x.rows[j].getD P[n].col.toNat 0):=fun n hn=>by
   rw[g1,rowX,List.getD_cons_succ,qh (by rw[List.length_map];exact hn),List.getElem_map]
  refine qu mixm (α:=Nat) [140] (fun n=>n≤P.length) (fun n=>[(140,vI n)]) (fun n=>[(12296,.arr 5 [srcT x] false),(16400,.arr 12 [dclT d] false),(28704,.arr 4 [extT ⟨d.proj,x.ver,P,R⟩] false)]) (fun n=>P.length-n) 0 (by omega) ?_ fun n hn=>?_
  ·exact .oA [(12296,some 12296),(16400,some 16400),(28704,some 28704)] []
  refine sD ?_;refine⟨fun h5=>?_,fun h5=>?_⟩
  ·have hn2:n<P.length:=by omega
   have hwn:=qj (i:=n) (by omega);have hpn:=qe6 ((YZ hpp).2.1 _ (AX hn2));have hcl:P[n].col.toNat<x.rows[j].length:=by omega
   have hgc:(x.rows[j].map vI).getD P[n].col.toNat .junk=vI (x.rows[j].getD P[n].col.toNat 0):=by rw[qe hcl,qh hcl]
   have hrn:n+1<R[i].length:=by rw[hlen i hi2];omega
   have hgn:(R[i].map vI).getD (n+1) .junk=vI (R[i].getD (n+1) 0):=by rw[qe hrn,qh hrn]
   have sC:=jM x.sch hsm.1 P[n].col P[n].lev (x.rows[j].getD P[n].col.toNat 0);rw[← hgR n hn2] at sC;simp only[tZ,↓un_u,simprocAttr,Ax,qe hn2,hgc,hgn,hwn,qe hj];refine⟨by omega,by omega,by omega,by omega,?_⟩;refine C1.im sC (by rfl) (by rfl) ?_;simp only[tZ,↓un_u,simprocAttr,bne_self_eq_false,hwn];refine⟨by kernel_rfl,n+1,by omega,by omega,?_⟩;exact .oA [(12296,some 12296),(16400,some 16400),(28704,some 28704)] []
  ·simp only[tZ,↓un_u,simprocAttr,hwi];refine⟨i+1,by omega,by omega,?_⟩;exact .oA [(12296,some 12296),(16400,some 16400),(28704,some 28704)] []
 ·refine C1.im zE5 (by rfl) (by rfl) ?_;refine sW ?_;exact .oA [] []
end Go.Proofs
