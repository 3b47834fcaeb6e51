/- A part of the proof: trees of Go values, short forms, contracts. -/
import Derived.WalkKit
import Derived.Still
import Derived.MapKept
import GoSem.Builtin.Cap
import Derived.Laws.Externs
import GoSem.Extern.SlicesOverlaps
import Derived.Carry
import Derived.ProofKit
import Derived.OpenShut
import Derived.HandedShaped
import Derived.Lay
import Derived.LaidLaws
import Derived.MakeChecks
import Derived.SevenTiedAt
import Derived.Test.YtpmgddadeedmbaaGreatDoorChecked
import Derived.Test.YtpmgddadeedmbaaGreatDoorK20
set_option linter.unusedSimpArgs false
set_option linter.unusedVariables false
namespace Go.Proofs
open Go Go.TL
set_option maxHeartbeats 8000000
open So
theorem qH5 (l:List Int) (hl:l.length*8≤140737488355328):Spc Tryz.prog Qs [vIs l] [] (vIs l) []:=by
 refine qd qw6 mixm (by simp) fun e _ hst=>qg ?_;unfold yK;refine sW ?_;refine⟨fun h=>?_,?_⟩
 ·have:l=[]:=by
   simpa using h
  subst this;exact .oA [] []
 ·refine⟨by omega,?_⟩;exact .oA [] [16384]
theorem Wr (l:List Pk) (hl:l.length*16≤140737488355328):Spc Tryz.prog ki [vPs l] [] (vPs l) []:=by
 refine qd qr4 mixm (by simp) fun e _ hst=>qg ?_;unfold wY;refine sW ?_;refine⟨fun h=>?_,?_⟩
 ·have:l=[]:=by
   simpa using h
  subst this;exact .oA [] []
 ·refine⟨by omega,?_⟩;exact .oA [] [16384]
def idxN (n:Int):List Int→Nat
 | []=>0
 | x::r=>if x=n then 0 else idxN n r+1
theorem jE9 {n:Int}:∀ {l:List Int} {i:Nat} (h:i<l.length),n∉l.take i→l[i]=n→idxN n l=i
 | [],i,h,_,_=>by simp at h
 | x::r,0,h,_,hp=>by simp at hp;simp [idxN,hp]
 | x::r,i+1,h,h1,hp=>by
   simp only[List.take_succ_cons,List.mem_cons,not_or] at h1;simp only[idxN];rw[Aq (fun e=>h1.1 e.symm),jE9 (l:=r) (i:=i) (by simpa using h) h1.2 (by simpa using hp)]
def ji2 (l:List Int) (n:Int):Int:=if n∈l then idxN n l else -1
theorem qH6 (l:List Int) (n:Int) (hl:l.length<4611686018427387904):Spc Tryz.prog Qv [vIs l,vI n] [] (vI (ji2 l n)) []:=by
 refine qd qx1 mixm (by simp) fun e _ hst=>qg ?_;unfold yM;refine sW ?_;refine qu mixm (α:=Nat) [8] (fun i=>i≤l.length∧(n∉l.take i)) (fun i=>[(8,vI i)]) (fun i=>[]) (fun i=>l.length-i) 0 ⟨by omega,?_⟩ ?_ fun i hi=>?_
 ·simp
 ·exact .oA [] []
 simp only[tZ,↓un_u,simprocAttr,AZ,Ay];refine⟨fun h=>?_,fun h=>?_⟩
 ·have hi2:i<l.length:=by omega
  have hwi:=qj (i:=i) (by omega);simp only[tZ,↓un_u,simprocAttr,Ax,qe hi2,hwi,AY,Ak];refine⟨by omega,fun h3=>?_,fun h3=>⟨i+1,⟨by omega,?_⟩,by omega,?_⟩⟩
  ·have hm:n∈l:=by rw[h3];exact AX hi2
   rw[ji2,Aj hm,jE9 hi2 hi.2 h3.symm];exact .imR rfl rfl
  ·rw[qH hi2,List.mem_append];rintro (h4 | h4)
   ·exact hi.2 h4
   ·simp at h4;exact h3 h4
  ·exact .oA [] []
 ·have h2:i=l.length:=by omega
  have h3:=hi.2;rw[h2,List.take_length] at h3;rw[ji2,Aq h3];exact .imR rfl rfl
theorem wx (l:List Int) (n:Int) (hl:l.length<4611686018427387904):Spc Tryz.prog zF [vIs l,vI n] [] (vB (l.contains n)) []:=by
 refine qd qg8 mixm (by simp) fun e _ hst=>qg ?_;unfold kN;refine sW ?_;refine C1.im (qH6 l n hl) rfl (by rfl) ?_;refine sW ?_;refine .imR ?_ rfl;unfold ji2;by_cases h:n∈l
 ·rw[Aj h,List.contains_iff_mem.2 h];simp
 ·rw[Aq h];cases hc:l.contains n
  ·simp
  ·exact absurd (List.contains_iff_mem.1 hc) h
end Go.Proofs
namespace Go.Proofs
open Go Go.TL
set_option maxRecDepth 4000
set_option maxHeartbeats 8000000
end Go.Proofs
namespace Go.Proofs
open Go Go.TL
open Go.TL.So
theorem jF0 (n:Int):Spc Tryz.prog QA [vI n] [] (vB false) []:=by
 refine qd qV0 mixm (by simp) fun e _ hst=>qg ?_;unfold JP;simp only[tZ,↓un_u,simprocAttr,bne_self_eq_false];exact .oA [] []
theorem zp1 (a b:Int):Spc Tryz.prog WO [vI a,vI b] [] (vB (ltI a b)) []:=by
 refine qd zd7 mixm (by simp) fun e _ hst=>qg ?_;unfold Wf;refine sW ?_;refine C1.im (jF0 a) (by rfl) (by rfl) ?_;refine sW ?_;refine C2.no (by simp) ?_;refine sW ?_;exact .oA [] []
end Go.Proofs
namespace Go.Proofs
open Go Go.TL
set_option maxRecDepth 4000
set_option maxHeartbeats 8000000
structure RwId (l:List (List Int)):Prop where
 asc:AscR l
 pos:∀ r∈l,0<r.length
 ids:∀ r∈l,1≤hd r∧hd r≤1048575
 len:l.length≤1000
open So
theorem WL (n:Int):Spc Tryz.prog kS [vI n] [] (vB false) []:=by
 refine qd qx6 mixm (by simp) fun e _ hst=>qg ?_;unfold yN;simp only[tZ,↓un_u,simprocAttr,bne_self_eq_false];exact .oA [] []
theorem jF1 {x y:T}:jM6 (some (.v undef)) (some x) (some y)=none:=_root_.id rfl
def insN (l:List Int) (n:Int):Nat:=l.findIdx fun y=>decide (n≤y)
theorem YJ (l:List Int) (n:Int) (h:l.Pairwise fun a b=>a<b) (hl:l.length<4611686018427387904):Spc Tryz.prog jD [vIs l,vI n] [] (.tup [vI (insN l n),vB (l.contains n)]) []:=by
 have hp:=List.pairwise_iff_getElem.1 h;refine qd WA mixm (by simp) fun e _ hst=>qg ?_;unfold jo;refine sW ?_;refine qu mixm (α:=Nat×Nat) [7,8] (fun p=>p.1≤p.2∧p.2≤l.length∧(∀ (m:Nat) (h:m<l.length),m<p.1→l[m]<n)∧(∀ (m:Nat) (h:m<l.length),p.2≤m→¬ l[m]<n)) (fun p=>[(7,vI p.1),(8,vI p.2)]) (fun p=>[]) (fun p=>p.2-p.1) (0,l.length) ?_ ?_ fun p hp=>?_
 ·exact⟨by simp,by simp,fun m h h2=>absurd h2 (by simp),fun m h h2=>absurd h2 (by simp only;omega)⟩
 ·exact .oA [] []
 obtain⟨i,j⟩:=p;obtain⟨h1,h2,h3,h4⟩:=hp;dsimp only at h1 h2 h3 h4;simp only[tZ,↓un_u,simprocAttr,AZ,Ay];refine⟨fun h5=>?_,fun h5=>?_⟩
 ·have hij:i<j:=by omega
  obtain⟨h,hh,hhi,hhj⟩:∃ h:Nat,h=(i+j) / 2∧i≤h∧h<j:=⟨(i+j) / 2,rfl,by omega,by omega⟩;have hw1:IntKind.i64.wrap ((i:Int)+(j:Int))=((i+j:Nat):Int):=by rw[AK _ (by omega)];omega
  have hw2:IntKind.u64.wrap ((i+j:Nat):Int)=((i+j:Nat):Int):=IntWalk.u64_in _ (by omega);have hw3:shrI .u64 ((i+j:Nat):Int) 1=(h:Int):=by
   simp only[shrI];rw[show (min (1:Int).toNat IntKind.u64.bits)=1 from rfl,Int.fdiv_eq_ediv_of_nonneg _ (by decide)];omega
  have hw4:IntKind.i64.wrap (h:Int)=(h:Int):=AK _ (by omega);have hlt:h<l.length:=by omega
  have hws:=qj (i:=h) (by omega);have hcall:=zp1 l[h] n;simp only[tZ,↓un_u,simprocAttr,hw1,hw2,hw3,hw4,Ax,qe hlt];refine⟨by omega,?_⟩;refine C1.im hcall (by rfl) (by rfl) ?_;simp only[tZ,↓un_u,simprocAttr,AZ,Ay,hws,ltI];refine⟨fun h6=>?_,fun h6=>?_⟩
  ·refine⟨(h+1,j),⟨by simp only;omega,h2,fun m hm1 hm2=>?_,h4⟩,by simp only;omega,?_⟩
   ·by_cases hmh:m=h
    ·subst hmh;exact h6
    ·have:=hp m h hm1 hlt (by simp only at hm2;omega);omega
   ·exact .oA [] []
  ·refine⟨(i,h),⟨by simp only;omega,by simp only;omega,h3,fun m hm1 hm2 hm3=>?_⟩,by simp only;omega,?_⟩
   ·by_cases hmh:m=h
    ·subst hmh;exact h6 hm3
    ·have:=hp h m hlt hm1 (by simp only at hm2;omega);omega
   ·exact .oA [] []
 ·have hij:i=j:=by omega
  subst hij;have hfi:insN l n=i:=by
   unfold insN;by_cases hil:i<l.length
   ·refine Zn hil ?_ (by have:=h4 i hil (Nat.le_refl _);simp;omega);rw[List.any_eq_false];intro y hy;obtain⟨m,hm1,rfl⟩:=List.getElem_of_mem hy;rw[List.length_take] at hm1;rw[List.getElem_take];have:=h3 m (by omega) (by omega);simp;omega
   ·have:i=l.length:=by omega
    subst this;rw[List.findIdx_eq_length];intro y hy;obtain⟨m,hm1,rfl⟩:=List.getElem_of_mem hy;have:=h3 m hm1 hm1;simp;omega
  rw[hfi];by_cases hil:i<l.length
  ·have hg:decide ((i:Int)<(l.length:Int))=true:=by simp;omega
   have hct:l.contains n=(l[i]==n):=by
    rw[Bool.eq_iff_iff,List.contains_iff_mem,AY];constructor
    ·intro hm;obtain⟨m,hm1,rfl⟩:=List.getElem_of_mem hm;by_cases c1:m<i
     ·have:=h3 m hm1 c1;omega
     ·by_cases c2:i<m
      ·have:=hp i m hil hm1 c2;have:=h4 i hil (Nat.le_refl _);omega
      ·have:i=m:=by omega
       subst this;rfl
    ·intro e;rw[← e];exact AX hil
   rw[hct];have hnn:=WL l[i];simp only[tZ,↓un_u,simprocAttr,hg,Ax,qe hil];refine⟨fun _=>by omega,fun _=>by omega,?_⟩;refine C2.im (fun _=>hnn) (fun _=>rfl) (by rfl) ?_;refine sW ?_;refine C2.im (fun _=>WL n) (fun _=>rfl) (by rfl) ?_;refine sW ?_;exact .oA [] []
  ·have hg:decide ((i:Int)<(l.length:Int))=false:=by simp;omega
   have hct:l.contains n=false:=by
    cases e:l.contains n with
    | false=>rfl
    | true=>
      obtain⟨m,hm1,rfl⟩:=List.getElem_of_mem (List.contains_iff_mem.1 e);have:=h3 m hm1 (by omega);omega
   rw[hct];have hj:(l.map vI).getD i T.junk=T.junk:=by rw[List.getD_eq_getElem?_getD,List.getElem?_eq_none (by rw[List.length_map];omega)];rfl
   simp only[tZ,↓un_u,simprocAttr,hg,Ax,hj];refine⟨fun h=>by omega,by omega,?_⟩;simp only[tZ,↓un_u,simprocAttr,hg,zZ1];refine C2.no (fun h=>h) ?_;simp only[tZ,↓un_u,simprocAttr,hg,zZ1];refine C2.no (fun h=>h) ?_;simp only[tZ,↓un_u,simprocAttr,hg,zZ1,jF1,zv7,not_false_eq_true,true_and];exact .oA [] []
end Go.Proofs
namespace Go.Proofs
open Go Go.TL
set_option maxRecDepth 4000
set_option maxHeartbeats 8000000
theorem zg6 {s:Src} (h:SrcOk s→False):srcB s=false:=by
 cases e:srcB s with
 | false=>rfl
 | true=>exact (h (qy7.1 e)).elim
theorem qt9 (s:Src) (hn:s.sch.cols.length<4611686018427387904) (hl:s.sch.lists.length<4611686018427387904) (hr:∀ r∈s.rows,r.length<4611686018427387904):Spc Tryz.prog ZW [srcT s] [] (vB (srcB s)) []:=by
 have hC:=zY s.sch hn hl;refine qd zc0 mixm (by simp) fun e _ hst=>qg ?_;unfold KS;refine sW ?_;refine C1.im hC (by rfl) (by rfl) ?_;simp only[tZ,↓un_u,simprocAttr,tD,bne_iff_ne,Aw];refine⟨fun h=>?_,fun h=>?_⟩
 ·rw[zg6 fun k=>by have h1:=k.sch;have h2:=k.nr;have h3:=k.ng;have h4:=k.ver;omega];exact .oA [] []
 refine qu mixm (α:=Nat) [38] (fun i=>i≤s.gone.length∧∀ j,j<i→(1≤s.gone.getD j 0∧s.gone.getD j 0≤1048575)∧asc2 s.gone j=true) (fun i=>[(38,vI i)]) (fun i=>[(4096,.arr 5 [srcT s] false)]) (fun i=>s.gone.length-i) 0 ⟨by omega,fun j h=>by omega⟩ ?_ fun i hi=>?_
 ·exact .oA [(4096,some 4096)] []
 obtain⟨i1,i2⟩:=hi;refine sD ?_;refine⟨fun h2=>?_,fun h2=>?_⟩
 ·have hi2:i<s.gone.length:=by omega
  have hwi:=qj (i:=i) (by omega);have hg:s.gone.getD i 0=s.gone[i]:=qh hi2;obtain⟨k,hk1,hk2,hk3⟩:∃ k:Nat,(IntKind.i64.wrap ((i:Int)-1)).toNat=k∧k<s.gone.length∧(i=0∧k=0∨0<i∧k+1=i∧IntKind.i64.wrap ((i:Int)-1)=k):=by
   rcases Nat.eq_zero_or_pos i with h0 | h0
   ·subst h0;exact⟨0,by decide,hi2,.inl ⟨rfl,rfl⟩⟩
   ·have e:=ka h0 (show i<4611686018427387904 by omega);exact⟨i-1,by rw[e];omega,by omega,.inr ⟨h0,by omega,e⟩⟩
  have hgq:s.gone.getD k 0=s.gone[k]:=qh hk2;simp only[tZ,↓un_u,simprocAttr,Ax,qe hi2,hk1,qe hk2,hwi,gt_iff_lt,tD];refine⟨by omega,fun _=>by omega,fun h3=>?_,fun h3=>?_⟩
  ·rw[zg6 fun w=>by
    have h4:=w.gone _ (AX hi2);rcases hk3 with⟨h5,_⟩ | ⟨h5,h6,_⟩
    ·omega
    ·have h7:=List.pairwise_iff_getElem.1 w.gasc k i hk2 hi2 (by omega);omega]
   exact .oA [] []
  ·refine⟨i+1,⟨by omega,fun j hj=>?_⟩,by omega,?_⟩
   ·by_cases e:j=i
    ·subst e;rw[hg];refine⟨by omega,?_⟩;unfold asc2;rw[Bool.or_eq_true,AZ,AZ];rcases hk3 with⟨h5,_⟩ | ⟨h5,h6,_⟩
     ·exact .inl h5
     ·rw[hg,show j-1=k by omega,hgq];omega
    ·exact i2 j (by omega)
   ·exact .oA [(4096,some 4096)] []
 have hil:i=s.gone.length:=by omega
 subst hil;have hgasc:s.gone.Pairwise fun a b=>a<b:=by
  refine jm8 (f:=fun x:Int=>x) fun i h0 hi=>?_;have:=(i2 i hi).2;unfold asc2 at this;simp only[Bool.or_eq_true,AZ] at this;exact this.resolve_left (by omega)
 have hgin:∀ g∈s.gone,1≤g∧g≤1048575:=fun g hg=>by
  obtain⟨j,hj,rfl⟩:=List.getElem_of_mem hg;have:=(i2 j hj).1
  rwa [show s.gone.getD j 0=s.gone[j] from qh hj] at this
 have h0:schE s.sch=0:=by omega
 have hok:=qV h0;have hnc:=hok.nc;refine qu mixm (α:=Nat) [67] (fun i=>i≤s.rows.length∧∀ j,j<i→rowE s.sch (s.rows.getD j default)=0∧(0<j→hd (s.rows.getD (j-1) default)<hd (s.rows.getD j default))∧s.gone.contains (hd (s.rows.getD j default))=false) (fun i=>[(67,vI i)]) (fun i=>[(4096,.arr 5 [srcT s] false)]) (fun i=>s.rows.length-i) 0 ⟨by omega,fun j h=>by omega⟩ ?_ fun i hi=>?_
 ·exact .oA [(4096,some 4096)] []
 obtain⟨j1,j2⟩:=hi;refine sD ?_;refine⟨fun h2=>?_,fun h2=>?_⟩
 ·have hi2:i<s.rows.length:=by omega
  have hwi:=qj (i:=i) (by omega);have hg:s.rows.getD i default=s.rows[i]:=qh hi2;have hF:=zC0 s.sch h0 s.rows[i] (hr _ (AX hi2));have hB:=YJ s.gone (hd s.rows[i]) hgasc (by omega);simp only[tZ,↓un_u,simprocAttr,Ax,qe hi2];refine⟨by omega,?_⟩;obtain⟨k,hk1,hk2,hk3⟩:∃ k:Nat,(IntKind.i64.wrap ((i:Int)-1)).toNat=k∧k<s.rows.length∧(i=0∧k=0∨0<i∧k+1=i∧IntKind.i64.wrap ((i:Int)-1)=k):=by
   rcases Nat.eq_zero_or_pos i with h0 | h0
   ·subst h0;exact⟨0,by decide,hi2,.inl ⟨rfl,rfl⟩⟩
   ·have e:=ka h0 (show i<4611686018427387904 by omega);exact⟨i-1,by rw[e];omega,by omega,.inr ⟨h0,by omega,e⟩⟩
  by_cases hp:0<s.rows[i].length
  ·have hgi:=yU hp;have hgk:s.rows.getD k default=s.rows[k]:=qh hk2;have hpk:0<s.rows[k].length:=by
    rcases hk3 with⟨rfl,rfl⟩ | ⟨h5,h6,_⟩
    ·exact hp
    ·have:=(j2 k (by omega)).1;rw[hgk] at this;exact YE this
   have hgi2:=yU hpk;refine C1.im hF (by rfl) (by rfl) ?_;simp only[tZ,↓un_u,simprocAttr,Ax,hk1,qe hk2,hgi,hgi2,tD,gt_iff_lt,Bx,Bz,AY,Ak];refine⟨fun _=>by omega,fun _=>by omega,fun _=>by omega,by kernel_rfl,fun h3=>?_,fun h3=>?_⟩
   ·rw[zg6 fun w=>by
     have h4:=w.rows _ (AX hi2);rcases hk3 with⟨h5,_⟩ | ⟨h5,h6,_⟩
     ·omega
     ·have h7:=List.pairwise_iff_getElem.1 w.asc k i hk2 hi2 (by omega);omega]
    exact .oA [] []
   have hE:rowE s.sch s.rows[i]=0:=h3.1;refine⟨by omega,?_⟩;refine C1.im hB (by rfl) (by rfl) ?_;refine sW ?_;refine⟨by kernel_rfl,fun h8=>?_,fun h8=>?_⟩
   ·rw[zg6 fun w=>by
     have h4:=(w.gone _ (List.contains_iff_mem.1 h8)).2.2;have h5:=zP2.1 h4 _ (AX hi2);rw[jh5 hE] at h5;simp at h5]
    exact .oA [] []
   ·simp only[tZ,↓un_u,simprocAttr,hwi];refine⟨i+1,⟨by omega,fun j hj=>?_⟩,by omega,?_⟩
    ·by_cases e:j=i
     ·subst e;rw[hg];refine⟨hE,fun h0=>?_,h8⟩;rcases hk3 with⟨h5,_⟩ | ⟨h5,h6,_⟩
      ·omega
      ·rw[show j-1=k by omega,hgk];omega
     ·exact j2 j (by omega)
    ·exact .oA [(4096,some 4096)] []
  ·have hv:(rowE s.sch s.rows[i]==0)=false:=beq_eq_false_iff_ne.2 fun e=>hp (YE e);have hn:s.rows[i]=[]:=List.length_eq_zero_iff.1 (by omega);rw[hv,hn] at hF;rw[hn];refine C1.im hF (by rfl) (by rfl) ?_;simp only[tZ,↓un_u,simprocAttr,Ax,hk1,qe hk2,zZ1,jF1,zv7,not_false_eq_true,true_and];refine⟨by kernel_rfl,?_⟩;rw[zg6 fun w=>hp (YE (w.rows _ (AX hi2)))];exact .oA [] []
 ·have hil:i=s.rows.length:=by omega
  subst hil;have hk:SrcOk s:=by
   refine⟨h0,by omega,by omega,by omega,fun r hr=>?_,?_,fun g hg=>?_,hgasc⟩
   ·obtain⟨j,hj,rfl⟩:=List.getElem_of_mem hr;have:=(j2 j hj).1
    rwa [show s.rows.getD j default=s.rows[j] from qh hj] at this
   ·exact jm8 (f:=hd) fun i h0 hi=>(j2 i hi).2.1 h0
   ·obtain⟨g1,g2⟩:=hgin g hg;refine⟨g1,g2,zP2.2 fun r hr=>?_⟩;obtain⟨j,hj,rfl⟩:=List.getElem_of_mem hr;have h4:=j2 j hj;rw[show s.rows.getD j default=s.rows[j] from qh hj] at h4;rw[jh5 h4.1];cases e:hd s.rows[j]==g with
    | false=>rfl
    | true=>
      rw[AY] at e;rw[e,List.contains_iff_mem.2 hg] at h4;cases h4.2.2
  rw[qy7.2 hk];exact .oA [] []
end Go.Proofs
namespace Go.Proofs
open Go Go.TL
set_option maxRecDepth 4000
set_option maxHeartbeats 8000000
theorem qV5 (l:List Int) (m:Int) (hm:m∈l) (hle:∀ x∈l,x≤m) (hl:l.length<4611686018427387904):Spc Tryz.prog Jq [vIs l] [] (vI m) []:=by
 have h0:0<l.length:=List.length_pos_of_mem hm;have e0:decide ((l.length:Int)<1)=false:=decide_eq_false (by omega);refine qd qM3 mixm (by simp) fun e _ hst=>qg ?_;unfold ZP;simp only[tZ,↓un_u,simprocAttr,e0,qe h0];refine⟨by omega,?_⟩;refine qu mixm (α:=Nat×Int) [3,4] (fun q=>1≤q.1∧q.1≤l.length∧q.2∈l∧∀ x∈l.take q.1,x≤q.2) (fun q=>[(3,vI q.2),(4,vI q.1)]) (fun q=>[]) (fun q=>l.length-q.1) (1,l[0]) ⟨by simp,by dsimp only;omega,AX h0,fun x hx=>by
  rw[show l.take 1=[l[0]] by cases l with | nil=>simp at h0 | cons a r=>rfl,List.mem_singleton] at hx;rw[hx];exact Int.le_refl _⟩ ?_ fun q hq=>?_
 ·exact .oA [] []
 obtain⟨i,v⟩:=q;obtain⟨i0,i1,i2,i3⟩:=hq;dsimp only at i0 i1 i2 i3;refine sD ?_;refine⟨fun h2=>?_,fun h2=>?_⟩
 ·have hi2:i<l.length:=by omega
  have hwi:=qj (i:=i) (by omega);simp only[tZ,↓un_u,simprocAttr,Ax,qe hi2,hwi];refine⟨by omega,(i+1,maxI v l[i]),⟨by dsimp only;omega,by dsimp only;omega,?_,fun x hx=>?_⟩,by dsimp only;omega,?_⟩
  ·dsimp only[maxI];split
   ·exact AX hi2
   ·exact i2
  ·dsimp only at hx;dsimp only[maxI];rw[qH hi2] at hx;rcases List.mem_append.1 hx with k | k
   ·have:=i3 x k;split <;> omega
   ·rw[List.mem_singleton.1 k];split <;> omega
  ·exact .oA [] []
 ·have hv:v=m:=by
   have h5:=hle v i2;have h6:=i3 m (by rw[List.take_of_length_le (by omega)];exact hm);omega
  rw[hv];exact .oA [] []
theorem ZZ (l:CodL):Spc Tryz.prog kF [cdlT l] [] (vI (zh l)) []:=by
 refine qd ze3 mixm (by simp) fun e _ hst=>qg ?_;unfold Wk;refine sW ?_;refine C1.im (Ko l) (by rfl) (by rfl) ?_;simp only[tZ,↓un_u,simprocAttr,bne_iff_ne,Aw];refine⟨fun h=>?_,fun h=>?_⟩
 ·rw[zh,Aj h];exact .oA [] []
 obtain⟨hp,h1,h2⟩:=zg h;have hdl:=qp7 l.codes;have hL:zh l=(dep l.codes (l.codes.length-1):Int)+1:=by rw[zh,Aq (by rw[h];simp)]
 have hd:=qQ3 hp (l.codes.length-1) (by omega);have hM:=qV5 (depL l.codes) (dep l.codes (l.codes.length-1)) (List.mem_map.2 ⟨l.codes.length-1,List.mem_range.2 (by omega),rfl⟩) (fun x hx=>by
  obtain⟨c,hc,rfl⟩:=List.mem_map.1 hx;have:=(zW5 h (List.mem_range.1 hc)).1;omega) (by omega)
 have hw:=qj (i:=dep l.codes (l.codes.length-1)) (by omega);refine C1.im (ym l (qH3 h)) (by rfl) (by rfl) ?_;refine sW ?_;refine C1.im hM (by rfl) (by rfl) ?_;simp only[tZ,↓un_u,simprocAttr,hw];rw[hL];exact .oA [] []
def hasB (l:CodL) (c:Int):Bool:=decide (0≤c)&&decide (c<l.codes.length)&&(lstE l==0)
theorem qz0 (l:CodL) (c:Int):Spc Tryz.prog KM [cdlT l,vI c] [] (vB (hasB l c)) []:=by
 refine qd zM9 mixm (by simp) fun e _ hst=>qg ?_;unfold qm0;refine sW ?_;refine C2.im (fun _=>Ko l) (fun _=>rfl) (by rfl) ?_;refine sW ?_;rw[show hasB l c=(decide (0≤c)&&decide (c<l.codes.length)&&(lstE l==0)) from rfl];exact .oA [] []
theorem qH7 {l:CodL} {c:Int}:hasB l c=true↔0≤c∧c<l.codes.length∧lstE l=0:=by
 unfold hasB;rw[Bq,Bq,AZ,AZ,AY,and_assoc]
theorem zC1 {cs:List Cod} {c:Nat} (h:c<(depL cs).length):(depL cs)[c]=dep cs c:=by simp [depL]
theorem qp8 (l:CodL) (lev:Int):Spc Tryz.prog Ku [cdlT l,vI lev] [] (vIs (atL l lev)) []:=by
 refine qd zV5 mixm (by simp) fun e _ hst=>qg ?_;unfold qx7;refine sW ?_;refine C1.im (Ko l) (by rfl) (by rfl) ?_;simp only[tZ,↓un_u,simprocAttr,bne_iff_ne,Aw];refine⟨fun h=>?_,fun h=>?_⟩
 ·rw[atL,Aj h];exact .oA [] []
 obtain⟨hp,h1,h2⟩:=zg h;have e:atL l lev=atN l.codes lev l.codes.length:=by rw[atL,Aq (by rw[h];simp)];rfl
 rw[e];have hdl:=qp7 l.codes;refine C1.im (ym l (qH3 h)) (by rfl) (by rfl) ?_;refine sW ?_;refine qu mixm (α:=Nat) [5,14] (fun i=>i≤l.codes.length) (fun i=>[(5,.asl 1 (atN l.codes lev i).length),(14,vI i)]) (fun i=>[(1,.arr 1 ((atN l.codes lev i).map vI) false)]) (fun i=>l.codes.length-i) 0 (by omega) ?_ fun i hi=>?_
 ·simp only[atN,List.range_zero,List.filter_nil,List.map_nil,List.length_nil];exact .oA [(1,none)] []
 have hli:=jD0 l.codes lev i;refine sD ?_;refine⟨fun h3=>?_,fun h3=>?_⟩
 ·have hi2:i<(depL l.codes).length:=by omega
  have hwi:=qj (i:=i) (by omega);have hs:=jg8 l.codes lev i;simp only[tZ,↓un_u,simprocAttr,Ax,qe hi2,zC1 hi2,AY,Ak,hwi];refine⟨by omega,fun h4=>?_,fun h4=>?_⟩
  ·rw[Aj h4] at hs;refine⟨by omega,i+1,by omega,by omega,?_⟩;rw[hs];exact .oA [(1,some 1)] []
  ·rw[Aq h4,List.append_nil] at hs;refine⟨i+1,by omega,by omega,?_⟩;rw[hs];exact .oA [(1,some 1)] []
 ·have hil:i=l.codes.length:=by omega
  subst hil;exact .oA [] [1]
theorem qa4 (l:CodL) (c lev:Int):Spc Tryz.prog yY [cdlT l,vI c,vI lev] [] (vI (upC l c lev)) []:=by
 refine qd zU9 mixm (by simp) fun e _ hst=>qg ?_;unfold qw9;refine sW ?_;refine C1.im (qz0 l c) (by rfl) (by rfl) ?_;simp only[tZ,↓un_u,simprocAttr,tD,Bx,Bz];refine⟨fun h=>?_,fun h=>?_⟩
 ·have:upC l c lev = -1:=by
   rw[upC];by_cases k:lstE l≠0∨c<0∨c≥l.codes.length∨lev<0∨lev>dep l.codes c.toNat
   ·rw[Aj k]
   ·rcases h with h | h
    ·have:=qH7 (l:=l) (c:=c);rw[h] at this;exact absurd (this.2 ⟨by omega,by omega,AQ fun q=>k (.inl q)⟩) (by simp)
    ·omega
  rw[this];exact .oA [] []
 obtain⟨h0,h1,h2⟩:=qH7.1 h.1;obtain⟨hp,h3,h4⟩:=zg h2;obtain⟨k,rfl⟩:=AJ h0;obtain⟨v,rfl⟩:=AJ (show 0≤lev by omega);have hdl:=qp7 l.codes;have hk:k<(depL l.codes).length:=by omega
 have hdk:=qQ3 hp k (by omega);refine C1.im (ym l (qH3 h2)) (by rfl) (by rfl) ?_;simp only[tZ,↓un_u,simprocAttr,Ax,qe hk,zC1 hk];refine⟨by omega,?_⟩;by_cases hlv:dep l.codes k<v
 ·have hU:upC l k v = -1:=by rw[upC,Aj (by simp;omega)]
  rw[hU];refine qu mixm (α:=Unit) [1,7] (fun _=>True) (fun _=>[(1,vI k),(7,vI (dep l.codes k))]) (fun _=>[(4096,.arr 2 [cdlT l] false)]) (fun _=>0) () trivial ?_ fun _ _=>?_
  ·exact .oA [(4096,some 4096)] []
  have e0:decide ((dep l.codes k:Int)≥(v:Int))=false:=decide_eq_false (by omega);have e1:decide ((v:Int)≤(dep l.codes k:Int))=false:=decide_eq_false (by omega);simp only[tZ,↓un_u,simprocAttr,e0,e1];exact .oA [] []
 have hU:upC l k v=upF l.codes v (k+1) k:=by rw[upC,Aq (by simp;omega),Ax,Ax]
 rw[hU];refine qu mixm (α:=Nat) [1,7] (fun x=>x<l.codes.length∧v≤dep l.codes x∧upF l.codes v (k+1) k=upF l.codes v (x+1) x) (fun x=>[(1,vI x),(7,vI (dep l.codes x))]) (fun x=>[(4096,.arr 2 [cdlT l] false)]) (fun x=>x) k ⟨by omega,by omega,rfl⟩ ?_ fun x hx=>?_
 ·exact .oA [(4096,some 4096)] []
 obtain⟨x1,x2,x3⟩:=hx;have hcd:l.codes[x].par=parC l.codes x:=by rw[parC,cdAt,qh x1]
 have e0:decide ((dep l.codes x:Int)≥(v:Int))=true:=decide_eq_true (by omega);have e1:decide ((v:Int)≤(dep l.codes x:Int))=true:=decide_eq_true (by omega);have hdx:=qQ3 hp x x1;simp only[tZ,↓un_u,simprocAttr,e0,e1,Ax,qe x1,hcd,AY,Ak];refine⟨fun h6=>?_,fun h6=>?_⟩
 ·rw[x3,jg9 (by omega)];exact .oA [] []
 ·obtain⟨u1,u2,u3,u4⟩:=up_step hp (lev:=v) x1 (by omega);obtain⟨p,hpe⟩:=AJ u1;have hw:IntKind.i64.wrap ((dep l.codes x:Int)-1)=(dep l.codes p:Int):=by
   rw[AK _ (by omega),u3,hpe,Ax];omega
  rw[hpe,Ax] at u4 u3;simp only[tZ,↓un_u,simprocAttr,hpe,hw];refine⟨by omega,p,⟨by omega,by omega,x3.trans u4⟩,by omega,?_⟩;exact .oA [(4096,some 4096)] []
theorem zC2 (l:CodL) (c a:Int):Spc Tryz.prog qc5 [cdlT l,vI c,vI a] [] (vB (qm3 l c a)) []:=by
 refine qd zo7 mixm (by simp) fun e _ hst=>qg ?_;unfold YA;refine sW ?_;refine C1.im (qz0 l c) (by rfl) (by rfl) ?_;refine sW ?_;refine C2.im (fun _=>qz0 l a) (fun _=>rfl) (by rfl) ?_;simp only[tZ,↓un_u,simprocAttr,Bool.or_eq_true,Bool.or_eq_false_iff,Bx,Bz];refine⟨fun h=>?_,fun h=>?_⟩
 ·have:qm3 l c a=false:=by
   cases e:qm3 l c a with
   | false=>rfl
   | true=>
     unfold qm3 at e;simp only[Bq,AZ,AY] at e;obtain⟨⟨e1,e2⟩,e3⟩:=e;have key:∀ x,0≤lvlC l x→hasB l x=true:=fun x hx=>by
      rw[qH7];unfold lvlC at hx;split at hx
      ·omega
      ·rename_i q;exact⟨by omega,by omega,AQ fun z=>q (.inl z)⟩
     have ha:=key a e1;have hc:=key c (by omega);rcases h with h | h
     ·rw[hc] at h;cases h
     ·rw[ha] at h;cases h
  rw[this];exact .oA [] []
 obtain⟨c0,c1,c2⟩:=qH7.1 h.1;obtain⟨a0,a1,_⟩:=qH7.1 h.2;obtain⟨hp,h3,h4⟩:=zg c2;obtain⟨k,rfl⟩:=AJ c0;obtain⟨j,rfl⟩:=AJ a0;have hdl:=qp7 l.codes;have hj:j<(depL l.codes).length:=by omega
 have hdk:=qQ3 hp k (by omega);have hdj:=qQ3 hp j (by omega);have l1:lvlC l j=dep l.codes j:=by rw[lvlC,Aq (by rw[c2];simp;omega),Ax]
 have l2:lvlC l k=dep l.codes k:=by rw[lvlC,Aq (by rw[c2];simp;omega),Ax]
 have hU:qm3 l k j=(upC l k (dep l.codes j)==(j:Int)):=by
  unfold qm3;rw[l1,l2,decide_eq_true (by omega),Bool.true_and];by_cases q:(dep l.codes j:Int)≤dep l.codes k
  ·rw[decide_eq_true q,Bool.true_and]
  ·rw[decide_eq_false q,Bool.false_and,upC,Aj (by simp;omega)]
   symm
   exact beq_eq_false_iff_ne.2 (by omega)
 rw[hU];refine C1.im (ym l (qH3 c2)) (by rfl) (by rfl) ?_;simp only[tZ,↓un_u,simprocAttr,Ax,qe hj,zC1 hj];refine⟨by omega,?_⟩;refine C1.im (qa4 l k (dep l.codes j)) (by rfl) (by rfl) ?_;refine sW ?_
 repeat (first | refine⟨by omega,?_⟩ | refine⟨by kernel_rfl,?_⟩)
 exact .oA [] []
end Go.Proofs
namespace Go.Proofs
open Go Go.TL
set_option maxRecDepth 4000
set_option maxHeartbeats 8000000
theorem zW6 {n w:Int} (hw:0<w):qG n w*w=n-(if n.tmod w<0 then n.tmod w+w else n.tmod w):=by
 have h1:=Int.mul_tdiv_add_tmod n w;rw[Int.mul_comm] at h1;rw[zz6 hw];split
 ·rw[Int.sub_mul];omega
 ·omega
theorem wM (n w:Int) (hw:0<w∧w≤1000000) (hn : -4611686018427387904<n∧n<4611686018427387904):Spc Tryz.prog zR [vI n,vI w] [] (vI (qG n w*w)) []:=by
 rw[zW6 hw.1];have h2:=Int.tmod_lt_of_pos n hw.1;have h3:=Int.lt_tmod_of_pos n hw.1;have w1:IntKind.i64.wrap (n.tmod w)=n.tmod w:=AK _ (by omega);have w2:IntKind.i64.wrap (n.tmod w+w)=n.tmod w+w:=AK _ (by omega);have w3:IntKind.i64.wrap (n-n.tmod w)=n-n.tmod w:=AK _ (by omega);have w4:IntKind.i64.wrap (n-(n.tmod w+w))=n-(n.tmod w+w):=AK _ (by omega);refine qd zn3 mixm (by simp) fun e _ hst=>qg ?_;unfold Yr;simp only[tZ,↓un_u,simprocAttr,w1,w2,w3,w4,tD];refine⟨by omega,fun h=>?_,fun h=>?_⟩
 ·rw[Aj h];exact .oA [] []
 ·rw[Aq h];exact .oA [] []
theorem Ja (c:Col) (lev:Int) (h1:1≤lev∧lev≤c.widths.length) (h2:c.widths.length<4611686018427387904):Spc Tryz.prog kE [colT c,vI lev] [] (vI (qE c lev)) []:=by
 have hw:IntKind.i64.wrap ((c.widths.length:Int)-lev)=(c.widths.length:Int)-lev:=AK _ (by omega);have hk:((c.widths.length:Int)-lev).toNat<c.widths.length:=by omega
 refine qd zd5 mixm (by simp) fun e _ hst=>qg ?_;unfold Wc;simp only[tZ,↓un_u,simprocAttr,hw,qe hk];rw[qE,qh hk];refine⟨by omega,?_⟩;exact .oA [] []
theorem wy (s:Sch) (hE:schE s=0) (c:Int):Spc Tryz.prog wg [schT s,vI c] [] (vI (finI s c)) []:=by
 have hok:=qV hE;have hnc:=hok.nc;refine qd qU0 mixm (by simp) fun e _ hst=>qg ?_;unfold JI;refine sD ?_;refine⟨fun h=>?_,fun h=>?_⟩
 ·rw[finI,Aj (by omega)];exact .oA [] []
 obtain⟨i,rfl⟩:=AJ (show 0≤c by omega);have hi:i<s.cols.length:=by omega
 have hat:qk s i=s.cols[i]:=by rw[qk,qh hi]
 have hk:=zc (hok.cs i hi);have hcd:=fun e=>hok.cdl hi e;have hcl:qJ s i=s.lists.getD s.cols[i].list.toNat default:=by rw[qJ,hat]
 rw[hat] at hk hcd;rw[hcl] at hcd;rw[finI,Aq (by omega),Ax,hcl,hat];simp only[tZ,↓un_u,simprocAttr,Ax,qe hi];generalize s.cols[i]=x at hk hcd ⊢
 simp only[tZ,↓un_u,simprocAttr,AY,Ak];refine⟨by omega,fun h2=>?_,fun h2=>?_⟩
 ·obtain⟨d1,d2⟩:=hcd h2;obtain⟨d3,d4⟩:=hk.2.2.2.1 h2;have hgl:s.lists.getD x.list.toNat default=s.lists[x.list.toNat]:=qh d1;rw[Aj h2];rw[hgl] at d2 ⊢
  simp only[tZ,↓un_u,simprocAttr,qe d1];generalize s.lists[x.list.toNat]=l at d2 ⊢
  have hlv:=qm5 (l:=l);have hw2:IntKind.i64.wrap (zh l-1)=zh l-1:=AK _ (by omega);refine⟨by omega,?_⟩;refine C1.im (ZZ l) (by rfl) (by rfl) ?_;simp only[tZ,↓un_u,simprocAttr,hw2];exact .oA [] []
 ·rw[Aq h2];exact .oA [] []
theorem Ws (s:Sch) (hs:yR s) (c:Int):Spc Tryz.prog kY [schT s,vI c] [] (vI (finI s c)) []:=by
 refine qd qS9 mixm (by simp) fun e _ hst=>qg ?_;unfold Jy;refine sW ?_;refine C1.im (zY s hs.2.1 hs.1) (by rfl) (by rfl) ?_;simp only[tZ,↓un_u,simprocAttr,bne_iff_ne,Aw];refine⟨fun h=>?_,fun h=>?_⟩
 ·rw[finI,Aj (.inl h)];exact .oA [] []
 refine C1.im (wy s h c) (by rfl) (by rfl) ?_;refine sW ?_;exact .oA [] []
theorem zg7 (s:Sch) (hs:yR s) (c lev v:Int):Spc Tryz.prog KE [schT s,vI c,vI lev,vI v] [] (vI (qW s c lev v)) []:=by
 refine qd qS6 mixm (by simp) fun e _ hst=>qg ?_;unfold Jx;refine sW ?_;refine C1.im (Ws s hs c) (by rfl) (by rfl) ?_;refine sD ?_;refine⟨fun h=>?_,fun h=>?_⟩
 ·rw[qW,Aj (qm8.2 (by omega))];exact .oA [] []
 obtain⟨hE,c1,c2,hfin⟩:=yT (s:=s) (c:=c) (by omega);have hok:=qV hE;obtain⟨i,rfl⟩:=AJ (show 0≤c by omega);rw[Ax] at hfin;have hi:i<s.cols.length:=by omega
 have hat:qk s i=s.cols[i]:=by rw[qk,qh hi]
 have hk:=zc (hok.cs i hi);have hcd:=fun e=>hok.cdl hi e;have hwd:=fun e l=>hok.wid hi (by omega) e (lev:=l);have hcl:qJ s i=s.lists.getD s.cols[i].list.toNat default:=by rw[qJ,hat]
 have hE2:qW s i lev v=if s.cols[i].kind=2 then (if jJ s i v=false then -1 else upC (qJ s i) v lev)
  else if v≠yh∧inB v (-1000000) 1000000=false then -1
  else if lev=0 then 0 else if v=yh then v else qG v (qE s.cols[i] lev)*qE s.cols[i] lev:=by
  rw[qW,Aq (by rw[Bool.not_eq_false,Jg];omega),Ax,hat]
 rw[hE2];rw[hat] at hk hcd hwd hfin;rw[hcl] at hcd ⊢
 simp only[tZ,↓un_u,simprocAttr,Ax,qe hi];have hho:=qH4 s hok i hi v;generalize s.cols[i]=x at hk hcd hwd hfin hho ⊢
 refine⟨by omega,?_⟩;refine C2.im (fun _=>hho) (fun _=>rfl) (by rfl) ?_;simp only[tZ,↓un_u,simprocAttr,tD,bne_iff_ne,Aw,Bx,Bz,AY,Ak];rw[show (-1099511627776:Int)=yh from rfl];refine⟨fun h3=>?_,fun h3=>⟨fun h2=>?_,fun h2=>?_⟩⟩
 ·rw[Aj h3.1,Aj h3.2];exact .oA [] []
 ·rw[Aj h2];obtain⟨d1,d2⟩:=hcd h2;obtain⟨d3,d4⟩:=hk.2.2.2.1 h2;have hgl:s.lists.getD x.list.toNat default=s.lists[x.list.toNat]:=qh d1;rw[hgl] at d2 ⊢
  rw[Aq (by grind)];simp only[tZ,↓un_u,simprocAttr,qe d1];generalize s.lists[x.list.toNat]=l at d2 ⊢
  refine⟨by omega,?_⟩;refine C1.im (qa4 l v lev) (by rfl) (by rfl) ?_;refine sW ?_;exact .oA [] []
 rw[Aq h2];rw[Aq h2] at hfin;refine⟨fun h3=>?_,fun h3=>?_⟩
 ·rw[Aj ⟨by omega,qm8.2 (by omega)⟩];exact .oA [] []
 rw[Aq (by rw[qm8];omega)];refine⟨fun h4=>?_,fun h4=>?_⟩
 ·rw[Aj h4];exact .oA [] []
 rw[Aq h4];refine⟨fun h5=>?_,fun h5=>?_⟩
 ·rw[Aj h5,h5];exact .oA [] []
 rw[Aq h5];obtain⟨w1,w2,w3,w4,_⟩:=hwd h2 lev (by omega);refine C1.im (Ja x lev (by omega) (by omega)) (by rfl) (by rfl) ?_;refine sW ?_;refine C1.im (wM v (qE x lev) (by omega) (by omega)) (by rfl) (by rfl) ?_;refine sW ?_;exact .oA [] []
theorem qH8 (s:Sch) (hE:schE s=0) (p:Pk):Spc Tryz.prog JZ [schT s,pkT p] [] (vI (QX s p)) []:=by
 have hP:QX s p=if finI s p.col<0 then 7 else if inB p.lev 0 (finI s p.col)=false then 8 else 0:=by
  rw[QX,Aq (by rw[hE];simp)];by_cases h:p.col<1∨p.col≥s.cols.length
  ·rw[Aj h,Aj (by rw[finI,Aj (by omega)];omega)]
  ·rw[Aq h];have:0≤finI s p.col:=by
    rw[finI,Aq (by omega)];split
    ·rename_i h2;have hok:=qV hE;obtain⟨_,d2⟩:=hok.cdl (i:=p.col.toNat) (by omega) h2;rw[zh,Aq (by rw[d2];simp)];omega
    ·omega
   rw[Aq (show ¬ finI s p.col<0 by omega)]
 rw[hP];refine qd zl1 mixm (by simp) fun e _ hst=>qg ?_;unfold Yg;refine sW ?_;refine C1.im (wy s hE p.col) (by rfl) (by rfl) ?_;refine sD ?_;refine⟨fun h=>?_,fun h=>⟨fun h2=>?_,fun h2=>?_⟩⟩
 ·rw[Aj h];exact .oA [] []
 ·rw[Aq h,Aj (qm8.2 (by omega))];exact .oA [] []
 ·rw[Aq h,Aq (by rw[qm8];omega)];exact .oA [] []
theorem zC3 (s:Sch) (hs:yR s) (p:Pk):Spc Tryz.prog qc4 [schT s,pkT p] [] (vI (QX s p)) []:=by
 refine qd zo5 mixm (by simp) fun e _ hst=>qg ?_;unfold Yz;refine sW ?_;refine C1.im (zY s hs.2.1 hs.1) (by rfl) (by rfl) ?_;simp only[tZ,↓un_u,simprocAttr,bne_iff_ne,Aw];refine⟨fun h=>?_,fun h=>?_⟩
 ·rw[QX,Aj h];exact .oA [] []
 refine C1.im (qH8 s h p) (by rfl) (by rfl) ?_;refine sW ?_;exact .oA [] []
theorem qu0 (s:Sch) (hs:yR s) (l:List Pk) (hl:l.length<4611686018427387904):Spc Tryz.prog ZV [schT s,vPs l] [] (vI (Qd s l)) []:=by
 refine qd zb8 mixm (by simp) fun e _ hst=>qg ?_;unfold KR;refine sW ?_;refine C1.im (zY s hs.2.1 hs.1) (by rfl) (by rfl) ?_;simp only[tZ,↓un_u,simprocAttr,bne_iff_ne,Aw];refine⟨fun h=>?_,fun hE=>?_⟩
 ·rw[Qd,Aj h];exact .oA [] []
 rw[Qd,Aq (by rw[hE];simp)];refine qu mixm (α:=Nat) [16] (fun i=>i≤l.length∧(zC (zt0 s l) i=0)) (fun i=>[(16,vI i)]) (fun i=>[(4096,.arr 2 [schT s] false)]) (fun i=>l.length-i) 0 ⟨by omega,?_⟩ ?_ fun i hi=>?_
 ·rfl
 ·exact .oA [(4096,some 4096)] []
 simp only[tZ,↓un_u,simprocAttr,AZ,Ay];refine⟨fun h=>?_,fun h=>?_⟩
 ·have hi2:i<l.length:=by omega
  have hpi:pkAt l i=l[i]:=by rw[pkAt,qh hi2]
  have hstep:=Qc hi.2 hi2;have hnext:=jI hi.2;have hA:zt0 s l i=if QX s l[i]≠0 then QX s l[i] else if 0<i∧l[i].col≤(pkAt l (i-1)).col then 10 else 0:=by rw[zt0,hpi]
  have hi2:i<l.length:=by omega
  have hwi:=qj (i:=i) (by omega);simp only[tZ,↓un_u,simprocAttr,Ax,qe hi2,hwi];refine⟨by omega,?_⟩;refine C1.im (qH8 s hE l[i]) (by rfl) (by rfl) ?_;simp only[tZ,↓un_u,simprocAttr,bne_iff_ne,Aw];refine⟨fun h3=>?_,fun h3=>?_⟩
  ·rw[Aj h3] at hA;rw[hstep (by rw[hA];exact h3),hA];exact .oA [] []
  rw[Aq (by rw[h3];simp)] at hA;rcases Nat.eq_zero_or_pos i with h0 | h0
  ·subst h0;rw[Aq (by omega)] at hA;have hz:((0:Nat):Int)=0:=rfl;have hz2:(IntKind.i64.wrap (-1)).toNat=0:=by decide
   have hz3:=qj (i:=0) (by omega);rw[hz] at hz3;simp only[tZ,↓un_u,simprocAttr,Ax,hz,beq_self_eq_true,gt_iff_lt,Int.lt_irrefl,Bool.true_and,hz2,qe hi2,hz3];refine⟨by kernel_rfl,1,⟨by omega,by rw[hnext,hA]⟩,by omega,?_⟩;exact .oA [(4096,some 4096)] []
  ·obtain⟨k,rfl⟩:∃ k,i=k+1:=⟨i-1,by omega⟩;have hk3:k<l.length:=by omega
   have e2:decide (((k+1:Nat):Int)>0)=true:=decide_eq_true (by omega);have e3:=ka (i:=k+1) (by omega) (by omega);rw[Nat.add_sub_cancel] at e3 hA;rw[pkAt,qh hk3] at hA;simp only[tZ,↓un_u,simprocAttr,Ax,qe hi2,qe hk3,e2,e3,hwi,tD];refine⟨by omega,by kernel_rfl,fun h4=>?_,fun h4=>?_⟩
   ·rw[Aj ⟨by omega,h4⟩] at hA;rw[hstep (by rw[hA];simp),hA];exact .oA [] []
   ·rw[Aq (by omega)] at hA;refine⟨k+2,⟨by omega,by rw[hnext,hA]⟩,by omega,?_⟩;exact .oA [(4096,some 4096)] []
 ·have hi2:i=l.length:=by omega
  subst hi2;rw[hi.2];exact .oA [] []
def Kq (c:Col) (lev v:Int):Int×Int×Bool:=
 if lev=0 then (c.low,c.high,v==0) else if v < -2000000∨v>1000000 then (0,0,false)
 else (max v c.low,min (v+qE c lev-1) c.high,(qG v (qE c lev)*qE c lev==v)&&decide (max v c.low≤min (v+qE c lev-1) c.high))
theorem zQ1 (a b:Int):maxI a b=max a b:=by unfold maxI;split <;> omega
theorem jF2 (a b:Int):minI a b=min a b:=by unfold minI;split <;> omega
theorem qH9 (c:Col) (lev v:Int) (hl:lev=0∨(1≤lev∧lev≤c.widths.length∧c.widths.length≤4∧1≤qE c lev∧qE c lev≤1000000)):Spc Tryz.prog Ke [colT c,vI lev,vI v] [] (.tup [vI (Kq c lev v).1,vI (Kq c lev v).2.1,vB (Kq c lev v).2.2]) []:=by
 refine qd zo3 mixm (by simp) fun e _ hst=>qg ?_;unfold Yw;simp only[tZ,↓un_u,simprocAttr,tD,AY,Ak];refine⟨fun h=>?_,fun h=>⟨fun h2=>?_,fun h2=>?_⟩⟩
 ·rw[Kq,Aj h];dsimp only
  repeat (first | refine⟨by omega,?_⟩ | refine⟨by kernel_rfl,?_⟩)
  exact .oA [] []
 ·rw[Kq,Aq h,Aj h2];dsimp only;exact .oA [] []
 obtain⟨l1,l2,l3,l4,l5⟩:1≤lev∧lev≤c.widths.length∧c.widths.length≤4∧1≤qE c lev∧qE c lev≤1000000:=by rcases hl with e | e;exact absurd e h;exact e
 rw[Kq,Aq h,Aq (by omega)];refine C1.im (Ja c lev ⟨l1,l2⟩ (by omega)) (by rfl) (by rfl) ?_;have w1:IntKind.i64.wrap (v+qE c lev)=v+qE c lev:=AK _ (by omega);have w2:IntKind.i64.wrap (v+qE c lev-1)=v+qE c lev-1:=AK _ (by omega);simp only[tZ,↓un_u,simprocAttr,w1,w2,zQ1,jF2]
 repeat (first | refine⟨by omega,?_⟩ | refine⟨by kernel_rfl,?_⟩)
 refine C1.im (wM v (qE c lev) (by omega) (by omega)) (by rfl) (by rfl) ?_;refine sW ?_;exact .oA [] []
def jm9 (s:Sch) (i:Nat) (lev v:Int):Int×Bool:=
 if (qk s i).kind=3 then (if 0<lev∧v=yh then (v,(qk s i).opt) else ((Kq (qk s i) lev v).1,(Kq (qk s i) lev v).2.2))
 else ((qS s i).find? fun l=>upC (qJ s i) l lev==v).elim (0,false) fun l=>(l,true)
theorem zC4 (s:Sch) (hE:schE s=0) (i:Nat) (hi:i<s.cols.length) (h0:0<i) (lev v:Int) (hl:0≤lev∧lev≤finI s i):Spc Tryz.prog qc1 [schT s,vI i,vI lev,vI v] [] (.tup [vI (jm9 s i lev v).1,vB (jm9 s i lev v).2]) []:=by
 have hok:=qV hE;obtain⟨_,c1,c2,hfin⟩:=yT (s:=s) (c:=i) (by omega);rw[Ax] at hfin;have hat:qk s i=s.cols[i]:=by rw[qk,qh hi]
 have hk:=zc (hok.cs i hi);have hcd:=fun e=>hok.cdl hi e;have hwd:=fun e l=>hok.wid hi (by omega) e (lev:=l);have hll:=qa2 hok hi;have hcl:qJ s i=s.lists.getD s.cols[i].list.toNat default:=by rw[qJ,hat]
 have hE2:jm9 s i lev v=if s.cols[i].kind=3 then (if 0<lev∧v=yh then (v,s.cols[i].opt) else ((Kq s.cols[i] lev v).1,(Kq s.cols[i] lev v).2.2))
  else ((qS s i).find? fun l=>upC (qJ s i) l lev==v).elim (0,false) fun l=>(l,true):=by rw[jm9,hat]
 have hlv:qS s i=atL (qJ s i) (zh (qJ s i)-1):=rfl;rw[hE2];rw[hat] at hk hcd hwd hfin hll;rw[hlv] at hll ⊢
 rw[hcl] at hcd hll ⊢
 refine qd zn7 mixm (by simp) fun e _ hst=>qg ?_;unfold Yt;simp only[tZ,↓un_u,simprocAttr,Ax,qe hi];generalize s.cols[i]=x at hk hcd hwd hfin hll ⊢
 have h1:=hk.2.2.1 h0;simp only[tZ,↓un_u,simprocAttr,tD,AY,Ak];rw[show (-1099511627776:Int)=yh from rfl];refine⟨by omega,fun h3=>⟨fun h4=>?_,fun h4=>?_⟩,fun h3=>?_⟩
 ·rw[Aj h3,Aj h4];dsimp only
  repeat (first | refine⟨by omega,?_⟩ | refine⟨by kernel_rfl,?_⟩)
  exact .oA [] []
 ·rw[Aj h3,Aq (by grind)];rw[Aq (by omega)] at hfin;refine C1.im (qH9 x lev v (by
   by_cases e:lev=0
   ·exact .inl e
   ·have:=hwd (by omega) lev (by omega);exact .inr (by omega))) (by rfl) (by rfl) ?_
  refine sW ?_;exact .oA [] []
 have h2:x.kind=2:=by omega
 obtain⟨d1,d2⟩:=hcd h2;obtain⟨d3,d4⟩:=hk.2.2.2.1 h2;have hll:=hll h2;have hgl:s.lists.getD x.list.toNat default=s.lists[x.list.toNat]:=qh d1;rw[hgl] at d2 hll ⊢
 rw[Aq h3];simp only[tZ,↓un_u,simprocAttr,qe d1];generalize s.lists[x.list.toNat]=l at d2 hll ⊢
 have hlv:=qm5 (l:=l);have hw2:IntKind.i64.wrap (zh l-1)=zh l-1:=AK _ (by omega);refine⟨by omega,?_⟩;refine C1.im (ZZ l) (by rfl) (by rfl) ?_;simp only[tZ,↓un_u,simprocAttr,hw2];refine C1.im (qp8 l (zh l-1)) (by rfl) (by rfl) ?_;refine sW ?_
 repeat (first | refine⟨by omega,?_⟩ | refine⟨by kernel_rfl,?_⟩)
 generalize atL l (zh l-1)=L at hll ⊢
 refine qu mixm (α:=Nat) [56] (fun j=>j≤L.length∧((L.take j).find? (fun y=>upC l y lev==v)=none)) (fun j=>[(56,vI j)]) (fun j=>[(32792,.arr 2 [cdlT l] false)]) (fun j=>L.length-j) 0 ⟨by omega,?_⟩ ?_ fun j hj=>?_
 ·rfl
 ·exact .oA [(32792,some 32792)] []
 simp only[tZ,↓un_u,simprocAttr,AZ,Ay];refine⟨fun h=>?_,fun h=>?_⟩
 ·have hi2:j<L.length:=by omega
  have hf:L.find? (fun y=>upC l y lev==v)=if upC l L[j] lev==v then some L[j] else (L.drop (j+1)).find? (fun y=>upC l y lev==v):=by
   conv=>lhs;rw[← List.take_append_drop j L,List.find?_append,hj.2,List.drop_eq_getElem_cons hi2,List.find?_cons]
   cases upC l L[j] lev==v <;> simp
  have hj2:j<L.length:=by omega
  have hwj:=qj (i:=j) (by omega);simp only[tZ,↓un_u,simprocAttr,Ax,qe hj2,hwj];refine⟨by omega,?_⟩;refine C1.im (qa4 l L[j] lev) (by rfl) (by rfl) ?_;simp only[tZ,↓un_u,simprocAttr,tD,AY,Ak];refine⟨fun h4=>?_,fun h4=>?_⟩
  ·rw[hf,Aj (beq_iff_eq.2 h4)];exact .oA [] []
  ·refine⟨j+1,⟨by omega,?_⟩,by omega,?_⟩
   ·rw[qH hi2,List.find?_append,hj.2];simp [h4]
   ·exact .oA [(32792,some 32792)] []
 ·have hj2:j=L.length:=by omega
  subst hj2;rw[show L.find? (fun y=>upC l y lev==v)=none by rw[← hj.2,List.take_of_length_le (by omega)]];exact .oA [] []
end Go.Proofs
namespace Go.Proofs
open Go Go.TL
set_option maxHeartbeats 4000000
abbrev upN (cs:List Cod) (v x:Nat):Nat:=upF cs v (x+1) x
theorem zC5 {cs:List Cod} {v x:Nat} (h:dep cs x≤v):upN cs v x=x:=jg9 h _
theorem jF3 {cs:List Cod} (hp:qV1 cs) {v:Nat}:∀ x,x<cs.length→v≤dep cs x→dep cs (upN cs v x)=v∧upN cs v x≤x:=by
 intro x
 induction x using Nat.strongRecOn with
 | _ x ih=>
   intro hx hv;by_cases h:dep cs x≤v
   ·rw[zC5 h];exact⟨by omega,Nat.le_refl _⟩
   ·obtain⟨u1,u2,u3,u4⟩:=up_step hp (lev:=v) hx (by omega);have:=ih (parC cs x).toNat (by omega) (by omega) (by omega);rw[show upN cs v x=upN cs v (parC cs x).toNat from u4];exact⟨this.1,by omega⟩
theorem zQ2 {cs:List Cod} (hp:qV1 cs) {o v:Nat} (ho:o≤v):∀ x,x<cs.length→v≤dep cs x→upN cs o (upN cs v x)=upN cs o x:=by
 intro x
 induction x using Nat.strongRecOn with
 | _ x ih=>
   intro hx hv;by_cases h:dep cs x≤v
   ·rw[zC5 h]
   ·obtain⟨u1,u2,u3,u4⟩:=up_step hp (lev:=v) hx (by omega);obtain⟨_,_,_,u5⟩:=up_step hp (lev:=o) hx (by omega);rw[show upN cs v x=upN cs v (parC cs x).toNat from u4,show upN cs o x=upN cs o (parC cs x).toNat from u5];exact ih (parC cs x).toNat (by omega) (by omega) (by omega)
theorem jQ2 {l:CodL} (h:lstE l=0):∀ (k c:Nat),l.codes.length-c=k→c<l.codes.length→∀ v,dep l.codes c≤v→(v:Int)≤zh l-1→∃ d,d<l.codes.length∧dep l.codes d=v∧upN l.codes (dep l.codes c) d=c:=by
 intro k
 induction k using Nat.strongRecOn with
 | _ k ih=>
   intro c hk hc v hv ht;by_cases e:dep l.codes c=v
   ·exact⟨c,hc,e,zC5 (Nat.le_refl _)⟩
   obtain⟨hp,h1,h2⟩:=zg h;obtain⟨t1,t2,t3⟩:=zW5 h hc;cases hl:qy0 l.codes c with
   | true=>have:=t2 hl;omega
   | false=>
     have hn:¬ ∀ i,i<l.codes.length→parC l.codes i≠c:=fun k=>by rw[zB9.2 k] at hl;cases hl
     simp only[Classical.not_forall] at hn;obtain⟨i,hi,hn⟩:=hn;have hpc:parC l.codes i=c:=AQ hn;have h3:=hp i hi;have h4:=qM4 hp hi (by omega);rw[hpc,Ax] at h4;obtain⟨d,d1,d2,d3⟩:=ih (l.codes.length-i) (by omega) i rfl hi v (by omega) ht;refine⟨d,d1,d2,?_⟩;have h5:=zQ2 hp (o:=dep l.codes c) (v:=dep l.codes i) (by omega) d d1 (by omega);rw[← h5,d3];obtain⟨_,_,_,u5⟩:=up_step hp (lev:=dep l.codes c) hi (by omega);rw[show upN l.codes (dep l.codes c) i=upN l.codes (dep l.codes c) (parC l.codes i).toNat from u5,hpc,Ax];exact zC5 (Nat.le_refl _)
theorem jQ3 {α:Type} [DecidableEq α]:∀ {a b:List α},a.Nodup→(∀ x∈a,x∈b)→a.length≤b.length
 | [],_,_,_=>Nat.zero_le _
 | x::r,b,hn,hs=>by
   rw[List.nodup_cons] at hn;have hx:=hs x (List.mem_cons_self ..);have:=jQ3 (a:=r) (b:=b.erase x) hn.2 fun y hy=>(List.mem_erase_of_ne (fun e=>hn.1 (by rw[← e];exact hy))).2 (hs y (List.mem_cons_of_mem _ hy));rw[List.length_erase_of_mem hx] at this;have:=List.length_pos_of_mem hx;simp only[List.length_cons];omega
abbrev lvN (cs:List Cod) (v:Nat):List Nat:=(List.range cs.length).filter fun i=>(dep cs i:Int)==v
theorem qf2 {cs:List Cod} {v x:Nat}:x∈lvN cs v↔x<cs.length∧dep cs x=v:=by
 rw[List.mem_filter,List.mem_range,AY];omega
theorem jF4 (cs:List Cod) (v:Nat):(lvN cs v).Nodup:=List.Nodup.sublist List.filter_sublist List.nodup_range
theorem kb6 {l:CodL} (h:lstE l=0) (v:Nat):(atL l v).length=(lvN l.codes v).length:=by
 rw[atL,Aq (by rw[h];simp),List.length_map]
theorem jW7 {l:CodL} (h:lstE l=0) {o v:Nat} (ho:o≤v) (hv:(v:Int)≤zh l-1):(lvN l.codes o).length≤(lvN l.codes v).length:=by
 obtain⟨hp,h1,h2⟩:=zg h;rw[show (lvN l.codes v).length=((lvN l.codes v).map (upN l.codes o)).length by rw[List.length_map]];refine jQ3 (jF4 _ _) fun c hc=>?_;rw[qf2] at hc;obtain⟨d,d1,d2,d3⟩:=jQ2 h _ c rfl hc.1 v (by omega) hv;rw[hc.2] at d3;exact List.mem_map.2 ⟨d,qf2.2 ⟨d1,d2⟩,d3⟩
theorem ki0 {l:CodL} (h:lstE l=0) {o v:Nat} (ho:o≤v) (hv:(v:Int)≤zh l-1):(lvN l.codes o).length=(lvN l.codes v).length↔∀ a b,a<l.codes.length→b<l.codes.length→dep l.codes a=v→dep l.codes b=v→upN l.codes o a=upN l.codes o b→a=b:=by
 obtain⟨hp,h1,h2⟩:=zg h;constructor
 ·intro e a b ha hb da db hab;refine AQ fun hne=>?_;have ma:a∈lvN l.codes v:=qf2.2 ⟨ha,da⟩;have mb:b∈(lvN l.codes v).erase a:=(List.mem_erase_of_ne (fun e=>hne e.symm)).2 (qf2.2 ⟨hb,db⟩);have:=jQ3 (a:=lvN l.codes o) (b:=((lvN l.codes v).erase a).map (upN l.codes o)) (jF4 _ _) fun c hc=>by
   rw[qf2] at hc;obtain⟨d,d1,d2,d3⟩:=jQ2 h _ c rfl hc.1 v (by omega) hv;rw[hc.2] at d3;by_cases k:d=a
   ·exact List.mem_map.2 ⟨b,mb,by rw[← hab,← k,d3]⟩
   ·exact List.mem_map.2 ⟨d,(List.mem_erase_of_ne k).2 (qf2.2 ⟨d1,d2⟩),d3⟩
  rw[List.length_map,List.length_erase_of_mem ma] at this;have:=List.length_pos_of_mem ma;omega
 ·intro hi;refine Nat.le_antisymm (jW7 h ho hv) ?_;rw[show (lvN l.codes v).length=((lvN l.codes v).map (upN l.codes o)).length by rw[List.length_map]];refine jQ3 ?_ fun c hc=>?_
  ·rw[List.Nodup,List.pairwise_map];refine List.Pairwise.imp_of_mem ?_ (jF4 l.codes v);intro a b ha hb hne e;rw[qf2] at ha hb;exact hne (hi a b ha.1 hb.1 ha.2 hb.2 e)
  ·obtain⟨d,hd,rfl⟩:=List.mem_map.1 hc;rw[qf2] at hd;have:=jF3 hp (v:=o) d hd.1 (by omega);exact qf2.2 ⟨by omega,this.1⟩
theorem zg8 {a k m:Int} (hk:1≤k) (hm:0≤m):qG a k≤qG (a+m) k∧qG (a+m) k≤qG a k+m:=by
 unfold qG;rw[Int.fdiv_eq_ediv_of_nonneg _ (by omega),Int.fdiv_eq_ediv_of_nonneg _ (by omega)];have h1:=Int.mul_ediv_add_emod a k;have h2:=Int.emod_nonneg a (b:=k) (by omega);have h3:=Int.emod_lt_of_pos a (b:=k) (by omega);have h4:=Int.mul_ediv_add_emod (a+m) k;have h5:=Int.emod_nonneg (a+m) (b:=k) (by omega);have h6:=Int.emod_lt_of_pos (a+m) (b:=k) (by omega);constructor
 ·refine AQ fun c=>?_;have:k*((a+m) / k+1)≤k*(a / k):=Int.mul_le_mul_of_nonneg_left (by omega) (by omega);rw[Int.mul_add] at this;omega
 ·refine AQ fun c=>?_;have:k*(a / k+m+1)≤k*((a+m) / k):=Int.mul_le_mul_of_nonneg_left (by omega) (by omega);rw[Int.mul_add,Int.mul_add] at this;have h7:1*m≤k*m:=Int.mul_le_mul_of_nonneg_right hk hm;omega
theorem ki1 {a w k:Int} (hw:1≤w) (hk:1≤k):qG a (k*w)=qG (qG a w) k:=by
 have hkw:0≤k*w:=Int.mul_nonneg (by omega) (by omega);unfold qG;rw[Int.fdiv_eq_ediv_of_nonneg _ (show 0≤w by omega),Int.fdiv_eq_ediv_of_nonneg _ (show 0≤k by omega),Int.fdiv_eq_ediv_of_nonneg _ hkw,Int.mul_comm,Int.ediv_ediv_of_nonneg (by omega)]
theorem jF5 {a k:Int} (hk:1≤k):(k ∣ a+1→qG (a+1) k=qG a k+1)∧(¬ k ∣ a+1→qG (a+1) k=qG a k):=by
 unfold qG;rw[Int.fdiv_eq_ediv_of_nonneg _ (by omega),Int.fdiv_eq_ediv_of_nonneg _ (by omega)];have h1:=Int.mul_ediv_add_emod a k;have h2:=Int.emod_nonneg a (b:=k) (by omega);have h3:=Int.emod_lt_of_pos a (b:=k) (by omega);constructor
 ·rintro ⟨q,hq⟩;rw[hq,Int.mul_ediv_cancel_left _ (by omega)];have:q=a / k+1:=by
   have e:k*(q-(a / k+1))=a % k+1-k:=by rw[Int.mul_sub,Int.mul_add];omega
   have h4:q-(a / k+1)=0:=by
    refine AQ fun c=>?_;rcases Int.lt_or_gt_of_ne c with c | c
    ·have:k*(q-(a / k+1))≤k*(-1):=Int.mul_le_mul_of_nonneg_left (by omega) (by omega);omega
    ·have:k*1≤k*(q-(a / k+1)):=Int.mul_le_mul_of_nonneg_left (by omega) (by omega);omega
   omega
  exact this
 ·intro hn;refine ((Int.ediv_emod_unique (r:=a % k+1) (q:=a / k) (show 0<k by omega)).2 ⟨by omega,by omega,?_⟩).1;refine AQ fun c=>hn ⟨a / k+1,?_⟩;rw[Int.mul_add];omega
end Go.Proofs
