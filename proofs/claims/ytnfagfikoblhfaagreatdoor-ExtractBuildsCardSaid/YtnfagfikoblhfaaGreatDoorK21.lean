/- A part of the proof: trees of Go values, short forms, contracts. -/
import Derived.WalkKit
import Derived.Still
import Derived.MapKept
import GoSem.Builtin.Cap
import Derived.Laws.Externs
import GoSem.Extern.SlicesOverlaps
import Derived.Carry
import Derived.ProofKit
import Derived.OpenShut
import Derived.HandedShaped
import Derived.Lay
import Derived.LaidLaws
import Derived.MakeChecks
import Derived.SevenTiedAt
import Derived.Test.YtnfagfikoblhfaaGreatDoorChecked
import Derived.Test.YtnfagfikoblhfaaGreatDoorK20
set_option linter.unusedSimpArgs false
set_option linter.unusedVariables false
namespace Go.Proofs
open Go Go.TL
def ordB (l:List (List Int)):Bool:=(List.range l.length).all fun i=>decide (0<(l.getD i []).length)&&(decide (i=0)||decide (hd (l.getD (i-1) [])<hd (l.getD i [])))
def hasK (l:List (List Int)) (k:Int):Bool:=l.any fun r=>hd r==k
def appR (a:List (List Int)) (g:List Int) (rs:List (List Int)):List (List Int):=rs.foldl putR (a.filter fun r=>!g.contains (hd r))
theorem jC8 {a b:List (List Int)} (ha:AscR a) (hb:AscR b) (h:∀ r,r∈a↔r∈b):a=b:=by
 refine So.srt_uniq (lt:=fun x y=>decide (hd x<hd y)) ⟨fun x y h=>?_,fun x y z h1 h2=>?_⟩ (ha.imp fun h=>Cx h) (hb.imp fun h=>Cx h) h
 ·simp only[AZ] at h;exact Cq oM
 ·simp only[Ay] at h1 h2 ⊢
  omega
def ascI (l:List Int):Bool:=(List.range l.length).all fun i=>asc2 l i
def appE (a:Ext) (c:Chg):Int:=
 if ordB a.rows=false∨ordB c.rows=false∨ascI c.gone=false∨(c.rows.any fun r=>decide (r.length≠a.picks.length+1))=true then 11
 else if (c.gone.any fun k=>!hasK a.rows k)=true then 21 else if (c.gone.any fun k=>hasK c.rows k)=true then 10 else 0
structure ExtOk (x:Ext):Prop where
 ord:ordB x.rows=true
 len:∀ r∈x.rows,r.length=x.picks.length+1
end Go.Proofs
namespace Go.Proofs
open Go Go.TL
set_option maxRecDepth 4000
set_option maxHeartbeats 8000000
open So
def RwSm (l:List (List Int)):Prop:=l.length≤1000000∧∀ r∈l,r.length*8≤140737488355328
structure ExtSm (x:Ext):Prop where
 rows:RwSm x.rows
 picks:x.picks.length*16≤140737488355328
structure ChgSm (c:Chg):Prop where
 rows:RwSm c.rows
 gone:c.gone.length≤1000000
end Go.Proofs
namespace Go.Proofs
open Go Go.TL
set_option maxHeartbeats 8000000
open So
theorem qr7 (l:List Int) (hl:l.length*8≤140737488355328):Spc Tryz.prog 106 [vIs l] [] (vIs l) []:=by
 refine sIr qg2 fun e _ hst=>?_;unfold kU;refine sW ?_;refine⟨fun h=>?_,?_⟩
 ·have:l=[]:=by
   simpa using h
  subst this;exact .oA [] []
 ·refine⟨oM,?_⟩;exact .oA [] [16384]
theorem ZA (l:List Pk) (hl:l.length*16≤140737488355328):Spc Tryz.prog 94 [vPs l] [] (vPs l) []:=by
 refine sIr qb0 fun e _ hst=>?_;unfold kA;refine sW ?_;refine⟨fun h=>?_,?_⟩
 ·have:l=[]:=by
   simpa using h
  subst this;exact .oA [] []
 ·refine⟨oM,?_⟩;exact .oA [] [16384]
def idxN (n:Int):List Int→Nat
 | []=>0
 | x::r=>if x=n then 0 else idxN n r+1
theorem js5 {n:Int}:∀ {l:List Int} {i:Nat} (h:i<l.length),n∉l.take i→l[i]=n→idxN n l=i
 | [],i,h,_,_=>by simp at h
 | x::r,0,h,_,hp=>by simp at hp;simp [idxN,hp]
 | x::r,i+1,h,h1,hp=>by
   simp only[List.take_succ_cons,Ck,not_or] at h1;simp only[idxN];rw[Aq (fun e=>h1.1 e.symm),js5 (l:=r) (i:=i) (by simpa using h) h1.2 (by simpa using hp)]
def zW2 (l:List Int) (n:Int):Int:=if n∈l then idxN n l else -1
theorem qr8 (l:List Int) (n:Int) (hl:l.length<4611686018427387904):Spc Tryz.prog 174 [vIs l,vI n] [] (vI (zW2 l n)) []:=by
 refine sIr qg9 fun e _ hst=>?_;unfold kX;refine sW ?_;refine qk mixm (α:=Nat) [8] (fun i=>i≤l.length∧(n∉l.take i)) (fun i=>[(8,vI i)]) (fun i=>[]) (fun i=>l.length-i) 0 ⟨oM,?_⟩ ?_ fun i hi=>?_
 ·simp
 ·exact .oA [] []
 simp only[tZ,↓un_u,simprocAttr,AZ,Ay];refine⟨fun h=>?_,fun h=>?_⟩
 ·have hi2:i<l.length:=by omega
  have hwi:=qh (i:=i) oM;simp only[tZ,↓un_u,simprocAttr,Ax,qd hi2,hwi,AY,Ak];refine⟨oM,fun h3=>?_,fun h3=>⟨i+1,⟨oM,?_⟩,oM,?_⟩⟩
  ·have hm:n∈l:=by rw[h3];exact AX hi2
   rw[zW2,Aj hm,js5 hi2 hi.2 h3.symm];exact .imR rfl rfl
  ·rw[qH hi2,Dz];rintro (h4 | h4)
   ·exact hi.2 h4
   ·simp at h4;exact h3 h4
  ·exact .oA [] []
 ·have h2:i=l.length:=by omega
  have h3:=hi.2;rw[h2,Bw] at h3;rw[zW2,Aq h3];exact .imR rfl rfl
theorem ke (l:List Int) (n:Int) (hl:l.length<4611686018427387904):Spc Tryz.prog 105 [vIs l,vI n] [] (vB (l.contains n)) []:=by
 refine sIr Wp fun e _ hst=>?_;unfold jD;refine sW ?_;refine C1.im (qr8 l n hl) rfl rF ?_;refine sW ?_;refine .imR ?_ rfl;unfold zW2;by_cases h:n∈l
 ·rw[Aj h,FQ.2 h];simp
 ·rw[Aq h];cases hc:l.contains n
  ·simp
  ·exact absurd (FQ.1 hc) h
end Go.Proofs
namespace Go.Proofs
open Go Go.TL
set_option maxRecDepth 4000
set_option maxHeartbeats 8000000
end Go.Proofs
namespace Go.Proofs
open Go Go.TL
open Go.TL.So
theorem js6 (n:Int):Spc Tryz.prog 254 [vI n] [] (vB false) []:=by
 refine sIr qF7 fun e _ hst=>?_;unfold Qv;simp only[tZ,↓un_u,simprocAttr,bne_self_eq_false];exact .oA [] []
theorem zb3 (a b:Int):Spc Tryz.prog 208 [vI a,vI b] [] (vB (ltI a b)) []:=by
 refine sIr qO7 fun e _ hst=>?_;unfold Zn;refine sW ?_;refine C1.im (js6 a) rF rF ?_;refine sW ?_;refine C2.no sMp ?_;refine sW ?_;exact .oA [] []
end Go.Proofs
namespace Go.Proofs
open Go Go.TL
set_option maxRecDepth 4000
set_option maxHeartbeats 8000000
structure RwId (l:List (List Int)):Prop where
 asc:AscR l
 pos:∀ r∈l,0<r.length
 ids:∀ r∈l,1≤hd r∧hd r≤1048575
 len:l.length≤1000
open So
theorem ZU (n:Int):Spc Tryz.prog 209 [vI n] [] (vB false) []:=by
 refine sIr qh3 fun e _ hst=>?_;unfold kY;simp only[tZ,↓un_u,simprocAttr,bne_self_eq_false];exact .oA [] []
theorem js7 {x y:T}:jz4 (some (.v undef)) (some x) (some y)=none:=_root_.id rfl
def insN (l:List Int) (n:Int):Nat:=l.findIdx fun y=>decide (n≤y)
theorem JR (l:List Int) (n:Int) (h:l.Pairwise fun a b=>a<b) (hl:l.length<4611686018427387904):Spc Tryz.prog 154 [vIs l,vI n] [] (.tup [vI (insN l n),vB (l.contains n)]) []:=by
 have hp:=DX.1 h;refine sIr ZJ fun e _ hst=>?_;unfold zU;refine sW ?_;refine qk mixm (α:=Nat×Nat) [7,8] (fun p=>p.1≤p.2∧p.2≤l.length∧(∀ (m:Nat) (h:m<l.length),m<p.1→l[m]<n)∧(∀ (m:Nat) (h:m<l.length),p.2≤m→¬ l[m]<n)) (fun p=>[(7,vI p.1),(8,vI p.2)]) (fun p=>[]) (fun p=>p.2-p.1) (0,l.length) ?_ ?_ fun p hp=>?_
 ·exact⟨sMp,sMp,fun m h h2=>absurd h2 sMp,fun m h h2=>absurd h2 (by simp only;omega)⟩
 ·exact .oA [] []
 obtain⟨i,j⟩:=p;obtain⟨h1,h2,h3,h4⟩:=hp;dsimp only at h1 h2 h3 h4;simp only[tZ,↓un_u,simprocAttr,AZ,Ay];refine⟨fun h5=>?_,fun h5=>?_⟩
 ·have hij:i<j:=by omega
  obtain⟨h,hh,hhi,hhj⟩:∃ h:Nat,h=(i+j) / 2∧i≤h∧h<j:=⟨(i+j) / 2,rfl,oM,oM⟩;have hw1:IntKind.i64.wrap ((i:Int)+(j:Int))=((i+j:Nat):Int):=by rw[AK _ oM];omega
  have hw2:IntKind.u64.wrap ((i+j:Nat):Int)=((i+j:Nat):Int):=IntWalk.u64_in _ oM;have hw3:shrI .u64 ((i+j:Nat):Int) 1=(h:Int):=by
   simp only[shrI];rw[show (min (1:Int).toNat IntKind.u64.bits)=1 from rfl,DW _ (by decide)];omega
  have hw4:IntKind.i64.wrap (h:Int)=(h:Int):=AK _ oM;have hlt:h<l.length:=by omega
  have hws:=qh (i:=h) oM;have hcall:=zb3 l[h] n;simp only[tZ,↓un_u,simprocAttr,hw1,hw2,hw3,hw4,Ax,qd hlt];refine⟨oM,?_⟩;refine C1.im hcall rF rF ?_;simp only[tZ,↓un_u,simprocAttr,AZ,Ay,hws,ltI];refine⟨fun h6=>?_,fun h6=>?_⟩
  ·refine⟨(h+1,j),⟨by simp only;omega,h2,fun m hm1 hm2=>?_,h4⟩,by simp only;omega,?_⟩
   ·by_cases hmh:m=h
    ·subst hmh;exact h6
    ·have:=hp m h hm1 hlt (by simp only at hm2;omega);omega
   ·exact .oA [] []
  ·refine⟨(i,h),⟨by simp only;omega,by simp only;omega,h3,fun m hm1 hm2 hm3=>?_⟩,by simp only;omega,?_⟩
   ·by_cases hmh:m=h
    ·subst hmh;exact h6 hm3
    ·have:=hp h m hlt hm1 (by simp only at hm2;omega);omega
   ·exact .oA [] []
 ·have hij:i=j:=by omega
  subst hij;have hfi:insN l n=i:=by
   unfold insN;by_cases hil:i<l.length
   ·refine wm hil ?_ (by have:=h4 i hil (BZ _);simp;omega);rw[List.any_eq_false];intro y hy;obtain⟨m,hm1,rfl⟩:=CX hy;rw[Cz] at hm1;rw[Fy];have:=h3 m oM oM;simp;omega
   ·have:i=l.length:=by omega
    subst this;rw[List.findIdx_eq_length];intro y hy;obtain⟨m,hm1,rfl⟩:=CX hy;have:=h3 m hm1 hm1;simp;omega
  rw[hfi];by_cases hil:i<l.length
  ·have hg:decide ((i:Int)<(l.length:Int))=true:=by simp;omega
   have hct:l.contains n=(l[i]==n):=by
    rw[Bool.eq_iff_iff,FQ,AY];constructor
    ·intro hm;obtain⟨m,hm1,rfl⟩:=CX hm;by_cases c1:m<i
     ·have:=h3 m hm1 c1;omega
     ·by_cases c2:i<m
      ·have:=hp i m hil hm1 c2;have:=h4 i hil (BZ _);omega
      ·have:i=m:=by omega
       subst this;rfl
    ·intro e;rw[← e];exact AX hil
   rw[hct];have hnn:=ZU l[i];simp only[tZ,↓un_u,simprocAttr,hg,Ax,qd hil];refine⟨fun _=>by omega,fun _=>by omega,?_⟩;refine C2.im (fun _=>hnn) (fun _=>rfl) rF ?_;refine sW ?_;refine C2.im (fun _=>ZU n) (fun _=>rfl) rF ?_;refine sW ?_;exact .oA [] []
  ·have hg:decide ((i:Int)<(l.length:Int))=false:=by simp;omega
   have hct:l.contains n=false:=by
    cases e:l.contains n with
    | false=>rfl
    | true=>
      obtain⟨m,hm1,rfl⟩:=CX (FQ.1 e);have:=h3 m hm1 oM;omega
   rw[hct];have hj:(l.map vI).getD i T.junk=T.junk:=by rw[CY,List.getElem?_eq_none (by rw[BY];omega)];rfl
   simp only[tZ,↓un_u,simprocAttr,hg,Ax,hj];refine⟨fun h=>by omega,oM,?_⟩;simp only[tZ,↓un_u,simprocAttr,hg,zN0];refine C2.no (fun h=>h) ?_;simp only[tZ,↓un_u,simprocAttr,hg,zN0];refine C2.no (fun h=>h) ?_;simp only[tZ,↓un_u,simprocAttr,hg,zN0,js7,zi2,not_false_eq_true,true_and];exact .oA [] []
end Go.Proofs
namespace Go.Proofs
open Go Go.TL
set_option maxRecDepth 4000
set_option maxHeartbeats 8000000
theorem qS0 {s:Src} (h:SrcOk s→False):srcB s=false:=by
 cases e:srcB s with
 | false=>rfl
 | true=>exact (h (KY.1 e)).elim
theorem qd7 (s:Src) (hn:s.sch.cols.length<4611686018427387904) (hl:s.sch.lists.length<4611686018427387904) (hr:∀ r∈s.rows,r.length<4611686018427387904):Spc Tryz.prog 89 [srcT s] [] (vB (srcB s)) []:=by
 have hC:=zK s.sch hn hl;refine sIr qN0 fun e _ hst=>?_;unfold Zb;refine sW ?_;refine C1.im hC rF rF ?_;simp only[tZ,↓un_u,simprocAttr,tD,Bj,Aw];refine⟨fun h=>?_,fun h=>?_⟩
 ·rw[qS0 fun k=>by have h1:=k.sch;have h2:=k.nr;have h3:=k.ng;have h4:=k.ver;omega];exact .oA [] []
 refine qk mixm (α:=Nat) [38] (fun i=>i≤s.gone.length∧∀ j,j<i→(1≤s.gone.getD j 0∧s.gone.getD j 0≤1048575)∧asc2 s.gone j=true) (fun i=>[(38,vI i)]) (fun i=>[(4096,.arr 5 [srcT s] false)]) (fun i=>s.gone.length-i) 0 ⟨oM,fun j h=>by omega⟩ ?_ fun i hi=>?_
 ·exact .oA [(4096,some 4096)] []
 obtain⟨i1,i2⟩:=hi;refine sD ?_;refine⟨fun h2=>?_,fun h2=>?_⟩
 ·have hi2:i<s.gone.length:=by omega
  have hwi:=qh (i:=i) oM;have hg:s.gone.getD i 0=s.gone[i]:=qg hi2;obtain⟨k,hk1,hk2,hk3⟩:∃ k:Nat,(IntKind.i64.wrap ((i:Int)-1)).toNat=k∧k<s.gone.length∧(i=0∧k=0∨0<i∧k+1=i∧IntKind.i64.wrap ((i:Int)-1)=k):=by
   rcases DQ i with h0 | h0
   ·subst h0;exact⟨0,by decide,hi2,.inl ⟨rfl,rfl⟩⟩
   ·have e:=zG h0 (show i<4611686018427387904 by omega);exact⟨i-1,by rw[e];omega,oM,.inr ⟨h0,oM,e⟩⟩
  have hgq:s.gone.getD k 0=s.gone[k]:=qg hk2;simp only[tZ,↓un_u,simprocAttr,Ax,qd hi2,hk1,qd hk2,hwi,gt_iff_lt,tD];refine⟨oM,fun _=>by omega,fun h3=>?_,fun h3=>?_⟩
  ·rw[qS0 fun w=>by
    have h4:=w.gone _ (AX hi2);rcases hk3 with⟨h5,_⟩ | ⟨h5,h6,_⟩
    ·omega
    ·have h7:=DX.1 w.gasc k i hk2 hi2 oM;omega]
   exact .oA [] []
  ·refine⟨i+1,⟨oM,fun j hj=>?_⟩,oM,?_⟩
   ·by_cases e:j=i
    ·subst e;rw[hg];refine⟨oM,?_⟩;unfold asc2;rw[DZ,AZ,AZ];rcases hk3 with⟨h5,_⟩ | ⟨h5,h6,_⟩
     ·exact .inl h5
     ·rw[hg,show j-1=k by omega,hgq];omega
    ·exact i2 j oM
   ·exact .oA [(4096,some 4096)] []
 have hil:i=s.gone.length:=by omega
 subst hil;have hgasc:s.gone.Pairwise fun a b=>a<b:=by
  refine ja7 (f:=fun x:Int=>x) fun i h0 hi=>?_;have:=(i2 i hi).2;unfold asc2 at this;simp only[DZ,AZ] at this;exact this.resolve_left oM
 have hgin:∀ g∈s.gone,1≤g∧g≤1048575:=fun g hg=>by
  obtain⟨j,hj,rfl⟩:=CX hg;have:=(i2 j hj).1
  rwa [show s.gone.getD j 0=s.gone[j] from qg hj] at this
 have h0:schE s.sch=0:=by omega
 have hok:=qV h0;have hnc:=hok.nc;refine qk mixm (α:=Nat) [67] (fun i=>i≤s.rows.length∧∀ j,j<i→rowE s.sch (s.rows.getD j default)=0∧(0<j→hd (s.rows.getD (j-1) default)<hd (s.rows.getD j default))∧s.gone.contains (hd (s.rows.getD j default))=false) (fun i=>[(67,vI i)]) (fun i=>[(4096,.arr 5 [srcT s] false)]) (fun i=>s.rows.length-i) 0 ⟨oM,fun j h=>by omega⟩ ?_ fun i hi=>?_
 ·exact .oA [(4096,some 4096)] []
 obtain⟨j1,j2⟩:=hi;refine sD ?_;refine⟨fun h2=>?_,fun h2=>?_⟩
 ·have hi2:i<s.rows.length:=by omega
  have hwi:=qh (i:=i) oM;have hg:s.rows.getD i default=s.rows[i]:=qg hi2;have hF:=zp3 s.sch h0 s.rows[i] (hr _ (AX hi2));have hB:=JR s.gone (hd s.rows[i]) hgasc oM;simp only[tZ,↓un_u,simprocAttr,Ax,qd hi2];refine⟨oM,?_⟩;obtain⟨k,hk1,hk2,hk3⟩:∃ k:Nat,(IntKind.i64.wrap ((i:Int)-1)).toNat=k∧k<s.rows.length∧(i=0∧k=0∨0<i∧k+1=i∧IntKind.i64.wrap ((i:Int)-1)=k):=by
   rcases DQ i with h0 | h0
   ·subst h0;exact⟨0,by decide,hi2,.inl ⟨rfl,rfl⟩⟩
   ·have e:=zG h0 (show i<4611686018427387904 by omega);exact⟨i-1,by rw[e];omega,oM,.inr ⟨h0,oM,e⟩⟩
  by_cases hp:0<s.rows[i].length
  ·have hgi:=zS hp;have hgk:s.rows.getD k default=s.rows[k]:=qg hk2;have hpk:0<s.rows[k].length:=by
    rcases hk3 with⟨rfl,rfl⟩ | ⟨h5,h6,_⟩
    ·exact hp
    ·have:=(j2 k oM).1;rw[hgk] at this;exact yG this
   have hgi2:=zS hpk;refine C1.im hF rF rF ?_;simp only[tZ,↓un_u,simprocAttr,Ax,hk1,qd hk2,hgi,hgi2,tD,gt_iff_lt,Bx,Bz,AY,Ak];refine⟨fun _=>by omega,fun _=>by omega,fun _=>by omega,kR,fun h3=>?_,fun h3=>?_⟩
   ·rw[qS0 fun w=>by
     have h4:=w.rows _ (AX hi2);rcases hk3 with⟨h5,_⟩ | ⟨h5,h6,_⟩
     ·omega
     ·have h7:=DX.1 w.asc k i hk2 hi2 oM;omega]
    exact .oA [] []
   have hE:rowE s.sch s.rows[i]=0:=h3.1;refine⟨oM,?_⟩;refine C1.im hB rF rF ?_;refine sW ?_;refine⟨kR,fun h8=>?_,fun h8=>?_⟩
   ·rw[qS0 fun w=>by
     have h4:=(w.gone _ (FQ.1 h8)).2.2;have h5:=zC6.1 h4 _ (AX hi2);rw[zV6 hE] at h5;simp at h5]
    exact .oA [] []
   ·simp only[tZ,↓un_u,simprocAttr,hwi];refine⟨i+1,⟨oM,fun j hj=>?_⟩,oM,?_⟩
    ·by_cases e:j=i
     ·subst e;rw[hg];refine⟨hE,fun h0=>?_,h8⟩;rcases hk3 with⟨h5,_⟩ | ⟨h5,h6,_⟩
      ·omega
      ·rw[show j-1=k by omega,hgk];omega
     ·exact j2 j oM
    ·exact .oA [(4096,some 4096)] []
  ·have hv:(rowE s.sch s.rows[i]==0)=false:=Ak.2 fun e=>hp (yG e);have hn:s.rows[i]=[]:=Dy.1 oM;rw[hv,hn] at hF;rw[hn];refine C1.im hF rF rF ?_;simp only[tZ,↓un_u,simprocAttr,Ax,hk1,qd hk2,zN0,js7,zi2,not_false_eq_true,true_and];refine⟨kR,?_⟩;rw[qS0 fun w=>hp (yG (w.rows _ (AX hi2)))];exact .oA [] []
 ·have hil:i=s.rows.length:=by omega
  subst hil;have hk:SrcOk s:=by
   refine⟨h0,oM,oM,oM,fun r hr=>?_,?_,fun g hg=>?_,hgasc⟩
   ·obtain⟨j,hj,rfl⟩:=CX hr;have:=(j2 j hj).1
    rwa [show s.rows.getD j default=s.rows[j] from qg hj] at this
   ·exact ja7 (f:=hd) fun i h0 hi=>(j2 i hi).2.1 h0
   ·obtain⟨g1,g2⟩:=hgin g hg;refine⟨g1,g2,zC6.2 fun r hr=>?_⟩;obtain⟨j,hj,rfl⟩:=CX hr;have h4:=j2 j hj;rw[show s.rows.getD j default=s.rows[j] from qg hj] at h4;rw[zV6 h4.1];cases e:hd s.rows[j]==g with
    | false=>rfl
    | true=>
      rw[AY] at e;rw[e,FQ.2 hg] at h4;cases h4.2.2
  rw[KY.2 hk];exact .oA [] []
end Go.Proofs
namespace Go.Proofs
open Go Go.TL
set_option maxRecDepth 4000
set_option maxHeartbeats 8000000
theorem qG4 (l:List Int) (m:Int) (hm:m∈l) (hle:∀ x∈l,x≤m) (hl:l.length<4611686018427387904):Spc Tryz.prog 262 [vIs l] [] (vI m) []:=by
 have h0:0<l.length:=List.length_pos_of_mem hm;have e0:decide ((l.length:Int)<1)=false:=Cq oM;refine sIr qw4 fun e _ hst=>?_;unfold yE;simp only[tZ,↓un_u,simprocAttr,e0,qd h0];refine⟨oM,?_⟩;refine qk mixm (α:=Nat×Int) [3,4] (fun q=>1≤q.1∧q.1≤l.length∧q.2∈l∧∀ x∈l.take q.1,x≤q.2) (fun q=>[(3,vI q.2),(4,vI q.1)]) (fun q=>[]) (fun q=>l.length-q.1) (1,l[0]) ⟨sMp,by dsimp only;omega,AX h0,fun x hx=>by
  rw[show l.take 1=[l[0]] by cases l with | nil=>simp at h0 | cons a r=>rfl,Ey] at hx;rw[hx];exact Int.le_refl _⟩ ?_ fun q hq=>?_
 ·exact .oA [] []
 obtain⟨i,v⟩:=q;obtain⟨i0,i1,i2,i3⟩:=hq;dsimp only at i0 i1 i2 i3;refine sD ?_;refine⟨fun h2=>?_,fun h2=>?_⟩
 ·have hi2:i<l.length:=by omega
  have hwi:=qh (i:=i) oM;simp only[tZ,↓un_u,simprocAttr,Ax,qd hi2,hwi];refine⟨oM,(i+1,maxI v l[i]),⟨by dsimp only;omega,by dsimp only;omega,?_,fun x hx=>?_⟩,by dsimp only;omega,?_⟩
  ·dsimp only[maxI];split
   ·exact AX hi2
   ·exact i2
  ·dsimp only at hx;dsimp only[maxI];rw[qH hi2] at hx;rcases Dz.1 hx with k | k
   ·have:=i3 x k;split <;> omega
   ·rw[Ey.1 k];split <;> omega
  ·exact .oA [] []
 ·have hv:v=m:=by
   have h5:=hle v i2;have h6:=i3 m (by rw[List.take_of_length_le oM];exact hm);omega
  rw[hv];exact .oA [] []
theorem yN (l:CodL):Spc Tryz.prog 235 [cdlT l] [] (vI (zf l)) []:=by
 refine sIr qP3 fun e _ hst=>?_;unfold Zs;refine sW ?_;refine C1.im (QL l) rF rF ?_;simp only[tZ,↓un_u,simprocAttr,Bj,Aw];refine⟨fun h=>?_,fun h=>?_⟩
 ·rw[zf,Aj h];exact .oA [] []
 obtain⟨hp,h1,h2⟩:=ze h;have hdl:=YT l.codes;have hL:zf l=(dep l.codes (l.codes.length-1):Int)+1:=by rw[zf,Aq (by rw[h];simp)]
 have hd:=qB0 hp (l.codes.length-1) oM;have hM:=qG4 (depL l.codes) (dep l.codes (l.codes.length-1)) (Cj.2 ⟨l.codes.length-1,Dk.2 oM,rfl⟩) (fun x hx=>by
  obtain⟨c,hc,rfl⟩:=Cj.1 hx;have:=(zK2 h (Dk.1 hc)).1;omega) oM
 have hw:=qh (i:=dep l.codes (l.codes.length-1)) oM;refine C1.im (kL l (qr5 h)) rF rF ?_;refine sW ?_;refine C1.im hM rF rF ?_;simp only[tZ,↓un_u,simprocAttr,hw];rw[hL];exact .oA [] []
def hasB (l:CodL) (c:Int):Bool:=decide (0≤c)&&decide (c<l.codes.length)&&(lstE l==0)
theorem qi5 (l:CodL) (c:Int):Spc Tryz.prog 216 [cdlT l,vI c] [] (vB (hasB l c)) []:=by
 refine sIr zA1 fun e _ hst=>?_;unfold Yl;refine sW ?_;refine C2.im (fun _=>QL l) (fun _=>rfl) rF ?_;refine sW ?_;rw[show hasB l c=(decide (0≤c)&&decide (c<l.codes.length)&&(lstE l==0)) from rfl];exact .oA [] []
theorem qr9 {l:CodL} {c:Int}:hasB l c=true↔0≤c∧c<l.codes.length∧lstE l=0:=by
 unfold hasB;rw[Bq,Bq,AZ,AZ,AY,and_assoc]
theorem zp4 {cs:List Cod} {c:Nat} (h:c<(depL cs).length):(depL cs)[c]=dep cs c:=by simp [depL]
theorem YU (l:CodL) (lev:Int):Spc Tryz.prog 234 [cdlT l,vI lev] [] (vIs (atL l lev)) []:=by
 refine sIr zJ2 fun e _ hst=>?_;unfold qh4;refine sW ?_;refine C1.im (QL l) rF rF ?_;simp only[tZ,↓un_u,simprocAttr,Bj,Aw];refine⟨fun h=>?_,fun h=>?_⟩
 ·rw[atL,Aj h];exact .oA [] []
 obtain⟨hp,h1,h2⟩:=ze h;have e:atL l lev=atN l.codes lev l.codes.length:=by rw[atL,Aq (by rw[h];simp)];rfl
 rw[e];have hdl:=YT l.codes;refine C1.im (kL l (qr5 h)) rF rF ?_;refine sW ?_;refine qk mixm (α:=Nat) [5,14] (fun i=>i≤l.codes.length) (fun i=>[(5,.asl 1 (atN l.codes lev i).length),(14,vI i)]) (fun i=>[(1,.arr 1 ((atN l.codes lev i).map vI) false)]) (fun i=>l.codes.length-i) 0 oM ?_ fun i hi=>?_
 ·simp only[atN,List.range_zero,List.filter_nil,List.map_nil,Cw];exact .oA [(1,none)] []
 have hli:=jq8 l.codes lev i;refine sD ?_;refine⟨fun h3=>?_,fun h3=>?_⟩
 ·have hi2:i<(depL l.codes).length:=by omega
  have hwi:=qh (i:=i) oM;have hs:=zU7 l.codes lev i;simp only[tZ,↓un_u,simprocAttr,Ax,qd hi2,zp4 hi2,AY,Ak,hwi];refine⟨oM,fun h4=>?_,fun h4=>?_⟩
  ·rw[Aj h4] at hs;refine⟨oM,i+1,oM,oM,?_⟩;rw[hs];exact .oA [(1,some 1)] []
  ·rw[Aq h4,CW] at hs;refine⟨i+1,oM,oM,?_⟩;rw[hs];exact .oA [(1,some 1)] []
 ·have hil:i=l.codes.length:=by omega
  subst hil;exact .oA [] [1]
theorem Kl (l:CodL) (c lev:Int):Spc Tryz.prog 162 [cdlT l,vI c,vI lev] [] (vI (upC l c lev)) []:=by
 refine sIr zI7 fun e _ hst=>?_;unfold qg7;refine sW ?_;refine C1.im (qi5 l c) rF rF ?_;simp only[tZ,↓un_u,simprocAttr,tD,Bx,Bz];refine⟨fun h=>?_,fun h=>?_⟩
 ·have:upC l c lev = -1:=by
   rw[upC];by_cases k:lstE l≠0∨c<0∨c≥l.codes.length∨lev<0∨lev>dep l.codes c.toNat
   ·rw[Aj k]
   ·rcases h with h | h
    ·have:=qr9 (l:=l) (c:=c);rw[h] at this;exact absurd (this.2 ⟨oM,oM,AQ fun q=>k (.inl q)⟩) sMp
    ·omega
  rw[this];exact .oA [] []
 obtain⟨h0,h1,h2⟩:=qr9.1 h.1;obtain⟨hp,h3,h4⟩:=ze h2;obtain⟨k,rfl⟩:=AJ h0;obtain⟨v,rfl⟩:=AJ (show 0≤lev by omega);have hdl:=YT l.codes;have hk:k<(depL l.codes).length:=by omega
 have hdk:=qB0 hp k oM;refine C1.im (kL l (qr5 h2)) rF rF ?_;simp only[tZ,↓un_u,simprocAttr,Ax,qd hk,zp4 hk];refine⟨oM,?_⟩;by_cases hlv:dep l.codes k<v
 ·have hU:upC l k v = -1:=by rw[upC,Aj (by simp;omega)]
  rw[hU];refine qk mixm (α:=Unit) [1,7] (fun _=>True) (fun _=>[(1,vI k),(7,vI (dep l.codes k))]) (fun _=>[(4096,.arr 2 [cdlT l] false)]) (fun _=>0) () trivial ?_ fun _ _=>?_
  ·exact .oA [(4096,some 4096)] []
  have e0:decide ((dep l.codes k:Int)≥(v:Int))=false:=Cq oM;have e1:decide ((v:Int)≤(dep l.codes k:Int))=false:=Cq oM;simp only[tZ,↓un_u,simprocAttr,e0,e1];exact .oA [] []
 have hU:upC l k v=upF l.codes v (k+1) k:=by rw[upC,Aq (by simp;omega),Ax,Ax]
 rw[hU];refine qk mixm (α:=Nat) [1,7] (fun x=>x<l.codes.length∧v≤dep l.codes x∧upF l.codes v (k+1) k=upF l.codes v (x+1) x) (fun x=>[(1,vI x),(7,vI (dep l.codes x))]) (fun x=>[(4096,.arr 2 [cdlT l] false)]) (fun x=>x) k ⟨oM,oM,rfl⟩ ?_ fun x hx=>?_
 ·exact .oA [(4096,some 4096)] []
 obtain⟨x1,x2,x3⟩:=hx;have hcd:l.codes[x].par=parC l.codes x:=by rw[parC,cdAt,qg x1]
 have e0:decide ((dep l.codes x:Int)≥(v:Int))=true:=Cx oM;have e1:decide ((v:Int)≤(dep l.codes x:Int))=true:=Cx oM;have hdx:=qB0 hp x x1;simp only[tZ,↓un_u,simprocAttr,e0,e1,Ax,qd x1,hcd,AY,Ak];refine⟨fun h6=>?_,fun h6=>?_⟩
 ·rw[x3,zU8 oM];exact .oA [] []
 ·obtain⟨u1,u2,u3,u4⟩:=up_step hp (lev:=v) x1 oM;obtain⟨p,hpe⟩:=AJ u1;have hw:IntKind.i64.wrap ((dep l.codes x:Int)-1)=(dep l.codes p:Int):=by
   rw[AK _ oM,u3,hpe,Ax];omega
  rw[hpe,Ax] at u4 u3;simp only[tZ,↓un_u,simprocAttr,hpe,hw];refine⟨oM,p,⟨oM,oM,x3.trans u4⟩,oM,?_⟩;exact .oA [(4096,some 4096)] []
theorem zp5 (l:CodL) (c a:Int):Spc Tryz.prog 249 [cdlT l,vI c,vI a] [] (vB (Yo l c a)) []:=by
 refine sIr za8 fun e _ hst=>?_;unfold JJ;refine sW ?_;refine C1.im (qi5 l c) rF rF ?_;refine sW ?_;refine C2.im (fun _=>qi5 l a) (fun _=>rfl) rF ?_;simp only[tZ,↓un_u,simprocAttr,DZ,FX,Bx,Bz];refine⟨fun h=>?_,fun h=>?_⟩
 ·have:Yo l c a=false:=by
   cases e:Yo l c a with
   | false=>rfl
   | true=>
     unfold Yo at e;simp only[Bq,AZ,AY] at e;obtain⟨⟨e1,e2⟩,e3⟩:=e;have key:∀ x,0≤lvlC l x→hasB l x=true:=fun x hx=>by
      rw[qr9];unfold lvlC at hx;split at hx
      ·omega
      ·rename_i q;exact⟨oM,oM,AQ fun z=>q (.inl z)⟩
     have ha:=key a e1;have hc:=key c oM;rcases h with h | h
     ·rw[hc] at h;cases h
     ·rw[ha] at h;cases h
  rw[this];exact .oA [] []
 obtain⟨c0,c1,c2⟩:=qr9.1 h.1;obtain⟨a0,a1,_⟩:=qr9.1 h.2;obtain⟨hp,h3,h4⟩:=ze c2;obtain⟨k,rfl⟩:=AJ c0;obtain⟨j,rfl⟩:=AJ a0;have hdl:=YT l.codes;have hj:j<(depL l.codes).length:=by omega
 have hdk:=qB0 hp k oM;have hdj:=qB0 hp j oM;have l1:lvlC l j=dep l.codes j:=by rw[lvlC,Aq (by rw[c2];simp;omega),Ax]
 have l2:lvlC l k=dep l.codes k:=by rw[lvlC,Aq (by rw[c2];simp;omega),Ax]
 have hU:Yo l k j=(upC l k (dep l.codes j)==(j:Int)):=by
  unfold Yo;rw[l1,l2,Cx oM,Fq];by_cases q:(dep l.codes j:Int)≤dep l.codes k
  ·rw[Cx q,Fq]
  ·rw[Cq q,Bool.false_and,upC,Aj (by simp;omega)]
   symm
   exact Ak.2 oM
 rw[hU];refine C1.im (kL l (qr5 c2)) rF rF ?_;simp only[tZ,↓un_u,simprocAttr,Ax,qd hj,zp4 hj];refine⟨oM,?_⟩;refine C1.im (Kl l k (dep l.codes j)) rF rF ?_;refine sW ?_
 repeat (first | refine⟨oM,?_⟩ | refine⟨kR,?_⟩)
 exact .oA [] []
end Go.Proofs
namespace Go.Proofs
open Go Go.TL
set_option maxRecDepth 4000
set_option maxHeartbeats 8000000
theorem zK3 {n w:Int} (hw:0<w):qJ n w*w=n-(if n.tmod w<0 then n.tmod w+w else n.tmod w):=by
 have h1:=Int.mul_tdiv_add_tmod n w;rw[Int.mul_comm] at h1;rw[zm9 hw];split
 ·rw[Int.sub_mul];omega
 ·omega
theorem kj (n w:Int) (hw:0<w∧w≤1000000) (hn : -4611686018427387904<n∧n<4611686018427387904):Spc Tryz.prog 163 [vI n,vI w] [] (vI (qJ n w*w)) []:=by
 rw[zK3 hw.1];have h2:=Int.tmod_lt_of_pos n hw.1;have h3:=Int.lt_tmod_of_pos n hw.1;have w1:IntKind.i64.wrap (n.tmod w)=n.tmod w:=AK _ oM;have w2:IntKind.i64.wrap (n.tmod w+w)=n.tmod w+w:=AK _ oM;have w3:IntKind.i64.wrap (n-n.tmod w)=n-n.tmod w:=AK _ oM;have w4:IntKind.i64.wrap (n-(n.tmod w+w))=n-(n.tmod w+w):=AK _ oM;refine sIr qZ0 fun e _ hst=>?_;unfold Jy;simp only[tZ,↓un_u,simprocAttr,w1,w2,w3,w4,tD];refine⟨oM,fun h=>?_,fun h=>?_⟩
 ·rw[Aj h];exact .oA [] []
 ·rw[Aq h];exact .oA [] []
theorem yO (c:Col) (lev:Int) (h1:1≤lev∧lev≤c.widths.length) (h2:c.widths.length<4611686018427387904):Spc Tryz.prog 164 [colT c,vI lev] [] (vI (qE c lev)) []:=by
 have hw:IntKind.i64.wrap ((c.widths.length:Int)-lev)=(c.widths.length:Int)-lev:=AK _ oM;have hk:((c.widths.length:Int)-lev).toNat<c.widths.length:=by omega
 refine sIr qO1 fun e _ hst=>?_;unfold Zj;simp only[tZ,↓un_u,simprocAttr,hw,qd hk];rw[qE,qg hk];refine⟨oM,?_⟩;exact .oA [] []
theorem kf (s:Sch) (hE:schE s=0) (c:Int):Spc Tryz.prog 190 [schT s,vI c] [] (vI (finI s c)) []:=by
 have hok:=qV hE;have hnc:=hok.nc;refine sIr qE7 fun e _ hst=>?_;unfold Qo;refine sD ?_;refine⟨fun h=>?_,fun h=>?_⟩
 ·rw[finI,Aj oM];exact .oA [] []
 obtain⟨i,rfl⟩:=AJ (show 0≤c by omega);have hi:i<s.cols.length:=by omega
 have hat:qj s i=s.cols[i]:=by rw[qj,qg hi]
 have hk:=za (hok.cs i hi);have hcd:=fun e=>hok.cdl hi e;have hcl:qK s i=s.lists.getD s.cols[i].list.toNat default:=by rw[qK,hat]
 rw[hat] at hk hcd;rw[hcl] at hcd;rw[finI,Aq oM,Ax,hcl,hat];simp only[tZ,↓un_u,simprocAttr,Ax,qd hi];generalize s.cols[i]=x at hk hcd ⊢
 simp only[tZ,↓un_u,simprocAttr,AY,Ak];refine⟨oM,fun h2=>?_,fun h2=>?_⟩
 ·obtain⟨d1,d2⟩:=hcd h2;obtain⟨d3,d4⟩:=hk.2.2.2.1 h2;have hgl:s.lists.getD x.list.toNat default=s.lists[x.list.toNat]:=qg d1;rw[Aj h2];rw[hgl] at d2 ⊢
  simp only[tZ,↓un_u,simprocAttr,qd d1];generalize s.lists[x.list.toNat]=l at d2 ⊢
  have hlv:=Yp (l:=l);have hw2:IntKind.i64.wrap (zf l-1)=zf l-1:=AK _ oM;refine⟨oM,?_⟩;refine C1.im (yN l) rF rF ?_;simp only[tZ,↓un_u,simprocAttr,hw2];exact .oA [] []
 ·rw[Aq h2];exact .oA [] []
theorem ZB (s:Sch) (hs:jI s) (c:Int):Spc Tryz.prog 136 [schT s,vI c] [] (vI (finI s c)) []:=by
 refine sIr qD6 fun e _ hst=>?_;unfold Qe;refine sW ?_;refine C1.im (zK s hs.2.1 hs.1) rF rF ?_;simp only[tZ,↓un_u,simprocAttr,Bj,Aw];refine⟨fun h=>?_,fun h=>?_⟩
 ·rw[finI,Aj (.inl h)];exact .oA [] []
 refine C1.im (kf s h c) rF rF ?_;refine sW ?_;exact .oA [] []
theorem qS1 (s:Sch) (hs:jI s) (c lev v:Int):Spc Tryz.prog 95 [schT s,vI c,vI lev,vI v] [] (vI (qU s c lev v)) []:=by
 refine sIr qD3 fun e _ hst=>?_;unfold Qd;refine sW ?_;refine C1.im (ZB s hs c) rF rF ?_;refine sD ?_;refine⟨fun h=>?_,fun h=>?_⟩
 ·rw[qU,Aj (Yr.2 oM)];exact .oA [] []
 obtain⟨hE,c1,c2,hfin⟩:=wW (s:=s) (c:=c) oM;have hok:=qV hE;obtain⟨i,rfl⟩:=AJ (show 0≤c by omega);rw[Ax] at hfin;have hi:i<s.cols.length:=by omega
 have hat:qj s i=s.cols[i]:=by rw[qj,qg hi]
 have hk:=za (hok.cs i hi);have hcd:=fun e=>hok.cdl hi e;have hwd:=fun e l=>hok.wid hi oM e (lev:=l);have hcl:qK s i=s.lists.getD s.cols[i].list.toNat default:=by rw[qK,hat]
 have hE2:qU s i lev v=if s.cols[i].kind=2 then (if jb s i v=false then -1 else upC (qK s i) v lev)
  else if v≠kH∧inB v (-1000000) 1000000=false then -1
  else if lev=0 then 0 else if v=kH then v else qJ v (qE s.cols[i] lev)*qE s.cols[i] lev:=by
  rw[qU,Aq (by rw[Ez,Qy];omega),Ax,hat]
 rw[hE2];rw[hat] at hk hcd hwd hfin;rw[hcl] at hcd ⊢
 simp only[tZ,↓un_u,simprocAttr,Ax,qd hi];have hho:=qr6 s hok i hi v;generalize s.cols[i]=x at hk hcd hwd hfin hho ⊢
 refine⟨oM,?_⟩;refine C2.im (fun _=>hho) (fun _=>rfl) rF ?_;simp only[tZ,↓un_u,simprocAttr,tD,Bj,Aw,Bx,Bz,AY,Ak];rw[show (-1099511627776:Int)=kH from rfl];refine⟨fun h3=>?_,fun h3=>⟨fun h2=>?_,fun h2=>?_⟩⟩
 ·rw[Aj h3.1,Aj h3.2];exact .oA [] []
 ·rw[Aj h2];obtain⟨d1,d2⟩:=hcd h2;obtain⟨d3,d4⟩:=hk.2.2.2.1 h2;have hgl:s.lists.getD x.list.toNat default=s.lists[x.list.toNat]:=qg d1;rw[hgl] at d2 ⊢
  rw[Aq (by grind)];simp only[tZ,↓un_u,simprocAttr,qd d1];generalize s.lists[x.list.toNat]=l at d2 ⊢
  refine⟨oM,?_⟩;refine C1.im (Kl l v lev) rF rF ?_;refine sW ?_;exact .oA [] []
 rw[Aq h2];rw[Aq h2] at hfin;refine⟨fun h3=>?_,fun h3=>?_⟩
 ·rw[Aj ⟨oM,Yr.2 oM⟩];exact .oA [] []
 rw[Aq (by rw[Yr];omega)];refine⟨fun h4=>?_,fun h4=>?_⟩
 ·rw[Aj h4];exact .oA [] []
 rw[Aq h4];refine⟨fun h5=>?_,fun h5=>?_⟩
 ·rw[Aj h5,h5];exact .oA [] []
 rw[Aq h5];obtain⟨w1,w2,w3,w4,_⟩:=hwd h2 lev oM;refine C1.im (yO x lev oM oM) rF rF ?_;refine sW ?_;refine C1.im (kj v (qE x lev) oM oM) rF rF ?_;refine sW ?_;exact .oA [] []
theorem qs0 (s:Sch) (hE:schE s=0) (p:Pk):Spc Tryz.prog 127 [schT s,pkT p] [] (vI (kI s p)) []:=by
 have hP:kI s p=if finI s p.col<0 then 7 else if inB p.lev 0 (finI s p.col)=false then 8 else 0:=by
  rw[kI,Aq (by rw[hE];simp)];by_cases h:p.col<1∨p.col≥s.cols.length
  ·rw[Aj h,Aj (by rw[finI,Aj oM];omega)]
  ·rw[Aq h];have:0≤finI s p.col:=by
    rw[finI,Aq oM];split
    ·rename_i h2;have hok:=qV hE;obtain⟨_,d2⟩:=hok.cdl (i:=p.col.toNat) oM h2;rw[zf,Aq (by rw[d2];simp)];omega
    ·omega
   rw[Aq (show ¬ finI s p.col<0 by omega)]
 rw[hP];refine sIr qX0 fun e _ hst=>?_;unfold Jo;refine sW ?_;refine C1.im (kf s hE p.col) rF rF ?_;refine sD ?_;refine⟨fun h=>?_,fun h=>⟨fun h2=>?_,fun h2=>?_⟩⟩
 ·rw[Aj h];exact .oA [] []
 ·rw[Aq h,Aj (Yr.2 oM)];exact .oA [] []
 ·rw[Aq h,Aq (by rw[Yr];omega)];exact .oA [] []
theorem zp6 (s:Sch) (hs:jI s) (p:Pk):Spc Tryz.prog 242 [schT s,pkT p] [] (vI (kI s p)) []:=by
 refine sIr za6 fun e _ hst=>?_;unfold JI;refine sW ?_;refine C1.im (zK s hs.2.1 hs.1) rF rF ?_;simp only[tZ,↓un_u,simprocAttr,Bj,Aw];refine⟨fun h=>?_,fun h=>?_⟩
 ·rw[kI,Aj h];exact .oA [] []
 refine C1.im (qs0 s h p) rF rF ?_;refine sW ?_;exact .oA [] []
theorem qd8 (s:Sch) (hs:jI s) (l:List Pk) (hl:l.length<4611686018427387904):Spc Tryz.prog 64 [schT s,vPs l] [] (vI (kp s l)) []:=by
 refine sIr qM6 fun e _ hst=>?_;unfold QZ;refine sW ?_;refine C1.im (zK s hs.2.1 hs.1) rF rF ?_;simp only[tZ,↓un_u,simprocAttr,Bj,Aw];refine⟨fun h=>?_,fun hE=>?_⟩
 ·rw[kp,Aj h];exact .oA [] []
 rw[kp,Aq (by rw[hE];simp)];refine qk mixm (α:=Nat) [16] (fun i=>i≤l.length∧(zm (qp6 s l) i=0)) (fun i=>[(16,vI i)]) (fun i=>[(4096,.arr 2 [schT s] false)]) (fun i=>l.length-i) 0 ⟨oM,?_⟩ ?_ fun i hi=>?_
 ·rfl
 ·exact .oA [(4096,some 4096)] []
 simp only[tZ,↓un_u,simprocAttr,AZ,Ay];refine⟨fun h=>?_,fun h=>?_⟩
 ·have hi2:i<l.length:=by omega
  have hpi:pkAt l i=l[i]:=by rw[pkAt,qg hi2]
  have hstep:=jy hi.2 hi2;have hnext:=zC hi.2;have hA:qp6 s l i=if kI s l[i]≠0 then kI s l[i] else if 0<i∧l[i].col≤(pkAt l (i-1)).col then 10 else 0:=by rw[qp6,hpi]
  have hi2:i<l.length:=by omega
  have hwi:=qh (i:=i) oM;simp only[tZ,↓un_u,simprocAttr,Ax,qd hi2,hwi];refine⟨oM,?_⟩;refine C1.im (qs0 s hE l[i]) rF rF ?_;simp only[tZ,↓un_u,simprocAttr,Bj,Aw];refine⟨fun h3=>?_,fun h3=>?_⟩
  ·rw[Aj h3] at hA;rw[hstep (by rw[hA];exact h3),hA];exact .oA [] []
  rw[Aq (by rw[h3];simp)] at hA;rcases DQ i with h0 | h0
  ·subst h0;rw[Aq oM] at hA;have hz:((0:Nat):Int)=0:=rfl;have hz2:(IntKind.i64.wrap (-1)).toNat=0:=by decide
   have hz3:=qh (i:=0) oM;rw[hz] at hz3;simp only[tZ,↓un_u,simprocAttr,Ax,hz,beq_self_eq_true,gt_iff_lt,Int.lt_irrefl,Fq,hz2,qd hi2,hz3];refine⟨kR,1,⟨oM,by rw[hnext,hA]⟩,oM,?_⟩;exact .oA [(4096,some 4096)] []
  ·obtain⟨k,rfl⟩:∃ k,i=k+1:=⟨i-1,oM⟩;have hk3:k<l.length:=by omega
   have e2:decide (((k+1:Nat):Int)>0)=true:=Cx oM;have e3:=zG (i:=k+1) oM oM;rw[Nat.add_sub_cancel] at e3 hA;rw[pkAt,qg hk3] at hA;simp only[tZ,↓un_u,simprocAttr,Ax,qd hi2,qd hk3,e2,e3,hwi,tD];refine⟨oM,kR,fun h4=>?_,fun h4=>?_⟩
   ·rw[Aj ⟨oM,h4⟩] at hA;rw[hstep (by rw[hA];simp),hA];exact .oA [] []
   ·rw[Aq oM] at hA;refine⟨k+2,⟨oM,by rw[hnext,hA]⟩,oM,?_⟩;exact .oA [(4096,some 4096)] []
 ·have hi2:i=l.length:=by omega
  subst hi2;rw[hi.2];exact .oA [] []
def QN (c:Col) (lev v:Int):Int×Int×Bool:=
 if lev=0 then (c.low,c.high,v==0) else if v < -2000000∨v>1000000 then (0,0,false)
 else (max v c.low,min (v+qE c lev-1) c.high,(qJ v (qE c lev)*qE c lev==v)&&decide (max v c.low≤min (v+qE c lev-1) c.high))
theorem zD8 (a b:Int):maxI a b=max a b:=by unfold maxI;split <;> omega
theorem js8 (a b:Int):minI a b=min a b:=by unfold minI;split <;> omega
theorem qs1 (c:Col) (lev v:Int) (hl:lev=0∨(1≤lev∧lev≤c.widths.length∧c.widths.length≤4∧1≤qE c lev∧qE c lev≤1000000)):Spc Tryz.prog 233 [colT c,vI lev,vI v] [] (.tup [vI (QN c lev v).1,vI (QN c lev v).2.1,vB (QN c lev v).2.2]) []:=by
 refine sIr za4 fun e _ hst=>?_;unfold JF;simp only[tZ,↓un_u,simprocAttr,tD,AY,Ak];refine⟨fun h=>?_,fun h=>⟨fun h2=>?_,fun h2=>?_⟩⟩
 ·rw[QN,Aj h];dsimp only
  repeat (first | refine⟨oM,?_⟩ | refine⟨kR,?_⟩)
  exact .oA [] []
 ·rw[QN,Aq h,Aj h2];dsimp only;exact .oA [] []
 obtain⟨l1,l2,l3,l4,l5⟩:1≤lev∧lev≤c.widths.length∧c.widths.length≤4∧1≤qE c lev∧qE c lev≤1000000:=by rcases hl with e | e;exact absurd e h;exact e
 rw[QN,Aq h,Aq oM];refine C1.im (yO c lev ⟨l1,l2⟩ oM) rF rF ?_;have w1:IntKind.i64.wrap (v+qE c lev)=v+qE c lev:=AK _ oM;have w2:IntKind.i64.wrap (v+qE c lev-1)=v+qE c lev-1:=AK _ oM;simp only[tZ,↓un_u,simprocAttr,w1,w2,zD8,js8]
 repeat (first | refine⟨oM,?_⟩ | refine⟨kR,?_⟩)
 refine C1.im (kj v (qE c lev) oM oM) rF rF ?_;refine sW ?_;exact .oA [] []
def ja9 (s:Sch) (i:Nat) (lev v:Int):Int×Bool:=
 if (qj s i).kind=3 then (if 0<lev∧v=kH then (v,(qj s i).opt) else ((QN (qj s i) lev v).1,(QN (qj s i) lev v).2.2))
 else ((qT s i).find? fun l=>upC (qK s i) l lev==v).elim (0,false) fun l=>(l,true)
theorem zp7 (s:Sch) (hE:schE s=0) (i:Nat) (hi:i<s.cols.length) (h0:0<i) (lev v:Int) (hl:0≤lev∧lev≤finI s i):Spc Tryz.prog 171 [schT s,vI i,vI lev,vI v] [] (.tup [vI (ja9 s i lev v).1,vB (ja9 s i lev v).2]) []:=by
 have hok:=qV hE;obtain⟨_,c1,c2,hfin⟩:=wW (s:=s) (c:=i) oM;rw[Ax] at hfin;have hat:qj s i=s.cols[i]:=by rw[qj,qg hi]
 have hk:=za (hok.cs i hi);have hcd:=fun e=>hok.cdl hi e;have hwd:=fun e l=>hok.wid hi oM e (lev:=l);have hll:=Ki hok hi;have hcl:qK s i=s.lists.getD s.cols[i].list.toNat default:=by rw[qK,hat]
 have hE2:ja9 s i lev v=if s.cols[i].kind=3 then (if 0<lev∧v=kH then (v,s.cols[i].opt) else ((QN s.cols[i] lev v).1,(QN s.cols[i] lev v).2.2))
  else ((qT s i).find? fun l=>upC (qK s i) l lev==v).elim (0,false) fun l=>(l,true):=by rw[ja9,hat]
 have hlv:qT s i=atL (qK s i) (zf (qK s i)-1):=rfl;rw[hE2];rw[hat] at hk hcd hwd hfin hll;rw[hlv] at hll ⊢
 rw[hcl] at hcd hll ⊢
 refine sIr qZ4 fun e _ hst=>?_;unfold JA;simp only[tZ,↓un_u,simprocAttr,Ax,qd hi];generalize s.cols[i]=x at hk hcd hwd hfin hll ⊢
 have h1:=hk.2.2.1 h0;simp only[tZ,↓un_u,simprocAttr,tD,AY,Ak];rw[show (-1099511627776:Int)=kH from rfl];refine⟨oM,fun h3=>⟨fun h4=>?_,fun h4=>?_⟩,fun h3=>?_⟩
 ·rw[Aj h3,Aj h4];dsimp only
  repeat (first | refine⟨oM,?_⟩ | refine⟨kR,?_⟩)
  exact .oA [] []
 ·rw[Aj h3,Aq (by grind)];rw[Aq oM] at hfin;refine C1.im (qs1 x lev v (by
   by_cases e:lev=0
   ·exact .inl e
   ·have:=hwd oM lev oM;exact .inr oM)) rF rF ?_
  refine sW ?_;exact .oA [] []
 have h2:x.kind=2:=by omega
 obtain⟨d1,d2⟩:=hcd h2;obtain⟨d3,d4⟩:=hk.2.2.2.1 h2;have hll:=hll h2;have hgl:s.lists.getD x.list.toNat default=s.lists[x.list.toNat]:=qg d1;rw[hgl] at d2 hll ⊢
 rw[Aq h3];simp only[tZ,↓un_u,simprocAttr,qd d1];generalize s.lists[x.list.toNat]=l at d2 hll ⊢
 have hlv:=Yp (l:=l);have hw2:IntKind.i64.wrap (zf l-1)=zf l-1:=AK _ oM;refine⟨oM,?_⟩;refine C1.im (yN l) rF rF ?_;simp only[tZ,↓un_u,simprocAttr,hw2];refine C1.im (YU l (zf l-1)) rF rF ?_;refine sW ?_
 repeat (first | refine⟨oM,?_⟩ | refine⟨kR,?_⟩)
 generalize atL l (zf l-1)=L at hll ⊢
 refine qk mixm (α:=Nat) [56] (fun j=>j≤L.length∧((L.take j).find? (fun y=>upC l y lev==v)=none)) (fun j=>[(56,vI j)]) (fun j=>[(32792,.arr 2 [cdlT l] false)]) (fun j=>L.length-j) 0 ⟨oM,?_⟩ ?_ fun j hj=>?_
 ·rfl
 ·exact .oA [(32792,some 32792)] []
 simp only[tZ,↓un_u,simprocAttr,AZ,Ay];refine⟨fun h=>?_,fun h=>?_⟩
 ·have hi2:j<L.length:=by omega
  have hf:L.find? (fun y=>upC l y lev==v)=if upC l L[j] lev==v then some L[j] else (L.drop (j+1)).find? (fun y=>upC l y lev==v):=by
   conv=>lhs;rw[← List.take_append_drop j L,List.find?_append,hj.2,List.drop_eq_getElem_cons hi2,List.find?_cons]
   cases upC l L[j] lev==v <;> simp
  have hj2:j<L.length:=by omega
  have hwj:=qh (i:=j) oM;simp only[tZ,↓un_u,simprocAttr,Ax,qd hj2,hwj];refine⟨oM,?_⟩;refine C1.im (Kl l L[j] lev) rF rF ?_;simp only[tZ,↓un_u,simprocAttr,tD,AY,Ak];refine⟨fun h4=>?_,fun h4=>?_⟩
  ·rw[hf,Aj (AY.2 h4)];exact .oA [] []
  ·refine⟨j+1,⟨oM,?_⟩,oM,?_⟩
   ·rw[qH hi2,List.find?_append,hj.2];simp [h4]
   ·exact .oA [(32792,some 32792)] []
 ·have hj2:j=L.length:=by omega
  subst hj2;rw[show L.find? (fun y=>upC l y lev==v)=none by rw[← hj.2,List.take_of_length_le oM]];exact .oA [] []
end Go.Proofs
namespace Go.Proofs
open Go Go.TL
set_option maxHeartbeats 4000000
abbrev upN (cs:List Cod) (v x:Nat):Nat:=upF cs v (x+1) x
theorem zp8 {cs:List Cod} {v x:Nat} (h:dep cs x≤v):upN cs v x=x:=zU8 h _
theorem js9 {cs:List Cod} (hp:qF8 cs) {v:Nat}:∀ x,x<cs.length→v≤dep cs x→dep cs (upN cs v x)=v∧upN cs v x≤x:=by
 intro x
 induction x using Nat.strongRecOn with
 | _ x ih=>
   intro hx hv;by_cases h:dep cs x≤v
   ·rw[zp8 h];exact⟨oM,BZ _⟩
   ·obtain⟨u1,u2,u3,u4⟩:=up_step hp (lev:=v) hx oM;have:=ih (parC cs x).toNat oM oM oM;rw[show upN cs v x=upN cs v (parC cs x).toNat from u4];exact⟨this.1,oM⟩
theorem zD9 {cs:List Cod} (hp:qF8 cs) {o v:Nat} (ho:o≤v):∀ x,x<cs.length→v≤dep cs x→upN cs o (upN cs v x)=upN cs o x:=by
 intro x
 induction x using Nat.strongRecOn with
 | _ x ih=>
   intro hx hv;by_cases h:dep cs x≤v
   ·rw[zp8 h]
   ·obtain⟨u1,u2,u3,u4⟩:=up_step hp (lev:=v) hx oM;obtain⟨_,_,_,u5⟩:=up_step hp (lev:=o) hx oM;rw[show upN cs v x=upN cs v (parC cs x).toNat from u4,show upN cs o x=upN cs o (parC cs x).toNat from u5];exact ih (parC cs x).toNat oM oM oM
theorem jC9 {l:CodL} (h:lstE l=0):∀ (k c:Nat),l.codes.length-c=k→c<l.codes.length→∀ v,dep l.codes c≤v→(v:Int)≤zf l-1→∃ d,d<l.codes.length∧dep l.codes d=v∧upN l.codes (dep l.codes c) d=c:=by
 intro k
 induction k using Nat.strongRecOn with
 | _ k ih=>
   intro c hk hc v hv ht;by_cases e:dep l.codes c=v
   ·exact⟨c,hc,e,zp8 (BZ _)⟩
   obtain⟨hp,h1,h2⟩:=ze h;obtain⟨t1,t2,t3⟩:=zK2 h hc;cases hl:qh8 l.codes c with
   | true=>have:=t2 hl;omega
   | false=>
     have hn:¬ ∀ i,i<l.codes.length→parC l.codes i≠c:=fun k=>by rw[zp2.2 k] at hl;cases hl
     simp only[Classical.not_forall] at hn;obtain⟨i,hi,hn⟩:=hn;have hpc:parC l.codes i=c:=AQ hn;have h3:=hp i hi;have h4:=qw5 hp hi oM;rw[hpc,Ax] at h4;obtain⟨d,d1,d2,d3⟩:=ih (l.codes.length-i) oM i rfl hi v oM ht;refine⟨d,d1,d2,?_⟩;have h5:=zD9 hp (o:=dep l.codes c) (v:=dep l.codes i) oM d d1 oM;rw[← h5,d3];obtain⟨_,_,_,u5⟩:=up_step hp (lev:=dep l.codes c) hi oM;rw[show upN l.codes (dep l.codes c) i=upN l.codes (dep l.codes c) (parC l.codes i).toNat from u5,hpc,Ax];exact zp8 (BZ _)
theorem jD0 {α:Type} [DecidableEq α]:∀ {a b:List α},a.Nodup→(∀ x∈a,x∈b)→a.length≤b.length
 | [],_,_,_=>Nat.zero_le _
 | x::r,b,hn,hs=>by
   rw[List.nodup_cons] at hn;have hx:=hs x (List.mem_cons_self ..);have:=jD0 (a:=r) (b:=b.erase x) hn.2 fun y hy=>(List.mem_erase_of_ne (fun e=>hn.1 (by rw[← e];exact hy))).2 (hs y (CQ _ hy));rw[List.length_erase_of_mem hx] at this;have:=List.length_pos_of_mem hx;simp only[CJ];omega
abbrev lvN (cs:List Cod) (v:Nat):List Nat:=(List.range cs.length).filter fun i=>(dep cs i:Int)==v
theorem Wc {cs:List Cod} {v x:Nat}:x∈lvN cs v↔x<cs.length∧dep cs x=v:=by
 rw[Fz,Dk,AY];omega
theorem jt0 (cs:List Cod) (v:Nat):(lvN cs v).Nodup:=List.Nodup.sublist List.filter_sublist List.nodup_range
theorem jP1 {l:CodL} (h:lstE l=0) (v:Nat):(atL l v).length=(lvN l.codes v).length:=by
 rw[atL,Aq (by rw[h];simp),BY]
theorem jK1 {l:CodL} (h:lstE l=0) {o v:Nat} (ho:o≤v) (hv:(v:Int)≤zf l-1):(lvN l.codes o).length≤(lvN l.codes v).length:=by
 obtain⟨hp,h1,h2⟩:=ze h;rw[show (lvN l.codes v).length=((lvN l.codes v).map (upN l.codes o)).length by rw[BY]];refine jD0 (jt0 _ _) fun c hc=>?_;rw[Wc] at hc;obtain⟨d,d1,d2,d3⟩:=jC9 h _ c rfl hc.1 v oM hv;rw[hc.2] at d3;exact Cj.2 ⟨d,Wc.2 ⟨d1,d2⟩,d3⟩
theorem jV5 {l:CodL} (h:lstE l=0) {o v:Nat} (ho:o≤v) (hv:(v:Int)≤zf l-1):(lvN l.codes o).length=(lvN l.codes v).length↔∀ a b,a<l.codes.length→b<l.codes.length→dep l.codes a=v→dep l.codes b=v→upN l.codes o a=upN l.codes o b→a=b:=by
 obtain⟨hp,h1,h2⟩:=ze h;constructor
 ·intro e a b ha hb da db hab;refine AQ fun hne=>?_;have ma:a∈lvN l.codes v:=Wc.2 ⟨ha,da⟩;have mb:b∈(lvN l.codes v).erase a:=(List.mem_erase_of_ne (fun e=>hne e.symm)).2 (Wc.2 ⟨hb,db⟩);have:=jD0 (a:=lvN l.codes o) (b:=((lvN l.codes v).erase a).map (upN l.codes o)) (jt0 _ _) fun c hc=>by
   rw[Wc] at hc;obtain⟨d,d1,d2,d3⟩:=jC9 h _ c rfl hc.1 v oM hv;rw[hc.2] at d3;by_cases k:d=a
   ·exact Cj.2 ⟨b,mb,by rw[← hab,← k,d3]⟩
   ·exact Cj.2 ⟨d,(List.mem_erase_of_ne k).2 (Wc.2 ⟨d1,d2⟩),d3⟩
  rw[BY,List.length_erase_of_mem ma] at this;have:=List.length_pos_of_mem ma;omega
 ·intro hi;refine Nat.le_antisymm (jK1 h ho hv) ?_;rw[show (lvN l.codes v).length=((lvN l.codes v).map (upN l.codes o)).length by rw[BY]];refine jD0 ?_ fun c hc=>?_
  ·rw[List.Nodup,List.pairwise_map];refine List.Pairwise.imp_of_mem ?_ (jt0 l.codes v);intro a b ha hb hne e;rw[Wc] at ha hb;exact hne (hi a b ha.1 hb.1 ha.2 hb.2 e)
  ·obtain⟨d,hd,rfl⟩:=Cj.1 hc;rw[Wc] at hd;have:=js9 hp (v:=o) d hd.1 oM;exact Wc.2 ⟨oM,this.1⟩
theorem qS2 {a k m:Int} (hk:1≤k) (hm:0≤m):qJ a k≤qJ (a+m) k∧qJ (a+m) k≤qJ a k+m:=by
 unfold qJ;rw[DW _ oM,DW _ oM];have h1:=Int.mul_ediv_add_emod a k;have h2:=Int.emod_nonneg a (b:=k) oM;have h3:=Int.emod_lt_of_pos a (b:=k) oM;have h4:=Int.mul_ediv_add_emod (a+m) k;have h5:=Int.emod_nonneg (a+m) (b:=k) oM;have h6:=Int.emod_lt_of_pos (a+m) (b:=k) oM;constructor
 ·refine AQ fun c=>?_;have:k*((a+m) / k+1)≤k*(a / k):=Int.mul_le_mul_of_nonneg_left oM oM;rw[Int.mul_add] at this;omega
 ·refine AQ fun c=>?_;have:k*(a / k+m+1)≤k*((a+m) / k):=Int.mul_le_mul_of_nonneg_left oM oM;rw[Int.mul_add,Int.mul_add] at this;have h7:1*m≤k*m:=Int.mul_le_mul_of_nonneg_right hk hm;omega
theorem jV6 {a w k:Int} (hw:1≤w) (hk:1≤k):qJ a (k*w)=qJ (qJ a w) k:=by
 have hkw:0≤k*w:=Int.mul_nonneg oM oM;unfold qJ;rw[DW _ (show 0≤w by omega),DW _ (show 0≤k by omega),DW _ hkw,Int.mul_comm,Int.ediv_ediv_of_nonneg oM]
theorem jt1 {a k:Int} (hk:1≤k):(k ∣ a+1→qJ (a+1) k=qJ a k+1)∧(¬ k ∣ a+1→qJ (a+1) k=qJ a k):=by
 unfold qJ;rw[DW _ oM,DW _ oM];have h1:=Int.mul_ediv_add_emod a k;have h2:=Int.emod_nonneg a (b:=k) oM;have h3:=Int.emod_lt_of_pos a (b:=k) oM;constructor
 ·rintro ⟨q,hq⟩;rw[hq,Int.mul_ediv_cancel_left _ oM];have:q=a / k+1:=by
   have e:k*(q-(a / k+1))=a % k+1-k:=by rw[Int.mul_sub,Int.mul_add];omega
   have h4:q-(a / k+1)=0:=by
    refine AQ fun c=>?_;rcases Int.lt_or_gt_of_ne c with c | c
    ·have:k*(q-(a / k+1))≤k*(-1):=Int.mul_le_mul_of_nonneg_left oM oM;omega
    ·have:k*1≤k*(q-(a / k+1)):=Int.mul_le_mul_of_nonneg_left oM oM;omega
   omega
  exact this
 ·intro hn;refine ((Int.ediv_emod_unique (r:=a % k+1) (q:=a / k) (show 0<k by omega)).2 ⟨oM,oM,?_⟩).1;refine AQ fun c=>hn ⟨a / k+1,?_⟩;rw[Int.mul_add];omega
end Go.Proofs
namespace Go.Proofs
open Go Go.TL
set_option maxRecDepth 4000
set_option maxHeartbeats 8000000
theorem jK2 {ws:List Int} (hw:∀ j,j<ws.length→wdOk ws j=true) {i:Nat}:∀ d,i+d<ws.length→∃ k:Int,1≤k∧ws.getD (i+d) 0=k*ws.getD i 0∧(0<d→2≤k)
 | 0,h=>⟨1,oM,sMp,oM⟩
 | d+1,h=>by
   obtain⟨k,k1,k2,_⟩:=jK2 hw d (i:=i) oM;have h1:=hw (i+d+1) oM;rw[wdOk,Aq oM] at h1;simp only[Bq,AZ,AY,Nat.add_sub_cancel] at h1;have hp:=zB0 (ws:=ws) hw (i+d) oM;obtain⟨⟨a1,a2⟩,a3⟩:=h1;have h2:=Int.mul_tdiv_add_tmod (ws.getD (i+d+1) 0) (ws.getD (i+d) 0);rw[a3,Int.add_zero] at h2;generalize (ws.getD (i+d+1) 0).tdiv (ws.getD (i+d) 0)=q at h2;have hq:2≤q:=AQ fun c=>by
    have:ws.getD (i+d) 0*q≤ws.getD (i+d) 0*1:=Int.mul_le_mul_of_nonneg_left oM oM;omega
   have hkq:2*1≤q*k:=Int.mul_le_mul hq k1 oM oM;refine⟨q*k,oM,?_,fun _=>by omega⟩;rw[show i+(d+1)=i+d+1 from rfl,← h2,k2,Int.mul_assoc,Int.mul_comm q k,Int.mul_assoc,Int.mul_comm q]
theorem SchOk.wdv {s:Sch} (h:SchOk s) {i:Nat} (hi:i<s.cols.length) (h0:0<i) (hk:(qj s i).kind≠2) {o lev:Nat} (ho:1≤o∧o<lev) (hl:lev≤(qj s i).widths.length):∃ k:Int,2≤k∧qE (qj s i) o=k*qE (qj s i) lev:=by
 have hk2:=za (h.cs i hi);have hk3:(qj s i).kind=3:=by have:=hk2.2.2.1 h0;omega
 have hm:=hk2.2.2.2.2 hk3;generalize qj s i=c at hl hm hk3 ⊢
 unfold measE at hm;split at hm
 ·cases hm
 rename_i h1;split at hm
 ·cases hm
 rename_i h2;split at hm
 ·cases hm
 rename_i h3;rw[Ez] at h3;have hw:∀ j,j<c.widths.length→wdOk c.widths j=true:=fun j hj=>Bk.1 h3 j (Dk.2 hj);obtain⟨k,_,k2,k3⟩:=jK2 hw (i:=c.widths.length-lev) (lev-o) oM;refine⟨k,k3 oM,?_⟩;rw[qE,qE,show ((c.widths.length:Int)-o).toNat=c.widths.length-lev+(lev-o) by omega,show ((c.widths.length:Int)-lev).toNat=c.widths.length-lev by omega];exact k2
def blkI (s:Sch) (i lev:Nat):Int:=
 if (qj s i).kind=2 then ((lvN (qK s i).codes lev).length:Int)
 else if lev=0 then 1 else qJ (qj s i).high (qE (qj s i) lev)-qJ (qj s i).low (qE (qj s i) lev)+1+(if (qj s i).opt=true then 1 else 0)
theorem jt2 {n:Nat} {p:Nat→Nat→Bool}:qi1 n p=true↔∀ a,a<n→∀ b,b<a→p a b=true:=by
 unfold qi1;simp only[Bk,Dk]
theorem YV {s:Sch} (h:SchOk s) {i:Nat} (hi:i<s.cols.length) (h2:(qj s i).kind=2) {x:Int}:x∈qT s i↔∃ c:Nat,x=c∧c<(qK s i).codes.length∧(dep (qK s i).codes c:Int)=zf (qK s i)-1:=by
 obtain⟨_,d2⟩:=h.cdl hi h2;unfold qT atL;rw[Aq (by rw[d2];simp),Cj];constructor
 ·rintro ⟨c,hc,rfl⟩;rw[Fz,Dk,AY] at hc;exact⟨c,rfl,hc.1,hc.2⟩
 ·rintro ⟨c,rfl,h1,h3⟩;exact⟨c,Fz.2 ⟨Dk.2 h1,AY.2 h3⟩,rfl⟩
theorem ZC {s:Sch} (h:SchOk s) {i:Nat} (hi:i<s.cols.length) (h2:(qj s i).kind=2) {c v:Nat} (hc:c<(qK s i).codes.length) (hd:(dep (qK s i).codes c:Int)=zf (qK s i)-1) (hv:(v:Int)≤finI s i) (hf:finI s i=zf (qK s i)-1):qU s i v c=upN (qK s i).codes v c:=by
 obtain⟨_,d2⟩:=h.cdl hi h2;have hh:jb s i c=true:=by
  rw[jb,Aq oM,Aj h2,Bq,Qy,AY,lvlC,Aq (not_or.2 ⟨fun h=>h d2,oM⟩),Ax];exact⟨oM,hd⟩
 rw[qU,Aq (by rw[Ez,Qy];omega),Ax,Aj h2,Aq (by rw[hh];simp),upC,Aq (not_or.2 ⟨fun h=>h d2,by rw[Ax];omega⟩),Ax,Ax]
theorem zp9 {s:Sch} (hE:schE s=0) {i:Nat} (hi:i<s.cols.length) (h0:0<i) {o lev:Nat} (ho:o≤lev) (hl:(lev:Int)≤finI s i):blkI s i o≤blkI s i lev∧(divB s i o lev=true↔blkI s i o=blkI s i lev):=by
 have hok:=qV hE;by_cases e:o=lev
 ·subst e;exact⟨oM,by rw[zV4];simp⟩
 obtain⟨_,c1,c2,hfin⟩:=wW (s:=s) (c:=i) oM;rw[Ax] at hfin;by_cases h2:(qj s i).kind=2
 ·obtain⟨_,d2⟩:=hok.cdl hi h2;rw[Aj h2] at hfin;unfold blkI;rw[Aj h2,Aj h2];have hle:=jK1 d2 (o:=o) (v:=lev) oM oM;refine⟨oM,?_⟩;rw[show ((lvN (qK s i).codes o).length:Int)=((lvN (qK s i).codes lev).length:Int)↔(lvN (qK s i).codes o).length=(lvN (qK s i).codes lev).length by omega,jV5 d2 oM oM];unfold divB;rw[Aq oM,Aj h2,jt2];have hP:∀ j k,(qT s i).getD j 0∈qT s i→(qT s i).getD k 0∈qT s i→(divP s i (qT s i) o lev j k=true↔(qU s i o ((qT s i).getD j 0)=qU s i o ((qT s i).getD k 0)→qU s i lev ((qT s i).getD j 0)=qU s i lev ((qT s i).getD k 0))):=fun j k _ _=>by
   unfold divP;simp only[Bx,FJ,Bz,AY,Ak];constructor
   ·rintro (h | h) k
    ·exact h
    ·exact absurd k h
   ·intro h;by_cases k:qU s i o ((qT s i).getD j 0)=qU s i o ((qT s i).getD k 0)
    ·exact .inl (h k)
    ·exact .inr k
  have hmem:∀ j,j<(qT s i).length→(qT s i).getD j 0∈qT s i:=fun j hj=>by rw[qg hj];exact AX hj
  obtain⟨hp,p1,p2⟩:=ze d2;constructor
  ·intro H a b ha hb da db hab;obtain⟨x,x1,x2,x3⟩:=jC9 d2 _ a rfl ha (zf (qK s i)-1).toNat oM oM;obtain⟨y,y1,y2,y3⟩:=jC9 d2 _ b rfl hb (zf (qK s i)-1).toNat oM oM;rw[da] at x3;rw[db] at y3;have hx:(x:Int)∈qT s i:=(YV hok hi h2).2 ⟨x,rfl,x1,oM⟩;have hy:(y:Int)∈qT s i:=(YV hok hi h2).2 ⟨y,rfl,y1,oM⟩;have ux:upN (qK s i).codes o x=upN (qK s i).codes o y:=by
    rw[← zD9 hp (o:=o) (v:=lev) oM x x1 oM,← zD9 hp (o:=o) (v:=lev) oM y y1 oM,x3,y3,hab]
   obtain⟨j,hj,ej⟩:=CX hx;obtain⟨k,hk,ek⟩:=CX hy;rw[← qg (d:=0) hj] at ej;rw[← qg (d:=0) hk] at ek;have cl:=fun c (hc:c<(qK s i).codes.length) (hd:(dep (qK s i).codes c:Int)=zf (qK s i)-1) (v:Nat) (hv:(v:Int)≤finI s i)=>ZC hok hi h2 (v:=v) hc hd hv hfin;have fin:qU s i lev x=qU s i lev y→a=b:=fun e=>by
    rw[cl x x1 oM lev hl,cl y y1 oM lev hl,x3,y3] at e;omega
   have eo:qU s i o x=qU s i o y:=by rw[cl x x1 oM o oM,cl y y1 oM o oM,ux]
   rcases Nat.lt_trichotomy j k with q | q | q
   ·have:=(hP k j (hmem k hk) (hmem j hj)).1 (H k hk j q);rw[ej,ek] at this;exact fin (this eo.symm).symm
   ·subst q;rw[ej] at ek;exact fin (by rw[ek])
   ·have:=(hP j k (hmem j hj) (hmem k hk)).1 (H j hj k q);rw[ej,ek] at this;exact fin (this eo)
  ·intro H j hj k hk;rw[hP j k (hmem j hj) (hmem k oM)];obtain⟨x,x0,x1,x2⟩:=(YV hok hi h2).1 (hmem j hj);obtain⟨y,y0,y1,y2⟩:=(YV hok hi h2).1 (hmem k oM);rw[x0,y0,ZC hok hi h2 x1 x2 oM hfin,ZC hok hi h2 y1 y2 oM hfin,ZC hok hi h2 x1 x2 hl hfin,ZC hok hi h2 y1 y2 hl hfin];intro e;have ux:=js9 hp (v:=lev) x x1 oM;have uy:=js9 hp (v:=lev) y y1 oM;have:=H (upN (qK s i).codes lev x) (upN (qK s i).codes lev y) oM oM ux.1 uy.1 (by
    rw[zD9 hp oM x x1 oM,zD9 hp oM y y1 oM];omega)
   rw[this]
 rw[Aq h2] at hfin;obtain⟨w1,w2,w3,w4,w5,w6,w7,_⟩:=hok.wid hi h0 h2 (lev:=lev) oM;unfold blkI divB;simp only[Aq h2,Aq (show ¬ lev=0 by omega),Aq (show ¬ (lev=0∨lev≤o) by omega)];obtain⟨m,hm⟩:=AJ (show 0≤(qj s i).high-(qj s i).low by omega);generalize hW:qE (qj s i) lev=w at w1 w2 ⊢
 have hab:=qS2 (a:=(qj s i).low) (k:=w) (m:=m) w1 oM;rw[show (qj s i).low+(m:Int)=(qj s i).high by omega] at hab;have f0:∀ c,c*w>(qj s i).high↔qJ (qj s i).high w<c:=fun c=>by
  have h3:=Ys (v:=(qj s i).high) (w:=w) oM;constructor
  ·intro h;refine AQ fun z=>?_;have:c*w≤qJ (qj s i).high w*w:=Int.mul_le_mul_of_nonneg_right oM oM;omega
  ·intro h;have:(qJ (qj s i).high w+1)*w≤c*w:=Int.mul_le_mul_of_nonneg_right oM oM;rw[Int.add_mul] at this;omega
 by_cases o0:o=0
 ·simp only[Aj o0];cases (qj s i).opt
  ·simp only[Bool.not_false,Fq,AZ,f0,EZ,if_false];omega
  ·simp only[Bool.not_true,Bool.false_and,if_true,EZ,false_iff];omega
 simp only[Aq o0];obtain⟨k,k1,k2⟩:=hok.wdv hi h0 h2 (o:=o) (lev:=lev) oM oM;rw[hW] at k2;rw[k2,jV6 w1 oM,jV6 w1 oM];have f3:∀ x:Int,(x*w).tmod (k*w)=0↔k ∣ x:=fun x=>by
  constructor
  ·intro h;obtain⟨q,hq⟩:=Int.dvd_of_tmod_eq_zero h;exact⟨q,Int.eq_of_mul_eq_mul_right (show w≠0 by omega) (by rw[hq,Int.mul_assoc,Int.mul_assoc,Int.mul_comm w])⟩
  ·rintro ⟨q,rfl⟩;rw[Int.mul_assoc,Int.mul_comm q,← Int.mul_assoc,Int.mul_tmod_right]
 have f2:(qJ (qj s i).low w+1)*w+w=(qJ (qj s i).low w+1+1)*w:=by rw[Int.add_mul (_+1) 1,Int.one_mul]
 have hD:divM (qj s i).high w (k*w) 2 ((qJ (qj s i).low w+1)*w)=true↔qJ (qj s i).high w<qJ (qj s i).low w+1∨(k ∣ qJ (qj s i).low w+1∧(qJ (qj s i).high w<qJ (qj s i).low w+1+1∨k ∣ qJ (qj s i).low w+1+1)):=by
  rw[divM,divM,divM,f2];simp only[f0,ne_eq,f3];split
  ·rename_i h;simp only[h,true_or,iff_true]
  ·rename_i h;split
   ·rename_i h4;simp only[h,h4,false_and,or_self,EZ]
   ·rename_i h4;rw[Classical.not_not] at h4;split
    ·rename_i h5;simp only[h4,h5,true_or,and_true,or_true]
    ·rename_i h5;split
     ·rename_i h6;simp only[h,h5,h6,or_self,and_false,EZ]
     ·rename_i h6;rw[Classical.not_not] at h6;simp only[h4,h6,or_true,and_true]
 rw[hD];generalize qJ (qj s i).high w=b at hab ⊢
 generalize qJ (qj s i).low w=a at hab ⊢
 obtain⟨n,hn⟩:=AJ (show 0≤b-a by omega);have e0:=qS2 (a:=a) (k:=k) (m:=n) oM oM;rw[show a+(n:Int)=b by omega] at e0;refine⟨oM,?_⟩;by_cases q0:n=0
 ·have:b=a:=by omega
  subst this;exact⟨fun _=>by omega,fun _=>.inl oM⟩
 obtain⟨s1,s2⟩:=jt1 (a:=a) (k:=k) oM;have e1:=qS2 (a:=a+1) (k:=k) (m:=b-a-1) oM oM;rw[show a+1+(b-a-1)=b by omega] at e1;by_cases d1:k ∣ a+1
 ·have s1:=s1 d1;by_cases q1:n=1
  ·have:b=a+1:=by omega
   subst this;exact⟨fun _=>by omega,fun _=>.inr ⟨d1,.inl oM⟩⟩
  ·have d2:¬ k ∣ a+1+1:=by
    rintro ⟨p,hp⟩;obtain⟨r,hr⟩:=d1;have:k*(p-r)=1:=by rw[Int.mul_sub];omega
    have:=Int.le_of_dvd oM ⟨_,this.symm⟩;omega
   obtain⟨_,s4⟩:=jt1 (a:=a+1) (k:=k) oM;have s4:=s4 d2;have e2:=qS2 (a:=a+1+1) (k:=k) (m:=b-a-2) oM oM;rw[show a+1+1+(b-a-2)=b by omega] at e2;refine⟨fun h=>?_,fun h=>by omega⟩;rcases h with h | ⟨_,h | h⟩
   ·omega
   ·omega
   ·exact absurd h d2
 ·have s2:=s2 d1;refine⟨fun h=>?_,fun h=>by omega⟩;rcases h with h | ⟨h,_⟩
  ·omega
  ·exact absurd h d1
theorem Yz (s:Sch) (hE:schE s=0) (i:Nat) (hi:i<s.cols.length) (h0:0<i) (lev:Nat) (hl:(lev:Int)≤finI s i):Spc Tryz.prog 193 [schT s,vI i,vI lev] [] (vI (blkI s i lev)) []:=by
 have hok:=qV hE;obtain⟨_,c1,c2,hfin⟩:=wW (s:=s) (c:=i) oM;rw[Ax] at hfin;have hat:qj s i=s.cols[i]:=by rw[qj,qg hi]
 have hk:=za (hok.cs i hi);have hcd:=fun e=>hok.cdl hi e;have hwd:=fun e l=>hok.wid hi oM e (lev:=l);have hcl:qK s i=s.lists.getD s.cols[i].list.toNat default:=by rw[qK,hat]
 have hE2:blkI s i lev=if s.cols[i].kind=2 then ((lvN (qK s i).codes lev).length:Int)
  else if lev=0 then 1 else qJ s.cols[i].high (qE s.cols[i] lev)-qJ s.cols[i].low (qE s.cols[i] lev)+1+(if s.cols[i].opt=true then 1 else 0):=by rw[blkI,hat]
 rw[hE2];rw[hat] at hk hcd hwd hfin;rw[hcl] at hcd ⊢
 refine sIr qE9 fun e _ hst=>?_;unfold Qp;simp only[tZ,↓un_u,simprocAttr,Ax,qd hi];generalize s.cols[i]=x at hk hcd hwd hfin ⊢
 simp only[tZ,↓un_u,simprocAttr,tD,AY,Ak];refine⟨oM,fun h2=>?_,fun h2=>⟨fun h3=>?_,fun h3=>?_⟩⟩
 ·rw[Aj h2];obtain⟨d1,d2⟩:=hcd h2;obtain⟨d3,d4⟩:=hk.2.2.2.1 h2;have hgl:s.lists.getD x.list.toNat default=s.lists[x.list.toNat]:=qg d1;rw[hgl] at d2 ⊢
  simp only[tZ,↓un_u,simprocAttr,qd d1];generalize s.lists[x.list.toNat]=l at d2 ⊢
  refine⟨oM,?_⟩;refine C1.im (YU l lev) rF rF ?_;rw[← jP1 d2];refine sW ?_;exact .oA [] []
 ·rw[Aq h2,Aj oM];exact .oA [] []
 rw[Aq h2,Aq oM];rw[Aq h2] at hfin;obtain⟨w1,w2,w3,w4,w5,w6,w7,_⟩:=hwd h2 lev oM;refine C1.im (yO x lev oM oM) rF rF ?_;generalize qE x lev=w at w1 w2 ⊢
 have h4:=Ys (v:=x.high) (w:=w) oM;have h5:=Ys (v:=x.low) (w:=w) oM;obtain⟨m,hm⟩:=AJ (show 0≤x.high-x.low by omega);have hab:=qS2 (a:=x.low) (k:=w) (m:=m) w1 oM;rw[show x.low+(m:Int)=x.high by omega] at hab;have wa:IntKind.i64.wrap (qJ x.high w*w-qJ x.low w*w)=qJ x.high w*w-qJ x.low w*w:=AK _ oM;have wb:(qJ x.high w*w-qJ x.low w*w).tdiv w=qJ x.high w-qJ x.low w:=by rw[← Int.sub_mul,Int.mul_tdiv_cancel _ oM]
 have wc:IntKind.i64.wrap (qJ x.high w-qJ x.low w)=qJ x.high w-qJ x.low w:=AK _ oM;have wd:IntKind.i64.wrap (qJ x.high w-qJ x.low w+1)=qJ x.high w-qJ x.low w+1:=AK _ oM;have we:IntKind.i64.wrap (qJ x.high w-qJ x.low w+1+1)=qJ x.high w-qJ x.low w+1+1:=AK _ oM;refine sW ?_;refine C1.im (kj x.high w oM oM) rF rF ?_;refine sW ?_;refine C1.im (kj x.low w oM oM) rF rF ?_;simp only[tZ,↓un_u,simprocAttr,wa,wb,wc,wd,we]
 repeat (first | refine⟨oM,?_⟩ | refine⟨kR,?_⟩)
 refine⟨fun h6=>?_,fun h6=>?_⟩
 ·rw[Aj h6];exact .oA [] []
 ·rw[Aq (by rw[h6];simp),Int.add_zero];exact .oA [] []
theorem zW3 {p:Nat→Bool} {N:Nat}:∀ (f n:Nat),n≤N→N-n<f→p N=true→(∀ m,n≤m→m<N→p m=false)→Zu p f n=N
 | 0,n,h1,h2,_,_=>by omega
 | f+1,n,h1,h2,h3,h4=>by
   rw[Zu];by_cases e:n=N
   ·subst e;rw[Aj h3]
   ·rw[Aq (by rw[h4 n (BZ _) oM];simp)];exact zW3 f (n+1) oM oM h3 fun m h5 h6=>h4 m oM h6
theorem qd9 (s:Sch) (hs:jI s) (c lev:Int):Spc Tryz.prog 134 [schT s,vI c,vI lev] [] (vI (jX s c lev)) []:=by
 refine sIr qN9 fun e _ hst=>?_;unfold Zi;refine sW ?_;refine C1.im (ZB s hs c) rF rF ?_;refine sD ?_;refine⟨fun h=>?_,fun h=>?_⟩
 ·rw[jX,Aj (Yr.2 oM)];exact .oA [] []
 rw[jX,Aq (by rw[Yr];omega)];obtain⟨hE,c1,c2,hfin⟩:=wW (s:=s) (c:=c) oM;have hfl:=qx2 (c:=c) hE;have hok:=qV hE;obtain⟨i,rfl⟩:=AJ (show 0≤c by omega);obtain⟨v,rfl⟩:=AJ (show 0≤lev by omega);simp only[Ax];have hi:i<s.cols.length:=by omega
 have key:∀ n,n≤v→blkI s i n=blkI s i v→(n=0∨blkI s i (n-1)≠blkI s i n)→Zu (fun n=>divB s i n v) 64 0=n:=fun n h1 h2 h3=>by
  refine zW3 64 0 oM oM ((zp9 hE hi oM h1 oM).2.2 h2) fun m _ hm=>?_;cases e:divB s i m v with
  | false=>rfl
  | true=>
    have e1:=(zp9 hE hi oM (show m≤v by omega) oM).2.1 e;have e2:=(zp9 hE hi oM (show m≤n-1 by omega) oM).1;have e3:=(zp9 hE hi oM (show n-1≤n by omega) oM).1;omega
 refine qk mixm (α:=Nat) [2,17] (fun n=>n≤v∧blkI s i n=blkI s i v) (fun n=>[(2,vI n)]) (fun n=>[(4096,.arr 2 [schT s] false)]) (fun n=>n) v ⟨oM,rfl⟩ ?_ fun n hn=>?_
 ·exact .oA [(4096,some 4096)] []
 obtain⟨n1,n2⟩:=hn;rcases DQ n with hz | hz
 ·subst hz;have e0:decide (((0:Nat):Int)>0)=false:=by decide
  simp only[tZ,↓un_u,simprocAttr,e0];refine C2.no (fun h=>h) ?_;refine sW ?_;refine C2.no (fun h=>h) ?_;refine sW ?_
  repeat (first | refine⟨oM,?_⟩ | refine⟨kR,?_⟩)
  rw[key 0 oM n2 (.inl rfl)];exact .oA [] []
 ·obtain⟨k,rfl⟩:∃ k,n=k+1:=⟨n-1,oM⟩;have e0:decide (((k+1:Nat):Int)>0)=true:=Cx oM;have e3:=zG (i:=k+1) oM oM;rw[Nat.add_sub_cancel] at e3;simp only[tZ,↓un_u,simprocAttr,e0,e3];refine C2.im (fun _=>Yz s hE i hi oM k oM) (fun _=>rfl) rF ?_;refine sW ?_;refine C2.im (fun _=>Yz s hE i hi oM (k+1) oM) (fun _=>rfl) rF ?_;simp only[tZ,↓un_u,simprocAttr,AY,Ak,e3]
  repeat (first | refine⟨oM,?_⟩ | refine⟨kR,?_⟩)
  refine⟨fun h5=>?_,fun h5=>?_⟩
  ·refine⟨k,⟨oM,oM⟩,oM,?_⟩;exact .oA [(4096,some 4096)] []
  ·rw[key (k+1) oM n2 (.inr h5)];exact .oA [] []
end Go.Proofs
