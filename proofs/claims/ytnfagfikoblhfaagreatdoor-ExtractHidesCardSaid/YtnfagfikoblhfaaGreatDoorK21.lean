/- A part of the proof: trees of Go values, short forms, contracts. -/
import Derived.WalkKit
import Derived.Still
import Derived.MapKept
import GoSem.Builtin.Cap
import Derived.Laws.Externs
import GoSem.Extern.SlicesOverlaps
import Derived.Carry
import Derived.ProofKit
import Derived.OpenShut
import Derived.HandedShaped
import Derived.Lay
import Derived.LaidLaws
import Derived.MakeChecks
import Derived.SevenTiedAt
import Derived.Test.YtnfagfikoblhfaaGreatDoorChecked
import Derived.Test.YtnfagfikoblhfaaGreatDoorK20
set_option linter.unusedSimpArgs false
set_option linter.unusedVariables false
namespace Go.Proofs
open Go Go.TL
set_option maxRecDepth 4000
set_option maxHeartbeats 8000000
theorem qZ6 {cs:List Cod}:∀ {n:Nat} {v:Int},lvs cs n=some v→∀ j,j<n→qA2 cs j=true→(dep cs j:Int)=v
 | 0,_,_,j,h,_=>by omega
 | n+1,v,h,j,hj,hl=>by
   rw[qZ4] at h;cases e:lvs cs n with
   | none=>rw[e] at h;cases h
   | some w=>
     rw[e] at h;have ih:=fun k hk h2=>qZ6 e k hk h2;unfold lvS at h;dsimp only at h;split at h
     ·split at h
      ·cases h
      ·rename_i h2;have hv:(dep cs n:Int)=v:=by simpa using h
       by_cases e2:j=n
       ·rw[e2];exact hv
       ·have:=ih j (by omega) hl;omega
     ·rename_i h2;have hv:w=v:=by simpa using h
      by_cases e2:j=n
      ·rw[e2] at hl;exact absurd hl h2
      ·have:=ih j (by omega) hl;omega
theorem zG4 {cs:List Cod} {c:Nat}:qA2 cs c=true↔∀ i,i<cs.length→parC cs i≠c:=by
 unfold qA2;rw[Bx,List.any_eq_false];constructor
 ·intro h i hi e;have:=h cs[i] (AX hi);rw[parC,cdAt,qh hi] at e;simp [e] at this
 ·intro h x hx;obtain⟨i,hi,rfl⟩:=CX hx;have:=h i hi;rw[parC,cdAt,qh hi] at this;simpa using this
theorem jV2 {l:CodL} (h:lstE l=0):∃ v,lvs l.codes l.codes.length=some v:=by
 unfold lstE at h;split at h
 ·cases h
 ·split at h
  ·cases h
  ·split at h
   ·cases h
   ·split at h
    ·rename_i h2;exact absurd h h2
    ·split at h
     ·cases h
     ·rename_i v e;exact⟨v,e⟩
theorem jb8 {l:CodL} (h:lstE l=0) {c:Nat} (hc:c<l.codes.length):(dep l.codes c:Int)≤zh l-1∧(qA2 l.codes c=true→(dep l.codes c:Int)=zh l-1)∧(qA2 l.codes c=false→(dep l.codes c:Int)<zh l-1):=by
 obtain⟨hp,h1,h2⟩:=zg h;obtain⟨v,hv⟩:=jV2 h;have hlast:qA2 l.codes (l.codes.length-1)=true:=zG4.2 fun i hi e=>by
  have:=(hp i hi).2;omega
 have hlv:=qZ6 hv (l.codes.length-1) (by omega) hlast;have hL:zh l-1=v:=by rw[zh,Aq (by rw[h];simp)];omega
 have hall:∀ k c,l.codes.length-c=k→c<l.codes.length→(dep l.codes c:Int)≤v∧(qA2 l.codes c=false→(dep l.codes c:Int)<v):=by
  intro k
  induction k using Nat.strongRecOn with
  | _ k ih=>
    intro c hk hc;cases hl:qA2 l.codes c with
    | true=>
      have:=qZ6 hv c hc hl;exact⟨by omega,fun e=>by cases e⟩
    | false=>
      have hn:¬ ∀ i,i<l.codes.length→parC l.codes i≠c:=fun k=>by rw[zG4.2 k] at hl;cases hl
      simp only[Classical.not_forall] at hn;obtain⟨i,hi,hn⟩:=hn;have hpc:parC l.codes i=c:=AQ hn;have h3:=hp i hi;have h4:=qO9 hp hi (by omega);rw[hpc,Ax] at h4;have h5:=ih (l.codes.length-i) (by omega) i rfl hi;have:=h5.1;exact⟨by omega,fun _=>by omega⟩
 have:=hall _ c rfl hc;rw[hL];exact⟨this.1,fun hl=>qZ6 hv c hc hl,this.2⟩
theorem jV3 {l:CodL} (h:lstE l=0) {c:Nat} (hc:c<l.codes.length):qA2 l.codes c=true↔(dep l.codes c:Int)=zh l-1:=by
 obtain⟨_,h2,h3⟩:=jb8 h hc;cases hl:qA2 l.codes c with
 | true=>exact⟨fun _=>h2 hl,fun _=>rfl⟩
 | false=>
   have:=h3 hl;exact⟨(by intro e;cases e),fun e=>by omega⟩
theorem qg7 (p:Cod→Bool) (f:FuncId) (caps:List T) (hcap:imL caps=true) (l:List Cod) (hf:∀ y∈l,Spc Tryz.prog f (codT y::caps) [] (vB (p y)) []) (hl:l.length<4611686018427387904) :
 Spc Tryz.prog kA [.sl 2 (l.map codT),.clo f caps] [] (vI (idxI p l)) []:=by
 refine qd qa4 mixm (by simp) fun e _ hst=>qg ?_;unfold ke;refine sW ?_;refine qu mixm (α:=Nat) [8] (fun i=>i≤l.length∧((l.take i).any p=false)) (fun i=>[(8,vI i)]) (fun i=>[]) (fun i=>l.length-i) 0 ⟨by omega,?_⟩ ?_ fun i hi=>?_
 ·simp
 ·exact .oA [] []
 simp only[tZ,↓un_u,simprocAttr,AZ,Ay];refine⟨fun h=>?_,fun h=>?_⟩
 ·have hi2:i<l.length:=by omega
  have hwi:=qj (i:=i) (by omega);simp only[tZ,↓un_u,simprocAttr,Ax,qe hi2,hwi,qw9];refine⟨by omega,?_⟩;refine C1.im (hf l[i] (AX hi2)) (YW rfl hcap) rfl ?_;refine sW ?_;refine⟨fun h3=>?_,fun h3=>⟨i+1,⟨by omega,ki hi2 hi.2 h3⟩,by omega,?_⟩⟩
  ·rw[idxI,Aj (zw2 hi2 h3),yX hi2 hi.2 h3];exact .imR rfl rfl
  ·exact .oA [] []
 ·have h2:i=l.length:=by omega
  have h3:=hi.2;rw[h2,Bw] at h3;rw[idxI,Aq (by rw[h3];simp)];exact .imR rfl rfl
theorem WI (p:Cod→Bool) (f:FuncId) (caps:List T) (hcap:imL caps=true) (l:List Cod) (hf:∀ y∈l,Spc Tryz.prog f (codT y::caps) [] (vB (p y)) []) (hl:l.length<4611686018427387904) :
 Spc Tryz.prog ju [.sl 2 (l.map codT),.clo f caps] [] (vB (l.any p)) []:=by
 refine qd Wk mixm (by simp) fun e _ hst=>qg ?_;unfold jn;refine sW ?_;refine C1.im (qg7 p f caps hcap l hf hl) (ZU rfl hcap) rfl ?_;refine sW ?_;rw[show decide (idxI p l≥0)=l.any p from zd4 p l];exact .imR rfl rfl
theorem zj3 (x:Cod) (v:Int):Spc Tryz.prog Qv [codT x,.ip [vI v]] [] (vB (x.par==v)) []:=by
 refine qd qW7 mixm (by simp) fun e _ hst=>qg ?_;unfold JN;refine sW ?_;exact .oA [] []
theorem jK0 {l:CodL} (h:lstE l=0) (v:Int):(decide (0≤v)&&decide (v<l.codes.length)&&!(l.codes.any fun x=>x.par==v))=(inB v 0 (l.codes.length-1)&&(lvlC l v==zh l-1)):=by
 unfold inB;by_cases h0:0≤v∧v<l.codes.length
 ·obtain⟨c,rfl⟩:=AJ h0.1;have hc:c<l.codes.length:=by omega
  have h1:lvlC l c=dep l.codes c:=by rw[lvlC,Aq (by rw[h];simp;omega),Ax]
  rw[Cx h0.1,Cx h0.2,Cx (show (c:Int)≤(l.codes.length:Int)-1 by omega),h1];simp only[Fq];rw[Bool.eq_iff_iff,AY,← jV3 h hc]
  rfl
 ·by_cases h1:0≤v
  ·rw[Cx h1,Cq (show ¬ v<l.codes.length by omega),Cq (show ¬ v≤(l.codes.length:Int)-1 by omega)]
   rfl
  ·rw[Cq h1]
   rfl
theorem qJ8 (s:Sch) (h:SchOk s) (i:Nat) (hi:i<s.cols.length) (v:Int):Spc Tryz.prog Kg [schT s,colT s.cols[i],vI v] [] (vB (jo s i v)) []:=by
 have hat:qk s i=s.cols[i]:=by rw[qk,qh hi]
 have hk:=za (h.cs i hi);have hcd:=fun e=>h.cdl hi e;have hE:jo s i v=if s.cols[i].kind=1 then inB v 1 1048575
  else if s.cols[i].kind=2 then inB v 0 ((qJ s i).codes.length-1)&&(lvlC (qJ s i) v==zh (qJ s i)-1)
  else (s.cols[i].opt&&(v==yk))||inB v s.cols[i].low s.cols[i].high:=by rw[jo,hat]
 have hcl:qJ s i=s.lists.getD s.cols[i].list.toNat default:=by rw[qJ,hat]
 rw[hat] at hk hcd;rw[hE];rw[hcl] at hcd ⊢
 generalize s.cols[i]=c at hk hcd ⊢
 refine qd zq2 mixm (by simp) fun e _ hst=>qg ?_;unfold Yx;refine sW ?_;simp only[tZ,↓un_u,simprocAttr,AY,Ak];refine⟨fun h1=>?_,fun h1=>⟨fun h2=>?_,fun h2=>?_⟩⟩
 ·rw[Aj h1,show inB v 1 1048575=(decide (1≤v)&&decide (v≤1048575)) from rfl];exact .oA [] []
 ·obtain⟨d1,d2⟩:=hcd h2;obtain⟨d3,d4⟩:=hk.2.2.2.1 h2;have hgl:s.lists.getD c.list.toNat default=s.lists[c.list.toNat]:=qh d1;rw[Aq h1,Aj h2];rw[hgl] at d2 ⊢
  obtain⟨_,d5,d6⟩:=zg d2;simp only[tZ,↓un_u,simprocAttr,qe d1];generalize s.lists[c.list.toNat]=l at d2 d5 d6 ⊢
  have hCF:=WI (fun x=>x.par==v) Qv [.ip [vI v]] rfl l.codes (fun x _=>zj3 x v) (by omega);refine⟨by omega,?_⟩;refine C2.lend [4104] (fun _=>hCF) (fun _=>?_) (by rfl) (by rfl) ?_
  ·all_goals (try simp only[tL,simprocAttr,By,List.map_cons,List.map_nil,BW,Cy])
   all_goals (try (repeat' (first | exact zb | (apply zy;intro _;exact⟨rfl,rfl⟩) | (apply qE;intro _;exact⟨rfl,rfl⟩) | with_reducible apply qW | with_reducible refine qS ⟨rfl,rfl⟩ ?_ | exact qY | with_reducible apply qT | with_reducible refine qV ⟨rfl,rfl,?_⟩ ?_ | with_reducible apply Az | exact qU rfl | exact qU (by assumption) | (refine⟨⟨?_,rfl,?_,rfl,?_⟩,trivial⟩ <;> first | (simp;done) | (apply qE;intro _;exact⟨rfl,rfl⟩)) | trivial | rfl | (rw[qj (by omega)]) | omega)))
   simp only[ltP];exact⟨rfl,by decide,rfl,qS ⟨rfl,rfl⟩ qY⟩
  refine sW ?_;rw[← jK0 d2 v];exact .oA [] []
 ·rw[Aq h1,Aq h2,Bool.or_comm,show inB v c.low c.high=(decide (c.low≤v)&&decide (v≤c.high)) from rfl];rw[show (c.opt&&v==yk)=(c.opt&&v == -1099511627776) from rfl];exact .oA [] []
theorem zG5 (s:Sch) (h0:schE s=0) (row:List Int) (hr:row.length<4611686018427387904):Spc Tryz.prog qd0 [schT s,vIs row] [] (vB (rowE s row==0)) []:=by
 have hok:=qR h0;have hnc:=hok.nc;refine qd zp8 mixm (by simp) fun e _ hst=>qg ?_;unfold Yv;simp only[tZ,↓un_u,simprocAttr,tD,Bj,Aw];refine⟨fun h2=>?_,fun h2=>?_⟩
 ·have:rowE s row=9:=by rw[rowE,Aq (by rw[h0];simp),Aj (by omega)]
  rw[this];exact .oA [] []
 refine qu mixm (α:=Nat) [16] (fun i=>i≤s.cols.length∧(∀ j,j<i→jo s j (row.getD j 0)=true)) (fun i=>[(16,vI i)]) (fun i=>[(4096,.arr 2 [schT s] false)]) (fun i=>s.cols.length-i) 0 ⟨by omega,?_⟩ ?_ fun i hi=>?_
 ·intro j hj;omega
 ·exact .oA [(4096,some 4096)] []
 simp only[tZ,↓un_u,simprocAttr,AZ,Ay];refine⟨fun h=>?_,fun h=>?_⟩
 ·have hi2:i<s.cols.length:=by omega
  have hi3:i<row.length:=by omega
  have hwi:=qj (i:=i) (by omega);have hF:=qJ8 s hok i hi2 row[i];simp only[tZ,↓un_u,simprocAttr,Ax,qe hi2,qe hi3,hwi];refine⟨by omega,by omega,?_⟩;refine C1.im hF (by rfl) (by rfl) ?_;simp only[tZ,↓un_u,simprocAttr,Bx,Bz];refine⟨by kernel_rfl,fun h3=>?_,fun h3=>?_⟩
  ·rw[jm2 h0 (by omega) hi3 h3];exact .oA [] []
  ·refine⟨i+1,⟨by omega,fun j hj=>?_⟩,by omega,?_⟩
   ·by_cases e:j=i
    ·rw[e,qh hi3];exact h3
    ·exact hi.2 j (by omega)
   ·exact .oA [(4096,some 4096)] []
 ·have hil:i=s.cols.length:=by omega
  rw[zD9 h0 (by omega) (fun j hj=>hi.2 j (by omega))];exact .oA [] []
end Go.Proofs
namespace Go.Proofs
open Go Go.TL
def ordB (l:List (List Int)):Bool:=(List.range l.length).all fun i=>decide (0<(l.getD i []).length)&&(decide (i=0)||decide (hd (l.getD (i-1) [])<hd (l.getD i [])))
def hasK (l:List (List Int)) (k:Int):Bool:=l.any fun r=>hd r==k
def appR (a:List (List Int)) (g:List Int) (rs:List (List Int)):List (List Int):=rs.foldl putR (a.filter fun r=>!g.contains (hd r))
theorem jn5 {a b:List (List Int)} (ha:AscR a) (hb:AscR b) (h:∀ r,r∈a↔r∈b):a=b:=by
 refine So.srt_uniq (lt:=fun x y=>decide (hd x<hd y)) ⟨fun x y h=>?_,fun x y z h1 h2=>?_⟩ (ha.imp fun h=>Cx h) (hb.imp fun h=>Cx h) h
 ·simp only[AZ] at h;exact Cq (by omega)
 ·simp only[Ay] at h1 h2 ⊢
  omega
theorem kh0 {l:List (List Int)} (h:AscR l) {r s:List Int} (hr:r∈l) (hs:s∈l) (e:hd r=hd s):r=s:=by
 obtain⟨i,hi,rfl⟩:=CX hr;obtain⟨j,hj,rfl⟩:=CX hs;have hp:=DX.1 h;by_cases h1:i<j
 ·have:=hp i j hi hj h1;omega
 ·by_cases h2:j<i
  ·have:=hp j i hj hi h2;omega
  ·have:i=j:=by omega
   subst this;rfl
def ascI (l:List Int):Bool:=(List.range l.length).all fun i=>asc2 l i
def appE (a:Ext) (c:Chg):Int:=
 if ordB a.rows=false∨ordB c.rows=false∨ascI c.gone=false∨(c.rows.any fun r=>decide (r.length≠a.picks.length+1))=true then 11
 else if (c.gone.any fun k=>!hasK a.rows k)=true then 21 else if (c.gone.any fun k=>hasK c.rows k)=true then 10 else 0
structure ExtOk (x:Ext):Prop where
 ord:ordB x.rows=true
 len:∀ r∈x.rows,r.length=x.picks.length+1
end Go.Proofs
namespace Go.Proofs
open Go Go.TL
set_option maxRecDepth 4000
set_option maxHeartbeats 8000000
open So
def RwSm (l:List (List Int)):Prop:=l.length≤1000000∧∀ r∈l,r.length*8≤140737488355328
structure ExtSm (x:Ext):Prop where
 rows:RwSm x.rows
 picks:x.picks.length*16≤140737488355328
structure ChgSm (c:Chg):Prop where
 rows:RwSm c.rows
 gone:c.gone.length≤1000000
end Go.Proofs
namespace Go.Proofs
open Go Go.TL
set_option maxHeartbeats 8000000
open So
theorem qJ9 (l:List Int) (hl:l.length*8≤140737488355328):Spc Tryz.prog Qp [vIs l] [] (vIs l) []:=by
 refine qd qy6 mixm (by simp) fun e _ hst=>qg ?_;unfold yK;refine sW ?_;refine⟨fun h=>?_,?_⟩
 ·have:l=[]:=by
   simpa using h
  subst this;exact .oA [] []
 ·refine⟨by omega,?_⟩;exact .oA [] [16384]
theorem Wv (l:List Pk) (hl:l.length*16≤140737488355328):Spc Tryz.prog kp [vPs l] [] (vPs l) []:=by
 refine qd qt4 mixm (by simp) fun e _ hst=>qg ?_;unfold ya;refine sW ?_;refine⟨fun h=>?_,?_⟩
 ·have:l=[]:=by
   simpa using h
  subst this;exact .oA [] []
 ·refine⟨by omega,?_⟩;exact .oA [] [16384]
def idxN (n:Int):List Int→Nat
 | []=>0
 | x::r=>if x=n then 0 else idxN n r+1
theorem jK1 {n:Int}:∀ {l:List Int} {i:Nat} (h:i<l.length),n∉l.take i→l[i]=n→idxN n l=i
 | [],i,h,_,_=>by simp at h
 | x::r,0,h,_,hp=>by simp at hp;simp [idxN,hp]
 | x::r,i+1,h,h1,hp=>by
   simp only[List.take_succ_cons,Ck,not_or] at h1;simp only[idxN];rw[Aq (fun e=>h1.1 e.symm),jK1 (l:=r) (i:=i) (by simpa using h) h1.2 (by simpa using hp)]
def jn6 (l:List Int) (n:Int):Int:=if n∈l then idxN n l else -1
theorem qK0 (l:List Int) (n:Int) (hl:l.length<4611686018427387904):Spc Tryz.prog Qt [vIs l,vI n] [] (vI (jn6 l n)) []:=by
 refine qd qz3 mixm (by simp) fun e _ hst=>qg ?_;unfold yN;refine sW ?_;refine qu mixm (α:=Nat) [8] (fun i=>i≤l.length∧(n∉l.take i)) (fun i=>[(8,vI i)]) (fun i=>[]) (fun i=>l.length-i) 0 ⟨by omega,?_⟩ ?_ fun i hi=>?_
 ·simp
 ·exact .oA [] []
 simp only[tZ,↓un_u,simprocAttr,AZ,Ay];refine⟨fun h=>?_,fun h=>?_⟩
 ·have hi2:i<l.length:=by omega
  have hwi:=qj (i:=i) (by omega);simp only[tZ,↓un_u,simprocAttr,Ax,qe hi2,hwi,AY,Ak];refine⟨by omega,fun h3=>?_,fun h3=>⟨i+1,⟨by omega,?_⟩,by omega,?_⟩⟩
  ·have hm:n∈l:=by rw[h3];exact AX hi2
   rw[jn6,Aj hm,jK1 hi2 hi.2 h3.symm];exact .imR rfl rfl
  ·rw[qH hi2,Dz];rintro (h4 | h4)
   ·exact hi.2 h4
   ·simp at h4;exact h3 h4
  ·exact .oA [] []
 ·have h2:i=l.length:=by omega
  have h3:=hi.2;rw[h2,Bw] at h3;rw[jn6,Aq h3];exact .imR rfl rfl
theorem wA (l:List Int) (n:Int) (hl:l.length<4611686018427387904):Spc Tryz.prog zH [vIs l,vI n] [] (vB (l.contains n)) []:=by
 refine qd qi1 mixm (by simp) fun e _ hst=>qg ?_;unfold kQ;refine sW ?_;refine C1.im (qK0 l n hl) rfl (by rfl) ?_;refine sW ?_;refine .imR ?_ rfl;unfold jn6;by_cases h:n∈l
 ·rw[Aj h,FQ.2 h];simp
 ·rw[Aq h];cases hc:l.contains n
  ·simp
  ·exact absurd (FQ.1 hc) h
end Go.Proofs
namespace Go.Proofs
open Go Go.TL
set_option maxRecDepth 4000
set_option maxHeartbeats 8000000
end Go.Proofs
namespace Go.Proofs
open Go Go.TL
open Go.TL.So
theorem jK2 (n:Int):Spc Tryz.prog Qy [vI n] [] (vB false) []:=by
 refine qd qX3 mixm (by simp) fun e _ hst=>qg ?_;unfold JS;simp only[tZ,↓un_u,simprocAttr,bne_self_eq_false];exact .oA [] []
theorem zs6 (a b:Int):Spc Tryz.prog WV [vI a,vI b] [] (vB (ltI a b)) []:=by
 refine qd zg4 mixm (by simp) fun e _ hst=>qg ?_;unfold Wh;refine sW ?_;refine C1.im (jK2 a) (by rfl) (by rfl) ?_;refine sW ?_;refine C2.no (by simp) ?_;refine sW ?_;exact .oA [] []
end Go.Proofs
namespace Go.Proofs
open Go Go.TL
set_option maxRecDepth 4000
set_option maxHeartbeats 8000000
structure RwId (l:List (List Int)):Prop where
 asc:AscR l
 pos:∀ r∈l,0<r.length
 ids:∀ r∈l,1≤hd r∧hd r≤1048575
 len:l.length≤1000
open So
theorem WR (n:Int):Spc Tryz.prog kV [vI n] [] (vB false) []:=by
 refine qd qz7 mixm (by simp) fun e _ hst=>qg ?_;unfold yO;simp only[tZ,↓un_u,simprocAttr,bne_self_eq_false];exact .oA [] []
theorem jK3 {x y:T}:jS0 (some (.v undef)) (some x) (some y)=none:=_root_.id rfl
def insN (l:List Int) (n:Int):Nat:=l.findIdx fun y=>decide (n≤y)
theorem YR (l:List Int) (n:Int) (h:l.Pairwise fun a b=>a<b) (hl:l.length<4611686018427387904):Spc Tryz.prog jK [vIs l,vI n] [] (.tup [vI (insN l n),vB (l.contains n)]) []:=by
 have hp:=DX.1 h;refine qd WE mixm (by simp) fun e _ hst=>qg ?_;unfold jv;refine sW ?_;refine qu mixm (α:=Nat×Nat) [7,8] (fun p=>p.1≤p.2∧p.2≤l.length∧(∀ (m:Nat) (h:m<l.length),m<p.1→l[m]<n)∧(∀ (m:Nat) (h:m<l.length),p.2≤m→¬ l[m]<n)) (fun p=>[(7,vI p.1),(8,vI p.2)]) (fun p=>[]) (fun p=>p.2-p.1) (0,l.length) ?_ ?_ fun p hp=>?_
 ·exact⟨by simp,by simp,fun m h h2=>absurd h2 (by simp),fun m h h2=>absurd h2 (by simp only;omega)⟩
 ·exact .oA [] []
 obtain⟨i,j⟩:=p;obtain⟨h1,h2,h3,h4⟩:=hp;dsimp only at h1 h2 h3 h4;simp only[tZ,↓un_u,simprocAttr,AZ,Ay];refine⟨fun h5=>?_,fun h5=>?_⟩
 ·have hij:i<j:=by omega
  obtain⟨h,hh,hhi,hhj⟩:∃ h:Nat,h=(i+j) / 2∧i≤h∧h<j:=⟨(i+j) / 2,rfl,by omega,by omega⟩;have hw1:IntKind.i64.wrap ((i:Int)+(j:Int))=((i+j:Nat):Int):=by rw[AK _ (by omega)];omega
  have hw2:IntKind.u64.wrap ((i+j:Nat):Int)=((i+j:Nat):Int):=IntWalk.u64_in _ (by omega);have hw3:shrI .u64 ((i+j:Nat):Int) 1=(h:Int):=by
   simp only[shrI];rw[show (min (1:Int).toNat IntKind.u64.bits)=1 from rfl,DW _ (by decide)];omega
  have hw4:IntKind.i64.wrap (h:Int)=(h:Int):=AK _ (by omega);have hlt:h<l.length:=by omega
  have hws:=qj (i:=h) (by omega);have hcall:=zs6 l[h] n;simp only[tZ,↓un_u,simprocAttr,hw1,hw2,hw3,hw4,Ax,qe hlt];refine⟨by omega,?_⟩;refine C1.im hcall (by rfl) (by rfl) ?_;simp only[tZ,↓un_u,simprocAttr,AZ,Ay,hws,ltI];refine⟨fun h6=>?_,fun h6=>?_⟩
  ·refine⟨(h+1,j),⟨by simp only;omega,h2,fun m hm1 hm2=>?_,h4⟩,by simp only;omega,?_⟩
   ·by_cases hmh:m=h
    ·subst hmh;exact h6
    ·have:=hp m h hm1 hlt (by simp only at hm2;omega);omega
   ·exact .oA [] []
  ·refine⟨(i,h),⟨by simp only;omega,by simp only;omega,h3,fun m hm1 hm2 hm3=>?_⟩,by simp only;omega,?_⟩
   ·by_cases hmh:m=h
    ·subst hmh;exact h6 hm3
    ·have:=hp h m hlt hm1 (by simp only at hm2;omega);omega
   ·exact .oA [] []
 ·have hij:i=j:=by omega
  subst hij;have hfi:insN l n=i:=by
   unfold insN;by_cases hil:i<l.length
   ·refine yX hil ?_ (by have:=h4 i hil (BZ _);simp;omega);rw[List.any_eq_false];intro y hy;obtain⟨m,hm1,rfl⟩:=CX hy;rw[Cz] at hm1;rw[Fy];have:=h3 m (by omega) (by omega);simp;omega
   ·have:i=l.length:=by omega
    subst this;rw[List.findIdx_eq_length];intro y hy;obtain⟨m,hm1,rfl⟩:=CX hy;have:=h3 m hm1 hm1;simp;omega
  rw[hfi];by_cases hil:i<l.length
  ·have hg:decide ((i:Int)<(l.length:Int))=true:=by simp;omega
   have hct:l.contains n=(l[i]==n):=by
    rw[Bool.eq_iff_iff,FQ,AY];constructor
    ·intro hm;obtain⟨m,hm1,rfl⟩:=CX hm;by_cases c1:m<i
     ·have:=h3 m hm1 c1;omega
     ·by_cases c2:i<m
      ·have:=hp i m hil hm1 c2;have:=h4 i hil (BZ _);omega
      ·have:i=m:=by omega
       subst this;rfl
    ·intro e;rw[← e];exact AX hil
   rw[hct];have hnn:=WR l[i];simp only[tZ,↓un_u,simprocAttr,hg,Ax,qe hil];refine⟨fun _=>by omega,fun _=>by omega,?_⟩;refine C2.im (fun _=>hnn) (fun _=>rfl) (by rfl) ?_;refine sW ?_;refine C2.im (fun _=>WR n) (fun _=>rfl) (by rfl) ?_;refine sW ?_;exact .oA [] []
  ·have hg:decide ((i:Int)<(l.length:Int))=false:=by simp;omega
   have hct:l.contains n=false:=by
    cases e:l.contains n with
    | false=>rfl
    | true=>
      obtain⟨m,hm1,rfl⟩:=CX (FQ.1 e);have:=h3 m hm1 (by omega);omega
   rw[hct];have hj:(l.map vI).getD i T.junk=T.junk:=by rw[CY,List.getElem?_eq_none (by rw[BY];omega)];rfl
   simp only[tZ,↓un_u,simprocAttr,hg,Ax,hj];refine⟨fun h=>by omega,by omega,?_⟩;simp only[tZ,↓un_u,simprocAttr,hg,je3];refine C2.no (fun h=>h) ?_;simp only[tZ,↓un_u,simprocAttr,hg,je3];refine C2.no (fun h=>h) ?_;simp only[tZ,↓un_u,simprocAttr,hg,je3,jK3,zz3,not_false_eq_true,true_and];exact .oA [] []
end Go.Proofs
namespace Go.Proofs
open Go Go.TL
set_option maxRecDepth 4000
set_option maxHeartbeats 8000000
theorem zj4 {s:Src} (h:SrcOk s→False):srcB s=false:=by
 cases e:srcB s with
 | false=>rfl
 | true=>exact (h (qp4.1 e)).elim
theorem qw0 (s:Src) (hn:s.sch.cols.length<4611686018427387904) (hl:s.sch.lists.length<4611686018427387904) (hr:∀ r∈s.rows,r.length<4611686018427387904):Spc Tryz.prog ZW [srcT s] [] (vB (srcB s)) []:=by
 have hC:=jd s.sch hn hl;refine qd ze7 mixm (by simp) fun e _ hst=>qg ?_;unfold KV;refine sW ?_;refine C1.im hC (by rfl) (by rfl) ?_;simp only[tZ,↓un_u,simprocAttr,tD,Bj,Aw];refine⟨fun h=>?_,fun h=>?_⟩
 ·rw[zj4 fun k=>by have h1:=k.sch;have h2:=k.nr;have h3:=k.ng;have h4:=k.ver;omega];exact .oA [] []
 refine qu mixm (α:=Nat) [38] (fun i=>i≤s.gone.length∧∀ j,j<i→(1≤s.gone.getD j 0∧s.gone.getD j 0≤1048575)∧asc2 s.gone j=true) (fun i=>[(38,vI i)]) (fun i=>[(4096,.arr 5 [srcT s] false)]) (fun i=>s.gone.length-i) 0 ⟨by omega,fun j h=>by omega⟩ ?_ fun i hi=>?_
 ·exact .oA [(4096,some 4096)] []
 obtain⟨i1,i2⟩:=hi;refine sD ?_;refine⟨fun h2=>?_,fun h2=>?_⟩
 ·have hi2:i<s.gone.length:=by omega
  have hwi:=qj (i:=i) (by omega);have hg:s.gone.getD i 0=s.gone[i]:=qh hi2;obtain⟨k,hk1,hk2,hk3⟩:∃ k:Nat,(IntKind.i64.wrap ((i:Int)-1)).toNat=k∧k<s.gone.length∧(i=0∧k=0∨0<i∧k+1=i∧IntKind.i64.wrap ((i:Int)-1)=k):=by
   rcases DQ i with h0 | h0
   ·subst h0;exact⟨0,by decide,hi2,.inl ⟨rfl,rfl⟩⟩
   ·have e:=jp h0 (show i<4611686018427387904 by omega);exact⟨i-1,by rw[e];omega,by omega,.inr ⟨h0,by omega,e⟩⟩
  have hgq:s.gone.getD k 0=s.gone[k]:=qh hk2;simp only[tZ,↓un_u,simprocAttr,Ax,qe hi2,hk1,qe hk2,hwi,gt_iff_lt,tD];refine⟨by omega,fun _=>by omega,fun h3=>?_,fun h3=>?_⟩
  ·rw[zj4 fun w=>by
    have h4:=w.gone _ (AX hi2);rcases hk3 with⟨h5,_⟩ | ⟨h5,h6,_⟩
    ·omega
    ·have h7:=DX.1 w.gasc k i hk2 hi2 (by omega);omega]
   exact .oA [] []
  ·refine⟨i+1,⟨by omega,fun j hj=>?_⟩,by omega,?_⟩
   ·by_cases e:j=i
    ·subst e;rw[hg];refine⟨by omega,?_⟩;unfold asc2;rw[DZ,AZ,AZ];rcases hk3 with⟨h5,_⟩ | ⟨h5,h6,_⟩
     ·exact .inl h5
     ·rw[hg,show j-1=k by omega,hgq];omega
    ·exact i2 j (by omega)
   ·exact .oA [(4096,some 4096)] []
 have hil:i=s.gone.length:=by omega
 subst hil;have hgasc:s.gone.Pairwise fun a b=>a<b:=by
  refine js1 (f:=fun x:Int=>x) fun i h0 hi=>?_;have:=(i2 i hi).2;unfold asc2 at this;simp only[DZ,AZ] at this;exact this.resolve_left (by omega)
 have hgin:∀ g∈s.gone,1≤g∧g≤1048575:=fun g hg=>by
  obtain⟨j,hj,rfl⟩:=CX hg;have:=(i2 j hj).1
  rwa [show s.gone.getD j 0=s.gone[j] from qh hj] at this
 have h0:schE s.sch=0:=by omega
 have hok:=qR h0;have hnc:=hok.nc;refine qu mixm (α:=Nat) [67] (fun i=>i≤s.rows.length∧∀ j,j<i→rowE s.sch (s.rows.getD j default)=0∧(0<j→hd (s.rows.getD (j-1) default)<hd (s.rows.getD j default))∧s.gone.contains (hd (s.rows.getD j default))=false) (fun i=>[(67,vI i)]) (fun i=>[(4096,.arr 5 [srcT s] false)]) (fun i=>s.rows.length-i) 0 ⟨by omega,fun j h=>by omega⟩ ?_ fun i hi=>?_
 ·exact .oA [(4096,some 4096)] []
 obtain⟨j1,j2⟩:=hi;refine sD ?_;refine⟨fun h2=>?_,fun h2=>?_⟩
 ·have hi2:i<s.rows.length:=by omega
  have hwi:=qj (i:=i) (by omega);have hg:s.rows.getD i default=s.rows[i]:=qh hi2;have hF:=zG5 s.sch h0 s.rows[i] (hr _ (AX hi2));have hB:=YR s.gone (hd s.rows[i]) hgasc (by omega);simp only[tZ,↓un_u,simprocAttr,Ax,qe hi2];refine⟨by omega,?_⟩;obtain⟨k,hk1,hk2,hk3⟩:∃ k:Nat,(IntKind.i64.wrap ((i:Int)-1)).toNat=k∧k<s.rows.length∧(i=0∧k=0∨0<i∧k+1=i∧IntKind.i64.wrap ((i:Int)-1)=k):=by
   rcases DQ i with h0 | h0
   ·subst h0;exact⟨0,by decide,hi2,.inl ⟨rfl,rfl⟩⟩
   ·have e:=jp h0 (show i<4611686018427387904 by omega);exact⟨i-1,by rw[e];omega,by omega,.inr ⟨h0,by omega,e⟩⟩
  by_cases hp:0<s.rows[i].length
  ·have hgi:=zZ hp;have hgk:s.rows.getD k default=s.rows[k]:=qh hk2;have hpk:0<s.rows[k].length:=by
    rcases hk3 with⟨rfl,rfl⟩ | ⟨h5,h6,_⟩
    ·exact hp
    ·have:=(j2 k (by omega)).1;rw[hgk] at this;exact QZ this
   have hgi2:=zZ hpk;refine C1.im hF (by rfl) (by rfl) ?_;simp only[tZ,↓un_u,simprocAttr,Ax,hk1,qe hk2,hgi,hgi2,tD,gt_iff_lt,Bx,Bz,AY,Ak];refine⟨fun _=>by omega,fun _=>by omega,fun _=>by omega,by kernel_rfl,fun h3=>?_,fun h3=>?_⟩
   ·rw[zj4 fun w=>by
     have h4:=w.rows _ (AX hi2);rcases hk3 with⟨h5,_⟩ | ⟨h5,h6,_⟩
     ·omega
     ·have h7:=DX.1 w.asc k i hk2 hi2 (by omega);omega]
    exact .oA [] []
   have hE:rowE s.sch s.rows[i]=0:=h3.1;refine⟨by omega,?_⟩;refine C1.im hB (by rfl) (by rfl) ?_;refine sW ?_;refine⟨by kernel_rfl,fun h8=>?_,fun h8=>?_⟩
   ·rw[zj4 fun w=>by
     have h4:=(w.gone _ (FQ.1 h8)).2.2;have h5:=zU1.1 h4 _ (AX hi2);rw[jn0 hE] at h5;simp at h5]
    exact .oA [] []
   ·simp only[tZ,↓un_u,simprocAttr,hwi];refine⟨i+1,⟨by omega,fun j hj=>?_⟩,by omega,?_⟩
    ·by_cases e:j=i
     ·subst e;rw[hg];refine⟨hE,fun h0=>?_,h8⟩;rcases hk3 with⟨h5,_⟩ | ⟨h5,h6,_⟩
      ·omega
      ·rw[show j-1=k by omega,hgk];omega
     ·exact j2 j (by omega)
    ·exact .oA [(4096,some 4096)] []
  ·have hv:(rowE s.sch s.rows[i]==0)=false:=Ak.2 fun e=>hp (QZ e);have hn:s.rows[i]=[]:=Dy.1 (by omega);rw[hv,hn] at hF;rw[hn];refine C1.im hF (by rfl) (by rfl) ?_;simp only[tZ,↓un_u,simprocAttr,Ax,hk1,qe hk2,je3,jK3,zz3,not_false_eq_true,true_and];refine⟨by kernel_rfl,?_⟩;rw[zj4 fun w=>hp (QZ (w.rows _ (AX hi2)))];exact .oA [] []
 ·have hil:i=s.rows.length:=by omega
  subst hil;have hk:SrcOk s:=by
   refine⟨h0,by omega,by omega,by omega,fun r hr=>?_,?_,fun g hg=>?_,hgasc⟩
   ·obtain⟨j,hj,rfl⟩:=CX hr;have:=(j2 j hj).1
    rwa [show s.rows.getD j default=s.rows[j] from qh hj] at this
   ·exact js1 (f:=hd) fun i h0 hi=>(j2 i hi).2.1 h0
   ·obtain⟨g1,g2⟩:=hgin g hg;refine⟨g1,g2,zU1.2 fun r hr=>?_⟩;obtain⟨j,hj,rfl⟩:=CX hr;have h4:=j2 j hj;rw[show s.rows.getD j default=s.rows[j] from qh hj] at h4;rw[jn0 h4.1];cases e:hd s.rows[j]==g with
    | false=>rfl
    | true=>
      rw[AY] at e;rw[e,FQ.2 hg] at h4;cases h4.2.2
  rw[qp4.2 hk];exact .oA [] []
end Go.Proofs
namespace Go.Proofs
open Go Go.TL
set_option maxRecDepth 4000
set_option maxHeartbeats 8000000
theorem qX9 (l:List Int) (m:Int) (hm:m∈l) (hle:∀ x∈l,x≤m) (hl:l.length<4611686018427387904):Spc Tryz.prog Ju [vIs l] [] (vI m) []:=by
 have h0:0<l.length:=List.length_pos_of_mem hm;have e0:decide ((l.length:Int)<1)=false:=Cq (by omega);refine qd qO8 mixm (by simp) fun e _ hst=>qg ?_;unfold ZN;simp only[tZ,↓un_u,simprocAttr,e0,qe h0];refine⟨by omega,?_⟩;refine qu mixm (α:=Nat×Int) [3,4] (fun q=>1≤q.1∧q.1≤l.length∧q.2∈l∧∀ x∈l.take q.1,x≤q.2) (fun q=>[(3,vI q.2),(4,vI q.1)]) (fun q=>[]) (fun q=>l.length-q.1) (1,l[0]) ⟨by simp,by dsimp only;omega,AX h0,fun x hx=>by
  rw[show l.take 1=[l[0]] by cases l with | nil=>simp at h0 | cons a r=>rfl,Ey] at hx;rw[hx];exact Int.le_refl _⟩ ?_ fun q hq=>?_
 ·exact .oA [] []
 obtain⟨i,v⟩:=q;obtain⟨i0,i1,i2,i3⟩:=hq;dsimp only at i0 i1 i2 i3;refine sD ?_;refine⟨fun h2=>?_,fun h2=>?_⟩
 ·have hi2:i<l.length:=by omega
  have hwi:=qj (i:=i) (by omega);simp only[tZ,↓un_u,simprocAttr,Ax,qe hi2,hwi];refine⟨by omega,(i+1,maxI v l[i]),⟨by dsimp only;omega,by dsimp only;omega,?_,fun x hx=>?_⟩,by dsimp only;omega,?_⟩
  ·dsimp only[maxI];split
   ·exact AX hi2
   ·exact i2
  ·dsimp only at hx;dsimp only[maxI];rw[qH hi2] at hx;rcases Dz.1 hx with k | k
   ·have:=i3 x k;split <;> omega
   ·rw[Ey.1 k];split <;> omega
  ·exact .oA [] []
 ·have hv:v=m:=by
   have h5:=hle v i2;have h6:=i3 m (by rw[List.take_of_length_le (by omega)];exact hm);omega
  rw[hv];exact .oA [] []
theorem ZZ (l:CodL):Spc Tryz.prog kK [cdlT l] [] (vI (zh l)) []:=by
 refine qd zh0 mixm (by simp) fun e _ hst=>qg ?_;unfold Wm;refine sW ?_;refine C1.im (Ks l) (by rfl) (by rfl) ?_;simp only[tZ,↓un_u,simprocAttr,Bj,Aw];refine⟨fun h=>?_,fun h=>?_⟩
 ·rw[zh,Aj h];exact .oA [] []
 obtain⟨hp,h1,h2⟩:=zg h;have hdl:=qr7 l.codes;have hL:zh l=(dep l.codes (l.codes.length-1):Int)+1:=by rw[zh,Aq (by rw[h];simp)]
 have hd:=qS9 hp (l.codes.length-1) (by omega);have hM:=qX9 (depL l.codes) (dep l.codes (l.codes.length-1)) (Cj.2 ⟨l.codes.length-1,Dk.2 (by omega),rfl⟩) (fun x hx=>by
  obtain⟨c,hc,rfl⟩:=Cj.1 hx;have:=(jb8 h (Dk.1 hc)).1;omega) (by omega)
 have hw:=qj (i:=dep l.codes (l.codes.length-1)) (by omega);refine C1.im (yo l (qJ7 h)) (by rfl) (by rfl) ?_;refine sW ?_;refine C1.im hM (by rfl) (by rfl) ?_;simp only[tZ,↓un_u,simprocAttr,hw];rw[hL];exact .oA [] []
def hasB (l:CodL) (c:Int):Bool:=decide (0≤c)&&decide (c<l.codes.length)&&(lstE l==0)
theorem qB0 (l:CodL) (c:Int):Spc Tryz.prog KN [cdlT l,vI c] [] (vB (hasB l c)) []:=by
 refine qd zR6 mixm (by simp) fun e _ hst=>qg ?_;unfold qo0;refine sW ?_;refine C2.im (fun _=>Ks l) (fun _=>rfl) (by rfl) ?_;refine sW ?_;rw[show hasB l c=(decide (0≤c)&&decide (c<l.codes.length)&&(lstE l==0)) from rfl];exact .oA [] []
theorem qK1 {l:CodL} {c:Int}:hasB l c=true↔0≤c∧c<l.codes.length∧lstE l=0:=by
 unfold hasB;rw[Bq,Bq,AZ,AZ,AY,and_assoc]
theorem zG6 {cs:List Cod} {c:Nat} (h:c<(depL cs).length):(depL cs)[c]=dep cs c:=by simp [depL]
theorem qr8 (l:CodL) (lev:Int):Spc Tryz.prog Ky [cdlT l,vI lev] [] (vIs (atL l lev)) []:=by
 refine qd ja7 mixm (by simp) fun e _ hst=>qg ?_;unfold qz8;refine sW ?_;refine C1.im (Ks l) (by rfl) (by rfl) ?_;simp only[tZ,↓un_u,simprocAttr,Bj,Aw];refine⟨fun h=>?_,fun h=>?_⟩
 ·rw[atL,Aj h];exact .oA [] []
 obtain⟨hp,h1,h2⟩:=zg h;have e:atL l lev=atN l.codes lev l.codes.length:=by rw[atL,Aq (by rw[h];simp)];rfl
 rw[e];have hdl:=qr7 l.codes;refine C1.im (yo l (qJ7 h)) (by rfl) (by rfl) ?_;refine sW ?_;refine qu mixm (α:=Nat) [5,14] (fun i=>i≤l.codes.length) (fun i=>[(5,.asl 1 (atN l.codes lev i).length),(14,vI i)]) (fun i=>[(1,.arr 1 ((atN l.codes lev i).map vI) false)]) (fun i=>l.codes.length-i) 0 (by omega) ?_ fun i hi=>?_
 ·simp only[atN,List.range_zero,List.filter_nil,List.map_nil,Cw];exact .oA [(1,none)] []
 have hli:=jI4 l.codes lev i;refine sD ?_;refine⟨fun h3=>?_,fun h3=>?_⟩
 ·have hi2:i<(depL l.codes).length:=by omega
  have hwi:=qj (i:=i) (by omega);have hs:=jm0 l.codes lev i;simp only[tZ,↓un_u,simprocAttr,Ax,qe hi2,zG6 hi2,AY,Ak,hwi];refine⟨by omega,fun h4=>?_,fun h4=>?_⟩
  ·rw[Aj h4] at hs;refine⟨by omega,i+1,by omega,by omega,?_⟩;rw[hs];exact .oA [(1,some 1)] []
  ·rw[Aq h4,CW] at hs;refine⟨i+1,by omega,by omega,?_⟩;rw[hs];exact .oA [(1,some 1)] []
 ·have hil:i=l.codes.length:=by omega
  subst hil;exact .oA [] [1]
theorem qb3 (l:CodL) (c lev:Int):Spc Tryz.prog yY [cdlT l,vI c,vI lev] [] (vI (upC l c lev)) []:=by
 refine qd ja2 mixm (by simp) fun e _ hst=>qg ?_;unfold qz1;refine sW ?_;refine C1.im (qB0 l c) (by rfl) (by rfl) ?_;simp only[tZ,↓un_u,simprocAttr,tD,Bx,Bz];refine⟨fun h=>?_,fun h=>?_⟩
 ·have:upC l c lev = -1:=by
   rw[upC];by_cases k:lstE l≠0∨c<0∨c≥l.codes.length∨lev<0∨lev>dep l.codes c.toNat
   ·rw[Aj k]
   ·rcases h with h | h
    ·have:=qK1 (l:=l) (c:=c);rw[h] at this;exact absurd (this.2 ⟨by omega,by omega,AQ fun q=>k (.inl q)⟩) (by simp)
    ·omega
  rw[this];exact .oA [] []
 obtain⟨h0,h1,h2⟩:=qK1.1 h.1;obtain⟨hp,h3,h4⟩:=zg h2;obtain⟨k,rfl⟩:=AJ h0;obtain⟨v,rfl⟩:=AJ (show 0≤lev by omega);have hdl:=qr7 l.codes;have hk:k<(depL l.codes).length:=by omega
 have hdk:=qS9 hp k (by omega);refine C1.im (yo l (qJ7 h2)) (by rfl) (by rfl) ?_;simp only[tZ,↓un_u,simprocAttr,Ax,qe hk,zG6 hk];refine⟨by omega,?_⟩;by_cases hlv:dep l.codes k<v
 ·have hU:upC l k v = -1:=by rw[upC,Aj (by simp;omega)]
  rw[hU];refine qu mixm (α:=Unit) [1,7] (fun _=>True) (fun _=>[(1,vI k),(7,vI (dep l.codes k))]) (fun _=>[(4096,.arr 2 [cdlT l] false)]) (fun _=>0) () trivial ?_ fun _ _=>?_
  ·exact .oA [(4096,some 4096)] []
  have e0:decide ((dep l.codes k:Int)≥(v:Int))=false:=Cq (by omega);have e1:decide ((v:Int)≤(dep l.codes k:Int))=false:=Cq (by omega);simp only[tZ,↓un_u,simprocAttr,e0,e1];exact .oA [] []
 have hU:upC l k v=upF l.codes v (k+1) k:=by rw[upC,Aq (by simp;omega),Ax,Ax]
 rw[hU];refine qu mixm (α:=Nat) [1,7] (fun x=>x<l.codes.length∧v≤dep l.codes x∧upF l.codes v (k+1) k=upF l.codes v (x+1) x) (fun x=>[(1,vI x),(7,vI (dep l.codes x))]) (fun x=>[(4096,.arr 2 [cdlT l] false)]) (fun x=>x) k ⟨by omega,by omega,rfl⟩ ?_ fun x hx=>?_
 ·exact .oA [(4096,some 4096)] []
 obtain⟨x1,x2,x3⟩:=hx;have hcd:l.codes[x].par=parC l.codes x:=by rw[parC,cdAt,qh x1]
 have e0:decide ((dep l.codes x:Int)≥(v:Int))=true:=Cx (by omega);have e1:decide ((v:Int)≤(dep l.codes x:Int))=true:=Cx (by omega);have hdx:=qS9 hp x x1;simp only[tZ,↓un_u,simprocAttr,e0,e1,Ax,qe x1,hcd,AY,Ak];refine⟨fun h6=>?_,fun h6=>?_⟩
 ·rw[x3,jm1 (by omega)];exact .oA [] []
 ·obtain⟨u1,u2,u3,u4⟩:=up_step hp (lev:=v) x1 (by omega);obtain⟨p,hpe⟩:=AJ u1;have hw:IntKind.i64.wrap ((dep l.codes x:Int)-1)=(dep l.codes p:Int):=by
   rw[AK _ (by omega),u3,hpe,Ax];omega
  rw[hpe,Ax] at u4 u3;simp only[tZ,↓un_u,simprocAttr,hpe,hw];refine⟨by omega,p,⟨by omega,by omega,x3.trans u4⟩,by omega,?_⟩;exact .oA [(4096,some 4096)] []
theorem zG7 (l:CodL) (c a:Int):Spc Tryz.prog qd6 [cdlT l,vI c,vI a] [] (vB (qo3 l c a)) []:=by
 refine qd zs2 mixm (by simp) fun e _ hst=>qg ?_;unfold YJ;refine sW ?_;refine C1.im (qB0 l c) (by rfl) (by rfl) ?_;refine sW ?_;refine C2.im (fun _=>qB0 l a) (fun _=>rfl) (by rfl) ?_;simp only[tZ,↓un_u,simprocAttr,DZ,FX,Bx,Bz];refine⟨fun h=>?_,fun h=>?_⟩
 ·have:qo3 l c a=false:=by
   cases e:qo3 l c a with
   | false=>rfl
   | true=>
     unfold qo3 at e;simp only[Bq,AZ,AY] at e;obtain⟨⟨e1,e2⟩,e3⟩:=e;have key:∀ x,0≤lvlC l x→hasB l x=true:=fun x hx=>by
      rw[qK1];unfold lvlC at hx;split at hx
      ·omega
      ·rename_i q;exact⟨by omega,by omega,AQ fun z=>q (.inl z)⟩
     have ha:=key a e1;have hc:=key c (by omega);rcases h with h | h
     ·rw[hc] at h;cases h
     ·rw[ha] at h;cases h
  rw[this];exact .oA [] []
 obtain⟨c0,c1,c2⟩:=qK1.1 h.1;obtain⟨a0,a1,_⟩:=qK1.1 h.2;obtain⟨hp,h3,h4⟩:=zg c2;obtain⟨k,rfl⟩:=AJ c0;obtain⟨j,rfl⟩:=AJ a0;have hdl:=qr7 l.codes;have hj:j<(depL l.codes).length:=by omega
 have hdk:=qS9 hp k (by omega);have hdj:=qS9 hp j (by omega);have l1:lvlC l j=dep l.codes j:=by rw[lvlC,Aq (by rw[c2];simp;omega),Ax]
 have l2:lvlC l k=dep l.codes k:=by rw[lvlC,Aq (by rw[c2];simp;omega),Ax]
 have hU:qo3 l k j=(upC l k (dep l.codes j)==(j:Int)):=by
  unfold qo3;rw[l1,l2,Cx (by omega),Fq];by_cases q:(dep l.codes j:Int)≤dep l.codes k
  ·rw[Cx q,Fq]
  ·rw[Cq q,Bool.false_and,upC,Aj (by simp;omega)]
   symm
   exact Ak.2 (by omega)
 rw[hU];refine C1.im (yo l (qJ7 c2)) (by rfl) (by rfl) ?_;simp only[tZ,↓un_u,simprocAttr,Ax,qe hj,zG6 hj];refine⟨by omega,?_⟩;refine C1.im (qb3 l k (dep l.codes j)) (by rfl) (by rfl) ?_;refine sW ?_
 repeat (first | refine⟨by omega,?_⟩ | refine⟨by kernel_rfl,?_⟩)
 exact .oA [] []
end Go.Proofs
namespace Go.Proofs
open Go Go.TL
set_option maxRecDepth 4000
set_option maxHeartbeats 8000000
theorem jb9 {n w:Int} (hw:0<w):qG n w*w=n-(if n.tmod w<0 then n.tmod w+w else n.tmod w):=by
 have h1:=Int.mul_tdiv_add_tmod n w;rw[Int.mul_comm] at h1;rw[zE2 hw];split
 ·rw[Int.sub_mul];omega
 ·omega
theorem wN (n w:Int) (hw:0<w∧w≤1000000) (hn : -4611686018427387904<n∧n<4611686018427387904):Spc Tryz.prog zU [vI n,vI w] [] (vI (qG n w*w)) []:=by
 rw[jb9 hw.1];have h2:=Int.tmod_lt_of_pos n hw.1;have h3:=Int.lt_tmod_of_pos n hw.1;have w1:IntKind.i64.wrap (n.tmod w)=n.tmod w:=AK _ (by omega);have w2:IntKind.i64.wrap (n.tmod w+w)=n.tmod w+w:=AK _ (by omega);have w3:IntKind.i64.wrap (n-n.tmod w)=n-n.tmod w:=AK _ (by omega);have w4:IntKind.i64.wrap (n-(n.tmod w+w))=n-(n.tmod w+w):=AK _ (by omega);refine qd zq4 mixm (by simp) fun e _ hst=>qg ?_;unfold Yy;simp only[tZ,↓un_u,simprocAttr,w1,w2,w3,w4,tD];refine⟨by omega,fun h=>?_,fun h=>?_⟩
 ·rw[Aj h];exact .oA [] []
 ·rw[Aq h];exact .oA [] []
theorem Ja (c:Col) (lev:Int) (h1:1≤lev∧lev≤c.widths.length) (h2:c.widths.length<4611686018427387904):Spc Tryz.prog kI [colT c,vI lev] [] (vI (qD c lev)) []:=by
 have hw:IntKind.i64.wrap ((c.widths.length:Int)-lev)=(c.widths.length:Int)-lev:=AK _ (by omega);have hk:((c.widths.length:Int)-lev).toNat<c.widths.length:=by omega
 refine qd zf8 mixm (by simp) fun e _ hst=>qg ?_;unfold Wd;simp only[tZ,↓un_u,simprocAttr,hw,qe hk];rw[qD,qh hk];refine⟨by omega,?_⟩;exact .oA [] []
theorem wB (s:Sch) (hE:schE s=0) (c:Int):Spc Tryz.prog wi [schT s,vI c] [] (vI (finI s c)) []:=by
 have hok:=qR hE;have hnc:=hok.nc;refine qd qW3 mixm (by simp) fun e _ hst=>qg ?_;unfold JL;refine sD ?_;refine⟨fun h=>?_,fun h=>?_⟩
 ·rw[finI,Aj (by omega)];exact .oA [] []
 obtain⟨i,rfl⟩:=AJ (show 0≤c by omega);have hi:i<s.cols.length:=by omega
 have hat:qk s i=s.cols[i]:=by rw[qk,qh hi]
 have hk:=za (hok.cs i hi);have hcd:=fun e=>hok.cdl hi e;have hcl:qJ s i=s.lists.getD s.cols[i].list.toNat default:=by rw[qJ,hat]
 rw[hat] at hk hcd;rw[hcl] at hcd;rw[finI,Aq (by omega),Ax,hcl,hat];simp only[tZ,↓un_u,simprocAttr,Ax,qe hi];generalize s.cols[i]=x at hk hcd ⊢
 simp only[tZ,↓un_u,simprocAttr,AY,Ak];refine⟨by omega,fun h2=>?_,fun h2=>?_⟩
 ·obtain⟨d1,d2⟩:=hcd h2;obtain⟨d3,d4⟩:=hk.2.2.2.1 h2;have hgl:s.lists.getD x.list.toNat default=s.lists[x.list.toNat]:=qh d1;rw[Aj h2];rw[hgl] at d2 ⊢
  simp only[tZ,↓un_u,simprocAttr,qe d1];generalize s.lists[x.list.toNat]=l at d2 ⊢
  have hlv:=qo5 (l:=l);have hw2:IntKind.i64.wrap (zh l-1)=zh l-1:=AK _ (by omega);refine⟨by omega,?_⟩;refine C1.im (ZZ l) (by rfl) (by rfl) ?_;simp only[tZ,↓un_u,simprocAttr,hw2];exact .oA [] []
 ·rw[Aq h2];exact .oA [] []
theorem Ww (s:Sch) (hs:yg s) (c:Int):Spc Tryz.prog wg [schT s,vI c] [] (vI (finI s c)) []:=by
 refine qd qV2 mixm (by simp) fun e _ hst=>qg ?_;unfold JB;refine sW ?_;refine C1.im (jd s hs.2.1 hs.1) (by rfl) (by rfl) ?_;simp only[tZ,↓un_u,simprocAttr,Bj,Aw];refine⟨fun h=>?_,fun h=>?_⟩
 ·rw[finI,Aj (.inl h)];exact .oA [] []
 refine C1.im (wB s h c) (by rfl) (by rfl) ?_;refine sW ?_;exact .oA [] []
theorem zj5 (s:Sch) (hs:yg s) (c lev v:Int):Spc Tryz.prog KH [schT s,vI c,vI lev,vI v] [] (vI (qK s c lev v)) []:=by
 refine qd qU9 mixm (by simp) fun e _ hst=>qg ?_;unfold JA;refine sW ?_;refine C1.im (Ww s hs c) (by rfl) (by rfl) ?_;refine sD ?_;refine⟨fun h=>?_,fun h=>?_⟩
 ·rw[qK,Aj (qo6.2 (by omega))];exact .oA [] []
 obtain⟨hE,c1,c2,hfin⟩:=yT (s:=s) (c:=c) (by omega);have hok:=qR hE;obtain⟨i,rfl⟩:=AJ (show 0≤c by omega);rw[Ax] at hfin;have hi:i<s.cols.length:=by omega
 have hat:qk s i=s.cols[i]:=by rw[qk,qh hi]
 have hk:=za (hok.cs i hi);have hcd:=fun e=>hok.cdl hi e;have hwd:=fun e l=>hok.wid hi (by omega) e (lev:=l);have hcl:qJ s i=s.lists.getD s.cols[i].list.toNat default:=by rw[qJ,hat]
 have hE2:qK s i lev v=if s.cols[i].kind=2 then (if jo s i v=false then -1 else upC (qJ s i) v lev)
  else if v≠yk∧inB v (-1000000) 1000000=false then -1
  else if lev=0 then 0 else if v=yk then v else qG v (qD s.cols[i] lev)*qD s.cols[i] lev:=by
  rw[qK,Aq (by rw[Ez,Ji];omega),Ax,hat]
 rw[hE2];rw[hat] at hk hcd hwd hfin;rw[hcl] at hcd ⊢
 simp only[tZ,↓un_u,simprocAttr,Ax,qe hi];have hho:=qJ8 s hok i hi v;generalize s.cols[i]=x at hk hcd hwd hfin hho ⊢
 refine⟨by omega,?_⟩;refine C2.im (fun _=>hho) (fun _=>rfl) (by rfl) ?_;simp only[tZ,↓un_u,simprocAttr,tD,Bj,Aw,Bx,Bz,AY,Ak];rw[show (-1099511627776:Int)=yk from rfl];refine⟨fun h3=>?_,fun h3=>⟨fun h2=>?_,fun h2=>?_⟩⟩
 ·rw[Aj h3.1,Aj h3.2];exact .oA [] []
 ·rw[Aj h2];obtain⟨d1,d2⟩:=hcd h2;obtain⟨d3,d4⟩:=hk.2.2.2.1 h2;have hgl:s.lists.getD x.list.toNat default=s.lists[x.list.toNat]:=qh d1;rw[hgl] at d2 ⊢
  rw[Aq (by grind)];simp only[tZ,↓un_u,simprocAttr,qe d1];generalize s.lists[x.list.toNat]=l at d2 ⊢
  refine⟨by omega,?_⟩;refine C1.im (qb3 l v lev) (by rfl) (by rfl) ?_;refine sW ?_;exact .oA [] []
 rw[Aq h2];rw[Aq h2] at hfin;refine⟨fun h3=>?_,fun h3=>?_⟩
 ·rw[Aj ⟨by omega,qo6.2 (by omega)⟩];exact .oA [] []
 rw[Aq (by rw[qo6];omega)];refine⟨fun h4=>?_,fun h4=>?_⟩
 ·rw[Aj h4];exact .oA [] []
 rw[Aq h4];refine⟨fun h5=>?_,fun h5=>?_⟩
 ·rw[Aj h5,h5];exact .oA [] []
 rw[Aq h5];obtain⟨w1,w2,w3,w4,_⟩:=hwd h2 lev (by omega);refine C1.im (Ja x lev (by omega) (by omega)) (by rfl) (by rfl) ?_;refine sW ?_;refine C1.im (wN v (qD x lev) (by omega) (by omega)) (by rfl) (by rfl) ?_;refine sW ?_;exact .oA [] []
theorem qK2 (s:Sch) (hE:schE s=0) (p:Pk):Spc Tryz.prog Ke [schT s,pkT p] [] (vI (QU s p)) []:=by
 have hP:QU s p=if finI s p.col<0 then 7 else if inB p.lev 0 (finI s p.col)=false then 8 else 0:=by
  rw[QU,Aq (by rw[hE];simp)];by_cases h:p.col<1∨p.col≥s.cols.length
  ·rw[Aj h,Aj (by rw[finI,Aj (by omega)];omega)]
  ·rw[Aq h];have:0≤finI s p.col:=by
    rw[finI,Aq (by omega)];split
    ·rename_i h2;have hok:=qR hE;obtain⟨_,d2⟩:=hok.cdl (i:=p.col.toNat) (by omega) h2;rw[zh,Aq (by rw[d2];simp)];omega
    ·omega
   rw[Aq (show ¬ finI s p.col<0 by omega)]
 rw[hP];refine qd zo4 mixm (by simp) fun e _ hst=>qg ?_;unfold Yo;refine sW ?_;refine C1.im (wB s hE p.col) (by rfl) (by rfl) ?_;refine sD ?_;refine⟨fun h=>?_,fun h=>⟨fun h2=>?_,fun h2=>?_⟩⟩
 ·rw[Aj h];exact .oA [] []
 ·rw[Aq h,Aj (qo6.2 (by omega))];exact .oA [] []
 ·rw[Aq h,Aq (by rw[qo6];omega)];exact .oA [] []
theorem zG8 (s:Sch) (hs:yg s) (p:Pk):Spc Tryz.prog qd5 [schT s,pkT p] [] (vI (QU s p)) []:=by
 refine qd zs0 mixm (by simp) fun e _ hst=>qg ?_;unfold YI;refine sW ?_;refine C1.im (jd s hs.2.1 hs.1) (by rfl) (by rfl) ?_;simp only[tZ,↓un_u,simprocAttr,Bj,Aw];refine⟨fun h=>?_,fun h=>?_⟩
 ·rw[QU,Aj h];exact .oA [] []
 refine C1.im (qK2 s h p) (by rfl) (by rfl) ?_;refine sW ?_;exact .oA [] []
theorem qw1 (s:Sch) (hs:yg s) (l:List Pk) (hl:l.length<4611686018427387904):Spc Tryz.prog ZV [schT s,vPs l] [] (vI (ym s l)) []:=by
 refine qd ze5 mixm (by simp) fun e _ hst=>qg ?_;unfold KU;refine sW ?_;refine C1.im (jd s hs.2.1 hs.1) (by rfl) (by rfl) ?_;simp only[tZ,↓un_u,simprocAttr,Bj,Aw];refine⟨fun h=>?_,fun hE=>?_⟩
 ·rw[ym,Aj h];exact .oA [] []
 rw[ym,Aq (by rw[hE];simp)];refine qu mixm (α:=Nat) [16] (fun i=>i≤l.length∧(zF (zw6 s l) i=0)) (fun i=>[(16,vI i)]) (fun i=>[(4096,.arr 2 [schT s] false)]) (fun i=>l.length-i) 0 ⟨by omega,?_⟩ ?_ fun i hi=>?_
 ·rfl
 ·exact .oA [(4096,some 4096)] []
 simp only[tZ,↓un_u,simprocAttr,AZ,Ay];refine⟨fun h=>?_,fun h=>?_⟩
 ·have hi2:i<l.length:=by omega
  have hpi:pkAt l i=l[i]:=by rw[pkAt,qh hi2]
  have hstep:=Qc hi.2 hi2;have hnext:=jP hi.2;have hA:zw6 s l i=if QU s l[i]≠0 then QU s l[i] else if 0<i∧l[i].col≤(pkAt l (i-1)).col then 10 else 0:=by rw[zw6,hpi]
  have hi2:i<l.length:=by omega
  have hwi:=qj (i:=i) (by omega);simp only[tZ,↓un_u,simprocAttr,Ax,qe hi2,hwi];refine⟨by omega,?_⟩;refine C1.im (qK2 s hE l[i]) (by rfl) (by rfl) ?_;simp only[tZ,↓un_u,simprocAttr,Bj,Aw];refine⟨fun h3=>?_,fun h3=>?_⟩
  ·rw[Aj h3] at hA;rw[hstep (by rw[hA];exact h3),hA];exact .oA [] []
  rw[Aq (by rw[h3];simp)] at hA;rcases DQ i with h0 | h0
  ·subst h0;rw[Aq (by omega)] at hA;have hz:((0:Nat):Int)=0:=rfl;have hz2:(IntKind.i64.wrap (-1)).toNat=0:=by decide
   have hz3:=qj (i:=0) (by omega);rw[hz] at hz3;simp only[tZ,↓un_u,simprocAttr,Ax,hz,beq_self_eq_true,gt_iff_lt,Int.lt_irrefl,Fq,hz2,qe hi2,hz3];refine⟨by kernel_rfl,1,⟨by omega,by rw[hnext,hA]⟩,by omega,?_⟩;exact .oA [(4096,some 4096)] []
  ·obtain⟨k,rfl⟩:∃ k,i=k+1:=⟨i-1,by omega⟩;have hk3:k<l.length:=by omega
   have e2:decide (((k+1:Nat):Int)>0)=true:=Cx (by omega);have e3:=jp (i:=k+1) (by omega) (by omega);rw[Nat.add_sub_cancel] at e3 hA;rw[pkAt,qh hk3] at hA;simp only[tZ,↓un_u,simprocAttr,Ax,qe hi2,qe hk3,e2,e3,hwi,tD];refine⟨by omega,by kernel_rfl,fun h4=>?_,fun h4=>?_⟩
   ·rw[Aj ⟨by omega,h4⟩] at hA;rw[hstep (by rw[hA];simp),hA];exact .oA [] []
   ·rw[Aq (by omega)] at hA;refine⟨k+2,⟨by omega,by rw[hnext,hA]⟩,by omega,?_⟩;exact .oA [(4096,some 4096)] []
 ·have hi2:i=l.length:=by omega
  subst hi2;rw[hi.2];exact .oA [] []
def Ku (c:Col) (lev v:Int):Int×Int×Bool:=
 if lev=0 then (c.low,c.high,v==0) else if v < -2000000∨v>1000000 then (0,0,false)
 else (max v c.low,min (v+qD c lev-1) c.high,(qG v (qD c lev)*qD c lev==v)&&decide (max v c.low≤min (v+qD c lev-1) c.high))
theorem zV3 (a b:Int):maxI a b=max a b:=by unfold maxI;split <;> omega
theorem jK4 (a b:Int):minI a b=min a b:=by unfold minI;split <;> omega
theorem qK3 (c:Col) (lev v:Int) (hl:lev=0∨(1≤lev∧lev≤c.widths.length∧c.widths.length≤4∧1≤qD c lev∧qD c lev≤1000000)):Spc Tryz.prog Kj [colT c,vI lev,vI v] [] (.tup [vI (Ku c lev v).1,vI (Ku c lev v).2.1,vB (Ku c lev v).2.2]) []:=by
 refine qd zr8 mixm (by simp) fun e _ hst=>qg ?_;unfold YF;simp only[tZ,↓un_u,simprocAttr,tD,AY,Ak];refine⟨fun h=>?_,fun h=>⟨fun h2=>?_,fun h2=>?_⟩⟩
 ·rw[Ku,Aj h];dsimp only
  repeat (first | refine⟨by omega,?_⟩ | refine⟨by kernel_rfl,?_⟩)
  exact .oA [] []
 ·rw[Ku,Aq h,Aj h2];dsimp only;exact .oA [] []
 obtain⟨l1,l2,l3,l4,l5⟩:1≤lev∧lev≤c.widths.length∧c.widths.length≤4∧1≤qD c lev∧qD c lev≤1000000:=by rcases hl with e | e;exact absurd e h;exact e
 rw[Ku,Aq h,Aq (by omega)];refine C1.im (Ja c lev ⟨l1,l2⟩ (by omega)) (by rfl) (by rfl) ?_;have w1:IntKind.i64.wrap (v+qD c lev)=v+qD c lev:=AK _ (by omega);have w2:IntKind.i64.wrap (v+qD c lev-1)=v+qD c lev-1:=AK _ (by omega);simp only[tZ,↓un_u,simprocAttr,w1,w2,zV3,jK4]
 repeat (first | refine⟨by omega,?_⟩ | refine⟨by kernel_rfl,?_⟩)
 refine C1.im (wN v (qD c lev) (by omega) (by omega)) (by rfl) (by rfl) ?_;refine sW ?_;exact .oA [] []
def js4 (s:Sch) (i:Nat) (lev v:Int):Int×Bool:=
 if (qk s i).kind=3 then (if 0<lev∧v=yk then (v,(qk s i).opt) else ((Ku (qk s i) lev v).1,(Ku (qk s i) lev v).2.2))
 else ((qQ s i).find? fun l=>upC (qJ s i) l lev==v).elim (0,false) fun l=>(l,true)
theorem zG9 (s:Sch) (hE:schE s=0) (i:Nat) (hi:i<s.cols.length) (h0:0<i) (lev v:Int) (hl:0≤lev∧lev≤finI s i):Spc Tryz.prog qd2 [schT s,vI i,vI lev,vI v] [] (.tup [vI (js4 s i lev v).1,vB (js4 s i lev v).2]) []:=by
 have hok:=qR hE;obtain⟨_,c1,c2,hfin⟩:=yT (s:=s) (c:=i) (by omega);rw[Ax] at hfin;have hat:qk s i=s.cols[i]:=by rw[qk,qh hi]
 have hk:=za (hok.cs i hi);have hcd:=fun e=>hok.cdl hi e;have hwd:=fun e l=>hok.wid hi (by omega) e (lev:=l);have hll:=qb0 hok hi;have hcl:qJ s i=s.lists.getD s.cols[i].list.toNat default:=by rw[qJ,hat]
 have hE2:js4 s i lev v=if s.cols[i].kind=3 then (if 0<lev∧v=yk then (v,s.cols[i].opt) else ((Ku s.cols[i] lev v).1,(Ku s.cols[i] lev v).2.2))
  else ((qQ s i).find? fun l=>upC (qJ s i) l lev==v).elim (0,false) fun l=>(l,true):=by rw[js4,hat]
 have hlv:qQ s i=atL (qJ s i) (zh (qJ s i)-1):=rfl;rw[hE2];rw[hat] at hk hcd hwd hfin hll;rw[hlv] at hll ⊢
 rw[hcl] at hcd hll ⊢
 refine qd zq8 mixm (by simp) fun e _ hst=>qg ?_;unfold YA;simp only[tZ,↓un_u,simprocAttr,Ax,qe hi];generalize s.cols[i]=x at hk hcd hwd hfin hll ⊢
 have h1:=hk.2.2.1 h0;simp only[tZ,↓un_u,simprocAttr,tD,AY,Ak];rw[show (-1099511627776:Int)=yk from rfl];refine⟨by omega,fun h3=>⟨fun h4=>?_,fun h4=>?_⟩,fun h3=>?_⟩
 ·rw[Aj h3,Aj h4];dsimp only
  repeat (first | refine⟨by omega,?_⟩ | refine⟨by kernel_rfl,?_⟩)
  exact .oA [] []
 ·rw[Aj h3,Aq (by grind)];rw[Aq (by omega)] at hfin;refine C1.im (qK3 x lev v (by
   by_cases e:lev=0
   ·exact .inl e
   ·have:=hwd (by omega) lev (by omega);exact .inr (by omega))) (by rfl) (by rfl) ?_
  refine sW ?_;exact .oA [] []
 have h2:x.kind=2:=by omega
 obtain⟨d1,d2⟩:=hcd h2;obtain⟨d3,d4⟩:=hk.2.2.2.1 h2;have hll:=hll h2;have hgl:s.lists.getD x.list.toNat default=s.lists[x.list.toNat]:=qh d1;rw[hgl] at d2 hll ⊢
 rw[Aq h3];simp only[tZ,↓un_u,simprocAttr,qe d1];generalize s.lists[x.list.toNat]=l at d2 hll ⊢
 have hlv:=qo5 (l:=l);have hw2:IntKind.i64.wrap (zh l-1)=zh l-1:=AK _ (by omega);refine⟨by omega,?_⟩;refine C1.im (ZZ l) (by rfl) (by rfl) ?_;simp only[tZ,↓un_u,simprocAttr,hw2];refine C1.im (qr8 l (zh l-1)) (by rfl) (by rfl) ?_;refine sW ?_
 repeat (first | refine⟨by omega,?_⟩ | refine⟨by kernel_rfl,?_⟩)
 generalize atL l (zh l-1)=L at hll ⊢
 refine qu mixm (α:=Nat) [56] (fun j=>j≤L.length∧((L.take j).find? (fun y=>upC l y lev==v)=none)) (fun j=>[(56,vI j)]) (fun j=>[(32792,.arr 2 [cdlT l] false)]) (fun j=>L.length-j) 0 ⟨by omega,?_⟩ ?_ fun j hj=>?_
 ·rfl
 ·exact .oA [(32792,some 32792)] []
 simp only[tZ,↓un_u,simprocAttr,AZ,Ay];refine⟨fun h=>?_,fun h=>?_⟩
 ·have hi2:j<L.length:=by omega
  have hf:L.find? (fun y=>upC l y lev==v)=if upC l L[j] lev==v then some L[j] else (L.drop (j+1)).find? (fun y=>upC l y lev==v):=by
   conv=>lhs;rw[← List.take_append_drop j L,List.find?_append,hj.2,List.drop_eq_getElem_cons hi2,List.find?_cons]
   cases upC l L[j] lev==v <;> simp
  have hj2:j<L.length:=by omega
  have hwj:=qj (i:=j) (by omega);simp only[tZ,↓un_u,simprocAttr,Ax,qe hj2,hwj];refine⟨by omega,?_⟩;refine C1.im (qb3 l L[j] lev) (by rfl) (by rfl) ?_;simp only[tZ,↓un_u,simprocAttr,tD,AY,Ak];refine⟨fun h4=>?_,fun h4=>?_⟩
  ·rw[hf,Aj (AY.2 h4)];exact .oA [] []
  ·refine⟨j+1,⟨by omega,?_⟩,by omega,?_⟩
   ·rw[qH hi2,List.find?_append,hj.2];simp [h4]
   ·exact .oA [(32792,some 32792)] []
 ·have hj2:j=L.length:=by omega
  subst hj2;rw[show L.find? (fun y=>upC l y lev==v)=none by rw[← hj.2,List.take_of_length_le (by omega)]];exact .oA [] []
end Go.Proofs
namespace Go.Proofs
open Go Go.TL
set_option maxHeartbeats 4000000
abbrev upN (cs:List Cod) (v x:Nat):Nat:=upF cs v (x+1) x
theorem zH0 {cs:List Cod} {v x:Nat} (h:dep cs x≤v):upN cs v x=x:=jm1 h _
theorem jK5 {cs:List Cod} (hp:qX4 cs) {v:Nat}:∀ x,x<cs.length→v≤dep cs x→dep cs (upN cs v x)=v∧upN cs v x≤x:=by
 intro x
 induction x using Nat.strongRecOn with
 | _ x ih=>
   intro hx hv;by_cases h:dep cs x≤v
   ·rw[zH0 h];exact⟨by omega,BZ _⟩
   ·obtain⟨u1,u2,u3,u4⟩:=up_step hp (lev:=v) hx (by omega);have:=ih (parC cs x).toNat (by omega) (by omega) (by omega);rw[show upN cs v x=upN cs v (parC cs x).toNat from u4];exact⟨this.1,by omega⟩
theorem zV4 {cs:List Cod} (hp:qX4 cs) {o v:Nat} (ho:o≤v):∀ x,x<cs.length→v≤dep cs x→upN cs o (upN cs v x)=upN cs o x:=by
 intro x
 induction x using Nat.strongRecOn with
 | _ x ih=>
   intro hx hv;by_cases h:dep cs x≤v
   ·rw[zH0 h]
   ·obtain⟨u1,u2,u3,u4⟩:=up_step hp (lev:=v) hx (by omega);obtain⟨_,_,_,u5⟩:=up_step hp (lev:=o) hx (by omega);rw[show upN cs v x=upN cs v (parC cs x).toNat from u4,show upN cs o x=upN cs o (parC cs x).toNat from u5];exact ih (parC cs x).toNat (by omega) (by omega) (by omega)
theorem jV4 {l:CodL} (h:lstE l=0):∀ (k c:Nat),l.codes.length-c=k→c<l.codes.length→∀ v,dep l.codes c≤v→(v:Int)≤zh l-1→∃ d,d<l.codes.length∧dep l.codes d=v∧upN l.codes (dep l.codes c) d=c:=by
 intro k
 induction k using Nat.strongRecOn with
 | _ k ih=>
   intro c hk hc v hv ht;by_cases e:dep l.codes c=v
   ·exact⟨c,hc,e,zH0 (BZ _)⟩
   obtain⟨hp,h1,h2⟩:=zg h;obtain⟨t1,t2,t3⟩:=jb8 h hc;cases hl:qA2 l.codes c with
   | true=>have:=t2 hl;omega
   | false=>
     have hn:¬ ∀ i,i<l.codes.length→parC l.codes i≠c:=fun k=>by rw[zG4.2 k] at hl;cases hl
     simp only[Classical.not_forall] at hn;obtain⟨i,hi,hn⟩:=hn;have hpc:parC l.codes i=c:=AQ hn;have h3:=hp i hi;have h4:=qO9 hp hi (by omega);rw[hpc,Ax] at h4;obtain⟨d,d1,d2,d3⟩:=ih (l.codes.length-i) (by omega) i rfl hi v (by omega) ht;refine⟨d,d1,d2,?_⟩;have h5:=zV4 hp (o:=dep l.codes c) (v:=dep l.codes i) (by omega) d d1 (by omega);rw[← h5,d3];obtain⟨_,_,_,u5⟩:=up_step hp (lev:=dep l.codes c) hi (by omega);rw[show upN l.codes (dep l.codes c) i=upN l.codes (dep l.codes c) (parC l.codes i).toNat from u5,hpc,Ax];exact zH0 (BZ _)
theorem jV5 {α:Type} [DecidableEq α]:∀ {a b:List α},a.Nodup→(∀ x∈a,x∈b)→a.length≤b.length
 | [],_,_,_=>Nat.zero_le _
 | x::r,b,hn,hs=>by
   rw[List.nodup_cons] at hn;have hx:=hs x (List.mem_cons_self ..);have:=jV5 (a:=r) (b:=b.erase x) hn.2 fun y hy=>(List.mem_erase_of_ne (fun e=>hn.1 (by rw[← e];exact hy))).2 (hs y (CQ _ hy));rw[List.length_erase_of_mem hx] at this;have:=List.length_pos_of_mem hx;simp only[CJ];omega
abbrev lvN (cs:List Cod) (v:Nat):List Nat:=(List.range cs.length).filter fun i=>(dep cs i:Int)==v
theorem qg8 {cs:List Cod} {v x:Nat}:x∈lvN cs v↔x<cs.length∧dep cs x=v:=by
 rw[Fz,Dk,AY];omega
theorem jK6 (cs:List Cod) (v:Nat):(lvN cs v).Nodup:=List.Nodup.sublist List.filter_sublist List.nodup_range
theorem kh1 {l:CodL} (h:lstE l=0) (v:Nat):(atL l v).length=(lvN l.codes v).length:=by
 rw[atL,Aq (by rw[h];simp),BY]
theorem kc1 {l:CodL} (h:lstE l=0) {o v:Nat} (ho:o≤v) (hv:(v:Int)≤zh l-1):(lvN l.codes o).length≤(lvN l.codes v).length:=by
 obtain⟨hp,h1,h2⟩:=zg h;rw[show (lvN l.codes v).length=((lvN l.codes v).map (upN l.codes o)).length by rw[BY]];refine jV5 (jK6 _ _) fun c hc=>?_;rw[qg8] at hc;obtain⟨d,d1,d2,d3⟩:=jV4 h _ c rfl hc.1 v (by omega) hv;rw[hc.2] at d3;exact Cj.2 ⟨d,qg8.2 ⟨d1,d2⟩,d3⟩
theorem kn6 {l:CodL} (h:lstE l=0) {o v:Nat} (ho:o≤v) (hv:(v:Int)≤zh l-1):(lvN l.codes o).length=(lvN l.codes v).length↔∀ a b,a<l.codes.length→b<l.codes.length→dep l.codes a=v→dep l.codes b=v→upN l.codes o a=upN l.codes o b→a=b:=by
 obtain⟨hp,h1,h2⟩:=zg h;constructor
 ·intro e a b ha hb da db hab;refine AQ fun hne=>?_;have ma:a∈lvN l.codes v:=qg8.2 ⟨ha,da⟩;have mb:b∈(lvN l.codes v).erase a:=(List.mem_erase_of_ne (fun e=>hne e.symm)).2 (qg8.2 ⟨hb,db⟩);have:=jV5 (a:=lvN l.codes o) (b:=((lvN l.codes v).erase a).map (upN l.codes o)) (jK6 _ _) fun c hc=>by
   rw[qg8] at hc;obtain⟨d,d1,d2,d3⟩:=jV4 h _ c rfl hc.1 v (by omega) hv;rw[hc.2] at d3;by_cases k:d=a
   ·exact Cj.2 ⟨b,mb,by rw[← hab,← k,d3]⟩
   ·exact Cj.2 ⟨d,(List.mem_erase_of_ne k).2 (qg8.2 ⟨d1,d2⟩),d3⟩
  rw[BY,List.length_erase_of_mem ma] at this;have:=List.length_pos_of_mem ma;omega
 ·intro hi;refine Nat.le_antisymm (kc1 h ho hv) ?_;rw[show (lvN l.codes v).length=((lvN l.codes v).map (upN l.codes o)).length by rw[BY]];refine jV5 ?_ fun c hc=>?_
  ·rw[List.Nodup,List.pairwise_map];refine List.Pairwise.imp_of_mem ?_ (jK6 l.codes v);intro a b ha hb hne e;rw[qg8] at ha hb;exact hne (hi a b ha.1 hb.1 ha.2 hb.2 e)
  ·obtain⟨d,hd,rfl⟩:=Cj.1 hc;rw[qg8] at hd;have:=jK5 hp (v:=o) d hd.1 (by omega);exact qg8.2 ⟨by omega,this.1⟩
theorem zj6 {a k m:Int} (hk:1≤k) (hm:0≤m):qG a k≤qG (a+m) k∧qG (a+m) k≤qG a k+m:=by
 unfold qG;rw[DW _ (by omega),DW _ (by omega)];have h1:=Int.mul_ediv_add_emod a k;have h2:=Int.emod_nonneg a (b:=k) (by omega);have h3:=Int.emod_lt_of_pos a (b:=k) (by omega);have h4:=Int.mul_ediv_add_emod (a+m) k;have h5:=Int.emod_nonneg (a+m) (b:=k) (by omega);have h6:=Int.emod_lt_of_pos (a+m) (b:=k) (by omega);constructor
 ·refine AQ fun c=>?_;have:k*((a+m) / k+1)≤k*(a / k):=Int.mul_le_mul_of_nonneg_left (by omega) (by omega);rw[Int.mul_add] at this;omega
 ·refine AQ fun c=>?_;have:k*(a / k+m+1)≤k*((a+m) / k):=Int.mul_le_mul_of_nonneg_left (by omega) (by omega);rw[Int.mul_add,Int.mul_add] at this;have h7:1*m≤k*m:=Int.mul_le_mul_of_nonneg_right hk hm;omega
theorem kn7 {a w k:Int} (hw:1≤w) (hk:1≤k):qG a (k*w)=qG (qG a w) k:=by
 have hkw:0≤k*w:=Int.mul_nonneg (by omega) (by omega);unfold qG;rw[DW _ (show 0≤w by omega),DW _ (show 0≤k by omega),DW _ hkw,Int.mul_comm,Int.ediv_ediv_of_nonneg (by omega)]
theorem jK7 {a k:Int} (hk:1≤k):(k ∣ a+1→qG (a+1) k=qG a k+1)∧(¬ k ∣ a+1→qG (a+1) k=qG a k):=by
 unfold qG;rw[DW _ (by omega),DW _ (by omega)];have h1:=Int.mul_ediv_add_emod a k;have h2:=Int.emod_nonneg a (b:=k) (by omega);have h3:=Int.emod_lt_of_pos a (b:=k) (by omega);constructor
 ·rintro ⟨q,hq⟩;rw[hq,Int.mul_ediv_cancel_left _ (by omega)];have:q=a / k+1:=by
   have e:k*(q-(a / k+1))=a % k+1-k:=by rw[Int.mul_sub,Int.mul_add];omega
   have h4:q-(a / k+1)=0:=by
    refine AQ fun c=>?_;rcases Int.lt_or_gt_of_ne c with c | c
    ·have:k*(q-(a / k+1))≤k*(-1):=Int.mul_le_mul_of_nonneg_left (by omega) (by omega);omega
    ·have:k*1≤k*(q-(a / k+1)):=Int.mul_le_mul_of_nonneg_left (by omega) (by omega);omega
   omega
  exact this
 ·intro hn;refine ((Int.ediv_emod_unique (r:=a % k+1) (q:=a / k) (show 0<k by omega)).2 ⟨by omega,by omega,?_⟩).1;refine AQ fun c=>hn ⟨a / k+1,?_⟩;rw[Int.mul_add];omega
end Go.Proofs
