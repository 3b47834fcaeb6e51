/- A part of the proof: trees of Go values, short forms, contracts. -/
import Derived.WalkKit
import Derived.Still
import Derived.MapKept
import GoSem.Builtin.Cap
import Derived.Laws.Externs
import GoSem.Extern.SlicesOverlaps
import Derived.Carry
import Derived.ProofKit
import Derived.OpenShut
import Derived.HandedShaped
import Derived.Lay
import Derived.LaidLaws
import Derived.MakeChecks
import Derived.SevenTiedAt
import Derived.Test.YtpmgddadeedmbaaGreatDoorChecked
import Derived.Test.YtpmgddadeedmbaaGreatDoorK20
set_option linter.unusedSimpArgs false
set_option linter.unusedVariables false
namespace Go.Proofs
open Go Go.TL
set_option maxRecDepth 4000
set_option maxHeartbeats 8000000
theorem qX5 {cs:List Cod}:∀ {n:Nat} {v:Int},lvs cs n=some v→∀ j,j<n→qy0 cs j=true→(dep cs j:Int)=v
 | 0,_,_,j,h,_=>by omega
 | n+1,v,h,j,hj,hl=>by
   rw[qX3] at h;cases e:lvs cs n with
   | none=>rw[e] at h;cases h
   | some w=>
     rw[e] at h;have ih:=fun k hk h2=>qX5 e k hk h2;unfold lvS at h;dsimp only at h;split at h
     ·split at h
      ·cases h
      ·rename_i h2;have hv:(dep cs n:Int)=v:=by simpa using h
       by_cases e2:j=n
       ·rw[e2];exact hv
       ·have:=ih j (by omega) hl;omega
     ·rename_i h2;have hv:w=v:=by simpa using h
      by_cases e2:j=n
      ·rw[e2] at hl;exact absurd hl h2
      ·have:=ih j (by omega) hl;omega
theorem zC7 {cs:List Cod} {c:Nat}:qy0 cs c=true↔∀ i,i<cs.length→parC cs i≠c:=by
 unfold qy0;rw[Bx,List.any_eq_false];constructor
 ·intro h i hi e;have:=h cs[i] (AX hi);rw[parC,cdAt,qh hi] at e;simp [e] at this
 ·intro h x hx;obtain⟨i,hi,rfl⟩:=List.getElem_of_mem hx;have:=h i hi;rw[parC,cdAt,qh hi] at this;simpa using this
theorem jQ8 {l:CodL} (h:lstE l=0):∃ v,lvs l.codes l.codes.length=some v:=by
 unfold lstE at h;split at h
 ·cases h
 ·split at h
  ·cases h
  ·split at h
   ·cases h
   ·split at h
    ·rename_i h2;exact absurd h h2
    ·split at h
     ·cases h
     ·rename_i v e;exact⟨v,e⟩
theorem zX6 {l:CodL} (h:lstE l=0) {c:Nat} (hc:c<l.codes.length):(dep l.codes c:Int)≤zh l-1∧(qy0 l.codes c=true→(dep l.codes c:Int)=zh l-1)∧(qy0 l.codes c=false→(dep l.codes c:Int)<zh l-1):=by
 obtain⟨hp,h1,h2⟩:=zg h;obtain⟨v,hv⟩:=jQ8 h;have hlast:qy0 l.codes (l.codes.length-1)=true:=zC7.2 fun i hi e=>by
  have:=(hp i hi).2;omega
 have hlv:=qX5 hv (l.codes.length-1) (by omega) hlast;have hL:zh l-1=v:=by rw[zh,Aq (by rw[h];simp)];omega
 have hall:∀ k c,l.codes.length-c=k→c<l.codes.length→(dep l.codes c:Int)≤v∧(qy0 l.codes c=false→(dep l.codes c:Int)<v):=by
  intro k
  induction k using Nat.strongRecOn with
  | _ k ih=>
    intro c hk hc;cases hl:qy0 l.codes c with
    | true=>
      have:=qX5 hv c hc hl;exact⟨by omega,fun e=>by cases e⟩
    | false=>
      have hn:¬ ∀ i,i<l.codes.length→parC l.codes i≠c:=fun k=>by rw[zC7.2 k] at hl;cases hl
      simp only[Classical.not_forall] at hn;obtain⟨i,hi,hn⟩:=hn;have hpc:parC l.codes i=c:=AQ hn;have h3:=hp i hi;have h4:=qM9 hp hi (by omega);rw[hpc,Ax] at h4;have h5:=ih (l.codes.length-i) (by omega) i rfl hi;have:=h5.1;exact⟨by omega,fun _=>by omega⟩
 have:=hall _ c rfl hc;rw[hL];exact⟨this.1,fun hl=>qX5 hv c hc hl,this.2⟩
theorem jQ9 {l:CodL} (h:lstE l=0) {c:Nat} (hc:c<l.codes.length):qy0 l.codes c=true↔(dep l.codes c:Int)=zh l-1:=by
 obtain⟨_,h2,h3⟩:=zX6 h hc;cases hl:qy0 l.codes c with
 | true=>exact⟨fun _=>h2 hl,fun _=>rfl⟩
 | false=>
   have:=h3 hl;exact⟨(by intro e;cases e),fun e=>by omega⟩
theorem qe9 (p:Cod→Bool) (f:FuncId) (caps:List T) (hcap:imL caps=true) (l:List Cod) (hf:∀ y∈l,Spc Tryz.prog f (codT y::caps) [] (vB (p y)) []) (hl:l.length<4611686018427387904) :
 Spc Tryz.prog kv [.sl 2 (l.map codT),.clo f caps] [] (vI (idxI p l)) []:=by
 refine qd YU mixm (by simp) fun e _ hst=>qg ?_;unfold jY;refine sW ?_;refine qu mixm (α:=Nat) [8] (fun i=>i≤l.length∧((l.take i).any p=false)) (fun i=>[(8,vI i)]) (fun i=>[]) (fun i=>l.length-i) 0 ⟨by omega,?_⟩ ?_ fun i hi=>?_
 ·simp
 ·exact .oA [] []
 simp only[tZ,↓un_u,simprocAttr,AZ,Ay];refine⟨fun h=>?_,fun h=>?_⟩
 ·have hi2:i<l.length:=by omega
  have hwi:=qj (i:=i) (by omega);simp only[tZ,↓un_u,simprocAttr,Ax,qe hi2,hwi,qu7];refine⟨by omega,?_⟩;refine C1.im (hf l[i] (AX hi2)) (YM rfl hcap) rfl ?_;refine sW ?_;refine⟨fun h3=>?_,fun h3=>⟨i+1,⟨by omega,kf hi2 hi.2 h3⟩,by omega,?_⟩⟩
  ·rw[idxI,Aj (zt4 hi2 h3),yV hi2 hi.2 h3];exact .imR rfl rfl
  ·exact .oA [] []
 ·have h2:i=l.length:=by omega
  have h3:=hi.2;rw[h2,List.take_length] at h3;rw[idxI,Aq (by rw[h3];simp)];exact .imR rfl rfl
theorem WB (p:Cod→Bool) (f:FuncId) (caps:List T) (hcap:imL caps=true) (l:List Cod) (hf:∀ y∈l,Spc Tryz.prog f (codT y::caps) [] (vB (p y)) []) (hl:l.length<4611686018427387904) :
 Spc Tryz.prog jp [.sl 2 (l.map codT),.clo f caps] [] (vB (l.any p)) []:=by
 refine qd Wf mixm (by simp) fun e _ hst=>qg ?_;unfold jk;refine sW ?_;refine C1.im (qe9 p f caps hcap l hf hl) (ZQ rfl hcap) rfl ?_;refine sW ?_;rw[show decide (idxI p l≥0)=l.any p from zb3 p l];exact .imR rfl rfl
theorem zh1 (x:Cod) (v:Int):Spc Tryz.prog Qw [codT x,.ip [vI v]] [] (vB (x.par==v)) []:=by
 refine qd qV1 mixm (by simp) fun e _ hst=>qg ?_;unfold JI;refine sW ?_;exact .oA [] []
theorem jG0 {l:CodL} (h:lstE l=0) (v:Int):(decide (0≤v)&&decide (v<l.codes.length)&&!(l.codes.any fun x=>x.par==v))=(inB v 0 (l.codes.length-1)&&(lvlC l v==zh l-1)):=by
 unfold inB;by_cases h0:0≤v∧v<l.codes.length
 ·obtain⟨c,rfl⟩:=AJ h0.1;have hc:c<l.codes.length:=by omega
  have h1:lvlC l c=dep l.codes c:=by rw[lvlC,Aq (by rw[h];simp;omega),Ax]
  rw[decide_eq_true h0.1,decide_eq_true h0.2,decide_eq_true (show (c:Int)≤(l.codes.length:Int)-1 by omega),h1];simp only[Bool.true_and];rw[Bool.eq_iff_iff,AY,← jQ9 h hc]
  rfl
 ·by_cases h1:0≤v
  ·rw[decide_eq_true h1,decide_eq_false (show ¬ v<l.codes.length by omega),decide_eq_false (show ¬ v≤(l.codes.length:Int)-1 by omega)]
   rfl
  ·rw[decide_eq_false h1]
   rfl
theorem qH7 (s:Sch) (h:SchOk s) (i:Nat) (hi:i<s.cols.length) (v:Int):Spc Tryz.prog Kb [schT s,colT s.cols[i],vI v] [] (vB (jC s i v)) []:=by
 have hat:qk s i=s.cols[i]:=by rw[qk,qh hi]
 have hk:=za (h.cs i hi);have hcd:=fun e=>h.cdl hi e;have hE:jC s i v=if s.cols[i].kind=1 then inB v 1 1048575
  else if s.cols[i].kind=2 then inB v 0 ((qJ s i).codes.length-1)&&(lvlC (qJ s i) v==zh (qJ s i)-1)
  else (s.cols[i].opt&&(v==yh))||inB v s.cols[i].low s.cols[i].high:=by rw[jC,hat]
 have hcl:qJ s i=s.lists.getD s.cols[i].list.toNat default:=by rw[qJ,hat]
 rw[hat] at hk hcd;rw[hE];rw[hcl] at hcd ⊢
 generalize s.cols[i]=c at hk hcd ⊢
 refine qd zn7 mixm (by simp) fun e _ hst=>qg ?_;unfold Yp;refine sW ?_;simp only[tZ,↓un_u,simprocAttr,AY,Ak];refine⟨fun h1=>?_,fun h1=>⟨fun h2=>?_,fun h2=>?_⟩⟩
 ·rw[Aj h1,show inB v 1 1048575=(decide (1≤v)&&decide (v≤1048575)) from rfl];exact .oA [] []
 ·obtain⟨d1,d2⟩:=hcd h2;obtain⟨d3,d4⟩:=hk.2.2.2.1 h2;have hgl:s.lists.getD c.list.toNat default=s.lists[c.list.toNat]:=qh d1;rw[Aq h1,Aj h2];rw[hgl] at d2 ⊢
  obtain⟨_,d5,d6⟩:=zg d2;simp only[tZ,↓un_u,simprocAttr,qe d1];generalize s.lists[c.list.toNat]=l at d2 d5 d6 ⊢
  have hCF:=WB (fun x=>x.par==v) Qw [.ip [vI v]] rfl l.codes (fun x _=>zh1 x v) (by omega);refine⟨by omega,?_⟩;refine C2.lend [4104] (fun _=>hCF) (fun _=>?_) (by rfl) (by rfl) ?_
  ·all_goals (try simp only[tL,simprocAttr,List.map_append,List.map_cons,List.map_nil,List.cons_append,List.nil_append])
   all_goals (try (repeat' (first | exact zb | (apply zx;intro _;exact⟨rfl,rfl⟩) | (apply qE;intro _;exact⟨rfl,rfl⟩) | with_reducible apply qW | with_reducible refine qR ⟨rfl,rfl⟩ ?_ | exact qX | with_reducible apply qS | with_reducible refine qV ⟨rfl,rfl,?_⟩ ?_ | with_reducible apply Az | exact qT rfl | exact qT (by assumption) | (refine⟨⟨?_,rfl,?_,rfl,?_⟩,trivial⟩ <;> first | (simp;done) | (apply qE;intro _;exact⟨rfl,rfl⟩)) | trivial | rfl | (rw[qj (by omega)]) | omega)))
   simp only[ltP];exact⟨rfl,by decide,rfl,qR ⟨rfl,rfl⟩ qX⟩
  refine sW ?_;rw[← jG0 d2 v];exact .oA [] []
 ·rw[Aq h1,Aq h2,Bool.or_comm,show inB v c.low c.high=(decide (c.low≤v)&&decide (v≤c.high)) from rfl];rw[show (c.opt&&v==yh)=(c.opt&&v == -1099511627776) from rfl];exact .oA [] []
theorem zC8 (s:Sch) (h0:schE s=0) (row:List Int) (hr:row.length<4611686018427387904):Spc Tryz.prog qb7 [schT s,vIs row] [] (vB (rowE s row==0)) []:=by
 have hok:=qQ h0;have hnc:=hok.nc;refine qd zn5 mixm (by simp) fun e _ hst=>qg ?_;unfold Yo;simp only[tZ,↓un_u,simprocAttr,tD,bne_iff_ne,Aw];refine⟨fun h2=>?_,fun h2=>?_⟩
 ·have:rowE s row=9:=by rw[rowE,Aq (by rw[h0];simp),Aj (by omega)]
  rw[this];exact .oA [] []
 refine qu mixm (α:=Nat) [16] (fun i=>i≤s.cols.length∧(∀ j,j<i→jC s j (row.getD j 0)=true)) (fun i=>[(16,vI i)]) (fun i=>[(4096,.arr 2 [schT s] false)]) (fun i=>s.cols.length-i) 0 ⟨by omega,?_⟩ ?_ fun i hi=>?_
 ·intro j hj;omega
 ·exact .oA [(4096,some 4096)] []
 simp only[tZ,↓un_u,simprocAttr,AZ,Ay];refine⟨fun h=>?_,fun h=>?_⟩
 ·have hi2:i<s.cols.length:=by omega
  have hi3:i<row.length:=by omega
  have hwi:=qj (i:=i) (by omega);have hF:=qH7 s hok i hi2 row[i];simp only[tZ,↓un_u,simprocAttr,Ax,qe hi2,qe hi3,hwi];refine⟨by omega,by omega,?_⟩;refine C1.im hF (by rfl) (by rfl) ?_;simp only[tZ,↓un_u,simprocAttr,Bx,Bz];refine⟨by kernel_rfl,fun h3=>?_,fun h3=>?_⟩
  ·rw[ji1 h0 (by omega) hi3 h3];exact .oA [] []
  ·refine⟨i+1,⟨by omega,fun j hj=>?_⟩,by omega,?_⟩
   ·by_cases e:j=i
    ·rw[e,qh hi3];exact h3
    ·exact hi.2 j (by omega)
   ·exact .oA [(4096,some 4096)] []
 ·have hil:i=s.cols.length:=by omega
  rw[zW8 h0 (by omega) (fun j hj=>hi.2 j (by omega))];exact .oA [] []
end Go.Proofs
namespace Go.Proofs
open Go Go.TL
def ordB (l:List (List Int)):Bool:=(List.range l.length).all fun i=>decide (0<(l.getD i []).length)&&(decide (i=0)||decide (hd (l.getD (i-1) [])<hd (l.getD i [])))
def hasK (l:List (List Int)) (k:Int):Bool:=l.any fun r=>hd r==k
def appR (a:List (List Int)) (g:List Int) (rs:List (List Int)):List (List Int):=rs.foldl putR (a.filter fun r=>!g.contains (hd r))
theorem jR0 {a b:List (List Int)} (ha:AscR a) (hb:AscR b) (h:∀ r,r∈a↔r∈b):a=b:=by
 refine So.srt_uniq (lt:=fun x y=>decide (hd x<hd y)) ⟨fun x y h=>?_,fun x y z h1 h2=>?_⟩ (ha.imp fun h=>decide_eq_true h) (hb.imp fun h=>decide_eq_true h) h
 ·simp only[AZ] at h;exact decide_eq_false (by omega)
 ·simp only[Ay] at h1 h2 ⊢
  omega
def ascI (l:List Int):Bool:=(List.range l.length).all fun i=>asc2 l i
def appE (a:Ext) (c:Chg):Int:=
 if ordB a.rows=false∨ordB c.rows=false∨ascI c.gone=false∨(c.rows.any fun r=>decide (r.length≠a.picks.length+1))=true then 11
 else if (c.gone.any fun k=>!hasK a.rows k)=true then 21 else if (c.gone.any fun k=>hasK c.rows k)=true then 10 else 0
structure ExtOk (x:Ext):Prop where
 ord:ordB x.rows=true
 len:∀ r∈x.rows,r.length=x.picks.length+1
end Go.Proofs
namespace Go.Proofs
open Go Go.TL
set_option maxRecDepth 4000
set_option maxHeartbeats 8000000
open So
def RwSm (l:List (List Int)):Prop:=l.length≤1000000∧∀ r∈l,r.length*8≤140737488355328
structure ExtSm (x:Ext):Prop where
 rows:RwSm x.rows
 picks:x.picks.length*16≤140737488355328
structure ChgSm (c:Chg):Prop where
 rows:RwSm c.rows
 gone:c.gone.length≤1000000
end Go.Proofs
namespace Go.Proofs
open Go Go.TL
set_option maxHeartbeats 8000000
open So
theorem qH8 (l:List Int) (hl:l.length*8≤140737488355328):Spc Tryz.prog Qr [vIs l] [] (vIs l) []:=by
 refine qd qw6 mixm (by simp) fun e _ hst=>qg ?_;unfold yJ;refine sW ?_;refine⟨fun h=>?_,?_⟩
 ·have:l=[]:=by
   simpa using h
  subst this;exact .oA [] []
 ·refine⟨by omega,?_⟩;exact .oA [] [16384]
theorem Wq (l:List Pk) (hl:l.length*16≤140737488355328):Spc Tryz.prog kj [vPs l] [] (vPs l) []:=by
 refine qd qr3 mixm (by simp) fun e _ hst=>qg ?_;unfold wX;refine sW ?_;refine⟨fun h=>?_,?_⟩
 ·have:l=[]:=by
   simpa using h
  subst this;exact .oA [] []
 ·refine⟨by omega,?_⟩;exact .oA [] [16384]
def idxN (n:Int):List Int→Nat
 | []=>0
 | x::r=>if x=n then 0 else idxN n r+1
theorem jG1 {n:Int}:∀ {l:List Int} {i:Nat} (h:i<l.length),n∉l.take i→l[i]=n→idxN n l=i
 | [],i,h,_,_=>by simp at h
 | x::r,0,h,_,hp=>by simp at hp;simp [idxN,hp]
 | x::r,i+1,h,h1,hp=>by
   simp only[List.take_succ_cons,List.mem_cons,not_or] at h1;simp only[idxN];rw[Aq (fun e=>h1.1 e.symm),jG1 (l:=r) (i:=i) (by simpa using h) h1.2 (by simpa using hp)]
def jj4 (l:List Int) (n:Int):Int:=if n∈l then idxN n l else -1
theorem qH9 (l:List Int) (n:Int) (hl:l.length<4611686018427387904):Spc Tryz.prog Qu [vIs l,vI n] [] (vI (jj4 l n)) []:=by
 refine qd qx1 mixm (by simp) fun e _ hst=>qg ?_;unfold yL;refine sW ?_;refine qu mixm (α:=Nat) [8] (fun i=>i≤l.length∧(n∉l.take i)) (fun i=>[(8,vI i)]) (fun i=>[]) (fun i=>l.length-i) 0 ⟨by omega,?_⟩ ?_ fun i hi=>?_
 ·simp
 ·exact .oA [] []
 simp only[tZ,↓un_u,simprocAttr,AZ,Ay];refine⟨fun h=>?_,fun h=>?_⟩
 ·have hi2:i<l.length:=by omega
  have hwi:=qj (i:=i) (by omega);simp only[tZ,↓un_u,simprocAttr,Ax,qe hi2,hwi,AY,Ak];refine⟨by omega,fun h3=>?_,fun h3=>⟨i+1,⟨by omega,?_⟩,by omega,?_⟩⟩
  ·have hm:n∈l:=by rw[h3];exact AX hi2
   rw[jj4,Aj hm,jG1 hi2 hi.2 h3.symm];exact .imR rfl rfl
  ·rw[qH hi2,List.mem_append];rintro (h4 | h4)
   ·exact hi.2 h4
   ·simp at h4;exact h3 h4
  ·exact .oA [] []
 ·have h2:i=l.length:=by omega
  have h3:=hi.2;rw[h2,List.take_length] at h3;rw[jj4,Aq h3];exact .imR rfl rfl
theorem ww (l:List Int) (n:Int) (hl:l.length<4611686018427387904):Spc Tryz.prog zI [vIs l,vI n] [] (vB (l.contains n)) []:=by
 refine qd qg8 mixm (by simp) fun e _ hst=>qg ?_;unfold kN;refine sW ?_;refine C1.im (qH9 l n hl) rfl (by rfl) ?_;refine sW ?_;refine .imR ?_ rfl;unfold jj4;by_cases h:n∈l
 ·rw[Aj h,List.contains_iff_mem.2 h];simp
 ·rw[Aq h];cases hc:l.contains n
  ·simp
  ·exact absurd (List.contains_iff_mem.1 hc) h
end Go.Proofs
namespace Go.Proofs
open Go Go.TL
set_option maxRecDepth 4000
set_option maxHeartbeats 8000000
end Go.Proofs
namespace Go.Proofs
open Go Go.TL
open Go.TL.So
theorem jG2 (n:Int):Spc Tryz.prog Qz [vI n] [] (vB false) []:=by
 refine qd qV5 mixm (by simp) fun e _ hst=>qg ?_;unfold JM;simp only[tZ,↓un_u,simprocAttr,bne_self_eq_false];exact .oA [] []
theorem zp7 (a b:Int):Spc Tryz.prog WN [vI a,vI b] [] (vB (ltI a b)) []:=by
 refine qd ze3 mixm (by simp) fun e _ hst=>qg ?_;unfold Wc;refine sW ?_;refine C1.im (jG2 a) (by rfl) (by rfl) ?_;refine sW ?_;refine C2.no (by simp) ?_;refine sW ?_;exact .oA [] []
end Go.Proofs
namespace Go.Proofs
open Go Go.TL
set_option maxRecDepth 4000
set_option maxHeartbeats 8000000
structure RwId (l:List (List Int)):Prop where
 asc:AscR l
 pos:∀ r∈l,0<r.length
 ids:∀ r∈l,1≤hd r∧hd r≤1048575
 len:l.length≤1000
open So
theorem WJ (n:Int):Spc Tryz.prog kS [vI n] [] (vB false) []:=by
 refine qd qx6 mixm (by simp) fun e _ hst=>qg ?_;unfold yM;simp only[tZ,↓un_u,simprocAttr,bne_self_eq_false];exact .oA [] []
theorem jG3 {x y:T}:jN7 (some (.v undef)) (some x) (some y)=none:=_root_.id rfl
def insN (l:List Int) (n:Int):Nat:=l.findIdx fun y=>decide (n≤y)
theorem YI (l:List Int) (n:Int) (h:l.Pairwise fun a b=>a<b) (hl:l.length<4611686018427387904):Spc Tryz.prog jG [vIs l,vI n] [] (.tup [vI (insN l n),vB (l.contains n)]) []:=by
 have hp:=List.pairwise_iff_getElem.1 h;refine qd Wx mixm (by simp) fun e _ hst=>qg ?_;unfold jq;refine sW ?_;refine qu mixm (α:=Nat×Nat) [7,8] (fun p=>p.1≤p.2∧p.2≤l.length∧(∀ (m:Nat) (h:m<l.length),m<p.1→l[m]<n)∧(∀ (m:Nat) (h:m<l.length),p.2≤m→¬ l[m]<n)) (fun p=>[(7,vI p.1),(8,vI p.2)]) (fun p=>[]) (fun p=>p.2-p.1) (0,l.length) ?_ ?_ fun p hp=>?_
 ·exact⟨by simp,by simp,fun m h h2=>absurd h2 (by simp),fun m h h2=>absurd h2 (by simp only;omega)⟩
 ·exact .oA [] []
 obtain⟨i,j⟩:=p;obtain⟨h1,h2,h3,h4⟩:=hp;dsimp only at h1 h2 h3 h4;simp only[tZ,↓un_u,simprocAttr,AZ,Ay];refine⟨fun h5=>?_,fun h5=>?_⟩
 ·have hij:i<j:=by omega
  obtain⟨h,hh,hhi,hhj⟩:∃ h:Nat,h=(i+j) / 2∧i≤h∧h<j:=⟨(i+j) / 2,rfl,by omega,by omega⟩;have hw1:IntKind.i64.wrap ((i:Int)+(j:Int))=((i+j:Nat):Int):=by rw[AK _ (by omega)];omega
  have hw2:IntKind.u64.wrap ((i+j:Nat):Int)=((i+j:Nat):Int):=IntWalk.u64_in _ (by omega);have hw3:shrI .u64 ((i+j:Nat):Int) 1=(h:Int):=by
   simp only[shrI];rw[show (min (1:Int).toNat IntKind.u64.bits)=1 from rfl,Int.fdiv_eq_ediv_of_nonneg _ (by decide)];omega
  have hw4:IntKind.i64.wrap (h:Int)=(h:Int):=AK _ (by omega);have hlt:h<l.length:=by omega
  have hws:=qj (i:=h) (by omega);have hcall:=zp7 l[h] n;simp only[tZ,↓un_u,simprocAttr,hw1,hw2,hw3,hw4,Ax,qe hlt];refine⟨by omega,?_⟩;refine C1.im hcall (by rfl) (by rfl) ?_;simp only[tZ,↓un_u,simprocAttr,AZ,Ay,hws,ltI];refine⟨fun h6=>?_,fun h6=>?_⟩
  ·refine⟨(h+1,j),⟨by simp only;omega,h2,fun m hm1 hm2=>?_,h4⟩,by simp only;omega,?_⟩
   ·by_cases hmh:m=h
    ·subst hmh;exact h6
    ·have:=hp m h hm1 hlt (by simp only at hm2;omega);omega
   ·exact .oA [] []
  ·refine⟨(i,h),⟨by simp only;omega,by simp only;omega,h3,fun m hm1 hm2 hm3=>?_⟩,by simp only;omega,?_⟩
   ·by_cases hmh:m=h
    ·subst hmh;exact h6 hm3
    ·have:=hp h m hlt hm1 (by simp only at hm2;omega);omega
   ·exact .oA [] []
 ·have hij:i=j:=by omega
  subst hij;have hfi:insN l n=i:=by
   unfold insN;by_cases hil:i<l.length
   ·refine yV hil ?_ (by have:=h4 i hil (Nat.le_refl _);simp;omega);rw[List.any_eq_false];intro y hy;obtain⟨m,hm1,rfl⟩:=List.getElem_of_mem hy;rw[List.length_take] at hm1;rw[List.getElem_take];have:=h3 m (by omega) (by omega);simp;omega
   ·have:i=l.length:=by omega
    subst this;rw[List.findIdx_eq_length];intro y hy;obtain⟨m,hm1,rfl⟩:=List.getElem_of_mem hy;have:=h3 m hm1 hm1;simp;omega
  rw[hfi];by_cases hil:i<l.length
  ·have hg:decide ((i:Int)<(l.length:Int))=true:=by simp;omega
   have hct:l.contains n=(l[i]==n):=by
    rw[Bool.eq_iff_iff,List.contains_iff_mem,AY];constructor
    ·intro hm;obtain⟨m,hm1,rfl⟩:=List.getElem_of_mem hm;by_cases c1:m<i
     ·have:=h3 m hm1 c1;omega
     ·by_cases c2:i<m
      ·have:=hp i m hil hm1 c2;have:=h4 i hil (Nat.le_refl _);omega
      ·have:i=m:=by omega
       subst this;rfl
    ·intro e;rw[← e];exact AX hil
   rw[hct];have hnn:=WJ l[i];simp only[tZ,↓un_u,simprocAttr,hg,Ax,qe hil];refine⟨fun _=>by omega,fun _=>by omega,?_⟩;refine C2.im (fun _=>hnn) (fun _=>rfl) (by rfl) ?_;refine sW ?_;refine C2.im (fun _=>WJ n) (fun _=>rfl) (by rfl) ?_;refine sW ?_;exact .oA [] []
  ·have hg:decide ((i:Int)<(l.length:Int))=false:=by simp;omega
   have hct:l.contains n=false:=by
    cases e:l.contains n with
    | false=>rfl
    | true=>
      obtain⟨m,hm1,rfl⟩:=List.getElem_of_mem (List.contains_iff_mem.1 e);have:=h3 m hm1 (by omega);omega
   rw[hct];have hj:(l.map vI).getD i T.junk=T.junk:=by rw[List.getD_eq_getElem?_getD,List.getElem?_eq_none (by rw[List.length_map];omega)];rfl
   simp only[tZ,↓un_u,simprocAttr,hg,Ax,hj];refine⟨fun h=>by omega,by omega,?_⟩;simp only[tZ,↓un_u,simprocAttr,hg,ja2];refine C2.no (fun h=>h) ?_;simp only[tZ,↓un_u,simprocAttr,hg,ja2];refine C2.no (fun h=>h) ?_;simp only[tZ,↓un_u,simprocAttr,hg,ja2,jG3,zw5,not_false_eq_true,true_and];exact .oA [] []
end Go.Proofs
namespace Go.Proofs
open Go Go.TL
set_option maxRecDepth 4000
set_option maxHeartbeats 8000000
theorem zh2 {s:Src} (h:SrcOk s→False):srcB s=false:=by
 cases e:srcB s with
 | false=>rfl
 | true=>exact (h (qy8.1 e)).elim
theorem qt8 (s:Src) (hn:s.sch.cols.length<4611686018427387904) (hl:s.sch.lists.length<4611686018427387904) (hr:∀ r∈s.rows,r.length<4611686018427387904):Spc Tryz.prog ZS [srcT s] [] (vB (srcB s)) []:=by
 have hC:=zZ s.sch hn hl;refine qd zc6 mixm (by simp) fun e _ hst=>qg ?_;unfold KP;refine sW ?_;refine C1.im hC (by rfl) (by rfl) ?_;simp only[tZ,↓un_u,simprocAttr,tD,bne_iff_ne,Aw];refine⟨fun h=>?_,fun h=>?_⟩
 ·rw[zh2 fun k=>by have h1:=k.sch;have h2:=k.nr;have h3:=k.ng;have h4:=k.ver;omega];exact .oA [] []
 refine qu mixm (α:=Nat) [38] (fun i=>i≤s.gone.length∧∀ j,j<i→(1≤s.gone.getD j 0∧s.gone.getD j 0≤1048575)∧asc2 s.gone j=true) (fun i=>[(38,vI i)]) (fun i=>[(4096,.arr 5 [srcT s] false)]) (fun i=>s.gone.length-i) 0 ⟨by omega,fun j h=>by omega⟩ ?_ fun i hi=>?_
 ·exact .oA [(4096,some 4096)] []
 obtain⟨i1,i2⟩:=hi;refine sD ?_;refine⟨fun h2=>?_,fun h2=>?_⟩
 ·have hi2:i<s.gone.length:=by omega
  have hwi:=qj (i:=i) (by omega);have hg:s.gone.getD i 0=s.gone[i]:=qh hi2;obtain⟨k,hk1,hk2,hk3⟩:∃ k:Nat,(IntKind.i64.wrap ((i:Int)-1)).toNat=k∧k<s.gone.length∧(i=0∧k=0∨0<i∧k+1=i∧IntKind.i64.wrap ((i:Int)-1)=k):=by
   rcases Nat.eq_zero_or_pos i with h0 | h0
   ·subst h0;exact⟨0,by decide,hi2,.inl ⟨rfl,rfl⟩⟩
   ·have e:=jO h0 (show i<4611686018427387904 by omega);exact⟨i-1,by rw[e];omega,by omega,.inr ⟨h0,by omega,e⟩⟩
  have hgq:s.gone.getD k 0=s.gone[k]:=qh hk2;simp only[tZ,↓un_u,simprocAttr,Ax,qe hi2,hk1,qe hk2,hwi,gt_iff_lt,tD];refine⟨by omega,fun _=>by omega,fun h3=>?_,fun h3=>?_⟩
  ·rw[zh2 fun w=>by
    have h4:=w.gone _ (AX hi2);rcases hk3 with⟨h5,_⟩ | ⟨h5,h6,_⟩
    ·omega
    ·have h7:=List.pairwise_iff_getElem.1 w.gasc k i hk2 hi2 (by omega);omega]
   exact .oA [] []
  ·refine⟨i+1,⟨by omega,fun j hj=>?_⟩,by omega,?_⟩
   ·by_cases e:j=i
    ·subst e;rw[hg];refine⟨by omega,?_⟩;unfold asc2;rw[Bool.or_eq_true,AZ,AZ];rcases hk3 with⟨h5,_⟩ | ⟨h5,h6,_⟩
     ·exact .inl h5
     ·rw[hg,show j-1=k by omega,hgq];omega
    ·exact i2 j (by omega)
   ·exact .oA [(4096,some 4096)] []
 have hil:i=s.gone.length:=by omega
 subst hil;have hgasc:s.gone.Pairwise fun a b=>a<b:=by
  refine jn9 (f:=fun x:Int=>x) fun i h0 hi=>?_;have:=(i2 i hi).2;unfold asc2 at this;simp only[Bool.or_eq_true,AZ] at this;exact this.resolve_left (by omega)
 have hgin:∀ g∈s.gone,1≤g∧g≤1048575:=fun g hg=>by
  obtain⟨j,hj,rfl⟩:=List.getElem_of_mem hg;have:=(i2 j hj).1
  rwa [show s.gone.getD j 0=s.gone[j] from qh hj] at this
 have h0:schE s.sch=0:=by omega
 have hok:=qQ h0;have hnc:=hok.nc;refine qu mixm (α:=Nat) [67] (fun i=>i≤s.rows.length∧∀ j,j<i→rowE s.sch (s.rows.getD j default)=0∧(0<j→hd (s.rows.getD (j-1) default)<hd (s.rows.getD j default))∧s.gone.contains (hd (s.rows.getD j default))=false) (fun i=>[(67,vI i)]) (fun i=>[(4096,.arr 5 [srcT s] false)]) (fun i=>s.rows.length-i) 0 ⟨by omega,fun j h=>by omega⟩ ?_ fun i hi=>?_
 ·exact .oA [(4096,some 4096)] []
 obtain⟨j1,j2⟩:=hi;refine sD ?_;refine⟨fun h2=>?_,fun h2=>?_⟩
 ·have hi2:i<s.rows.length:=by omega
  have hwi:=qj (i:=i) (by omega);have hg:s.rows.getD i default=s.rows[i]:=qh hi2;have hF:=zC8 s.sch h0 s.rows[i] (hr _ (AX hi2));have hB:=YI s.gone (hd s.rows[i]) hgasc (by omega);simp only[tZ,↓un_u,simprocAttr,Ax,qe hi2];refine⟨by omega,?_⟩;obtain⟨k,hk1,hk2,hk3⟩:∃ k:Nat,(IntKind.i64.wrap ((i:Int)-1)).toNat=k∧k<s.rows.length∧(i=0∧k=0∨0<i∧k+1=i∧IntKind.i64.wrap ((i:Int)-1)=k):=by
   rcases Nat.eq_zero_or_pos i with h0 | h0
   ·subst h0;exact⟨0,by decide,hi2,.inl ⟨rfl,rfl⟩⟩
   ·have e:=jO h0 (show i<4611686018427387904 by omega);exact⟨i-1,by rw[e];omega,by omega,.inr ⟨h0,by omega,e⟩⟩
  by_cases hp:0<s.rows[i].length
  ·have hgi:=kR hp;have hgk:s.rows.getD k default=s.rows[k]:=qh hk2;have hpk:0<s.rows[k].length:=by
    rcases hk3 with⟨rfl,rfl⟩ | ⟨h5,h6,_⟩
    ·exact hp
    ·have:=(j2 k (by omega)).1;rw[hgk] at this;exact YD this
   have hgi2:=kR hpk;refine C1.im hF (by rfl) (by rfl) ?_;simp only[tZ,↓un_u,simprocAttr,Ax,hk1,qe hk2,hgi,hgi2,tD,gt_iff_lt,Bx,Bz,AY,Ak];refine⟨fun _=>by omega,fun _=>by omega,fun _=>by omega,by kernel_rfl,fun h3=>?_,fun h3=>?_⟩
   ·rw[zh2 fun w=>by
     have h4:=w.rows _ (AX hi2);rcases hk3 with⟨h5,_⟩ | ⟨h5,h6,_⟩
     ·omega
     ·have h7:=List.pairwise_iff_getElem.1 w.asc k i hk2 hi2 (by omega);omega]
    exact .oA [] []
   have hE:rowE s.sch s.rows[i]=0:=h3.1;refine⟨by omega,?_⟩;refine C1.im hB (by rfl) (by rfl) ?_;refine sW ?_;refine⟨by kernel_rfl,fun h8=>?_,fun h8=>?_⟩
   ·rw[zh2 fun w=>by
     have h4:=(w.gone _ (List.contains_iff_mem.1 h8)).2.2;have h5:=zQ2.1 h4 _ (AX hi2);rw[ji8 hE] at h5;simp at h5]
    exact .oA [] []
   ·simp only[tZ,↓un_u,simprocAttr,hwi];refine⟨i+1,⟨by omega,fun j hj=>?_⟩,by omega,?_⟩
    ·by_cases e:j=i
     ·subst e;rw[hg];refine⟨hE,fun h0=>?_,h8⟩;rcases hk3 with⟨h5,_⟩ | ⟨h5,h6,_⟩
      ·omega
      ·rw[show j-1=k by omega,hgk];omega
     ·exact j2 j (by omega)
    ·exact .oA [(4096,some 4096)] []
  ·have hv:(rowE s.sch s.rows[i]==0)=false:=beq_eq_false_iff_ne.2 fun e=>hp (YD e);have hn:s.rows[i]=[]:=List.length_eq_zero_iff.1 (by omega);rw[hv,hn] at hF;rw[hn];refine C1.im hF (by rfl) (by rfl) ?_;simp only[tZ,↓un_u,simprocAttr,Ax,hk1,qe hk2,ja2,jG3,zw5,not_false_eq_true,true_and];refine⟨by kernel_rfl,?_⟩;rw[zh2 fun w=>hp (YD (w.rows _ (AX hi2)))];exact .oA [] []
 ·have hil:i=s.rows.length:=by omega
  subst hil;have hk:SrcOk s:=by
   refine⟨h0,by omega,by omega,by omega,fun r hr=>?_,?_,fun g hg=>?_,hgasc⟩
   ·obtain⟨j,hj,rfl⟩:=List.getElem_of_mem hr;have:=(j2 j hj).1
    rwa [show s.rows.getD j default=s.rows[j] from qh hj] at this
   ·exact jn9 (f:=hd) fun i h0 hi=>(j2 i hi).2.1 h0
   ·obtain⟨g1,g2⟩:=hgin g hg;refine⟨g1,g2,zQ2.2 fun r hr=>?_⟩;obtain⟨j,hj,rfl⟩:=List.getElem_of_mem hr;have h4:=j2 j hj;rw[show s.rows.getD j default=s.rows[j] from qh hj] at h4;rw[ji8 h4.1];cases e:hd s.rows[j]==g with
    | false=>rfl
    | true=>
      rw[AY] at e;rw[e,List.contains_iff_mem.2 hg] at h4;cases h4.2.2
  rw[qy8.2 hk];exact .oA [] []
end Go.Proofs
namespace Go.Proofs
open Go Go.TL
set_option maxRecDepth 4000
set_option maxHeartbeats 8000000
theorem qW0 (l:List Int) (m:Int) (hm:m∈l) (hle:∀ x∈l,x≤m) (hl:l.length<4611686018427387904):Spc Tryz.prog Jo [vIs l] [] (vI m) []:=by
 have h0:0<l.length:=List.length_pos_of_mem hm;have e0:decide ((l.length:Int)<1)=false:=decide_eq_false (by omega);refine qd qM8 mixm (by simp) fun e _ hst=>qg ?_;unfold ZK;simp only[tZ,↓un_u,simprocAttr,e0,qe h0];refine⟨by omega,?_⟩;refine qu mixm (α:=Nat×Int) [3,4] (fun q=>1≤q.1∧q.1≤l.length∧q.2∈l∧∀ x∈l.take q.1,x≤q.2) (fun q=>[(3,vI q.2),(4,vI q.1)]) (fun q=>[]) (fun q=>l.length-q.1) (1,l[0]) ⟨by simp,by dsimp only;omega,AX h0,fun x hx=>by
  rw[show l.take 1=[l[0]] by cases l with | nil=>simp at h0 | cons a r=>rfl,List.mem_singleton] at hx;rw[hx];exact Int.le_refl _⟩ ?_ fun q hq=>?_
 ·exact .oA [] []
 obtain⟨i,v⟩:=q;obtain⟨i0,i1,i2,i3⟩:=hq;dsimp only at i0 i1 i2 i3;refine sD ?_;refine⟨fun h2=>?_,fun h2=>?_⟩
 ·have hi2:i<l.length:=by omega
  have hwi:=qj (i:=i) (by omega);simp only[tZ,↓un_u,simprocAttr,Ax,qe hi2,hwi];refine⟨by omega,(i+1,maxI v l[i]),⟨by dsimp only;omega,by dsimp only;omega,?_,fun x hx=>?_⟩,by dsimp only;omega,?_⟩
  ·dsimp only[maxI];split
   ·exact AX hi2
   ·exact i2
  ·dsimp only at hx;dsimp only[maxI];rw[qH hi2] at hx;rcases List.mem_append.1 hx with k | k
   ·have:=i3 x k;split <;> omega
   ·rw[List.mem_singleton.1 k];split <;> omega
  ·exact .oA [] []
 ·have hv:v=m:=by
   have h5:=hle v i2;have h6:=i3 m (by rw[List.take_of_length_le (by omega)];exact hm);omega
  rw[hv];exact .oA [] []
theorem ZV (l:CodL):Spc Tryz.prog kG [cdlT l] [] (vI (zh l)) []:=by
 refine qd ze9 mixm (by simp) fun e _ hst=>qg ?_;unfold Wh;refine sW ?_;refine C1.im (Kl l) (by rfl) (by rfl) ?_;simp only[tZ,↓un_u,simprocAttr,bne_iff_ne,Aw];refine⟨fun h=>?_,fun h=>?_⟩
 ·rw[zh,Aj h];exact .oA [] []
 obtain⟨hp,h1,h2⟩:=zg h;have hdl:=qp5 l.codes;have hL:zh l=(dep l.codes (l.codes.length-1):Int)+1:=by rw[zh,Aq (by rw[h];simp)]
 have hd:=qR0 hp (l.codes.length-1) (by omega);have hM:=qW0 (depL l.codes) (dep l.codes (l.codes.length-1)) (List.mem_map.2 ⟨l.codes.length-1,List.mem_range.2 (by omega),rfl⟩) (fun x hx=>by
  obtain⟨c,hc,rfl⟩:=List.mem_map.1 hx;have:=(zX6 h (List.mem_range.1 hc)).1;omega) (by omega)
 have hw:=qj (i:=dep l.codes (l.codes.length-1)) (by omega);refine C1.im (yl l (qH6 h)) (by rfl) (by rfl) ?_;refine sW ?_;refine C1.im hM (by rfl) (by rfl) ?_;simp only[tZ,↓un_u,simprocAttr,hw];rw[hL];exact .oA [] []
def hasB (l:CodL) (c:Int):Bool:=decide (0≤c)&&decide (c<l.codes.length)&&(lstE l==0)
theorem qz1 (l:CodL) (c:Int):Spc Tryz.prog KJ [cdlT l,vI c] [] (vB (hasB l c)) []:=by
 refine qd zN7 mixm (by simp) fun e _ hst=>qg ?_;unfold qm1;refine sW ?_;refine C2.im (fun _=>Kl l) (fun _=>rfl) (by rfl) ?_;refine sW ?_;rw[show hasB l c=(decide (0≤c)&&decide (c<l.codes.length)&&(lstE l==0)) from rfl];exact .oA [] []
theorem qI0 {l:CodL} {c:Int}:hasB l c=true↔0≤c∧c<l.codes.length∧lstE l=0:=by
 unfold hasB;rw[Bq,Bq,AZ,AZ,AY,and_assoc]
theorem zC9 {cs:List Cod} {c:Nat} (h:c<(depL cs).length):(depL cs)[c]=dep cs c:=by simp [depL]
theorem qp6 (l:CodL) (lev:Int):Spc Tryz.prog Kr [cdlT l,vI lev] [] (vIs (atL l lev)) []:=by
 refine qd zW5 mixm (by simp) fun e _ hst=>qg ?_;unfold qx7;refine sW ?_;refine C1.im (Kl l) (by rfl) (by rfl) ?_;simp only[tZ,↓un_u,simprocAttr,bne_iff_ne,Aw];refine⟨fun h=>?_,fun h=>?_⟩
 ·rw[atL,Aj h];exact .oA [] []
 obtain⟨hp,h1,h2⟩:=zg h;have e:atL l lev=atN l.codes lev l.codes.length:=by rw[atL,Aq (by rw[h];simp)];rfl
 rw[e];have hdl:=qp5 l.codes;refine C1.im (yl l (qH6 h)) (by rfl) (by rfl) ?_;refine sW ?_;refine qu mixm (α:=Nat) [5,14] (fun i=>i≤l.codes.length) (fun i=>[(5,.asl 1 (atN l.codes lev i).length),(14,vI i)]) (fun i=>[(1,.arr 1 ((atN l.codes lev i).map vI) false)]) (fun i=>l.codes.length-i) 0 (by omega) ?_ fun i hi=>?_
 ·simp only[atN,List.range_zero,List.filter_nil,List.map_nil,List.length_nil];exact .oA [(1,none)] []
 have hli:=jE1 l.codes lev i;refine sD ?_;refine⟨fun h3=>?_,fun h3=>?_⟩
 ·have hi2:i<(depL l.codes).length:=by omega
  have hwi:=qj (i:=i) (by omega);have hs:=jh9 l.codes lev i;simp only[tZ,↓un_u,simprocAttr,Ax,qe hi2,zC9 hi2,AY,Ak,hwi];refine⟨by omega,fun h4=>?_,fun h4=>?_⟩
  ·rw[Aj h4] at hs;refine⟨by omega,i+1,by omega,by omega,?_⟩;rw[hs];exact .oA [(1,some 1)] []
  ·rw[Aq h4,List.append_nil] at hs;refine⟨i+1,by omega,by omega,?_⟩;rw[hs];exact .oA [(1,some 1)] []
 ·have hil:i=l.codes.length:=by omega
  subst hil;exact .oA [] [1]
theorem qa3 (l:CodL) (c lev:Int):Spc Tryz.prog yW [cdlT l,vI c,vI lev] [] (vI (upC l c lev)) []:=by
 refine qd zV9 mixm (by simp) fun e _ hst=>qg ?_;unfold qw9;refine sW ?_;refine C1.im (qz1 l c) (by rfl) (by rfl) ?_;simp only[tZ,↓un_u,simprocAttr,tD,Bx,Bz];refine⟨fun h=>?_,fun h=>?_⟩
 ·have:upC l c lev = -1:=by
   rw[upC];by_cases k:lstE l≠0∨c<0∨c≥l.codes.length∨lev<0∨lev>dep l.codes c.toNat
   ·rw[Aj k]
   ·rcases h with h | h
    ·have:=qI0 (l:=l) (c:=c);rw[h] at this;exact absurd (this.2 ⟨by omega,by omega,AQ fun q=>k (.inl q)⟩) (by simp)
    ·omega
  rw[this];exact .oA [] []
 obtain⟨h0,h1,h2⟩:=qI0.1 h.1;obtain⟨hp,h3,h4⟩:=zg h2;obtain⟨k,rfl⟩:=AJ h0;obtain⟨v,rfl⟩:=AJ (show 0≤lev by omega);have hdl:=qp5 l.codes;have hk:k<(depL l.codes).length:=by omega
 have hdk:=qR0 hp k (by omega);refine C1.im (yl l (qH6 h2)) (by rfl) (by rfl) ?_;simp only[tZ,↓un_u,simprocAttr,Ax,qe hk,zC9 hk];refine⟨by omega,?_⟩;by_cases hlv:dep l.codes k<v
 ·have hU:upC l k v = -1:=by rw[upC,Aj (by simp;omega)]
  rw[hU];refine qu mixm (α:=Unit) [1,7] (fun _=>True) (fun _=>[(1,vI k),(7,vI (dep l.codes k))]) (fun _=>[(4096,.arr 2 [cdlT l] false)]) (fun _=>0) () trivial ?_ fun _ _=>?_
  ·exact .oA [(4096,some 4096)] []
  have e0:decide ((dep l.codes k:Int)≥(v:Int))=false:=decide_eq_false (by omega);have e1:decide ((v:Int)≤(dep l.codes k:Int))=false:=decide_eq_false (by omega);simp only[tZ,↓un_u,simprocAttr,e0,e1];exact .oA [] []
 have hU:upC l k v=upF l.codes v (k+1) k:=by rw[upC,Aq (by simp;omega),Ax,Ax]
 rw[hU];refine qu mixm (α:=Nat) [1,7] (fun x=>x<l.codes.length∧v≤dep l.codes x∧upF l.codes v (k+1) k=upF l.codes v (x+1) x) (fun x=>[(1,vI x),(7,vI (dep l.codes x))]) (fun x=>[(4096,.arr 2 [cdlT l] false)]) (fun x=>x) k ⟨by omega,by omega,rfl⟩ ?_ fun x hx=>?_
 ·exact .oA [(4096,some 4096)] []
 obtain⟨x1,x2,x3⟩:=hx;have hcd:l.codes[x].par=parC l.codes x:=by rw[parC,cdAt,qh x1]
 have e0:decide ((dep l.codes x:Int)≥(v:Int))=true:=decide_eq_true (by omega);have e1:decide ((v:Int)≤(dep l.codes x:Int))=true:=decide_eq_true (by omega);have hdx:=qR0 hp x x1;simp only[tZ,↓un_u,simprocAttr,e0,e1,Ax,qe x1,hcd,AY,Ak];refine⟨fun h6=>?_,fun h6=>?_⟩
 ·rw[x3,ji0 (by omega)];exact .oA [] []
 ·obtain⟨u1,u2,u3,u4⟩:=up_step hp (lev:=v) x1 (by omega);obtain⟨p,hpe⟩:=AJ u1;have hw:IntKind.i64.wrap ((dep l.codes x:Int)-1)=(dep l.codes p:Int):=by
   rw[AK _ (by omega),u3,hpe,Ax];omega
  rw[hpe,Ax] at u4 u3;simp only[tZ,↓un_u,simprocAttr,hpe,hw];refine⟨by omega,p,⟨by omega,by omega,x3.trans u4⟩,by omega,?_⟩;exact .oA [(4096,some 4096)] []
theorem zD0 (l:CodL) (c a:Int):Spc Tryz.prog qc2 [cdlT l,vI c,vI a] [] (vB (qm4 l c a)) []:=by
 refine qd zp3 mixm (by simp) fun e _ hst=>qg ?_;unfold Yz;refine sW ?_;refine C1.im (qz1 l c) (by rfl) (by rfl) ?_;refine sW ?_;refine C2.im (fun _=>qz1 l a) (fun _=>rfl) (by rfl) ?_;simp only[tZ,↓un_u,simprocAttr,Bool.or_eq_true,Bool.or_eq_false_iff,Bx,Bz];refine⟨fun h=>?_,fun h=>?_⟩
 ·have:qm4 l c a=false:=by
   cases e:qm4 l c a with
   | false=>rfl
   | true=>
     unfold qm4 at e;simp only[Bq,AZ,AY] at e;obtain⟨⟨e1,e2⟩,e3⟩:=e;have key:∀ x,0≤lvlC l x→hasB l x=true:=fun x hx=>by
      rw[qI0];unfold lvlC at hx;split at hx
      ·omega
      ·rename_i q;exact⟨by omega,by omega,AQ fun z=>q (.inl z)⟩
     have ha:=key a e1;have hc:=key c (by omega);rcases h with h | h
     ·rw[hc] at h;cases h
     ·rw[ha] at h;cases h
  rw[this];exact .oA [] []
 obtain⟨c0,c1,c2⟩:=qI0.1 h.1;obtain⟨a0,a1,_⟩:=qI0.1 h.2;obtain⟨hp,h3,h4⟩:=zg c2;obtain⟨k,rfl⟩:=AJ c0;obtain⟨j,rfl⟩:=AJ a0;have hdl:=qp5 l.codes;have hj:j<(depL l.codes).length:=by omega
 have hdk:=qR0 hp k (by omega);have hdj:=qR0 hp j (by omega);have l1:lvlC l j=dep l.codes j:=by rw[lvlC,Aq (by rw[c2];simp;omega),Ax]
 have l2:lvlC l k=dep l.codes k:=by rw[lvlC,Aq (by rw[c2];simp;omega),Ax]
 have hU:qm4 l k j=(upC l k (dep l.codes j)==(j:Int)):=by
  unfold qm4;rw[l1,l2,decide_eq_true (by omega),Bool.true_and];by_cases q:(dep l.codes j:Int)≤dep l.codes k
  ·rw[decide_eq_true q,Bool.true_and]
  ·rw[decide_eq_false q,Bool.false_and,upC,Aj (by simp;omega)]
   symm
   exact beq_eq_false_iff_ne.2 (by omega)
 rw[hU];refine C1.im (yl l (qH6 c2)) (by rfl) (by rfl) ?_;simp only[tZ,↓un_u,simprocAttr,Ax,qe hj,zC9 hj];refine⟨by omega,?_⟩;refine C1.im (qa3 l k (dep l.codes j)) (by rfl) (by rfl) ?_;refine sW ?_
 repeat (first | refine⟨by omega,?_⟩ | refine⟨by kernel_rfl,?_⟩)
 exact .oA [] []
end Go.Proofs
namespace Go.Proofs
open Go Go.TL
set_option maxRecDepth 4000
set_option maxHeartbeats 8000000
theorem zX7 {n w:Int} (hw:0<w):qG n w*w=n-(if n.tmod w<0 then n.tmod w+w else n.tmod w):=by
 have h1:=Int.mul_tdiv_add_tmod n w;rw[Int.mul_comm] at h1;rw[zA7 hw];split
 ·rw[Int.sub_mul];omega
 ·omega
theorem wK (n w:Int) (hw:0<w∧w≤1000000) (hn : -4611686018427387904<n∧n<4611686018427387904):Spc Tryz.prog zT [vI n,vI w] [] (vI (qG n w*w)) []:=by
 rw[zX7 hw.1];have h2:=Int.tmod_lt_of_pos n hw.1;have h3:=Int.lt_tmod_of_pos n hw.1;have w1:IntKind.i64.wrap (n.tmod w)=n.tmod w:=AK _ (by omega);have w2:IntKind.i64.wrap (n.tmod w+w)=n.tmod w+w:=AK _ (by omega);have w3:IntKind.i64.wrap (n-n.tmod w)=n-n.tmod w:=AK _ (by omega);have w4:IntKind.i64.wrap (n-(n.tmod w+w))=n-(n.tmod w+w):=AK _ (by omega);refine qd zn9 mixm (by simp) fun e _ hst=>qg ?_;unfold Yq;simp only[tZ,↓un_u,simprocAttr,w1,w2,w3,w4,tD];refine⟨by omega,fun h=>?_,fun h=>?_⟩
 ·rw[Aj h];exact .oA [] []
 ·rw[Aq h];exact .oA [] []
theorem ZW (c:Col) (lev:Int) (h1:1≤lev∧lev≤c.widths.length) (h2:c.widths.length<4611686018427387904):Spc Tryz.prog kF [colT c,vI lev] [] (vI (qD c lev)) []:=by
 have hw:IntKind.i64.wrap ((c.widths.length:Int)-lev)=(c.widths.length:Int)-lev:=AK _ (by omega);have hk:((c.widths.length:Int)-lev).toNat<c.widths.length:=by omega
 refine qd ze1 mixm (by simp) fun e _ hst=>qg ?_;unfold KZ;simp only[tZ,↓un_u,simprocAttr,hw,qe hk];rw[qD,qh hk];refine⟨by omega,?_⟩;exact .oA [] []
theorem wx (s:Sch) (hE:schE s=0) (c:Int):Spc Tryz.prog kZ [schT s,vI c] [] (vI (finI s c)) []:=by
 have hok:=qQ hE;have hnc:=hok.nc;refine qd qU5 mixm (by simp) fun e _ hst=>qg ?_;unfold JF;refine sD ?_;refine⟨fun h=>?_,fun h=>?_⟩
 ·rw[finI,Aj (by omega)];exact .oA [] []
 obtain⟨i,rfl⟩:=AJ (show 0≤c by omega);have hi:i<s.cols.length:=by omega
 have hat:qk s i=s.cols[i]:=by rw[qk,qh hi]
 have hk:=za (hok.cs i hi);have hcd:=fun e=>hok.cdl hi e;have hcl:qJ s i=s.lists.getD s.cols[i].list.toNat default:=by rw[qJ,hat]
 rw[hat] at hk hcd;rw[hcl] at hcd;rw[finI,Aq (by omega),Ax,hcl,hat];simp only[tZ,↓un_u,simprocAttr,Ax,qe hi];generalize s.cols[i]=x at hk hcd ⊢
 simp only[tZ,↓un_u,simprocAttr,AY,Ak];refine⟨by omega,fun h2=>?_,fun h2=>?_⟩
 ·obtain⟨d1,d2⟩:=hcd h2;obtain⟨d3,d4⟩:=hk.2.2.2.1 h2;have hgl:s.lists.getD x.list.toNat default=s.lists[x.list.toNat]:=qh d1;rw[Aj h2];rw[hgl] at d2 ⊢
  simp only[tZ,↓un_u,simprocAttr,qe d1];generalize s.lists[x.list.toNat]=l at d2 ⊢
  have hlv:=qm5 (l:=l);have hw2:IntKind.i64.wrap (zh l-1)=zh l-1:=AK _ (by omega);refine⟨by omega,?_⟩;refine C1.im (ZV l) (by rfl) (by rfl) ?_;simp only[tZ,↓un_u,simprocAttr,hw2];exact .oA [] []
 ·rw[Aq h2];exact .oA [] []
theorem Wr (s:Sch) (hs:yd s) (c:Int):Spc Tryz.prog kX [schT s,vI c] [] (vI (finI s c)) []:=by
 refine qd qT4 mixm (by simp) fun e _ hst=>qg ?_;unfold Jv;refine sW ?_;refine C1.im (zZ s hs.2.1 hs.1) (by rfl) (by rfl) ?_;simp only[tZ,↓un_u,simprocAttr,bne_iff_ne,Aw];refine⟨fun h=>?_,fun h=>?_⟩
 ·rw[finI,Aj (.inl h)];exact .oA [] []
 refine C1.im (wx s h c) (by rfl) (by rfl) ?_;refine sW ?_;exact .oA [] []
theorem zh3 (s:Sch) (hs:yd s) (c lev v:Int):Spc Tryz.prog KB [schT s,vI c,vI lev,vI v] [] (vI (qU s c lev v)) []:=by
 refine qd qT1 mixm (by simp) fun e _ hst=>qg ?_;unfold Ju;refine sW ?_;refine C1.im (Wr s hs c) (by rfl) (by rfl) ?_;refine sD ?_;refine⟨fun h=>?_,fun h=>?_⟩
 ·rw[qU,Aj (qm6.2 (by omega))];exact .oA [] []
 obtain⟨hE,c1,c2,hfin⟩:=yR (s:=s) (c:=c) (by omega);have hok:=qQ hE;obtain⟨i,rfl⟩:=AJ (show 0≤c by omega);rw[Ax] at hfin;have hi:i<s.cols.length:=by omega
 have hat:qk s i=s.cols[i]:=by rw[qk,qh hi]
 have hk:=za (hok.cs i hi);have hcd:=fun e=>hok.cdl hi e;have hwd:=fun e l=>hok.wid hi (by omega) e (lev:=l);have hcl:qJ s i=s.lists.getD s.cols[i].list.toNat default:=by rw[qJ,hat]
 have hE2:qU s i lev v=if s.cols[i].kind=2 then (if jC s i v=false then -1 else upC (qJ s i) v lev)
  else if v≠yh∧inB v (-1000000) 1000000=false then -1
  else if lev=0 then 0 else if v=yh then v else qG v (qD s.cols[i] lev)*qD s.cols[i] lev:=by
  rw[qU,Aq (by rw[Bool.not_eq_false,Jc];omega),Ax,hat]
 rw[hE2];rw[hat] at hk hcd hwd hfin;rw[hcl] at hcd ⊢
 simp only[tZ,↓un_u,simprocAttr,Ax,qe hi];have hho:=qH7 s hok i hi v;generalize s.cols[i]=x at hk hcd hwd hfin hho ⊢
 refine⟨by omega,?_⟩;refine C2.im (fun _=>hho) (fun _=>rfl) (by rfl) ?_;simp only[tZ,↓un_u,simprocAttr,tD,bne_iff_ne,Aw,Bx,Bz,AY,Ak];rw[show (-1099511627776:Int)=yh from rfl];refine⟨fun h3=>?_,fun h3=>⟨fun h2=>?_,fun h2=>?_⟩⟩
 ·rw[Aj h3.1,Aj h3.2];exact .oA [] []
 ·rw[Aj h2];obtain⟨d1,d2⟩:=hcd h2;obtain⟨d3,d4⟩:=hk.2.2.2.1 h2;have hgl:s.lists.getD x.list.toNat default=s.lists[x.list.toNat]:=qh d1;rw[hgl] at d2 ⊢
  rw[Aq (by grind)];simp only[tZ,↓un_u,simprocAttr,qe d1];generalize s.lists[x.list.toNat]=l at d2 ⊢
  refine⟨by omega,?_⟩;refine C1.im (qa3 l v lev) (by rfl) (by rfl) ?_;refine sW ?_;exact .oA [] []
 rw[Aq h2];rw[Aq h2] at hfin;refine⟨fun h3=>?_,fun h3=>?_⟩
 ·rw[Aj ⟨by omega,qm6.2 (by omega)⟩];exact .oA [] []
 rw[Aq (by rw[qm6];omega)];refine⟨fun h4=>?_,fun h4=>?_⟩
 ·rw[Aj h4];exact .oA [] []
 rw[Aq h4];refine⟨fun h5=>?_,fun h5=>?_⟩
 ·rw[Aj h5,h5];exact .oA [] []
 rw[Aq h5];obtain⟨w1,w2,w3,w4,_⟩:=hwd h2 lev (by omega);refine C1.im (ZW x lev (by omega) (by omega)) (by rfl) (by rfl) ?_;refine sW ?_;refine C1.im (wK v (qD x lev) (by omega) (by omega)) (by rfl) (by rfl) ?_;refine sW ?_;exact .oA [] []
theorem qI1 (s:Sch) (hE:schE s=0) (p:Pk):Spc Tryz.prog JX [schT s,pkT p] [] (vI (QV s p)) []:=by
 have hP:QV s p=if finI s p.col<0 then 7 else if inB p.lev 0 (finI s p.col)=false then 8 else 0:=by
  rw[QV,Aq (by rw[hE];simp)];by_cases h:p.col<1∨p.col≥s.cols.length
  ·rw[Aj h,Aj (by rw[finI,Aj (by omega)];omega)]
  ·rw[Aq h];have:0≤finI s p.col:=by
    rw[finI,Aq (by omega)];split
    ·rename_i h2;have hok:=qQ hE;obtain⟨_,d2⟩:=hok.cdl (i:=p.col.toNat) (by omega) h2;rw[zh,Aq (by rw[d2];simp)];omega
    ·omega
   rw[Aq (show ¬ finI s p.col<0 by omega)]
 rw[hP];refine qd zl7 mixm (by simp) fun e _ hst=>qg ?_;unfold Yf;refine sW ?_;refine C1.im (wx s hE p.col) (by rfl) (by rfl) ?_;refine sD ?_;refine⟨fun h=>?_,fun h=>⟨fun h2=>?_,fun h2=>?_⟩⟩
 ·rw[Aj h];exact .oA [] []
 ·rw[Aq h,Aj (qm6.2 (by omega))];exact .oA [] []
 ·rw[Aq h,Aq (by rw[qm6];omega)];exact .oA [] []
theorem zD1 (s:Sch) (hs:yd s) (p:Pk):Spc Tryz.prog qc1 [schT s,pkT p] [] (vI (QV s p)) []:=by
 refine qd zp1 mixm (by simp) fun e _ hst=>qg ?_;unfold Yy;refine sW ?_;refine C1.im (zZ s hs.2.1 hs.1) (by rfl) (by rfl) ?_;simp only[tZ,↓un_u,simprocAttr,bne_iff_ne,Aw];refine⟨fun h=>?_,fun h=>?_⟩
 ·rw[QV,Aj h];exact .oA [] []
 refine C1.im (qI1 s h p) (by rfl) (by rfl) ?_;refine sW ?_;exact .oA [] []
theorem qt9 (s:Sch) (hs:yd s) (l:List Pk) (hl:l.length<4611686018427387904):Spc Tryz.prog ZR [schT s,vPs l] [] (vI (Qa s l)) []:=by
 refine qd zc4 mixm (by simp) fun e _ hst=>qg ?_;unfold KO;refine sW ?_;refine C1.im (zZ s hs.2.1 hs.1) (by rfl) (by rfl) ?_;simp only[tZ,↓un_u,simprocAttr,bne_iff_ne,Aw];refine⟨fun h=>?_,fun hE=>?_⟩
 ·rw[Qa,Aj h];exact .oA [] []
 rw[Qa,Aq (by rw[hE];simp)];refine qu mixm (α:=Nat) [16] (fun i=>i≤l.length∧(zE (zt8 s l) i=0)) (fun i=>[(16,vI i)]) (fun i=>[(4096,.arr 2 [schT s] false)]) (fun i=>l.length-i) 0 ⟨by omega,?_⟩ ?_ fun i hi=>?_
 ·rfl
 ·exact .oA [(4096,some 4096)] []
 simp only[tZ,↓un_u,simprocAttr,AZ,Ay];refine⟨fun h=>?_,fun h=>?_⟩
 ·have hi2:i<l.length:=by omega
  have hpi:pkAt l i=l[i]:=by rw[pkAt,qh hi2]
  have hstep:=yZ hi.2 hi2;have hnext:=jL hi.2;have hA:zt8 s l i=if QV s l[i]≠0 then QV s l[i] else if 0<i∧l[i].col≤(pkAt l (i-1)).col then 10 else 0:=by rw[zt8,hpi]
  have hi2:i<l.length:=by omega
  have hwi:=qj (i:=i) (by omega);simp only[tZ,↓un_u,simprocAttr,Ax,qe hi2,hwi];refine⟨by omega,?_⟩;refine C1.im (qI1 s hE l[i]) (by rfl) (by rfl) ?_;simp only[tZ,↓un_u,simprocAttr,bne_iff_ne,Aw];refine⟨fun h3=>?_,fun h3=>?_⟩
  ·rw[Aj h3] at hA;rw[hstep (by rw[hA];exact h3),hA];exact .oA [] []
  rw[Aq (by rw[h3];simp)] at hA;rcases Nat.eq_zero_or_pos i with h0 | h0
  ·subst h0;rw[Aq (by omega)] at hA;have hz:((0:Nat):Int)=0:=rfl;have hz2:(IntKind.i64.wrap (-1)).toNat=0:=by decide
   have hz3:=qj (i:=0) (by omega);rw[hz] at hz3;simp only[tZ,↓un_u,simprocAttr,Ax,hz,beq_self_eq_true,gt_iff_lt,Int.lt_irrefl,Bool.true_and,hz2,qe hi2,hz3];refine⟨by kernel_rfl,1,⟨by omega,by rw[hnext,hA]⟩,by omega,?_⟩;exact .oA [(4096,some 4096)] []
  ·obtain⟨k,rfl⟩:∃ k,i=k+1:=⟨i-1,by omega⟩;have hk3:k<l.length:=by omega
   have e2:decide (((k+1:Nat):Int)>0)=true:=decide_eq_true (by omega);have e3:=jO (i:=k+1) (by omega) (by omega);rw[Nat.add_sub_cancel] at e3 hA;rw[pkAt,qh hk3] at hA;simp only[tZ,↓un_u,simprocAttr,Ax,qe hi2,qe hk3,e2,e3,hwi,tD];refine⟨by omega,by kernel_rfl,fun h4=>?_,fun h4=>?_⟩
   ·rw[Aj ⟨by omega,h4⟩] at hA;rw[hstep (by rw[hA];simp),hA];exact .oA [] []
   ·rw[Aq (by omega)] at hA;refine⟨k+2,⟨by omega,by rw[hnext,hA]⟩,by omega,?_⟩;exact .oA [(4096,some 4096)] []
 ·have hi2:i=l.length:=by omega
  subst hi2;rw[hi.2];exact .oA [] []
def Kn (c:Col) (lev v:Int):Int×Int×Bool:=
 if lev=0 then (c.low,c.high,v==0) else if v < -2000000∨v>1000000 then (0,0,false)
 else (max v c.low,min (v+qD c lev-1) c.high,(qG v (qD c lev)*qD c lev==v)&&decide (max v c.low≤min (v+qD c lev-1) c.high))
theorem zR0 (a b:Int):maxI a b=max a b:=by unfold maxI;split <;> omega
theorem jG4 (a b:Int):minI a b=min a b:=by unfold minI;split <;> omega
theorem qI2 (c:Col) (lev v:Int) (hl:lev=0∨(1≤lev∧lev≤c.widths.length∧c.widths.length≤4∧1≤qD c lev∧qD c lev≤1000000)):Spc Tryz.prog Kc [colT c,vI lev,vI v] [] (.tup [vI (Kn c lev v).1,vI (Kn c lev v).2.1,vB (Kn c lev v).2.2]) []:=by
 refine qd zo9 mixm (by simp) fun e _ hst=>qg ?_;unfold Yv;simp only[tZ,↓un_u,simprocAttr,tD,AY,Ak];refine⟨fun h=>?_,fun h=>⟨fun h2=>?_,fun h2=>?_⟩⟩
 ·rw[Kn,Aj h];dsimp only
  repeat (first | refine⟨by omega,?_⟩ | refine⟨by kernel_rfl,?_⟩)
  exact .oA [] []
 ·rw[Kn,Aq h,Aj h2];dsimp only;exact .oA [] []
 obtain⟨l1,l2,l3,l4,l5⟩:1≤lev∧lev≤c.widths.length∧c.widths.length≤4∧1≤qD c lev∧qD c lev≤1000000:=by rcases hl with e | e;exact absurd e h;exact e
 rw[Kn,Aq h,Aq (by omega)];refine C1.im (ZW c lev ⟨l1,l2⟩ (by omega)) (by rfl) (by rfl) ?_;have w1:IntKind.i64.wrap (v+qD c lev)=v+qD c lev:=AK _ (by omega);have w2:IntKind.i64.wrap (v+qD c lev-1)=v+qD c lev-1:=AK _ (by omega);simp only[tZ,↓un_u,simprocAttr,w1,w2,zR0,jG4]
 repeat (first | refine⟨by omega,?_⟩ | refine⟨by kernel_rfl,?_⟩)
 refine C1.im (wK v (qD c lev) (by omega) (by omega)) (by rfl) (by rfl) ?_;refine sW ?_;exact .oA [] []
def jo1 (s:Sch) (i:Nat) (lev v:Int):Int×Bool:=
 if (qk s i).kind=3 then (if 0<lev∧v=yh then (v,(qk s i).opt) else ((Kn (qk s i) lev v).1,(Kn (qk s i) lev v).2.2))
 else ((qO s i).find? fun l=>upC (qJ s i) l lev==v).elim (0,false) fun l=>(l,true)
theorem zD2 (s:Sch) (hE:schE s=0) (i:Nat) (hi:i<s.cols.length) (h0:0<i) (lev v:Int) (hl:0≤lev∧lev≤finI s i):Spc Tryz.prog qb8 [schT s,vI i,vI lev,vI v] [] (.tup [vI (jo1 s i lev v).1,vB (jo1 s i lev v).2]) []:=by
 have hok:=qQ hE;obtain⟨_,c1,c2,hfin⟩:=yR (s:=s) (c:=i) (by omega);rw[Ax] at hfin;have hat:qk s i=s.cols[i]:=by rw[qk,qh hi]
 have hk:=za (hok.cs i hi);have hcd:=fun e=>hok.cdl hi e;have hwd:=fun e l=>hok.wid hi (by omega) e (lev:=l);have hll:=qa0 hok hi;have hcl:qJ s i=s.lists.getD s.cols[i].list.toNat default:=by rw[qJ,hat]
 have hE2:jo1 s i lev v=if s.cols[i].kind=3 then (if 0<lev∧v=yh then (v,s.cols[i].opt) else ((Kn s.cols[i] lev v).1,(Kn s.cols[i] lev v).2.2))
  else ((qO s i).find? fun l=>upC (qJ s i) l lev==v).elim (0,false) fun l=>(l,true):=by rw[jo1,hat]
 have hlv:qO s i=atL (qJ s i) (zh (qJ s i)-1):=rfl;rw[hE2];rw[hat] at hk hcd hwd hfin hll;rw[hlv] at hll ⊢
 rw[hcl] at hcd hll ⊢
 refine qd zo3 mixm (by simp) fun e _ hst=>qg ?_;unfold Ys;simp only[tZ,↓un_u,simprocAttr,Ax,qe hi];generalize s.cols[i]=x at hk hcd hwd hfin hll ⊢
 have h1:=hk.2.2.1 h0;simp only[tZ,↓un_u,simprocAttr,tD,AY,Ak];rw[show (-1099511627776:Int)=yh from rfl];refine⟨by omega,fun h3=>⟨fun h4=>?_,fun h4=>?_⟩,fun h3=>?_⟩
 ·rw[Aj h3,Aj h4];dsimp only
  repeat (first | refine⟨by omega,?_⟩ | refine⟨by kernel_rfl,?_⟩)
  exact .oA [] []
 ·rw[Aj h3,Aq (by grind)];rw[Aq (by omega)] at hfin;refine C1.im (qI2 x lev v (by
   by_cases e:lev=0
   ·exact .inl e
   ·have:=hwd (by omega) lev (by omega);exact .inr (by omega))) (by rfl) (by rfl) ?_
  refine sW ?_;exact .oA [] []
 have h2:x.kind=2:=by omega
 obtain⟨d1,d2⟩:=hcd h2;obtain⟨d3,d4⟩:=hk.2.2.2.1 h2;have hll:=hll h2;have hgl:s.lists.getD x.list.toNat default=s.lists[x.list.toNat]:=qh d1;rw[hgl] at d2 hll ⊢
 rw[Aq h3];simp only[tZ,↓un_u,simprocAttr,qe d1];generalize s.lists[x.list.toNat]=l at d2 hll ⊢
 have hlv:=qm5 (l:=l);have hw2:IntKind.i64.wrap (zh l-1)=zh l-1:=AK _ (by omega);refine⟨by omega,?_⟩;refine C1.im (ZV l) (by rfl) (by rfl) ?_;simp only[tZ,↓un_u,simprocAttr,hw2];refine C1.im (qp6 l (zh l-1)) (by rfl) (by rfl) ?_;refine sW ?_
 repeat (first | refine⟨by omega,?_⟩ | refine⟨by kernel_rfl,?_⟩)
 generalize atL l (zh l-1)=L at hll ⊢
 refine qu mixm (α:=Nat) [56] (fun j=>j≤L.length∧((L.take j).find? (fun y=>upC l y lev==v)=none)) (fun j=>[(56,vI j)]) (fun j=>[(32792,.arr 2 [cdlT l] false)]) (fun j=>L.length-j) 0 ⟨by omega,?_⟩ ?_ fun j hj=>?_
 ·rfl
 ·exact .oA [(32792,some 32792)] []
 simp only[tZ,↓un_u,simprocAttr,AZ,Ay];refine⟨fun h=>?_,fun h=>?_⟩
 ·have hi2:j<L.length:=by omega
  have hf:L.find? (fun y=>upC l y lev==v)=if upC l L[j] lev==v then some L[j] else (L.drop (j+1)).find? (fun y=>upC l y lev==v):=by
   conv=>lhs;rw[← List.take_append_drop j L,List.find?_append,hj.2,List.drop_eq_getElem_cons hi2,List.find?_cons]
   cases upC l L[j] lev==v <;> simp
  have hj2:j<L.length:=by omega
  have hwj:=qj (i:=j) (by omega);simp only[tZ,↓un_u,simprocAttr,Ax,qe hj2,hwj];refine⟨by omega,?_⟩;refine C1.im (qa3 l L[j] lev) (by rfl) (by rfl) ?_;simp only[tZ,↓un_u,simprocAttr,tD,AY,Ak];refine⟨fun h4=>?_,fun h4=>?_⟩
  ·rw[hf,Aj (beq_iff_eq.2 h4)];exact .oA [] []
  ·refine⟨j+1,⟨by omega,?_⟩,by omega,?_⟩
   ·rw[qH hi2,List.find?_append,hj.2];simp [h4]
   ·exact .oA [(32792,some 32792)] []
 ·have hj2:j=L.length:=by omega
  subst hj2;rw[show L.find? (fun y=>upC l y lev==v)=none by rw[← hj.2,List.take_of_length_le (by omega)]];exact .oA [] []
end Go.Proofs
namespace Go.Proofs
open Go Go.TL
set_option maxHeartbeats 4000000
abbrev upN (cs:List Cod) (v x:Nat):Nat:=upF cs v (x+1) x
theorem zD3 {cs:List Cod} {v x:Nat} (h:dep cs x≤v):upN cs v x=x:=ji0 h _
theorem jG5 {cs:List Cod} (hp:qV6 cs) {v:Nat}:∀ x,x<cs.length→v≤dep cs x→dep cs (upN cs v x)=v∧upN cs v x≤x:=by
 intro x
 induction x using Nat.strongRecOn with
 | _ x ih=>
   intro hx hv;by_cases h:dep cs x≤v
   ·rw[zD3 h];exact⟨by omega,Nat.le_refl _⟩
   ·obtain⟨u1,u2,u3,u4⟩:=up_step hp (lev:=v) hx (by omega);have:=ih (parC cs x).toNat (by omega) (by omega) (by omega);rw[show upN cs v x=upN cs v (parC cs x).toNat from u4];exact⟨this.1,by omega⟩
theorem zR1 {cs:List Cod} (hp:qV6 cs) {o v:Nat} (ho:o≤v):∀ x,x<cs.length→v≤dep cs x→upN cs o (upN cs v x)=upN cs o x:=by
 intro x
 induction x using Nat.strongRecOn with
 | _ x ih=>
   intro hx hv;by_cases h:dep cs x≤v
   ·rw[zD3 h]
   ·obtain⟨u1,u2,u3,u4⟩:=up_step hp (lev:=v) hx (by omega);obtain⟨_,_,_,u5⟩:=up_step hp (lev:=o) hx (by omega);rw[show upN cs v x=upN cs v (parC cs x).toNat from u4,show upN cs o x=upN cs o (parC cs x).toNat from u5];exact ih (parC cs x).toNat (by omega) (by omega) (by omega)
theorem jR1 {l:CodL} (h:lstE l=0):∀ (k c:Nat),l.codes.length-c=k→c<l.codes.length→∀ v,dep l.codes c≤v→(v:Int)≤zh l-1→∃ d,d<l.codes.length∧dep l.codes d=v∧upN l.codes (dep l.codes c) d=c:=by
 intro k
 induction k using Nat.strongRecOn with
 | _ k ih=>
   intro c hk hc v hv ht;by_cases e:dep l.codes c=v
   ·exact⟨c,hc,e,zD3 (Nat.le_refl _)⟩
   obtain⟨hp,h1,h2⟩:=zg h;obtain⟨t1,t2,t3⟩:=zX6 h hc;cases hl:qy0 l.codes c with
   | true=>have:=t2 hl;omega
   | false=>
     have hn:¬ ∀ i,i<l.codes.length→parC l.codes i≠c:=fun k=>by rw[zC7.2 k] at hl;cases hl
     simp only[Classical.not_forall] at hn;obtain⟨i,hi,hn⟩:=hn;have hpc:parC l.codes i=c:=AQ hn;have h3:=hp i hi;have h4:=qM9 hp hi (by omega);rw[hpc,Ax] at h4;obtain⟨d,d1,d2,d3⟩:=ih (l.codes.length-i) (by omega) i rfl hi v (by omega) ht;refine⟨d,d1,d2,?_⟩;have h5:=zR1 hp (o:=dep l.codes c) (v:=dep l.codes i) (by omega) d d1 (by omega);rw[← h5,d3];obtain⟨_,_,_,u5⟩:=up_step hp (lev:=dep l.codes c) hi (by omega);rw[show upN l.codes (dep l.codes c) i=upN l.codes (dep l.codes c) (parC l.codes i).toNat from u5,hpc,Ax];exact zD3 (Nat.le_refl _)
theorem jR2 {α:Type} [DecidableEq α]:∀ {a b:List α},a.Nodup→(∀ x∈a,x∈b)→a.length≤b.length
 | [],_,_,_=>Nat.zero_le _
 | x::r,b,hn,hs=>by
   rw[List.nodup_cons] at hn;have hx:=hs x (List.mem_cons_self ..);have:=jR2 (a:=r) (b:=b.erase x) hn.2 fun y hy=>(List.mem_erase_of_ne (fun e=>hn.1 (by rw[← e];exact hy))).2 (hs y (List.mem_cons_of_mem _ hy));rw[List.length_erase_of_mem hx] at this;have:=List.length_pos_of_mem hx;simp only[List.length_cons];omega
abbrev lvN (cs:List Cod) (v:Nat):List Nat:=(List.range cs.length).filter fun i=>(dep cs i:Int)==v
theorem qf0 {cs:List Cod} {v x:Nat}:x∈lvN cs v↔x<cs.length∧dep cs x=v:=by
 rw[List.mem_filter,List.mem_range,AY];omega
theorem jG6 (cs:List Cod) (v:Nat):(lvN cs v).Nodup:=List.Nodup.sublist List.filter_sublist List.nodup_range
theorem kc4 {l:CodL} (h:lstE l=0) (v:Nat):(atL l v).length=(lvN l.codes v).length:=by
 rw[atL,Aq (by rw[h];simp),List.length_map]
theorem jX5 {l:CodL} (h:lstE l=0) {o v:Nat} (ho:o≤v) (hv:(v:Int)≤zh l-1):(lvN l.codes o).length≤(lvN l.codes v).length:=by
 obtain⟨hp,h1,h2⟩:=zg h;rw[show (lvN l.codes v).length=((lvN l.codes v).map (upN l.codes o)).length by rw[List.length_map]];refine jR2 (jG6 _ _) fun c hc=>?_;rw[qf0] at hc;obtain⟨d,d1,d2,d3⟩:=jR1 h _ c rfl hc.1 v (by omega) hv;rw[hc.2] at d3;exact List.mem_map.2 ⟨d,qf0.2 ⟨d1,d2⟩,d3⟩
theorem ki9 {l:CodL} (h:lstE l=0) {o v:Nat} (ho:o≤v) (hv:(v:Int)≤zh l-1):(lvN l.codes o).length=(lvN l.codes v).length↔∀ a b,a<l.codes.length→b<l.codes.length→dep l.codes a=v→dep l.codes b=v→upN l.codes o a=upN l.codes o b→a=b:=by
 obtain⟨hp,h1,h2⟩:=zg h;constructor
 ·intro e a b ha hb da db hab;refine AQ fun hne=>?_;have ma:a∈lvN l.codes v:=qf0.2 ⟨ha,da⟩;have mb:b∈(lvN l.codes v).erase a:=(List.mem_erase_of_ne (fun e=>hne e.symm)).2 (qf0.2 ⟨hb,db⟩);have:=jR2 (a:=lvN l.codes o) (b:=((lvN l.codes v).erase a).map (upN l.codes o)) (jG6 _ _) fun c hc=>by
   rw[qf0] at hc;obtain⟨d,d1,d2,d3⟩:=jR1 h _ c rfl hc.1 v (by omega) hv;rw[hc.2] at d3;by_cases k:d=a
   ·exact List.mem_map.2 ⟨b,mb,by rw[← hab,← k,d3]⟩
   ·exact List.mem_map.2 ⟨d,(List.mem_erase_of_ne k).2 (qf0.2 ⟨d1,d2⟩),d3⟩
  rw[List.length_map,List.length_erase_of_mem ma] at this;have:=List.length_pos_of_mem ma;omega
 ·intro hi;refine Nat.le_antisymm (jX5 h ho hv) ?_;rw[show (lvN l.codes v).length=((lvN l.codes v).map (upN l.codes o)).length by rw[List.length_map]];refine jR2 ?_ fun c hc=>?_
  ·rw[List.Nodup,List.pairwise_map];refine List.Pairwise.imp_of_mem ?_ (jG6 l.codes v);intro a b ha hb hne e;rw[qf0] at ha hb;exact hne (hi a b ha.1 hb.1 ha.2 hb.2 e)
  ·obtain⟨d,hd,rfl⟩:=List.mem_map.1 hc;rw[qf0] at hd;have:=jG5 hp (v:=o) d hd.1 (by omega);exact qf0.2 ⟨by omega,this.1⟩
theorem zh4 {a k m:Int} (hk:1≤k) (hm:0≤m):qG a k≤qG (a+m) k∧qG (a+m) k≤qG a k+m:=by
 unfold qG;rw[Int.fdiv_eq_ediv_of_nonneg _ (by omega),Int.fdiv_eq_ediv_of_nonneg _ (by omega)];have h1:=Int.mul_ediv_add_emod a k;have h2:=Int.emod_nonneg a (b:=k) (by omega);have h3:=Int.emod_lt_of_pos a (b:=k) (by omega);have h4:=Int.mul_ediv_add_emod (a+m) k;have h5:=Int.emod_nonneg (a+m) (b:=k) (by omega);have h6:=Int.emod_lt_of_pos (a+m) (b:=k) (by omega);constructor
 ·refine AQ fun c=>?_;have:k*((a+m) / k+1)≤k*(a / k):=Int.mul_le_mul_of_nonneg_left (by omega) (by omega);rw[Int.mul_add] at this;omega
 ·refine AQ fun c=>?_;have:k*(a / k+m+1)≤k*((a+m) / k):=Int.mul_le_mul_of_nonneg_left (by omega) (by omega);rw[Int.mul_add,Int.mul_add] at this;have h7:1*m≤k*m:=Int.mul_le_mul_of_nonneg_right hk hm;omega
theorem kj0 {a w k:Int} (hw:1≤w) (hk:1≤k):qG a (k*w)=qG (qG a w) k:=by
 have hkw:0≤k*w:=Int.mul_nonneg (by omega) (by omega);unfold qG;rw[Int.fdiv_eq_ediv_of_nonneg _ (show 0≤w by omega),Int.fdiv_eq_ediv_of_nonneg _ (show 0≤k by omega),Int.fdiv_eq_ediv_of_nonneg _ hkw,Int.mul_comm,Int.ediv_ediv_of_nonneg (by omega)]
theorem jG7 {a k:Int} (hk:1≤k):(k ∣ a+1→qG (a+1) k=qG a k+1)∧(¬ k ∣ a+1→qG (a+1) k=qG a k):=by
 unfold qG;rw[Int.fdiv_eq_ediv_of_nonneg _ (by omega),Int.fdiv_eq_ediv_of_nonneg _ (by omega)];have h1:=Int.mul_ediv_add_emod a k;have h2:=Int.emod_nonneg a (b:=k) (by omega);have h3:=Int.emod_lt_of_pos a (b:=k) (by omega);constructor
 ·rintro ⟨q,hq⟩;rw[hq,Int.mul_ediv_cancel_left _ (by omega)];have:q=a / k+1:=by
   have e:k*(q-(a / k+1))=a % k+1-k:=by rw[Int.mul_sub,Int.mul_add];omega
   have h4:q-(a / k+1)=0:=by
    refine AQ fun c=>?_;rcases Int.lt_or_gt_of_ne c with c | c
    ·have:k*(q-(a / k+1))≤k*(-1):=Int.mul_le_mul_of_nonneg_left (by omega) (by omega);omega
    ·have:k*1≤k*(q-(a / k+1)):=Int.mul_le_mul_of_nonneg_left (by omega) (by omega);omega
   omega
  exact this
 ·intro hn;refine ((Int.ediv_emod_unique (r:=a % k+1) (q:=a / k) (show 0<k by omega)).2 ⟨by omega,by omega,?_⟩).1;refine AQ fun c=>hn ⟨a / k+1,?_⟩;rw[Int.mul_add];omega
end Go.Proofs
