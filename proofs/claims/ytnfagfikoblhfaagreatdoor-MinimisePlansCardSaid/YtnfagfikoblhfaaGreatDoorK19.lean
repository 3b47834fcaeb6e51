/- A part of the proof: trees of Go values, short forms, contracts. -/
import Derived.Test.YtnfagfikoblhfaaGreatDoorK18
namespace Go.Proofs
open Go Go.TL
set_option maxRecDepth 4000
set_option maxHeartbeats 8000000
theorem JK (p:CodL→Bool) (f:FuncId) (caps:List T) (hcap:imL caps=true) (l:List CodL) (hf:∀ y∈l,Sp f (cdlT y::caps) [] (vB (p y)) []) (hl:l.length<4611686018427387904) :
 Sp 228 [.sl 2 (l.map cdlT),.clo f caps] [] (vI (idxI p l)) []:=by
 refine sIr ZN fun e _ hst=>?_;unfold jg;refine sW ?_;refine qt mixm (α:=Nat) [8] (fun i=>i≤l.length∧((l.take i).any p=false)) (fun i=>[(8,vI i)]) (fun i=>[]) (fun i=>l.length-i) 0 ⟨oM,?_⟩ ?_ fun i hi=>?_
 ·simp
 ·exact .oA [] []
 simp only[tZ,↓uU,simprocAttr,AZ,Ay];refine⟨fun h=>?_,fun h=>?_⟩
 ·have hi2:i<l.length:=by omega
  have hwi:=qh (i:=i) oM;simp only[tZ,↓uU,simprocAttr,Ax,qd hi2,hwi,qc0];refine⟨oM,?_⟩;refine C1.im (hf l[i] (AX hi2)) (Jb rfl hcap) rfl ?_;refine sW ?_;refine⟨fun h3=>?_,fun h3=>⟨i+1,⟨oM,zS hi2 hi.2 h3⟩,oM,?_⟩⟩
  ·rw[idxI,Aj (YG hi2 h3),yg hi2 hi.2 h3];exact .imR rfl rfl
  ·exact .oA [] []
 ·have h2:i=l.length:=by omega
  have h3:=hi.2;rw[h2,Bw] at h3;rw[idxI,Aq (by rw[h3];simp)];exact .imR rfl rfl
theorem QT (p:CodL→Bool) (f:FuncId) (caps:List T) (hcap:imL caps=true) (l:List CodL) (hf:∀ y∈l,Sp f (cdlT y::caps) [] (vB (p y)) []) (hl:l.length<4611686018427387904) :
 Sp 168 [.sl 2 (l.map cdlT),.clo f caps] [] (vB (l.any p)) []:=by
 refine sIr Qz fun e _ hst=>?_;unfold zP;refine sW ?_;refine C1.im (JK p f caps hcap l hf hl) (qq8 rfl hcap) rfl ?_;refine sW ?_;rw[show decide (idxI p l≥0)=l.any p from ql4 p l];exact .imR rfl rfl
theorem KY (p:Col→Bool) (f:FuncId) (caps:List T) (hcap:imL caps=true) (l:List Col) (hf:∀ y∈l,Sp f (colT y::caps) [] (vB (p y)) []) (hl:l.length<4611686018427387904) :
 Sp 261 [.sl 7 (l.map colT),.clo f caps] [] (vI (idxI p l)) []:=by
 refine sIr Kc fun e _ hst=>?_;unfold ju;refine sW ?_;refine qt mixm (α:=Nat) [8] (fun i=>i≤l.length∧((l.take i).any p=false)) (fun i=>[(8,vI i)]) (fun i=>[]) (fun i=>l.length-i) 0 ⟨oM,?_⟩ ?_ fun i hi=>?_
 ·simp
 ·exact .oA [] []
 simp only[tZ,↓uU,simprocAttr,AZ,Ay];refine⟨fun h=>?_,fun h=>?_⟩
 ·have hi2:i<l.length:=by omega
  have hwi:=qh (i:=i) oM;simp only[tZ,↓uU,simprocAttr,Ax,qd hi2,hwi,qc0];refine⟨oM,?_⟩;refine C1.im (hf l[i] (AX hi2)) (Jb rfl hcap) rfl ?_;refine sW ?_;refine⟨fun h3=>?_,fun h3=>⟨i+1,⟨oM,zS hi2 hi.2 h3⟩,oM,?_⟩⟩
  ·rw[idxI,Aj (YG hi2 h3),yg hi2 hi.2 h3];exact .imR rfl rfl
  ·exact .oA [] []
 ·have h2:i=l.length:=by omega
  have h3:=hi.2;rw[h2,Bw] at h3;rw[idxI,Aq (by rw[h3];simp)];exact .imR rfl rfl
theorem ZT (p:Col→Bool) (f:FuncId) (caps:List T) (hcap:imL caps=true) (l:List Col) (hf:∀ y∈l,Sp f (colT y::caps) [] (vB (p y)) []) (hl:l.length<4611686018427387904) :
 Sp 229 [.sl 7 (l.map colT),.clo f caps] [] (vB (l.any p)) []:=by
 refine sIr Zs fun e _ hst=>?_;unfold zZ;refine sW ?_;refine C1.im (KY p f caps hcap l hf hl) (qq8 rfl hcap) rfl ?_;refine sW ?_;rw[show decide (idxI p l≥0)=l.any p from ql4 p l];exact .imR rfl rfl
theorem qJ4 (x y:CodL):Sp 169 [cdlT x,.ip (cdlT y).cells] [] (vB (eqB x.name y.name)) []:=by
 refine sIr qA8 fun e _ hst=>?_;unfold QA;refine sW ?_;rw[show (x.name.toList==y.name.toList)=eqB x.name y.name from rfl];exact .oA [] []
theorem qa5 (x y:Col):Sp 230 [colT x,.ip (colT y).cells] [] (vB (eqB x.name y.name)) []:=by
 refine sIr Yk fun e _ hst=>?_;unfold ka;refine sW ?_;rw[show (x.name.toList==y.name.toList)=eqB x.name y.name from rfl];exact .oA [] []
def unuB (c:Col):Bool:=!(((c.kind != 2)&&(c.list != 0))||((c.kind != 3)&&((c.low != 0)||(c.high != 0)||(c.widths.length != 0)||c.opt)))
theorem JL (c:Col):Sp 232 [colT c] [] (vB (unuB c)) []:=by
 refine sIr qI7 fun e _ hst=>?_;unfold Zt;refine sW ?_;refine⟨fun h=>?_,fun h=>?_⟩
 ·have:unuB c=false:=by unfold unuB;rw[h];rfl
  rw[this];exact .oA [] []
 ·have e:((c.widths.length:Int)==0)=(c.widths.length==0):=by rw[Bool.eq_iff_iff,AY,AY];omega
  have:unuB c=(c.kind==3||c.low==0&&c.high==0&&((c.widths.length:Int)==0)&&!c.opt):=by
   unfold unuB;rw[h,e];simp only[Bool.false_or,bne,Bool.not_and,Bool.not_or,Bool.not_not]
  rw[this];exact .oA [] []
def zB6 (ws:List Int) (i:Nat):Int:=if i=0 then 1 else ws.getD (i-1) 0
theorem qf1 (c:Col):Sp 231 [colT c] [] (vI (measE c)) []:=by
 refine sIr YZ fun e _ hst=>?_;unfold kC;refine sW ?_;simp only[tZ,↓uU,simprocAttr,tD,Bx,Bz,AY,Ak];have hin:∀ n:Int,inB n (-1000000) 1000000=false↔(n < -1000000∨n>1000000):=fun n=>by
  unfold inB;rw[FK,Ay,Ay];omega
 refine⟨fun h=>?_,fun h=>?_⟩
 ·have k:inB c.low (-1000000) 1000000=false∨inB c.high (-1000000) 1000000=false∨c.low>c.high:=by
   rw[hin,hin];omega
  rw[measE,Aj k];exact .oA [] []
 have hA:¬ (inB c.low (-1000000) 1000000=false∨inB c.high (-1000000) 1000000=false∨c.low>c.high):=by
  rw[hin,hin];omega
 refine⟨fun h2=>?_,fun h2=>?_⟩
 ·rw[measE,Aq hA,Aj oM];exact .oA [] []
 have hm:measE c=if jz8 c.widths=false then 2 else 0:=by rw[measE,Aq hA,Aq oM]
 refine qt mixm (α:=Nat) [3,36] (fun i=>i≤c.widths.length∧(∀ j,j<i→wdOk c.widths j=true)) (fun i=>[(3,vI (zB6 c.widths i)),(36,vI i)]) (fun i=>[]) (fun i=>c.widths.length-i) 0 ⟨oM,?_⟩ ?_ fun i hi=>?_
 ·intro j hj;omega
 ·exact .oA [] []
 have hbad:i<c.widths.length→wdOk c.widths i=false→measE c=2:=fun h1 h2=>by
  rw[hm,Aj];exact List.all_eq_false.2 ⟨i,Dk.2 h1,by rw[h2];simp⟩
 have hok:wdOk c.widths i=true→∀ j,j<i+1→wdOk c.widths j=true:=fun h1 j hj=>by
  by_cases e:j=i
  ·rw[e];exact h1
  ·exact hi.2 j oM
 simp only[tZ,↓uU,simprocAttr,AZ,Ay];refine⟨fun h=>?_,fun h=>?_⟩
 ·have hi2:i<c.widths.length:=by omega
  have hwi:=qh (i:=i) oM;have hnx:zB6 c.widths (i+1)=c.widths[i]:=by rw[zB6,Aq oM,Nat.add_sub_cancel,qj hi2]
  rcases DQ i with h0 | h0
  ·subst h0;have hw0:wdOk c.widths 0=(c.widths[0]==1):=by rw[wdOk,Aj rfl,qj hi2]
   have hz:((0:Nat):Int)=0:=rfl;rw[hz] at hwi;simp only[tZ,↓uU,simprocAttr,Ax,hz,beq_self_eq_true,gt_iff_lt,Int.lt_irrefl,decide_false,Bool.false_and,Bool.or_false,Fj,qd hi2,Bj,Aw];have hwz:IntKind.i64.wrap 1=((1:Nat):Int):=by decide
   refine⟨oM,fun h3=>?_,fun h3=>?_⟩
   ·rw[hbad hi2 (by rw[hw0];simpa using h3)];exact .oA [] []
   ·rw[hwz];refine⟨1,⟨oM,hok (by rw[hw0];simpa using h3)⟩,oM,?_⟩;rw[hnx];exact .oA [] []
  ·have e1:((i:Int)==0)=false:=Ak.2 oM;have e2:decide ((i:Int)>0)=true:=Cx oM;have hw1:wdOk c.widths i=(decide (zB6 c.widths i<c.widths[i])&&decide (c.widths[i]≤1000000)&&(c.widths[i].tmod (zB6 c.widths i)==0)):=by
    rw[wdOk,Aq oM,qj hi2,zB6,Aq oM]
   have hp1:1≤zB6 c.widths i:=by
    have:=zA5 (ws:=c.widths) hi.2 (i-1) oM;rw[zB6,Aq oM];exact this
   simp only[tZ,↓uU,simprocAttr,Ax,qd hi2,e1,e2,hwi,tD,Bj,Aw];refine⟨oM,fun _=>by omega,fun h3=>?_,fun h3=>?_⟩
   ·rw[hbad hi2 (by rw[hw1];grind)];exact .oA [] []
   ·refine⟨i+1,⟨oM,hok (by rw[hw1];grind)⟩,oM,?_⟩;rw[hnx];exact .oA [] []
 ·have hi2:i=c.widths.length:=by omega
  subst hi2;rw[hm,Aq]
  ·exact .oA [] []
  ·rw[Ez];exact Bk.2 fun j hj=>hi.2 j (Dk.1 hj)
theorem qi9 (s:Sch) (i:Nat) (hi:i<s.cols.length) (hn:s.cols.length<4611686018427387904) (hl:s.lists.length<4611686018427387904):Sp 170 [schT s,vI i] [] (vI (colE s i)) []:=by
 have hat:qg s i=s.cols[i]:=by rw[qg,qj hi]
 have hE:colE s i=if jE s.cols[i].name=false then 3
  else if ((s.cols.take i).any fun x=>eqB x.name s.cols[i].name)=true then 10
  else if inB s.cols[i].kind 1 3=false∨(0<i∧s.cols[i].kind=1) then 4
  else if s.cols[i].kind=2∧inB s.cols[i].list 0 (s.lists.length-1)=false then 5
  else if s.cols[i].kind=3∧measE s.cols[i]≠0 then measE s.cols[i]
  else if (s.cols[i].kind≠2∧s.cols[i].list≠0)∨(s.cols[i].kind≠3∧(s.cols[i].low≠0∨s.cols[i].high≠0∨0<s.cols[i].widths.length∨s.cols[i].opt=true)) then 11 else 0:=by rw[colE,hat]
 rw[hE];refine sIr qd5 fun e _ hst=>?_;unfold kU;simp only[tZ,↓uU,simprocAttr,Ax,qd hi];generalize s.cols[i]=c;refine⟨oM,?_⟩;refine C1.im (yj c.name) rF rF ?_;simp only[tZ,↓uU,simprocAttr,Bx,Bz];refine⟨fun h=>?_,fun h=>?_⟩
 ·rw[Aj h];exact .oA [] []
 rw[Aq (by rw[h];simp)];have hCF:=ZT (fun x=>eqB x.name c.name) 230 [.ip (colT c).cells] rfl (s.cols.take i) (fun x _=>qa5 x c) (by rw[Cz];omega);refine⟨oM,?_⟩;rw[qc1,qO6];refine C1.lend [8212] hCF ?_ rF rF ?_
 ·all_goals (try simp only[tL,simprocAttr,By,List.map_cons,List.map_nil,BW,Cy])
  all_goals (try (repeat' (first | exact zk | (apply zH;intro _;exact⟨rfl,rfl⟩) | (apply qw;intro _;exact⟨rfl,rfl⟩) | with_reducible apply ze | with_reducible refine qQ ⟨rfl,rfl⟩ ?_ | exact qR | with_reducible apply qZ | with_reducible refine zd ⟨rfl,rfl,?_⟩ ?_ | with_reducible apply Az | exact qY rfl | exact qY (by assumption) | (refine⟨⟨?_,rfl,?_,rfl,?_⟩,trivial⟩ <;> first | (simp;done) | (apply qw;intro _;exact⟨rfl,rfl⟩)) | trivial | rfl | (rw[qh oM]) | omega)))
  simp only[ltP];exact⟨rfl,by decide,rfl,qQ ⟨rfl,rfl⟩ qR⟩
 simp only[tZ,↓uU,simprocAttr,tD,Bx,Bz,AY,Ak];refine⟨fun h2=>?_,fun h2=>?_⟩
 ·rw[Aj h2];exact .oA [] []
 rw[Aq (by rw[h2];simp)];have hI:inB c.kind 1 3=false↔¬ (1≤c.kind∧c.kind≤3):=by unfold inB;rw[FK,Ay,Ay];omega
 have hL:inB c.list 0 (s.lists.length-1)=false↔(c.list<0∨(s.lists.length:Int)≤c.list):=by unfold inB;rw[FK,Ay,Ay];omega
 have hU:unuB c=false↔((c.kind≠2∧c.list≠0)∨(c.kind≠3∧(c.low≠0∨c.high≠0∨0<c.widths.length∨c.opt=true))):=by
  have hw0:c.widths.length≠0↔0<c.widths.length:=by omega
  unfold unuB;rw[Bz,DZ,Bq,Bq,Bj,Bj,Bj,DZ,DZ,DZ,Bj,Bj,Bj,hw0,or_assoc,or_assoc]
 have hfin:∀ (v:Int),(unuB c=false→v=11)→(unuB c=true→v=0)→v=if (c.kind≠2∧c.list≠0)∨(c.kind≠3∧(c.low≠0∨c.high≠0∨0<c.widths.length∨c.opt=true)) then 11 else 0:=fun v h11 h00=>by
  by_cases k:unuB c=false
  ·rw[Aj (hU.1 k),h11 k]
  ·rw[Aq (fun e=>k (hU.2 e)),h00 (by simpa using k)]
 refine⟨fun k1=>⟨fun h3=>?_,fun h3=>?_⟩,fun k1=>⟨fun k2=>⟨fun h3=>?_,fun h3=>?_⟩,fun k2=>⟨fun k3=>?_,fun k3=>?_⟩⟩⟩
 ·rw[Aj (.inr ⟨oM,k1⟩)];exact .oA [] []
 ·rw[Aq (by rw[hI];omega),Aq oM,Aq oM];refine C1.im (JL c) rF rF ?_;simp only[tZ,↓uU,simprocAttr,Bx,Bz];refine⟨fun h4=>?_,fun h4=>?_⟩
  ·rw[← hfin 11 (fun _=>rfl) (fun k=>by rw[h4] at k;cases k)];exact .oA [] []
  ·rw[← hfin 0 (fun k=>by rw[h4] at k;cases k) (fun _=>rfl)];exact .oA [] []
 ·rw[Aq (by rw[hI];omega),Aj ⟨k2,hL.2 h3⟩];exact .oA [] []
 ·rw[Aq (by rw[hI];omega),Aq (by rw[hL];omega),Aq oM];refine C1.im (JL c) rF rF ?_;simp only[tZ,↓uU,simprocAttr,Bx,Bz];refine⟨fun h4=>?_,fun h4=>?_⟩
  ·rw[← hfin 11 (fun _=>rfl) (fun k=>by rw[h4] at k;cases k)];exact .oA [] []
  ·rw[← hfin 0 (fun k=>by rw[h4] at k;cases k) (fun _=>rfl)];exact .oA [] []
 ·rw[Aq (by rw[hI];omega),Aq oM];refine C1.im (qf1 c) rF rF ?_;simp only[tZ,↓uU,simprocAttr,Bj,Aw];refine⟨fun h3=>?_,fun h3=>?_⟩
  ·rw[Aj ⟨k3,h3⟩];exact .oA [] []
  rw[Aq oM];refine C1.im (JL c) rF rF ?_;simp only[tZ,↓uU,simprocAttr,Bx,Bz];refine⟨fun h4=>?_,fun h4=>?_⟩
  ·rw[← hfin 11 (fun _=>rfl) (fun k=>by rw[h4] at k;cases k)];exact .oA [] []
  ·rw[← hfin 0 (fun k=>by rw[h4] at k;cases k) (fun _=>rfl)];exact .oA [] []
 ·rw[Aj (.inl (hI.2 oM))];exact .oA [] []
theorem kr (s:Sch) (hn:s.cols.length<4611686018427387904) (hl:s.lists.length<4611686018427387904):Sp 99 [schT s] [] (vI (schE s)) []:=by
 refine sIr qQ2 fun e _ hst=>?_;unfold Jj;refine sD ?_;refine⟨fun h=>?_,fun h=>?_⟩
 ·rw[schE,Aj oM];exact .oA [] []
 have hE1:yo s s.lists.length≠0→schE s=yo s s.lists.length:=fun k=>by rw[schE,Aq oM,Aj k]
 refine qt mixm (α:=Nat) [21] (fun i=>i≤s.lists.length∧yo s i=0) (fun i=>[(21,vI i)]) (fun i=>[aR 4096 2 [schT s]]) (fun i=>s.lists.length-i) 0 ⟨oM,rfl⟩ ?_ fun i hi=>?_
 ·exact .oA (U1 4096) []
 obtain⟨i1,i2⟩:=hi;refine sD ?_;refine⟨fun h2=>?_,fun h2=>?_⟩
 ·have hi2:i<s.lists.length:=by omega
  have hwi:=qh (i:=i) oM;have hat:s.lists.getD i default=s.lists[i]:=qj hi2;have hstep:yo s (i+1)=if lstE s.lists[i]≠0 then lstE s.lists[i] else if ((s.lists.take i).any fun x=>eqB x.name s.lists[i].name)=true then 10 else 0:=by
   rw[yo,Aq (by rw[i2];simp),hat]
  have hbad:yo s (i+1)≠0→schE s=yo s (i+1):=fun k=>by
   have:=qS7 k s.lists.length oM;rw[hE1 (by rw[this];exact k),this]
  have hCF:=QT (fun x=>eqB x.name s.lists[i].name) 169 [.ip (cdlT s.lists[i]).cells] rfl (s.lists.take i) (fun x _=>qJ4 x s.lists[i]) (by rw[Cz];omega);simp only[tZ,↓uU,simprocAttr,Ax,qd hi2,hwi];generalize s.lists[i]=c at *
  refine⟨oM,?_⟩;refine C1.im (ZS c) rF rF ?_;simp only[tZ,↓uU,simprocAttr,Bj,Aw];refine⟨fun h3=>?_,fun h3=>?_⟩
  ·rw[Aj h3] at hstep;rw[hbad (by rw[hstep];exact h3),hstep];exact .oA [] []
  rw[Aq (by rw[h3];simp)] at hstep;refine⟨oM,?_⟩;rw[qc1,qO6];refine C1.lend [24588] hCF ?_ rF rF ?_
  ·all_goals (try simp only[tL,simprocAttr,By,List.map_cons,List.map_nil,BW,Cy])
   all_goals (try (repeat' (first | exact zk | (apply zH;intro _;exact⟨rfl,rfl⟩) | (apply qw;intro _;exact⟨rfl,rfl⟩) | with_reducible apply ze | with_reducible refine qQ ⟨rfl,rfl⟩ ?_ | exact qR | with_reducible apply qZ | with_reducible refine zd ⟨rfl,rfl,?_⟩ ?_ | with_reducible apply Az | exact qY rfl | exact qY (by assumption) | (refine⟨⟨?_,rfl,?_,rfl,?_⟩,trivial⟩ <;> first | (simp;done) | (apply qw;intro _;exact⟨rfl,rfl⟩)) | trivial | rfl | (rw[qh oM]) | omega)))
   simp only[ltP];exact⟨rfl,by decide,rfl,qQ ⟨rfl,rfl⟩ qR⟩
  simp only[tZ,↓uU,simprocAttr,hwi];refine⟨fun h4=>?_,fun h4=>?_⟩
  ·rw[Aj h4] at hstep;rw[hbad (by rw[hstep];simp),hstep];exact .oA [] []
  ·rw[Aq (by rw[h4];simp)] at hstep;refine⟨i+1,⟨oM,hstep⟩,oM,?_⟩;exact .oA (U1 4096) []
 ·have hil:i=s.lists.length:=by omega
  subst hil;have hE2:s.cols.length=0∨(qg s 0).kind≠1→schE s=7:=fun k=>by rw[schE,Aq oM,Aq (by rw[i2];simp),Aj k]
  have hE3:¬ (s.cols.length=0∨(qg s 0).kind≠1)→schE s=Ws s s.cols.length:=fun k=>by rw[schE,Aq oM,Aq (by rw[i2];simp),Aq k]
  have hz:((0:Nat):Int)=0:=rfl;by_cases h0:s.cols.length=0
  ·have hn:s.cols=[]:=Dy.1 h0;rw[hE2 (.inl h0)];simp only[tZ,↓uU,simprocAttr,hn,Cw,hz,beq_self_eq_true];exact .oA [] []
  ·have h0p:0<s.cols.length:=by omega
   have e0:((s.cols.length:Int)==0)=false:=Ak.2 oM;have hc0:qg s 0=s.cols[0]:=by rw[qg,qj h0p]
   simp only[tZ,↓uU,simprocAttr,e0,qd h0p,Bj,Aw,Bool.false_or];refine⟨oM,fun h3=>?_,fun h3=>?_⟩
   ·rw[hE2 (.inr (by rw[hc0];exact h3))];exact .oA [] []
   have hE4:=hE3 (by rw[hc0];grind);refine qt mixm (α:=Nat) [53] (fun i=>i≤s.cols.length∧Ws s i=0) (fun i=>[(53,vI i)]) (fun i=>[aR 4096 2 [schT s]]) (fun i=>s.cols.length-i) 0 ⟨oM,rfl⟩ ?_ fun i hi=>?_
   ·exact .oA (U1 4096) []
   simp only[tZ,↓uU,simprocAttr,AZ,Ay];refine⟨fun h=>?_,fun h=>?_⟩
   ·have hi2:i<s.cols.length:=by omega
    have hwi:=qh (i:=i) oM;have hstep:Ws s (i+1)=colE s i:=by rw[Ws,Aq (by rw[hi.2];simp)]
    refine C1.im (qi9 s i hi2 hn hl) rF rF ?_;simp only[tZ,↓uU,simprocAttr,Bj,Aw,hwi];refine⟨fun h4=>?_,fun h4=>?_⟩
    ·have:=qS8 (s:=s) (i:=i+1) (by rw[hstep];exact h4) s.cols.length oM;rw[hE4,this,hstep];exact .oA [] []
    ·refine⟨i+1,⟨oM,by rw[hstep];exact h4⟩,oM,?_⟩;exact .oA (U1 4096) []
   ·have hil:i=s.cols.length:=by omega
    rw[hE4,← hil,hi.2];exact .oA [] []
theorem qK9 {cs:List Cod}:∀ {n:Nat} {v:Int},lvs cs n=some v→∀ j,j<n→qo2 cs j=true→(dep cs j:Int)=v
 | 0,_,_,j,h,_=>by omega
 | n+1,v,h,j,hj,hl=>by
   rw[qK7] at h;cases e:lvs cs n with
   | none=>rw[e] at h;cases h
   | some w=>
     rw[e] at h;have ih:=fun k hk h2=>qK9 e k hk h2;unfold lvS at h;dsimp only at h;split at h
     ·split at h
      ·cases h
      ·rename_i h2;have hv:(dep cs n:Int)=v:=by simpa using h
       by_cases e2:j=n
       ·rw[e2];exact hv
       ·have:=ih j oM hl;omega
     ·rename_i h2;have hv:w=v:=by simpa using h
      by_cases e2:j=n
      ·rw[e2] at hl;exact absurd hl h2
      ·have:=ih j oM hl;omega
theorem zo1 {cs:List Cod} {c:Nat}:qo2 cs c=true↔∀ i,i<cs.length→parC cs i≠c:=by
 unfold qo2;rw[Bx,List.any_eq_false];constructor
 ·intro h i hi e;have:=h cs[i] (AX hi);rw[parC,cdAt,qj hi] at e;simp [e] at this
 ·intro h x hx;obtain⟨i,hi,rfl⟩:=CX hx;have:=h i hi;rw[parC,cdAt,qj hi] at this;simpa using this
theorem jA9 {l:CodL} (h:lstE l=0):∃ v,lvs l.codes l.codes.length=some v:=by
 unfold lstE at h;split at h
 ·cases h
 ·split at h
  ·cases h
  ·split at h
   ·cases h
   ·split at h
    ·rename_i h2;exact absurd h h2
    ·split at h
     ·cases h
     ·rename_i v e;exact⟨v,e⟩
theorem zI3 {l:CodL} (h:lstE l=0) {c:Nat} (hc:c<l.codes.length):(dep l.codes c:Int)≤zy l-1∧(qo2 l.codes c=true→(dep l.codes c:Int)=zy l-1)∧(qo2 l.codes c=false→(dep l.codes c:Int)<zy l-1):=by
 obtain⟨hp,h1,h2⟩:=zm h;obtain⟨v,hv⟩:=jA9 h;have hlast:qo2 l.codes (l.codes.length-1)=true:=zo1.2 fun i hi e=>by
  have:=(hp i hi).2;omega
 have hlv:=qK9 hv (l.codes.length-1) oM hlast;have hL:zy l-1=v:=by rw[zy,Aq (by rw[h];simp)];omega
 have hall:∀ k c,l.codes.length-c=k→c<l.codes.length→(dep l.codes c:Int)≤v∧(qo2 l.codes c=false→(dep l.codes c:Int)<v):=by
  intro k
  induction k using Nat.strongRecOn with
  | _ k ih=>
    intro c hk hc;cases hl:qo2 l.codes c with
    | true=>
      have:=qK9 hv c hc hl;exact⟨oM,fun e=>by cases e⟩
    | false=>
      have hn:¬ ∀ i,i<l.codes.length→parC l.codes i≠c:=fun k=>by rw[zo1.2 k] at hl;cases hl
      simp only[Classical.not_forall] at hn;obtain⟨i,hi,hn⟩:=hn;have hpc:parC l.codes i=c:=AQ hn;have h3:=hp i hi;have h4:=qB6 hp hi oM;rw[hpc,Ax] at h4;have h5:=ih (l.codes.length-i) oM i rfl hi;have:=h5.1;exact⟨oM,fun _=>by omega⟩
 have:=hall _ c rfl hc;rw[hL];exact⟨this.1,fun hl=>qK9 hv c hc hl,this.2⟩
theorem jB0 {l:CodL} (h:lstE l=0) {c:Nat} (hc:c<l.codes.length):qo2 l.codes c=true↔(dep l.codes c:Int)=zy l-1:=by
 obtain⟨_,h2,h3⟩:=zI3 h hc;cases hl:qo2 l.codes c with
 | true=>exact⟨fun _=>h2 hl,fun _=>rfl⟩
 | false=>
   have:=h3 hl;exact⟨(by intro e;cases e),fun e=>by omega⟩
theorem Yw (p:Cod→Bool) (f:FuncId) (caps:List T) (hcap:imL caps=true) (l:List Cod) (hf:∀ y∈l,Sp f (codT y::caps) [] (vB (p y)) []) (hl:l.length<4611686018427387904) :
 Sp 255 [.sl 2 (l.map codT),.clo f caps] [] (vI (idxI p l)) []:=by
 refine sIr Wp fun e _ hst=>?_;unfold jQ;refine sW ?_;refine qt mixm (α:=Nat) [8] (fun i=>i≤l.length∧((l.take i).any p=false)) (fun i=>[(8,vI i)]) (fun i=>[]) (fun i=>l.length-i) 0 ⟨oM,?_⟩ ?_ fun i hi=>?_
 ·simp
 ·exact .oA [] []
 simp only[tZ,↓uU,simprocAttr,AZ,Ay];refine⟨fun h=>?_,fun h=>?_⟩
 ·have hi2:i<l.length:=by omega
  have hwi:=qh (i:=i) oM;simp only[tZ,↓uU,simprocAttr,Ax,qd hi2,hwi,qc0];refine⟨oM,?_⟩;refine C1.im (hf l[i] (AX hi2)) (Jb rfl hcap) rfl ?_;refine sW ?_;refine⟨fun h3=>?_,fun h3=>⟨i+1,⟨oM,zS hi2 hi.2 h3⟩,oM,?_⟩⟩
  ·rw[idxI,Aj (YG hi2 h3),yg hi2 hi.2 h3];exact .imR rfl rfl
  ·exact .oA [] []
 ·have h2:i=l.length:=by omega
  have h3:=hi.2;rw[h2,Bw] at h3;rw[idxI,Aq (by rw[h3];simp)];exact .imR rfl rfl
theorem Kd (p:Cod→Bool) (f:FuncId) (caps:List T) (hcap:imL caps=true) (l:List Cod) (hf:∀ y∈l,Sp f (codT y::caps) [] (vB (p y)) []) (hl:l.length<4611686018427387904) :
 Sp 214 [.sl 2 (l.map codT),.clo f caps] [] (vB (l.any p)) []:=by
 refine sIr Jw fun e _ hst=>?_;unfold jm;refine sW ?_;refine C1.im (Yw p f caps hcap l hf hl) (qq8 rfl hcap) rfl ?_;refine sW ?_;rw[show decide (idxI p l≥0)=l.any p from ql4 p l];exact .imR rfl rfl
theorem qU2 (x:Cod) (v:Int):Sp 215 [codT x,.ip [vI v]] [] (vB (x.par==v)) []:=by
 refine sIr qI5 fun e _ hst=>?_;unfold Zq;refine sW ?_;exact .oA [] []
theorem jq6 {l:CodL} (h:lstE l=0) (v:Int):(decide (0≤v)&&decide (v<l.codes.length)&&!(l.codes.any fun x=>x.par==v))=(inB v 0 (l.codes.length-1)&&(lvlC l v==zy l-1)):=by
 unfold inB;by_cases h0:0≤v∧v<l.codes.length
 ·obtain⟨c,rfl⟩:=AJ h0.1;have hc:c<l.codes.length:=by omega
  have h1:lvlC l c=dep l.codes c:=by rw[lvlC,Aq (by rw[h];simp;omega),Ax]
  rw[Cx h0.1,Cx h0.2,Cx (show (c:Int)≤(l.codes.length:Int)-1 by omega),h1];simp only[Fj];rw[Bool.eq_iff_iff,AY,← jB0 h hc]
  rfl
 ·by_cases h1:0≤v
  ·rw[Cx h1,Cq (show ¬ v<l.codes.length by omega),Cq (show ¬ v≤(l.codes.length:Int)-1 by omega)]
   rfl
  ·rw[Cq h1]
   rfl
theorem zo2 (s:Sch) (h:SchOk s) (i:Nat) (hi:i<s.cols.length) (v:Int):Sp 161 [schT s,colT s.cols[i],vI v] [] (vB (qT s i v)) []:=by
 have hat:qg s i=s.cols[i]:=by rw[qg,qj hi]
 have hk:=zj (h.cs i hi);have hcd:=fun e=>h.cdl hi e;have hE:qT s i v=if s.cols[i].kind=1 then inB v 1 1048575
  else if s.cols[i].kind=2 then inB v 0 ((qU s i).codes.length-1)&&(lvlC (qU s i) v==zy (qU s i)-1)
  else (s.cols[i].opt&&(v==zn))||inB v s.cols[i].low s.cols[i].high:=by rw[qT,hat]
 have hcl:qU s i=s.lists.getD s.cols[i].list.toNat default:=by rw[qU,hat]
 rw[hat] at hk hcd;rw[hE];rw[hcl] at hcd ⊢
 generalize s.cols[i]=c at hk hcd ⊢
 refine sIr za5 fun e _ hst=>?_;unfold KJ;refine sW ?_;simp only[tZ,↓uU,simprocAttr,AY,Ak];refine⟨fun h1=>?_,fun h1=>⟨fun h2=>?_,fun h2=>?_⟩⟩
 ·rw[Aj h1,show inB v 1 1048575=(decide (1≤v)&&decide (v≤1048575)) from rfl];exact .oA [] []
 ·obtain⟨d1,d2⟩:=hcd h2;obtain⟨d3,d4⟩:=hk.2.2.2.1 h2;have hgl:s.lists.getD c.list.toNat default=s.lists[c.list.toNat]:=qj d1;rw[Aq h1,Aj h2];rw[hgl] at d2 ⊢
  obtain⟨_,d5,d6⟩:=zm d2;simp only[tZ,↓uU,simprocAttr,qd d1];generalize s.lists[c.list.toNat]=l at d2 d5 d6 ⊢
  have hCF:=Kd (fun x=>x.par==v) 215 [.ip [vI v]] rfl l.codes (fun x _=>qU2 x v) oM;refine⟨oM,?_⟩;refine C2.lend [4104] (fun _=>hCF) (fun _=>?_) rF rF ?_
  ·all_goals (try simp only[tL,simprocAttr,By,List.map_cons,List.map_nil,BW,Cy])
   all_goals (try (repeat' (first | exact zk | (apply zH;intro _;exact⟨rfl,rfl⟩) | (apply qw;intro _;exact⟨rfl,rfl⟩) | with_reducible apply ze | with_reducible refine qQ ⟨rfl,rfl⟩ ?_ | exact qR | with_reducible apply qZ | with_reducible refine zd ⟨rfl,rfl,?_⟩ ?_ | with_reducible apply Az | exact qY rfl | exact qY (by assumption) | (refine⟨⟨?_,rfl,?_,rfl,?_⟩,trivial⟩ <;> first | (simp;done) | (apply qw;intro _;exact⟨rfl,rfl⟩)) | trivial | rfl | (rw[qh oM]) | omega)))
   simp only[ltP];exact⟨rfl,by decide,rfl,qQ ⟨rfl,rfl⟩ qR⟩
  refine sW ?_;rw[← jq6 d2 v];exact .oA [] []
 ·rw[Aq h1,Aq h2,Bool.or_comm,show inB v c.low c.high=(decide (c.low≤v)&&decide (v≤c.high)) from rfl];rw[show (c.opt&&v==zn)=(c.opt&&v == -1099511627776) from rfl];exact .oA [] []
theorem qJ5 (l:List Int) (m:Int) (hm:m∈l) (hle:∀ x∈l,x≤m) (hl:l.length<4611686018427387904):Sp 262 [vIs l] [] (vI m) []:=by
 have h0:0<l.length:=List.length_pos_of_mem hm;have e0:decide ((l.length:Int)<1)=false:=Cq oM;refine sIr qB5 fun e _ hst=>?_;unfold QE;simp only[tZ,↓uU,simprocAttr,e0,qd h0];refine⟨oM,?_⟩;refine qt mixm (α:=Nat×Int) [3,4] (fun q=>1≤q.1∧q.1≤l.length∧q.2∈l∧∀ x∈l.take q.1,x≤q.2) (fun q=>[(3,vI q.2),(4,vI q.1)]) (fun q=>[]) (fun q=>l.length-q.1) (1,l[0]) ⟨sMp,by dsimp only;omega,AX h0,fun x hx=>by
  rw[show l.take 1=[l[0]] by cases l with | nil=>simp at h0 | cons a r=>rfl,EZ] at hx;rw[hx];exact Int.le_refl _⟩ ?_ fun q hq=>?_
 ·exact .oA [] []
 obtain⟨i,v⟩:=q;obtain⟨i0,i1,i2,i3⟩:=hq;dsimp only at i0 i1 i2 i3;refine sD ?_;refine⟨fun h2=>?_,fun h2=>?_⟩
 ·have hi2:i<l.length:=by omega
  have hwi:=qh (i:=i) oM;simp only[tZ,↓uU,simprocAttr,Ax,qd hi2,hwi];refine⟨oM,(i+1,maxI v l[i]),⟨by dsimp only;omega,by dsimp only;omega,?_,fun x hx=>?_⟩,by dsimp only;omega,?_⟩
  ·dsimp only[maxI];split
   ·exact AX hi2
   ·exact i2
  ·dsimp only at hx;dsimp only[maxI];rw[qS hi2] at hx;rcases Dz.1 hx with k | k
   ·have:=i3 x k;split <;> omega
   ·rw[EZ.1 k];split <;> omega
  ·exact .oA [] []
 ·have hv:v=m:=by
   have h5:=hle v i2;have h6:=i3 m (by rw[List.take_of_length_le oM];exact hm);omega
  rw[hv];exact .oA [] []
theorem KZ (l:CodL):Sp 235 [cdlT l] [] (vI (zy l)) []:=by
 refine sIr qS2 fun e _ hst=>?_;unfold Jy;refine sW ?_;refine C1.im (ZS l) rF rF ?_;simp only[tZ,↓uU,simprocAttr,Bj,Aw];refine⟨fun h=>?_,fun h=>?_⟩
 ·rw[zy,Aj h];exact .oA [] []
 obtain⟨hp,h1,h2⟩:=zm h;have hdl:=qh2 l.codes;have hL:zy l=(dep l.codes (l.codes.length-1):Int)+1:=by rw[zy,Aq (by rw[h];simp)]
 have hd:=qE9 hp (l.codes.length-1) oM;have hM:=qJ5 (depL l.codes) (dep l.codes (l.codes.length-1)) (Cj.2 ⟨l.codes.length-1,Dk.2 oM,rfl⟩) (fun x hx=>by
  obtain⟨c,hc,rfl⟩:=Cj.1 hx;have:=(zI3 h (Dk.1 hc)).1;omega) oM
 have hw:=qh (i:=dep l.codes (l.codes.length-1)) oM;refine C1.im (wH l (qw2 h)) rF rF ?_;refine sW ?_;refine C1.im hM rF rF ?_;simp only[tZ,↓uU,simprocAttr,hw];rw[hL];exact .oA [] []
def hasB (l:CodL) (c:Int):Bool:=decide (0≤c)&&decide (c<l.codes.length)&&(lstE l==0)
theorem qo7 (l:CodL) (c:Int):Sp 216 [cdlT l,vI c] [] (vB (hasB l c)) []:=by
 refine sIr zz8 fun e _ hst=>?_;unfold qe1;refine sW ?_;refine C2.im (fun _=>ZS l) (fun _=>rfl) rF ?_;refine sW ?_;rw[show hasB l c=(decide (0≤c)&&decide (c<l.codes.length)&&(lstE l==0)) from rfl];exact .oA [] []
theorem qw3 {l:CodL} {c:Int}:hasB l c=true↔0≤c∧c<l.codes.length∧lstE l=0:=by
 unfold hasB;rw[Bq,Bq,AZ,AZ,AY,and_assoc]
theorem zo3 {cs:List Cod} {c:Nat} (h:c<(depL cs).length):(depL cs)[c]=dep cs c:=by simp [depL]
theorem qC6 (l:CodL) (lev:Int):Sp 234 [cdlT l,vI lev] [] (vIs (atL l lev)) []:=by
 refine sIr zH7 fun e _ hst=>?_;unfold qn8;refine sW ?_;refine C1.im (ZS l) rF rF ?_;simp only[tZ,↓uU,simprocAttr,Bj,Aw];refine⟨fun h=>?_,fun h=>?_⟩
 ·rw[atL,Aj h];exact .oA [] []
 obtain⟨hp,h1,h2⟩:=zm h;have e:atL l lev=atN l.codes lev l.codes.length:=by rw[atL,Aq (by rw[h];simp)];rfl
 rw[e];have hdl:=qh2 l.codes;refine C1.im (wH l (qw2 h)) rF rF ?_;refine sW ?_;refine qt mixm (α:=Nat) [5,14] (fun i=>i≤l.codes.length) (fun i=>[(5,.asl 1 (atN l.codes lev i).length),(14,vI i)]) (fun i=>[aR 1 1 ((atN l.codes lev i).map vI)]) (fun i=>l.codes.length-i) 0 oM ?_ fun i hi=>?_
 ·simp only[atN,List.range_zero,List.filter_nil,List.map_nil,Cw];exact .oA [(1,none)] []
 have hli:=jp6 l.codes lev i;refine sD ?_;refine⟨fun h3=>?_,fun h3=>?_⟩
 ·have hi2:i<(depL l.codes).length:=by omega
  have hwi:=qh (i:=i) oM;have hs:=zT2 l.codes lev i;simp only[tZ,↓uU,simprocAttr,Ax,qd hi2,zo3 hi2,AY,Ak,hwi];refine⟨oM,fun h4=>?_,fun h4=>?_⟩
  ·rw[Aj h4] at hs;refine⟨oM,i+1,oM,oM,?_⟩;rw[hs];exact .oA (U1 1) []
  ·rw[Aq h4,CW] at hs;refine⟨i+1,oM,oM,?_⟩;rw[hs];exact .oA (U1 1) []
 ·have hil:i=l.codes.length:=by omega
  subst hil;exact .oA [] [1]
theorem qh3 (l:CodL) (c lev:Int):Sp 162 [cdlT l,vI c,vI lev] [] (vI (upC l c lev)) []:=by
 refine sIr zH2 fun e _ hst=>?_;unfold qn1;refine sW ?_;refine C1.im (qo7 l c) rF rF ?_;simp only[tZ,↓uU,simprocAttr,tD,Bx,Bz];refine⟨fun h=>?_,fun h=>?_⟩
 ·have:upC l c lev = -1:=by
   rw[upC];by_cases k:lstE l≠0∨c<0∨c≥l.codes.length∨lev<0∨lev>dep l.codes c.toNat
   ·rw[Aj k]
   ·rcases h with h | h
    ·have:=qw3 (l:=l) (c:=c);rw[h] at this;exact absurd (this.2 ⟨oM,oM,AQ fun q=>k (.inl q)⟩) sMp
    ·omega
  rw[this];exact .oA [] []
 obtain⟨h0,h1,h2⟩:=qw3.1 h.1;obtain⟨hp,h3,h4⟩:=zm h2;obtain⟨k,rfl⟩:=AJ h0;obtain⟨v,rfl⟩:=AJ (show 0≤lev by omega);have hdl:=qh2 l.codes;have hk:k<(depL l.codes).length:=by omega
 have hdk:=qE9 hp k oM;refine C1.im (wH l (qw2 h2)) rF rF ?_;simp only[tZ,↓uU,simprocAttr,Ax,qd hk,zo3 hk];refine⟨oM,?_⟩;by_cases hlv:dep l.codes k<v
 ·have hU:upC l k v = -1:=by rw[upC,Aj (by simp;omega)]
  rw[hU];refine qt mixm (α:=Unit) [1,7] (fun _=>True) (fun _=>[(1,vI k),(7,vI (dep l.codes k))]) (fun _=>[aR 4096 2 [cdlT l]]) (fun _=>0) () trivial ?_ fun _ _=>?_
  ·exact .oA (U1 4096) []
  have e0:decide ((dep l.codes k:Int)≥(v:Int))=false:=Cq oM;have e1:decide ((v:Int)≤(dep l.codes k:Int))=false:=Cq oM;simp only[tZ,↓uU,simprocAttr,e0,e1];exact .oA [] []
 have hU:upC l k v=upF l.codes v (k+1) k:=by rw[upC,Aq (by simp;omega),Ax,Ax]
 rw[hU];refine qt mixm (α:=Nat) [1,7] (fun x=>x<l.codes.length∧v≤dep l.codes x∧upF l.codes v (k+1) k=upF l.codes v (x+1) x) (fun x=>[(1,vI x),(7,vI (dep l.codes x))]) (fun x=>[aR 4096 2 [cdlT l]]) (fun x=>x) k ⟨oM,oM,rfl⟩ ?_ fun x hx=>?_
 ·exact .oA (U1 4096) []
 obtain⟨x1,x2,x3⟩:=hx;have hcd:l.codes[x].par=parC l.codes x:=by rw[parC,cdAt,qj x1]
 have e0:decide ((dep l.codes x:Int)≥(v:Int))=true:=Cx oM;have e1:decide ((v:Int)≤(dep l.codes x:Int))=true:=Cx oM;have hdx:=qE9 hp x x1;simp only[tZ,↓uU,simprocAttr,e0,e1,Ax,qd x1,hcd,AY,Ak];refine⟨fun h6=>?_,fun h6=>?_⟩
 ·rw[x3,zT3 oM];exact .oA [] []
 ·obtain⟨u1,u2,u3,u4⟩:=up_step hp (lev:=v) x1 oM;obtain⟨p,hpe⟩:=AJ u1;have hw:IntKind.i64.wrap ((dep l.codes x:Int)-1)=(dep l.codes p:Int):=by
   rw[AK _ oM,u3,hpe,Ax];omega
  rw[hpe,Ax] at u4 u3;simp only[tZ,↓uU,simprocAttr,hpe,hw];refine⟨oM,p,⟨oM,oM,x3.trans u4⟩,oM,?_⟩;exact .oA (U1 4096) []
theorem zo4 (l:CodL) (c a:Int):Sp 249 [cdlT l,vI c,vI a] [] (vB (qe4 l c a)) []:=by
 refine sIr zb9 fun e _ hst=>?_;unfold KS;refine sW ?_;refine C1.im (qo7 l c) rF rF ?_;refine sW ?_;refine C2.im (fun _=>qo7 l a) (fun _=>rfl) rF ?_;simp only[tZ,↓uU,simprocAttr,DZ,FQ,Bx,Bz];refine⟨fun h=>?_,fun h=>?_⟩
 ·have:qe4 l c a=false:=by
   cases e:qe4 l c a with
   | false=>rfl
   | true=>
     unfold qe4 at e;simp only[Bq,AZ,AY] at e;obtain⟨⟨e1,e2⟩,e3⟩:=e;have key:∀ x,0≤lvlC l x→hasB l x=true:=fun x hx=>by
      rw[qw3];unfold lvlC at hx;split at hx
      ·omega
      ·rename_i q;exact⟨oM,oM,AQ fun z=>q (.inl z)⟩
     have ha:=key a e1;have hc:=key c oM;rcases h with h | h
     ·rw[hc] at h;cases h
     ·rw[ha] at h;cases h
  rw[this];exact .oA [] []
 obtain⟨c0,c1,c2⟩:=qw3.1 h.1;obtain⟨a0,a1,_⟩:=qw3.1 h.2;obtain⟨hp,h3,h4⟩:=zm c2;obtain⟨k,rfl⟩:=AJ c0;obtain⟨j,rfl⟩:=AJ a0;have hdl:=qh2 l.codes;have hj:j<(depL l.codes).length:=by omega
 have hdk:=qE9 hp k oM;have hdj:=qE9 hp j oM;have l1:lvlC l j=dep l.codes j:=by rw[lvlC,Aq (by rw[c2];simp;omega),Ax]
 have l2:lvlC l k=dep l.codes k:=by rw[lvlC,Aq (by rw[c2];simp;omega),Ax]
 have hU:qe4 l k j=(upC l k (dep l.codes j)==(j:Int)):=by
  unfold qe4;rw[l1,l2,Cx oM,Fj];by_cases q:(dep l.codes j:Int)≤dep l.codes k
  ·rw[Cx q,Fj]
  ·rw[Cq q,Bool.false_and,upC,Aj (by simp;omega)]
   symm
   exact Ak.2 oM
 rw[hU];refine C1.im (wH l (qw2 c2)) rF rF ?_;simp only[tZ,↓uU,simprocAttr,Ax,qd hj,zo3 hj];refine⟨oM,?_⟩;refine C1.im (qh3 l k (dep l.codes j)) rF rF ?_;refine sW ?_
 repeat (first | refine⟨oM,?_⟩ | refine⟨kR,?_⟩)
 exact .oA [] []
theorem zI4 {n w:Int} (hw:0<w):qJ n w*w=n-(if n.tmod w<0 then n.tmod w+w else n.tmod w):=by
 have h1:=Int.mul_tdiv_add_tmod n w;rw[Int.mul_comm] at h1;rw[zm6 hw];split
 ·rw[Int.sub_mul];omega
 ·omega
theorem Yx (n w:Int) (hw:0<w∧w≤1000000) (hn : -4611686018427387904<n∧n<4611686018427387904):Sp 163 [vI n,vI w] [] (vI (qJ n w*w)) []:=by
 rw[zI4 hw.1];have h2:=Int.tmod_lt_of_pos n hw.1;have h3:=Int.lt_tmod_of_pos n hw.1;have w1:IntKind.i64.wrap (n.tmod w)=n.tmod w:=AK _ oM;have w2:IntKind.i64.wrap (n.tmod w+w)=n.tmod w+w:=AK _ oM;have w3:IntKind.i64.wrap (n-n.tmod w)=n-n.tmod w:=AK _ oM;have w4:IntKind.i64.wrap (n-(n.tmod w+w))=n-(n.tmod w+w):=AK _ oM;refine sIr za7 fun e _ hst=>?_;unfold KK;simp only[tZ,↓uU,simprocAttr,w1,w2,w3,w4,tD];refine⟨oM,fun h=>?_,fun h=>?_⟩
 ·rw[Aj h];exact .oA [] []
 ·rw[Aq h];exact .oA [] []
theorem qk5 (c:Col) (lev:Int) (h1:1≤lev∧lev≤c.widths.length) (h2:c.widths.length<4611686018427387904):Sp 164 [colT c,vI lev] [] (vI (qK c lev)) []:=by
 have hw:IntKind.i64.wrap ((c.widths.length:Int)-lev)=(c.widths.length:Int)-lev:=AK _ oM;have hk:((c.widths.length:Int)-lev).toNat<c.widths.length:=by omega
 refine sIr qR0 fun e _ hst=>?_;unfold Jp;simp only[tZ,↓uU,simprocAttr,hw,qd hk];rw[qK,qj hk];refine⟨oM,?_⟩;exact .oA [] []
theorem JM (s:Sch) (hE:schE s=0) (c:Int):Sp 190 [schT s,vI c] [] (vI (finI s c)) []:=by
 have hok:=qV hE;have hnc:=hok.nc;refine sIr qI1 fun e _ hst=>?_;unfold Zo;refine sD ?_;refine⟨fun h=>?_,fun h=>?_⟩
 ·rw[finI,Aj oM];exact .oA [] []
 obtain⟨i,rfl⟩:=AJ (show 0≤c by omega);have hi:i<s.cols.length:=by omega
 have hat:qg s i=s.cols[i]:=by rw[qg,qj hi]
 have hk:=zj (hok.cs i hi);have hcd:=fun e=>hok.cdl hi e;have hcl:qU s i=s.lists.getD s.cols[i].list.toNat default:=by rw[qU,hat]
 rw[hat] at hk hcd;rw[hcl] at hcd;rw[finI,Aq oM,Ax,hcl,hat];simp only[tZ,↓uU,simprocAttr,Ax,qd hi];generalize s.cols[i]=x at hk hcd ⊢
 simp only[tZ,↓uU,simprocAttr,AY,Ak];refine⟨oM,fun h2=>?_,fun h2=>?_⟩
 ·obtain⟨d1,d2⟩:=hcd h2;obtain⟨d3,d4⟩:=hk.2.2.2.1 h2;have hgl:s.lists.getD x.list.toNat default=s.lists[x.list.toNat]:=qj d1;rw[Aj h2];rw[hgl] at d2 ⊢
  simp only[tZ,↓uU,simprocAttr,qd d1];generalize s.lists[x.list.toNat]=l at d2 ⊢
  have hlv:=qo3 (l:=l);have hw2:IntKind.i64.wrap (zy l-1)=zy l-1:=AK _ oM;refine⟨oM,?_⟩;refine C1.im (KZ l) rF rF ?_;simp only[tZ,↓uU,simprocAttr,hw2];exact .oA [] []
 ·rw[Aq h2];exact .oA [] []
theorem Qa (s:Sch) (hs:ki s) (c:Int):Sp 136 [schT s,vI c] [] (vI (finI s c)) []:=by
 refine sIr qH1 fun e _ hst=>?_;unfold Zh;refine sW ?_;refine C1.im (kr s hs.2.1 hs.1) rF rF ?_;simp only[tZ,↓uU,simprocAttr,Bj,Aw];refine⟨fun h=>?_,fun h=>?_⟩
 ·rw[finI,Aj (.inl h)];exact .oA [] []
 refine C1.im (JM s h c) rF rF ?_;refine sW ?_;exact .oA [] []
theorem JN (s:Sch) (hs:ki s) (c lev v:Int):Sp 95 [schT s,vI c,vI lev,vI v] [] (vI (qk s c lev v)) []:=by
 refine sIr qG9 fun e _ hst=>?_;unfold Zg;refine sW ?_;refine C1.im (Qa s hs c) rF rF ?_;refine sD ?_;refine⟨fun h=>?_,fun h=>?_⟩
 ·rw[qk,Aj (qT1.2 oM)];exact .oA [] []
 obtain⟨hE,c1,c2,hfin⟩:=yc (s:=s) (c:=c) oM;have hok:=qV hE;obtain⟨i,rfl⟩:=AJ (show 0≤c by omega);rw[Ax] at hfin;have hi:i<s.cols.length:=by omega
 have hat:qg s i=s.cols[i]:=by rw[qg,qj hi]
 have hk:=zj (hok.cs i hi);have hcd:=fun e=>hok.cdl hi e;have hwd:=fun e l=>hok.wid hi oM e (lev:=l);have hcl:qU s i=s.lists.getD s.cols[i].list.toNat default:=by rw[qU,hat]
 have hE2:qk s i lev v=if s.cols[i].kind=2 then (if qT s i v=false then -1 else upC (qU s i) v lev)
  else if v≠zn∧inB v (-1000000) 1000000=false then -1
  else if lev=0 then 0 else if v=zn then v else qJ v (qK s.cols[i] lev)*qK s.cols[i] lev:=by
  rw[qk,Aq (by rw[Ez,yi];omega),Ax,hat]
 rw[hE2];rw[hat] at hk hcd hwd hfin;rw[hcl] at hcd ⊢
 simp only[tZ,↓uU,simprocAttr,Ax,qd hi];have hho:=zo2 s hok i hi v;generalize s.cols[i]=x at hk hcd hwd hfin hho ⊢
 refine⟨oM,?_⟩;refine C2.im (fun _=>hho) (fun _=>rfl) rF ?_;simp only[tZ,↓uU,simprocAttr,tD,Bj,Aw,Bx,Bz,AY,Ak];rw[show (-1099511627776:Int)=zn from rfl];refine⟨fun h3=>?_,fun h3=>⟨fun h2=>?_,fun h2=>?_⟩⟩
 ·rw[Aj h3.1,Aj h3.2];exact .oA [] []
 ·rw[Aj h2];obtain⟨d1,d2⟩:=hcd h2;obtain⟨d3,d4⟩:=hk.2.2.2.1 h2;have hgl:s.lists.getD x.list.toNat default=s.lists[x.list.toNat]:=qj d1;rw[hgl] at d2 ⊢
  rw[Aq (by grind)];simp only[tZ,↓uU,simprocAttr,qd d1];generalize s.lists[x.list.toNat]=l at d2 ⊢
  refine⟨oM,?_⟩;refine C1.im (qh3 l v lev) rF rF ?_;refine sW ?_;exact .oA [] []
 rw[Aq h2];rw[Aq h2] at hfin;refine⟨fun h3=>?_,fun h3=>?_⟩
 ·rw[Aj ⟨oM,qT1.2 oM⟩];exact .oA [] []
 rw[Aq (by rw[qT1];omega)];refine⟨fun h4=>?_,fun h4=>?_⟩
 ·rw[Aj h4];exact .oA [] []
 rw[Aq h4];refine⟨fun h5=>?_,fun h5=>?_⟩
 ·rw[Aj h5,h5];exact .oA [] []
 rw[Aq h5];obtain⟨w1,w2,w3,w4,_⟩:=hwd h2 lev oM;refine C1.im (qk5 x lev oM oM) rF rF ?_;refine sW ?_;refine C1.im (Yx v (qK x lev) oM oM) rF rF ?_;refine sW ?_;exact .oA [] []
theorem qw4 (s:Sch) (hE:schE s=0) (p:Pk):Sp 127 [schT s,pkT p] [] (vI (wD s p)) []:=by
 have hP:wD s p=if finI s p.col<0 then 7 else if inB p.lev 0 (finI s p.col)=false then 8 else 0:=by
  rw[wD,Aq (by rw[hE];simp)];by_cases h:p.col<1∨p.col≥s.cols.length
  ·rw[Aj h,Aj (by rw[finI,Aj oM];omega)]
  ·rw[Aq h];have:0≤finI s p.col:=by
    rw[finI,Aq oM];split
    ·rename_i h2;have hok:=qV hE;obtain⟨_,d2⟩:=hok.cdl (i:=p.col.toNat) oM h2;rw[zy,Aq (by rw[d2];simp)];omega
    ·omega
   rw[Aq (show ¬ finI s p.col<0 by omega)]
 rw[hP];refine sIr qZ2 fun e _ hst=>?_;unfold KA;refine sW ?_;refine C1.im (JM s hE p.col) rF rF ?_;refine sD ?_;refine⟨fun h=>?_,fun h=>⟨fun h2=>?_,fun h2=>?_⟩⟩
 ·rw[Aj h];exact .oA [] []
 ·rw[Aq h,Aj (qT1.2 oM)];exact .oA [] []
 ·rw[Aq h,Aq (by rw[qT1];omega)];exact .oA [] []
theorem zo5 (s:Sch) (hs:ki s) (p:Pk):Sp 242 [schT s,pkT p] [] (vI (wD s p)) []:=by
 refine sIr zb7 fun e _ hst=>?_;unfold KR;refine sW ?_;refine C1.im (kr s hs.2.1 hs.1) rF rF ?_;simp only[tZ,↓uU,simprocAttr,Bj,Aw];refine⟨fun h=>?_,fun h=>?_⟩
 ·rw[wD,Aj h];exact .oA [] []
 refine C1.im (qw4 s h p) rF rF ?_;refine sW ?_;exact .oA [] []
theorem zc2 (s:Sch) (hs:ki s) (l:List Pk) (hl:l.length<4611686018427387904):Sp 64 [schT s,vPs l] [] (vI (yW s l)) []:=by
 refine sIr qP8 fun e _ hst=>?_;unfold Jh;refine sW ?_;refine C1.im (kr s hs.2.1 hs.1) rF rF ?_;simp only[tZ,↓uU,simprocAttr,Bj,Aw];refine⟨fun h=>?_,fun hE=>?_⟩
 ·rw[yW,Aj h];exact .oA [] []
 rw[yW,Aq (by rw[hE];simp)];refine qt mixm (α:=Nat) [16] (fun i=>i≤l.length∧(zW (qu7 s l) i=0)) (fun i=>[(16,vI i)]) (fun i=>[aR 4096 2 [schT s]]) (fun i=>l.length-i) 0 ⟨oM,?_⟩ ?_ fun i hi=>?_
 ·rfl
 ·exact .oA (U1 4096) []
 simp only[tZ,↓uU,simprocAttr,AZ,Ay];refine⟨fun h=>?_,fun h=>?_⟩
 ·have hi2:i<l.length:=by omega
  have hpi:pkAt l i=l[i]:=by rw[pkAt,qj hi2]
  have hstep:=wj hi.2 hi2;have hnext:=jp hi.2;have hA:qu7 s l i=if wD s l[i]≠0 then wD s l[i] else if 0<i∧l[i].col≤(pkAt l (i-1)).col then 10 else 0:=by rw[qu7,hpi]
  have hi2:i<l.length:=by omega
  have hwi:=qh (i:=i) oM;simp only[tZ,↓uU,simprocAttr,Ax,qd hi2,hwi];refine⟨oM,?_⟩;refine C1.im (qw4 s hE l[i]) rF rF ?_;simp only[tZ,↓uU,simprocAttr,Bj,Aw];refine⟨fun h3=>?_,fun h3=>?_⟩
  ·rw[Aj h3] at hA;rw[hstep (by rw[hA];exact h3),hA];exact .oA [] []
  rw[Aq (by rw[h3];simp)] at hA;rcases DQ i with h0 | h0
  ·subst h0;rw[Aq oM] at hA;have hz:((0:Nat):Int)=0:=rfl;have hz2:(IntKind.i64.wrap (-1)).toNat=0:=by decide
   have hz3:=qh (i:=0) oM;rw[hz] at hz3;simp only[tZ,↓uU,simprocAttr,Ax,hz,beq_self_eq_true,gt_iff_lt,Int.lt_irrefl,Fj,hz2,qd hi2,hz3];refine⟨kR,1,⟨oM,by rw[hnext,hA]⟩,oM,?_⟩;exact .oA (U1 4096) []
  ·obtain⟨k,rfl⟩:∃ k,i=k+1:=⟨i-1,oM⟩;have hk3:k<l.length:=by omega
   have e2:decide (((k+1:Nat):Int)>0)=true:=Cx oM;have e3:=wJ (i:=k+1) oM oM;rw[Nat.add_sub_cancel] at e3 hA;rw[pkAt,qj hk3] at hA;simp only[tZ,↓uU,simprocAttr,Ax,qd hi2,qd hk3,e2,e3,hwi,tD];refine⟨oM,kR,fun h4=>?_,fun h4=>?_⟩
   ·rw[Aj ⟨oM,h4⟩] at hA;rw[hstep (by rw[hA];simp),hA];exact .oA [] []
   ·rw[Aq oM] at hA;refine⟨k+2,⟨oM,by rw[hnext,hA]⟩,oM,?_⟩;exact .oA (U1 4096) []
 ·have hi2:i=l.length:=by omega
  subst hi2;rw[hi.2];exact .oA [] []
theorem zB7 (a b:Int):maxI a b=max a b:=by unfold maxI;split <;> omega
theorem jJ9 (a b:Int):minI a b=min a b:=by unfold minI;split <;> omega
set_option maxHeartbeats 4000000
abbrev upN (cs:List Cod) (v x:Nat):Nat:=upF cs v (x+1) x
theorem zo6 {cs:List Cod} {v x:Nat} (h:dep cs x≤v):upN cs v x=x:=zT3 h _
theorem jq7 {cs:List Cod} (hp:qJ2 cs) {v:Nat}:∀ x,x<cs.length→v≤dep cs x→dep cs (upN cs v x)=v∧upN cs v x≤x:=by
 intro x
 induction x using Nat.strongRecOn with
 | _ x ih=>
   intro hx hv;by_cases h:dep cs x≤v
   ·rw[zo6 h];exact⟨oM,BZ _⟩
   ·obtain⟨u1,u2,u3,u4⟩:=up_step hp (lev:=v) hx oM;have:=ih (parC cs x).toNat oM oM oM;rw[show upN cs v x=upN cs v (parC cs x).toNat from u4];exact⟨this.1,oM⟩
theorem qU3 {cs:List Cod} (hp:qJ2 cs) {o v:Nat} (ho:o≤v):∀ x,x<cs.length→v≤dep cs x→upN cs o (upN cs v x)=upN cs o x:=by
 intro x
 induction x using Nat.strongRecOn with
 | _ x ih=>
   intro hx hv;by_cases h:dep cs x≤v
   ·rw[zo6 h]
   ·obtain⟨u1,u2,u3,u4⟩:=up_step hp (lev:=v) hx oM;obtain⟨_,_,_,u5⟩:=up_step hp (lev:=o) hx oM;rw[show upN cs v x=upN cs v (parC cs x).toNat from u4,show upN cs o x=upN cs o (parC cs x).toNat from u5];exact ih (parC cs x).toNat oM oM oM
theorem jB1 {l:CodL} (h:lstE l=0):∀ (k c:Nat),l.codes.length-c=k→c<l.codes.length→∀ v,dep l.codes c≤v→(v:Int)≤zy l-1→∃ d,d<l.codes.length∧dep l.codes d=v∧upN l.codes (dep l.codes c) d=c:=by
 intro k
 induction k using Nat.strongRecOn with
 | _ k ih=>
   intro c hk hc v hv ht;by_cases e:dep l.codes c=v
   ·exact⟨c,hc,e,zo6 (BZ _)⟩
   obtain⟨hp,h1,h2⟩:=zm h;obtain⟨t1,t2,t3⟩:=zI3 h hc;cases hl:qo2 l.codes c with
   | true=>have:=t2 hl;omega
   | false=>
     have hn:¬ ∀ i,i<l.codes.length→parC l.codes i≠c:=fun k=>by rw[zo1.2 k] at hl;cases hl
     simp only[Classical.not_forall] at hn;obtain⟨i,hi,hn⟩:=hn;have hpc:parC l.codes i=c:=AQ hn;have h3:=hp i hi;have h4:=qB6 hp hi oM;rw[hpc,Ax] at h4;obtain⟨d,d1,d2,d3⟩:=ih (l.codes.length-i) oM i rfl hi v oM ht;refine⟨d,d1,d2,?_⟩;have h5:=qU3 hp (o:=dep l.codes c) (v:=dep l.codes i) oM d d1 oM;rw[← h5,d3];obtain⟨_,_,_,u5⟩:=up_step hp (lev:=dep l.codes c) hi oM;rw[show upN l.codes (dep l.codes c) i=upN l.codes (dep l.codes c) (parC l.codes i).toNat from u5,hpc,Ax];exact zo6 (BZ _)
theorem jB2 {α:Type} [DecidableEq α]:∀ {a b:List α},a.Nodup→(∀ x∈a,x∈b)→a.length≤b.length
 | [],_,_,_=>Nat.zero_le _
 | x::r,b,hn,hs=>by
   rw[List.nodup_cons] at hn;have hx:=hs x (List.mem_cons_self ..);have:=jB2 (a:=r) (b:=b.erase x) hn.2 fun y hy=>(List.mem_erase_of_ne (fun e=>hn.1 (by rw[← e];exact hy))).2 (hs y (CQ _ hy));rw[List.length_erase_of_mem hx] at this;have:=List.length_pos_of_mem hx;simp only[CJ];omega
abbrev lvN (cs:List Cod) (v:Nat):List Nat:=(List.range cs.length).filter fun i=>(dep cs i:Int)==v
theorem Yy {cs:List Cod} {v x:Nat}:x∈lvN cs v↔x<cs.length∧dep cs x=v:=by
 rw[Fx,Dk,AY];omega
theorem jq8 (cs:List Cod) (v:Nat):(lvN cs v).Nodup:=List.Nodup.sublist List.filter_sublist List.nodup_range
theorem jP3 {l:CodL} (h:lstE l=0) (v:Nat):(atL l v).length=(lvN l.codes v).length:=by
 rw[atL,Aq (by rw[h];simp),BY]
theorem jK0 {l:CodL} (h:lstE l=0) {o v:Nat} (ho:o≤v) (hv:(v:Int)≤zy l-1):(lvN l.codes o).length≤(lvN l.codes v).length:=by
 obtain⟨hp,h1,h2⟩:=zm h;rw[show (lvN l.codes v).length=((lvN l.codes v).map (upN l.codes o)).length by rw[BY]];refine jB2 (jq8 _ _) fun c hc=>?_;rw[Yy] at hc;obtain⟨d,d1,d2,d3⟩:=jB1 h _ c rfl hc.1 v oM hv;rw[hc.2] at d3;exact Cj.2 ⟨d,Yy.2 ⟨d1,d2⟩,d3⟩
theorem jV6 {l:CodL} (h:lstE l=0) {o v:Nat} (ho:o≤v) (hv:(v:Int)≤zy l-1):(lvN l.codes o).length=(lvN l.codes v).length↔∀ a b,a<l.codes.length→b<l.codes.length→dep l.codes a=v→dep l.codes b=v→upN l.codes o a=upN l.codes o b→a=b:=by
 obtain⟨hp,h1,h2⟩:=zm h;constructor
 ·intro e a b ha hb da db hab;refine AQ fun hne=>?_;have ma:a∈lvN l.codes v:=Yy.2 ⟨ha,da⟩;have mb:b∈(lvN l.codes v).erase a:=(List.mem_erase_of_ne (fun e=>hne e.symm)).2 (Yy.2 ⟨hb,db⟩);have:=jB2 (a:=lvN l.codes o) (b:=((lvN l.codes v).erase a).map (upN l.codes o)) (jq8 _ _) fun c hc=>by
   rw[Yy] at hc;obtain⟨d,d1,d2,d3⟩:=jB1 h _ c rfl hc.1 v oM hv;rw[hc.2] at d3;by_cases k:d=a
   ·exact Cj.2 ⟨b,mb,by rw[← hab,← k,d3]⟩
   ·exact Cj.2 ⟨d,(List.mem_erase_of_ne k).2 (Yy.2 ⟨d1,d2⟩),d3⟩
  rw[BY,List.length_erase_of_mem ma] at this;have:=List.length_pos_of_mem ma;omega
 ·intro hi;refine Nat.le_antisymm (jK0 h ho hv) ?_;rw[show (lvN l.codes v).length=((lvN l.codes v).map (upN l.codes o)).length by rw[BY]];refine jB2 ?_ fun c hc=>?_
  ·rw[List.Nodup,List.pairwise_map];refine List.Pairwise.imp_of_mem ?_ (jq8 l.codes v);intro a b ha hb hne e;rw[Yy] at ha hb;exact hne (hi a b ha.1 hb.1 ha.2 hb.2 e)
  ·obtain⟨d,hd,rfl⟩:=Cj.1 hc;rw[Yy] at hd;have:=jq7 hp (v:=o) d hd.1 oM;exact Yy.2 ⟨oM,this.1⟩
theorem qU4 {a k m:Int} (hk:1≤k) (hm:0≤m):qJ a k≤qJ (a+m) k∧qJ (a+m) k≤qJ a k+m:=by
 unfold qJ;rw[DW _ oM,DW _ oM];have h1:=Int.mul_ediv_add_emod a k;have h2:=Int.emod_nonneg a (b:=k) oM;have h3:=Int.emod_lt_of_pos a (b:=k) oM;have h4:=Int.mul_ediv_add_emod (a+m) k;have h5:=Int.emod_nonneg (a+m) (b:=k) oM;have h6:=Int.emod_lt_of_pos (a+m) (b:=k) oM;constructor
 ·refine AQ fun c=>?_;have:k*((a+m) / k+1)≤k*(a / k):=Int.mul_le_mul_of_nonneg_left oM oM;rw[Int.mul_add] at this;omega
 ·refine AQ fun c=>?_;have:k*(a / k+m+1)≤k*((a+m) / k):=Int.mul_le_mul_of_nonneg_left oM oM;rw[Int.mul_add,Int.mul_add] at this;have h7:1*m≤k*m:=Int.mul_le_mul_of_nonneg_right hk hm;omega
theorem jB3 {a w k:Int} (hw:1≤w) (hk:1≤k):qJ a (k*w)=qJ (qJ a w) k:=by
 have hkw:0≤k*w:=Int.mul_nonneg oM oM;unfold qJ;rw[DW _ (show 0≤w by omega),DW _ (show 0≤k by omega),DW _ hkw,Int.mul_comm,Int.ediv_ediv_of_nonneg oM]
theorem zI5 {a k:Int} (hk:1≤k):(k ∣ a+1→qJ (a+1) k=qJ a k+1)∧(¬ k ∣ a+1→qJ (a+1) k=qJ a k):=by
 unfold qJ;rw[DW _ oM,DW _ oM];have h1:=Int.mul_ediv_add_emod a k;have h2:=Int.emod_nonneg a (b:=k) oM;have h3:=Int.emod_lt_of_pos a (b:=k) oM;constructor
 ·rintro ⟨q,hq⟩;rw[hq,Int.mul_ediv_cancel_left _ oM];have:q=a / k+1:=by
   have e:k*(q-(a / k+1))=a % k+1-k:=by rw[Int.mul_sub,Int.mul_add];omega
   have h4:q-(a / k+1)=0:=by
    refine AQ fun c=>?_;rcases Int.lt_or_gt_of_ne c with c | c
    ·have:k*(q-(a / k+1))≤k*(-1):=Int.mul_le_mul_of_nonneg_left oM oM;omega
    ·have:k*1≤k*(q-(a / k+1)):=Int.mul_le_mul_of_nonneg_left oM oM;omega
   omega
  exact this
 ·intro hn;refine ((Int.ediv_emod_unique (r:=a % k+1) (q:=a / k) (show 0<k by omega)).2 ⟨oM,oM,?_⟩).1;refine AQ fun c=>hn ⟨a / k+1,?_⟩;rw[Int.mul_add];omega
end Go.Proofs
