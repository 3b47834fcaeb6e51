/- A part of the proof: trees of Go values, short forms, contracts. -/
import Derived.Test.YtomoecbcgacncaaGreatDoorK15
namespace Go.Proofs
open Go Go.TL
set_option maxRecDepth 4000
set_option maxHeartbeats 8000000
theorem yP (p:CodL→Bool) (f:FuncId) (caps:List T) (hcap:imL caps=true) (l:List CodL) (hf:∀ y∈l,Sp f (cdlT y::caps) [] (vB (p y)) []) (hl:l.length<4611686018427387904) :
 Sp 65 [.sl 2 (l.map cdlT),.clo f caps] [] (vI (idxI p l)) []:=by
 refine sIr yg fun e _ hst=>?_;unfold zF;refine sW ?_;refine qy mixm (α:=Nat) [8] (fun i=>i≤l.length∧((l.take i).any p=false)) (fun i=>[(8,vI i)]) (fun i=>[]) (fun i=>l.length-i) 0 ⟨oM,?_⟩ ?_ fun i hi=>?_
 ·simp
 ·exact .oA [] []
 simp only[tZ,↓uU,simprocAttr,AZ,Ay];refine⟨fun h=>?_,fun h=>?_⟩
 ·have hi2:i<l.length:=by omega
  have hwi:=qg (i:=i) oM;simp only[tZ,↓uU,simprocAttr,Ax,qd hi2,hwi,Wk];refine⟨oM,?_⟩;refine C1.im (hf l[i] (AX hi2)) (KE rfl hcap) rfl ?_;refine sW ?_;refine⟨fun h3=>?_,fun h3=>⟨i+1,⟨oM,jz hi2 hi.2 h3⟩,oM,?_⟩⟩
  ·rw[idxI,Aj (WO hi2 h3),kC hi2 hi.2 h3];exact .imR rfl rfl
  ·exact .oA [] []
 ·have h2:i=l.length:=by omega
  have h3:=hi.2;rw[h2,Bw] at h3;rw[idxI,Aq (by rw[h3];simp)];exact .imR rfl rfl
theorem wH (p:CodL→Bool) (f:FuncId) (caps:List T) (hcap:imL caps=true) (l:List CodL) (hf:∀ y∈l,Sp f (cdlT y::caps) [] (vB (p y)) []) (hl:l.length<4611686018427387904) :
 Sp 45 [.sl 2 (l.map cdlT),.clo f caps] [] (vB (l.any p)) []:=by
 refine sIr wm fun e _ hst=>?_;unfold zq;refine sW ?_;refine C1.im (yP p f caps hcap l hf hl) (qo4 rfl hcap) rfl ?_;refine sW ?_;rw[show decide (idxI p l≥0)=l.any p from qG6 p l];exact .imR rfl rfl
theorem Qw (p:Col→Bool) (f:FuncId) (caps:List T) (hcap:imL caps=true) (l:List Col) (hf:∀ y∈l,Sp f (colT y::caps) [] (vB (p y)) []) (hl:l.length<4611686018427387904) :
 Sp 98 [.sl 7 (l.map colT),.clo f caps] [] (vI (idxI p l)) []:=by
 refine sIr yY fun e _ hst=>?_;unfold zU;refine sW ?_;refine qy mixm (α:=Nat) [8] (fun i=>i≤l.length∧((l.take i).any p=false)) (fun i=>[(8,vI i)]) (fun i=>[]) (fun i=>l.length-i) 0 ⟨oM,?_⟩ ?_ fun i hi=>?_
 ·simp
 ·exact .oA [] []
 simp only[tZ,↓uU,simprocAttr,AZ,Ay];refine⟨fun h=>?_,fun h=>?_⟩
 ·have hi2:i<l.length:=by omega
  have hwi:=qg (i:=i) oM;simp only[tZ,↓uU,simprocAttr,Ax,qd hi2,hwi,Wk];refine⟨oM,?_⟩;refine C1.im (hf l[i] (AX hi2)) (KE rfl hcap) rfl ?_;refine sW ?_;refine⟨fun h3=>?_,fun h3=>⟨i+1,⟨oM,jz hi2 hi.2 h3⟩,oM,?_⟩⟩
  ·rw[idxI,Aj (WO hi2 h3),kC hi2 hi.2 h3];exact .imR rfl rfl
  ·exact .oA [] []
 ·have h2:i=l.length:=by omega
  have h3:=hi.2;rw[h2,Bw] at h3;rw[idxI,Aq (by rw[h3];simp)];exact .imR rfl rfl
theorem yn (p:Col→Bool) (f:FuncId) (caps:List T) (hcap:imL caps=true) (l:List Col) (hf:∀ y∈l,Sp f (colT y::caps) [] (vB (p y)) []) (hl:l.length<4611686018427387904) :
 Sp 66 [.sl 7 (l.map colT),.clo f caps] [] (vB (l.any p)) []:=by
 refine sIr wP fun e _ hst=>?_;unfold zA;refine sW ?_;refine C1.im (Qw p f caps hcap l hf hl) (qo4 rfl hcap) rfl ?_;refine sW ?_;rw[show decide (idxI p l≥0)=l.any p from qG6 p l];exact .imR rfl rfl
theorem Yl (x y:CodL):Sp 46 [cdlT x,.ip (cdlT y).cells] [] (vB (eqB x.name y.name)) []:=by
 refine sIr Wu fun e _ hst=>?_;unfold wn;refine sW ?_;rw[show (x.name.toList==y.name.toList)=eqB x.name y.name from rfl];exact .oA [] []
theorem Zx (x y:Col):Sp 67 [colT x,.ip (colT y).cells] [] (vB (eqB x.name y.name)) []:=by
 refine sIr Ze fun e _ hst=>?_;unfold jl;refine sW ?_;rw[show (x.name.toList==y.name.toList)=eqB x.name y.name from rfl];exact .oA [] []
def unuB (c:Col):Bool:=!(((c.kind != 2)&&(c.list != 0))||((c.kind != 3)&&((c.low != 0)||(c.high != 0)||(c.widths.length != 0)||c.opt)))
theorem yQ (c:Col):Sp 69 [colT c] [] (vB (unuB c)) []:=by
 refine sIr Ye fun e _ hst=>?_;unfold wQ;refine sW ?_;refine⟨fun h=>?_,fun h=>?_⟩
 ·have:unuB c=false:=by unfold unuB;rw[h];rfl
  rw[this];exact .oA [] []
 ·have e:((c.widths.length:Int)==0)=(c.widths.length==0):=by rw[Bool.eq_iff_iff,AY,AY];omega
  have:unuB c=(c.kind==3||c.low==0&&c.high==0&&((c.widths.length:Int)==0)&&!c.opt):=by
   unfold unuB;rw[h,e];simp only[Bool.false_or,bne,Bool.not_and,Bool.not_or,Bool.not_not]
  rw[this];exact .oA [] []
def qC6 (ws:List Int) (i:Nat):Int:=if i=0 then 1 else ws.getD (i-1) 0
theorem Jf (c:Col):Sp 68 [colT c] [] (vI (measE c)) []:=by
 refine sIr Zu fun e _ hst=>?_;unfold js;refine sW ?_;simp only[tZ,↓uU,simprocAttr,tD,Bx,Bz,AY,Ak];have hin:∀ n:Int,inB n (-1000000) 1000000=false↔(n < -1000000∨n>1000000):=fun n=>by
  unfold inB;rw[FJ,Ay,Ay];omega
 refine⟨fun h=>?_,fun h=>?_⟩
 ·have k:inB c.low (-1000000) 1000000=false∨inB c.high (-1000000) 1000000=false∨c.low>c.high:=by
   rw[hin,hin];omega
  rw[measE,Aj k];exact .oA [] []
 have hA:¬ (inB c.low (-1000000) 1000000=false∨inB c.high (-1000000) 1000000=false∨c.low>c.high):=by
  rw[hin,hin];omega
 refine⟨fun h2=>?_,fun h2=>?_⟩
 ·rw[measE,Aq hA,Aj oM];exact .oA [] []
 have hm:measE c=if zz0 c.widths=false then 2 else 0:=by rw[measE,Aq hA,Aq oM]
 refine qy mixm (α:=Nat) [3,36] (fun i=>i≤c.widths.length∧(∀ j,j<i→wdOk c.widths j=true)) (fun i=>[(3,vI (qC6 c.widths i)),(36,vI i)]) (fun i=>[]) (fun i=>c.widths.length-i) 0 ⟨oM,?_⟩ ?_ fun i hi=>?_
 ·intro j hj;omega
 ·exact .oA [] []
 have hbad:i<c.widths.length→wdOk c.widths i=false→measE c=2:=fun h1 h2=>by
  rw[hm,Aj];exact List.all_eq_false.2 ⟨i,Dk.2 h1,by rw[h2];simp⟩
 have hok:wdOk c.widths i=true→∀ j,j<i+1→wdOk c.widths j=true:=fun h1 j hj=>by
  by_cases e:j=i
  ·rw[e];exact h1
  ·exact hi.2 j oM
 simp only[tZ,↓uU,simprocAttr,AZ,Ay];refine⟨fun h=>?_,fun h=>?_⟩
 ·have hi2:i<c.widths.length:=by omega
  have hwi:=qg (i:=i) oM;have hnx:qC6 c.widths (i+1)=c.widths[i]:=by rw[qC6,Aq oM,Nat.add_sub_cancel,qt hi2]
  rcases DX i with h0 | h0
  ·subst h0;have hw0:wdOk c.widths 0=(c.widths[0]==1):=by rw[wdOk,Aj rfl,qt hi2]
   have hz:((0:Nat):Int)=0:=rfl;rw[hz] at hwi;simp only[tZ,↓uU,simprocAttr,Ax,hz,beq_self_eq_true,gt_iff_lt,Int.lt_irrefl,decide_false,Bool.false_and,Bool.or_false,Fq,qd hi2,Bj,Aw];have hwz:IntKind.i64.wrap 1=((1:Nat):Int):=by decide
   refine⟨oM,fun h3=>?_,fun h3=>?_⟩
   ·rw[hbad hi2 (by rw[hw0];simpa using h3)];exact .oA [] []
   ·rw[hwz];refine⟨1,⟨oM,hok (by rw[hw0];simpa using h3)⟩,oM,?_⟩;rw[hnx];exact .oA [] []
  ·have e1:((i:Int)==0)=false:=Ak.2 oM;have e2:decide ((i:Int)>0)=true:=Cx oM;have hw1:wdOk c.widths i=(decide (qC6 c.widths i<c.widths[i])&&decide (c.widths[i]≤1000000)&&(c.widths[i].tmod (qC6 c.widths i)==0)):=by
    rw[wdOk,Aq oM,qt hi2,qC6,Aq oM]
   have hp1:1≤qC6 c.widths i:=by
    have:=qT2 (ws:=c.widths) hi.2 (i-1) oM;rw[qC6,Aq oM];exact this
   simp only[tZ,↓uU,simprocAttr,Ax,qd hi2,e1,e2,hwi,tD,Bj,Aw];refine⟨oM,fun _=>by omega,fun h3=>?_,fun h3=>?_⟩
   ·rw[hbad hi2 (by rw[hw1];grind)];exact .oA [] []
   ·refine⟨i+1,⟨oM,hok (by rw[hw1];grind)⟩,oM,?_⟩;rw[hnx];exact .oA [] []
 ·have hi2:i=c.widths.length:=by omega
  subst hi2;rw[hm,Aq]
  ·exact .oA [] []
  ·rw[DY];exact Bk.2 fun j hj=>hi.2 j (Dk.1 hj)
theorem JA (s:Sch) (i:Nat) (hi:i<s.cols.length) (hn:s.cols.length<4611686018427387904) (hl:s.lists.length<4611686018427387904):Sp 47 [schT s,vI i] [] (vI (colE s i)) []:=by
 have hat:qA s i=s.cols[i]:=by rw[qA,qt hi]
 have hE:colE s i=if kG s.cols[i].name=false then 3
  else if ((s.cols.take i).any fun x=>eqB x.name s.cols[i].name)=true then 10
  else if inB s.cols[i].kind 1 3=false∨(0<i∧s.cols[i].kind=1) then 4
  else if s.cols[i].kind=2∧inB s.cols[i].list 0 (s.lists.length-1)=false then 5
  else if s.cols[i].kind=3∧measE s.cols[i]≠0 then measE s.cols[i]
  else if (s.cols[i].kind≠2∧s.cols[i].list≠0)∨(s.cols[i].kind≠3∧(s.cols[i].low≠0∨s.cols[i].high≠0∨0<s.cols[i].widths.length∨s.cols[i].opt=true)) then 11 else 0:=by rw[colE,hat]
 rw[hE];refine sIr ZX fun e _ hst=>?_;unfold jG;simp only[tZ,↓uU,simprocAttr,Ax,qd hi];generalize s.cols[i]=c;refine⟨oM,?_⟩;refine C1.im (Je c.name) rF rF ?_;simp only[tZ,↓uU,simprocAttr,Bx,Bz];refine⟨fun h=>?_,fun h=>?_⟩
 ·rw[Aj h];exact .oA [] []
 rw[Aq (by rw[h];simp)];have hCF:=yn (fun x=>eqB x.name c.name) 67 [.ip (colT c).cells] rfl (s.cols.take i) (fun x _=>Zx x c) (by rw[Cz];omega);refine⟨oM,?_⟩;rw[qa3,qR2];refine C1.lend [8212] hCF ?_ rF rF ?_
 ·all_goals (try simp only[tL,simprocAttr,By,List.map_cons,List.map_nil,BW,Cy])
  all_goals (try (repeat' (first | exact zl | (apply zC;intro _;exact⟨rfl,rfl⟩) | (apply qh;intro _;exact⟨rfl,rfl⟩) | with_reducible apply zh | with_reducible refine qE ⟨rfl,rfl⟩ ?_ | exact qK | with_reducible apply zb | with_reducible refine za ⟨rfl,rfl,?_⟩ ?_ | with_reducible apply Az | exact zc rfl | exact zc (by assumption) | (refine⟨⟨?_,rfl,?_,rfl,?_⟩,trivial⟩ <;> first | (simp;done) | (apply qh;intro _;exact⟨rfl,rfl⟩)) | trivial | rfl | (rw[qg oM]) | omega)))
  simp only[ltP];exact⟨rfl,by decide,rfl,qE ⟨rfl,rfl⟩ qK⟩
 simp only[tZ,↓uU,simprocAttr,tD,Bx,Bz,AY,Ak];refine⟨fun h2=>?_,fun h2=>?_⟩
 ·rw[Aj h2];exact .oA [] []
 rw[Aq (by rw[h2];simp)];have hI:inB c.kind 1 3=false↔¬ (1≤c.kind∧c.kind≤3):=by unfold inB;rw[FJ,Ay,Ay];omega
 have hL:inB c.list 0 (s.lists.length-1)=false↔(c.list<0∨(s.lists.length:Int)≤c.list):=by unfold inB;rw[FJ,Ay,Ay];omega
 have hU:unuB c=false↔((c.kind≠2∧c.list≠0)∨(c.kind≠3∧(c.low≠0∨c.high≠0∨0<c.widths.length∨c.opt=true))):=by
  have hw0:c.widths.length≠0↔0<c.widths.length:=by omega
  unfold unuB;rw[Bz,Dy,Bq,Bq,Bj,Bj,Bj,Dy,Dy,Dy,Bj,Bj,Bj,hw0,or_assoc,or_assoc]
 have hfin:∀ (v:Int),(unuB c=false→v=11)→(unuB c=true→v=0)→v=if (c.kind≠2∧c.list≠0)∨(c.kind≠3∧(c.low≠0∨c.high≠0∨0<c.widths.length∨c.opt=true)) then 11 else 0:=fun v h11 h00=>by
  by_cases k:unuB c=false
  ·rw[Aj (hU.1 k),h11 k]
  ·rw[Aq (fun e=>k (hU.2 e)),h00 (by simpa using k)]
 refine⟨fun k1=>⟨fun h3=>?_,fun h3=>?_⟩,fun k1=>⟨fun k2=>⟨fun h3=>?_,fun h3=>?_⟩,fun k2=>⟨fun k3=>?_,fun k3=>?_⟩⟩⟩
 ·rw[Aj (.inr ⟨oM,k1⟩)];exact .oA [] []
 ·rw[Aq (by rw[hI];omega),Aq oM,Aq oM];refine C1.im (yQ c) rF rF ?_;simp only[tZ,↓uU,simprocAttr,Bx,Bz];refine⟨fun h4=>?_,fun h4=>?_⟩
  ·rw[← hfin 11 (fun _=>rfl) (fun k=>by rw[h4] at k;cases k)];exact .oA [] []
  ·rw[← hfin 0 (fun k=>by rw[h4] at k;cases k) (fun _=>rfl)];exact .oA [] []
 ·rw[Aq (by rw[hI];omega),Aj ⟨k2,hL.2 h3⟩];exact .oA [] []
 ·rw[Aq (by rw[hI];omega),Aq (by rw[hL];omega),Aq oM];refine C1.im (yQ c) rF rF ?_;simp only[tZ,↓uU,simprocAttr,Bx,Bz];refine⟨fun h4=>?_,fun h4=>?_⟩
  ·rw[← hfin 11 (fun _=>rfl) (fun k=>by rw[h4] at k;cases k)];exact .oA [] []
  ·rw[← hfin 0 (fun k=>by rw[h4] at k;cases k) (fun _=>rfl)];exact .oA [] []
 ·rw[Aq (by rw[hI];omega),Aq oM];refine C1.im (Jf c) rF rF ?_;simp only[tZ,↓uU,simprocAttr,Bj,Aw];refine⟨fun h3=>?_,fun h3=>?_⟩
  ·rw[Aj ⟨k3,h3⟩];exact .oA [] []
  rw[Aq oM];refine C1.im (yQ c) rF rF ?_;simp only[tZ,↓uU,simprocAttr,Bx,Bz];refine⟨fun h4=>?_,fun h4=>?_⟩
  ·rw[← hfin 11 (fun _=>rfl) (fun k=>by rw[h4] at k;cases k)];exact .oA [] []
  ·rw[← hfin 0 (fun k=>by rw[h4] at k;cases k) (fun _=>rfl)];exact .oA [] []
 ·rw[Aj (.inl (hI.2 oM))];exact .oA [] []
theorem Qx (s:Sch) (hn:s.cols.length<4611686018427387904) (hl:s.lists.length<4611686018427387904):Sp 22 [schT s] [] (vI (schE s)) []:=by
 refine sIr qb5 fun e _ hst=>?_;unfold yE;refine sD ?_;refine⟨fun h=>?_,fun h=>?_⟩
 ·rw[schE,Aj oM];exact .oA [] []
 have hE1:kH s s.lists.length≠0→schE s=kH s s.lists.length:=fun k=>by rw[schE,Aq oM,Aj k]
 refine qy mixm (α:=Nat) [21] (fun i=>i≤s.lists.length∧kH s i=0) (fun i=>[(21,vI i)]) (fun i=>[aR 4096 2 [schT s]]) (fun i=>s.lists.length-i) 0 ⟨oM,rfl⟩ ?_ fun i hi=>?_
 ·exact .oA (U1 4096) []
 obtain⟨i1,i2⟩:=hi;refine sD ?_;refine⟨fun h2=>?_,fun h2=>?_⟩
 ·have hi2:i<s.lists.length:=by omega
  have hwi:=qg (i:=i) oM;have hat:s.lists.getD i default=s.lists[i]:=qt hi2;have hstep:kH s (i+1)=if lstE s.lists[i]≠0 then lstE s.lists[i] else if ((s.lists.take i).any fun x=>eqB x.name s.lists[i].name)=true then 10 else 0:=by
   rw[kH,Aq (by rw[i2];simp),hat]
  have hbad:kH s (i+1)≠0→schE s=kH s (i+1):=fun k=>by
   have:=qd6 k s.lists.length oM;rw[hE1 (by rw[this];exact k),this]
  have hCF:=wH (fun x=>eqB x.name s.lists[i].name) 46 [.ip (cdlT s.lists[i]).cells] rfl (s.lists.take i) (fun x _=>Yl x s.lists[i]) (by rw[Cz];omega);simp only[tZ,↓uU,simprocAttr,Ax,qd hi2,hwi];generalize s.lists[i]=c at *
  refine⟨oM,?_⟩;refine C1.im (qr4 c) rF rF ?_;simp only[tZ,↓uU,simprocAttr,Bj,Aw];refine⟨fun h3=>?_,fun h3=>?_⟩
  ·rw[Aj h3] at hstep;rw[hbad (by rw[hstep];exact h3),hstep];exact .oA [] []
  rw[Aq (by rw[h3];simp)] at hstep;refine⟨oM,?_⟩;rw[qa3,qR2];refine C1.lend [24588] hCF ?_ rF rF ?_
  ·all_goals (try simp only[tL,simprocAttr,By,List.map_cons,List.map_nil,BW,Cy])
   all_goals (try (repeat' (first | exact zl | (apply zC;intro _;exact⟨rfl,rfl⟩) | (apply qh;intro _;exact⟨rfl,rfl⟩) | with_reducible apply zh | with_reducible refine qE ⟨rfl,rfl⟩ ?_ | exact qK | with_reducible apply zb | with_reducible refine za ⟨rfl,rfl,?_⟩ ?_ | with_reducible apply Az | exact zc rfl | exact zc (by assumption) | (refine⟨⟨?_,rfl,?_,rfl,?_⟩,trivial⟩ <;> first | (simp;done) | (apply qh;intro _;exact⟨rfl,rfl⟩)) | trivial | rfl | (rw[qg oM]) | omega)))
   simp only[ltP];exact⟨rfl,by decide,rfl,qE ⟨rfl,rfl⟩ qK⟩
  simp only[tZ,↓uU,simprocAttr,hwi];refine⟨fun h4=>?_,fun h4=>?_⟩
  ·rw[Aj h4] at hstep;rw[hbad (by rw[hstep];simp),hstep];exact .oA [] []
  ·rw[Aq (by rw[h4];simp)] at hstep;refine⟨i+1,⟨oM,hstep⟩,oM,?_⟩;exact .oA (U1 4096) []
 ·have hil:i=s.lists.length:=by omega
  subst hil;have hE2:s.cols.length=0∨(qA s 0).kind≠1→schE s=7:=fun k=>by rw[schE,Aq oM,Aq (by rw[i2];simp),Aj k]
  have hE3:¬ (s.cols.length=0∨(qA s 0).kind≠1)→schE s=QM s s.cols.length:=fun k=>by rw[schE,Aq oM,Aq (by rw[i2];simp),Aq k]
  have hz:((0:Nat):Int)=0:=rfl;by_cases h0:s.cols.length=0
  ·have hn:s.cols=[]:=List.length_eq_zero_iff.1 h0;rw[hE2 (.inl h0)];simp only[tZ,↓uU,simprocAttr,hn,Cw,hz,beq_self_eq_true];exact .oA [] []
  ·have h0p:0<s.cols.length:=by omega
   have e0:((s.cols.length:Int)==0)=false:=Ak.2 oM;have hc0:qA s 0=s.cols[0]:=by rw[qA,qt h0p]
   simp only[tZ,↓uU,simprocAttr,e0,qd h0p,Bj,Aw,Bool.false_or];refine⟨oM,fun h3=>?_,fun h3=>?_⟩
   ·rw[hE2 (.inr (by rw[hc0];exact h3))];exact .oA [] []
   have hE4:=hE3 (by rw[hc0];grind);refine qy mixm (α:=Nat) [53] (fun i=>i≤s.cols.length∧QM s i=0) (fun i=>[(53,vI i)]) (fun i=>[aR 4096 2 [schT s]]) (fun i=>s.cols.length-i) 0 ⟨oM,rfl⟩ ?_ fun i hi=>?_
   ·exact .oA (U1 4096) []
   simp only[tZ,↓uU,simprocAttr,AZ,Ay];refine⟨fun h=>?_,fun h=>?_⟩
   ·have hi2:i<s.cols.length:=by omega
    have hwi:=qg (i:=i) oM;have hstep:QM s (i+1)=colE s i:=by rw[QM,Aq (by rw[hi.2];simp)]
    refine C1.im (JA s i hi2 hn hl) rF rF ?_;simp only[tZ,↓uU,simprocAttr,Bj,Aw,hwi];refine⟨fun h4=>?_,fun h4=>?_⟩
    ·have:=qd7 (s:=s) (i:=i+1) (by rw[hstep];exact h4) s.cols.length oM;rw[hE4,this,hstep];exact .oA [] []
    ·refine⟨i+1,⟨oM,by rw[hstep];exact h4⟩,oM,?_⟩;exact .oA (U1 4096) []
   ·have hil:i=s.cols.length:=by omega
    rw[hE4,← hil,hi.2];exact .oA [] []
def dgt (n:Nat):UInt8:=UInt8.ofNat (48+n)
def topC:Cod:=⟨⟨#[116,111,112]⟩,-1⟩
def kidC (i:Nat):Cod:=⟨⟨#[107,dgt i]⟩,0⟩
def lefC (n i:Nat):Cod:=⟨⟨#[108,dgt n]⟩,1+i⟩
def Zy (k:Nat):List Cod:=topC::(List.range k).map kidC
def addL (cs:List Cod) (i:Nat):List Cod:=cs++[lefC cs.length i]
def lefL:List Cod→Nat→List Nat→List Cod
 | cs,_,[]=>cs
 | cs,i,n::r=>lefL ((List.range n).foldl (fun cs _=>addL cs i) cs) (i+1) r
def allN:Nat→List (List Nat)
 | 0=>[[]]
 | n+1=>(allN n).flatMap fun l=>[1::l,2::l]
theorem qT3:∀ {n:Nat} {l:List Nat},l.length=n→(∀ x∈l,x=1∨x=2)→l∈allN n
 | 0,[],_,_=>by simp [allN]
 | n+1,x::l,h,hx=>by
   have h1:=qT3 (n:=n) (l:=l) (by simpa using h) fun y hy=>hx y (CQ _ hy);rw[allN,Ek];refine⟨l,h1,?_⟩;rcases hx x sMp with h | h <;> subst h <;> simp
 | 0,_::_,h,_=>by simp at h
 | n+1,[],h,_=>by simp at h
def qC7:ByteArray:=⟨#[111,110,101]⟩
def qC8:ByteArray:=⟨#[116,119,111]⟩
theorem zz1:([qC7,qC8].all fun nm=>[1,2,3].all fun k=>lstE ⟨nm,Zy k⟩==0&&(allN k).all fun l=>lstE ⟨nm,lefL (Zy k) 0 l⟩==0)=true:=by decide +kernel
structure DrL (nm:ByteArray) (l:CodL):Prop where
 nm:l.name=nm
 ok:lstE l=0
 len:2≤l.codes.length∧l.codes.length≤10
theorem zp2 {nm:ByteArray} (hn:nm=qC7∨nm=qC8) {k:Nat} (hk:1≤k∧k≤3):lstE ⟨nm,Zy k⟩=0∧∀ l,l.length=k→(∀ x∈l,x=1∨x=2)→lstE ⟨nm,lefL (Zy k) 0 l⟩=0:=by
 have h1:=Bk.1 zz1 nm (by rcases hn with h | h <;> subst h <;> simp);have hk3:k∈[1,2,3]:=by
  have:k=1∨k=2∨k=3:=by omega
  rcases this with h | h | h <;> subst h <;> simp
 have h2:=Bk.1 h1 k hk3;rw[Bq,Bk] at h2;exact⟨by simpa using h2.1,fun l hl hx=>by simpa using h2.2 l (qT3 hl hx)⟩
theorem qT4 {s:Sch}:∀ {n:Nat},(∀ i,i<n→colE s i=0)→QM s n=0
 | 0,_=>rfl
 | n+1,h=>by
   rw[QM,qT4 fun i hi=>h i oM,Aq sMp];exact h n oM
theorem zp3 {s:Sch} {i:Nat} (h1:kG (qA s i).name=true) (h2:((s.cols.take i).any fun x=>eqB x.name (qA s i).name)=false) (h3:(qA s i).kind=3) (h4:(qA s i).list=0) (h5:measE (qA s i)=0):colE s i=0:=by
 rw[colE,Aq (by rw[h1];simp),Aq (by rw[h2];simp),Aq (by rw[h3];simp [inB]),Aq (by rw[h3];simp),Aq (by rw[h5];simp),Aq (by rw[h3,h4];simp)]
theorem qd8 {s:Sch} {i:Nat} (h1:kG (qA s i).name=true) (h2:((s.cols.take i).any fun x=>eqB x.name (qA s i).name)=false) (h3:(qA s i).kind=2) (h4:inB (qA s i).list 0 (s.lists.length-1)=true)
 (h5:(qA s i).low=0∧(qA s i).high=0∧(qA s i).widths=[]∧(qA s i).opt=false):colE s i=0:=by
 rw[colE,Aq (by rw[h1];simp),Aq (by rw[h2];simp),Aq (by rw[h3];simp [inB]),Aq (by rw[h4];simp),Aq (by rw[h3];simp),Aq (by rw[h3,h5.1,h5.2.1,h5.2.2.1,h5.2.2.2];simp)]
theorem zp4 {s:Sch} (h1:kG (qA s 0).name=true) (h3:(qA s 0).kind=1) (h5:(qA s 0).list=0∧(qA s 0).low=0∧(qA s 0).high=0∧(qA s 0).widths=[]∧(qA s 0).opt=false):colE s 0=0:=by
 rw[colE,Aq (by rw[h1];simp),Aq sMp,Aq (by rw[h3];simp [inB]),Aq (by rw[h3];simp),Aq (by rw[h3];simp),Aq (by rw[h3,h5.1,h5.2.1,h5.2.2.1,h5.2.2.2.1,h5.2.2.2.2];simp)]
def whoC:Col:=⟨⟨#[119,104,111]⟩,1,0,0,0,[],false⟩
def sexC:Col:=⟨⟨#[115,101,120]⟩,2,0,0,0,[],false⟩
def jobC:Col:=⟨⟨#[106,111,98]⟩,2,1,0,0,[],false⟩
def wTab:List (List Int):=[[1],[1,5],[1,5,20],[1,2,4,12]]
structure DrM (n:Nat) (c:Col):Prop where
 nm:c.name=⟨#[109,dgt n]⟩
 kind:c.kind=3
 list:c.list=0
 low : -4≤c.low∧c.low≤2
 high:c.low≤c.high∧c.high≤c.low+44
 wid:c.widths∈wTab
theorem DrM.measE {n:Nat} {c:Col} (h:DrM n c):measE c=0:=by
 have hl:=h.low;have hh:=h.high;have hw:=h.wid;have h1:inB c.low (-1000000) 1000000=true:=by simp only[inB,Bq,AZ];omega
 have h2:inB c.high (-1000000) 1000000=true:=by simp only[inB,Bq,AZ];omega
 have h3:1≤c.widths.length∧c.widths.length≤4∧zz0 c.widths=true:=by
  simp only[wTab,Ck,List.not_mem_nil,or_false] at hw;rcases hw with hw | hw | hw | hw <;> rw[hw] <;> decide
 rw[_root_.Go.Proofs.measE,Aq (by rw[h1,h2];simp;omega),Aq oM,Aq (by rw[h3.2.2];simp)]
structure DrS (s:Sch):Prop where
 ls:∃ a b,s.lists=[a,b]∧DrL qC7 a∧DrL qC8 b
 cs:∃ ms,(s.cols=whoC::sexC::ms∧(∀ i (h:i<ms.length),DrM (2+i) ms[i])∨s.cols=whoC::sexC::jobC::ms∧∀ i (h:i<ms.length),DrM (3+i) ms[i])∧1≤ms.length∧ms.length≤3
theorem zU3:∀ n:Nat,n<10→kG ⟨#[109,dgt n]⟩=true:=by
 have:∀ n:Fin 10,kG ⟨#[109,dgt n.1]⟩=true:=by decide +kernel
 exact fun n h=>this ⟨n,h⟩
theorem zU4:∀ i j:Nat,i<10→j<10→i≠j→eqB ⟨#[109,dgt i]⟩ ⟨#[109,dgt j]⟩=false:=by
 have:∀ i j:Fin 10,i.1≠j.1→eqB ⟨#[109,dgt i.1]⟩ ⟨#[109,dgt j.1]⟩=false:=by decide +kernel
 exact fun i j hi hj h=>this ⟨i,hi⟩ ⟨j,hj⟩ h
theorem zR5:∀ j:Nat,j<10→eqB whoC.name ⟨#[109,dgt j]⟩=false∧eqB sexC.name ⟨#[109,dgt j]⟩=false∧eqB jobC.name ⟨#[109,dgt j]⟩=false:=by
 have:∀ j:Fin 10,eqB whoC.name ⟨#[109,dgt j.1]⟩=false∧eqB sexC.name ⟨#[109,dgt j.1]⟩=false∧eqB jobC.name ⟨#[109,dgt j.1]⟩=false:=by decide +kernel
 exact fun j hj=>this ⟨j,hj⟩
theorem zL5 {s:Sch} {a b:CodL} (h:s.lists=[a,b]) (ha:DrL qC7 a) (hb:DrL qC8 b):kH s s.lists.length=0:=by
 have e1:kH s 1=0:=by
  rw[kH,kH,Aq sMp,h];show (if lstE a≠0 then lstE a else _)=0;rw[Aq (by rw[ha.ok];simp)]
  rfl
 rw[h];show kH s 2=0;rw[kH,e1,Aq sMp,h];show (if lstE b≠0 then lstE b else if ([a].any fun x=>eqB x.name b.name)=true then (10:Int) else 0)=0;rw[Aq (by rw[hb.ok];simp),Aq];simp only[List.any_cons,List.any_nil,Bool.or_false,ha.nm,hb.nm];rw[show eqB qC7 qC8=false by decide +kernel];simp
theorem KS:kG whoC.name=true∧kG sexC.name=true∧kG jobC.name=true∧eqB whoC.name sexC.name=false∧eqB whoC.name jobC.name=false∧eqB sexC.name jobC.name=false∧eqB qC7 qC8=false:=by decide +kernel
theorem zL6 {s:Sch} {pre ms:List Col} (hl:s.lists.length=2) (hc:s.cols=pre++ms) (hp:pre=[whoC,sexC]∨pre=[whoC,sexC,jobC]) (hm:∀ i (h:i<ms.length),DrM (pre.length+i) ms[i]) (hn:ms.length≤3):QM s s.cols.length=0:=by
 refine qT4 fun i hi=>?_;by_cases h:i<pre.length
 ·have ha:qA s i=pre[i]:=by
   rw[qA,hc,CY,BK h,CK h];rfl
  have ht:s.cols.take i=pre.take i:=by rw[hc,List.take_append_of_le_length oM]
  rcases hp with hp | hp
  ·subst hp;have h2:i=0∨i=1:=by simp at h;omega
   rcases h2 with h2 | h2 <;> subst h2
   ·exact zp4 (by rw[ha];exact KS.1) (by rw[ha];rfl) (by rw[ha];exact⟨rfl,rfl,rfl,rfl,rfl⟩)
   ·exact qd8 (by rw[ha];exact KS.2.1) (by rw[ha,ht];show (eqB whoC.name sexC.name||false)=false;rw[KS.2.2.2.1];rfl) (by rw[ha];rfl) (by rw[ha,hl];rfl) (by rw[ha];exact⟨rfl,rfl,rfl,rfl⟩)
  ·subst hp;have h2:i=0∨i=1∨i=2:=by simp at h;omega
   rcases h2 with h2 | h2 | h2 <;> subst h2
   ·exact zp4 (by rw[ha];exact KS.1) (by rw[ha];rfl) (by rw[ha];exact⟨rfl,rfl,rfl,rfl,rfl⟩)
   ·exact qd8 (by rw[ha];exact KS.2.1) (by rw[ha,ht];show (eqB whoC.name sexC.name||false)=false;rw[KS.2.2.2.1];rfl) (by rw[ha];rfl) (by rw[ha,hl];rfl) (by rw[ha];exact⟨rfl,rfl,rfl,rfl⟩)
   ·exact qd8 (by rw[ha];exact KS.2.2.1) (by rw[ha,ht];show (eqB whoC.name jobC.name||(eqB sexC.name jobC.name||false))=false;rw[KS.2.2.2.2.1,KS.2.2.2.2.2.1];rfl) (by rw[ha];rfl) (by rw[ha,hl];rfl) (by rw[ha];exact⟨rfl,rfl,rfl,rfl⟩)
 ·have hi2:i-pre.length<ms.length:=by rw[hc,AW] at hi;omega
  have hpl:pre.length≤3:=by rcases hp with hp | hp <;> subst hp <;> simp
  have ha:qA s i=ms[i-pre.length]:=by
   rw[qA,hc,CY,BJ oM,CK hi2];rfl
  have d:=hm _ hi2;rw[show pre.length+(i-pre.length)=i by omega] at d;refine zp3 (by rw[ha,d.nm];exact zU3 i oM) ?_ (by rw[ha];exact d.kind) (by rw[ha];exact d.list) (by rw[ha];exact d.measE);rw[ha,d.nm,hc,List.any_eq_false];intro x hx;rw[List.take_append] at hx;rcases Dz.1 hx with hx | hx
  ·have hx:=EX hx;have hf:=zR5 i oM;have:x=whoC∨x=sexC∨x=jobC:=by
    rcases hp with hp | hp <;> subst hp <;> simp at hx <;> rcases hx with h | h | h <;> simp [h]
   rcases this with h | h | h <;> subst h <;> simp [hf.1,hf.2.1,hf.2.2]
  ·obtain⟨j,hj,rfl⟩:=List.mem_take_iff_getElem.1 hx;have dj:=hm j oM;rw[dj.nm,zU4 (pre.length+j) i oM oM oM];simp
theorem DrS.ok {s:Sch} (h:DrS s):schE s=0:=by
 obtain⟨a,b,hl,ha,hb⟩:=h.ls;obtain⟨ms,hc,hm1,hm3⟩:=h.cs;have h2:s.lists.length=2:=by rw[hl];rfl
 have key:∀ pre:List Col,(pre=[whoC,sexC]∨pre=[whoC,sexC,jobC])→s.cols=pre++ms→(∀ i (h:i<ms.length),DrM (pre.length+i) ms[i])→schE s=0:=by
  intro pre hp hc hd;have hpl:2≤pre.length∧pre.length≤3:=by rcases hp with hp | hp <;> subst hp <;> simp
  have h0:(qA s 0).kind=1:=by
   rw[qA,hc];rcases hp with hp | hp <;> subst hp <;> rfl
  rw[schE,Aq (by rw[h2,hc,AW];omega),Aq (by rw[zL5 hl ha hb];simp),Aq (by rw[hc,AW];omega)];exact zL6 h2 hc hp hd hm3
 rcases hc with⟨hc,hd⟩ | ⟨hc,hd⟩
 ·exact key [whoC,sexC] (.inl rfl) hc hd
 ·exact key [whoC,sexC,jobC] (.inr rfl) hc hd
theorem zp5 {l:CodL} (h:lstE l=0) {lev v:Int}:v∈atL l lev↔∃ i:Nat,i<l.codes.length∧(dep l.codes i:Int)=lev∧v=(i:Int):=by
 rw[atL,Aq (by rw[h];simp)];simp only[Cj,Fz,Dk,AY];constructor
 ·rintro ⟨i,⟨h1,h2⟩,rfl⟩;exact⟨i,h1,h2,rfl⟩
 ·rintro ⟨i,h1,h2,rfl⟩;exact⟨i,⟨h1,h2⟩,rfl⟩
theorem zz2 {l:CodL} (h:lstE l=0):wa l-1=(dep l.codes (l.codes.length-1):Int):=by
 rw[wa,Aq (by rw[h];simp)];omega
theorem zp6 {l:CodL} (h:lstE l=0):0<(atL l (wa l-1)).length:=by
 obtain⟨_,h1,_⟩:=kf h;have:((l.codes.length-1:Nat):Int)∈atL l (wa l-1):=(zp5 h).2 ⟨l.codes.length-1,oM,(zz2 h).symm,rfl⟩;exact List.length_pos_of_mem this
theorem qY6 {s:Sch} {i:Nat} (hk:(qA s i).kind=2) (hl:lstE (kI s i)=0) {v:Int} (hv:v∈kV s i):jX s i v=true:=by
 obtain⟨j,h1,h2,rfl⟩:=(zp5 hl).1 hv;rw[jX,Aq (by rw[hk];decide),Aj hk,Bq];refine⟨by simp only[inB,Bq,AZ];omega,?_⟩;rw[AY,lvlC,Aq (by rw[hl];omega),Ax,h2]
theorem qI4 {s:Sch} {row:List Int} (hs:schE s=0) (hl:row.length=s.cols.length) (h:∀ i,i<row.length→jX s i (row.getD i 0)=true):rowE s row=0:=by
 rw[rowE,Aq (by rw[hs];simp),Aq (by rw[hl];simp),Aq];rw[DY,Bk];intro i hi;exact h i (Dk.1 hi)
theorem Jg {s:Sch} {row:List Int} (h:rowE s row=0):schE s=0∧row.length=s.cols.length∧∀ i,i<row.length→jX s i (row.getD i 0)=true:=by
 unfold rowE at h;split at h
 ·rename_i h1;exact absurd h h1
 ·split at h
  ·cases h
  ·split at h
   ·cases h
   ·rename_i h1 h2 h3;rw[DY,Bk] at h3;exact⟨AQ h1,oM,fun i hi=>h3 i (Dk.2 hi)⟩
theorem qC9 {s:Sch}:∀ {n:Nat},QM s n=0→∀ i,i<n→colE s i=0
 | 0,_,i,h=>by omega
 | n+1,h,i,hi=>by
   rw[QM] at h;split at h
   ·rename_i h2;exact absurd h h2
   ·rename_i h2;by_cases e:i=n
    ·rw[e];exact h
    ·exact qC9 (AQ h2) i oM
theorem qD0 {s:Sch}:∀ {n:Nat},kH s n=0→∀ i,i<n→lstE (s.lists.getD i default)=0
 | 0,_,i,h=>by omega
 | n+1,h,i,hi=>by
   rw[kH] at h;split at h
   ·rename_i h2;exact absurd h h2
   ·rename_i h2;split at h
    ·rename_i h3;exact absurd h h3
    ·rename_i h3;by_cases e:i=n
     ·rw[e];exact AQ h3
     ·exact qD0 (AQ h2) i oM
structure SchOk (s:Sch):Prop where
 nl:s.lists.length≤6
 nc:1≤s.cols.length∧s.cols.length≤8
 ls:∀ i,i<s.lists.length→lstE (s.lists.getD i default)=0
 c0:(qA s 0).kind=1
 cs:∀ i,i<s.cols.length→colE s i=0
theorem jn {s:Sch} (h:schE s=0):SchOk s:=by
 unfold schE at h;split at h
 ·cases h
 ·split at h
  ·rename_i h2;exact absurd h h2
  ·split at h
   ·cases h
   ·rename_i h1 h2 h3;refine⟨oM,oM,qD0 (AQ h2),?_,qC9 h⟩;exact AQ fun e=>h3 (.inr e)
theorem wI {s:Sch} {i:Nat} (h:colE s i=0):1≤(qA s i).kind∧(qA s i).kind≤3∧(0<i→(qA s i).kind≠1)∧((qA s i).kind=2→0≤(qA s i).list∧(qA s i).list<s.lists.length)∧((qA s i).kind=3→measE (qA s i)=0):=by
 unfold colE at h;split at h
 ·cases h
 ·split at h
  ·cases h
  ·split at h
   ·cases h
   ·split at h
    ·cases h
    ·rename_i h1 h2 h3 h4;have hk:inB (qA s i).kind 1 3=true:=by
      cases e:inB (qA s i).kind 1 3 with
      | true=>rfl
      | false=>exact absurd (.inl e) h3
     simp only[inB,Bq,AZ] at hk;refine⟨hk.1,hk.2,fun h0 e=>h3 (.inr ⟨h0,e⟩),fun e=>?_,fun e=>?_⟩
     ·have:inB (qA s i).list 0 (s.lists.length-1)=true:=by
       cases e2:inB (qA s i).list 0 (s.lists.length-1) with
       | true=>rfl
       | false=>exact absurd ⟨e,e2⟩ h4
      simp only[inB,Bq,AZ] at this;omega
     ·split at h
      ·rename_i h5;exact absurd h h5.2
      ·rename_i h5;exact AQ fun e2=>h5 ⟨e,e2⟩
theorem SchOk.cdl {s:Sch} (h:SchOk s) {i:Nat} (hi:i<s.cols.length) (hk:(qA s i).kind=2):(qA s i).list.toNat<s.lists.length∧lstE (kI s i)=0:=by
 have h1:=(wI (h.cs i hi)).2.2.2.1 hk;exact⟨oM,h.ls _ oM⟩
theorem SchOk.sm {s:Sch} (h:SchOk s):qC5 s:=by
 have h1:=h.nl;have h2:=h.nc;refine⟨oM,oM,fun l hl=>?_⟩;obtain⟨i,hi,rfl⟩:=CX hl;have h3:=h.ls i hi;rw[qt hi] at h3;have:=(kf h3).2.2;omega
theorem zp7 {l:CodL} : -1≤wa l∧wa l≤60:=by
 unfold wa;split
 ·omega
 ·rename_i h;obtain⟨hp,h1,h2⟩:=kf (AQ h);have:=zo7 hp (l.codes.length-1) oM;omega
theorem qr5 (s:Sch) (h:SchOk s) (i:Nat) (hi:i<s.cols.length) (v:Int):Sp 54 [schT s,vI i,vI v] [] (vB (jX s i v)) []:=by
 have hat:qA s i=s.cols[i]:=by rw[qA,qt hi]
 have hk:=wI (h.cs i hi);have hcd:=fun e=>h.cdl hi e;have hE:jX s i v=if s.cols[i].kind=1 then inB v 1 1048575
  else if s.cols[i].kind=2 then inB v 0 ((kI s i).codes.length-1)&&(lvlC (kI s i) v==wa (kI s i)-1)
  else (s.cols[i].opt&&(v==qd4))||inB v s.cols[i].low s.cols[i].high:=by rw[jX,hat]
 have hcl:kI s i=s.lists.getD s.cols[i].list.toNat default:=by rw[kI,hat]
 rw[hat] at hk hcd;rw[hE];rw[hcl] at hcd ⊢
 refine sIr qh3 fun e _ hst=>?_;unfold Qr;simp only[tZ,↓uU,simprocAttr,Ax,qd hi];generalize s.cols[i]=c at hk hcd ⊢
 simp only[tZ,↓uU,simprocAttr,AY,Ak];refine⟨oM,fun h1=>?_,fun h1=>⟨fun h2=>?_,fun h2=>?_⟩⟩
 ·rw[Aj h1];refine C1.im (wv v 1 1048575) rF rF ?_;refine sW ?_;exact .oA [] []
 ·obtain⟨d1,d2⟩:=hcd h2;obtain⟨d3,d4⟩:=hk.2.2.2.1 h2;have hgl:s.lists.getD c.list.toNat default=s.lists[c.list.toNat]:=qt d1;rw[Aq h1,Aj h2];rw[hgl] at d2 ⊢
  obtain⟨_,d5,d6⟩:=kf d2;simp only[tZ,↓uU,simprocAttr,qd d1];generalize s.lists[c.list.toNat]=l at d2 d5 d6 ⊢
  have hw:IntKind.i64.wrap ((l.codes.length:Int)-1)=(l.codes.length:Int)-1:=AK _ oM;have hlv:=zp7 (l:=l);have hw2:IntKind.i64.wrap (wa l-1)=wa l-1:=AK _ oM;simp only[tZ,↓uU,simprocAttr,hw];refine⟨oM,?_⟩;refine C1.im (wv v 0 _) rF rF ?_;refine sW ?_;refine C2.im (fun _=>qr3 l v oM) (fun _=>rfl) rF ?_;refine sW ?_;refine C2.im (fun _=>JK l oM) (fun _=>rfl) rF ?_;simp only[tZ,↓uU,simprocAttr,hw2];refine⟨kR,?_⟩;exact .oA [] []
 ·rw[Aq h1,Aq h2];refine C2.im (fun _=>wv v c.low c.high) (fun _=>rfl) rF ?_;refine sW ?_;rw[show (c.opt&&v == -1099511627776)=(c.opt&&(v==qd4)) from rfl];exact .oA [] []
theorem qT5 {s:Sch} {row:List Int} {i:Nat} (h1:schE s=0) (h2:row.length=s.cols.length) (hi:i<row.length) (h:jX s i row[i]=false):rowE s row=9:=by
 rw[rowE,Aq (by rw[h1];simp),Aq oM,Aj];exact List.all_eq_false.2 ⟨i,Dk.2 hi,by rw[qt hi,h];simp⟩
theorem qd9 (s:Sch) (hs:qC5 s) (row:List Int) (hr:row.length<4611686018427387904):Sp 29 [schT s,vIs row] [] (vI (rowE s row)) []:=by
 refine sIr qC0 fun e _ hst=>?_;unfold ZT;refine sW ?_;refine C1.im (Zl s hs) rF rF ?_;simp only[tZ,↓uU,simprocAttr,Bj,Aw];refine⟨fun h=>?_,fun h=>⟨fun h2=>?_,fun h2=>?_⟩⟩
 ·rw[rowE,Aj h];exact .oA [] []
 ·rw[rowE,Aq (by rw[h];simp),Aj oM];exact .oA [] []
 have hok:=jn h;have h0:=h;refine qy mixm (α:=Nat) [6] (fun i=>i≤row.length∧(∀ j,j<i→jX s j (row.getD j 0)=true)) (fun i=>[(6,vI i)]) (fun i=>[aR 4096 2 [schT s]]) (fun i=>row.length-i) 0 ⟨oM,?_⟩ ?_ fun i hi=>?_
 ·intro j hj;omega
 ·exact .oA (U1 4096) []
 simp only[tZ,↓uU,simprocAttr,AZ,Ay];refine⟨fun h=>?_,fun h=>?_⟩
 ·have hi2:i<row.length:=by omega
  have hwi:=qg (i:=i) oM;simp only[tZ,↓uU,simprocAttr,Ax,qd hi2,hwi];refine⟨oM,?_⟩;refine C1.im (qr5 s hok i oM row[i]) rF rF ?_;simp only[tZ,↓uU,simprocAttr,Bx,Bz];refine⟨kR,fun h3=>?_,fun h3=>?_⟩
  ·rw[qT5 h0 oM hi2 h3];exact .oA [] []
  ·refine⟨i+1,⟨oM,fun j hj=>?_⟩,oM,?_⟩
   ·by_cases e:j=i
    ·rw[e,qt hi2];exact h3
    ·exact hi.2 j oM
   ·exact .oA (U1 4096) []
 ·have hi2:i=row.length:=by omega
  subst hi2;rw[qI4 h0 oM hi.2];exact .oA [] []
theorem Yu {cs:List Cod}:∀ {n:Nat} {v:Int},lvs cs n=some v→∀ j,j<n→KP cs j=true→(dep cs j:Int)=v
 | 0,_,_,j,h,_=>by omega
 | n+1,v,h,j,hj,hl=>by
   rw[Yt] at h;cases e:lvs cs n with
   | none=>rw[e] at h;cases h
   | some w=>
     rw[e] at h;have ih:=fun k hk h2=>Yu e k hk h2;unfold lvS at h;dsimp only at h;split at h
     ·split at h
      ·cases h
      ·rename_i h2;have hv:(dep cs n:Int)=v:=by simpa using h
       by_cases e2:j=n
       ·rw[e2];exact hv
       ·have:=ih j oM hl;omega
     ·rename_i h2;have hv:w=v:=by simpa using h
      by_cases e2:j=n
      ·rw[e2] at hl;exact absurd hl h2
      ·have:=ih j oM hl;omega
theorem qT6 {cs:List Cod} {c:Nat}:KP cs c=true↔∀ i,i<cs.length→parC cs i≠c:=by
 unfold KP;rw[Bx,List.any_eq_false];constructor
 ·intro h i hi e;have:=h cs[i] (AX hi);rw[parC,cdAt,qt hi] at e;simp [e] at this
 ·intro h x hx;obtain⟨i,hi,rfl⟩:=CX hx;have:=h i hi;rw[parC,cdAt,qt hi] at this;simpa using this
theorem zz3 {l:CodL} (h:lstE l=0):∃ v,lvs l.codes l.codes.length=some v:=by
 unfold lstE at h;split at h
 ·cases h
 ·split at h
  ·cases h
  ·split at h
   ·cases h
   ·split at h
    ·rename_i h2;exact absurd h h2
    ·split at h
     ·cases h
     ·rename_i v e;exact⟨v,e⟩
theorem zL7 {l:CodL} (h:lstE l=0) {c:Nat} (hc:c<l.codes.length):(dep l.codes c:Int)≤wa l-1∧(KP l.codes c=true→(dep l.codes c:Int)=wa l-1)∧(KP l.codes c=false→(dep l.codes c:Int)<wa l-1):=by
 obtain⟨hp,h1,h2⟩:=kf h;obtain⟨v,hv⟩:=zz3 h;have hlast:KP l.codes (l.codes.length-1)=true:=qT6.2 fun i hi e=>by
  have:=(hp i hi).2;omega
 have hlv:=Yu hv (l.codes.length-1) oM hlast;have hL:wa l-1=v:=by rw[wa,Aq (by rw[h];simp)];omega
 have hall:∀ k c,l.codes.length-c=k→c<l.codes.length→(dep l.codes c:Int)≤v∧(KP l.codes c=false→(dep l.codes c:Int)<v):=by
  intro k
  induction k using Nat.strongRecOn with
  | _ k ih=>
    intro c hk hc;cases hl:KP l.codes c with
    | true=>
      have:=Yu hv c hc hl;exact⟨oM,fun e=>by cases e⟩
    | false=>
      have hn:¬ ∀ i,i<l.codes.length→parC l.codes i≠c:=fun k=>by rw[qT6.2 k] at hl;cases hl
      simp only[Classical.not_forall] at hn;obtain⟨i,hi,hn⟩:=hn;have hpc:parC l.codes i=c:=AQ hn;have h3:=hp i hi;have h4:=qd1 hp hi oM;rw[hpc,Ax] at h4;have h5:=ih (l.codes.length-i) oM i rfl hi;have:=h5.1;exact⟨oM,fun _=>by omega⟩
 have:=hall _ c rfl hc;rw[hL];exact⟨this.1,fun hl=>Yu hv c hc hl,this.2⟩
theorem zz4 {l:CodL} (h:lstE l=0) {c:Nat} (hc:c<l.codes.length):KP l.codes c=true↔(dep l.codes c:Int)=wa l-1:=by
 obtain⟨_,h2,h3⟩:=zL7 h hc;cases hl:KP l.codes c with
 | true=>exact⟨fun _=>h2 hl,fun _=>rfl⟩
 | false=>
   have:=h3 hl;exact⟨(by intro e;cases e),fun e=>by omega⟩
theorem Zm (p:Cod→Bool) (f:FuncId) (caps:List T) (hcap:imL caps=true) (l:List Cod) (hf:∀ y∈l,Sp f (codT y::caps) [] (vB (p y)) []) (hl:l.length<4611686018427387904) :
 Sp 99 [.sl 2 (l.map codT),.clo f caps] [] (vI (idxI p l)) []:=by
 refine sIr QI fun e _ hst=>?_;unfold jh;refine sW ?_;refine qy mixm (α:=Nat) [8] (fun i=>i≤l.length∧((l.take i).any p=false)) (fun i=>[(8,vI i)]) (fun i=>[]) (fun i=>l.length-i) 0 ⟨oM,?_⟩ ?_ fun i hi=>?_
 ·simp
 ·exact .oA [] []
 simp only[tZ,↓uU,simprocAttr,AZ,Ay];refine⟨fun h=>?_,fun h=>?_⟩
 ·have hi2:i<l.length:=by omega
  have hwi:=qg (i:=i) oM;simp only[tZ,↓uU,simprocAttr,Ax,qd hi2,hwi,Wk];refine⟨oM,?_⟩;refine C1.im (hf l[i] (AX hi2)) (KE rfl hcap) rfl ?_;refine sW ?_;refine⟨fun h3=>?_,fun h3=>⟨i+1,⟨oM,jz hi2 hi.2 h3⟩,oM,?_⟩⟩
  ·rw[idxI,Aj (WO hi2 h3),kC hi2 hi.2 h3];exact .imR rfl rfl
  ·exact .oA [] []
 ·have h2:i=l.length:=by omega
  have h3:=hi.2;rw[h2,Bw] at h3;rw[idxI,Aq (by rw[h3];simp)];exact .imR rfl rfl
theorem yZ (p:Cod→Bool) (f:FuncId) (caps:List T) (hcap:imL caps=true) (l:List Cod) (hf:∀ y∈l,Sp f (codT y::caps) [] (vB (p y)) []) (hl:l.length<4611686018427387904) :
 Sp 70 [.sl 2 (l.map codT),.clo f caps] [] (vB (l.any p)) []:=by
 refine sIr yN fun e _ hst=>?_;unfold zP;refine sW ?_;refine C1.im (Zm p f caps hcap l hf hl) (qo4 rfl hcap) rfl ?_;refine sW ?_;rw[show decide (idxI p l≥0)=l.any p from qG6 p l];exact .imR rfl rfl
theorem qe0 (x:Cod) (v:Int):Sp 71 [codT x,.ip [vI v]] [] (vB (x.par==v)) []:=by
 refine sIr Yg fun e _ hst=>?_;unfold wR;refine sW ?_;exact .oA [] []
theorem zp8 {l:CodL} (h:lstE l=0) (v:Int):(decide (0≤v)&&decide (v<l.codes.length)&&!(l.codes.any fun x=>x.par==v))=(inB v 0 (l.codes.length-1)&&(lvlC l v==wa l-1)):=by
 unfold inB;by_cases h0:0≤v∧v<l.codes.length
 ·obtain⟨c,rfl⟩:=AJ h0.1;have hc:c<l.codes.length:=by omega
  have h1:lvlC l c=dep l.codes c:=by rw[lvlC,Aq (by rw[h];simp;omega),Ax]
  rw[Cx h0.1,Cx h0.2,Cx (show (c:Int)≤(l.codes.length:Int)-1 by omega),h1];simp only[Fq];rw[Bool.eq_iff_iff,AY,← zz4 h hc]
  rfl
 ·by_cases h1:0≤v
  ·rw[Cx h1,Cq (show ¬ v<l.codes.length by omega),Cq (show ¬ v≤(l.codes.length:Int)-1 by omega)]
   rfl
  ·rw[Cq h1]
   rfl
theorem qr6 (s:Sch) (h:SchOk s) (i:Nat) (hi:i<s.cols.length) (v:Int):Sp 48 [schT s,colT s.cols[i],vI v] [] (vB (jX s i v)) []:=by
 have hat:qA s i=s.cols[i]:=by rw[qA,qt hi]
 have hk:=wI (h.cs i hi);have hcd:=fun e=>h.cdl hi e;have hE:jX s i v=if s.cols[i].kind=1 then inB v 1 1048575
  else if s.cols[i].kind=2 then inB v 0 ((kI s i).codes.length-1)&&(lvlC (kI s i) v==wa (kI s i)-1)
  else (s.cols[i].opt&&(v==qd4))||inB v s.cols[i].low s.cols[i].high:=by rw[jX,hat]
 have hcl:kI s i=s.lists.getD s.cols[i].list.toNat default:=by rw[kI,hat]
 rw[hat] at hk hcd;rw[hE];rw[hcl] at hcd ⊢
 generalize s.cols[i]=c at hk hcd ⊢
 refine sIr qg9 fun e _ hst=>?_;unfold Qp;refine sW ?_;simp only[tZ,↓uU,simprocAttr,AY,Ak];refine⟨fun h1=>?_,fun h1=>⟨fun h2=>?_,fun h2=>?_⟩⟩
 ·rw[Aj h1,show inB v 1 1048575=(decide (1≤v)&&decide (v≤1048575)) from rfl];exact .oA [] []
 ·obtain⟨d1,d2⟩:=hcd h2;obtain⟨d3,d4⟩:=hk.2.2.2.1 h2;have hgl:s.lists.getD c.list.toNat default=s.lists[c.list.toNat]:=qt d1;rw[Aq h1,Aj h2];rw[hgl] at d2 ⊢
  obtain⟨_,d5,d6⟩:=kf d2;simp only[tZ,↓uU,simprocAttr,qd d1];generalize s.lists[c.list.toNat]=l at d2 d5 d6 ⊢
  have hCF:=yZ (fun x=>x.par==v) 71 [.ip [vI v]] rfl l.codes (fun x _=>qe0 x v) oM;refine⟨oM,?_⟩;refine C2.lend [4104] (fun _=>hCF) (fun _=>?_) rF rF ?_
  ·all_goals (try simp only[tL,simprocAttr,By,List.map_cons,List.map_nil,BW,Cy])
   all_goals (try (repeat' (first | exact zl | (apply zC;intro _;exact⟨rfl,rfl⟩) | (apply qh;intro _;exact⟨rfl,rfl⟩) | with_reducible apply zh | with_reducible refine qE ⟨rfl,rfl⟩ ?_ | exact qK | with_reducible apply zb | with_reducible refine za ⟨rfl,rfl,?_⟩ ?_ | with_reducible apply Az | exact zc rfl | exact zc (by assumption) | (refine⟨⟨?_,rfl,?_,rfl,?_⟩,trivial⟩ <;> first | (simp;done) | (apply qh;intro _;exact⟨rfl,rfl⟩)) | trivial | rfl | (rw[qg oM]) | omega)))
   simp only[ltP];exact⟨rfl,by decide,rfl,qE ⟨rfl,rfl⟩ qK⟩
  refine sW ?_;rw[← zp8 d2 v];exact .oA [] []
 ·rw[Aq h1,Aq h2,Bool.or_comm,show inB v c.low c.high=(decide (c.low≤v)&&decide (v≤c.high)) from rfl];rw[show (c.opt&&v==qd4)=(c.opt&&v == -1099511627776) from rfl];exact .oA [] []
theorem yo (s:Sch) (h0:schE s=0) (row:List Int) (hr:row.length<4611686018427387904):Sp 23 [schT s,vIs row] [] (vB (rowE s row==0)) []:=by
 have hok:=jn h0;have hnc:=hok.nc;refine sIr qg2 fun e _ hst=>?_;unfold Qm;simp only[tZ,↓uU,simprocAttr,tD,Bj,Aw];refine⟨fun h2=>?_,fun h2=>?_⟩
 ·have:rowE s row=9:=by rw[rowE,Aq (by rw[h0];simp),Aj oM]
  rw[this];exact .oA [] []
 refine qy mixm (α:=Nat) [16] (fun i=>i≤s.cols.length∧(∀ j,j<i→jX s j (row.getD j 0)=true)) (fun i=>[(16,vI i)]) (fun i=>[aR 4096 2 [schT s]]) (fun i=>s.cols.length-i) 0 ⟨oM,?_⟩ ?_ fun i hi=>?_
 ·intro j hj;omega
 ·exact .oA (U1 4096) []
 simp only[tZ,↓uU,simprocAttr,AZ,Ay];refine⟨fun h=>?_,fun h=>?_⟩
 ·have hi2:i<s.cols.length:=by omega
  have hi3:i<row.length:=by omega
  have hwi:=qg (i:=i) oM;have hF:=qr6 s hok i hi2 row[i];simp only[tZ,↓uU,simprocAttr,Ax,qd hi2,qd hi3,hwi];refine⟨oM,oM,?_⟩;refine C1.im hF rF rF ?_;simp only[tZ,↓uU,simprocAttr,Bx,Bz];refine⟨kR,fun h3=>?_,fun h3=>?_⟩
  ·rw[qT5 h0 oM hi3 h3];exact .oA [] []
  ·refine⟨i+1,⟨oM,fun j hj=>?_⟩,oM,?_⟩
   ·by_cases e:j=i
    ·rw[e,qt hi3];exact h3
    ·exact hi.2 j oM
   ·exact .oA (U1 4096) []
 ·have hil:i=s.cols.length:=by omega
  rw[qI4 h0 oM (fun j hj=>hi.2 j oM)];exact .oA [] []
namespace Cnd
mutual
theorem ind' {p:Cnd→Prop} (h:∀ c,(∀ k∈c.kids,p k)→p c):∀ c,p c
 | .mk _ _ _ _ _ ks=>h _ (inds h ks)
theorem inds {p:Cnd→Prop} (h:∀ c,(∀ k∈c.kids,p k)→p c):∀ ks:List Cnd,∀ k∈ks,p k
 | [],_,hk=>absurd hk sMp
 | x::r,k,hk=>by
   rcases Ck.1 hk with e | hk
   ·rw[e];exact ind' h x
   ·exact inds h r k hk
end
end Cnd
mutual
def cntC:Cnd→Int→Int
 | .mk _ _ _ _ _ ks,m=>zR6 ks m 1
def zR6:List Cnd→Int→Int→Int
 | [],_,n=>n
 | k::r,m,n=>if n<m then zR6 r m (n+cntC k (m-n)) else n
end
mutual
def depC:Cnd→Nat
 | .mk _ _ _ _ _ ks=>zR7 ks+1
def zR7:List Cnd→Nat
 | []=>0
 | k::r=>max (depC k) (zR7 r)
end
def isB (s:Sch) (col kind:Int):Bool:=decide (0≤col)&&decide (col<s.cols.length)&&((qA s col.toNat).kind==kind)
def arC (op:Int):Nat:=if op=5∨op=6 then 2 else if op=7 then 1 else 0
def ndE (s:Sch) (c:Cnd):Int:=
 if c.op<1∨7<c.op then 4
 else if c.kids.length≠arC c.op∨(c.op≠2∧c.op≠3∧c.op≠4∧c.col≠0)∨(c.op≠2∧c.code≠0)∨(c.op≠3∧(c.lo≠0∨c.hi≠0)) then 11
 else if (c.op=2∧isB s c.col 2=false)∨(c.op=3∧isB s c.col 3=false)∨(c.op=4∧(isB s c.col 3=false∨(qA s c.col.toNat).opt=false)) then 7
 else if c.op=2∧(c.code<0∨c.code≥(kI s c.col.toNat).codes.length) then 6
 else if c.op=3∧(c.lo < -1000000∨c.hi>1000000∨c.lo>c.hi) then 2 else 0
mutual
def nodE (s:Sch):Cnd→Int
 | .mk op col code lo hi ks=>if ndE s (.mk op col code lo hi ks)≠0 then ndE s (.mk op col code lo hi ks) else zR8 s ks
def zR8 (s:Sch):List Cnd→Int
 | []=>0
 | k::r=>if nodE s k≠0 then nodE s k else zR8 s r
end
def chkC (s:Sch) (c:Cnd):Int:=if schE s≠0 then schE s else if cntC c 41>40 then 1 else if depC c>10 then 22 else nodE s c
structure NdOk (s:Sch) (c:Cnd):Prop where
 op:1≤c.op∧c.op≤7
 nk:c.kids.length=arC c.op
 under:c.op=2→isB s c.col 2=true∧0≤c.code∧c.code<(kI s c.col.toNat).codes.length
 between:c.op=3→isB s c.col 3=true∧-1000000≤c.lo∧c.hi≤1000000∧c.lo≤c.hi
 miss:c.op=4→isB s c.col 3=true∧(qA s c.col.toNat).opt=true
def isAt (c:Cnd):Bool:=(c.op==2)||(c.op==3)||(c.op==4)
def tf (b:Bool):Int:=if b then 1 else -1
def zL8 (s:Sch) (c:Cnd) (v:Int):Int:=
 if c.op=2 then tf (zR2 (kI s c.col.toNat) v c.code)
 else if c.op=3 then (if v=qd4 then 0 else tf (decide (c.lo≤v)&&decide (v≤c.hi)))
 else if c.op=4 then tf (v==qd4) else -1
def zU5 (op:Int) (ks:List Int):Int:=if op=7 then-ks.getD 0 0 else if op=5 then min (ks.getD 0 0) (ks.getD 1 0) else if op=6 then max (ks.getD 0 0) (ks.getD 1 0) else 1
mutual
def evC (s:Sch) (row:List Int):Cnd→Int
 | .mk op col code lo hi ks=>if isAt (.mk op col code lo hi ks)=true then zL8 s (.mk op col code lo hi ks) (row.getD col.toNat 0) else zU5 op (evCs s row ks)
def evCs (s:Sch) (row:List Int):List Cnd→List Int
 | []=>[]
 | k::r=>evC s row k::evCs s row r
end
def zU6 (s:Sch) (c:Cnd) (row:List Int):Int:=if chkC s c≠0∨rowE s row≠0 then 0 else evC s row c
mutual
def atsC:Cnd→List Cnd
 | .mk op col code lo hi ks=>if isAt (.mk op col code lo hi ks)=true then [.mk op col code lo hi ks] else zR9 ks
def zR9:List Cnd→List Cnd
 | []=>[]
 | k::r=>atsC k++zR9 r
end
def zS0 (n:Nat) (p:Nat→Nat→Bool):Bool:=(List.range n).all fun i=>(List.range i).all fun k=>p i k
theorem qT7 {p:Nat→Bool} {n:Nat}:(List.range (n+1)).all p=((List.range n).all p&&p n):=by rw[List.range_succ,FK];simp
theorem zH0 {p:Nat→Bool} {n i:Nat} (h:i<n) (hp:p i=false):(List.range n).all p=false:=List.all_eq_false.2 ⟨i,Dk.2 h,by rw[hp];simp⟩
def decP (s:Sch) (c:Cnd) (lev:Nat) (i k:Nat):Bool:=
 !((Wx s c.col lev ((kV s c.col.toNat).getD i 0)==Wx s c.col lev ((kV s c.col.toNat).getD k 0))&&!(zL8 s c ((kV s c.col.toNat).getD i 0)==zL8 s c ((kV s c.col.toNat).getD k 0)))
def decB (s:Sch) (c:Cnd) (lev:Nat):Bool:=
 if c.op=2 then zS0 (kV s c.col.toNat).length (decP s c lev)
 else if c.op=4 then decide (0<lev)
 else
  let x:=qA s c.col.toNat
  let first:=decide (x.low<c.lo)&&decide (c.lo≤x.high)
  let behind:=decide (x.low≤c.hi)&&decide (c.hi<x.high)
  if lev=0 then !x.opt&&!first&&!behind
  else (!first||(c.lo.tmod (JL x lev)==0))&&(!behind||((c.hi+1).tmod (JL x lev)==0))
def zp9 (p:Nat→Bool):Nat→Nat→Nat
 | 0,n=>n
 | f+1,n=>if p n=true then n else zp9 p f (n+1)
def decN (s:Sch) (c:Cnd):Nat:=zp9 (decB s c) 64 0
def zU7 (col lev:Int):List Pk×Bool→Pk→List Pk×Bool:=fun x p=>
 let y:=if p.col>col∧x.2=false then (x.1++[⟨col,lev⟩],true) else x
 if p.col=col then (y.1++[⟨p.col,max p.lev lev⟩],true) else (y.1++[p],y.2)
def zz5 (l:List Pk) (col lev:Int):List Pk:=
 let x:=l.foldl (zU7 col lev) ([],decide (lev≤0))
 if x.2 then x.1 else x.1++[⟨col,lev⟩]
def zL9 (s:Sch) (c:Cnd):List Pk:=if chkC s c≠0 then [] else (atsC c).foldl (fun l a=>zz5 l a.col (decN s a)) []
def covB (a b:List Pk):Bool:=a.all fun x=>b.any fun y=>(y.col==x.col)&&decide (y.lev≥x.lev)
mutual
def zM0:Cnd→Cnd→Bool
 | .mk a1 a2 a3 a4 a5 ks,.mk b1 b2 b3 b4 b5 ls=>(a1==b1)&&(a2==b2)&&(a3==b3)&&(a4==b4)&&(a5==b5)&&zH1 ks ls
def zH1:List Cnd→List Cnd→Bool
 | [],[]=>true
 | k::r,l::t=>zM0 k l&&zH1 r t
 | [],_::_=>false
 | _::_,[]=>false
end
def qe1 (f:Nat→Int):Nat→Int
 | 0=>0
 | n+1=>if qe1 f n≠0 then qe1 f n else f n
def zz6 (s:Sch) (p:Pk):Int:=if schE s≠0 then schE s else if p.col<1∨p.col≥s.cols.length then 7 else if inB p.lev 0 (finI s p.col)=false then 8 else 0
abbrev pkAt (l:List Pk) (i:Nat):Pk:=l.getD i default
def zS1 (s:Sch) (l:List Pk) (i:Nat):Int:=if zz6 s (pkAt l i)≠0 then zz6 s (pkAt l i) else if 0<i∧(pkAt l i).col≤(pkAt l (i-1)).col then 10 else 0
def zq0 (s:Sch) (l:List Pk):Int:=if schE s≠0 then schE s else qe1 (zS1 s l) l.length
def dimE (s:Sch) (l:List Pk) (i:Nat):Int:=if zz6 s (pkAt l i)≠0 then zz6 s (pkAt l i) else if isB s (pkAt l i).col 2=false then 7 else if ((l.take i).any fun x=>x.col==(pkAt l i).col)=true then 10 else 0
def zM1 (s:Sch) (l:List Pk):Int:=if l.length<1∨l.length>3 then 1 else qe1 (dimE s l) l.length
def zU8 (s:Sch) (m:Int) (l:List Int) (i:Nat):Int:=if isB s (l.getD i 0) 3=false then 7 else if l.getD i 0=m∨(l.take i).contains (l.getD i 0)=true then 10 else 0
def zH2 (s:Sch) (m:Int) (l:List Int):Int:=if l.length<1∨l.length>3 then 1 else qe1 (zU8 s m l) l.length
def zH3 (s:Sch) (q:Qst):Int:=
 if q.kind=1 then (if zM1 s q.dims≠0 then zM1 s q.dims else if q.meas≠-1∧isB s q.meas 3=false then 7 else 0)
 else if q.kind=2 then (if isB s q.meas 3=false then 7 else zH2 s q.meas q.terms)
 else if isB s q.meas 3=false then 7 else if (qA s q.meas.toNat).low<0 then 2 else chkC s q.event
def qstE (s:Sch) (q:Qst):Int:=
 if schE s≠0 then schE s else if kG q.name=false then 3 else if q.kind<1∨3<q.kind then 4
 else if chkC s q.filt≠0 then chkC s q.filt else if zH3 s q≠0 then zH3 s q
 else if (q.kind≠1∧0<q.dims.length)∨(q.kind≠2∧0<q.terms.length)∨(q.kind≠3∧zM0 q.event cnd0=false) then 11 else 0
abbrev qAt (l:List Qst) (i:Nat):Qst:=l.getD i default
def qsE (s:Sch) (l:List Qst) (i:Nat):Int:=if qstE s (qAt l i)≠0 then qstE s (qAt l i) else if ((l.take i).any fun x=>eqB x.name (qAt l i).name)=true then 10 else 0
def smpE (x:Smp):Int:=if x.of<1∨x.of>1000∨x.part<1∨x.part>x.of∨x.seed<0∨x.seed>1099511627776 then 2 else 0
def dclE (s:Sch) (d:Dcl):Int:=
 if schE s≠0 then schE s else if kG d.proj=false∨kG d.src=false then 3 else if chkC s d.coh≠0 then chkC s d.coh
 else if smpE d.smp≠0 then 2 else if d.qs.length<1∨d.qs.length>8 then 1 else qe1 (qsE s d.qs) d.qs.length
def divM (high w wo:Int):Nat→Int→Bool
 | 0,_=>true
 | k+1,f=>if f>high then true else if f.tmod wo≠0 then false else divM high w wo k (f+w)
def divP (s:Sch) (col:Nat) (L:List Int) (other lev:Nat) (i k:Nat):Bool:=
 !(!(Wx s col lev (L.getD i 0)==Wx s col lev (L.getD k 0))&&(Wx s col other (L.getD i 0)==Wx s col other (L.getD k 0)))
def divB (s:Sch) (col other lev:Nat):Bool:=
 if lev=0∨lev≤other then true
 else if (qA s col).kind=2 then zS0 (kV s col).length (divP s col (kV s col) other lev)
 else
  let x:=qA s col
  let w:=JL x lev
  let first:=(zG9 x.low w+1)*w
  if other=0 then !x.opt&&decide (first>x.high)
  else divM x.high w (JL x other) 2 first
def zH4 (s:Sch) (col lev:Int):Int:=if inB lev 0 (finI s col)=false then -1 else zp9 (fun n=>divB s col.toNat n lev.toNat) 64 0
def zU9 (q:Qst) (k:Int):Bool:=(q.meas==k)||q.terms.contains k
def zV0 (l m:List Pk):List Pk:=m.foldl (fun l p=>zz5 l p.col p.lev) l
def zS2 (s:Sch) (q:Qst):List Pk→Nat→List Pk:=fun l k=>if zU9 q (k+1)=true then zz5 l (k+1) (zH4 s (k+1) (finI s (k+1))) else l
def zV1 (s:Sch) (q:Qst) (l:List Pk):List Pk:=(List.range (s.cols.length-1)).foldl (zS2 s q) l
def zV2 (s:Sch) (q:Qst):List Pk:=if qstE s q≠0 then [] else
 zV1 s q (q.dims.foldl (fun l p=>zz5 l p.col (zH4 s p.col p.lev)) (if q.kind=3 then zV0 (zL9 s q.filt) (zL9 s q.event) else zL9 s q.filt))
def sufB (s:Sch) (q:Qst) (l:List Pk):Bool:=(qstE s q==0)&&(zq0 s l==0)&&covB (zV2 s q) l
def zS3 (s:Sch) (d:Dcl) (l:List Pk):Int:=if dclE s d≠0 then dclE s d else if zq0 s l≠0 then zq0 s l else qe1 (fun i=>if sufB s (qAt d.qs i) l=true then 0 else 23) d.qs.length
theorem zq1 {n lo hi:Int}:inB n lo hi=true↔lo≤n∧n≤hi:=by simp [inB]
theorem SchOk.wid {s:Sch} (h:SchOk s) {i:Nat} (hi:i<s.cols.length) (h0:0<i) (hk:(qA s i).kind≠2) {lev:Int} (hl:1≤lev∧lev≤(qA s i).widths.length) :
 1≤JL (qA s i) lev∧JL (qA s i) lev≤1000000∧(qA s i).kind=3∧(qA s i).widths.length≤4∧-1000000≤(qA s i).low∧(qA s i).high≤1000000∧(qA s i).low≤(qA s i).high∧JL (qA s i) (qA s i).widths.length=1:=by
 have hk2:=wI (h.cs i hi);have hk3:(qA s i).kind=3:=by have:=hk2.2.2.1 h0;omega
 have hm:=hk2.2.2.2.2 hk3;generalize qA s i=c at hl hm hk3 ⊢
 unfold measE at hm;split at hm
 ·cases hm
 rename_i h1;split at hm
 ·cases hm
 rename_i h2;split at hm
 ·cases hm
 rename_i h3;rw[DY] at h3;have hw:∀ j,j<c.widths.length→wdOk c.widths j=true:=fun j hj=>Bk.1 h3 j (Dk.2 hj);have e1:inB c.low (-1000000) 1000000=true:=by grind
 have e2:inB c.high (-1000000) 1000000=true:=by grind
 rw[zq1] at e1 e2;have hn:((c.widths.length:Int)-lev).toNat<c.widths.length:=by omega
 have hp:=qT2 (ws:=c.widths) hw _ hn;have h0:=hw 0 oM;rw[wdOk,Aj rfl,AY] at h0;have hmax:c.widths.getD ((c.widths.length:Int)-lev).toNat 0≤1000000:=by
  have:=hw _ hn;unfold wdOk at this;split at this
  ·rename_i e;rw[e,h0];omega
  ·simp only[Bq,AZ] at this;omega
 refine⟨hp,hmax,hk3,oM,oM,oM,oM,?_⟩;rw[JL,show ((c.widths.length:Int)-c.widths.length).toNat=0 by omega,h0]
theorem qi0 (s:Sch) (hok:SchOk s) (i:Nat) (hi:i<s.cols.length) (h2:(qA s i).kind=2):Sp 62 [schT s,vI i] [] (vIs (kV s i)) []:=by
 have hat:qA s i=s.cols[i]:=by rw[qA,qt hi]
 obtain⟨d1,d2⟩:=hok.cdl hi h2;obtain⟨d3,d4⟩:=(wI (hok.cs i hi)).2.2.2.1 h2;have hcl:kI s i=s.lists.getD s.cols[i].list.toNat default:=by rw[kI,hat]
 rw[hcl] at d2;rw[hat] at d1 d3 d4;have hgl:s.lists.getD s.cols[i].list.toNat default=s.lists[s.cols[i].list.toNat]:=qt d1;rw[hgl] at d2;obtain⟨_,d5,d6⟩:=kf d2;rw[kV,hcl,hgl];have hlv:=zp7 (l:=s.lists[s.cols[i].list.toNat]);have hw2:IntKind.i64.wrap (wa s.lists[s.cols[i].list.toNat]-1)=wa s.lists[s.cols[i].list.toNat]-1:=AK _ oM;refine sIr qc5 fun e _ hst=>?_;unfold yK;simp only[tZ,↓uU,simprocAttr,Ax,qd hi,qd d1];refine⟨oM,oM,kR,?_⟩;refine C1.im (JK _ oM) rF rF ?_;simp only[tZ,↓uU,simprocAttr,hw2];refine C1.im (qY4 _ _ oM) rF rF ?_;refine sW ?_;refine⟨kR,?_⟩;exact .oA [] []
theorem qY7 {s:Sch} (h:SchOk s) {i:Nat} (hi:i<s.cols.length) (h2:(qA s i).kind=2):(kV s i).length≤60:=by
 obtain⟨d1,d2⟩:=h.cdl hi h2;obtain⟨_,d5,d6⟩:=kf d2;unfold kV atL;rw[Aq (by rw[d2];simp),BY];have:=Fx (fun i=>(dep (kI s i).codes i:Int)==wa (kI s i)-1) (List.range (kI s i).codes.length);refine FZ (Fx _ _) ?_;rw[List.length_range];exact d6
theorem qr7 {α:Type} {f:α→T} {l:List α} {i:Nat} (h:l.length≤i):(l.map f).getD i .junk = .junk:=by simp [List.getD,h]
set_option maxHeartbeats 4000000
inductive SmC:Cnd→Prop
 | mk (c:Cnd) (h1:c.kids.length<4611686018427387904) (h2:∀ k∈c.kids,SmC k):SmC c
structure QstOk (s:Sch) (q:Qst):Prop where
 sch:schE s=0
 kind:1≤q.kind∧q.kind≤3
 filt:chkC s q.filt=0
 dims:q.kind=1→zM1 s q.dims=0∧(q.meas = -1∨isB s q.meas 3=true)
 nd:q.dims.length≤3
 terms:q.kind=2→isB s q.meas 3=true∧zH2 s q.meas q.terms=0
 nt:q.terms.length≤3
 event:q.kind=3→isB s q.meas 3=true∧0≤(qA s q.meas.toNat).low∧chkC s q.event=0
 d0:q.kind≠1→q.dims=[]
 t0:q.kind≠2→q.terms=[]
 e0:q.kind≠3→zM0 q.event cnd0=true
def hd (r:List Int):Int:=r.getD 0 0
def putS (row:List Int):List (List Int)×Bool→List Int→List (List Int)×Bool:=fun x r=>
 if hd r=hd row then x
 else if hd r>hd row∧x.2=false then (x.1++[row]++[r],true)
 else (x.1++[r],x.2)
def putR (l:List (List Int)) (row:List Int):List (List Int):=
 let x:=l.foldl (putS row) ([],false)
 if x.2 then x.1 else x.1++[row]
def zq2 (l:List (List Int)) (id:Int):List (List Int):=l.filter fun r=>hd r != id
def atR (id:Int) (r:List Int):Bool:=decide (0<r.length)&&(hd r==id)
def Qa (s:Src) (id:Int):Int:=if s.rows.any (atR id)=true then (s.rows.findIdx (atR id):Int) else -1
def asc2 (l:List Int) (i:Nat):Bool:=decide (i=0)||decide (l.getD (i-1) 0<l.getD i 0)
def zq3 (s:Src):Bool:=(List.range s.rows.length).all fun i=>(rowE s.sch (s.rows.getD i [])==0)&&(decide (i=0)||decide (hd (s.rows.getD (i-1) [])<hd (s.rows.getD i [])))
def zH5 (s:Src):Bool:=(List.range s.gone.length).all fun i=>decide (1≤s.gone.getD i 0)&&decide (s.gone.getD i 0≤1048575)&&asc2 s.gone i&&decide (Qa s (s.gone.getD i 0)<0)
def srcB (s:Src):Bool:=(schE s.sch==0)&&decide (s.rows.length≤200)&&decide (s.gone.length≤300)&&decide (0≤s.ver)&&decide (s.ver≤300)&&zq3 s&&zH5 s
def putI (l:List Int) (n:Int):List Int:=So.insU So.ltI So.eqI2 l n
abbrev src0:Src:=⟨⟨[],[]⟩,[],[],0⟩
def JM (s:Src) (e:Edt):Int:=
 if srcB s=false∨s.ver=300 then 13
 else if e.kind=1∨e.kind=2 then
  (if rowE s.sch e.row≠0 then rowE s.sch e.row else if s.gone.contains (hd e.row)=true then 20
   else if e.kind=1∧0≤Qa s (hd e.row) then 10 else if e.kind=1∧s.rows.length=200 then 1
   else if e.kind=2∧Qa s (hd e.row)<0 then 19 else 0)
 else if e.kind=3 then (if Qa s e.id<0 then 19 else 0)
 else if e.kind=4 then (if e.id<1∨e.id>1048575 then 2 else if s.gone.contains e.id=true then 20 else 0)
 else 4
def qm0 (s:Src) (e:Edt):List (List Int):=if e.kind=1∨e.kind=2 then putR s.rows e.row else zq2 s.rows e.id
def KT (s:Src) (e:Edt):Src:=if JM s e≠0 then src0 else ⟨s.sch,qm0 s e,if e.kind=4 then putI s.gone e.id else s.gone,s.ver+1⟩
end Go.Proofs
