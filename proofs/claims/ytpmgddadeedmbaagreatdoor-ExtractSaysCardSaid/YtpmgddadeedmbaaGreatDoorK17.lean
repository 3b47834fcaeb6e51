/- A part of the proof: trees of Go values, short forms, contracts. -/
import Derived.WalkKit
import Derived.Still
import Derived.MapKept
import GoSem.Builtin.Cap
import Derived.Laws.Externs
import GoSem.Extern.SlicesOverlaps
import Derived.Carry
import Derived.ProofKit
import Derived.OpenShut
import Derived.HandedShaped
import Derived.Lay
import Derived.LaidLaws
import Derived.MakeChecks
import Derived.SevenTiedAt
import Derived.Test.YtpmgddadeedmbaaGreatDoorChecked
import Derived.Test.YtpmgddadeedmbaaGreatDoorK16
set_option linter.unusedSimpArgs false
set_option linter.unusedVariables false
namespace Go.Proofs
open Go Go.TL
abbrev cnT (c:Cnd):T:=.agg [vI c.op,vI c.col,vI c.code,vI c.lo,vI c.hi,vCs c.kids]
theorem jP2 (c:Cnd):(cndT c).cells.length=6∧imL (cndT c).cells=true:=by rw[zp];exact⟨rfl,rfl⟩
theorem qp2 {α:Type} {f:α→T} {l:List α} {i:Nat} (h:l.length≤i):(l.map f).getD i .junk = .junk:=by simp [List.getD,h]
theorem zB3 {α:Type} {l:List α} {i:Nat} (h:i<l.length):l.drop i=l[i]::l.drop (i+1):=List.drop_eq_getElem_cons h
theorem zB4:∀ (c:Cnd) (m:Int),1≤m→m≤1000→Spc Tryz.prog JZ [cnT c,vI m] [] (vI (cntC c m)) []:=by
 refine Cnd.ind' fun c ih m hm hm2=>?_;rw[YB];refine qd zn1 mixm (by simp) fun e _ hst=>qg ?_;unfold Ym;refine sW ?_;refine qu mixm (α:=Nat×Int) [5,6] (fun y=>y.1≤c.kids.length∧wu c.kids m 1=wu (c.kids.drop y.1) m y.2∧y.2≤m∧y.1+1≤y.2) (fun y=>[(5,vI y.2),(6,vI y.1)]) (fun y=>[(4096,.arr 6 [cnT c] false)]) (fun y=>c.kids.length-y.1) (0,1) ⟨by simp,rfl,hm,by simp⟩ ?_ fun y hy=>?_
 ·exact .oA [(4096,some 4096)] []
 obtain⟨i,n⟩:=y;obtain⟨y1,y2,y3,y4⟩:=hy;dsimp only at y1 y2 y3 y4;rw[y2];refine sD ?_;refine⟨fun h=>?_,fun h=>?_⟩
 ·have hi:i<c.kids.length:=by omega
  have hwi:=qj (i:=i) (by omega);have hw:IntKind.i64.wrap (m-n)=m-n:=AK _ (by omega);have hc:=qR3 c.kids[i] (m-n) (by omega);have hw2:IntKind.i64.wrap (n+cntC c.kids[i] (m-n))=n+cntC c.kids[i] (m-n):=AK _ (by omega);simp only[tZ,↓un_u,simprocAttr,Ax,qe hi,zp,hw];refine⟨by omega,?_⟩;refine C1.im (ih _ (AX hi) (m-n) (by omega) (by omega)) (by rfl) (by rfl) ?_;simp only[tZ,↓un_u,simprocAttr,hw2,hwi];refine⟨(i+1,n+cntC c.kids[i] (m-n)),⟨by dsimp only;omega,?_,by dsimp only;omega,by dsimp only;omega⟩,by dsimp only;omega,?_⟩
  ·dsimp only;rw[zB3 hi,wu,Aj (by omega)]
  ·exact .oA [(4096,some 4096)] []
 ·have:wu (c.kids.drop i) m n=n:=by
   by_cases hi:i<c.kids.length
   ·rw[zB3 hi,wu,Aq (by omega)]
   ·rw[List.drop_of_length_le (by omega),wu]
  rw[this];exact .oA [] []
theorem qN5:∀ (l:List Cnd) (k:Cnd),kD (l++[k])=max (kD l) (depC k)
 | [],k=>by simp [kD]
 | x::r,k=>by rw[List.cons_append,kD,qN5 r k,kD];omega
theorem qN6:∀ (l:List Cnd) (i:Nat),kD (l.take i)≤kD l
 | [],i=>by simp
 | x::r,0=>by simp [kD]
 | x::r,i+1=>by rw[List.take_succ_cons,kD,kD];have:=qN6 r i;omega
theorem qG0:∀ {l:List Cnd} {m n:Int},n≤m→wu l m n<m→n+l.length≤wu l m n∧∀ k∈l,∃ m',1≤m'∧m'≤m-n∧cntC k m'<m'
 | [],m,n,_,h=>by rw[wu];simp
 | x::r,m,n,h1,h=>by
   rw[wu] at h ⊢
   split at h
   ·rename_i h2;rw[Aj h2];have h3:=qR3 x (m-n) (by omega);obtain⟨h4,h5⟩:=qG0 (l:=r) (by omega) h;refine⟨by rw[List.length_cons];omega,fun k hk=>?_⟩;rcases List.mem_cons.1 hk with e | hk
    ·subst e;exact⟨m-n,by omega,by omega,by omega⟩
    ·obtain⟨m',a,b,c⟩:=h5 k hk;exact⟨m',a,by omega,c⟩
   ·omega
theorem zB5:∀ (c:Cnd) (m:Int),1≤m→m≤1000→cntC c m<m→Spc Tryz.prog Ka [cnT c] [] (vI (depC c)) []:=by
 refine Cnd.ind' fun c ih m hm hm2 hc=>?_;have hd:=jE4 c m hm hc;rw[YB] at hc hd;obtain⟨hk1,hk2⟩:=qG0 (by omega) hc;rw[qN0] at hd ⊢
 refine qd zn3 mixm (by simp) fun e _ hst=>qg ?_;unfold Yn;refine sW ?_;refine qu mixm (α:=Nat) [3,4] (fun i=>i≤c.kids.length) (fun i=>[(3,vI (kD (c.kids.take i))),(4,vI i)]) (fun i=>[(4096,.arr 6 [cnT c] false)]) (fun i=>c.kids.length-i) 0 (by omega) ?_ fun i hi=>?_
 ·refine .of [(4096,some 4096)] [] rfl (by first | rfl | (rw[hst];rfl)) ?_ ?_
  all_goals (try simp only[tL,simprocAttr,List.map_append,List.map_cons,List.map_nil,List.cons_append,List.nil_append,List.take_zero,kD])
  all_goals (try (repeat' (first | exact zb | (apply zx;intro _;exact⟨rfl,rfl⟩) | (apply qE;intro _;exact⟨rfl,rfl⟩) | with_reducible apply qW | with_reducible refine qR ⟨rfl,rfl⟩ ?_ | exact qX | with_reducible apply qS | with_reducible refine qV ⟨rfl,rfl,?_⟩ ?_ | with_reducible apply Az | exact qT rfl | exact qT (by assumption) | (refine⟨⟨?_,rfl,?_,rfl,?_⟩,trivial⟩ <;> first | (simp;done) | (apply qE;intro _;exact⟨rfl,rfl⟩)) | trivial | rfl | (rw[qj (by omega)]) | omega)))
 have hdt:=qN6 c.kids i;refine sD ?_;refine⟨fun h=>?_,fun h=>?_⟩
 ·have hi2:i<c.kids.length:=by omega
  have hwi:=qj (i:=i) (by omega);have hs:kD (c.kids.take (i+1))=max (kD (c.kids.take i)) (depC c.kids[i]):=by rw[qH hi2,qN5]
  obtain⟨m',a1,a2,a3⟩:=hk2 _ (AX hi2);simp only[tZ,↓un_u,simprocAttr,Ax,qe hi2,zp];refine⟨by omega,?_⟩;refine C1.im (ih _ (AX hi2) m' a1 (by omega) a3) (by rfl) (by rfl) ?_;have hmx:maxI (kD (c.kids.take i):Int) (depC c.kids[i])=(kD (c.kids.take (i+1)):Int):=by rw[hs];unfold maxI;omega
  simp only[tZ,↓un_u,simprocAttr,hwi,hmx];refine⟨i+1,by omega,by omega,?_⟩;exact .oA [(4096,some 4096)] []
 ·have hil:i=c.kids.length:=by omega
  subst hil;rw[List.take_length] at hdt ⊢
  have hw:=qj (i:=kD c.kids) (by omega);simp only[tZ,↓un_u,simprocAttr,hw];exact .oA [] []
theorem zd (s:Sch) (col kind:Int):Spc Tryz.prog YO [schT s,vI col,vI kind] [] (vB (isB s col kind)) []:=by
 by_cases h:0≤col∧col<s.cols.length
 ·obtain⟨i,rfl⟩:=AJ h.1;have hi:i<s.cols.length:=by omega
  have e1:decide ((i:Int)≥0)=true:=decide_eq_true (by omega);have e2:decide ((i:Int)<s.cols.length)=true:=decide_eq_true (by omega);have e3:isB s i kind=(s.cols[i].kind==kind):=by
   rw[isB,Ax,qk,qh hi,decide_eq_true h.1,decide_eq_true h.2];rfl
  refine qd qx4 mixm (by simp) fun e _ hst=>qg ?_;unfold Wb;simp only[tZ,↓un_u,simprocAttr,e1,e2,Ax,qe hi];rw[e3];refine⟨by omega,?_⟩;exact .oA [] []
 ·have e1:(decide (col≥0)&&decide (col<(s.cols.length:Int)))=false:=by
   rw[Bool.and_eq_false_iff,Ay,Ay];omega
  have e3:isB s col kind=false:=by
   unfold isB;rw[show (decide (0≤col)&&decide (col<(s.cols.length:Int)))=false from e1];rfl
  rcases Nat.lt_or_ge col.toNat s.cols.length with hk | hk
  ·refine qd qx4 mixm (by simp) fun e _ hst=>qg ?_;unfold Wb;simp only[tZ,↓un_u,simprocAttr,e1,qe hk];rw[e3];exact .oA [] []
  ·have hj:(s.cols.map colT).getD col.toNat .junk = .junk:=qp2 hk;refine qd qx4 mixm (by simp) fun e _ hst=>qg ?_;unfold Wb;simp only[tZ,↓un_u,simprocAttr,e1,hj,List.drop_succ_cons,List.drop_nil];rw[e3];exact .oA [] []
end Go.Proofs
namespace Go.Proofs
open Go Go.TL
set_option maxRecDepth 4000
set_option maxHeartbeats 8000000
theorem qy6:∀ {s:Sch} {l:List Cnd} {i:Nat} (h:i<l.length),Zd s (l.take i)=0→nodE s l[i]≠0→Zd s l=nodE s l[i]
 | s,x::r,0,h,_,h2=>by
   have h2:nodE s x≠0:=h2;rw[Zd,Aj h2];rfl
 | s,x::r,i+1,h,h1,h2=>by
   rw[List.take_succ_cons,Zd] at h1;split at h1
   ·rename_i h3;exact absurd h1 h3
   ·rename_i h3;rw[Zd,Aq h3];exact qy6 (l:=r) (i:=i) (by simpa using h) h1 h2
theorem qN7:∀ {s:Sch} {l:List Cnd} {k:Cnd},Zd s l=0→nodE s k=0→Zd s (l++[k])=0
 | s,[],k,_,h=>by simp [Zd,h]
 | s,x::r,k,h1,h2=>by
   rw[Zd] at h1;split at h1
   ·rename_i h3;exact absurd h1 h3
   ·rename_i h3;rw[List.cons_append,Zd,Aq h3];exact qN7 h1 h2
theorem SchOk.list0 {s:Sch} (h:SchOk s) {i:Nat} (hi:i<s.cols.length) (hk:(qk s i).kind≠2):(qk s i).list=0:=by
 have:=h.cs i hi;unfold colE at this
 grind
theorem zO9 (s:Sch) (hok:SchOk s) (hL:0<s.lists.length):∀ (c:Cnd),Spc Tryz.prog WF [schT s,cnT c] [] (vI (nodE s c)) []:=by
 refine Cnd.ind' fun c ih=>?_;have hN0:=zA8 s c;have hn0:=hok.nl;have hn1:=hok.nc;generalize nodE s c=N at hN0 ⊢
 obtain⟨op,col,code,lo,hi,ks⟩:=c;simp only[Cnd.op,Cnd.col,Cnd.code,Cnd.lo,Cnd.hi,Cnd.kids] at ih hN0 ⊢
 have hn:ndE s (.mk op col code lo hi ks)=if op<1∨7<op then 4
 else if ks.length≠arC op∨(op≠2∧op≠3∧op≠4∧col≠0)∨(op≠2∧code≠0)∨(op≠3∧(lo≠0∨hi≠0)) then 11
 else if (op=2∧isB s col 2=false)∨(op=3∧isB s col 3=false)∨(op=4∧(isB s col 3=false∨(qk s col.toNat).opt=false)) then 7
 else if op=2∧(code<0∨code≥(qJ s col.toNat).codes.length) then 6
 else if op=3∧(lo < -1000000∨hi>1000000∨lo>hi) then 2 else 0:=rfl
 have hbad:∀ v,v≠0→ndE s (.mk op col code lo hi ks)=v→N=v:=fun v h1 h2=>by rw[hN0,h2,Aj h1]
 have hgood:ndE s (.mk op col code lo hi ks)=0→N=Zd s ks:=fun h2=>by rw[hN0,h2,Aq (by simp)]
 clear hN0;generalize ndE s (.mk op col code lo hi ks)=E at hn hbad hgood;have h0p:0<s.cols.length:=by omega
 have hg0:(s.cols.map colT).getD 0 .junk=colT s.cols[0]:=qe (i:=0) h0p;have hl0:s.cols[0].list.toNat=0:=by
  have h1:=hok.c0;have:=hok.list0 (i:=0) h0p (by rw[h1];decide);rw[qk,qh h0p] at this;rw[this];rfl
 have hgl:(s.lists.map cdlT).getD 0 .junk=cdlT s.lists[0]:=qe hL;have hop:op=1∨op=2∨op=3∨op=4∨op=5∨op=6∨op=7∨op<1∨7<op:=by omega
 rcases hop with e | e | e | e | e | e | e | e
 focus
  have q1:(op==1)=true:=by rw[e];rfl
  have q2:(op==2)=false:=by rw[e];rfl
  have q3:(op==3)=false:=by rw[e];rfl
  have q4:(op==4)=false:=by rw[e];rfl
  have q5:(op==5)=false:=by rw[e];rfl
  have q6:(op==6)=false:=by rw[e];rfl
  have q7:(op==7)=false:=by rw[e];rfl
  simp [arC,-List.length_eq_zero_iff,e] at hn;refine qd jA mixm (by simp) fun e _ hst=>qg ?_;unfold zG;simp only[tZ,↓un_u,simprocAttr,Cnd.op,Cnd.col,Cnd.code,Cnd.lo,Cnd.hi,Cnd.kids,q1,q2,q3,q4,q5,q6,q7];refine⟨by kernel_rfl,fun h=>?_,fun h=>?_⟩
  ·rw[hbad 11 (by decide) (by rw[hn,Aj];grind)];exact .oA [] []
  have hks:ks.length≤2:=by grind
  rw[hgood (by rw[hn,Aq];grind)];have hc0:col.toNat=0:=by grind
  refine C2.im (fun _=>zd s col 2) (fun _=>rfl) (by rfl) ?_;simp only[tZ,↓un_u,simprocAttr,Cnd.op,Cnd.col,Cnd.code,Cnd.lo,Cnd.hi,Cnd.kids,q1,q2,q3,q4,q5,q6,q7];refine C2.im (fun _=>zd s col 3) (fun _=>rfl) (by rfl) ?_;simp only[tZ,↓un_u,simprocAttr,Cnd.op,Cnd.col,Cnd.code,Cnd.lo,Cnd.hi,Cnd.kids,q1,q2,q3,q4,q5,q6,q7];refine C2.im (fun _=>zd s col 3) (fun _=>rfl) (by rfl) ?_;simp only[tZ,↓un_u,simprocAttr,Cnd.op,Cnd.col,Cnd.code,Cnd.lo,Cnd.hi,Cnd.kids,q1,q2,q3,q4,q5,q6,q7,hc0,hg0,hl0,hgl];refine⟨by kernel_rfl,?_⟩
 rotate_left
 focus
  have q1:(op==1)=false:=by rw[e];rfl
  have q2:(op==2)=true:=by rw[e];rfl
  have q3:(op==3)=false:=by rw[e];rfl
  have q4:(op==4)=false:=by rw[e];rfl
  have q5:(op==5)=false:=by rw[e];rfl
  have q6:(op==6)=false:=by rw[e];rfl
  have q7:(op==7)=false:=by rw[e];rfl
  simp [arC,-List.length_eq_zero_iff,e] at hn;refine qd jA mixm (by simp) fun e _ hst=>qg ?_;unfold zG;simp only[tZ,↓un_u,simprocAttr,Cnd.op,Cnd.col,Cnd.code,Cnd.lo,Cnd.hi,Cnd.kids,q1,q2,q3,q4,q5,q6,q7];refine⟨by kernel_rfl,?_⟩;refine⟨by kernel_rfl,?_⟩;refine⟨fun h=>?_,fun h=>?_⟩
  ·rw[hbad 11 (by decide) (by rw[hn,Aj];grind)];exact .oA [] []
  have hks:ks.length≤2:=by grind
  rw[Aq (by grind)] at hn;refine C2.im (fun _=>zd s col 2) (fun _=>rfl) (by rfl) ?_;simp only[tZ,↓un_u,simprocAttr,Cnd.op,Cnd.col,Cnd.code,Cnd.lo,Cnd.hi,Cnd.kids,q1,q2,q3,q4,q5,q6,q7];refine C2.im (fun _=>zd s col 3) (fun _=>rfl) (by rfl) ?_;simp only[tZ,↓un_u,simprocAttr,Cnd.op,Cnd.col,Cnd.code,Cnd.lo,Cnd.hi,Cnd.kids,q1,q2,q3,q4,q5,q6,q7];refine C2.im (fun _=>zd s col 3) (fun _=>rfl) (by rfl) ?_;by_cases h2:isB s col 2=false
  ·rw[hbad 7 (by decide) (by rw[hn,Aj (by grind)])];rcases Nat.lt_or_ge col.toNat s.cols.length with hk | hk
   ·simp only[tZ,↓un_u,simprocAttr,Cnd.op,Cnd.col,Cnd.code,Cnd.lo,Cnd.hi,Cnd.kids,q1,q2,q3,q4,q5,q6,q7,h2,qe hk];exact .oA [] []
   ·simp only[tZ,↓un_u,simprocAttr,Cnd.op,Cnd.col,Cnd.code,Cnd.lo,Cnd.hi,Cnd.kids,q1,q2,q3,q4,q5,q6,q7,h2,qp2 hk,List.drop_succ_cons,List.drop_nil];exact .oA [] []
  rw[Bool.not_eq_false] at h2;obtain⟨b1,b2,b3⟩:=zD.1 h2;obtain⟨i,hci⟩:∃ i:Nat,col.toNat=i:=⟨_,rfl⟩;rw[hci] at b3
  try rw[hci] at hn
  have hil:i<s.cols.length:=by omega
  have hat:qk s i=s.cols[i]:=by rw[qk,qh hil]
  have hcd:=hok.cdl hil b3;have hcd2:=(za (hok.cs i hil)).2.2.2.1 b3;have hcl:qJ s i=s.lists.getD s.cols[i].list.toNat default:=by rw[qJ,hat]
  rw[hat] at hcd hcd2;rw[hcl,qh hcd.1] at hcd;have hn:E=if code<0∨code≥s.lists[s.cols[i].list.toNat].codes.length then 6 else 0:=by
   rw[hn,Aq (by rw[h2];simp)];simp [hil,hcd.1]
  simp only[tZ,↓un_u,simprocAttr,Cnd.op,Cnd.col,Cnd.code,Cnd.lo,Cnd.hi,Cnd.kids,q1,q2,q3,q4,q5,q6,q7,h2,hci,qe hil,qe hcd.1,tD];refine⟨fun _=>by omega,fun _=>by omega,by kernel_rfl,fun h3=>?_,fun h3=>?_⟩
  ·rw[hbad 6 (by decide) (by rw[hn,Aj (by omega)])];exact .oA [] []
  rw[hgood (by rw[hn,Aq (by omega)])]
 rotate_left
 focus
  have q1:(op==1)=false:=by rw[e];rfl
  have q2:(op==2)=false:=by rw[e];rfl
  have q3:(op==3)=true:=by rw[e];rfl
  have q4:(op==4)=false:=by rw[e];rfl
  have q5:(op==5)=false:=by rw[e];rfl
  have q6:(op==6)=false:=by rw[e];rfl
  have q7:(op==7)=false:=by rw[e];rfl
  simp [arC,-List.length_eq_zero_iff,e] at hn;refine qd jA mixm (by simp) fun e _ hst=>qg ?_;unfold zG;simp only[tZ,↓un_u,simprocAttr,Cnd.op,Cnd.col,Cnd.code,Cnd.lo,Cnd.hi,Cnd.kids,q1,q2,q3,q4,q5,q6,q7];refine⟨by kernel_rfl,?_⟩;refine⟨by kernel_rfl,?_⟩;refine⟨fun h=>?_,fun h=>?_⟩
  ·rw[hbad 11 (by decide) (by rw[hn,Aj];grind)];exact .oA [] []
  have hks:ks.length≤2:=by grind
  rw[Aq (by grind)] at hn;refine C2.im (fun _=>zd s col 2) (fun _=>rfl) (by rfl) ?_;simp only[tZ,↓un_u,simprocAttr,Cnd.op,Cnd.col,Cnd.code,Cnd.lo,Cnd.hi,Cnd.kids,q1,q2,q3,q4,q5,q6,q7];refine C2.im (fun _=>zd s col 3) (fun _=>rfl) (by rfl) ?_;simp only[tZ,↓un_u,simprocAttr,Cnd.op,Cnd.col,Cnd.code,Cnd.lo,Cnd.hi,Cnd.kids,q1,q2,q3,q4,q5,q6,q7];refine C2.im (fun _=>zd s col 3) (fun _=>rfl) (by rfl) ?_;by_cases h2:isB s col 3=false
  ·rw[hbad 7 (by decide) (by rw[hn,Aj (by grind)])];rcases Nat.lt_or_ge col.toNat s.cols.length with hk | hk
   ·simp only[tZ,↓un_u,simprocAttr,Cnd.op,Cnd.col,Cnd.code,Cnd.lo,Cnd.hi,Cnd.kids,q1,q2,q3,q4,q5,q6,q7,h2,qe hk];exact .oA [] []
   ·simp only[tZ,↓un_u,simprocAttr,Cnd.op,Cnd.col,Cnd.code,Cnd.lo,Cnd.hi,Cnd.kids,q1,q2,q3,q4,q5,q6,q7,h2,qp2 hk,List.drop_succ_cons,List.drop_nil];exact .oA [] []
  rw[Bool.not_eq_false] at h2;obtain⟨b1,b2,b3⟩:=zD.1 h2;obtain⟨i,hci⟩:∃ i:Nat,col.toNat=i:=⟨_,rfl⟩;rw[hci] at b3
  try rw[hci] at hn
  have hil:i<s.cols.length:=by omega
  have hat:qk s i=s.cols[i]:=by rw[qk,qh hil]
  have hli:s.cols[i].list.toNat=0:=by
   have:=hok.list0 hil (by rw[b3];decide);rw[hat] at this;rw[this];rfl
  rw[Aq (by rw[h2];simp)] at hn;simp only[tZ,↓un_u,simprocAttr,Cnd.op,Cnd.col,Cnd.code,Cnd.lo,Cnd.hi,Cnd.kids,q1,q2,q3,q4,q5,q6,q7,h2,hci,qe hil,hli,hgl,tD];refine⟨by kernel_rfl,fun h3=>?_,fun h3=>?_⟩
  ·rw[hbad 2 (by decide) (by rw[hn,Aj (by omega)])];exact .oA [] []
  rw[hgood (by rw[hn,Aq (by omega)])]
 rotate_left
 focus
  have q1:(op==1)=false:=by rw[e];rfl
  have q2:(op==2)=false:=by rw[e];rfl
  have q3:(op==3)=false:=by rw[e];rfl
  have q4:(op==4)=true:=by rw[e];rfl
  have q5:(op==5)=false:=by rw[e];rfl
  have q6:(op==6)=false:=by rw[e];rfl
  have q7:(op==7)=false:=by rw[e];rfl
  simp [arC,-List.length_eq_zero_iff,e] at hn;refine qd jA mixm (by simp) fun e _ hst=>qg ?_;unfold zG;simp only[tZ,↓un_u,simprocAttr,Cnd.op,Cnd.col,Cnd.code,Cnd.lo,Cnd.hi,Cnd.kids,q1,q2,q3,q4,q5,q6,q7];refine⟨by kernel_rfl,?_⟩;refine⟨fun h=>?_,fun h=>?_⟩
  ·rw[hbad 11 (by decide) (by rw[hn,Aj];grind)];exact .oA [] []
  have hks:ks.length≤2:=by grind
  rw[Aq (by grind)] at hn;refine C2.im (fun _=>zd s col 2) (fun _=>rfl) (by rfl) ?_;simp only[tZ,↓un_u,simprocAttr,Cnd.op,Cnd.col,Cnd.code,Cnd.lo,Cnd.hi,Cnd.kids,q1,q2,q3,q4,q5,q6,q7];refine C2.im (fun _=>zd s col 3) (fun _=>rfl) (by rfl) ?_;simp only[tZ,↓un_u,simprocAttr,Cnd.op,Cnd.col,Cnd.code,Cnd.lo,Cnd.hi,Cnd.kids,q1,q2,q3,q4,q5,q6,q7];refine C2.im (fun _=>zd s col 3) (fun _=>rfl) (by rfl) ?_;by_cases h2:isB s col 3=false
  ·rw[hbad 7 (by decide) (by rw[hn,Aj (by grind)])];rcases Nat.lt_or_ge col.toNat s.cols.length with hk | hk
   ·simp only[tZ,↓un_u,simprocAttr,Cnd.op,Cnd.col,Cnd.code,Cnd.lo,Cnd.hi,Cnd.kids,q1,q2,q3,q4,q5,q6,q7,h2,qe hk];exact .oA [] []
   ·simp only[tZ,↓un_u,simprocAttr,Cnd.op,Cnd.col,Cnd.code,Cnd.lo,Cnd.hi,Cnd.kids,q1,q2,q3,q4,q5,q6,q7,h2,qp2 hk,List.drop_succ_cons,List.drop_nil];exact .oA [] []
  rw[Bool.not_eq_false] at h2;obtain⟨b1,b2,b3⟩:=zD.1 h2;obtain⟨i,hci⟩:∃ i:Nat,col.toNat=i:=⟨_,rfl⟩;rw[hci] at b3
  try rw[hci] at hn
  have hil:i<s.cols.length:=by omega
  have hat:qk s i=s.cols[i]:=by rw[qk,qh hil]
  have hli:s.cols[i].list.toNat=0:=by
   have:=hok.list0 hil (by rw[b3];decide);rw[hat] at this;rw[this];rfl
  have hn:E=if s.cols[i].opt=false then 7 else 0:=by
   rw[hn];simp [hil,h2]
  simp only[tZ,↓un_u,simprocAttr,Cnd.op,Cnd.col,Cnd.code,Cnd.lo,Cnd.hi,Cnd.kids,q1,q2,q3,q4,q5,q6,q7,h2,hci,qe hil,hli,hgl,Bx,Bz];refine⟨by omega,fun h3=>?_,fun h3=>?_⟩
  ·rw[hbad 7 (by decide) (by rw[hn,Aj h3])];exact .oA [] []
  rw[hgood (by rw[hn,Aq (by rw[h3];simp)])];refine⟨by kernel_rfl,?_⟩
 rotate_left
 focus
  have q1:(op==1)=false:=by rw[e];rfl
  have q2:(op==2)=false:=by rw[e];rfl
  have q3:(op==3)=false:=by rw[e];rfl
  have q4:(op==4)=false:=by rw[e];rfl
  have q5:(op==5)=true:=by rw[e];rfl
  have q6:(op==6)=false:=by rw[e];rfl
  have q7:(op==7)=false:=by rw[e];rfl
  simp [arC,-List.length_eq_zero_iff,e] at hn;refine qd jA mixm (by simp) fun e _ hst=>qg ?_;unfold zG;simp only[tZ,↓un_u,simprocAttr,Cnd.op,Cnd.col,Cnd.code,Cnd.lo,Cnd.hi,Cnd.kids,q1,q2,q3,q4,q5,q6,q7];refine⟨by kernel_rfl,fun h=>?_,fun h=>?_⟩
  ·rw[hbad 11 (by decide) (by rw[hn,Aj];grind)];exact .oA [] []
  have hks:ks.length≤2:=by grind
  rw[hgood (by rw[hn,Aq];grind)];have hc0:col.toNat=0:=by grind
  refine C2.im (fun _=>zd s col 2) (fun _=>rfl) (by rfl) ?_;simp only[tZ,↓un_u,simprocAttr,Cnd.op,Cnd.col,Cnd.code,Cnd.lo,Cnd.hi,Cnd.kids,q1,q2,q3,q4,q5,q6,q7];refine C2.im (fun _=>zd s col 3) (fun _=>rfl) (by rfl) ?_;simp only[tZ,↓un_u,simprocAttr,Cnd.op,Cnd.col,Cnd.code,Cnd.lo,Cnd.hi,Cnd.kids,q1,q2,q3,q4,q5,q6,q7];refine C2.im (fun _=>zd s col 3) (fun _=>rfl) (by rfl) ?_;simp only[tZ,↓un_u,simprocAttr,Cnd.op,Cnd.col,Cnd.code,Cnd.lo,Cnd.hi,Cnd.kids,q1,q2,q3,q4,q5,q6,q7,hc0,hg0,hl0,hgl];refine⟨by kernel_rfl,?_⟩
 rotate_left
 focus
  have q1:(op==1)=false:=by rw[e];rfl
  have q2:(op==2)=false:=by rw[e];rfl
  have q3:(op==3)=false:=by rw[e];rfl
  have q4:(op==4)=false:=by rw[e];rfl
  have q5:(op==5)=false:=by rw[e];rfl
  have q6:(op==6)=true:=by rw[e];rfl
  have q7:(op==7)=false:=by rw[e];rfl
  simp [arC,-List.length_eq_zero_iff,e] at hn;refine qd jA mixm (by simp) fun e _ hst=>qg ?_;unfold zG;simp only[tZ,↓un_u,simprocAttr,Cnd.op,Cnd.col,Cnd.code,Cnd.lo,Cnd.hi,Cnd.kids,q1,q2,q3,q4,q5,q6,q7];refine⟨by kernel_rfl,fun h=>?_,fun h=>?_⟩
  ·rw[hbad 11 (by decide) (by rw[hn,Aj];grind)];exact .oA [] []
  have hks:ks.length≤2:=by grind
  rw[hgood (by rw[hn,Aq];grind)];have hc0:col.toNat=0:=by grind
  refine C2.im (fun _=>zd s col 2) (fun _=>rfl) (by rfl) ?_;simp only[tZ,↓un_u,simprocAttr,Cnd.op,Cnd.col,Cnd.code,Cnd.lo,Cnd.hi,Cnd.kids,q1,q2,q3,q4,q5,q6,q7];refine C2.im (fun _=>zd s col 3) (fun _=>rfl) (by rfl) ?_;simp only[tZ,↓un_u,simprocAttr,Cnd.op,Cnd.col,Cnd.code,Cnd.lo,Cnd.hi,Cnd.kids,q1,q2,q3,q4,q5,q6,q7];refine C2.im (fun _=>zd s col 3) (fun _=>rfl) (by rfl) ?_;simp only[tZ,↓un_u,simprocAttr,Cnd.op,Cnd.col,Cnd.code,Cnd.lo,Cnd.hi,Cnd.kids,q1,q2,q3,q4,q5,q6,q7,hc0,hg0,hl0,hgl];refine⟨by kernel_rfl,?_⟩
 rotate_left
 focus
  have q1:(op==1)=false:=by rw[e];rfl
  have q2:(op==2)=false:=by rw[e];rfl
  have q3:(op==3)=false:=by rw[e];rfl
  have q4:(op==4)=false:=by rw[e];rfl
  have q5:(op==5)=false:=by rw[e];rfl
  have q6:(op==6)=false:=by rw[e];rfl
  have q7:(op==7)=true:=by rw[e];rfl
  simp [arC,-List.length_eq_zero_iff,e] at hn;refine qd jA mixm (by simp) fun e _ hst=>qg ?_;unfold zG;simp only[tZ,↓un_u,simprocAttr,Cnd.op,Cnd.col,Cnd.code,Cnd.lo,Cnd.hi,Cnd.kids,q1,q2,q3,q4,q5,q6,q7];refine⟨by kernel_rfl,fun h=>?_,fun h=>?_⟩
  ·rw[hbad 11 (by decide) (by rw[hn,Aj];grind)];exact .oA [] []
  have hks:ks.length≤2:=by grind
  rw[hgood (by rw[hn,Aq];grind)];have hc0:col.toNat=0:=by grind
  refine C2.im (fun _=>zd s col 2) (fun _=>rfl) (by rfl) ?_;simp only[tZ,↓un_u,simprocAttr,Cnd.op,Cnd.col,Cnd.code,Cnd.lo,Cnd.hi,Cnd.kids,q1,q2,q3,q4,q5,q6,q7];refine C2.im (fun _=>zd s col 3) (fun _=>rfl) (by rfl) ?_;simp only[tZ,↓un_u,simprocAttr,Cnd.op,Cnd.col,Cnd.code,Cnd.lo,Cnd.hi,Cnd.kids,q1,q2,q3,q4,q5,q6,q7];refine C2.im (fun _=>zd s col 3) (fun _=>rfl) (by rfl) ?_;simp only[tZ,↓un_u,simprocAttr,Cnd.op,Cnd.col,Cnd.code,Cnd.lo,Cnd.hi,Cnd.kids,q1,q2,q3,q4,q5,q6,q7,hc0,hg0,hl0,hgl];refine⟨by kernel_rfl,?_⟩
 rotate_left
 focus
  have q1:(op==1)=false:=beq_eq_false_iff_ne.2 (by omega);have q2:(op==2)=false:=beq_eq_false_iff_ne.2 (by omega);have q3:(op==3)=false:=beq_eq_false_iff_ne.2 (by omega);have q4:(op==4)=false:=beq_eq_false_iff_ne.2 (by omega);have q5:(op==5)=false:=beq_eq_false_iff_ne.2 (by omega);have q6:(op==6)=false:=beq_eq_false_iff_ne.2 (by omega);have q7:(op==7)=false:=beq_eq_false_iff_ne.2 (by omega);rw[hbad 4 (by decide) (by rw[hn,Aj e])];refine qd jA mixm (by simp) fun e _ hst=>qg ?_;unfold zG;simp only[tZ,↓un_u,simprocAttr,Cnd.op,Cnd.col,Cnd.code,Cnd.lo,Cnd.hi,Cnd.kids,q1,q2,q3,q4,q5,q6,q7];refine⟨by kernel_rfl,?_⟩;exact .oA [] []
 all_goals (
  refine qu mixm (α:=Nat) [7,77,121,147,167] (fun i=>i≤ks.length∧Zd s (ks.take i)=0) (fun i=>[(7,vI i)]) (fun i=>[(4096,.arr 2 [schT s] false),(4100,.arr 6 [.agg [vI op,vI col,vI code,vI lo,vI hi,vCs ks]] false)]) (fun i=>ks.length-i) 0 ⟨by omega,by rw[List.take_zero,Zd]⟩ ?_ fun i hi2=>?_
  ·exact .oA [(4096,some 4096),(4100,some 4100)] []
  obtain⟨i1,i2⟩:=hi2;refine sD ?_;refine⟨fun h5=>?_,fun h5=>?_⟩
  ·have hi2:i<ks.length:=by omega
   have hwi:=qj (i:=i) (by omega);simp only[tZ,↓un_u,simprocAttr,Ax,qe hi2,zp];refine⟨by omega,?_⟩;refine C1.im (ih _ (AX hi2)) (by rfl) (by rfl) ?_;simp only[tZ,↓un_u,simprocAttr,hwi,bne_iff_ne,Aw];refine⟨by kernel_rfl,fun h6=>?_,fun h6=>?_⟩
   ·rw[qy6 hi2 i2 h6];exact .oA [] []
   ·refine⟨i+1,⟨by omega,by rw[qH hi2];exact qN7 i2 h6⟩,by omega,?_⟩;exact .oA [(4096,some 4096),(4100,some 4100)] []
  ·have hil:i=ks.length:=by omega
   subst hil;rw[List.take_length] at i2;rw[i2];exact .oA [] []
  )
end Go.Proofs
namespace Go.Proofs
open Go Go.TL
set_option maxHeartbeats 4000000
theorem QX (s:Sch) (hs:yd s) (hL:0<s.lists.length) (c:Cnd):Spc Tryz.prog ki [schT s,cnT c] [] (vI (chkC s c)) []:=by
 refine qd zk7 mixm (by simp) fun e _ hst=>qg ?_;unfold Ya;refine sW ?_;refine C1.im (wI s hs) (by rfl) (by rfl) ?_;simp only[tZ,↓un_u,simprocAttr,bne_iff_ne,Aw];refine⟨fun h=>?_,fun h=>?_⟩
 ·rw[chkC,Aj h];exact .oA [] []
 have hok:=qQ h;refine C1.im (zB4 c 41 (by omega) (by omega)) (by rfl) (by rfl) ?_;refine sD ?_;refine⟨fun h2=>?_,fun h2=>?_⟩
 ·rw[chkC,Aq (by rw[h];simp),Aj h2];exact .oA [] []
 refine C1.im (zB5 c 41 (by omega) (by omega) (by omega)) (by rfl) (by rfl) ?_;refine sD ?_;refine⟨fun h3=>?_,fun h3=>?_⟩
 ·rw[chkC,Aq (by rw[h];simp),Aq h2,Aj (by omega)];exact .oA [] []
 rw[chkC,Aq (by rw[h];simp),Aq h2,Aq (by omega)];refine C1.im (zO9 s hok hL c) (by rfl) (by rfl) ?_;refine sW ?_;exact .oA [] []
theorem qm9 {s:Sch} {c:Cnd} (h:chkC s c=0):schE s=0∧cntC c 41<41∧depC c≤10∧nodE s c=0:=by
 unfold chkC at h;split at h
 ·rename_i h1;exact absurd h h1
 rename_i h1;split at h
 ·cases h
 rename_i h2;split at h
 ·cases h
 rename_i h3;exact⟨AQ h1,by omega,by omega,h⟩
theorem qn0 (s:Sch) (hok:SchOk s) (c:Cnd) (hc:NdOk s c) (v:Int):Spc Tryz.prog ZZ [schT s,cnT c,vI v] [] (vI (QU s c v)) []:=by
 have hn0:=hok.nl;have hn1:=hok.nc;have hA:QU s c v=if c.op=2 then tf (qm4 (qJ s c.col.toNat) v c.code)
 else if c.op=3 then (if v=yh then 0 else tf (decide (c.lo≤v)&&decide (v≤c.hi)))
 else if c.op=4 then tf (v==yh) else -1:=rfl
 rw[hA];by_cases h2:c.op=2
 ·obtain⟨b,b4,b5⟩:=hc.under h2;obtain⟨b1,b2,b3⟩:=zD.1 b;obtain⟨i,hci⟩:=AJ b1;rw[hci] at b2 b5;rw[hci,Ax] at b3;rw[Ax] at b5;have hil:i<s.cols.length:=by omega
  have hat:qk s i=s.cols[i]:=by rw[qk,qh hil]
  have hcd:=hok.cdl hil b3;have hcd2:=(za (hok.cs i hil)).2.2.2.1 b3;have hcl:qJ s i=s.lists.getD s.cols[i].list.toNat default:=by rw[qJ,hat]
  rw[hat] at hcd hcd2;rw[Aj h2,hci,Ax];rw[hcl,qh hcd.1] at hcd ⊢
  obtain⟨_,d5,d6⟩:=zg hcd.2;have q:(c.op==2)=true:=beq_iff_eq.2 h2;refine qd Ke mixm (by simp) fun e _ hst=>qg ?_;unfold wG;simp only[tZ,↓un_u,simprocAttr,q,hci,Ax,qe hil,qe hcd.1];refine⟨by omega,by omega,?_⟩;refine C1.im (zA6 _ v c.code (by omega)) (by rfl) (by rfl) ?_;refine sW ?_;refine⟨by kernel_rfl,fun h=>?_,fun h=>?_⟩
  ·rw[h];exact .oA [] []
  ·rw[h];exact .oA [] []
 have q:(c.op==2)=false:=beq_eq_false_iff_ne.2 h2;rw[Aq h2];by_cases h3:c.op=3
 ·have q3:(c.op==3)=true:=beq_iff_eq.2 h3;rw[Aj h3];refine qd Ke mixm (by simp) fun e _ hst=>qg ?_;unfold wG;simp only[tZ,↓un_u,simprocAttr,q,q3,AY,Ak];rw[show (-1099511627776:Int)=yh from rfl];refine⟨fun h=>?_,fun h=>?_⟩
  ·rw[Aj h];exact .oA [] []
  ·rw[Aq h];refine⟨fun h=>?_,fun h=>?_⟩
   ·rw[h];exact .oA [] []
   ·rw[h];exact .oA [] []
 have q3:(c.op==3)=false:=beq_eq_false_iff_ne.2 h3;rw[Aq h3];by_cases h4:c.op=4
 ·have q4:(c.op==4)=true:=beq_iff_eq.2 h4;rw[Aj h4];refine qd Ke mixm (by simp) fun e _ hst=>qg ?_;unfold wG;simp only[tZ,↓un_u,simprocAttr,q,q3,q4];rw[show (-1099511627776:Int)=yh from rfl];refine⟨fun h=>?_,fun h=>?_⟩
  ·rw[h];exact .oA [] []
  ·rw[h];exact .oA [] []
 have q4:(c.op==4)=false:=beq_eq_false_iff_ne.2 h4;rw[Aq h4];refine qd Ke mixm (by simp) fun e _ hst=>qg ?_;unfold wG;simp only[tZ,↓un_u,simprocAttr,q,q3,q4];exact .oA [] []
theorem zP0 (op:Int) (ks:List Int) (h7:op=7→1≤ks.length) (h5:op=5∨op=6→2≤ks.length) (hv:∀ k∈ks,-1≤k∧k≤1):Spc Tryz.prog qk0 [vI op,vIs ks] [] (vI (qy3 op ks)) []:=by
 refine qd zz7 mixm (by simp) fun e _ hst=>qg ?_;unfold qd9;simp only[tZ,↓un_u,simprocAttr,AY,Ak];refine⟨fun h=>?_,fun h=>⟨fun h2=>?_,fun h2=>⟨fun h3=>?_,fun h3=>?_⟩⟩⟩
 ·have h0:0<ks.length:=by have:=h7 h;omega
  have hk:=hv _ (AX h0);have hw:IntKind.i64.wrap ((0:Int)-ks[0]) =-ks[0]:=by rw[AK _ (by omega)];omega
  rw[qy3,Aj h,qh h0];simp only[tZ,↓un_u,simprocAttr,qe h0];rw[hw];refine⟨by omega,?_⟩;exact .oA [] []
 ·have h0:0<ks.length:=by have:=h5 (.inl h2);omega
  have h1:1<ks.length:=by have:=h5 (.inl h2);omega
  rw[qy3,Aq h,Aj h2,qh h0,qh h1];have hm:minI ks[0] ks[1]=min ks[0] ks[1]:=by unfold minI;omega
  simp only[tZ,↓un_u,simprocAttr,qe h0,qe h1,hm];refine⟨by omega,by omega,by kernel_rfl,?_⟩;exact .oA [] []
 ·have h0:0<ks.length:=by have:=h5 (.inr h3);omega
  have h1:1<ks.length:=by have:=h5 (.inr h3);omega
  rw[qy3,Aq h,Aq h2,Aj h3,qh h0,qh h1];have hm:maxI ks[0] ks[1]=max ks[0] ks[1]:=by unfold maxI;omega
  simp only[tZ,↓un_u,simprocAttr,qe h0,qe h1,hm];refine⟨by omega,by omega,by kernel_rfl,?_⟩;exact .oA [] []
 ·rw[qy3,Aq h,Aq h2,Aq h3];exact .oA [] []
theorem jP3 (s:Sch) (c:Cnd) (v:Int) : -1≤QU s c v∧QU s c v≤1:=by
 unfold QU tf
 grind
theorem jP4 {op:Int} {ks:List Int} (h:∀ k∈ks,-1≤k∧k≤1) : -1≤qy3 op ks∧qy3 op ks≤1:=by
 have key:∀ i,-1≤ks.getD i 0∧ks.getD i 0≤1:=fun i=>by
  rcases Nat.lt_or_ge i ks.length with hi | hi
  ·rw[qh hi];exact h _ (AX hi)
  ·rw[List.getD_eq_getElem?_getD,List.getElem?_eq_none hi];simp
 have h0:=key 0;have h1:=key 1;unfold qy3
 grind
theorem ji6 (s:Sch) (row:List Int):∀ c,-1≤evC s row c∧evC s row c≤1:=by
 refine Cnd.ind' fun c ih=>?_;rw[jE3];split
 ·exact jP3 s c _
 ·refine jP4 fun k hk=>?_;obtain⟨x,hx,rfl⟩:=List.mem_map.1 hk;exact ih x hx
theorem zP1 (s:Sch) (hok:SchOk s) (row:List Int) (hr:row.length=s.cols.length):∀ (c:Cnd),nodE s c=0→Spc Tryz.prog WE [schT s,cnT c,vIs row] [] (vI (evC s row c)) []:=by
 refine Cnd.ind' fun c ih hE=>?_;obtain⟨hE1,hE2⟩:=zX0 hE;have hnd:=ji2 hE1;have hks:c.kids.length≤2:=by have:=hnd.nk;unfold arC at this;grind
 rw[jE3];have hi:isAt c=((c.op==2)||(c.op==3)||(c.op==4)):=rfl;refine qd zz0 mixm (by simp) fun e _ hst=>qg ?_;unfold qd2;refine sW ?_;rw[← hi];refine⟨fun h=>?_,fun h=>?_⟩
 ·rw[Aj h];have hb:∃ k,isB s c.col k=true:=by
   rw[hi] at h;simp only[tD,AY] at h;rcases h with (h | h) | h
   ·exact⟨2,(hnd.under h).1⟩
   ·exact⟨3,(hnd.between h).1⟩
   ·exact⟨3,(hnd.miss h).1⟩
  obtain⟨kk,hb⟩:=hb;obtain⟨b1,b2,_⟩:=zD.1 hb;have hil:c.col.toNat<row.length:=by omega
  rw[qh hil];simp only[tZ,↓un_u,simprocAttr,qe hil];refine⟨by omega,?_⟩;refine C1.im (qn0 s hok c hnd _) (by rfl) (by rfl) ?_;refine sW ?_;refine⟨by kernel_rfl,?_⟩;exact .oA [] []
 ·rw[Aq (by rw[h];simp)];refine qu mixm (α:=Nat) [7,8,21] (fun i=>i≤c.kids.length) (fun i=>[(7,.asl 1 i),(8,vI i)]) (fun i=>[(4096,.arr 2 [schT s] false),(4100,.arr 6 [cnT c] false),(1,.arr 1 (((c.kids.take i).map (evC s row)).map vI) false)]) (fun i=>c.kids.length-i) 0 (by omega) ?_ fun i hi2=>?_
  ·exact .oA [(4096,some 4096),(4100,some 4100),(1,none)] []
  refine sD ?_;refine⟨fun h5=>?_,fun h5=>?_⟩
  ·have hi2:i<c.kids.length:=by omega
   have hwi:=qj (i:=i) (by omega);simp only[tZ,↓un_u,simprocAttr,Ax,qe hi2,zp];refine⟨by omega,?_⟩;refine C1.im (ih _ (AX hi2) (hE2 _ (AX hi2))) (by rfl) (by rfl) ?_;simp only[tZ,↓un_u,simprocAttr,hwi];have hlt:(c.kids.take i).length=i:=by simp;omega
   refine⟨by omega,by kernel_rfl,i+1,by omega,by omega,?_⟩;rw[qH hi2,List.map_append,List.map_append];exact .oA [(4096,some 4096),(4100,some 4100),(1,some 1)] []
  ·have hil:i=c.kids.length:=by omega
   subst hil;rw[List.take_length];have hj:=zP0 c.op (c.kids.map (evC s row)) (fun e=>by rw[List.length_map,hnd.nk,e];decide) (fun e=>by rw[List.length_map,hnd.nk];rcases e with e | e <;> rw[e] <;> decide) (fun k hk=>by
    obtain⟨x,_,rfl⟩:=List.mem_map.1 hk;exact ji6 s row x)
   refine C1.shut [1] hj ?_ (by rfl) rfl ?_
   ·simp only[tL,simprocAttr];exact kh7 _
   refine sW ?_;exact .oA [] []
theorem zP2 (s:Sch) (hs:yd s) (hL:0<s.lists.length) (c:Cnd) (row:List Int) (hr:row.length<4611686018427387904):Spc Tryz.prog qj6 [schT s,cnT c,vIs row] [] (vI (jn6 s c row)) []:=by
 have hR:=zW9 s hs row hr;refine qd zy1 mixm (by simp) fun e _ hst=>qg ?_;unfold qc6;refine sW ?_;refine C1.im (QX s hs hL c) (by rfl) (by rfl) ?_;refine sW ?_;refine C2.im (fun _=>hR) (fun _=>rfl) (by rfl) ?_;simp only[tZ,↓un_u,simprocAttr,tD,bne_iff_ne,Aw];refine⟨fun h=>?_,fun h=>?_⟩
 ·rw[jn6,Aj h];exact .oA [] []
 obtain⟨k1,k2,k3,k4⟩:=qm9 h.1;rw[jn6,Aq (by omega)];refine C1.im (zP1 s (qQ k1) row (qy1 h.2).2.1 c k4) (by rfl) (by rfl) ?_;refine sW ?_;exact .oA [] []
theorem zf8:∀ c m,1≤m→cntC c m<m→((atsC c).length:Int)≤cntC c m:=by
 refine Cnd.ind' fun c ih m hm h=>?_;have hc:=qR3 c m hm;rw[qN1];split
 ·simp;omega
 ·rw[YB] at h ⊢
  have key:∀ l:List Cnd,(∀ k∈l,k∈c.kids)→∀ n,1≤n→n≤m→wu l m n<m→n+(WA l).length≤wu l m n:=by
   intro l
   induction l with
   | nil=>intro _ n h1 h2 _;rw[wu,WA];simp
   | cons k r ihl=>
     intro hk n h1 h2 h3;rw[wu] at h3 ⊢
     rw[WA,AW];split at h3
     ·rename_i h4;rw[Aj h4];have c1:=qR3 k (m-n) (by omega);have c2:=zB1 r m (n+cntC k (m-n)) (by omega);have c3:=ih k (hk k (by simp)) (m-n) (by omega) (by omega);have c4:=ihl (fun x hx=>hk x (List.mem_cons_of_mem _ hx)) (n+cntC k (m-n)) (by omega) (by omega) h3;omega
     ·omega
  have:=key c.kids (fun k hk=>hk) 1 (by omega) hm h;omega
theorem QY:∀ (l:List Cnd) (i:Nat),(WA (l.take i)).length≤(WA l).length
 | [],i=>by simp
 | x::r,0=>by simp [WA]
 | x::r,i+1=>by rw[List.take_succ_cons,WA,WA,AW,AW];have:=QY r i;omega
theorem zP3 (l:List Cnd):ImXs 6 (l.map cndT):=qE jP2 l
theorem zB6 {st:Sto} {ρ:Ren} {B:List Nat} (l:List Cnd):ltXs st ρ B 6 (l.map cndT) (l.map cndT):=ye (zP3 l)
theorem zB7:∀ (c:Cnd) (m:Int),1≤m→m≤1000→cntC c m<m→Spc Tryz.prog JY [cnT c] [] (vCs (atsC c)) []:=by
 refine Cnd.ind' fun c ih m hm hm2 hc=>?_;have hal:=zf8 c m hm hc;rw[YB] at hc hal;obtain⟨hk1,hk2⟩:=qG0 (by omega) hc;have hi:isAt c=((c.op==2)||(c.op==3)||(c.op==4)):=rfl;refine qd zm7 mixm (by simp) fun e _ hst=>qg ?_;unfold Yk;refine sW ?_;rw[← hi];refine⟨fun h=>?_,fun h=>?_⟩
 ·rw[qN1,Aj h];show Zh [] _ _ (.sl 6 [cndT c]) [];rw[zp];exact .oA [] [12292]
 ·rw[qN1,Aq (by rw[h];simp)] at hal ⊢
  refine qu mixm (α:=Nat) [3,4,17] (fun i=>i≤c.kids.length) (fun i=>[(3,.asl 1 (WA (c.kids.take i)).length),(4,vI i)]) (fun i=>[(4096,.arr 6 [cnT c] false),(1,.arr 6 ((WA (c.kids.take i)).map cndT) false)]) (fun i=>c.kids.length-i) 0 (by omega) ?_ fun i hi2=>?_
  ·exact .oA [(4096,some 4096),(1,none)] []
  have htl:=QY c.kids i;refine sD ?_;refine⟨fun h5=>?_,fun h5=>?_⟩
  ·have hi2:i<c.kids.length:=by omega
   have hwi:=qj (i:=i) (by omega);obtain⟨m',a1,a2,a3⟩:=hk2 _ (AX hi2);have htl2:=QY c.kids (i+1);rw[qH hi2,YW,AW] at htl2;simp only[tZ,↓un_u,simprocAttr,Ax,qe hi2,zp];refine⟨by omega,?_⟩;refine C1.im (ih _ (AX hi2) m' a1 (by omega) a3) (by rfl) (by rfl) ?_;simp only[tZ,↓un_u,simprocAttr,hwi];refine⟨by omega,i+1,by omega,by omega,?_⟩;rw[qH hi2,YW,List.map_append];refine .of [(4096,some 4096),(1,some 1)] [] rfl (by first | rfl | (rw[hst];rfl)) ?_ ?_
   all_goals (try simp only[tL,simprocAttr,List.map_append,List.map_cons,List.map_nil,List.cons_append,List.nil_append,List.append_assoc])
   all_goals (try (repeat' (first | exact zb | (apply zx;intro _;exact⟨rfl,rfl⟩) | (apply qE;intro _;exact⟨rfl,rfl⟩) | with_reducible apply qW | with_reducible refine qR ⟨rfl,rfl⟩ ?_ | exact qX | with_reducible apply qS | with_reducible refine qV ⟨rfl,rfl,?_⟩ ?_ | with_reducible apply Az | exact qT rfl | exact qT (by assumption) | (refine⟨⟨?_,rfl,?_,rfl,?_⟩,trivial⟩ <;> first | (simp;done) | (apply qE;intro _;exact⟨rfl,rfl⟩)) | trivial | rfl | (rw[qj (by omega)]) | omega)))
   all_goals first | exact zB6 _ | exact zP3 _
  ·have hil:i=c.kids.length:=by omega
   subst hil;rw[List.take_length];refine .of [] [1] rfl (by first | rfl | (rw[hst];rfl)) ?_ ?_
   all_goals (try simp only[tL,simprocAttr,List.map_append,List.map_cons,List.map_nil,List.cons_append,List.nil_append,List.append_assoc])
   all_goals (try (repeat' (first | exact zb | (apply zx;intro _;exact⟨rfl,rfl⟩) | (apply qE;intro _;exact⟨rfl,rfl⟩) | with_reducible apply qW | with_reducible refine qR ⟨rfl,rfl⟩ ?_ | exact qX | with_reducible apply qS | with_reducible refine qV ⟨rfl,rfl,?_⟩ ?_ | with_reducible apply Az | exact qT rfl | exact qT (by assumption) | (refine⟨⟨?_,rfl,?_,rfl,?_⟩,trivial⟩ <;> first | (simp;done) | (apply qE;intro _;exact⟨rfl,rfl⟩)) | trivial | rfl | (rw[qj (by omega)]) | omega)))
   all_goals first | exact zB6 _ | exact zP3 _
end Go.Proofs
namespace Go.Proofs
open Go Go.TL
set_option maxHeartbeats 4000000
theorem zf9 (col lev:Int):∀ (l:List Pk) (x:List Pk×Bool),(l.foldl (qh6 col lev) x).1.length+(if (l.foldl (qh6 col lev) x).2=true then 0 else 1)≤x.1.length+(if x.2=true then 0 else 1)+l.length
 | [],x=>Nat.le_refl _
 | p::r,x=>by
   have h:=zf9 col lev r (qh6 col lev x p);have h2:(qh6 col lev x p).1.length+(if (qh6 col lev x p).2=true then 0 else 1)≤x.1.length+(if x.2=true then 0 else 1)+1:=by
    unfold qh6;obtain⟨a,b⟩:=x;dsimp only;split <;> split <;> cases b <;> simp_all <;> omega
   rw[List.foldl_cons,List.length_cons];omega
theorem qG1 (l:List Pk) (col lev:Int):(Kk l col lev).length≤l.length+1:=by
 have h:=zf9 col lev l ([],decide (lev≤0));unfold Kk;dsimp only at h ⊢
 split
 ·simp_all
  split at h <;> omega
 ·rename_i k;rw[Aq k] at h;rw[AW];simp at h ⊢
  split at h <;> omega
theorem QZ (l:List Pk) (col lev:Int) (hl:l.length<1000000000):Spc Tryz.prog kh [vPs l,vI col,vI lev] [] (vPs (Kk l col lev)) []:=by
 have hP:Kk l col lev=if (l.foldl (qh6 col lev) ([],decide (lev≤0))).2 then (l.foldl (qh6 col lev) ([],decide (lev≤0))).1 else (l.foldl (qh6 col lev) ([],decide (lev≤0))).1++[⟨col,lev⟩]:=rfl
 have hS:∀ i,i≤l.length→((l.take i).foldl (qh6 col lev) ([],decide (lev≤0))).1.length≤l.length+1:=fun i hi=>by
  have h:=zf9 col lev (l.take i) ([],decide (lev≤0));simp only[List.length_nil,List.length_take] at h;split at h <;> split at h <;> omega
 refine qd zj7 mixm (by simp) fun e _ hst=>qg ?_;unfold WV;refine sW ?_;refine qu mixm (α:=Nat×List Pk×Bool) [7,8,9] (fun x=>x.1≤l.length∧x.2=(l.take x.1).foldl (qh6 col lev) ([],decide (lev≤0))) (fun x=>[(7,.asl 1 x.2.1.length),(8,vB x.2.2),(9,vI x.1)]) (fun x=>[(1,.arr 2 (x.2.1.map pkT) false)]) (fun x=>l.length-x.1) (0,[],decide (lev≤0)) ⟨by simp,by simp⟩ ?_ fun x hx=>?_
 ·exact .oA [(1,none)] []
 obtain⟨i,a,b⟩:=x;obtain⟨x1,x2⟩:=hx;dsimp only at x1 x2;have hSi:=hS i x1;rw[← x2] at hSi;dsimp only at hSi;refine sD ?_;refine⟨fun h=>?_,fun h=>?_⟩
 ·have hi2:i<l.length:=by omega
  have hwi:=qj (i:=i) (by omega);have hs:(l.take (i+1)).foldl (qh6 col lev) ([],decide (lev≤0))=qh6 col lev (a,b) l[i]:=by rw[qH hi2,List.foldl_append,← x2];rfl
  simp only[tZ,↓un_u,simprocAttr,Ax,qe hi2];generalize l[i]=p at hs ⊢
  have hmx:maxI p.lev lev=max p.lev lev:=by unfold maxI;omega
  have hr:qh6 col lev (a,b) p=(if p.col=col then ((if p.col>col∧b=false then (a++[⟨col,lev⟩],true) else (a,b)).1++[⟨p.col,max p.lev lev⟩],true) else ((if p.col>col∧b=false then (a++[⟨col,lev⟩],true) else (a,b)).1++[p],(if p.col>col∧b=false then (a++[(⟨col,lev⟩:Pk)],true) else (a,b)).2)):=rfl;rw[hr] at hs;simp only[tZ,↓un_u,simprocAttr,tD,AY,Ak,Bx,Bz,hwi,hmx];refine⟨by omega,fun h2=>⟨by omega,fun h3=>by omega,fun h3=>?_⟩,fun h2=>⟨fun h3=>?_,fun h3=>?_⟩⟩
  ·rw[Aq h3,Aj h2] at hs;refine⟨by omega,(i+1,a++[⟨col,lev⟩]++[p],true),⟨by dsimp only;omega,hs.symm⟩,by dsimp only;omega,?_⟩;exact .oA [(1,some 1)] []
  ·rw[Aj h3,Aq (by grind)] at hs;refine⟨by omega,(i+1,a++[⟨p.col,max p.lev lev⟩],true),⟨by dsimp only;omega,hs.symm⟩,by dsimp only;omega,?_⟩;exact .oA [(1,some 1)] []
  ·rw[Aq h3,Aq (by grind)] at hs;refine⟨by omega,(i+1,a++[p],b),⟨by dsimp only;omega,hs.symm⟩,by dsimp only;omega,?_⟩;exact .oA [(1,some 1)] []
 ·have hil:i=l.length:=by omega
  subst hil;rw[List.take_length] at x2;rw[← x2] at hP;dsimp only at hP;simp only[tZ,↓un_u,simprocAttr,Bx,Bz];refine⟨fun h2=>?_,fun h2=>?_⟩
  ·rw[hP,h2,Aq (by simp)];refine⟨by omega,?_⟩;show Zh [] _ _ (.sl 2 ((a++[(⟨col,lev⟩:Pk)]).map pkT)) [];rw[List.map_append];exact .oA [] [1]
  ·rw[hP,Aj h2];exact .oA [] [1]
theorem zP4:∀ {a b:List Cnd},a.length≠b.length→yY a b=false
 | [],[],h=>by simp at h
 | x::r,y::t,h=>by rw[yY,zP4 (a:=r) (b:=t) (by simpa using h),Bool.and_false]
 | [],y::t,_=>rfl
 | x::r,[],_=>rfl
theorem zg0:∀ {a b:List Cnd} {i:Nat} (ha:i<a.length) (hb:i<b.length),yY (a.take (i+1)) (b.take (i+1))=(yY (a.take i) (b.take i)&&YX a[i] b[i])
 | x::r,y::t,0,_,_=>by simp [yY]
 | x::r,y::t,i+1,ha,hb=>by
   rw[List.take_succ_cons,List.take_succ_cons,yY,zg0 (a:=r) (b:=t) (by simpa using ha) (by simpa using hb),List.take_succ_cons,List.take_succ_cons,yY];simp [Bool.and_assoc]
theorem zt9:∀ {a b:List Cnd} {i:Nat} (ha:i<a.length) (hb:i<b.length),YX a[i] b[i]=false→yY a b=false
 | x::r,y::t,0,_,_,h=>by
   have h:YX x y=false:=h;rw[yY,h,Bool.false_and]
 | x::r,y::t,i+1,ha,hb,h=>by rw[yY,zt9 (a:=r) (b:=t) (i:=i) (by simpa using ha) (by simpa using hb) h,Bool.and_false]
inductive SmC:Cnd→Prop
 | mk (c:Cnd) (h1:c.kids.length<4611686018427387904) (h2:∀ k∈c.kids,SmC k):SmC c
theorem zP5:∀ (a b:Cnd),(a.kids.length=b.kids.length→SmC a)→Spc Tryz.prog WG [cnT a,cnT b] [] (vB (YX a b)) []:=by
 refine Cnd.ind' fun a ih b hs=>?_;rw[ji5];refine qd zA3 mixm (by simp) fun e _ hst=>qg ?_;unfold qe2;simp only[tZ,↓un_u,simprocAttr,tD,bne_iff_ne,Aw];refine⟨fun h=>?_,fun h=>?_⟩
 ·have:((a.op==b.op)&&(a.col==b.col)&&(a.code==b.code)&&(a.lo==b.lo)&&(a.hi==b.hi)&&yY a.kids b.kids)=false:=by
   rcases h with ((((h | h) | h) | h) | h) | h
   ·rw[beq_eq_false_iff_ne.2 h];simp
   ·rw[beq_eq_false_iff_ne.2 h];simp
   ·rw[beq_eq_false_iff_ne.2 h];simp
   ·rw[beq_eq_false_iff_ne.2 h];simp
   ·rw[beq_eq_false_iff_ne.2 h];simp
   ·rw[zP4 (by omega)];simp
  rw[this];exact .oA [] []
 have e:((a.op==b.op)&&(a.col==b.col)&&(a.code==b.code)&&(a.lo==b.lo)&&(a.hi==b.hi)&&yY a.kids b.kids)=yY a.kids b.kids:=by
  rw[beq_iff_eq.2 h.1.1.1.1.1,beq_iff_eq.2 h.1.1.1.1.2,beq_iff_eq.2 h.1.1.1.2,beq_iff_eq.2 h.1.1.2,beq_iff_eq.2 h.1.2];simp
 have hl:a.kids.length=b.kids.length:=by omega
 obtain⟨_,s1,s2⟩:=hs hl;rw[e];refine qu mixm (α:=Nat) [5,47] (fun i=>i≤a.kids.length∧yY (a.kids.take i) (b.kids.take i)=true) (fun i=>[(5,vI i)]) (fun i=>[(4096,.arr 6 [cnT a] false),(4100,.arr 6 [cnT b] false)]) (fun i=>a.kids.length-i) 0 ⟨by omega,by simp [yY]⟩ ?_ fun i hi=>?_
 ·exact .oA [(4096,some 4096),(4100,some 4100)] []
 refine sD ?_;refine⟨fun h5=>?_,fun h5=>?_⟩
 ·have hi2:i<a.kids.length:=by omega
  have hib:i<b.kids.length:=by omega
  have hwi:=qj (i:=i) (by omega);simp only[tZ,↓un_u,simprocAttr,Ax,qe hi2,qe hib,zp];refine⟨by omega,by omega,?_⟩;refine C1.im (ih _ (AX hi2) b.kids[i] fun _=>s2 _ (AX hi2)) (by rfl) (by rfl) ?_;simp only[tZ,↓un_u,simprocAttr,Bx,Bz,hwi];refine⟨by kernel_rfl,fun h6=>?_,fun h6=>?_⟩
  ·rw[zt9 hi2 hib h6];exact .oA [] []
  ·refine⟨i+1,⟨by omega,by rw[zg0 hi2 hib,hi.2,h6];rfl⟩,by omega,?_⟩;exact .oA [(4096,some 4096),(4100,some 4100)] []
 ·have hil:i=a.kids.length:=by omega
  have h2:=hi.2;rw[hil,List.take_length,hl,List.take_length] at h2;rw[h2];exact .oA [] []
end Go.Proofs
namespace Go.Proofs
open Go Go.TL
set_option maxHeartbeats 4000000
theorem zg1 (s:Sch) (hE:schE s=0) (c:Cnd) (hnd:NdOk s c) (ha:isAt c=true) (lev:Nat) (hl:(lev:Int)≤finI s c.col):Spc Tryz.prog KG [schT s,cnT c,vI lev] [] (vB (decB s c lev)) []:=by
 have hok:=qQ hE;have hn0:=hok.nl;have hn1:=hok.nc;obtain⟨_,c1,c2,hfin⟩:=yR (s:=s) (c:=c.col) (by omega);obtain⟨i,hci⟩:=AJ (show 0≤c.col by omega);have hcn:c.col.toNat=i:=by omega
 have hil:i<s.cols.length:=by omega
 have hat:qk s i=s.cols[i]:=by rw[qk,qh hil]
 have hwd:=fun e l=>hok.wid hil (by omega) e (lev:=l);have hlv:=YC s hok i hil;have hll:=qa0 hok hil;rw[hcn,hat] at hfin;rw[hat] at hwd hlv hll;have hi:isAt c=((c.op==2)||(c.op==3)||(c.op==4)):=rfl;have hD:decB s c lev=if c.op=2 then qy4 (qO s i).length (decP s c lev)
 else if c.op=4 then decide (0<lev)
 else if lev=0 then !s.cols[i].opt&&!(decide (s.cols[i].low<c.lo)&&decide (c.lo≤s.cols[i].high))&&!(decide (s.cols[i].low≤c.hi)&&decide (c.hi<s.cols[i].high))
  else (!(decide (s.cols[i].low<c.lo)&&decide (c.lo≤s.cols[i].high))||(c.lo.tmod (qD s.cols[i] lev)==0))&&(!(decide (s.cols[i].low≤c.hi)&&decide (c.hi<s.cols[i].high))||((c.hi+1).tmod (qD s.cols[i] lev)==0)):=by
  rw[decB,hcn,hat]
 have hk2:c.op=2→s.cols[i].kind=2:=fun h=>by
  have:=(zD.1 (hnd.under h).1).2.2;rw[hcn,hat] at this;exact this
 have hk3:c.op=3→s.cols[i].kind=3:=fun h=>by
  have:=(zD.1 (hnd.between h).1).2.2;rw[hcn,hat] at this;exact this
 have hPd:∀ L,qO s i=L→∀ j k,decP s c lev j k=!((qU s c.col lev (L.getD j 0)==qU s c.col lev (L.getD k 0))&&!(QU s c (L.getD j 0)==QU s c (L.getD k 0))):=fun L hL j k=>by rw[decP,hcn,hL]
 rw[hD];have hci2:vI c.col=vI i:=by rw[hci]
 refine qd qU1 mixm (by simp) fun e _ hst=>qg ?_;unfold JD;simp only[tZ,↓un_u,simprocAttr,hcn,qe hil];generalize s.cols[i]=x at hwd hlv hfin hll hk2 hk3 ⊢
 simp only[tZ,↓un_u,simprocAttr,AY,Ak];refine⟨by omega,fun h2=>?_,fun h2=>?_⟩
 ·rw[Aj h2];rw[← hci2] at hlv;refine C1.im (hlv (hk2 h2)) (by rfl) (by rfl) ?_;have hPd:=hPd _ rfl;generalize qO s i=L at hll hPd ⊢
  have hll:=hll (hk2 h2);refine sW ?_;refine qu mixm (α:=Nat) [9] (fun j=>j≤L.length∧qy4 j (decP s c lev)=true) (fun j=>[(9,vI j)]) (fun j=>[(4096,.arr 2 [schT s] false),(4100,.arr 6 [cnT c] false),(8216,.arr 7 [colT x] false)]) (fun j=>L.length-j) 0 ⟨by omega,rfl⟩ ?_ fun j hj=>?_
  ·exact .oA [(4096,some 4096),(4100,some 4100),(8216,some 8216)] []
  obtain⟨j1,j2⟩:=hj;refine sD ?_;refine⟨fun h3=>?_,fun h3=>?_⟩
  ·have hj2:j<L.length:=by omega
   have hwj:=qj (i:=j) (by omega);have hgj:L.getD j 0=L[j]:=qh hj2;refine qu mixm (α:=Nat) [10] (fun k=>k≤j∧(List.range k).all (decP s c lev j)=true) (fun k=>[(10,vI k)]) (fun k=>[(4096,.arr 2 [schT s] false),(4100,.arr 6 [cnT c] false),(8216,.arr 7 [colT x] false)]) (fun k=>j-k) 0 ⟨by omega,rfl⟩ ?_ fun k hk=>?_
   ·exact .oA [(4096,some 4096),(4100,some 4100),(8216,some 8216)] []
   obtain⟨k1,k2⟩:=hk;refine sD ?_;refine⟨fun h4=>?_,fun h4=>?_⟩
   ·have hk2:k<L.length:=by omega
    have hwk:=qj (i:=k) (by omega);have hgk:L.getD k 0=L[k]:=qh hk2;have hP:=hPd j k;rw[hgj,hgk] at hP;have hC1:=qn0 s hok c hnd L[j];have hC2:=qn0 s hok c hnd L[k];simp only[tZ,↓un_u,simprocAttr,Ax,qe hj2,qe hk2];refine⟨by omega,?_⟩;refine C1.im (jM s hok.sm c.col lev L[j]) (by rfl) (by rfl) ?_;simp only[tZ,↓un_u,simprocAttr,Ax,qe hj2,qe hk2];refine⟨by omega,?_⟩;refine C1.im (jM s hok.sm c.col lev L[k]) (by rfl) (by rfl) ?_;simp only[tZ,↓un_u,simprocAttr,Ax,qe hj2,qe hk2];refine⟨fun _=>by omega,?_⟩;refine C2.im (fun _=>hC1) (fun _=>rfl) (by rfl) ?_;simp only[tZ,↓un_u,simprocAttr,Ax,qe hj2,qe hk2];refine⟨fun _=>by omega,?_⟩;refine C2.im (fun _=>hC2) (fun _=>rfl) (by rfl) ?_;simp only[tZ,↓un_u,simprocAttr,hwk,tD,bne_iff_ne,Aw,AY,Ak];refine⟨by kernel_rfl,fun h5=>?_,fun h5=>?_⟩
    ·rw[zB0 hj2 (show k<j by omega) (by rw[hP];grind)];exact .oA [] []
    ·refine⟨k+1,⟨by omega,?_⟩,by omega,?_⟩
     ·rw[zA9,k2,hP];grind
     ·exact .oA [(4096,some 4096),(4100,some 4100),(8216,some 8216)] []
   ·have hkj:k=j:=by omega
    subst hkj;simp only[tZ,↓un_u,simprocAttr,hwj];refine⟨k+1,⟨by omega,?_⟩,by omega,?_⟩
    ·rw[qN2,j2,k2];rfl
    ·exact .oA [(4096,some 4096),(4100,some 4100),(8216,some 8216)] []
  ·have hjl:j=L.length:=by omega
   subst hjl;rw[j2];exact .oA [] []
 rw[Aq h2];refine⟨fun h4=>?_,fun h4=>?_⟩
 ·rw[Aj h4];rw[show decide ((lev:Int)>0)=decide (0<lev) from by rw[Bool.eq_iff_iff,AZ,AZ];omega];exact .oA [] []
 rw[Aq h4];have h3:c.op=3:=by
  rw[hi] at ha;simp only[tD,AY] at ha;omega
 have hk3:=hk3 h3;have hb:=hnd.between h3;rw[Aq (by omega)] at hfin;refine⟨by kernel_rfl,fun h5=>?_,fun h5=>?_⟩
 ·rw[Aj (by omega),show decide (c.lo>x.low)=decide (x.low<c.lo) from rfl];exact .oA [] []
 ·rw[Aq (by omega)];have hw:=hwd (by omega) lev (by omega);refine C1.im (Kj x lev (by omega) (by omega)) (by rfl) (by rfl) ?_;have hwh:IntKind.i64.wrap (c.hi+1)=c.hi+1:=AK _ (by omega);simp only[tZ,↓un_u,simprocAttr,hwh];rw[show decide (c.lo>x.low)=decide (x.low<c.lo) from rfl];refine⟨fun _=>by omega,fun _=>by omega,?_⟩;exact .oA [] []
theorem zg2 {s:Sch} (hE:schE s=0) {i:Nat} (h1:0<i) (h2:i<s.cols.length) (hk:(qk s i).kind=2) {v:Int} (hv:v∈qO s i):qU s i (finI s i) v=v:=by
 have hok:=qQ hE;obtain⟨d1,d2⟩:=hok.cdl h2 hk;have hf:finI s i=zh (qJ s i)-1:=by
  rw[finI,Aq (by omega),Ax,Aj hk]
 have hh:=qp1 hk d2 hv;obtain⟨j,j1,j2,rfl⟩:=(zW7 d2).1 hv;rw[qU,Aq,Ax,Aj hk,Aq (by rw[hh];simp),upC,Aq,hf,← j2,Ax,Ax,ji0 (by omega)]
 ·rw[hf,← j2,Ax];omega
 ·rw[Bool.not_eq_false,Jc,hf,← j2];omega
theorem kb6 {s:Sch} (hE:schE s=0) {c:Cnd} (hnd:NdOk s c) (ha:isAt c=true):0≤finI s c.col∧decB s c (finI s c.col).toNat=true:=by
 have hok:=qQ hE;have hlv:∀ k,isB s c.col k=true→2≤k→∃ i:Nat,c.col=i∧0<i∧i<s.cols.length∧(qk s i).kind=k:=fun k hb hk=>by
  obtain⟨b1,b2,b3⟩:=zD.1 hb;obtain⟨i,hci⟩:=AJ b1;rw[hci,Ax] at b3;refine⟨i,hci,?_,by omega,b3⟩;refine Nat.pos_of_ne_zero fun e=>?_;subst e;have:=hok.c0;omega
 have hm:∀ i:Nat,0<i→i<s.cols.length→(qk s i).kind=3→finI s i=(qk s i).widths.length∧1≤(qk s i).widths.length:=fun i h1 h2 h3=>by
  refine⟨by rw[finI,Aq (by omega),Ax,Aq (by omega)],?_⟩;have:=(za (hok.cs i h2)).2.2.2.2 h3;unfold measE at this
  grind
 have hop:c.op=2∨c.op=3∨c.op=4:=by
  unfold isAt at ha;simp only[Bool.or_eq_true,AY] at ha;omega
 rcases hop with h | h | h
 ·obtain⟨i,hci,h1,h2,hk⟩:=hlv 2 (hnd.under h).1 (by omega);obtain⟨d1,d2⟩:=hok.cdl h2 hk;have hf:finI s i=zh (qJ s i)-1:=by
   rw[finI,Aq (by omega),Ax,Aj hk]
  have hf0:0≤finI s i:=by rw[hf,zA5 d2];omega
  rw[hci];refine⟨hf0,?_⟩;rw[decB,Aj h,hci,Ax,qy4,List.all_eq_true];intro j hj;rw[List.mem_range] at hj;rw[List.all_eq_true];intro k hk2;rw[List.mem_range] at hk2;have e:(((finI s i).toNat:Nat):Int)=finI s i:=by omega
  rw[decP,hci,Ax,e,qh hj,qh (by omega),zg2 hE h1 h2 hk (AX _),zg2 hE h1 h2 hk (AX _)]
  grind
 ·obtain⟨i,hci,h1,h2,hk⟩:=hlv 3 (hnd.between h).1 (by omega);obtain⟨m1,m2⟩:=hm i h1 h2 hk;have hw:=hok.wid h2 h1 (by omega) (lev:=(qk s i).widths.length) (by omega);rw[hci,m1];refine⟨by omega,?_⟩;rw[decB,Aq (by omega),Aq (by omega),hci,Ax,Ax];dsimp only;rw[Aq (by omega),hw.2.2.2.2.2.2.2];simp
 ·obtain⟨i,hci,h1,h2,hk⟩:=hlv 3 (hnd.miss h).1 (by omega);obtain⟨m1,m2⟩:=hm i h1 h2 hk;rw[hci,m1];refine⟨by omega,?_⟩;rw[decB,Aq (by omega),Aj h,Ax];exact decide_eq_true (by omega)
theorem qG2 {s:Sch} (hE:schE s=0) {c:Cnd} (hnd:NdOk s c) (ha:isAt c=true):(decN s c:Int)≤finI s c.col∧decB s c (decN s c)=true∧(∀ m,m<decN s c→decB s c m=false):=by
 obtain⟨h1,h2⟩:=kb6 hE hnd ha;have h3:=qm8 (c:=c.col) hE;obtain⟨a,b,_,d⟩:=qy5 h2 64 0 (by omega) (by omega);unfold decN;exact⟨by omega,a,fun m hm=>d m (by omega) hm⟩
def qV7 (s:Sch):List Pk→Cnd→List Pk:=fun l a=>Kk l a.col (decN s a)
theorem zg3 (s:Sch):∀ (L:List Cnd) (l:List Pk),(L.foldl (qV7 s) l).length≤l.length+L.length
 | [],l=>Nat.le_refl _
 | a::L,l=>by
   have h1:=zg3 s L (qV7 s l a);have h2:=qG1 l a.col (decN s a);rw[List.foldl_cons,List.length_cons];unfold qV7 at h1 ⊢
   omega
theorem qG3 (s:Sch) (hs:yd s) (hL:0<s.lists.length) (c:Cnd):Spc Tryz.prog JV [schT s,cnT c] [] (vPs (jd s c)) []:=by
 refine qd zl3 mixm (by simp) fun e _ hst=>qg ?_;unfold Yd;refine sW ?_;refine C1.im (QX s hs hL c) (by rfl) (by rfl) ?_;simp only[tZ,↓un_u,simprocAttr,bne_iff_ne,Aw];refine⟨fun h=>?_,fun h=>?_⟩
 ·rw[jd,Aj h];exact .oA [] []
 obtain⟨hE,k2,k3,k4⟩:=qm9 h;have hal:=zf8 c 41 (by omega) k2;have hao:=ji4 c k4;have hN:jd s c=(atsC c).foldl (qV7 s) []:=by rw[jd,Aq (by rw[h];simp)];rfl
 rw[hN];refine C1.im (zB7 c 41 (by omega) (by omega) k2) (by rfl) (by rfl) ?_;generalize atsC c=L at hal hao ⊢
 refine sW ?_;refine qu mixm (α:=Nat) [5,7,12] (fun i=>i≤L.length) (fun i=>[(5,vPs ((L.take i).foldl (qV7 s) [])),(7,vI i)]) (fun i=>[(4096,.arr 2 [schT s] false)]) (fun i=>L.length-i) 0 (by omega) ?_ fun i hi=>?_
 ·exact .oA [(4096,some 4096)] []
 have hlen:=zg3 s (L.take i) [];rw[List.length_take] at hlen;refine sD ?_;refine⟨fun h3=>?_,fun h3=>?_⟩
 ·have hi2:i<L.length:=by omega
  have hwi:=qj (i:=i) (by omega);obtain⟨hnd,ha⟩:=hao _ (AX hi2);obtain⟨n1,n2,n3⟩:=qG2 hE hnd ha;have h59:=qm8 (c:=L[i].col) hE;refine qu mixm (α:=Nat) [8] (fun n=>n≤decN s L[i]) (fun n=>[(8,vI n)]) (fun n=>[(4096,.arr 2 [schT s] false)]) (fun n=>decN s L[i]-n) 0 (by omega) ?_ fun n hn=>?_
  ·exact .oA [(4096,some 4096)] []
  have hwn:=qj (i:=n) (by omega);simp only[tZ,↓un_u,simprocAttr,Ax,qe hi2,zp];refine⟨by omega,?_⟩;refine C1.im (zg1 s hE L[i] hnd ha n (by omega)) (by rfl) (by rfl) ?_;simp only[tZ,↓un_u,simprocAttr,Bx,Bz,hwn];refine⟨by kernel_rfl,fun h4=>?_,fun h4=>?_⟩
  ·have:n≠decN s L[i]:=fun e=>by rw[e,n2] at h4;cases h4
   refine⟨n+1,by omega,by omega,?_⟩;exact .oA [(4096,some 4096)] []
  ·have:n=decN s L[i]:=by
    refine Nat.le_antisymm hn (Nat.le_of_not_lt fun e=>?_);rw[n3 n e] at h4;cases h4
   subst this;simp only[tZ,↓un_u,simprocAttr,Ax,qe hi2,zp];refine⟨by omega,?_⟩;refine C1.im (QZ ((L.take i).foldl (qV7 s) []) L[i].col (decN s L[i]) (by simp at hlen;omega)) (by rfl) (by rfl) ?_;simp only[tZ,↓un_u,simprocAttr,hwi];refine⟨i+1,by omega,by omega,?_⟩;rw[qH hi2,List.foldl_append];show Le _ _ ⟨(5,vPs (Kk ((L.take i).foldl (qV7 s) []) L[i].col (decN s L[i])))::_,_⟩;exact .oA [(4096,some 4096)] []
 ·have hil:i=L.length:=by omega
  subst hil;rw[List.take_length];exact .oA [] []
end Go.Proofs
