/- A part of the proof: trees of Go values, short forms, contracts. -/
import Derived.WalkKit
import Derived.Still
import Derived.MapKept
import GoSem.Builtin.Cap
import Derived.Laws.Externs
import GoSem.Extern.SlicesOverlaps
import Derived.Carry
import Derived.ProofKit
import Derived.OpenShut
import Derived.HandedShaped
import Derived.Lay
import Derived.LaidLaws
import Derived.MakeChecks
import Derived.SevenTiedAt
import Derived.Test.YtnfagfikoblhfaaGreatDoorChecked
import Derived.Test.YtnfagfikoblhfaaGreatDoorK16
set_option linter.unusedSimpArgs false
set_option linter.unusedVariables false
namespace Go.Proofs
open Go Go.TL
set_option maxRecDepth 4000
set_option maxHeartbeats 8000000
theorem qy6:∀ {s:Sch} {l:List Cnd} {i:Nat} (h:i<l.length),Zk s (l.take i)=0→nodE s l[i]≠0→Zk s l=nodE s l[i]
 | s,x::r,0,h,_,h2=>by
   have h2:nodE s x≠0:=h2;rw[Zk,Aj h2];rfl
 | s,x::r,i+1,h,h1,h2=>by
   rw[List.take_succ_cons,Zk] at h1;split at h1
   ·rename_i h3;exact absurd h1 h3
   ·rename_i h3;rw[Zk,Aq h3];exact qy6 (l:=r) (i:=i) (by simpa using h) h1 h2
theorem qN2:∀ {s:Sch} {l:List Cnd} {k:Cnd},Zk s l=0→nodE s k=0→Zk s (l++[k])=0
 | s,[],k,_,h=>by simp [Zk,h]
 | s,x::r,k,h1,h2=>by
   rw[Zk] at h1;split at h1
   ·rename_i h3;exact absurd h1 h3
   ·rename_i h3;rw[BW,Zk,Aq h3];exact qN2 h1 h2
theorem SchOk.list0 {s:Sch} (h:SchOk s) {i:Nat} (hi:i<s.cols.length) (hk:(qj s i).kind≠2):(qj s i).list=0:=by
 have:=h.cs i hi;unfold colE at this
 grind
theorem zO2 (s:Sch) (hok:SchOk s) (hL:0<s.lists.length):∀ (c:Cnd),Spc Tryz.prog WM [schT s,cnT c] [] (vI (nodE s c)) []:=by
 refine Cnd.ind' fun c ih=>?_;have hN0:=zA4 s c;have hn0:=hok.nl;have hn1:=hok.nc;generalize nodE s c=N at hN0 ⊢
 obtain⟨op,col,code,lo,hi,ks⟩:=c;simp only[Cnd.op,Cnd.col,Cnd.code,Cnd.lo,Cnd.hi,Cnd.kids] at ih hN0 ⊢
 have hn:ndE s (.mk op col code lo hi ks)=if op<1∨7<op then 4
 else if ks.length≠arC op∨(op≠2∧op≠3∧op≠4∧col≠0)∨(op≠2∧code≠0)∨(op≠3∧(lo≠0∨hi≠0)) then 11
 else if (op=2∧isB s col 2=false)∨(op=3∧isB s col 3=false)∨(op=4∧(isB s col 3=false∨(qj s col.toNat).opt=false)) then 7
 else if op=2∧(code<0∨code≥(qK s col.toNat).codes.length) then 6
 else if op=3∧(lo < -1000000∨hi>1000000∨lo>hi) then 2 else 0:=rfl
 have hbad:∀ v,v≠0→ndE s (.mk op col code lo hi ks)=v→N=v:=fun v h1 h2=>by rw[hN0,h2,Aj h1]
 have hgood:ndE s (.mk op col code lo hi ks)=0→N=Zk s ks:=fun h2=>by rw[hN0,h2,Aq (by simp)]
 clear hN0;generalize ndE s (.mk op col code lo hi ks)=E at hn hbad hgood;have h0p:0<s.cols.length:=by omega
 have hg0:(s.cols.map colT).getD 0 .junk=colT s.cols[0]:=qe (i:=0) h0p;have hl0:s.cols[0].list.toNat=0:=by
  have h1:=hok.c0;have:=hok.list0 (i:=0) h0p (by rw[h1];decide);rw[qj,qg h0p] at this;rw[this];rfl
 have hgl:(s.lists.map cdlT).getD 0 .junk=cdlT s.lists[0]:=qe hL;have hop:op=1∨op=2∨op=3∨op=4∨op=5∨op=6∨op=7∨op<1∨7<op:=by omega
 rcases hop with e | e | e | e | e | e | e | e
 focus
  have q1:(op==1)=true:=by rw[e];rfl
  have q2:(op==2)=false:=by rw[e];rfl
  have q3:(op==3)=false:=by rw[e];rfl
  have q4:(op==4)=false:=by rw[e];rfl
  have q5:(op==5)=false:=by rw[e];rfl
  have q6:(op==6)=false:=by rw[e];rfl
  have q7:(op==7)=false:=by rw[e];rfl
  simp [arC,-List.length_eq_zero_iff,e] at hn;refine qd jF mixm (by simp) fun e _ hst=>qh ?_;unfold zK;simp only[tZ,↓un_u,simprocAttr,Cnd.op,Cnd.col,Cnd.code,Cnd.lo,Cnd.hi,Cnd.kids,q1,q2,q3,q4,q5,q6,q7];refine⟨by kernel_rfl,fun h=>?_,fun h=>?_⟩
  ·rw[hbad 11 (by decide) (by rw[hn,Aj];grind)];exact .oA [] []
  have hks:ks.length≤2:=by grind
  rw[hgood (by rw[hn,Aq];grind)];have hc0:col.toNat=0:=by grind
  refine C2.im (fun _=>zh s col 2) (fun _=>rfl) (by rfl) ?_;simp only[tZ,↓un_u,simprocAttr,Cnd.op,Cnd.col,Cnd.code,Cnd.lo,Cnd.hi,Cnd.kids,q1,q2,q3,q4,q5,q6,q7];refine C2.im (fun _=>zh s col 3) (fun _=>rfl) (by rfl) ?_;simp only[tZ,↓un_u,simprocAttr,Cnd.op,Cnd.col,Cnd.code,Cnd.lo,Cnd.hi,Cnd.kids,q1,q2,q3,q4,q5,q6,q7];refine C2.im (fun _=>zh s col 3) (fun _=>rfl) (by rfl) ?_;simp only[tZ,↓un_u,simprocAttr,Cnd.op,Cnd.col,Cnd.code,Cnd.lo,Cnd.hi,Cnd.kids,q1,q2,q3,q4,q5,q6,q7,hc0,hg0,hl0,hgl];refine⟨by kernel_rfl,?_⟩
 rotate_left
 focus
  have q1:(op==1)=false:=by rw[e];rfl
  have q2:(op==2)=true:=by rw[e];rfl
  have q3:(op==3)=false:=by rw[e];rfl
  have q4:(op==4)=false:=by rw[e];rfl
  have q5:(op==5)=false:=by rw[e];rfl
  have q6:(op==6)=false:=by rw[e];rfl
  have q7:(op==7)=false:=by rw[e];rfl
  simp [arC,-List.length_eq_zero_iff,e] at hn;refine qd jF mixm (by simp) fun e _ hst=>qh ?_;unfold zK;simp only[tZ,↓un_u,simprocAttr,Cnd.op,Cnd.col,Cnd.code,Cnd.lo,Cnd.hi,Cnd.kids,q1,q2,q3,q4,q5,q6,q7];refine⟨by kernel_rfl,?_⟩;refine⟨by kernel_rfl,?_⟩;refine⟨fun h=>?_,fun h=>?_⟩
  ·rw[hbad 11 (by decide) (by rw[hn,Aj];grind)];exact .oA [] []
  have hks:ks.length≤2:=by grind
  rw[Aq (by grind)] at hn;refine C2.im (fun _=>zh s col 2) (fun _=>rfl) (by rfl) ?_;simp only[tZ,↓un_u,simprocAttr,Cnd.op,Cnd.col,Cnd.code,Cnd.lo,Cnd.hi,Cnd.kids,q1,q2,q3,q4,q5,q6,q7];refine C2.im (fun _=>zh s col 3) (fun _=>rfl) (by rfl) ?_;simp only[tZ,↓un_u,simprocAttr,Cnd.op,Cnd.col,Cnd.code,Cnd.lo,Cnd.hi,Cnd.kids,q1,q2,q3,q4,q5,q6,q7];refine C2.im (fun _=>zh s col 3) (fun _=>rfl) (by rfl) ?_;by_cases h2:isB s col 2=false
  ·rw[hbad 7 (by decide) (by rw[hn,Aj (by grind)])];rcases Nat.lt_or_ge col.toNat s.cols.length with hk | hk
   ·simp only[tZ,↓un_u,simprocAttr,Cnd.op,Cnd.col,Cnd.code,Cnd.lo,Cnd.hi,Cnd.kids,q1,q2,q3,q4,q5,q6,q7,h2,qe hk];exact .oA [] []
   ·simp only[tZ,↓un_u,simprocAttr,Cnd.op,Cnd.col,Cnd.code,Cnd.lo,Cnd.hi,Cnd.kids,q1,q2,q3,q4,q5,q6,q7,h2,qp8 hk,List.drop_succ_cons,List.drop_nil];exact .oA [] []
  rw[Ez] at h2;obtain⟨b1,b2,b3⟩:=zH.1 h2;obtain⟨i,hci⟩:∃ i:Nat,col.toNat=i:=⟨_,rfl⟩;rw[hci] at b3
  try rw[hci] at hn
  have hil:i<s.cols.length:=by omega
  have hat:qj s i=s.cols[i]:=by rw[qj,qg hil]
  have hcd:=hok.cdl hil b3;have hcd2:=(qZ (hok.cs i hil)).2.2.2.1 b3;have hcl:qK s i=s.lists.getD s.cols[i].list.toNat default:=by rw[qK,hat]
  rw[hat] at hcd hcd2;rw[hcl,qg hcd.1] at hcd;have hn:E=if code<0∨code≥s.lists[s.cols[i].list.toNat].codes.length then 6 else 0:=by
   rw[hn,Aq (by rw[h2];simp)];simp [hil,hcd.1]
  simp only[tZ,↓un_u,simprocAttr,Cnd.op,Cnd.col,Cnd.code,Cnd.lo,Cnd.hi,Cnd.kids,q1,q2,q3,q4,q5,q6,q7,h2,hci,qe hil,qe hcd.1,tD];refine⟨fun _=>by omega,fun _=>by omega,by kernel_rfl,fun h3=>?_,fun h3=>?_⟩
  ·rw[hbad 6 (by decide) (by rw[hn,Aj (by omega)])];exact .oA [] []
  rw[hgood (by rw[hn,Aq (by omega)])]
 rotate_left
 focus
  have q1:(op==1)=false:=by rw[e];rfl
  have q2:(op==2)=false:=by rw[e];rfl
  have q3:(op==3)=true:=by rw[e];rfl
  have q4:(op==4)=false:=by rw[e];rfl
  have q5:(op==5)=false:=by rw[e];rfl
  have q6:(op==6)=false:=by rw[e];rfl
  have q7:(op==7)=false:=by rw[e];rfl
  simp [arC,-List.length_eq_zero_iff,e] at hn;refine qd jF mixm (by simp) fun e _ hst=>qh ?_;unfold zK;simp only[tZ,↓un_u,simprocAttr,Cnd.op,Cnd.col,Cnd.code,Cnd.lo,Cnd.hi,Cnd.kids,q1,q2,q3,q4,q5,q6,q7];refine⟨by kernel_rfl,?_⟩;refine⟨by kernel_rfl,?_⟩;refine⟨fun h=>?_,fun h=>?_⟩
  ·rw[hbad 11 (by decide) (by rw[hn,Aj];grind)];exact .oA [] []
  have hks:ks.length≤2:=by grind
  rw[Aq (by grind)] at hn;refine C2.im (fun _=>zh s col 2) (fun _=>rfl) (by rfl) ?_;simp only[tZ,↓un_u,simprocAttr,Cnd.op,Cnd.col,Cnd.code,Cnd.lo,Cnd.hi,Cnd.kids,q1,q2,q3,q4,q5,q6,q7];refine C2.im (fun _=>zh s col 3) (fun _=>rfl) (by rfl) ?_;simp only[tZ,↓un_u,simprocAttr,Cnd.op,Cnd.col,Cnd.code,Cnd.lo,Cnd.hi,Cnd.kids,q1,q2,q3,q4,q5,q6,q7];refine C2.im (fun _=>zh s col 3) (fun _=>rfl) (by rfl) ?_;by_cases h2:isB s col 3=false
  ·rw[hbad 7 (by decide) (by rw[hn,Aj (by grind)])];rcases Nat.lt_or_ge col.toNat s.cols.length with hk | hk
   ·simp only[tZ,↓un_u,simprocAttr,Cnd.op,Cnd.col,Cnd.code,Cnd.lo,Cnd.hi,Cnd.kids,q1,q2,q3,q4,q5,q6,q7,h2,qe hk];exact .oA [] []
   ·simp only[tZ,↓un_u,simprocAttr,Cnd.op,Cnd.col,Cnd.code,Cnd.lo,Cnd.hi,Cnd.kids,q1,q2,q3,q4,q5,q6,q7,h2,qp8 hk,List.drop_succ_cons,List.drop_nil];exact .oA [] []
  rw[Ez] at h2;obtain⟨b1,b2,b3⟩:=zH.1 h2;obtain⟨i,hci⟩:∃ i:Nat,col.toNat=i:=⟨_,rfl⟩;rw[hci] at b3
  try rw[hci] at hn
  have hil:i<s.cols.length:=by omega
  have hat:qj s i=s.cols[i]:=by rw[qj,qg hil]
  have hli:s.cols[i].list.toNat=0:=by
   have:=hok.list0 hil (by rw[b3];decide);rw[hat] at this;rw[this];rfl
  rw[Aq (by rw[h2];simp)] at hn;simp only[tZ,↓un_u,simprocAttr,Cnd.op,Cnd.col,Cnd.code,Cnd.lo,Cnd.hi,Cnd.kids,q1,q2,q3,q4,q5,q6,q7,h2,hci,qe hil,hli,hgl,tD];refine⟨by kernel_rfl,fun h3=>?_,fun h3=>?_⟩
  ·rw[hbad 2 (by decide) (by rw[hn,Aj (by omega)])];exact .oA [] []
  rw[hgood (by rw[hn,Aq (by omega)])]
 rotate_left
 focus
  have q1:(op==1)=false:=by rw[e];rfl
  have q2:(op==2)=false:=by rw[e];rfl
  have q3:(op==3)=false:=by rw[e];rfl
  have q4:(op==4)=true:=by rw[e];rfl
  have q5:(op==5)=false:=by rw[e];rfl
  have q6:(op==6)=false:=by rw[e];rfl
  have q7:(op==7)=false:=by rw[e];rfl
  simp [arC,-List.length_eq_zero_iff,e] at hn;refine qd jF mixm (by simp) fun e _ hst=>qh ?_;unfold zK;simp only[tZ,↓un_u,simprocAttr,Cnd.op,Cnd.col,Cnd.code,Cnd.lo,Cnd.hi,Cnd.kids,q1,q2,q3,q4,q5,q6,q7];refine⟨by kernel_rfl,?_⟩;refine⟨fun h=>?_,fun h=>?_⟩
  ·rw[hbad 11 (by decide) (by rw[hn,Aj];grind)];exact .oA [] []
  have hks:ks.length≤2:=by grind
  rw[Aq (by grind)] at hn;refine C2.im (fun _=>zh s col 2) (fun _=>rfl) (by rfl) ?_;simp only[tZ,↓un_u,simprocAttr,Cnd.op,Cnd.col,Cnd.code,Cnd.lo,Cnd.hi,Cnd.kids,q1,q2,q3,q4,q5,q6,q7];refine C2.im (fun _=>zh s col 3) (fun _=>rfl) (by rfl) ?_;simp only[tZ,↓un_u,simprocAttr,Cnd.op,Cnd.col,Cnd.code,Cnd.lo,Cnd.hi,Cnd.kids,q1,q2,q3,q4,q5,q6,q7];refine C2.im (fun _=>zh s col 3) (fun _=>rfl) (by rfl) ?_;by_cases h2:isB s col 3=false
  ·rw[hbad 7 (by decide) (by rw[hn,Aj (by grind)])];rcases Nat.lt_or_ge col.toNat s.cols.length with hk | hk
   ·simp only[tZ,↓un_u,simprocAttr,Cnd.op,Cnd.col,Cnd.code,Cnd.lo,Cnd.hi,Cnd.kids,q1,q2,q3,q4,q5,q6,q7,h2,qe hk];exact .oA [] []
   ·simp only[tZ,↓un_u,simprocAttr,Cnd.op,Cnd.col,Cnd.code,Cnd.lo,Cnd.hi,Cnd.kids,q1,q2,q3,q4,q5,q6,q7,h2,qp8 hk,List.drop_succ_cons,List.drop_nil];exact .oA [] []
  rw[Ez] at h2;obtain⟨b1,b2,b3⟩:=zH.1 h2;obtain⟨i,hci⟩:∃ i:Nat,col.toNat=i:=⟨_,rfl⟩;rw[hci] at b3
  try rw[hci] at hn
  have hil:i<s.cols.length:=by omega
  have hat:qj s i=s.cols[i]:=by rw[qj,qg hil]
  have hli:s.cols[i].list.toNat=0:=by
   have:=hok.list0 hil (by rw[b3];decide);rw[hat] at this;rw[this];rfl
  have hn:E=if s.cols[i].opt=false then 7 else 0:=by
   rw[hn];simp [hil,h2]
  simp only[tZ,↓un_u,simprocAttr,Cnd.op,Cnd.col,Cnd.code,Cnd.lo,Cnd.hi,Cnd.kids,q1,q2,q3,q4,q5,q6,q7,h2,hci,qe hil,hli,hgl,Bx,Bz];refine⟨by omega,fun h3=>?_,fun h3=>?_⟩
  ·rw[hbad 7 (by decide) (by rw[hn,Aj h3])];exact .oA [] []
  rw[hgood (by rw[hn,Aq (by rw[h3];simp)])];refine⟨by kernel_rfl,?_⟩
 rotate_left
 focus
  have q1:(op==1)=false:=by rw[e];rfl
  have q2:(op==2)=false:=by rw[e];rfl
  have q3:(op==3)=false:=by rw[e];rfl
  have q4:(op==4)=false:=by rw[e];rfl
  have q5:(op==5)=true:=by rw[e];rfl
  have q6:(op==6)=false:=by rw[e];rfl
  have q7:(op==7)=false:=by rw[e];rfl
  simp [arC,-List.length_eq_zero_iff,e] at hn;refine qd jF mixm (by simp) fun e _ hst=>qh ?_;unfold zK;simp only[tZ,↓un_u,simprocAttr,Cnd.op,Cnd.col,Cnd.code,Cnd.lo,Cnd.hi,Cnd.kids,q1,q2,q3,q4,q5,q6,q7];refine⟨by kernel_rfl,fun h=>?_,fun h=>?_⟩
  ·rw[hbad 11 (by decide) (by rw[hn,Aj];grind)];exact .oA [] []
  have hks:ks.length≤2:=by grind
  rw[hgood (by rw[hn,Aq];grind)];have hc0:col.toNat=0:=by grind
  refine C2.im (fun _=>zh s col 2) (fun _=>rfl) (by rfl) ?_;simp only[tZ,↓un_u,simprocAttr,Cnd.op,Cnd.col,Cnd.code,Cnd.lo,Cnd.hi,Cnd.kids,q1,q2,q3,q4,q5,q6,q7];refine C2.im (fun _=>zh s col 3) (fun _=>rfl) (by rfl) ?_;simp only[tZ,↓un_u,simprocAttr,Cnd.op,Cnd.col,Cnd.code,Cnd.lo,Cnd.hi,Cnd.kids,q1,q2,q3,q4,q5,q6,q7];refine C2.im (fun _=>zh s col 3) (fun _=>rfl) (by rfl) ?_;simp only[tZ,↓un_u,simprocAttr,Cnd.op,Cnd.col,Cnd.code,Cnd.lo,Cnd.hi,Cnd.kids,q1,q2,q3,q4,q5,q6,q7,hc0,hg0,hl0,hgl];refine⟨by kernel_rfl,?_⟩
 rotate_left
 focus
  have q1:(op==1)=false:=by rw[e];rfl
  have q2:(op==2)=false:=by rw[e];rfl
  have q3:(op==3)=false:=by rw[e];rfl
  have q4:(op==4)=false:=by rw[e];rfl
  have q5:(op==5)=false:=by rw[e];rfl
  have q6:(op==6)=true:=by rw[e];rfl
  have q7:(op==7)=false:=by rw[e];rfl
  simp [arC,-List.length_eq_zero_iff,e] at hn;refine qd jF mixm (by simp) fun e _ hst=>qh ?_;unfold zK;simp only[tZ,↓un_u,simprocAttr,Cnd.op,Cnd.col,Cnd.code,Cnd.lo,Cnd.hi,Cnd.kids,q1,q2,q3,q4,q5,q6,q7];refine⟨by kernel_rfl,fun h=>?_,fun h=>?_⟩
  ·rw[hbad 11 (by decide) (by rw[hn,Aj];grind)];exact .oA [] []
  have hks:ks.length≤2:=by grind
  rw[hgood (by rw[hn,Aq];grind)];have hc0:col.toNat=0:=by grind
  refine C2.im (fun _=>zh s col 2) (fun _=>rfl) (by rfl) ?_;simp only[tZ,↓un_u,simprocAttr,Cnd.op,Cnd.col,Cnd.code,Cnd.lo,Cnd.hi,Cnd.kids,q1,q2,q3,q4,q5,q6,q7];refine C2.im (fun _=>zh s col 3) (fun _=>rfl) (by rfl) ?_;simp only[tZ,↓un_u,simprocAttr,Cnd.op,Cnd.col,Cnd.code,Cnd.lo,Cnd.hi,Cnd.kids,q1,q2,q3,q4,q5,q6,q7];refine C2.im (fun _=>zh s col 3) (fun _=>rfl) (by rfl) ?_;simp only[tZ,↓un_u,simprocAttr,Cnd.op,Cnd.col,Cnd.code,Cnd.lo,Cnd.hi,Cnd.kids,q1,q2,q3,q4,q5,q6,q7,hc0,hg0,hl0,hgl];refine⟨by kernel_rfl,?_⟩
 rotate_left
 focus
  have q1:(op==1)=false:=by rw[e];rfl
  have q2:(op==2)=false:=by rw[e];rfl
  have q3:(op==3)=false:=by rw[e];rfl
  have q4:(op==4)=false:=by rw[e];rfl
  have q5:(op==5)=false:=by rw[e];rfl
  have q6:(op==6)=false:=by rw[e];rfl
  have q7:(op==7)=true:=by rw[e];rfl
  simp [arC,-List.length_eq_zero_iff,e] at hn;refine qd jF mixm (by simp) fun e _ hst=>qh ?_;unfold zK;simp only[tZ,↓un_u,simprocAttr,Cnd.op,Cnd.col,Cnd.code,Cnd.lo,Cnd.hi,Cnd.kids,q1,q2,q3,q4,q5,q6,q7];refine⟨by kernel_rfl,fun h=>?_,fun h=>?_⟩
  ·rw[hbad 11 (by decide) (by rw[hn,Aj];grind)];exact .oA [] []
  have hks:ks.length≤2:=by grind
  rw[hgood (by rw[hn,Aq];grind)];have hc0:col.toNat=0:=by grind
  refine C2.im (fun _=>zh s col 2) (fun _=>rfl) (by rfl) ?_;simp only[tZ,↓un_u,simprocAttr,Cnd.op,Cnd.col,Cnd.code,Cnd.lo,Cnd.hi,Cnd.kids,q1,q2,q3,q4,q5,q6,q7];refine C2.im (fun _=>zh s col 3) (fun _=>rfl) (by rfl) ?_;simp only[tZ,↓un_u,simprocAttr,Cnd.op,Cnd.col,Cnd.code,Cnd.lo,Cnd.hi,Cnd.kids,q1,q2,q3,q4,q5,q6,q7];refine C2.im (fun _=>zh s col 3) (fun _=>rfl) (by rfl) ?_;simp only[tZ,↓un_u,simprocAttr,Cnd.op,Cnd.col,Cnd.code,Cnd.lo,Cnd.hi,Cnd.kids,q1,q2,q3,q4,q5,q6,q7,hc0,hg0,hl0,hgl];refine⟨by kernel_rfl,?_⟩
 rotate_left
 focus
  have q1:(op==1)=false:=Ak.2 (by omega);have q2:(op==2)=false:=Ak.2 (by omega);have q3:(op==3)=false:=Ak.2 (by omega);have q4:(op==4)=false:=Ak.2 (by omega);have q5:(op==5)=false:=Ak.2 (by omega);have q6:(op==6)=false:=Ak.2 (by omega);have q7:(op==7)=false:=Ak.2 (by omega);rw[hbad 4 (by decide) (by rw[hn,Aj e])];refine qd jF mixm (by simp) fun e _ hst=>qh ?_;unfold zK;simp only[tZ,↓un_u,simprocAttr,Cnd.op,Cnd.col,Cnd.code,Cnd.lo,Cnd.hi,Cnd.kids,q1,q2,q3,q4,q5,q6,q7];refine⟨by kernel_rfl,?_⟩;exact .oA [] []
 all_goals (
  refine qw mixm (α:=Nat) [7,77,121,147,167] (fun i=>i≤ks.length∧Zk s (ks.take i)=0) (fun i=>[(7,vI i)]) (fun i=>[(4096,.arr 2 [schT s] false),(4100,.arr 6 [.agg [vI op,vI col,vI code,vI lo,vI hi,vCs ks]] false)]) (fun i=>ks.length-i) 0 ⟨by omega,by rw[List.take_zero,Zk]⟩ ?_ fun i hi2=>?_
  ·exact .oA [(4096,some 4096),(4100,some 4100)] []
  obtain⟨i1,i2⟩:=hi2;refine sD ?_;refine⟨fun h5=>?_,fun h5=>?_⟩
  ·have hi2:i<ks.length:=by omega
   have hwi:=qk (i:=i) (by omega);simp only[tZ,↓un_u,simprocAttr,Ax,qe hi2,zw];refine⟨by omega,?_⟩;refine C1.im (ih _ (AX hi2)) (by rfl) (by rfl) ?_;simp only[tZ,↓un_u,simprocAttr,hwi,Bj,Aw];refine⟨by kernel_rfl,fun h6=>?_,fun h6=>?_⟩
   ·rw[qy6 hi2 i2 h6];exact .oA [] []
   ·refine⟨i+1,⟨by omega,by rw[qM hi2];exact qN2 i2 h6⟩,by omega,?_⟩;exact .oA [(4096,some 4096),(4100,some 4100)] []
  ·have hil:i=ks.length:=by omega
   subst hil;rw[Bw] at i2;rw[i2];exact .oA [] []
  )
end Go.Proofs
namespace Go.Proofs
open Go Go.TL
set_option maxHeartbeats 4000000
theorem Kt (s:Sch) (hs:yX s) (hL:0<s.lists.length) (c:Cnd):Spc Tryz.prog wJ [schT s,cnT c] [] (vI (chkC s c)) []:=by
 refine qd zk8 mixm (by simp) fun e _ hst=>qh ?_;unfold Yh;refine sW ?_;refine C1.im (Zb s hs) (by rfl) (by rfl) ?_;simp only[tZ,↓un_u,simprocAttr,Bj,Aw];refine⟨fun h=>?_,fun h=>?_⟩
 ·rw[chkC,Aj h];exact .oA [] []
 have hok:=qO h;refine C1.im (zB0 c 41 (by omega) (by omega)) (by rfl) (by rfl) ?_;refine sD ?_;refine⟨fun h2=>?_,fun h2=>?_⟩
 ·rw[chkC,Aq (by rw[h];simp),Aj h2];exact .oA [] []
 refine C1.im (zB1 c 41 (by omega) (by omega) (by omega)) (by rfl) (by rfl) ?_;refine sD ?_;refine⟨fun h3=>?_,fun h3=>?_⟩
 ·rw[chkC,Aq (by rw[h];simp),Aq h2,Aj (by omega)];exact .oA [] []
 rw[chkC,Aq (by rw[h];simp),Aq h2,Aq (by omega)];refine C1.im (zO2 s hok hL c) (by rfl) (by rfl) ?_;refine sW ?_;exact .oA [] []
theorem qy7 {s:Sch} {c:Cnd} (h:chkC s c=0):schE s=0∧cntC c 41<41∧depC c≤10∧nodE s c=0:=by
 unfold chkC at h;split at h
 ·rename_i h1;exact absurd h h1
 rename_i h1;split at h
 ·cases h
 rename_i h2;split at h
 ·cases h
 rename_i h3;exact⟨AQ h1,by omega,by omega,h⟩
theorem qQ8 (s:Sch) (hok:SchOk s) (c:Cnd) (hc:NdOk s c) (v:Int):Spc Tryz.prog WL [schT s,cnT c,vI v] [] (vI (Zc s c v)) []:=by
 have hn0:=hok.nl;have hn1:=hok.nc;have hA:Zc s c v=if c.op=2 then tf (qn1 (qK s c.col.toNat) v c.code)
 else if c.op=3 then (if v=zz then 0 else tf (decide (c.lo≤v)&&decide (v≤c.hi)))
 else if c.op=4 then tf (v==zz) else -1:=rfl
 rw[hA];by_cases h2:c.op=2
 ·obtain⟨b,b4,b5⟩:=hc.under h2;obtain⟨b1,b2,b3⟩:=zH.1 b;obtain⟨i,hci⟩:=AJ b1;rw[hci] at b2 b5;rw[hci,Ax] at b3;rw[Ax] at b5;have hil:i<s.cols.length:=by omega
  have hat:qj s i=s.cols[i]:=by rw[qj,qg hil]
  have hcd:=hok.cdl hil b3;have hcd2:=(qZ (hok.cs i hil)).2.2.2.1 b3;have hcl:qK s i=s.lists.getD s.cols[i].list.toNat default:=by rw[qK,hat]
  rw[hat] at hcd hcd2;rw[Aj h2,hci,Ax];rw[hcl,qg hcd.1] at hcd ⊢
  obtain⟨_,d5,d6⟩:=zf hcd.2;have q:(c.op==2)=true:=AY.2 h2;refine qd Kl mixm (by simp) fun e _ hst=>qh ?_;unfold wP;simp only[tZ,↓un_u,simprocAttr,q,hci,Ax,qe hil,qe hcd.1];refine⟨by omega,by omega,?_⟩;refine C1.im (zA1 _ v c.code (by omega)) (by rfl) (by rfl) ?_;refine sW ?_;refine⟨by kernel_rfl,fun h=>?_,fun h=>?_⟩
  ·rw[h];exact .oA [] []
  ·rw[h];exact .oA [] []
 have q:(c.op==2)=false:=Ak.2 h2;rw[Aq h2];by_cases h3:c.op=3
 ·have q3:(c.op==3)=true:=AY.2 h3;rw[Aj h3];refine qd Kl mixm (by simp) fun e _ hst=>qh ?_;unfold wP;simp only[tZ,↓un_u,simprocAttr,q,q3,AY,Ak];rw[show (-1099511627776:Int)=zz from rfl];refine⟨fun h=>?_,fun h=>?_⟩
  ·rw[Aj h];exact .oA [] []
  ·rw[Aq h];refine⟨fun h=>?_,fun h=>?_⟩
   ·rw[h];exact .oA [] []
   ·rw[h];exact .oA [] []
 have q3:(c.op==3)=false:=Ak.2 h3;rw[Aq h3];by_cases h4:c.op=4
 ·have q4:(c.op==4)=true:=AY.2 h4;rw[Aj h4];refine qd Kl mixm (by simp) fun e _ hst=>qh ?_;unfold wP;simp only[tZ,↓un_u,simprocAttr,q,q3,q4];rw[show (-1099511627776:Int)=zz from rfl];refine⟨fun h=>?_,fun h=>?_⟩
  ·rw[h];exact .oA [] []
  ·rw[h];exact .oA [] []
 have q4:(c.op==4)=false:=Ak.2 h4;rw[Aq h4];refine qd Kl mixm (by simp) fun e _ hst=>qh ?_;unfold wP;simp only[tZ,↓un_u,simprocAttr,q,q3,q4];exact .oA [] []
theorem jO4 (s:Sch) (c:Cnd) (v:Int) : -1≤Zc s c v∧Zc s c v≤1:=by
 unfold Zc tf
 grind
theorem jO5 {op:Int} {ks:List Int} (h:∀ k∈ks,-1≤k∧k≤1) : -1≤zp7 op ks∧zp7 op ks≤1:=by
 have key:∀ i,-1≤ks.getD i 0∧ks.getD i 0≤1:=fun i=>by
  rcases Nat.lt_or_ge i ks.length with hi | hi
  ·rw[qg hi];exact h _ (AX hi)
  ·rw[CY,List.getElem?_eq_none hi];simp
 have h0:=key 0;have h1:=key 1;unfold zp7
 grind
theorem jE0 (s:Sch) (row:List Int):∀ c,-1≤evC s row c∧evC s row c≤1:=by
 refine Cnd.ind' fun c ih=>?_;rw[jW5];split
 ·exact jO4 s c _
 ·refine jO5 fun k hk=>?_;obtain⟨x,hx,rfl⟩:=Cj.1 hk;exact ih x hx
theorem zf5:∀ c m,1≤m→cntC c m<m→((atsC c).length:Int)≤cntC c m:=by
 refine Cnd.ind' fun c ih m hm h=>?_;have hc:=qQ7 c m hm;rw[qM8];split
 ·simp;omega
 ·rw[YI] at h ⊢
  have key:∀ l:List Cnd,(∀ k∈l,k∈c.kids)→∀ n,1≤n→n≤m→wA l m n<m→n+(WH l).length≤wA l m n:=by
   intro l
   induction l with
   | nil=>intro _ n h1 h2 _;rw[wA,WH];simp
   | cons k r ihl=>
     intro hk n h1 h2 h3;rw[wA] at h3 ⊢
     rw[WH,AW];split at h3
     ·rename_i h4;rw[Aj h4];have c1:=qQ7 k (m-n) (by omega);have c2:=zA7 r m (n+cntC k (m-n)) (by omega);have c3:=ih k (hk k (by simp)) (m-n) (by omega) (by omega);have c4:=ihl (fun x hx=>hk x (CQ _ hx)) (n+cntC k (m-n)) (by omega) (by omega) h3;omega
     ·omega
  have:=key c.kids (fun k hk=>hk) 1 (by omega) hm h;omega
theorem Zf:∀ (l:List Cnd) (i:Nat),(WH (l.take i)).length≤(WH l).length
 | [],i=>by simp
 | x::r,0=>by simp [WH]
 | x::r,i+1=>by rw[List.take_succ_cons,WH,WH,AW,AW];have:=Zf r i;omega
theorem zO3 (l:List Cnd):ImXs 6 (l.map cndT):=qH jO3 l
theorem zB2 {st:Sto} {ρ:Ren} {B:List Nat} (l:List Cnd):ltXs st ρ B 6 (l.map cndT) (l.map cndT):=ym (zO3 l)
theorem zB3:∀ (c:Cnd) (m:Int),1≤m→m≤1000→cntC c m<m→Spc Tryz.prog Kf [cnT c] [] (vCs (atsC c)) []:=by
 refine Cnd.ind' fun c ih m hm hm2 hc=>?_;have hal:=zf5 c m hm hc;rw[YI] at hc hal;obtain⟨hk1,hk2⟩:=qF8 (by omega) hc;have hi:isAt c=((c.op==2)||(c.op==3)||(c.op==4)):=rfl;refine qd zm8 mixm (by simp) fun e _ hst=>qh ?_;unfold Yr;refine sW ?_;rw[← hi];refine⟨fun h=>?_,fun h=>?_⟩
 ·rw[qM8,Aj h];show Zq [] _ _ (.sl 6 [cndT c]) [];rw[zw];exact .oA [] [12292]
 ·rw[qM8,Aq (by rw[h];simp)] at hal ⊢
  refine qw mixm (α:=Nat) [3,4,17] (fun i=>i≤c.kids.length) (fun i=>[(3,.asl 1 (WH (c.kids.take i)).length),(4,vI i)]) (fun i=>[(4096,.arr 6 [cnT c] false),(1,.arr 6 ((WH (c.kids.take i)).map cndT) false)]) (fun i=>c.kids.length-i) 0 (by omega) ?_ fun i hi2=>?_
  ·exact .oA [(4096,some 4096),(1,none)] []
  have htl:=Zf c.kids i;refine sD ?_;refine⟨fun h5=>?_,fun h5=>?_⟩
  ·have hi2:i<c.kids.length:=by omega
   have hwi:=qk (i:=i) (by omega);obtain⟨m',a1,a2,a3⟩:=hk2 _ (AX hi2);have htl2:=Zf c.kids (i+1);rw[qM hi2,qa5,AW] at htl2;simp only[tZ,↓un_u,simprocAttr,Ax,qe hi2,zw];refine⟨by omega,?_⟩;refine C1.im (ih _ (AX hi2) m' a1 (by omega) a3) (by rfl) (by rfl) ?_;simp only[tZ,↓un_u,simprocAttr,hwi];refine⟨by omega,i+1,by omega,by omega,?_⟩;rw[qM hi2,qa5,By];refine .of [(4096,some 4096),(1,some 1)] [] rfl (by first | rfl | (rw[hst];rfl)) ?_ ?_
   all_goals (try simp only[tL,simprocAttr,By,List.map_cons,List.map_nil,BW,Cy,Dj])
   all_goals (try (repeat' (first | exact ze | (apply zB;intro _;exact⟨rfl,rfl⟩) | (apply qH;intro _;exact⟨rfl,rfl⟩) | with_reducible apply qX | with_reducible refine qT ⟨rfl,rfl⟩ ?_ | exact qY | with_reducible apply qU | with_reducible refine qW ⟨rfl,rfl,?_⟩ ?_ | with_reducible apply Az | exact qV rfl | exact qV (by assumption) | (refine⟨⟨?_,rfl,?_,rfl,?_⟩,trivial⟩ <;> first | (simp;done) | (apply qH;intro _;exact⟨rfl,rfl⟩)) | trivial | rfl | (rw[qk (by omega)]) | omega)))
   all_goals first | exact zB2 _ | exact zO3 _
  ·have hil:i=c.kids.length:=by omega
   subst hil;rw[Bw];refine .of [] [1] rfl (by first | rfl | (rw[hst];rfl)) ?_ ?_
   all_goals (try simp only[tL,simprocAttr,By,List.map_cons,List.map_nil,BW,Cy,Dj])
   all_goals (try (repeat' (first | exact ze | (apply zB;intro _;exact⟨rfl,rfl⟩) | (apply qH;intro _;exact⟨rfl,rfl⟩) | with_reducible apply qX | with_reducible refine qT ⟨rfl,rfl⟩ ?_ | exact qY | with_reducible apply qU | with_reducible refine qW ⟨rfl,rfl,?_⟩ ?_ | with_reducible apply Az | exact qV rfl | exact qV (by assumption) | (refine⟨⟨?_,rfl,?_,rfl,?_⟩,trivial⟩ <;> first | (simp;done) | (apply qH;intro _;exact⟨rfl,rfl⟩)) | trivial | rfl | (rw[qk (by omega)]) | omega)))
   all_goals first | exact zB2 _ | exact zO3 _
end Go.Proofs
namespace Go.Proofs
open Go Go.TL
set_option maxHeartbeats 4000000
theorem zf6 (col lev:Int):∀ (l:List Pk) (x:List Pk×Bool),(l.foldl (qi5 col lev) x).1.length+(if (l.foldl (qi5 col lev) x).2=true then 0 else 1)≤x.1.length+(if x.2=true then 0 else 1)+l.length
 | [],x=>BZ _
 | p::r,x=>by
   have h:=zf6 col lev r (qi5 col lev x p);have h2:(qi5 col lev x p).1.length+(if (qi5 col lev x p).2=true then 0 else 1)≤x.1.length+(if x.2=true then 0 else 1)+1:=by
    unfold qi5;obtain⟨a,b⟩:=x;dsimp only;split <;> split <;> cases b <;> simp_all <;> omega
   rw[Dw,CJ];omega
theorem qF9 (l:List Pk) (col lev:Int):(Ks l col lev).length≤l.length+1:=by
 have h:=zf6 col lev l ([],decide (lev≤0));unfold Ks;dsimp only at h ⊢
 split
 ·simp_all
  split at h <;> omega
 ·rename_i k;rw[Aq k] at h;rw[AW];simp at h ⊢
  split at h <;> omega
theorem Zg (l:List Pk) (col lev:Int) (hl:l.length<1000000000):Spc Tryz.prog kj [vPs l,vI col,vI lev] [] (vPs (Ks l col lev)) []:=by
 have hP:Ks l col lev=if (l.foldl (qi5 col lev) ([],decide (lev≤0))).2 then (l.foldl (qi5 col lev) ([],decide (lev≤0))).1 else (l.foldl (qi5 col lev) ([],decide (lev≤0))).1++[⟨col,lev⟩]:=rfl
 have hS:∀ i,i≤l.length→((l.take i).foldl (qi5 col lev) ([],decide (lev≤0))).1.length≤l.length+1:=fun i hi=>by
  have h:=zf6 col lev (l.take i) ([],decide (lev≤0));simp only[Cw,Cz] at h;split at h <;> split at h <;> omega
 refine qd zj8 mixm (by simp) fun e _ hst=>qh ?_;unfold Yc;refine sW ?_;refine qw mixm (α:=Nat×List Pk×Bool) [7,8,9] (fun x=>x.1≤l.length∧x.2=(l.take x.1).foldl (qi5 col lev) ([],decide (lev≤0))) (fun x=>[(7,.asl 1 x.2.1.length),(8,vB x.2.2),(9,vI x.1)]) (fun x=>[(1,.arr 2 (x.2.1.map pkT) false)]) (fun x=>l.length-x.1) (0,[],decide (lev≤0)) ⟨by simp,by simp⟩ ?_ fun x hx=>?_
 ·exact .oA [(1,none)] []
 obtain⟨i,a,b⟩:=x;obtain⟨x1,x2⟩:=hx;dsimp only at x1 x2;have hSi:=hS i x1;rw[← x2] at hSi;dsimp only at hSi;refine sD ?_;refine⟨fun h=>?_,fun h=>?_⟩
 ·have hi2:i<l.length:=by omega
  have hwi:=qk (i:=i) (by omega);have hs:(l.take (i+1)).foldl (qi5 col lev) ([],decide (lev≤0))=qi5 col lev (a,b) l[i]:=by rw[qM hi2,Gx,← x2];rfl
  simp only[tZ,↓un_u,simprocAttr,Ax,qe hi2];generalize l[i]=p at hs ⊢
  have hmx:maxI p.lev lev=max p.lev lev:=by unfold maxI;omega
  have hr:qi5 col lev (a,b) p=(if p.col=col then ((if p.col>col∧b=false then (a++[⟨col,lev⟩],true) else (a,b)).1++[⟨p.col,max p.lev lev⟩],true) else ((if p.col>col∧b=false then (a++[⟨col,lev⟩],true) else (a,b)).1++[p],(if p.col>col∧b=false then (a++[(⟨col,lev⟩:Pk)],true) else (a,b)).2)):=rfl;rw[hr] at hs;simp only[tZ,↓un_u,simprocAttr,tD,AY,Ak,Bx,Bz,hwi,hmx];refine⟨by omega,fun h2=>⟨by omega,fun h3=>by omega,fun h3=>?_⟩,fun h2=>⟨fun h3=>?_,fun h3=>?_⟩⟩
  ·rw[Aq h3,Aj h2] at hs;refine⟨by omega,(i+1,a++[⟨col,lev⟩]++[p],true),⟨by dsimp only;omega,hs.symm⟩,by dsimp only;omega,?_⟩;exact .oA [(1,some 1)] []
  ·rw[Aj h3,Aq (by grind)] at hs;refine⟨by omega,(i+1,a++[⟨p.col,max p.lev lev⟩],true),⟨by dsimp only;omega,hs.symm⟩,by dsimp only;omega,?_⟩;exact .oA [(1,some 1)] []
  ·rw[Aq h3,Aq (by grind)] at hs;refine⟨by omega,(i+1,a++[p],b),⟨by dsimp only;omega,hs.symm⟩,by dsimp only;omega,?_⟩;exact .oA [(1,some 1)] []
 ·have hil:i=l.length:=by omega
  subst hil;rw[Bw] at x2;rw[← x2] at hP;dsimp only at hP;simp only[tZ,↓un_u,simprocAttr,Bx,Bz];refine⟨fun h2=>?_,fun h2=>?_⟩
  ·rw[hP,h2,Aq (by simp)];refine⟨by omega,?_⟩;show Zq [] _ _ (.sl 2 ((a++[(⟨col,lev⟩:Pk)]).map pkT)) [];rw[By];exact .oA [] [1]
  ·rw[hP,Aj h2];exact .oA [] [1]
theorem zO4:∀ {a b:List Cnd},a.length≠b.length→Qg a b=false
 | [],[],h=>by simp at h
 | x::r,y::t,h=>by rw[Qg,zO4 (a:=r) (b:=t) (by simpa using h),Bool.and_false]
 | [],y::t,_=>rfl
 | x::r,[],_=>rfl
theorem zf7:∀ {a b:List Cnd} {i:Nat} (ha:i<a.length) (hb:i<b.length),Qg (a.take (i+1)) (b.take (i+1))=(Qg (a.take i) (b.take i)&&qa6 a[i] b[i])
 | x::r,y::t,0,_,_=>by simp [Qg]
 | x::r,y::t,i+1,ha,hb=>by
   rw[List.take_succ_cons,List.take_succ_cons,Qg,zf7 (a:=r) (b:=t) (by simpa using ha) (by simpa using hb),List.take_succ_cons,List.take_succ_cons,Qg];simp [Bool.and_assoc]
theorem zu1:∀ {a b:List Cnd} {i:Nat} (ha:i<a.length) (hb:i<b.length),qa6 a[i] b[i]=false→Qg a b=false
 | x::r,y::t,0,_,_,h=>by
   have h:qa6 x y=false:=h;rw[Qg,h,Bool.false_and]
 | x::r,y::t,i+1,ha,hb,h=>by rw[Qg,zu1 (a:=r) (b:=t) (i:=i) (by simpa using ha) (by simpa using hb) h,Bool.and_false]
inductive SmC:Cnd→Prop
 | mk (c:Cnd) (h1:c.kids.length<4611686018427387904) (h2:∀ k∈c.kids,SmC k):SmC c
theorem zO5:∀ (a b:Cnd),(a.kids.length=b.kids.length→SmC a)→Spc Tryz.prog WN [cnT a,cnT b] [] (vB (qa6 a b)) []:=by
 refine Cnd.ind' fun a ih b hs=>?_;rw[jh6];refine qd zz8 mixm (by simp) fun e _ hst=>qh ?_;unfold qf3;simp only[tZ,↓un_u,simprocAttr,tD,Bj,Aw];refine⟨fun h=>?_,fun h=>?_⟩
 ·have:((a.op==b.op)&&(a.col==b.col)&&(a.code==b.code)&&(a.lo==b.lo)&&(a.hi==b.hi)&&Qg a.kids b.kids)=false:=by
   rcases h with ((((h | h) | h) | h) | h) | h
   ·rw[Ak.2 h];simp
   ·rw[Ak.2 h];simp
   ·rw[Ak.2 h];simp
   ·rw[Ak.2 h];simp
   ·rw[Ak.2 h];simp
   ·rw[zO4 (by omega)];simp
  rw[this];exact .oA [] []
 have e:((a.op==b.op)&&(a.col==b.col)&&(a.code==b.code)&&(a.lo==b.lo)&&(a.hi==b.hi)&&Qg a.kids b.kids)=Qg a.kids b.kids:=by
  rw[AY.2 h.1.1.1.1.1,AY.2 h.1.1.1.1.2,AY.2 h.1.1.1.2,AY.2 h.1.1.2,AY.2 h.1.2];simp
 have hl:a.kids.length=b.kids.length:=by omega
 obtain⟨_,s1,s2⟩:=hs hl;rw[e];refine qw mixm (α:=Nat) [5,47] (fun i=>i≤a.kids.length∧Qg (a.kids.take i) (b.kids.take i)=true) (fun i=>[(5,vI i)]) (fun i=>[(4096,.arr 6 [cnT a] false),(4100,.arr 6 [cnT b] false)]) (fun i=>a.kids.length-i) 0 ⟨by omega,by simp [Qg]⟩ ?_ fun i hi=>?_
 ·exact .oA [(4096,some 4096),(4100,some 4100)] []
 refine sD ?_;refine⟨fun h5=>?_,fun h5=>?_⟩
 ·have hi2:i<a.kids.length:=by omega
  have hib:i<b.kids.length:=by omega
  have hwi:=qk (i:=i) (by omega);simp only[tZ,↓un_u,simprocAttr,Ax,qe hi2,qe hib,zw];refine⟨by omega,by omega,?_⟩;refine C1.im (ih _ (AX hi2) b.kids[i] fun _=>s2 _ (AX hi2)) (by rfl) (by rfl) ?_;simp only[tZ,↓un_u,simprocAttr,Bx,Bz,hwi];refine⟨by kernel_rfl,fun h6=>?_,fun h6=>?_⟩
  ·rw[zu1 hi2 hib h6];exact .oA [] []
  ·refine⟨i+1,⟨by omega,by rw[zf7 hi2 hib,hi.2,h6];rfl⟩,by omega,?_⟩;exact .oA [(4096,some 4096),(4100,some 4100)] []
 ·have hil:i=a.kids.length:=by omega
  have h2:=hi.2;rw[hil,Bw,hl,Bw] at h2;rw[h2];exact .oA [] []
end Go.Proofs
namespace Go.Proofs
open Go Go.TL
set_option maxHeartbeats 4000000
theorem zf8 (s:Sch) (hE:schE s=0) (c:Cnd) (hnd:NdOk s c) (ha:isAt c=true) (lev:Nat) (hl:(lev:Int)≤finI s c.col):Spc Tryz.prog KM [schT s,cnT c,vI lev] [] (vB (decB s c lev)) []:=by
 have hok:=qO hE;have hn0:=hok.nl;have hn1:=hok.nc;obtain⟨_,c1,c2,hfin⟩:=yY (s:=s) (c:=c.col) (by omega);obtain⟨i,hci⟩:=AJ (show 0≤c.col by omega);have hcn:c.col.toNat=i:=by omega
 have hil:i<s.cols.length:=by omega
 have hat:qj s i=s.cols[i]:=by rw[qj,qg hil]
 have hwd:=fun e l=>hok.wid hil (by omega) e (lev:=l);have hlv:=YJ s hok i hil;have hll:=qa8 hok hil;rw[hcn,hat] at hfin;rw[hat] at hwd hlv hll;have hi:isAt c=((c.op==2)||(c.op==3)||(c.op==4)):=rfl;have hD:decB s c lev=if c.op=2 then qs7 (qJ s i).length (decP s c lev)
 else if c.op=4 then decide (0<lev)
 else if lev=0 then !s.cols[i].opt&&!(decide (s.cols[i].low<c.lo)&&decide (c.lo≤s.cols[i].high))&&!(decide (s.cols[i].low≤c.hi)&&decide (c.hi<s.cols[i].high))
  else (!(decide (s.cols[i].low<c.lo)&&decide (c.lo≤s.cols[i].high))||(c.lo.tmod (qD s.cols[i] lev)==0))&&(!(decide (s.cols[i].low≤c.hi)&&decide (c.hi<s.cols[i].high))||((c.hi+1).tmod (qD s.cols[i] lev)==0)):=by
  rw[decB,hcn,hat]
 have hk2:c.op=2→s.cols[i].kind=2:=fun h=>by
  have:=(zH.1 (hnd.under h).1).2.2;rw[hcn,hat] at this;exact this
 have hk3:c.op=3→s.cols[i].kind=3:=fun h=>by
  have:=(zH.1 (hnd.between h).1).2.2;rw[hcn,hat] at this;exact this
 have hPd:∀ L,qJ s i=L→∀ j k,decP s c lev j k=!((qu s c.col lev (L.getD j 0)==qu s c.col lev (L.getD k 0))&&!(Zc s c (L.getD j 0)==Zc s c (L.getD k 0))):=fun L hL j k=>by rw[decP,hcn,hL]
 rw[hD];have hci2:vI c.col=vI i:=by rw[hci]
 refine qd qT6 mixm (by simp) fun e _ hst=>qh ?_;unfold JL;simp only[tZ,↓un_u,simprocAttr,hcn,qe hil];generalize s.cols[i]=x at hwd hlv hfin hll hk2 hk3 ⊢
 simp only[tZ,↓un_u,simprocAttr,AY,Ak];refine⟨by omega,fun h2=>?_,fun h2=>?_⟩
 ·rw[Aj h2];rw[← hci2] at hlv;refine C1.im (hlv (hk2 h2)) (by rfl) (by rfl) ?_;have hPd:=hPd _ rfl;generalize qJ s i=L at hll hPd ⊢
  have hll:=hll (hk2 h2);refine sW ?_;refine qw mixm (α:=Nat) [9] (fun j=>j≤L.length∧qs7 j (decP s c lev)=true) (fun j=>[(9,vI j)]) (fun j=>[(4096,.arr 2 [schT s] false),(4100,.arr 6 [cnT c] false),(8216,.arr 7 [colT x] false)]) (fun j=>L.length-j) 0 ⟨by omega,rfl⟩ ?_ fun j hj=>?_
  ·exact .oA [(4096,some 4096),(4100,some 4100),(8216,some 8216)] []
  obtain⟨j1,j2⟩:=hj;refine sD ?_;refine⟨fun h3=>?_,fun h3=>?_⟩
  ·have hj2:j<L.length:=by omega
   have hwj:=qk (i:=j) (by omega);have hgj:L.getD j 0=L[j]:=qg hj2;refine qw mixm (α:=Nat) [10] (fun k=>k≤j∧(List.range k).all (decP s c lev j)=true) (fun k=>[(10,vI k)]) (fun k=>[(4096,.arr 2 [schT s] false),(4100,.arr 6 [cnT c] false),(8216,.arr 7 [colT x] false)]) (fun k=>j-k) 0 ⟨by omega,rfl⟩ ?_ fun k hk=>?_
   ·exact .oA [(4096,some 4096),(4100,some 4100),(8216,some 8216)] []
   obtain⟨k1,k2⟩:=hk;refine sD ?_;refine⟨fun h4=>?_,fun h4=>?_⟩
   ·have hk2:k<L.length:=by omega
    have hwk:=qk (i:=k) (by omega);have hgk:L.getD k 0=L[k]:=qg hk2;have hP:=hPd j k;rw[hgj,hgk] at hP;have hC1:=qQ8 s hok c hnd L[j];have hC2:=qQ8 s hok c hnd L[k];simp only[tZ,↓un_u,simprocAttr,Ax,qe hj2,qe hk2];refine⟨by omega,?_⟩;refine C1.im (jP s hok.sm c.col lev L[j]) (by rfl) (by rfl) ?_;simp only[tZ,↓un_u,simprocAttr,Ax,qe hj2,qe hk2];refine⟨by omega,?_⟩;refine C1.im (jP s hok.sm c.col lev L[k]) (by rfl) (by rfl) ?_;simp only[tZ,↓un_u,simprocAttr,Ax,qe hj2,qe hk2];refine⟨fun _=>by omega,?_⟩;refine C2.im (fun _=>hC1) (fun _=>rfl) (by rfl) ?_;simp only[tZ,↓un_u,simprocAttr,Ax,qe hj2,qe hk2];refine⟨fun _=>by omega,?_⟩;refine C2.im (fun _=>hC2) (fun _=>rfl) (by rfl) ?_;simp only[tZ,↓un_u,simprocAttr,hwk,tD,Bj,Aw,AY,Ak];refine⟨by kernel_rfl,fun h5=>?_,fun h5=>?_⟩
    ·rw[zA6 hj2 (show k<j by omega) (by rw[hP];grind)];exact .oA [] []
    ·refine⟨k+1,⟨by omega,?_⟩,by omega,?_⟩
     ·rw[zA5,k2,hP];grind
     ·exact .oA [(4096,some 4096),(4100,some 4100),(8216,some 8216)] []
   ·have hkj:k=j:=by omega
    subst hkj;simp only[tZ,↓un_u,simprocAttr,hwj];refine⟨k+1,⟨by omega,?_⟩,by omega,?_⟩
    ·rw[qM9,j2,k2];rfl
    ·exact .oA [(4096,some 4096),(4100,some 4100),(8216,some 8216)] []
  ·have hjl:j=L.length:=by omega
   subst hjl;rw[j2];exact .oA [] []
 rw[Aq h2];refine⟨fun h4=>?_,fun h4=>?_⟩
 ·rw[Aj h4];rw[show decide ((lev:Int)>0)=decide (0<lev) from by rw[Bool.eq_iff_iff,AZ,AZ];omega];exact .oA [] []
 rw[Aq h4];have h3:c.op=3:=by
  rw[hi] at ha;simp only[tD,AY] at ha;omega
 have hk3:=hk3 h3;have hb:=hnd.between h3;rw[Aq (by omega)] at hfin;refine⟨by kernel_rfl,fun h5=>?_,fun h5=>?_⟩
 ·rw[Aj (by omega),show decide (c.lo>x.low)=decide (x.low<c.lo) from rfl];exact .oA [] []
 ·rw[Aq (by omega)];have hw:=hwd (by omega) lev (by omega);refine C1.im (Kr x lev (by omega) (by omega)) (by rfl) (by rfl) ?_;have hwh:IntKind.i64.wrap (c.hi+1)=c.hi+1:=AK _ (by omega);simp only[tZ,↓un_u,simprocAttr,hwh];rw[show decide (c.lo>x.low)=decide (x.low<c.lo) from rfl];refine⟨fun _=>by omega,fun _=>by omega,?_⟩;exact .oA [] []
theorem qy8 {s:Sch} (hE:schE s=0) {i:Nat} (h1:0<i) (h2:i<s.cols.length) (hk:(qj s i).kind=2) {v:Int} (hv:v∈qJ s i):qu s i (finI s i) v=v:=by
 have hok:=qO hE;obtain⟨d1,d2⟩:=hok.cdl h2 hk;have hf:finI s i=zk (qK s i)-1:=by
  rw[finI,Aq (by omega),Ax,Aj hk]
 have hh:=qa4 hk d2 hv;obtain⟨j,j1,j2,rfl⟩:=(zW0 d2).1 hv;rw[qu,Aq,Ax,Aj hk,Aq (by rw[hh];simp),upC,Aq,hf,← j2,Ax,Ax,jh3 (by omega)]
 ·rw[hf,← j2,Ax];omega
 ·rw[Ez,wB,hf,← j2];omega
theorem kb4 {s:Sch} (hE:schE s=0) {c:Cnd} (hnd:NdOk s c) (ha:isAt c=true):0≤finI s c.col∧decB s c (finI s c.col).toNat=true:=by
 have hok:=qO hE;have hlv:∀ k,isB s c.col k=true→2≤k→∃ i:Nat,c.col=i∧0<i∧i<s.cols.length∧(qj s i).kind=k:=fun k hb hk=>by
  obtain⟨b1,b2,b3⟩:=zH.1 hb;obtain⟨i,hci⟩:=AJ b1;rw[hci,Ax] at b3;refine⟨i,hci,?_,by omega,b3⟩;refine Nat.pos_of_ne_zero fun e=>?_;subst e;have:=hok.c0;omega
 have hm:∀ i:Nat,0<i→i<s.cols.length→(qj s i).kind=3→finI s i=(qj s i).widths.length∧1≤(qj s i).widths.length:=fun i h1 h2 h3=>by
  refine⟨by rw[finI,Aq (by omega),Ax,Aq (by omega)],?_⟩;have:=(qZ (hok.cs i h2)).2.2.2.2 h3;unfold measE at this
  grind
 have hop:c.op=2∨c.op=3∨c.op=4:=by
  unfold isAt at ha;simp only[DZ,AY] at ha;omega
 rcases hop with h | h | h
 ·obtain⟨i,hci,h1,h2,hk⟩:=hlv 2 (hnd.under h).1 (by omega);obtain⟨d1,d2⟩:=hok.cdl h2 hk;have hf:finI s i=zk (qK s i)-1:=by
   rw[finI,Aq (by omega),Ax,Aj hk]
  have hf0:0≤finI s i:=by rw[hf,zA0 d2];omega
  rw[hci];refine⟨hf0,?_⟩;rw[decB,Aj h,hci,Ax,qs7,Bk];intro j hj;rw[Dk] at hj;rw[Bk];intro k hk2;rw[Dk] at hk2;have e:(((finI s i).toNat:Nat):Int)=finI s i:=by omega
  rw[decP,hci,Ax,e,qg hj,qg (by omega),qy8 hE h1 h2 hk (AX _),qy8 hE h1 h2 hk (AX _)]
  grind
 ·obtain⟨i,hci,h1,h2,hk⟩:=hlv 3 (hnd.between h).1 (by omega);obtain⟨m1,m2⟩:=hm i h1 h2 hk;have hw:=hok.wid h2 h1 (by omega) (lev:=(qj s i).widths.length) (by omega);rw[hci,m1];refine⟨by omega,?_⟩;rw[decB,Aq (by omega),Aq (by omega),hci,Ax,Ax];dsimp only;rw[Aq (by omega),hw.2.2.2.2.2.2.2];simp
 ·obtain⟨i,hci,h1,h2,hk⟩:=hlv 3 (hnd.miss h).1 (by omega);obtain⟨m1,m2⟩:=hm i h1 h2 hk;rw[hci,m1];refine⟨by omega,?_⟩;rw[decB,Aq (by omega),Aj h,Ax];exact Cx (by omega)
theorem qG0 {s:Sch} (hE:schE s=0) {c:Cnd} (hnd:NdOk s c) (ha:isAt c=true):(decN s c:Int)≤finI s c.col∧decB s c (decN s c)=true∧(∀ m,m<decN s c→decB s c m=false):=by
 obtain⟨h1,h2⟩:=kb4 hE hnd ha;have h3:=qn4 (c:=c.col) hE;obtain⟨a,b,_,d⟩:=qy5 h2 64 0 (by omega) (by omega);unfold decN;exact⟨by omega,a,fun m hm=>d m (by omega) hm⟩
def qV3 (s:Sch):List Pk→Cnd→List Pk:=fun l a=>Ks l a.col (decN s a)
theorem zf9 (s:Sch):∀ (L:List Cnd) (l:List Pk),(L.foldl (qV3 s) l).length≤l.length+L.length
 | [],l=>BZ _
 | a::L,l=>by
   have h1:=zf9 s L (qV3 s l a);have h2:=qF9 l a.col (decN s a);rw[Dw,CJ];unfold qV3 at h1 ⊢
   omega
theorem qG1 (s:Sch) (hs:yX s) (hL:0<s.lists.length) (c:Cnd):Spc Tryz.prog Kc [schT s,cnT c] [] (vPs (ji s c)) []:=by
 refine qd zl4 mixm (by simp) fun e _ hst=>qh ?_;unfold Yk;refine sW ?_;refine C1.im (Kt s hs hL c) (by rfl) (by rfl) ?_;simp only[tZ,↓un_u,simprocAttr,Bj,Aw];refine⟨fun h=>?_,fun h=>?_⟩
 ·rw[ji,Aj h];exact .oA [] []
 obtain⟨hE,k2,k3,k4⟩:=qy7 h;have hal:=zf5 c 41 (by omega) k2;have hao:=jh5 c k4;have hN:ji s c=(atsC c).foldl (qV3 s) []:=by rw[ji,Aq (by rw[h];simp)];rfl
 rw[hN];refine C1.im (zB3 c 41 (by omega) (by omega) k2) (by rfl) (by rfl) ?_;generalize atsC c=L at hal hao ⊢
 refine sW ?_;refine qw mixm (α:=Nat) [5,7,12] (fun i=>i≤L.length) (fun i=>[(5,vPs ((L.take i).foldl (qV3 s) [])),(7,vI i)]) (fun i=>[(4096,.arr 2 [schT s] false)]) (fun i=>L.length-i) 0 (by omega) ?_ fun i hi=>?_
 ·exact .oA [(4096,some 4096)] []
 have hlen:=zf9 s (L.take i) [];rw[Cz] at hlen;refine sD ?_;refine⟨fun h3=>?_,fun h3=>?_⟩
 ·have hi2:i<L.length:=by omega
  have hwi:=qk (i:=i) (by omega);obtain⟨hnd,ha⟩:=hao _ (AX hi2);obtain⟨n1,n2,n3⟩:=qG0 hE hnd ha;have h59:=qn4 (c:=L[i].col) hE;refine qw mixm (α:=Nat) [8] (fun n=>n≤decN s L[i]) (fun n=>[(8,vI n)]) (fun n=>[(4096,.arr 2 [schT s] false)]) (fun n=>decN s L[i]-n) 0 (by omega) ?_ fun n hn=>?_
  ·exact .oA [(4096,some 4096)] []
  have hwn:=qk (i:=n) (by omega);simp only[tZ,↓un_u,simprocAttr,Ax,qe hi2,zw];refine⟨by omega,?_⟩;refine C1.im (zf8 s hE L[i] hnd ha n (by omega)) (by rfl) (by rfl) ?_;simp only[tZ,↓un_u,simprocAttr,Bx,Bz,hwn];refine⟨by kernel_rfl,fun h4=>?_,fun h4=>?_⟩
  ·have:n≠decN s L[i]:=fun e=>by rw[e,n2] at h4;cases h4
   refine⟨n+1,by omega,by omega,?_⟩;exact .oA [(4096,some 4096)] []
  ·have:n=decN s L[i]:=by
    refine Nat.le_antisymm hn (Nat.le_of_not_lt fun e=>?_);rw[n3 n e] at h4;cases h4
   subst this;simp only[tZ,↓un_u,simprocAttr,Ax,qe hi2,zw];refine⟨by omega,?_⟩;refine C1.im (Zg ((L.take i).foldl (qV3 s) []) L[i].col (decN s L[i]) (by simp at hlen;omega)) (by rfl) (by rfl) ?_;simp only[tZ,↓un_u,simprocAttr,hwi];refine⟨i+1,by omega,by omega,?_⟩;rw[qM hi2,Gx];show Le _ _ ⟨(5,vPs (Ks ((L.take i).foldl (qV3 s) []) L[i].col (decN s L[i])))::_,_⟩;exact .oA [(4096,some 4096)] []
 ·have hil:i=L.length:=by omega
  subst hil;rw[Bw];exact .oA [] []
end Go.Proofs
namespace Go.Proofs
open Go Go.TL
set_option maxHeartbeats 4000000
theorem qN3 (s:Sch) (col kind:Int):Spc Tryz.prog YV [schT s,vI col,vI kind] [] (vB (isB s col kind)) []:=by
 by_cases h:0≤col∧col<s.cols.length
 ·obtain⟨i,rfl⟩:=AJ h.1;have hi:i<s.cols.length:=by omega
  have e1:decide ((i:Int)≥0)=true:=Cx (by omega);have e2:decide ((i:Int)<s.cols.length)=true:=Cx (by omega);have e3:isB s i kind=(s.cols[i].kind==kind):=by
   rw[isB,Ax,qj,qg hi,Cx h.1,Cx h.2];rfl
  refine qd qx5 mixm (by simp) fun e _ hst=>qh ?_;unfold Wg;simp only[tZ,↓un_u,simprocAttr,e1,e2,Ax,qe hi];rw[e3];refine⟨by omega,?_⟩;exact .oA [] []
 ·have e1:(decide (col≥0)&&decide (col<(s.cols.length:Int)))=false:=by
   rw[FJ,Ay,Ay];omega
  have e3:isB s col kind=false:=by
   unfold isB;rw[show (decide (0≤col)&&decide (col<(s.cols.length:Int)))=false from e1];rfl
  rcases Nat.lt_or_ge col.toNat s.cols.length with hk | hk
  ·refine qd qx5 mixm (by simp) fun e _ hst=>qh ?_;unfold Wg;simp only[tZ,↓un_u,simprocAttr,e1,qe hk];rw[e3];exact .oA [] []
  ·have hj:(s.cols.map colT).getD col.toNat .junk = .junk:=qp8 hk;refine qd qx5 mixm (by simp) fun e _ hst=>qh ?_;unfold Wg;simp only[tZ,↓un_u,simprocAttr,e1,hj,List.drop_succ_cons,List.drop_nil];rw[e3];exact .oA [] []
theorem zO6 (s:Sch) (hs:yX s) (l:List Pk):Spc Tryz.prog ql0 [schT s,vPs l] [] (vI (Wq s l)) []:=by
 refine qd zz6 mixm (by simp) fun e _ hst=>qh ?_;unfold qf2;refine sD ?_;refine⟨fun h=>?_,fun h=>?_⟩
 ·rw[Wq,Aj (by omega)];exact .oA [] []
 rw[Wq,Aq (by omega)];refine qw mixm (α:=Nat) [5,15] (fun i=>i≤l.length∧zI (dimE s l) i=0) (fun i=>[(5,vI i)]) (fun i=>[(4096,.arr 2 [schT s] false)]) (fun i=>l.length-i) 0 ⟨by omega,rfl⟩ ?_ fun i hi=>?_
 ·exact .oA [(4096,some 4096)] []
 refine sD ?_;refine⟨fun h3=>?_,fun h3=>?_⟩
 ·have hi2:i<l.length:=by omega
  have hwi:=qk (i:=i) (by omega);have hpi:pkAt l i=l[i]:=by rw[pkAt,qg hi2]
  have hstep:=Qi hi.2 hi2;have hnext:=jO hi.2;have hA:dimE s l i=if Ql s l[i]≠0 then Ql s l[i] else if isB s l[i].col 2=false then 7 else if ((l.take i).any fun x=>x.col==l[i].col)=true then 10 else 0:=by rw[dimE,hpi]
  simp only[tZ,↓un_u,simprocAttr,Ax,qe hi2];refine⟨by omega,?_⟩;refine C1.im (zO1 s hs l[i]) (by rfl) (by rfl) ?_;simp only[tZ,↓un_u,simprocAttr,Bj,Aw];refine⟨by kernel_rfl,fun h4=>?_,fun h4=>?_⟩
  ·rw[Aj h4] at hA;rw[hstep (by rw[hA];exact h4),hA];exact .oA [] []
  rw[Aq (by rw[h4];simp)] at hA;simp only[tZ,↓un_u,simprocAttr,Ax,qe hi2];refine⟨by omega,?_⟩;refine C1.im (qN3 s l[i].col 2) (by rfl) (by rfl) ?_;simp only[tZ,↓un_u,simprocAttr,Bx,Bz];refine⟨by kernel_rfl,fun h5=>?_,fun h5=>?_⟩
  ·rw[Aj h5] at hA;rw[hstep (by rw[hA];simp),hA];exact .oA [] []
  rw[Aq (by rw[h5];simp)] at hA;refine qw mixm (α:=Nat) [7] (fun k=>k≤i∧(l.take k).any (fun x=>x.col==l[i].col)=false) (fun k=>[(7,vI k)]) (fun k=>[(4096,.arr 2 [schT s] false)]) (fun k=>i-k) 0 ⟨by omega,rfl⟩ ?_ fun k hk=>?_
  ·exact .oA [(4096,some 4096)] []
  refine sD ?_;refine⟨fun h6=>?_,fun h6=>?_⟩
  ·have hk2:k<l.length:=by omega
   have hwk:=qk (i:=k) (by omega);simp only[tZ,↓un_u,simprocAttr,Ax,qe hi2,qe hk2,hwk];refine⟨by omega,by omega,by kernel_rfl,fun h7=>?_,fun h7=>?_⟩
   ·rw[Aj (DJ.2 ⟨l[k],List.mem_take_iff_getElem.2 ⟨k,by omega,rfl⟩,h7⟩)] at hA;rw[hstep (by rw[hA];simp),hA];exact .oA [] []
   ·refine⟨k+1,⟨by omega,kh hk2 hk.2 h7⟩,by omega,?_⟩;exact .oA [(4096,some 4096)] []
  ·have hki:k=i:=by omega
   subst hki;rw[Aq (by rw[hk.2];simp)] at hA;simp only[tZ,↓un_u,simprocAttr,hwi];refine⟨k+1,⟨by omega,by rw[hnext,hA]⟩,by omega,?_⟩;exact .oA [(4096,some 4096)] []
 ·have hil:i=l.length:=by omega
  subst hil;rw[hi.2];exact .oA [] []
theorem zB4 (s:Sch) (m:Int) (l:List Int):Spc Tryz.prog qd1 [schT s,vI m,vIs l] [] (vI (wU s m l)) []:=by
 refine qd zo6 mixm (by simp) fun e _ hst=>qh ?_;unfold YA;refine sD ?_;refine⟨fun h=>?_,fun h=>?_⟩
 ·rw[wU,Aj (by omega)];exact .oA [] []
 rw[wU,Aq (by omega)];refine qw mixm (α:=Nat) [7,15] (fun i=>i≤l.length∧zI (qV2 s m l) i=0) (fun i=>[(7,vI i)]) (fun i=>[(4096,.arr 2 [schT s] false)]) (fun i=>l.length-i) 0 ⟨by omega,rfl⟩ ?_ fun i hi=>?_
 ·exact .oA [(4096,some 4096)] []
 refine sD ?_;refine⟨fun h3=>?_,fun h3=>?_⟩
 ·have hi2:i<l.length:=by omega
  have hwi:=qk (i:=i) (by omega);have hpi:l.getD i 0=l[i]:=qg hi2;have hstep:=Qi hi.2 hi2;have hnext:=jO hi.2;have hA:qV2 s m l i=if isB s l[i] 3=false then 7 else if l[i]=m∨(l.take i).contains l[i]=true then 10 else 0:=by rw[qV2,hpi]
  have hH:=ze9 (l.take i) l[i] (by rw[Cz];omega);simp only[tZ,↓un_u,simprocAttr,Ax,qe hi2];refine⟨by omega,?_⟩;refine C1.im (qN3 s l[i] 3) (by rfl) (by rfl) ?_;simp only[tZ,↓un_u,simprocAttr,Bx,Bz];refine⟨by kernel_rfl,fun h5=>?_,fun h5=>?_⟩
  ·rw[Aj h5] at hA;rw[hstep (by rw[hA];simp),hA];exact .oA [] []
  rw[Aq (by rw[h5];simp)] at hA;simp only[tZ,↓un_u,simprocAttr,Ax,qe hi2,qk1,zb1];refine⟨by omega,fun _=>by omega,fun _=>by omega,?_⟩;refine C2.im (fun _=>hH) (fun _=>rfl) (by rfl) ?_;simp only[tZ,↓un_u,simprocAttr,tD,AY,Ak,hwi];refine⟨by kernel_rfl,fun h6=>?_,fun h6=>?_⟩
  ·rw[Aj h6] at hA;rw[hstep (by rw[hA];simp),hA];exact .oA [] []
  ·rw[Aq (by grind)] at hA;refine⟨i+1,⟨by omega,by rw[hnext,hA]⟩,by omega,?_⟩;exact .oA [(4096,some 4096)] []
 ·have hil:i=l.length:=by omega
  subst hil;rw[hi.2];exact .oA [] []
theorem zO7 (c:Cnd):Spc Tryz.prog qk8 [cnT c] [] (vB (qa6 c cnd0)) []:=by
 have h:=zO5 c cnd0 fun h=>.mk c (by rw[h];decide) (by rw[Dy.1 (show c.kids.length=0 from h)];simp);refine qd zz1 mixm (by simp) fun e _ hst=>qh ?_;unfold qf0;refine sW ?_;refine C1.shut [] h ?_ (by rfl) rfl ?_
 ·all_goals (try exact clA)
 refine sW ?_;exact .oA [] []
theorem zB5 (s:Sch) (hE:schE s=0) (hL:0<s.lists.length) (q:Qst):Spc Tryz.prog qc7 [schT s,qstT q] [] (vI (wV s q)) []:=by
 have hok:=qO hE;refine qd zm6 mixm (by simp) fun e _ hst=>qh ?_;unfold Yq;refine sW ?_;refine C1.im (qN3 s q.meas 3) (by rfl) (by rfl) ?_;simp only[tZ,↓un_u,simprocAttr,AY,Ak];refine⟨fun h=>?_,fun h=>?_⟩
 ·rw[wV,Aj h];refine C1.im (zO6 s hok.sm q.dims) (by rfl) (by rfl) ?_;simp only[tZ,↓un_u,simprocAttr,Bj,Aw];refine⟨fun h2=>?_,fun h2=>?_⟩
  ·rw[Aj h2];exact .oA [] []
  rw[Aq (by rw[h2];simp)];simp only[tZ,↓un_u,simprocAttr,Bj,Aw,tD,Bx,Bz];refine⟨fun h3=>?_,fun h3=>?_⟩
  ·rw[Aj h3];exact .oA [] []
  ·rw[Aq (by grind)];exact .oA [] []
 rw[wV,Aq h];refine⟨fun h2=>?_,fun h2=>?_⟩
 ·rw[Aj h2];simp only[tZ,↓un_u,simprocAttr,Bx,Bz];refine⟨fun h3=>?_,fun h3=>?_⟩
  ·rw[Aj h3];exact .oA [] []
  rw[Aq (by rw[h3];simp)];refine C1.im (zB4 s q.meas q.terms) (by rfl) (by rfl) ?_;refine sW ?_;exact .oA [] []
 rw[Aq h2];simp only[tZ,↓un_u,simprocAttr,Bx,Bz];refine⟨fun h3=>?_,fun h3=>?_⟩
 ·rw[Aj h3];exact .oA [] []
 rw[Aq (by rw[h3];simp)];obtain⟨b1,b2,b3⟩:=zH.1 h3;have hil:q.meas.toNat<s.cols.length:=by omega
 rw[qj,qg hil];simp only[tZ,↓un_u,simprocAttr,qe hil,tD];refine⟨by omega,fun h4=>?_,fun h4=>?_⟩
 ·rw[Aj h4];exact .oA [] []
 rw[Aq h4];refine C1.im (Kt s hok.sm hL q.event) (by rfl) (by rfl) ?_;refine sW ?_;exact .oA [] []
theorem qg6 (s:Sch) (hs:yX s) (hL:0<s.lists.length) (q:Qst):Spc Tryz.prog yx [schT s,qstT q] [] (vI (qstE s q)) []:=by
 refine qd qL0 mixm (by simp) fun e _ hst=>qh ?_;unfold ZG;refine sW ?_;refine C1.im (Zb s hs) (by rfl) (by rfl) ?_;simp only[tZ,↓un_u,simprocAttr,Bj,Aw];refine⟨fun h=>?_,fun h=>?_⟩
 ·rw[qstE,Aj h];exact .oA [] []
 rw[qstE,Aq (by rw[h];simp)];refine C1.im (Qf q.name) (by rfl) (by rfl) ?_;simp only[tZ,↓un_u,simprocAttr,Bx,Bz];refine⟨fun h2=>?_,fun h2=>?_⟩
 ·rw[Aj h2];exact .oA [] []
 rw[Aq (by rw[h2];simp)];refine sD ?_;refine⟨fun h3=>?_,fun h3=>?_⟩
 ·rw[Aj (by omega)];exact .oA [] []
 rw[Aq (by omega)];refine C1.im (Kt s hs hL q.filt) (by rfl) (by rfl) ?_;simp only[tZ,↓un_u,simprocAttr,Bj,Aw];refine⟨fun h4=>?_,fun h4=>?_⟩
 ·rw[Aj h4];exact .oA [] []
 rw[Aq (by rw[h4];simp)];refine C1.im (zB5 s h hL q) (by rfl) (by rfl) ?_;simp only[tZ,↓un_u,simprocAttr,Bj,Aw];refine⟨fun h5=>?_,fun h5=>?_⟩
 ·rw[Aj h5];exact .oA [] []
 rw[Aq (by rw[h5];simp)];refine C2.im (fun _=>zO7 q.event) (fun _=>rfl) (by rfl) ?_;simp only[tZ,↓un_u,simprocAttr,tD,Bj,Aw,Bx,Bz];refine⟨fun h6=>?_,fun h6=>?_⟩
 ·rw[Aj (by grind)];exact .oA [] []
 ·rw[Aq (by grind)];exact .oA [] []
theorem zB6 (s:Sch) (hs:yX s) (hL:0<s.lists.length) (d:Dcl):Spc Tryz.prog qc4 [schT s,dclT d] [] (vI (dclE s d)) []:=by
 refine qd zj4 mixm (by simp) fun e _ hst=>qh ?_;unfold Ya;refine sW ?_;refine C1.im (Zb s hs) (by rfl) (by rfl) ?_;simp only[tZ,↓un_u,simprocAttr,Bj,Aw];refine⟨fun h=>?_,fun h=>?_⟩
 ·rw[dclE,Aj h];exact .oA [] []
 rw[dclE,Aq (by rw[h];simp)];refine C1.im (Qf d.proj) (by rfl) (by rfl) ?_;refine sW ?_;refine C2.im (fun _=>Qf d.src) (fun _=>rfl) (by rfl) ?_;simp only[tZ,↓un_u,simprocAttr,tD,Bx,Bz];refine⟨fun h2=>?_,fun h2=>?_⟩
 ·rw[Aj h2];exact .oA [] []
 rw[Aq (by grind)];refine C1.im (Kt s hs hL d.coh) (by rfl) (by rfl) ?_;simp only[tZ,↓un_u,simprocAttr,Bj,Aw];refine⟨fun h3=>?_,fun h3=>?_⟩
 ·rw[Aj h3];exact .oA [] []
 rw[Aq (by rw[h3];simp)];refine sD ?_;refine⟨fun h4=>?_,fun h4=>?_⟩
 ·rw[Aj (by unfold smpE;grind)];exact .oA [] []
 rw[Aq (by unfold smpE;grind)];refine⟨fun h5=>?_,fun h5=>?_⟩
 ·rw[Aj (by omega)];exact .oA [] []
 rw[Aq (by omega)];refine qw mixm (α:=Nat) [8,74] (fun i=>i≤d.qs.length∧zI (qsE s d.qs) i=0) (fun i=>[(8,vI i)]) (fun i=>[(4096,.arr 2 [schT s] false),(4100,.arr 12 [dclT d] false)]) (fun i=>d.qs.length-i) 0 ⟨by omega,rfl⟩ ?_ fun i hi=>?_
 ·exact .oA [(4096,some 4096),(4100,some 4100)] []
 refine sD ?_;refine⟨fun h6=>?_,fun h6=>?_⟩
 ·have hi2:i<d.qs.length:=by omega
  have hwi:=qk (i:=i) (by omega);have hpi:qAt d.qs i=d.qs[i]:=by rw[qAt,qg hi2]
  have hstep:=Qi hi.2 hi2;have hnext:=jO hi.2;have hA:qsE s d.qs i=if qstE s d.qs[i]≠0 then qstE s d.qs[i] else if ((d.qs.take i).any fun x=>eqB x.name d.qs[i].name)=true then 10 else 0:=by rw[qsE,hpi]
  simp only[tZ,↓un_u,simprocAttr,Ax,qe hi2];refine⟨by omega,?_⟩;refine C1.im (qg6 s hs hL d.qs[i]) (by rfl) (by rfl) ?_;simp only[tZ,↓un_u,simprocAttr,Bj,Aw];refine⟨by kernel_rfl,fun h7=>?_,fun h7=>?_⟩
  ·rw[Aj h7] at hA;rw[hstep (by rw[hA];exact h7),hA];exact .oA [] []
  rw[Aq (by rw[h7];simp)] at hA;refine qw mixm (α:=Nat) [10] (fun k=>k≤i∧(d.qs.take k).any (fun x=>eqB x.name d.qs[i].name)=false) (fun k=>[(10,vI k)]) (fun k=>[(4096,.arr 2 [schT s] false),(4100,.arr 12 [dclT d] false)]) (fun k=>i-k) 0 ⟨by omega,rfl⟩ ?_ fun k hk=>?_
  ·exact .oA [(4096,some 4096),(4100,some 4100)] []
  refine sD ?_;refine⟨fun h8=>?_,fun h8=>?_⟩
  ·have hk2:k<d.qs.length:=by omega
   have hwk:=qk (i:=k) (by omega);simp only[tZ,↓un_u,simprocAttr,Ax,qe hi2,qe hk2,hwk];refine⟨by omega,by omega,by kernel_rfl,fun h9=>?_,fun h9=>?_⟩
   ·rw[Aj (DJ.2 ⟨d.qs[k],List.mem_take_iff_getElem.2 ⟨k,by omega,rfl⟩,h9⟩)] at hA;rw[hstep (by rw[hA];simp),hA];exact .oA [] []
   ·refine⟨k+1,⟨by omega,kh hk2 hk.2 h9⟩,by omega,?_⟩;exact .oA [(4096,some 4096),(4100,some 4100)] []
  ·have hki:k=i:=by omega
   subst hki;rw[Aq (by rw[hk.2];simp)] at hA;simp only[tZ,↓un_u,simprocAttr,hwi];refine⟨k+1,⟨by omega,by rw[hnext,hA]⟩,by omega,?_⟩;exact .oA [(4096,some 4096),(4100,some 4100)] []
 ·have hil:i=d.qs.length:=by omega
  subst hil;rw[hi.2];exact .oA [] []
end Go.Proofs
