/- A part of the proof: trees of Go values, short forms, contracts. -/
import Derived.WalkKit
import Derived.Still
import Derived.MapKept
import GoSem.Builtin.Cap
import Derived.Laws.Externs
import GoSem.Extern.SlicesOverlaps
import Derived.Carry
import Derived.ProofKit
import Derived.OpenShut
import Derived.HandedShaped
import Derived.Lay
import Derived.LaidLaws
import Derived.MakeChecks
import Derived.SevenTiedAt
import Derived.Test.YtnfagfikoblhfaaGreatDoorChecked
import Derived.Test.YtnfagfikoblhfaaGreatDoorK16
set_option linter.unusedSimpArgs false
set_option linter.unusedVariables false
namespace Go.Proofs
open Go Go.TL
set_option maxRecDepth 4000
set_option maxHeartbeats 8000000
theorem qi2:∀ {s:Sch} {l:List Cnd} {i:Nat} (h:i<l.length),yc s (l.take i)=0→nodE s l[i]≠0→yc s l=nodE s l[i]
 | s,x::r,0,h,_,h2=>by
   have h2:nodE s x≠0:=h2;rw[yc,Aj h2];rfl
 | s,x::r,i+1,h,h1,h2=>by
   rw[List.take_succ_cons,yc] at h1;split at h1
   ·rename_i h3;exact absurd h1 h3
   ·rename_i h3;rw[yc,Aq h3];exact qi2 (l:=r) (i:=i) (by simpa using h) h1 h2
theorem qx5:∀ {s:Sch} {l:List Cnd} {k:Cnd},yc s l=0→nodE s k=0→yc s (l++[k])=0
 | s,[],k,_,h=>by simp [yc,h]
 | s,x::r,k,h1,h2=>by
   rw[yc] at h1;split at h1
   ·rename_i h3;exact absurd h1 h3
   ·rename_i h3;rw[BW,yc,Aq h3];exact qx5 h1 h2
theorem SchOk.list0 {s:Sch} (h:SchOk s) {i:Nat} (hi:i<s.cols.length) (hk:(qj s i).kind≠2):(qj s i).list=0:=by
 have:=h.cs i hi;unfold colE at this
 grind
theorem zB3 (s:Sch) (hok:SchOk s) (hL:0<s.lists.length):∀ (c:Cnd),Spc Tryz.prog 180 [schT s,cnT c] [] (vI (nodE s c)) []:=by
 refine Cnd.ind' fun c ih=>?_;have hN0:=zn0 s c;have hn0:=hok.nl;have hn1:=hok.nc;generalize nodE s c=N at hN0 ⊢
 obtain⟨op,col,code,lo,hi,ks⟩:=c;simp only[Cnd.op,Cnd.col,Cnd.code,Cnd.lo,Cnd.hi,Cnd.kids] at ih hN0 ⊢
 have hn:ndE s (.mk op col code lo hi ks)=if op<1∨7<op then 4
 else if ks.length≠arC op∨(op≠2∧op≠3∧op≠4∧col≠0)∨(op≠2∧code≠0)∨(op≠3∧(lo≠0∨hi≠0)) then 11
 else if (op=2∧isB s col 2=false)∨(op=3∧isB s col 3=false)∨(op=4∧(isB s col 3=false∨(qj s col.toNat).opt=false)) then 7
 else if op=2∧(code<0∨code≥(qK s col.toNat).codes.length) then 6
 else if op=3∧(lo < -1000000∨hi>1000000∨lo>hi) then 2 else 0:=rfl
 have hbad:∀ v,v≠0→ndE s (.mk op col code lo hi ks)=v→N=v:=fun v h1 h2=>by rw[hN0,h2,Aj h1]
 have hgood:ndE s (.mk op col code lo hi ks)=0→N=yc s ks:=fun h2=>by rw[hN0,h2,Aq sMp]
 clear hN0;generalize ndE s (.mk op col code lo hi ks)=E at hn hbad hgood;have h0p:0<s.cols.length:=by omega
 have hg0:(s.cols.map colT).getD 0 .junk=colT s.cols[0]:=qd (i:=0) h0p;have hl0:s.cols[0].list.toNat=0:=by
  have h1:=hok.c0;have:=hok.list0 (i:=0) h0p (by rw[h1];decide);rw[qj,qg h0p] at this;rw[this];rfl
 have hgl:(s.lists.map cdlT).getD 0 .junk=cdlT s.lists[0]:=qd hL;have hop:op=1∨op=2∨op=3∨op=4∨op=5∨op=6∨op=7∨op<1∨7<op:=by omega
 rcases hop with e | e | e | e | e | e | e | e
 focus
  have q1:(op==1)=true:=by rw[e];rfl
  have q2:(op==2)=false:=by rw[e];rfl
  have q3:(op==3)=false:=by rw[e];rfl
  have q4:(op==4)=false:=by rw[e];rfl
  have q5:(op==5)=false:=by rw[e];rfl
  have q6:(op==6)=false:=by rw[e];rfl
  have q7:(op==7)=false:=by rw[e];rfl
  simp [arC,-List.length_eq_zero_iff,e] at hn;refine sIr zZ fun e _ hst=>?_;unfold zu;simp only[tZ,↓un_u,simprocAttr,Cnd.op,Cnd.col,Cnd.code,Cnd.lo,Cnd.hi,Cnd.kids,q1,q2,q3,q4,q5,q6,q7];refine⟨kR,fun h=>?_,fun h=>?_⟩
  ·rw[hbad 11 (by decide) (by rw[hn,Aj];grind)];exact .oA [] []
  have hks:ks.length≤2:=by grind
  rw[hgood (by rw[hn,Aq];grind)];have hc0:col.toNat=0:=by grind
  refine C2.im (fun _=>zc s col 2) (fun _=>rfl) rF ?_;simp only[tZ,↓un_u,simprocAttr,Cnd.op,Cnd.col,Cnd.code,Cnd.lo,Cnd.hi,Cnd.kids,q1,q2,q3,q4,q5,q6,q7];refine C2.im (fun _=>zc s col 3) (fun _=>rfl) rF ?_;simp only[tZ,↓un_u,simprocAttr,Cnd.op,Cnd.col,Cnd.code,Cnd.lo,Cnd.hi,Cnd.kids,q1,q2,q3,q4,q5,q6,q7];refine C2.im (fun _=>zc s col 3) (fun _=>rfl) rF ?_;simp only[tZ,↓un_u,simprocAttr,Cnd.op,Cnd.col,Cnd.code,Cnd.lo,Cnd.hi,Cnd.kids,q1,q2,q3,q4,q5,q6,q7,hc0,hg0,hl0,hgl];refine⟨kR,?_⟩
 rotate_left
 focus
  have q1:(op==1)=false:=by rw[e];rfl
  have q2:(op==2)=true:=by rw[e];rfl
  have q3:(op==3)=false:=by rw[e];rfl
  have q4:(op==4)=false:=by rw[e];rfl
  have q5:(op==5)=false:=by rw[e];rfl
  have q6:(op==6)=false:=by rw[e];rfl
  have q7:(op==7)=false:=by rw[e];rfl
  simp [arC,-List.length_eq_zero_iff,e] at hn;refine sIr zZ fun e _ hst=>?_;unfold zu;simp only[tZ,↓un_u,simprocAttr,Cnd.op,Cnd.col,Cnd.code,Cnd.lo,Cnd.hi,Cnd.kids,q1,q2,q3,q4,q5,q6,q7];refine⟨kR,?_⟩;refine⟨kR,?_⟩;refine⟨fun h=>?_,fun h=>?_⟩
  ·rw[hbad 11 (by decide) (by rw[hn,Aj];grind)];exact .oA [] []
  have hks:ks.length≤2:=by grind
  rw[Aq (by grind)] at hn;refine C2.im (fun _=>zc s col 2) (fun _=>rfl) rF ?_;simp only[tZ,↓un_u,simprocAttr,Cnd.op,Cnd.col,Cnd.code,Cnd.lo,Cnd.hi,Cnd.kids,q1,q2,q3,q4,q5,q6,q7];refine C2.im (fun _=>zc s col 3) (fun _=>rfl) rF ?_;simp only[tZ,↓un_u,simprocAttr,Cnd.op,Cnd.col,Cnd.code,Cnd.lo,Cnd.hi,Cnd.kids,q1,q2,q3,q4,q5,q6,q7];refine C2.im (fun _=>zc s col 3) (fun _=>rfl) rF ?_;by_cases h2:isB s col 2=false
  ·rw[hbad 7 (by decide) (by rw[hn,Aj (by grind)])];rcases Nat.lt_or_ge col.toNat s.cols.length with hk | hk
   ·simp only[tZ,↓un_u,simprocAttr,Cnd.op,Cnd.col,Cnd.code,Cnd.lo,Cnd.hi,Cnd.kids,q1,q2,q3,q4,q5,q6,q7,h2,qd hk];exact .oA [] []
   ·simp only[tZ,↓un_u,simprocAttr,Cnd.op,Cnd.col,Cnd.code,Cnd.lo,Cnd.hi,Cnd.kids,q1,q2,q3,q4,q5,q6,q7,h2,ZT hk,List.drop_succ_cons,List.drop_nil];exact .oA [] []
  rw[Ez] at h2;obtain⟨b1,b2,b3⟩:=zl.1 h2;obtain⟨i,hci⟩:∃ i:Nat,col.toNat=i:=⟨_,rfl⟩;rw[hci] at b3
  try rw[hci] at hn
  have hil:i<s.cols.length:=by omega
  have hat:qj s i=s.cols[i]:=by rw[qj,qg hil]
  have hcd:=hok.cdl hil b3;have hcd2:=(za (hok.cs i hil)).2.2.2.1 b3;have hcl:qK s i=s.lists.getD s.cols[i].list.toNat default:=by rw[qK,hat]
  rw[hat] at hcd hcd2;rw[hcl,qg hcd.1] at hcd;have hn:E=if code<0∨code≥s.lists[s.cols[i].list.toNat].codes.length then 6 else 0:=by
   rw[hn,Aq (by rw[h2];simp)];simp [hil,hcd.1]
  simp only[tZ,↓un_u,simprocAttr,Cnd.op,Cnd.col,Cnd.code,Cnd.lo,Cnd.hi,Cnd.kids,q1,q2,q3,q4,q5,q6,q7,h2,hci,qd hil,qd hcd.1,tD];refine⟨fun _=>by omega,fun _=>by omega,kR,fun h3=>?_,fun h3=>?_⟩
  ·rw[hbad 6 (by decide) (by rw[hn,Aj oM])];exact .oA [] []
  rw[hgood (by rw[hn,Aq oM])]
 rotate_left
 focus
  have q1:(op==1)=false:=by rw[e];rfl
  have q2:(op==2)=false:=by rw[e];rfl
  have q3:(op==3)=true:=by rw[e];rfl
  have q4:(op==4)=false:=by rw[e];rfl
  have q5:(op==5)=false:=by rw[e];rfl
  have q6:(op==6)=false:=by rw[e];rfl
  have q7:(op==7)=false:=by rw[e];rfl
  simp [arC,-List.length_eq_zero_iff,e] at hn;refine sIr zZ fun e _ hst=>?_;unfold zu;simp only[tZ,↓un_u,simprocAttr,Cnd.op,Cnd.col,Cnd.code,Cnd.lo,Cnd.hi,Cnd.kids,q1,q2,q3,q4,q5,q6,q7];refine⟨kR,?_⟩;refine⟨kR,?_⟩;refine⟨fun h=>?_,fun h=>?_⟩
  ·rw[hbad 11 (by decide) (by rw[hn,Aj];grind)];exact .oA [] []
  have hks:ks.length≤2:=by grind
  rw[Aq (by grind)] at hn;refine C2.im (fun _=>zc s col 2) (fun _=>rfl) rF ?_;simp only[tZ,↓un_u,simprocAttr,Cnd.op,Cnd.col,Cnd.code,Cnd.lo,Cnd.hi,Cnd.kids,q1,q2,q3,q4,q5,q6,q7];refine C2.im (fun _=>zc s col 3) (fun _=>rfl) rF ?_;simp only[tZ,↓un_u,simprocAttr,Cnd.op,Cnd.col,Cnd.code,Cnd.lo,Cnd.hi,Cnd.kids,q1,q2,q3,q4,q5,q6,q7];refine C2.im (fun _=>zc s col 3) (fun _=>rfl) rF ?_;by_cases h2:isB s col 3=false
  ·rw[hbad 7 (by decide) (by rw[hn,Aj (by grind)])];rcases Nat.lt_or_ge col.toNat s.cols.length with hk | hk
   ·simp only[tZ,↓un_u,simprocAttr,Cnd.op,Cnd.col,Cnd.code,Cnd.lo,Cnd.hi,Cnd.kids,q1,q2,q3,q4,q5,q6,q7,h2,qd hk];exact .oA [] []
   ·simp only[tZ,↓un_u,simprocAttr,Cnd.op,Cnd.col,Cnd.code,Cnd.lo,Cnd.hi,Cnd.kids,q1,q2,q3,q4,q5,q6,q7,h2,ZT hk,List.drop_succ_cons,List.drop_nil];exact .oA [] []
  rw[Ez] at h2;obtain⟨b1,b2,b3⟩:=zl.1 h2;obtain⟨i,hci⟩:∃ i:Nat,col.toNat=i:=⟨_,rfl⟩;rw[hci] at b3
  try rw[hci] at hn
  have hil:i<s.cols.length:=by omega
  have hat:qj s i=s.cols[i]:=by rw[qj,qg hil]
  have hli:s.cols[i].list.toNat=0:=by
   have:=hok.list0 hil (by rw[b3];decide);rw[hat] at this;rw[this];rfl
  rw[Aq (by rw[h2];simp)] at hn;simp only[tZ,↓un_u,simprocAttr,Cnd.op,Cnd.col,Cnd.code,Cnd.lo,Cnd.hi,Cnd.kids,q1,q2,q3,q4,q5,q6,q7,h2,hci,qd hil,hli,hgl,tD];refine⟨kR,fun h3=>?_,fun h3=>?_⟩
  ·rw[hbad 2 (by decide) (by rw[hn,Aj oM])];exact .oA [] []
  rw[hgood (by rw[hn,Aq oM])]
 rotate_left
 focus
  have q1:(op==1)=false:=by rw[e];rfl
  have q2:(op==2)=false:=by rw[e];rfl
  have q3:(op==3)=false:=by rw[e];rfl
  have q4:(op==4)=true:=by rw[e];rfl
  have q5:(op==5)=false:=by rw[e];rfl
  have q6:(op==6)=false:=by rw[e];rfl
  have q7:(op==7)=false:=by rw[e];rfl
  simp [arC,-List.length_eq_zero_iff,e] at hn;refine sIr zZ fun e _ hst=>?_;unfold zu;simp only[tZ,↓un_u,simprocAttr,Cnd.op,Cnd.col,Cnd.code,Cnd.lo,Cnd.hi,Cnd.kids,q1,q2,q3,q4,q5,q6,q7];refine⟨kR,?_⟩;refine⟨fun h=>?_,fun h=>?_⟩
  ·rw[hbad 11 (by decide) (by rw[hn,Aj];grind)];exact .oA [] []
  have hks:ks.length≤2:=by grind
  rw[Aq (by grind)] at hn;refine C2.im (fun _=>zc s col 2) (fun _=>rfl) rF ?_;simp only[tZ,↓un_u,simprocAttr,Cnd.op,Cnd.col,Cnd.code,Cnd.lo,Cnd.hi,Cnd.kids,q1,q2,q3,q4,q5,q6,q7];refine C2.im (fun _=>zc s col 3) (fun _=>rfl) rF ?_;simp only[tZ,↓un_u,simprocAttr,Cnd.op,Cnd.col,Cnd.code,Cnd.lo,Cnd.hi,Cnd.kids,q1,q2,q3,q4,q5,q6,q7];refine C2.im (fun _=>zc s col 3) (fun _=>rfl) rF ?_;by_cases h2:isB s col 3=false
  ·rw[hbad 7 (by decide) (by rw[hn,Aj (by grind)])];rcases Nat.lt_or_ge col.toNat s.cols.length with hk | hk
   ·simp only[tZ,↓un_u,simprocAttr,Cnd.op,Cnd.col,Cnd.code,Cnd.lo,Cnd.hi,Cnd.kids,q1,q2,q3,q4,q5,q6,q7,h2,qd hk];exact .oA [] []
   ·simp only[tZ,↓un_u,simprocAttr,Cnd.op,Cnd.col,Cnd.code,Cnd.lo,Cnd.hi,Cnd.kids,q1,q2,q3,q4,q5,q6,q7,h2,ZT hk,List.drop_succ_cons,List.drop_nil];exact .oA [] []
  rw[Ez] at h2;obtain⟨b1,b2,b3⟩:=zl.1 h2;obtain⟨i,hci⟩:∃ i:Nat,col.toNat=i:=⟨_,rfl⟩;rw[hci] at b3
  try rw[hci] at hn
  have hil:i<s.cols.length:=by omega
  have hat:qj s i=s.cols[i]:=by rw[qj,qg hil]
  have hli:s.cols[i].list.toNat=0:=by
   have:=hok.list0 hil (by rw[b3];decide);rw[hat] at this;rw[this];rfl
  have hn:E=if s.cols[i].opt=false then 7 else 0:=by
   rw[hn];simp [hil,h2]
  simp only[tZ,↓un_u,simprocAttr,Cnd.op,Cnd.col,Cnd.code,Cnd.lo,Cnd.hi,Cnd.kids,q1,q2,q3,q4,q5,q6,q7,h2,hci,qd hil,hli,hgl,Bx,Bz];refine⟨oM,fun h3=>?_,fun h3=>?_⟩
  ·rw[hbad 7 (by decide) (by rw[hn,Aj h3])];exact .oA [] []
  rw[hgood (by rw[hn,Aq (by rw[h3];simp)])];refine⟨kR,?_⟩
 rotate_left
 focus
  have q1:(op==1)=false:=by rw[e];rfl
  have q2:(op==2)=false:=by rw[e];rfl
  have q3:(op==3)=false:=by rw[e];rfl
  have q4:(op==4)=false:=by rw[e];rfl
  have q5:(op==5)=true:=by rw[e];rfl
  have q6:(op==6)=false:=by rw[e];rfl
  have q7:(op==7)=false:=by rw[e];rfl
  simp [arC,-List.length_eq_zero_iff,e] at hn;refine sIr zZ fun e _ hst=>?_;unfold zu;simp only[tZ,↓un_u,simprocAttr,Cnd.op,Cnd.col,Cnd.code,Cnd.lo,Cnd.hi,Cnd.kids,q1,q2,q3,q4,q5,q6,q7];refine⟨kR,fun h=>?_,fun h=>?_⟩
  ·rw[hbad 11 (by decide) (by rw[hn,Aj];grind)];exact .oA [] []
  have hks:ks.length≤2:=by grind
  rw[hgood (by rw[hn,Aq];grind)];have hc0:col.toNat=0:=by grind
  refine C2.im (fun _=>zc s col 2) (fun _=>rfl) rF ?_;simp only[tZ,↓un_u,simprocAttr,Cnd.op,Cnd.col,Cnd.code,Cnd.lo,Cnd.hi,Cnd.kids,q1,q2,q3,q4,q5,q6,q7];refine C2.im (fun _=>zc s col 3) (fun _=>rfl) rF ?_;simp only[tZ,↓un_u,simprocAttr,Cnd.op,Cnd.col,Cnd.code,Cnd.lo,Cnd.hi,Cnd.kids,q1,q2,q3,q4,q5,q6,q7];refine C2.im (fun _=>zc s col 3) (fun _=>rfl) rF ?_;simp only[tZ,↓un_u,simprocAttr,Cnd.op,Cnd.col,Cnd.code,Cnd.lo,Cnd.hi,Cnd.kids,q1,q2,q3,q4,q5,q6,q7,hc0,hg0,hl0,hgl];refine⟨kR,?_⟩
 rotate_left
 focus
  have q1:(op==1)=false:=by rw[e];rfl
  have q2:(op==2)=false:=by rw[e];rfl
  have q3:(op==3)=false:=by rw[e];rfl
  have q4:(op==4)=false:=by rw[e];rfl
  have q5:(op==5)=false:=by rw[e];rfl
  have q6:(op==6)=true:=by rw[e];rfl
  have q7:(op==7)=false:=by rw[e];rfl
  simp [arC,-List.length_eq_zero_iff,e] at hn;refine sIr zZ fun e _ hst=>?_;unfold zu;simp only[tZ,↓un_u,simprocAttr,Cnd.op,Cnd.col,Cnd.code,Cnd.lo,Cnd.hi,Cnd.kids,q1,q2,q3,q4,q5,q6,q7];refine⟨kR,fun h=>?_,fun h=>?_⟩
  ·rw[hbad 11 (by decide) (by rw[hn,Aj];grind)];exact .oA [] []
  have hks:ks.length≤2:=by grind
  rw[hgood (by rw[hn,Aq];grind)];have hc0:col.toNat=0:=by grind
  refine C2.im (fun _=>zc s col 2) (fun _=>rfl) rF ?_;simp only[tZ,↓un_u,simprocAttr,Cnd.op,Cnd.col,Cnd.code,Cnd.lo,Cnd.hi,Cnd.kids,q1,q2,q3,q4,q5,q6,q7];refine C2.im (fun _=>zc s col 3) (fun _=>rfl) rF ?_;simp only[tZ,↓un_u,simprocAttr,Cnd.op,Cnd.col,Cnd.code,Cnd.lo,Cnd.hi,Cnd.kids,q1,q2,q3,q4,q5,q6,q7];refine C2.im (fun _=>zc s col 3) (fun _=>rfl) rF ?_;simp only[tZ,↓un_u,simprocAttr,Cnd.op,Cnd.col,Cnd.code,Cnd.lo,Cnd.hi,Cnd.kids,q1,q2,q3,q4,q5,q6,q7,hc0,hg0,hl0,hgl];refine⟨kR,?_⟩
 rotate_left
 focus
  have q1:(op==1)=false:=by rw[e];rfl
  have q2:(op==2)=false:=by rw[e];rfl
  have q3:(op==3)=false:=by rw[e];rfl
  have q4:(op==4)=false:=by rw[e];rfl
  have q5:(op==5)=false:=by rw[e];rfl
  have q6:(op==6)=false:=by rw[e];rfl
  have q7:(op==7)=true:=by rw[e];rfl
  simp [arC,-List.length_eq_zero_iff,e] at hn;refine sIr zZ fun e _ hst=>?_;unfold zu;simp only[tZ,↓un_u,simprocAttr,Cnd.op,Cnd.col,Cnd.code,Cnd.lo,Cnd.hi,Cnd.kids,q1,q2,q3,q4,q5,q6,q7];refine⟨kR,fun h=>?_,fun h=>?_⟩
  ·rw[hbad 11 (by decide) (by rw[hn,Aj];grind)];exact .oA [] []
  have hks:ks.length≤2:=by grind
  rw[hgood (by rw[hn,Aq];grind)];have hc0:col.toNat=0:=by grind
  refine C2.im (fun _=>zc s col 2) (fun _=>rfl) rF ?_;simp only[tZ,↓un_u,simprocAttr,Cnd.op,Cnd.col,Cnd.code,Cnd.lo,Cnd.hi,Cnd.kids,q1,q2,q3,q4,q5,q6,q7];refine C2.im (fun _=>zc s col 3) (fun _=>rfl) rF ?_;simp only[tZ,↓un_u,simprocAttr,Cnd.op,Cnd.col,Cnd.code,Cnd.lo,Cnd.hi,Cnd.kids,q1,q2,q3,q4,q5,q6,q7];refine C2.im (fun _=>zc s col 3) (fun _=>rfl) rF ?_;simp only[tZ,↓un_u,simprocAttr,Cnd.op,Cnd.col,Cnd.code,Cnd.lo,Cnd.hi,Cnd.kids,q1,q2,q3,q4,q5,q6,q7,hc0,hg0,hl0,hgl];refine⟨kR,?_⟩
 rotate_left
 focus
  have q1:(op==1)=false:=Ak.2 oM;have q2:(op==2)=false:=Ak.2 oM;have q3:(op==3)=false:=Ak.2 oM;have q4:(op==4)=false:=Ak.2 oM;have q5:(op==5)=false:=Ak.2 oM;have q6:(op==6)=false:=Ak.2 oM;have q7:(op==7)=false:=Ak.2 oM;rw[hbad 4 (by decide) (by rw[hn,Aj e])];refine sIr zZ fun e _ hst=>?_;unfold zu;simp only[tZ,↓un_u,simprocAttr,Cnd.op,Cnd.col,Cnd.code,Cnd.lo,Cnd.hi,Cnd.kids,q1,q2,q3,q4,q5,q6,q7];refine⟨kR,?_⟩;exact .oA [] []
 all_goals (
  refine qk mixm (α:=Nat) [7,77,121,147,167] (fun i=>i≤ks.length∧yc s (ks.take i)=0) (fun i=>[(7,vI i)]) (fun i=>[(4096,.arr 2 [schT s] false),(4100,.arr 6 [.agg [vI op,vI col,vI code,vI lo,vI hi,vCs ks]] false)]) (fun i=>ks.length-i) 0 ⟨oM,by rw[List.take_zero,yc]⟩ ?_ fun i hi2=>?_
  ·exact .oA [(4096,some 4096),(4100,some 4100)] []
  obtain⟨i1,i2⟩:=hi2;refine sD ?_;refine⟨fun h5=>?_,fun h5=>?_⟩
  ·have hi2:i<ks.length:=by omega
   have hwi:=qh (i:=i) oM;simp only[tZ,↓un_u,simprocAttr,Ax,qd hi2,zh];refine⟨oM,?_⟩;refine C1.im (ih _ (AX hi2)) rF rF ?_;simp only[tZ,↓un_u,simprocAttr,hwi,Bj,Aw];refine⟨kR,fun h6=>?_,fun h6=>?_⟩
   ·rw[qi2 hi2 i2 h6];exact .oA [] []
   ·refine⟨i+1,⟨oM,by rw[qH hi2];exact qx5 i2 h6⟩,oM,?_⟩;exact .oA [(4096,some 4096),(4100,some 4100)] []
  ·have hil:i=ks.length:=by omega
   subst hil;rw[Bw] at i2;rw[i2];exact .oA [] []
  )
end Go.Proofs
namespace Go.Proofs
open Go Go.TL
set_option maxHeartbeats 4000000
theorem wX (s:Sch) (hs:jI s) (hL:0<s.lists.length) (c:Cnd):Spc Tryz.prog 111 [schT s,cnT c] [] (vI (chkC s c)) []:=by
 refine sIr qW0 fun e _ hst=>?_;unfold Jj;refine sW ?_;refine C1.im (jd s hs) rF rF ?_;simp only[tZ,↓un_u,simprocAttr,Bj,Aw];refine⟨fun h=>?_,fun h=>?_⟩
 ·rw[chkC,Aj h];exact .oA [] []
 have hok:=qV h;refine C1.im (zn5 c 41 oM oM) rF rF ?_;refine sD ?_;refine⟨fun h2=>?_,fun h2=>?_⟩
 ·rw[chkC,Aq (by rw[h];simp),Aj h2];exact .oA [] []
 refine C1.im (zn6 c 41 oM oM oM) rF rF ?_;refine sD ?_;refine⟨fun h3=>?_,fun h3=>?_⟩
 ·rw[chkC,Aq (by rw[h];simp),Aq h2,Aj oM];exact .oA [] []
 rw[chkC,Aq (by rw[h];simp),Aq h2,Aq oM];refine C1.im (zB3 s hok hL c) rF rF ?_;refine sW ?_;exact .oA [] []
theorem qx6 {s:Sch} {c:Cnd} (h:chkC s c=0):schE s=0∧cntC c 41<41∧depC c≤10∧nodE s c=0:=by
 unfold chkC at h;split at h
 ·rename_i h1;exact absurd h h1
 rename_i h1;split at h
 ·cases h
 rename_i h2;split at h
 ·cases h
 rename_i h3;exact⟨AQ h1,oM,oM,h⟩
theorem Yt (s:Sch) (hok:SchOk s) (c:Cnd) (hc:NdOk s c) (v:Int):Spc Tryz.prog 83 [schT s,cnT c,vI v] [] (vI (wU s c v)) []:=by
 have hn0:=hok.nl;have hn1:=hok.nc;have hA:wU s c v=if c.op=2 then tf (Yo (qK s c.col.toNat) v c.code)
 else if c.op=3 then (if v=kH then 0 else tf (decide (c.lo≤v)&&decide (v≤c.hi)))
 else if c.op=4 then tf (v==kH) else -1:=rfl
 rw[hA];by_cases h2:c.op=2
 ·obtain⟨b,b4,b5⟩:=hc.under h2;obtain⟨b1,b2,b3⟩:=zl.1 b;obtain⟨i,hci⟩:=AJ b1;rw[hci] at b2 b5;rw[hci,Ax] at b3;rw[Ax] at b5;have hil:i<s.cols.length:=by omega
  have hat:qj s i=s.cols[i]:=by rw[qj,qg hil]
  have hcd:=hok.cdl hil b3;have hcd2:=(za (hok.cs i hil)).2.2.2.1 b3;have hcl:qK s i=s.lists.getD s.cols[i].list.toNat default:=by rw[qK,hat]
  rw[hat] at hcd hcd2;rw[Aj h2,hci,Ax];rw[hcl,qg hcd.1] at hcd ⊢
  obtain⟨_,d5,d6⟩:=ze hcd.2;have q:(c.op==2)=true:=AY.2 h2;refine sIr QE fun e _ hst=>?_;unfold kg;simp only[tZ,↓un_u,simprocAttr,q,hci,Ax,qd hil,qd hcd.1];refine⟨oM,oM,?_⟩;refine C1.im (zm7 _ v c.code oM) rF rF ?_;refine sW ?_;refine⟨kR,fun h=>?_,fun h=>?_⟩
  ·rw[h];exact .oA [] []
  ·rw[h];exact .oA [] []
 have q:(c.op==2)=false:=Ak.2 h2;rw[Aq h2];by_cases h3:c.op=3
 ·have q3:(c.op==3)=true:=AY.2 h3;rw[Aj h3];refine sIr QE fun e _ hst=>?_;unfold kg;simp only[tZ,↓un_u,simprocAttr,q,q3,AY,Ak];rw[show (-1099511627776:Int)=kH from rfl];refine⟨fun h=>?_,fun h=>?_⟩
  ·rw[Aj h];exact .oA [] []
  ·rw[Aq h];refine⟨fun h=>?_,fun h=>?_⟩
   ·rw[h];exact .oA [] []
   ·rw[h];exact .oA [] []
 have q3:(c.op==3)=false:=Ak.2 h3;rw[Aq h3];by_cases h4:c.op=4
 ·have q4:(c.op==4)=true:=AY.2 h4;rw[Aj h4];refine sIr QE fun e _ hst=>?_;unfold kg;simp only[tZ,↓un_u,simprocAttr,q,q3,q4];rw[show (-1099511627776:Int)=kH from rfl];refine⟨fun h=>?_,fun h=>?_⟩
  ·rw[h];exact .oA [] []
  ·rw[h];exact .oA [] []
 have q4:(c.op==4)=false:=Ak.2 h4;rw[Aq h4];refine sIr QE fun e _ hst=>?_;unfold kg;simp only[tZ,↓un_u,simprocAttr,q,q3,q4];exact .oA [] []
theorem zB4 (op:Int) (ks:List Int) (h7:op=7→1≤ks.length) (h5:op=5∨op=6→2≤ks.length) (hv:∀ k∈ks,-1≤k∧k≤1):Spc Tryz.prog 181 [vI op,vIs ks] [] (vI (qi0 op ks)) []:=by
 refine sIr zl8 fun e _ hst=>?_;unfold KQ;simp only[tZ,↓un_u,simprocAttr,AY,Ak];refine⟨fun h=>?_,fun h=>⟨fun h2=>?_,fun h2=>⟨fun h3=>?_,fun h3=>?_⟩⟩⟩
 ·have h0:0<ks.length:=by have:=h7 h;omega
  have hk:=hv _ (AX h0);have hw:IntKind.i64.wrap ((0:Int)-ks[0]) =-ks[0]:=by rw[AK _ oM];omega
  rw[qi0,Aj h,qg h0];simp only[tZ,↓un_u,simprocAttr,qd h0];rw[hw];refine⟨oM,?_⟩;exact .oA [] []
 ·have h0:0<ks.length:=by have:=h5 (.inl h2);omega
  have h1:1<ks.length:=by have:=h5 (.inl h2);omega
  rw[qi0,Aq h,Aj h2,qg h0,qg h1];have hm:minI ks[0] ks[1]=min ks[0] ks[1]:=by unfold minI;omega
  simp only[tZ,↓un_u,simprocAttr,qd h0,qd h1,hm];refine⟨oM,oM,kR,?_⟩;exact .oA [] []
 ·have h0:0<ks.length:=by have:=h5 (.inr h3);omega
  have h1:1<ks.length:=by have:=h5 (.inr h3);omega
  rw[qi0,Aq h,Aq h2,Aj h3,qg h0,qg h1];have hm:maxI ks[0] ks[1]=max ks[0] ks[1]:=by unfold maxI;omega
  simp only[tZ,↓un_u,simprocAttr,qd h0,qd h1,hm];refine⟨oM,oM,kR,?_⟩;exact .oA [] []
 ·rw[qi0,Aq h,Aq h2,Aq h3];exact .oA [] []
theorem jB0 (s:Sch) (c:Cnd) (v:Int) : -1≤wU s c v∧wU s c v≤1:=by
 unfold wU tf
 grind
theorem jB1 {op:Int} {ks:List Int} (h:∀ k∈ks,-1≤k∧k≤1) : -1≤qi0 op ks∧qi0 op ks≤1:=by
 have key:∀ i,-1≤ks.getD i 0∧ks.getD i 0≤1:=fun i=>by
  rcases Nat.lt_or_ge i ks.length with hi | hi
  ·rw[qg hi];exact h _ (AX hi)
  ·rw[CY,List.getElem?_eq_none hi];simp
 have h0:=key 0;have h1:=key 1;unfold qi0
 grind
theorem zV5 (s:Sch) (row:List Int):∀ c,-1≤evC s row c∧evC s row c≤1:=by
 refine Cnd.ind' fun c ih=>?_;rw[jq9];split
 ·exact jB0 s c _
 ·refine jB1 fun k hk=>?_;obtain⟨x,hx,rfl⟩:=Cj.1 hk;exact ih x hx
theorem zB5 (s:Sch) (hok:SchOk s) (row:List Int) (hr:row.length=s.cols.length):∀ (c:Cnd),nodE s c=0→Spc Tryz.prog 113 [schT s,cnT c,vIs row] [] (vI (evC s row c)) []:=by
 refine Cnd.ind' fun c ih hE=>?_;obtain⟨hE1,hE2⟩:=zJ7 hE;have hnd:=zV0 hE1;have hks:c.kids.length≤2:=by have:=hnd.nk;unfold arC at this;grind
 rw[jq9];have hi:isAt c=((c.op==2)||(c.op==3)||(c.op==4)):=rfl;refine sIr zk9 fun e _ hst=>?_;unfold KI;refine sW ?_;rw[← hi];refine⟨fun h=>?_,fun h=>?_⟩
 ·rw[Aj h];have hb:∃ k,isB s c.col k=true:=by
   rw[hi] at h;simp only[tD,AY] at h;rcases h with (h | h) | h
   ·exact⟨2,(hnd.under h).1⟩
   ·exact⟨3,(hnd.between h).1⟩
   ·exact⟨3,(hnd.miss h).1⟩
  obtain⟨kk,hb⟩:=hb;obtain⟨b1,b2,_⟩:=zl.1 hb;have hil:c.col.toNat<row.length:=by omega
  rw[qg hil];simp only[tZ,↓un_u,simprocAttr,qd hil];refine⟨oM,?_⟩;refine C1.im (Yt s hok c hnd _) rF rF ?_;refine sW ?_;refine⟨kR,?_⟩;exact .oA [] []
 ·rw[Aq (by rw[h];simp)];refine qk mixm (α:=Nat) [7,8,21] (fun i=>i≤c.kids.length) (fun i=>[(7,.asl 1 i),(8,vI i)]) (fun i=>[(4096,.arr 2 [schT s] false),(4100,.arr 6 [cnT c] false),(1,.arr 1 (((c.kids.take i).map (evC s row)).map vI) false)]) (fun i=>c.kids.length-i) 0 oM ?_ fun i hi2=>?_
  ·exact .oA [(4096,some 4096),(4100,some 4100),(1,none)] []
  refine sD ?_;refine⟨fun h5=>?_,fun h5=>?_⟩
  ·have hi2:i<c.kids.length:=by omega
   have hwi:=qh (i:=i) oM;simp only[tZ,↓un_u,simprocAttr,Ax,qd hi2,zh];refine⟨oM,?_⟩;refine C1.im (ih _ (AX hi2) (hE2 _ (AX hi2))) rF rF ?_;simp only[tZ,↓un_u,simprocAttr,hwi];have hlt:(c.kids.take i).length=i:=by simp;omega
   refine⟨oM,kR,i+1,oM,oM,?_⟩;rw[qH hi2,By,By];exact .oA [(4096,some 4096),(4100,some 4100),(1,some 1)] []
  ·have hil:i=c.kids.length:=by omega
   subst hil;rw[Bw];have hj:=zB4 c.op (c.kids.map (evC s row)) (fun e=>by rw[BY,hnd.nk,e];decide) (fun e=>by rw[BY,hnd.nk];rcases e with e | e <;> rw[e] <;> decide) (fun k hk=>by
    obtain⟨x,_,rfl⟩:=Cj.1 hk;exact zV5 s row x)
   refine C1.shut [1] hj ?_ rF rfl ?_
   ·simp only[tL,simprocAttr];exact jJ5 _
   refine sW ?_;exact .oA [] []
theorem zB6 (s:Sch) (hs:jI s) (hL:0<s.lists.length) (c:Cnd) (row:List Int) (hr:row.length<4611686018427387904):Spc Tryz.prog 50 [schT s,cnT c,vIs row] [] (vI (zn1 s c row)) []:=by
 have hR:=qQ0 s hs row hr;refine sIr zj6 fun e _ hst=>?_;unfold Kz;refine sW ?_;refine C1.im (wX s hs hL c) rF rF ?_;refine sW ?_;refine C2.im (fun _=>hR) (fun _=>rfl) rF ?_;simp only[tZ,↓un_u,simprocAttr,tD,Bj,Aw];refine⟨fun h=>?_,fun h=>?_⟩
 ·rw[zn1,Aj h];exact .oA [] []
 obtain⟨k1,k2,k3,k4⟩:=qx6 h.1;rw[zn1,Aq oM];refine C1.im (zB5 s (qV k1) row (qh9 h.2).2.1 c k4) rF rF ?_;refine sW ?_;exact .oA [] []
theorem qQ4:∀ c m,1≤m→cntC c m<m→((atsC c).length:Int)≤cntC c m:=by
 refine Cnd.ind' fun c ih m hm h=>?_;have hc:=qB2 c m hm;rw[qw7];split
 ·simp;omega
 ·rw[JL] at h ⊢
  have key:∀ l:List Cnd,(∀ k∈l,k∈c.kids)→∀ n,1≤n→n≤m→jW l m n<m→n+(ZM l).length≤jW l m n:=by
   intro l
   induction l with
   | nil=>intro _ n h1 h2 _;rw[jW,ZM];simp
   | cons k r ihl=>
     intro hk n h1 h2 h3;rw[jW] at h3 ⊢
     rw[ZM,AW];split at h3
     ·rename_i h4;rw[Aj h4];have c1:=qB2 k (m-n) oM;have c2:=zn3 r m (n+cntC k (m-n)) oM;have c3:=ih k (hk k sMp) (m-n) oM oM;have c4:=ihl (fun x hx=>hk x (CQ _ hx)) (n+cntC k (m-n)) oM oM h3;omega
     ·omega
  have:=key c.kids (fun k hk=>hk) 1 oM hm h;omega
theorem wY:∀ (l:List Cnd) (i:Nat),(ZM (l.take i)).length≤(ZM l).length
 | [],i=>by simp
 | x::r,0=>by simp [ZM]
 | x::r,i+1=>by rw[List.take_succ_cons,ZM,ZM,AW,AW];have:=wY r i;omega
theorem zB7 (l:List Cnd):ImXs 6 (l.map cndT):=qA jA9 l
theorem zn7 {st:Sto} {ρ:Ren} {B:List Nat} (l:List Cnd):ltXs st ρ B 6 (l.map cndT) (l.map cndT):=kG (zB7 l)
theorem zn8:∀ (c:Cnd) (m:Int),1≤m→m≤1000→cntC c m<m→Spc Tryz.prog 148 [cnT c] [] (vCs (atsC c)) []:=by
 refine Cnd.ind' fun c ih m hm hm2 hc=>?_;have hal:=qQ4 c m hm hc;rw[JL] at hc hal;obtain⟨hk1,hk2⟩:=qp9 oM hc;have hi:isAt c=((c.op==2)||(c.op==3)||(c.op==4)):=rfl;refine sIr qY0 fun e _ hst=>?_;unfold Jt;refine sW ?_;rw[← hi];refine⟨fun h=>?_,fun h=>?_⟩
 ·rw[qw7,Aj h];show yh [] _ _ (.sl 6 [cndT c]) [];rw[zh];exact .oA [] [12292]
 ·rw[qw7,Aq (by rw[h];simp)] at hal ⊢
  refine qk mixm (α:=Nat) [3,4,17] (fun i=>i≤c.kids.length) (fun i=>[(3,.asl 1 (ZM (c.kids.take i)).length),(4,vI i)]) (fun i=>[(4096,.arr 6 [cnT c] false),(1,.arr 6 ((ZM (c.kids.take i)).map cndT) false)]) (fun i=>c.kids.length-i) 0 oM ?_ fun i hi2=>?_
  ·exact .oA [(4096,some 4096),(1,none)] []
  have htl:=wY c.kids i;refine sD ?_;refine⟨fun h5=>?_,fun h5=>?_⟩
  ·have hi2:i<c.kids.length:=by omega
   have hwi:=qh (i:=i) oM;obtain⟨m',a1,a2,a3⟩:=hk2 _ (AX hi2);have htl2:=wY c.kids (i+1);rw[qH hi2,Kf,AW] at htl2;simp only[tZ,↓un_u,simprocAttr,Ax,qd hi2,zh];refine⟨oM,?_⟩;refine C1.im (ih _ (AX hi2) m' a1 oM a3) rF rF ?_;simp only[tZ,↓un_u,simprocAttr,hwi];refine⟨oM,i+1,oM,oM,?_⟩;rw[qH hi2,Kf,By];refine .of [(4096,some 4096),(1,some 1)] [] rfl (by first | rfl | (rw[hst];rfl)) ?_ ?_
   all_goals (try simp only[tL,simprocAttr,By,List.map_cons,List.map_nil,BW,Cy,Dj])
   all_goals (try (repeat' (first | exact qZ | (apply zk;intro _;exact⟨rfl,rfl⟩) | (apply qA;intro _;exact⟨rfl,rfl⟩) | with_reducible apply qW | with_reducible refine qQ ⟨rfl,rfl⟩ ?_ | exact qY | with_reducible apply qR | with_reducible refine qX ⟨rfl,rfl,?_⟩ ?_ | with_reducible apply Az | exact qS rfl | exact qS (by assumption) | (refine⟨⟨?_,rfl,?_,rfl,?_⟩,trivial⟩ <;> first | (simp;done) | (apply qA;intro _;exact⟨rfl,rfl⟩)) | trivial | rfl | (rw[qh oM]) | omega)))
   all_goals first | exact zn7 _ | exact zB7 _
  ·have hil:i=c.kids.length:=by omega
   subst hil;rw[Bw];refine .of [] [1] rfl (by first | rfl | (rw[hst];rfl)) ?_ ?_
   all_goals (try simp only[tL,simprocAttr,By,List.map_cons,List.map_nil,BW,Cy,Dj])
   all_goals (try (repeat' (first | exact qZ | (apply zk;intro _;exact⟨rfl,rfl⟩) | (apply qA;intro _;exact⟨rfl,rfl⟩) | with_reducible apply qW | with_reducible refine qQ ⟨rfl,rfl⟩ ?_ | exact qY | with_reducible apply qR | with_reducible refine qX ⟨rfl,rfl,?_⟩ ?_ | with_reducible apply Az | exact qS rfl | exact qS (by assumption) | (refine⟨⟨?_,rfl,?_,rfl,?_⟩,trivial⟩ <;> first | (simp;done) | (apply qA;intro _;exact⟨rfl,rfl⟩)) | trivial | rfl | (rw[qh oM]) | omega)))
   all_goals first | exact zn7 _ | exact zB7 _
end Go.Proofs
namespace Go.Proofs
open Go Go.TL
set_option maxHeartbeats 4000000
theorem qQ5 (col lev:Int):∀ (l:List Pk) (x:List Pk×Bool),(l.foldl (Wz col lev) x).1.length+(if (l.foldl (Wz col lev) x).2=true then 0 else 1)≤x.1.length+(if x.2=true then 0 else 1)+l.length
 | [],x=>BZ _
 | p::r,x=>by
   have h:=qQ5 col lev r (Wz col lev x p);have h2:(Wz col lev x p).1.length+(if (Wz col lev x p).2=true then 0 else 1)≤x.1.length+(if x.2=true then 0 else 1)+1:=by
    unfold Wz;obtain⟨a,b⟩:=x;dsimp only;split <;> split <;> cases b <;> simp_all <;> omega
   rw[Dw,CJ];omega
theorem qq0 (l:List Pk) (col lev:Int):(QK l col lev).length≤l.length+1:=by
 have h:=qQ5 col lev l ([],decide (lev≤0));unfold QK;dsimp only at h ⊢
 split
 ·simp_all
  split at h <;> omega
 ·rename_i k;rw[Aq k] at h;rw[AW];simp at h ⊢
  split at h <;> omega
theorem wZ (l:List Pk) (col lev:Int) (hl:l.length<1000000000):Spc Tryz.prog 63 [vPs l,vI col,vI lev] [] (vPs (QK l col lev)) []:=by
 have hP:QK l col lev=if (l.foldl (Wz col lev) ([],decide (lev≤0))).2 then (l.foldl (Wz col lev) ([],decide (lev≤0))).1 else (l.foldl (Wz col lev) ([],decide (lev≤0))).1++[⟨col,lev⟩]:=rfl
 have hS:∀ i,i≤l.length→((l.take i).foldl (Wz col lev) ([],decide (lev≤0))).1.length≤l.length+1:=fun i hi=>by
  have h:=qQ5 col lev (l.take i) ([],decide (lev≤0));simp only[Cw,Cz] at h;split at h <;> split at h <;> omega
 refine sIr qU6 fun e _ hst=>?_;unfold Jc;refine sW ?_;refine qk mixm (α:=Nat×List Pk×Bool) [7,8,9] (fun x=>x.1≤l.length∧x.2=(l.take x.1).foldl (Wz col lev) ([],decide (lev≤0))) (fun x=>[(7,.asl 1 x.2.1.length),(8,vB x.2.2),(9,vI x.1)]) (fun x=>[(1,.arr 2 (x.2.1.map pkT) false)]) (fun x=>l.length-x.1) (0,[],decide (lev≤0)) ⟨sMp,sMp⟩ ?_ fun x hx=>?_
 ·exact .oA [(1,none)] []
 obtain⟨i,a,b⟩:=x;obtain⟨x1,x2⟩:=hx;dsimp only at x1 x2;have hSi:=hS i x1;rw[← x2] at hSi;dsimp only at hSi;refine sD ?_;refine⟨fun h=>?_,fun h=>?_⟩
 ·have hi2:i<l.length:=by omega
  have hwi:=qh (i:=i) oM;have hs:(l.take (i+1)).foldl (Wz col lev) ([],decide (lev≤0))=Wz col lev (a,b) l[i]:=by rw[qH hi2,Gx,← x2];rfl
  simp only[tZ,↓un_u,simprocAttr,Ax,qd hi2];generalize l[i]=p at hs ⊢
  have hmx:maxI p.lev lev=max p.lev lev:=by unfold maxI;omega
  have hr:Wz col lev (a,b) p=(if p.col=col then ((if p.col>col∧b=false then (a++[⟨col,lev⟩],true) else (a,b)).1++[⟨p.col,max p.lev lev⟩],true) else ((if p.col>col∧b=false then (a++[⟨col,lev⟩],true) else (a,b)).1++[p],(if p.col>col∧b=false then (a++[(⟨col,lev⟩:Pk)],true) else (a,b)).2)):=rfl;rw[hr] at hs;simp only[tZ,↓un_u,simprocAttr,tD,AY,Ak,Bx,Bz,hwi,hmx];refine⟨oM,fun h2=>⟨oM,fun h3=>by omega,fun h3=>?_⟩,fun h2=>⟨fun h3=>?_,fun h3=>?_⟩⟩
  ·rw[Aq h3,Aj h2] at hs;refine⟨oM,(i+1,a++[⟨col,lev⟩]++[p],true),⟨by dsimp only;omega,hs.symm⟩,by dsimp only;omega,?_⟩;exact .oA [(1,some 1)] []
  ·rw[Aj h3,Aq (by grind)] at hs;refine⟨oM,(i+1,a++[⟨p.col,max p.lev lev⟩],true),⟨by dsimp only;omega,hs.symm⟩,by dsimp only;omega,?_⟩;exact .oA [(1,some 1)] []
  ·rw[Aq h3,Aq (by grind)] at hs;refine⟨oM,(i+1,a++[p],b),⟨by dsimp only;omega,hs.symm⟩,by dsimp only;omega,?_⟩;exact .oA [(1,some 1)] []
 ·have hil:i=l.length:=by omega
  subst hil;rw[Bw] at x2;rw[← x2] at hP;dsimp only at hP;simp only[tZ,↓un_u,simprocAttr,Bx,Bz];refine⟨fun h2=>?_,fun h2=>?_⟩
  ·rw[hP,h2,Aq sMp];refine⟨oM,?_⟩;show yh [] _ _ (.sl 2 ((a++[(⟨col,lev⟩:Pk)]).map pkT)) [];rw[By];exact .oA [] [1]
  ·rw[hP,Aj h2];exact .oA [] [1]
theorem zb1 (a b:List Pk) (ha:a.length<4611686018427387904) (hb:b.length<4611686018427387904):Spc Tryz.prog 68 [vPs a,vPs b] [] (vB (covB a b)) []:=by
 refine sIr qM8 fun e _ hst=>?_;unfold Za;refine sW ?_;refine qk mixm (α:=Nat) [5] (fun i=>i≤a.length∧(covB (a.take i) b=true)) (fun i=>[(5,vI i)]) (fun i=>[]) (fun i=>a.length-i) 0 ⟨oM,?_⟩ ?_ fun i hi=>?_
 ·rfl
 ·exact .oA [] []
 simp only[tZ,↓un_u,simprocAttr,AZ,Ay];refine⟨fun h=>?_,fun h=>?_⟩
 ·have hi2:i<a.length:=by omega
  have hwi:=qh (i:=i) oM;refine qk mixm (α:=Nat) [6,7] (fun k=>k≤b.length) (fun k=>[(6,vB ((b.take k).any fun y=>(y.col==a[i].col)&&decide (y.lev≥a[i].lev))),(7,vI k)]) (fun k=>[]) (fun k=>b.length-k) 0 oM ?_ fun k hk=>?_
  ·exact .oA [] []
  refine sD ?_;refine⟨fun h4=>?_,fun h4=>?_⟩
  ·have hk2:k<b.length:=by omega
   have hwk:=qh (i:=k) oM;simp only[tZ,↓un_u,simprocAttr,Ax,qd hi2,qd hk2,hwk];refine⟨fun _=>by omega,fun _=>by omega,fun _=>by omega,fun _=>by omega,kR,k+1,oM,oM,?_⟩;rw[qH hk2,FW,List.any_cons,List.any_nil,Bool.or_false];exact .oA [] []
  ·have hkl:k=b.length:=by omega
   subst hkl;rw[Bw];have hcs:covB (a.take (i+1)) b=(covB (a.take i) b&&b.any fun y=>(y.col==a[i].col)&&decide (y.lev≥a[i].lev)):=by
    unfold covB;rw[qH hi2,FK];simp
   simp only[tZ,↓un_u,simprocAttr,Bx,Bz,hwi];refine⟨fun h5=>?_,fun h5=>?_⟩
   ·have:covB a b=false:=List.all_eq_false.2 ⟨_,AX hi2,by rw[h5];simp⟩;rw[this];exact .oA [] []
   ·refine⟨i+1,⟨oM,by rw[hcs,hi.2,h5];rfl⟩,oM,?_⟩;exact .oA [] []
 ·have hi2:i=a.length:=by omega
  subst hi2;have h3:=hi.2;rw[Bw] at h3;rw[h3];exact .oA [] []
theorem zB8:∀ {a b:List Cnd},a.length≠b.length→wq a b=false
 | [],[],h=>by simp at h
 | x::r,y::t,h=>by rw[wq,zB8 (a:=r) (b:=t) (by simpa using h),Bool.and_false]
 | [],y::t,_=>rfl
 | x::r,[],_=>rfl
theorem qQ6:∀ {a b:List Cnd} {i:Nat} (ha:i<a.length) (hb:i<b.length),wq (a.take (i+1)) (b.take (i+1))=(wq (a.take i) (b.take i)&&Kg a[i] b[i])
 | x::r,y::t,0,_,_=>by simp [wq]
 | x::r,y::t,i+1,ha,hb=>by
   rw[List.take_succ_cons,List.take_succ_cons,wq,qQ6 (a:=r) (b:=t) (by simpa using ha) (by simpa using hb),List.take_succ_cons,List.take_succ_cons,wq];simp [Bool.and_assoc]
theorem zf6:∀ {a b:List Cnd} {i:Nat} (ha:i<a.length) (hb:i<b.length),Kg a[i] b[i]=false→wq a b=false
 | x::r,y::t,0,_,_,h=>by
   have h:Kg x y=false:=h;rw[wq,h,Bool.false_and]
 | x::r,y::t,i+1,ha,hb,h=>by rw[wq,zf6 (a:=r) (b:=t) (i:=i) (by simpa using ha) (by simpa using hb) h,Bool.and_false]
inductive SmC:Cnd→Prop
 | mk (c:Cnd) (h1:c.kids.length<4611686018427387904) (h2:∀ k∈c.kids,SmC k):SmC c
theorem zB9:∀ (a b:Cnd),(a.kids.length=b.kids.length→SmC a)→Spc Tryz.prog 206 [cnT a,cnT b] [] (vB (Kg a b)) []:=by
 refine Cnd.ind' fun a ih b hs=>?_;rw[zV3];refine sIr zm4 fun e _ hst=>?_;unfold KT;simp only[tZ,↓un_u,simprocAttr,tD,Bj,Aw];refine⟨fun h=>?_,fun h=>?_⟩
 ·have:((a.op==b.op)&&(a.col==b.col)&&(a.code==b.code)&&(a.lo==b.lo)&&(a.hi==b.hi)&&wq a.kids b.kids)=false:=by
   rcases h with ((((h | h) | h) | h) | h) | h
   ·rw[Ak.2 h];simp
   ·rw[Ak.2 h];simp
   ·rw[Ak.2 h];simp
   ·rw[Ak.2 h];simp
   ·rw[Ak.2 h];simp
   ·rw[zB8 oM];simp
  rw[this];exact .oA [] []
 have e:((a.op==b.op)&&(a.col==b.col)&&(a.code==b.code)&&(a.lo==b.lo)&&(a.hi==b.hi)&&wq a.kids b.kids)=wq a.kids b.kids:=by
  rw[AY.2 h.1.1.1.1.1,AY.2 h.1.1.1.1.2,AY.2 h.1.1.1.2,AY.2 h.1.1.2,AY.2 h.1.2];simp
 have hl:a.kids.length=b.kids.length:=by omega
 obtain⟨_,s1,s2⟩:=hs hl;rw[e];refine qk mixm (α:=Nat) [5,47] (fun i=>i≤a.kids.length∧wq (a.kids.take i) (b.kids.take i)=true) (fun i=>[(5,vI i)]) (fun i=>[(4096,.arr 6 [cnT a] false),(4100,.arr 6 [cnT b] false)]) (fun i=>a.kids.length-i) 0 ⟨oM,by simp [wq]⟩ ?_ fun i hi=>?_
 ·exact .oA [(4096,some 4096),(4100,some 4100)] []
 refine sD ?_;refine⟨fun h5=>?_,fun h5=>?_⟩
 ·have hi2:i<a.kids.length:=by omega
  have hib:i<b.kids.length:=by omega
  have hwi:=qh (i:=i) oM;simp only[tZ,↓un_u,simprocAttr,Ax,qd hi2,qd hib,zh];refine⟨oM,oM,?_⟩;refine C1.im (ih _ (AX hi2) b.kids[i] fun _=>s2 _ (AX hi2)) rF rF ?_;simp only[tZ,↓un_u,simprocAttr,Bx,Bz,hwi];refine⟨kR,fun h6=>?_,fun h6=>?_⟩
  ·rw[zf6 hi2 hib h6];exact .oA [] []
  ·refine⟨i+1,⟨oM,by rw[qQ6 hi2 hib,hi.2,h6];rfl⟩,oM,?_⟩;exact .oA [(4096,some 4096),(4100,some 4100)] []
 ·have hil:i=a.kids.length:=by omega
  have h2:=hi.2;rw[hil,Bw,hl,Bw] at h2;rw[h2];exact .oA [] []
end Go.Proofs
namespace Go.Proofs
open Go Go.TL
set_option maxHeartbeats 4000000
theorem qQ7 (s:Sch) (hE:schE s=0) (c:Cnd) (hnd:NdOk s c) (ha:isAt c=true) (lev:Nat) (hl:(lev:Int)≤finI s c.col):Spc Tryz.prog 188 [schT s,cnT c,vI lev] [] (vB (decB s c lev)) []:=by
 have hok:=qV hE;have hn0:=hok.nl;have hn1:=hok.nc;obtain⟨_,c1,c2,hfin⟩:=wW (s:=s) (c:=c.col) oM;obtain⟨i,hci⟩:=AJ (show 0≤c.col by omega);have hcn:c.col.toNat=i:=by omega
 have hil:i<s.cols.length:=by omega
 have hat:qj s i=s.cols[i]:=by rw[qj,qg hil]
 have hwd:=fun e l=>hok.wid hil oM e (lev:=l);have hlv:=JM s hok i hil;have hll:=Ki hok hil;rw[hcn,hat] at hfin;rw[hat] at hwd hlv hll;have hi:isAt c=((c.op==2)||(c.op==3)||(c.op==4)):=rfl;have hD:decB s c lev=if c.op=2 then qi1 (qT s i).length (decP s c lev)
 else if c.op=4 then decide (0<lev)
 else if lev=0 then !s.cols[i].opt&&!(decide (s.cols[i].low<c.lo)&&decide (c.lo≤s.cols[i].high))&&!(decide (s.cols[i].low≤c.hi)&&decide (c.hi<s.cols[i].high))
  else (!(decide (s.cols[i].low<c.lo)&&decide (c.lo≤s.cols[i].high))||(c.lo.tmod (qE s.cols[i] lev)==0))&&(!(decide (s.cols[i].low≤c.hi)&&decide (c.hi<s.cols[i].high))||((c.hi+1).tmod (qE s.cols[i] lev)==0)):=by
  rw[decB,hcn,hat]
 have hk2:c.op=2→s.cols[i].kind=2:=fun h=>by
  have:=(zl.1 (hnd.under h).1).2.2;rw[hcn,hat] at this;exact this
 have hk3:c.op=3→s.cols[i].kind=3:=fun h=>by
  have:=(zl.1 (hnd.between h).1).2.2;rw[hcn,hat] at this;exact this
 have hPd:∀ L,qT s i=L→∀ j k,decP s c lev j k=!((qU s c.col lev (L.getD j 0)==qU s c.col lev (L.getD k 0))&&!(wU s c (L.getD j 0)==wU s c (L.getD k 0))):=fun L hL j k=>by rw[decP,hcn,hL]
 rw[hD];have hci2:vI c.col=vI i:=by rw[hci]
 refine sIr qE3 fun e _ hst=>?_;unfold Qm;simp only[tZ,↓un_u,simprocAttr,hcn,qd hil];generalize s.cols[i]=x at hwd hlv hfin hll hk2 hk3 ⊢
 simp only[tZ,↓un_u,simprocAttr,AY,Ak];refine⟨oM,fun h2=>?_,fun h2=>?_⟩
 ·rw[Aj h2];rw[← hci2] at hlv;refine C1.im (hlv (hk2 h2)) rF rF ?_;have hPd:=hPd _ rfl;generalize qT s i=L at hll hPd ⊢
  have hll:=hll (hk2 h2);refine sW ?_;refine qk mixm (α:=Nat) [9] (fun j=>j≤L.length∧qi1 j (decP s c lev)=true) (fun j=>[(9,vI j)]) (fun j=>[(4096,.arr 2 [schT s] false),(4100,.arr 6 [cnT c] false),(8216,.arr 7 [colT x] false)]) (fun j=>L.length-j) 0 ⟨oM,rfl⟩ ?_ fun j hj=>?_
  ·exact .oA [(4096,some 4096),(4100,some 4100),(8216,some 8216)] []
  obtain⟨j1,j2⟩:=hj;refine sD ?_;refine⟨fun h3=>?_,fun h3=>?_⟩
  ·have hj2:j<L.length:=by omega
   have hwj:=qh (i:=j) oM;have hgj:L.getD j 0=L[j]:=qg hj2;refine qk mixm (α:=Nat) [10] (fun k=>k≤j∧(List.range k).all (decP s c lev j)=true) (fun k=>[(10,vI k)]) (fun k=>[(4096,.arr 2 [schT s] false),(4100,.arr 6 [cnT c] false),(8216,.arr 7 [colT x] false)]) (fun k=>j-k) 0 ⟨oM,rfl⟩ ?_ fun k hk=>?_
   ·exact .oA [(4096,some 4096),(4100,some 4100),(8216,some 8216)] []
   obtain⟨k1,k2⟩:=hk;refine sD ?_;refine⟨fun h4=>?_,fun h4=>?_⟩
   ·have hk2:k<L.length:=by omega
    have hwk:=qh (i:=k) oM;have hgk:L.getD k 0=L[k]:=qg hk2;have hP:=hPd j k;rw[hgj,hgk] at hP;have hC1:=Yt s hok c hnd L[j];have hC2:=Yt s hok c hnd L[k];simp only[tZ,↓un_u,simprocAttr,Ax,qd hj2,qd hk2];refine⟨oM,?_⟩;refine C1.im (ji s hok.sm c.col lev L[j]) rF rF ?_;simp only[tZ,↓un_u,simprocAttr,Ax,qd hj2,qd hk2];refine⟨oM,?_⟩;refine C1.im (ji s hok.sm c.col lev L[k]) rF rF ?_;simp only[tZ,↓un_u,simprocAttr,Ax,qd hj2,qd hk2];refine⟨fun _=>by omega,?_⟩;refine C2.im (fun _=>hC1) (fun _=>rfl) rF ?_;simp only[tZ,↓un_u,simprocAttr,Ax,qd hj2,qd hk2];refine⟨fun _=>by omega,?_⟩;refine C2.im (fun _=>hC2) (fun _=>rfl) rF ?_;simp only[tZ,↓un_u,simprocAttr,hwk,tD,Bj,Aw,AY,Ak];refine⟨kR,fun h5=>?_,fun h5=>?_⟩
    ·rw[zn2 hj2 (show k<j by omega) (by rw[hP];grind)];exact .oA [] []
    ·refine⟨k+1,⟨oM,?_⟩,oM,?_⟩
     ·rw[qp5,k2,hP];grind
     ·exact .oA [(4096,some 4096),(4100,some 4100),(8216,some 8216)] []
   ·have hkj:k=j:=by omega
    subst hkj;simp only[tZ,↓un_u,simprocAttr,hwj];refine⟨k+1,⟨oM,?_⟩,oM,?_⟩
    ·rw[qw8,j2,k2];rfl
    ·exact .oA [(4096,some 4096),(4100,some 4100),(8216,some 8216)] []
  ·have hjl:j=L.length:=by omega
   subst hjl;rw[j2];exact .oA [] []
 rw[Aq h2];refine⟨fun h4=>?_,fun h4=>?_⟩
 ·rw[Aj h4];rw[show decide ((lev:Int)>0)=decide (0<lev) from by rw[Bool.eq_iff_iff,AZ,AZ];omega];exact .oA [] []
 rw[Aq h4];have h3:c.op=3:=by
  rw[hi] at ha;simp only[tD,AY] at ha;omega
 have hk3:=hk3 h3;have hb:=hnd.between h3;rw[Aq oM] at hfin;refine⟨kR,fun h5=>?_,fun h5=>?_⟩
 ·rw[Aj oM,show decide (c.lo>x.low)=decide (x.low<c.lo) from rfl];exact .oA [] []
 ·rw[Aq oM];have hw:=hwd oM lev oM;refine C1.im (QJ x lev oM oM) rF rF ?_;have hwh:IntKind.i64.wrap (c.hi+1)=c.hi+1:=AK _ oM;simp only[tZ,↓un_u,simprocAttr,hwh];rw[show decide (c.lo>x.low)=decide (x.low<c.lo) from rfl];refine⟨fun _=>by omega,fun _=>by omega,?_⟩;exact .oA [] []
theorem qQ8 {s:Sch} (hE:schE s=0) {i:Nat} (h1:0<i) (h2:i<s.cols.length) (hk:(qj s i).kind=2) {v:Int} (hv:v∈qT s i):qU s i (finI s i) v=v:=by
 have hok:=qV hE;obtain⟨d1,d2⟩:=hok.cdl h2 hk;have hf:finI s i=zf (qK s i)-1:=by
  rw[finI,Aq oM,Ax,Aj hk]
 have hh:=YP hk d2 hv;obtain⟨j,j1,j2,rfl⟩:=(zJ5 d2).1 hv;rw[qU,Aq,Ax,Aj hk,Aq (by rw[hh];simp),upC,Aq,hf,← j2,Ax,Ax,zU8 oM]
 ·rw[hf,← j2,Ax];omega
 ·rw[Ez,Qy,hf,← j2];omega
theorem jO3 {s:Sch} (hE:schE s=0) {c:Cnd} (hnd:NdOk s c) (ha:isAt c=true):0≤finI s c.col∧decB s c (finI s c.col).toNat=true:=by
 have hok:=qV hE;have hlv:∀ k,isB s c.col k=true→2≤k→∃ i:Nat,c.col=i∧0<i∧i<s.cols.length∧(qj s i).kind=k:=fun k hb hk=>by
  obtain⟨b1,b2,b3⟩:=zl.1 hb;obtain⟨i,hci⟩:=AJ b1;rw[hci,Ax] at b3;refine⟨i,hci,?_,oM,b3⟩;refine Nat.pos_of_ne_zero fun e=>?_;subst e;have:=hok.c0;omega
 have hm:∀ i:Nat,0<i→i<s.cols.length→(qj s i).kind=3→finI s i=(qj s i).widths.length∧1≤(qj s i).widths.length:=fun i h1 h2 h3=>by
  refine⟨by rw[finI,Aq oM,Ax,Aq oM],?_⟩;have:=(za (hok.cs i h2)).2.2.2.2 h3;unfold measE at this
  grind
 have hop:c.op=2∨c.op=3∨c.op=4:=by
  unfold isAt at ha;simp only[DZ,AY] at ha;omega
 rcases hop with h | h | h
 ·obtain⟨i,hci,h1,h2,hk⟩:=hlv 2 (hnd.under h).1 oM;obtain⟨d1,d2⟩:=hok.cdl h2 hk;have hf:finI s i=zf (qK s i)-1:=by
   rw[finI,Aq oM,Ax,Aj hk]
  have hf0:0≤finI s i:=by rw[hf,zm6 d2];omega
  rw[hci];refine⟨hf0,?_⟩;rw[decB,Aj h,hci,Ax,qi1,Bk];intro j hj;rw[Dk] at hj;rw[Bk];intro k hk2;rw[Dk] at hk2;have e:(((finI s i).toNat:Nat):Int)=finI s i:=by omega
  rw[decP,hci,Ax,e,qg hj,qg oM,qQ8 hE h1 h2 hk (AX _),qQ8 hE h1 h2 hk (AX _)]
  grind
 ·obtain⟨i,hci,h1,h2,hk⟩:=hlv 3 (hnd.between h).1 oM;obtain⟨m1,m2⟩:=hm i h1 h2 hk;have hw:=hok.wid h2 h1 oM (lev:=(qj s i).widths.length) oM;rw[hci,m1];refine⟨oM,?_⟩;rw[decB,Aq oM,Aq oM,hci,Ax,Ax];dsimp only;rw[Aq oM,hw.2.2.2.2.2.2.2];simp
 ·obtain⟨i,hci,h1,h2,hk⟩:=hlv 3 (hnd.miss h).1 oM;obtain⟨m1,m2⟩:=hm i h1 h2 hk;rw[hci,m1];refine⟨oM,?_⟩;rw[decB,Aq oM,Aj h,Ax];exact Cx oM
theorem qQ9 {s:Sch} (hE:schE s=0) {c:Cnd} (hnd:NdOk s c) (ha:isAt c=true):(decN s c:Int)≤finI s c.col∧decB s c (decN s c)=true∧(∀ m,m<decN s c→decB s c m=false):=by
 obtain⟨h1,h2⟩:=jO3 hE hnd ha;have h3:=qx2 (c:=c.col) hE;obtain⟨a,b,_,d⟩:=qQ1 h2 64 0 oM oM;unfold decN;exact⟨oM,a,fun m hm=>d m oM hm⟩
def qG0 (s:Sch):List Pk→Cnd→List Pk:=fun l a=>QK l a.col (decN s a)
theorem qR0 (s:Sch):∀ (L:List Cnd) (l:List Pk),(L.foldl (qG0 s) l).length≤l.length+L.length
 | [],l=>BZ _
 | a::L,l=>by
   have h1:=qR0 s L (qG0 s l a);have h2:=qq0 l a.col (decN s a);rw[Dw,CJ];unfold qG0 at h1 ⊢
   omega
theorem qq1 (s:Sch) (hs:jI s) (hL:0<s.lists.length) (c:Cnd):Spc Tryz.prog 125 [schT s,cnT c] [] (vPs (zR s c)) []:=by
 refine sIr qW6 fun e _ hst=>?_;unfold Jm;refine sW ?_;refine C1.im (wX s hs hL c) rF rF ?_;simp only[tZ,↓un_u,simprocAttr,Bj,Aw];refine⟨fun h=>?_,fun h=>?_⟩
 ·rw[zR,Aj h];exact .oA [] []
 obtain⟨hE,k2,k3,k4⟩:=qx6 h;have hal:=qQ4 c 41 oM k2;have hao:=jr0 c k4;have hN:zR s c=(atsC c).foldl (qG0 s) []:=by rw[zR,Aq (by rw[h];simp)];rfl
 rw[hN];refine C1.im (zn8 c 41 oM oM k2) rF rF ?_;generalize atsC c=L at hal hao ⊢
 refine sW ?_;refine qk mixm (α:=Nat) [5,7,12] (fun i=>i≤L.length) (fun i=>[(5,vPs ((L.take i).foldl (qG0 s) [])),(7,vI i)]) (fun i=>[(4096,.arr 2 [schT s] false)]) (fun i=>L.length-i) 0 oM ?_ fun i hi=>?_
 ·exact .oA [(4096,some 4096)] []
 have hlen:=qR0 s (L.take i) [];rw[Cz] at hlen;refine sD ?_;refine⟨fun h3=>?_,fun h3=>?_⟩
 ·have hi2:i<L.length:=by omega
  have hwi:=qh (i:=i) oM;obtain⟨hnd,ha⟩:=hao _ (AX hi2);obtain⟨n1,n2,n3⟩:=qQ9 hE hnd ha;have h59:=qx2 (c:=L[i].col) hE;refine qk mixm (α:=Nat) [8] (fun n=>n≤decN s L[i]) (fun n=>[(8,vI n)]) (fun n=>[(4096,.arr 2 [schT s] false)]) (fun n=>decN s L[i]-n) 0 oM ?_ fun n hn=>?_
  ·exact .oA [(4096,some 4096)] []
  have hwn:=qh (i:=n) oM;simp only[tZ,↓un_u,simprocAttr,Ax,qd hi2,zh];refine⟨oM,?_⟩;refine C1.im (qQ7 s hE L[i] hnd ha n oM) rF rF ?_;simp only[tZ,↓un_u,simprocAttr,Bx,Bz,hwn];refine⟨kR,fun h4=>?_,fun h4=>?_⟩
  ·have:n≠decN s L[i]:=fun e=>by rw[e,n2] at h4;cases h4
   refine⟨n+1,oM,oM,?_⟩;exact .oA [(4096,some 4096)] []
  ·have:n=decN s L[i]:=by
    refine Nat.le_antisymm hn (Nat.le_of_not_lt fun e=>?_);rw[n3 n e] at h4;cases h4
   subst this;simp only[tZ,↓un_u,simprocAttr,Ax,qd hi2,zh];refine⟨oM,?_⟩;refine C1.im (wZ ((L.take i).foldl (qG0 s) []) L[i].col (decN s L[i]) (by simp at hlen;omega)) rF rF ?_;simp only[tZ,↓un_u,simprocAttr,hwi];refine⟨i+1,oM,oM,?_⟩;rw[qH hi2,Gx];show Le _ _ ⟨(5,vPs (QK ((L.take i).foldl (qG0 s) []) L[i].col (decN s L[i])))::_,_⟩;exact .oA [(4096,some 4096)] []
 ·have hil:i=L.length:=by omega
  subst hil;rw[Bw];exact .oA [] []
end Go.Proofs
namespace Go.Proofs
open Go Go.TL
set_option maxHeartbeats 4000000
theorem qx7 (s:Sch) (col kind:Int):Spc Tryz.prog 203 [schT s,vI col,vI kind] [] (vB (isB s col kind)) []:=by
 by_cases h:0≤col∧col<s.cols.length
 ·obtain⟨i,rfl⟩:=AJ h.1;have hi:i<s.cols.length:=by omega
  have e1:decide ((i:Int)≥0)=true:=Cx oM;have e2:decide ((i:Int)<s.cols.length)=true:=Cx oM;have e3:isB s i kind=(s.cols[i].kind==kind):=by
   rw[isB,Ax,qj,qg hi,Cx h.1,Cx h.2];rfl
  refine sIr qh1 fun e _ hst=>?_;unfold Zm;simp only[tZ,↓un_u,simprocAttr,e1,e2,Ax,qd hi];rw[e3];refine⟨oM,?_⟩;exact .oA [] []
 ·have e1:(decide (col≥0)&&decide (col<(s.cols.length:Int)))=false:=by
   rw[FJ,Ay,Ay];omega
  have e3:isB s col kind=false:=by
   unfold isB;rw[show (decide (0≤col)&&decide (col<(s.cols.length:Int)))=false from e1];rfl
  rcases Nat.lt_or_ge col.toNat s.cols.length with hk | hk
  ·refine sIr qh1 fun e _ hst=>?_;unfold Zm;simp only[tZ,↓un_u,simprocAttr,e1,qd hk];rw[e3];exact .oA [] []
  ·have hj:(s.cols.map colT).getD col.toNat .junk = .junk:=ZT hk;refine sIr qh1 fun e _ hst=>?_;unfold Zm;simp only[tZ,↓un_u,simprocAttr,e1,hj,List.drop_succ_cons,List.drop_nil];rw[e3];exact .oA [] []
theorem zC0 (s:Sch) (hs:jI s) (l:List Pk):Spc Tryz.prog 204 [schT s,vPs l] [] (vI (Zv s l)) []:=by
 refine sIr zm2 fun e _ hst=>?_;unfold KS;refine sD ?_;refine⟨fun h=>?_,fun h=>?_⟩
 ·rw[Zv,Aj oM];exact .oA [] []
 rw[Zv,Aq oM];refine qk mixm (α:=Nat) [5,15] (fun i=>i≤l.length∧zm (dimE s l) i=0) (fun i=>[(5,vI i)]) (fun i=>[(4096,.arr 2 [schT s] false)]) (fun i=>l.length-i) 0 ⟨oM,rfl⟩ ?_ fun i hi=>?_
 ·exact .oA [(4096,some 4096)] []
 refine sD ?_;refine⟨fun h3=>?_,fun h3=>?_⟩
 ·have hi2:i<l.length:=by omega
  have hwi:=qh (i:=i) oM;have hpi:pkAt l i=l[i]:=by rw[pkAt,qg hi2]
  have hstep:=jy hi.2 hi2;have hnext:=zC hi.2;have hA:dimE s l i=if kI s l[i]≠0 then kI s l[i] else if isB s l[i].col 2=false then 7 else if ((l.take i).any fun x=>x.col==l[i].col)=true then 10 else 0:=by rw[dimE,hpi]
  simp only[tZ,↓un_u,simprocAttr,Ax,qd hi2];refine⟨oM,?_⟩;refine C1.im (qB3 s hs l[i]) rF rF ?_;simp only[tZ,↓un_u,simprocAttr,Bj,Aw];refine⟨kR,fun h4=>?_,fun h4=>?_⟩
  ·rw[Aj h4] at hA;rw[hstep (by rw[hA];exact h4),hA];exact .oA [] []
  rw[Aq (by rw[h4];simp)] at hA;simp only[tZ,↓un_u,simprocAttr,Ax,qd hi2];refine⟨oM,?_⟩;refine C1.im (qx7 s l[i].col 2) rF rF ?_;simp only[tZ,↓un_u,simprocAttr,Bx,Bz];refine⟨kR,fun h5=>?_,fun h5=>?_⟩
  ·rw[Aj h5] at hA;rw[hstep (by rw[hA];simp),hA];exact .oA [] []
  rw[Aq (by rw[h5];simp)] at hA;refine qk mixm (α:=Nat) [7] (fun k=>k≤i∧(l.take k).any (fun x=>x.col==l[i].col)=false) (fun k=>[(7,vI k)]) (fun k=>[(4096,.arr 2 [schT s] false)]) (fun k=>i-k) 0 ⟨oM,rfl⟩ ?_ fun k hk=>?_
  ·exact .oA [(4096,some 4096)] []
  refine sD ?_;refine⟨fun h6=>?_,fun h6=>?_⟩
  ·have hk2:k<l.length:=by omega
   have hwk:=qh (i:=k) oM;simp only[tZ,↓un_u,simprocAttr,Ax,qd hi2,qd hk2,hwk];refine⟨oM,oM,kR,fun h7=>?_,fun h7=>?_⟩
   ·rw[Aj (DJ.2 ⟨l[k],List.mem_take_iff_getElem.2 ⟨k,oM,rfl⟩,h7⟩)] at hA;rw[hstep (by rw[hA];simp),hA];exact .oA [] []
   ·refine⟨k+1,⟨oM,jr hk2 hk.2 h7⟩,oM,?_⟩;exact .oA [(4096,some 4096)] []
  ·have hki:k=i:=by omega
   subst hki;rw[Aq (by rw[hk.2];simp)] at hA;simp only[tZ,↓un_u,simprocAttr,hwi];refine⟨k+1,⟨oM,by rw[hnext,hA]⟩,oM,?_⟩;exact .oA [(4096,some 4096)] []
 ·have hil:i=l.length:=by omega
  subst hil;rw[hi.2];exact .oA [] []
theorem zn9 (s:Sch) (m:Int) (l:List Int):Spc Tryz.prog 205 [schT s,vI m,vIs l] [] (vI (kJ s m l)) []:=by
 refine sIr za0 fun e _ hst=>?_;unfold JD;refine sD ?_;refine⟨fun h=>?_,fun h=>?_⟩
 ·rw[kJ,Aj oM];exact .oA [] []
 rw[kJ,Aq oM];refine qk mixm (α:=Nat) [7,15] (fun i=>i≤l.length∧zm (qQ2 s m l) i=0) (fun i=>[(7,vI i)]) (fun i=>[(4096,.arr 2 [schT s] false)]) (fun i=>l.length-i) 0 ⟨oM,rfl⟩ ?_ fun i hi=>?_
 ·exact .oA [(4096,some 4096)] []
 refine sD ?_;refine⟨fun h3=>?_,fun h3=>?_⟩
 ·have hi2:i<l.length:=by omega
  have hwi:=qh (i:=i) oM;have hpi:l.getD i 0=l[i]:=qg hi2;have hstep:=jy hi.2 hi2;have hnext:=zC hi.2;have hA:qQ2 s m l i=if isB s l[i] 3=false then 7 else if l[i]=m∨(l.take i).contains l[i]=true then 10 else 0:=by rw[qQ2,hpi]
  have hH:=qP6 (l.take i) l[i] (by rw[Cz];omega);simp only[tZ,↓un_u,simprocAttr,Ax,qd hi2];refine⟨oM,?_⟩;refine C1.im (qx7 s l[i] 3) rF rF ?_;simp only[tZ,↓un_u,simprocAttr,Bx,Bz];refine⟨kR,fun h5=>?_,fun h5=>?_⟩
  ·rw[Aj h5] at hA;rw[hstep (by rw[hA];simp),hA];exact .oA [] []
  rw[Aq (by rw[h5];simp)] at hA;simp only[tZ,↓un_u,simprocAttr,Ax,qd hi2,WO,qL5];refine⟨oM,fun _=>by omega,fun _=>by omega,?_⟩;refine C2.im (fun _=>hH) (fun _=>rfl) rF ?_;simp only[tZ,↓un_u,simprocAttr,tD,AY,Ak,hwi];refine⟨kR,fun h6=>?_,fun h6=>?_⟩
  ·rw[Aj h6] at hA;rw[hstep (by rw[hA];simp),hA];exact .oA [] []
  ·rw[Aq (by grind)] at hA;refine⟨i+1,⟨oM,by rw[hnext,hA]⟩,oM,?_⟩;exact .oA [(4096,some 4096)] []
 ·have hil:i=l.length:=by omega
  subst hil;rw[hi.2];exact .oA [] []
theorem zC1 (c:Cnd):Spc Tryz.prog 147 [cnT c] [] (vB (Kg c cnd0)) []:=by
 have h:=zB9 c cnd0 fun h=>.mk c (by rw[h];decide) (by rw[Dy.1 (show c.kids.length=0 from h)];simp);refine sIr zl3 fun e _ hst=>?_;unfold KO;refine sW ?_;refine C1.shut [] h ?_ rF rfl ?_
 ·all_goals (try exact clA)
 refine sW ?_;exact .oA [] []
theorem zo0 (s:Sch) (hE:schE s=0) (hL:0<s.lists.length) (q:Qst):Spc Tryz.prog 146 [schT s,qstT q] [] (vI (kr s q)) []:=by
 have hok:=qV hE;refine sIr qX8 fun e _ hst=>?_;unfold Js;refine sW ?_;refine C1.im (qx7 s q.meas 3) rF rF ?_;simp only[tZ,↓un_u,simprocAttr,AY,Ak];refine⟨fun h=>?_,fun h=>?_⟩
 ·rw[kr,Aj h];refine C1.im (zC0 s hok.sm q.dims) rF rF ?_;simp only[tZ,↓un_u,simprocAttr,Bj,Aw];refine⟨fun h2=>?_,fun h2=>?_⟩
  ·rw[Aj h2];exact .oA [] []
  rw[Aq (by rw[h2];simp)];simp only[tZ,↓un_u,simprocAttr,Bj,Aw,tD,Bx,Bz];refine⟨fun h3=>?_,fun h3=>?_⟩
  ·rw[Aj h3];exact .oA [] []
  ·rw[Aq (by grind)];exact .oA [] []
 rw[kr,Aq h];refine⟨fun h2=>?_,fun h2=>?_⟩
 ·rw[Aj h2];simp only[tZ,↓un_u,simprocAttr,Bx,Bz];refine⟨fun h3=>?_,fun h3=>?_⟩
  ·rw[Aj h3];exact .oA [] []
  rw[Aq (by rw[h3];simp)];refine C1.im (zn9 s q.meas q.terms) rF rF ?_;refine sW ?_;exact .oA [] []
 rw[Aq h2];simp only[tZ,↓un_u,simprocAttr,Bx,Bz];refine⟨fun h3=>?_,fun h3=>?_⟩
 ·rw[Aj h3];exact .oA [] []
 rw[Aq (by rw[h3];simp)];obtain⟨b1,b2,b3⟩:=zl.1 h3;have hil:q.meas.toNat<s.cols.length:=by omega
 rw[qj,qg hil];simp only[tZ,↓un_u,simprocAttr,qd hil,tD];refine⟨oM,fun h4=>?_,fun h4=>?_⟩
 ·rw[Aj h4];exact .oA [] []
 rw[Aq h4];refine C1.im (wX s hok.sm hL q.event) rF rF ?_;refine sW ?_;exact .oA [] []
theorem Qw (s:Sch) (hs:jI s) (hL:0<s.lists.length) (q:Qst):Spc Tryz.prog 81 [schT s,qstT q] [] (vI (qstE s q)) []:=by
 refine sIr qu8 fun e _ hst=>?_;unfold yp;refine sW ?_;refine C1.im (jd s hs) rF rF ?_;simp only[tZ,↓un_u,simprocAttr,Bj,Aw];refine⟨fun h=>?_,fun h=>?_⟩
 ·rw[qstE,Aj h];exact .oA [] []
 rw[qstE,Aq (by rw[h];simp)];refine C1.im (wn q.name) rF rF ?_;simp only[tZ,↓un_u,simprocAttr,Bx,Bz];refine⟨fun h2=>?_,fun h2=>?_⟩
 ·rw[Aj h2];exact .oA [] []
 rw[Aq (by rw[h2];simp)];refine sD ?_;refine⟨fun h3=>?_,fun h3=>?_⟩
 ·rw[Aj oM];exact .oA [] []
 rw[Aq oM];refine C1.im (wX s hs hL q.filt) rF rF ?_;simp only[tZ,↓un_u,simprocAttr,Bj,Aw];refine⟨fun h4=>?_,fun h4=>?_⟩
 ·rw[Aj h4];exact .oA [] []
 rw[Aq (by rw[h4];simp)];refine C1.im (zo0 s h hL q) rF rF ?_;simp only[tZ,↓un_u,simprocAttr,Bj,Aw];refine⟨fun h5=>?_,fun h5=>?_⟩
 ·rw[Aj h5];exact .oA [] []
 rw[Aq (by rw[h5];simp)];refine C2.im (fun _=>zC1 q.event) (fun _=>rfl) rF ?_;simp only[tZ,↓un_u,simprocAttr,tD,Bj,Aw,Bx,Bz];refine⟨fun h6=>?_,fun h6=>?_⟩
 ·rw[Aj (by grind)];exact .oA [] []
 ·rw[Aq (by grind)];exact .oA [] []
theorem KX (s:Sch) (hs:jI s) (hL:0<s.lists.length) (d:Dcl):Spc Tryz.prog 61 [schT s,dclT d] [] (vI (dclE s d)) []:=by
 refine sIr qU2 fun e _ hst=>?_;unfold Ja;refine sW ?_;refine C1.im (jd s hs) rF rF ?_;simp only[tZ,↓un_u,simprocAttr,Bj,Aw];refine⟨fun h=>?_,fun h=>?_⟩
 ·rw[dclE,Aj h];exact .oA [] []
 rw[dclE,Aq (by rw[h];simp)];refine C1.im (wn d.proj) rF rF ?_;refine sW ?_;refine C2.im (fun _=>wn d.src) (fun _=>rfl) rF ?_;simp only[tZ,↓un_u,simprocAttr,tD,Bx,Bz];refine⟨fun h2=>?_,fun h2=>?_⟩
 ·rw[Aj h2];exact .oA [] []
 rw[Aq (by grind)];refine C1.im (wX s hs hL d.coh) rF rF ?_;simp only[tZ,↓un_u,simprocAttr,Bj,Aw];refine⟨fun h3=>?_,fun h3=>?_⟩
 ·rw[Aj h3];exact .oA [] []
 rw[Aq (by rw[h3];simp)];refine sD ?_;refine⟨fun h4=>?_,fun h4=>?_⟩
 ·rw[Aj (by unfold smpE;grind)];exact .oA [] []
 rw[Aq (by unfold smpE;grind)];refine⟨fun h5=>?_,fun h5=>?_⟩
 ·rw[Aj oM];exact .oA [] []
 rw[Aq oM];refine qk mixm (α:=Nat) [8,74] (fun i=>i≤d.qs.length∧zm (qsE s d.qs) i=0) (fun i=>[(8,vI i)]) (fun i=>[(4096,.arr 2 [schT s] false),(4100,.arr 12 [dclT d] false)]) (fun i=>d.qs.length-i) 0 ⟨oM,rfl⟩ ?_ fun i hi=>?_
 ·exact .oA [(4096,some 4096),(4100,some 4100)] []
 refine sD ?_;refine⟨fun h6=>?_,fun h6=>?_⟩
 ·have hi2:i<d.qs.length:=by omega
  have hwi:=qh (i:=i) oM;have hpi:qAt d.qs i=d.qs[i]:=by rw[qAt,qg hi2]
  have hstep:=jy hi.2 hi2;have hnext:=zC hi.2;have hA:qsE s d.qs i=if qstE s d.qs[i]≠0 then qstE s d.qs[i] else if ((d.qs.take i).any fun x=>eqB x.name d.qs[i].name)=true then 10 else 0:=by rw[qsE,hpi]
  simp only[tZ,↓un_u,simprocAttr,Ax,qd hi2];refine⟨oM,?_⟩;refine C1.im (Qw s hs hL d.qs[i]) rF rF ?_;simp only[tZ,↓un_u,simprocAttr,Bj,Aw];refine⟨kR,fun h7=>?_,fun h7=>?_⟩
  ·rw[Aj h7] at hA;rw[hstep (by rw[hA];exact h7),hA];exact .oA [] []
  rw[Aq (by rw[h7];simp)] at hA;refine qk mixm (α:=Nat) [10] (fun k=>k≤i∧(d.qs.take k).any (fun x=>eqB x.name d.qs[i].name)=false) (fun k=>[(10,vI k)]) (fun k=>[(4096,.arr 2 [schT s] false),(4100,.arr 12 [dclT d] false)]) (fun k=>i-k) 0 ⟨oM,rfl⟩ ?_ fun k hk=>?_
  ·exact .oA [(4096,some 4096),(4100,some 4100)] []
  refine sD ?_;refine⟨fun h8=>?_,fun h8=>?_⟩
  ·have hk2:k<d.qs.length:=by omega
   have hwk:=qh (i:=k) oM;simp only[tZ,↓un_u,simprocAttr,Ax,qd hi2,qd hk2,hwk];refine⟨oM,oM,kR,fun h9=>?_,fun h9=>?_⟩
   ·rw[Aj (DJ.2 ⟨d.qs[k],List.mem_take_iff_getElem.2 ⟨k,oM,rfl⟩,h9⟩)] at hA;rw[hstep (by rw[hA];simp),hA];exact .oA [] []
   ·refine⟨k+1,⟨oM,jr hk2 hk.2 h9⟩,oM,?_⟩;exact .oA [(4096,some 4096),(4100,some 4100)] []
  ·have hki:k=i:=by omega
   subst hki;rw[Aq (by rw[hk.2];simp)] at hA;simp only[tZ,↓un_u,simprocAttr,hwi];refine⟨k+1,⟨oM,by rw[hnext,hA]⟩,oM,?_⟩;exact .oA [(4096,some 4096),(4100,some 4100)] []
 ·have hil:i=d.qs.length:=by omega
  subst hil;rw[hi.2];exact .oA [] []
end Go.Proofs
