/- A part of the proof: trees of Go values, short forms, contracts. -/
import Derived.WalkKit
import Derived.Still
import Derived.MapKept
import GoSem.Builtin.Cap
import Derived.Laws.Externs
import GoSem.Extern.SlicesOverlaps
import Derived.Carry
import Derived.ProofKit
import Derived.OpenShut
import Derived.HandedShaped
import Derived.Lay
import Derived.LaidLaws
import Derived.MakeChecks
import Derived.SevenTiedAt
import Derived.Test.YtnfagfikoblhfaaGreatDoorChecked
import Derived.Test.YtnfagfikoblhfaaGreatDoorK15
set_option linter.unusedSimpArgs false
set_option linter.unusedVariables false
namespace Go.Proofs
open Go Go.TL
theorem kf (n lo hi:Int):Spc Tryz.prog je [vI n,vI lo,vI hi] [] (vB (inB n lo hi)) []:=by
 refine qd zZ6 mixm (by simp) fun e _ hst=>qg ?_;unfold qy2;refine sW ?_;rw[show (decide (lo≤n)&&decide (n≤hi))=inB n lo hi from rfl];exact .oA [] []
theorem zS5 {ws:List Int}:∀ {i:Nat},(∀ j,j<i→wdOk ws j=true)→∀ j,j<i→1≤ws.getD j 0
 | 0,_,j,h=>by omega
 | i+1,hw,j,h=>by
   have ih:=zS5 (ws:=ws) (i:=i) fun j hj=>hw j (by omega);have:=hw j h;unfold wdOk at this;split at this
   ·rename_i e;subst e;have:ws.getD 0 0=1:=by simpa using this
    omega
   ·simp only[Bq,AZ] at this;have:=ih (j-1) (by omega);omega
theorem zh3 (c:Col):Spc Tryz.prog KP [colT c] [] (vI (measE c)) []:=by
 refine qd qX1 mixm (by simp) fun e _ hst=>qg ?_;unfold JR;refine sW ?_;refine C1.im (kf c.low (-1000000) 1000000) (by rfl) (by rfl) ?_;refine sW ?_;refine C2.im (fun _=>kf c.high (-1000000) 1000000) (fun _=>rfl) (by rfl) ?_;simp only[tZ,↓un_u,simprocAttr,tD,Bx,Bz];refine⟨fun h=>?_,fun h=>?_⟩
 ·rw[measE,Aj (by grind)];exact .oA [] []
 ·refine⟨fun h2=>?_,fun h2=>?_⟩
  ·rw[measE,Aq (by grind),Aj (by grind)];exact .oA [] []
  ·have hm:measE c=if jT0 c.widths=false then 2 else 0:=by rw[measE,Aq (by grind),Aq (by grind)]
   refine qu mixm (α:=Nat) [3] (fun i=>i≤c.widths.length∧(∀ j,j<i→wdOk c.widths j=true)) (fun i=>[(3,vI i)]) (fun i=>[(4096,.arr 7 [colT c] false)]) (fun i=>c.widths.length-i) 0 ⟨by omega,?_⟩ ?_ fun i hi=>?_
   ·intro j hj;omega
   ·exact .oA [(4096,some 4096)] []
   have hbad:i<c.widths.length→wdOk c.widths i=false→measE c=2:=fun h1 h2=>by
    rw[hm,Aj];exact List.all_eq_false.2 ⟨i,Dk.2 h1,by rw[h2];simp⟩
   have hok:wdOk c.widths i=true→∀ j,j<i+1→wdOk c.widths j=true:=fun h1 j hj=>by
    by_cases e:j=i
    ·rw[e];exact h1
    ·exact hi.2 j (by omega)
   simp only[tZ,↓un_u,simprocAttr,AZ,Ay];refine⟨fun h=>?_,fun h=>?_⟩
   ·rcases DQ i with h0 | h0
    ·subst h0;have hw0:wdOk c.widths 0=(c.widths.getD 0 0==1):=by rw[wdOk,Aj rfl]
     have hlen:0<c.widths.length:=by omega
     rw[qh hlen] at hw0;have hz:((0:Nat):Int)=0:=rfl;have hz2:(IntKind.i64.wrap (-1)).toNat=0:=by decide
     have hz3:=qj (i:=0) (by omega);rw[hz] at hz3;simp only[tZ,↓un_u,simprocAttr,Ax,hz,beq_self_eq_true,gt_iff_lt,Int.lt_irrefl,Fq,hz2,qe hlen,hz3];refine⟨by omega,fun h3=>?_,fun h3=>?_⟩
     ·rw[hbad hlen (by rw[hw0];simpa using h3)];exact .oA [] []
     ·refine⟨1,⟨by omega,hok (by rw[hw0];simpa using h3)⟩,by omega,?_⟩;exact .oA [(4096,some 4096)] []
    ·obtain⟨k,rfl⟩:∃ k,i=k+1:=⟨i-1,by omega⟩;have hk2:k+1<c.widths.length:=by omega
     have hk3:k<c.widths.length:=by omega
     have e1:(((k+1:Nat):Int)==0)=false:=Ak.2 (by omega);have e2:decide (((k+1:Nat):Int)>0)=true:=Cx (by omega);have hw1:wdOk c.widths (k+1)=(decide (c.widths[k]<c.widths[k+1])&&decide (c.widths[k+1]≤1000000)&&(c.widths[k+1].tmod c.widths[k]==0)):=by
          rw[wdOk,Aq (by omega),Nat.add_sub_cancel,qh hk2,qh hk3]
     have hp1:=zS5 (ws:=c.widths) hi.2 k (by omega);rw[qh hk3] at hp1;have hws:=qj (i:=k+1) (by omega);have e3:=jp (i:=k+1) (by omega) (by omega);rw[Nat.add_sub_cancel] at e3;simp only[tZ,↓un_u,simprocAttr,Ax,qe hk2,qe hk3,e1,e2,e3,hws];refine⟨by omega,by omega,fun _=>by omega,fun _=>by omega,fun h3=>?_,fun h3=>?_⟩
     ·rw[hbad hk2 (by rw[hw1];grind)];exact .oA [] []
     ·refine⟨k+2,⟨by omega,hok (by rw[hw1];grind)⟩,by omega,?_⟩;exact .oA [(4096,some 4096)] []
   ·have hi2:i=c.widths.length:=by omega
    subst hi2;rw[hm,Aq]
    ·exact .oA [] []
    ·rw[Ez];exact Bk.2 fun j hj=>hi.2 j (Dk.1 hj)
theorem zs4 (s:Sch) (i:Nat) (hi:i<s.cols.length) (hn:s.cols.length<4611686018427387904) (hl:s.lists.length<4611686018427387904):Spc Tryz.prog WU [schT s,vI i] [] (vI (colE s i)) []:=by
 have hat:qk s i=s.cols[i]:=by rw[qk,qh hi]
 have hE:colE s i=if jt s.cols[i].name=false then 3
  else if ((s.cols.take i).any fun x=>eqB x.name s.cols[i].name)=true then 10
  else if inB s.cols[i].kind 1 3=false∨(0<i∧s.cols[i].kind=1) then 4
  else if s.cols[i].kind=2∧inB s.cols[i].list 0 (s.lists.length-1)=false then 5
  else if s.cols[i].kind=3∧measE s.cols[i]≠0 then measE s.cols[i]
  else if (s.cols[i].kind≠2∧s.cols[i].list≠0)∨(s.cols[i].kind≠3∧(s.cols[i].low≠0∨s.cols[i].high≠0∨0<s.cols[i].widths.length∨s.cols[i].opt=true)) then 11 else 0:=by rw[colE,hat]
 rw[hE];refine qd zg0 mixm (by simp) fun e _ hst=>qg ?_;unfold We;simp only[tZ,↓un_u,simprocAttr,Ax,qe hi];generalize s.cols[i]=c;refine⟨by omega,?_⟩;refine C1.im (yZ c.name) (by rfl) (by rfl) ?_;simp only[tZ,↓un_u,simprocAttr,Bx,Bz];refine⟨fun h=>?_,fun h=>?_⟩
 ·rw[Aj h];exact .oA [] []
 rw[Aq (by rw[h];simp)];refine qu mixm (α:=Nat) [6] (fun k=>k≤i∧(s.cols.take k).any (fun x=>eqB x.name c.name)=false) (fun k=>[(6,vI k)]) (fun k=>[(4096,.arr 2 [schT s] false),(8212,.arr 7 [colT c] false)]) (fun k=>i-k) 0 ⟨by omega,rfl⟩ ?_ fun k hk=>?_
 ·exact .oA [(4096,some 4096),(8212,some 8212)] []
 simp only[tZ,↓un_u,simprocAttr,AZ,Ay];refine⟨fun h=>?_,fun h=>?_⟩
 ·have hk2:k<s.cols.length:=by omega
  have hwk:=qj (i:=k) (by omega);simp only[tZ,↓un_u,simprocAttr,Ax,qe hk2,hwk];refine⟨by omega,by kernel_rfl,fun h7=>?_,fun h7=>?_⟩
  ·rw[Aj (DJ.2 ⟨s.cols[k],List.mem_take_iff_getElem.2 ⟨k,by omega,rfl⟩,h7⟩)];exact .oA [] []
  ·refine⟨k+1,⟨by omega,ki hk2 hk.2 h7⟩,by omega,?_⟩;exact .oA [(4096,some 4096),(8212,some 8212)] []
 ·have hki:k=i:=by omega
  subst hki;rw[Aq (by rw[hk.2];simp)];refine C1.im (kf c.kind 1 3) (by rfl) (by rfl) ?_;simp only[tZ,↓un_u,simprocAttr,tD,Bx,Bz,AY,Ak];refine⟨fun h7=>?_,fun h7=>?_⟩
  ·rw[Aj (by grind)];exact .oA [] []
  rw[Aq (by grind)];have hw:IntKind.i64.wrap ((s.lists.length:Int)-1)=(s.lists.length:Int)-1:=AK _ (by omega);simp only[tZ,↓un_u,simprocAttr,hw];refine C2.im (fun _=>kf c.list 0 ((s.lists.length:Int)-1)) (fun _=>rfl) (by rfl) ?_;simp only[tZ,↓un_u,simprocAttr,tD,Bx,Bz,AY,Ak];refine⟨fun h8=>?_,fun h8=>?_⟩
  ·rw[Aj (by grind)];exact .oA [] []
  rw[Aq (by grind)];have hend:∀ v:Int,(if c.kind=3∧¬measE c=0 then measE c else if ¬c.kind=2∧¬c.list=0∨¬c.kind=3∧(¬c.low=0∨¬c.high=0∨0<c.widths.length∨c.opt=true) then 11 else 0)=v→Zi [] (T.v (Value.int IntKind.i64 v)) [(4096,Ob.arr 2 [schT s] false),(8212,Ob.arr 7 [colT c] false)] (vI (if c.kind=3∧¬measE c=0 then measE c else if ¬c.kind=2∧¬c.list=0∨¬c.kind=3∧(¬c.low=0∨¬c.high=0∨0<c.widths.length∨c.opt=true) then 11 else 0)) []:=fun v hv=>by
   rw[hv];exact .oA [] []
  refine⟨fun h9=>?_,fun h9=>?_⟩
  ·refine C1.im (zh3 c) (by rfl) (by rfl) ?_;simp only[tZ,↓un_u,simprocAttr,Bj,Aw];refine⟨fun h10=>hend _ (by rw[Aj ⟨h9,h10⟩]),fun h10=>?_⟩;simp only[tZ,↓un_u,simprocAttr,tD,Bj,Aw];exact⟨fun h11=>hend _ (by rw[Aq (by grind),Aj (by grind)]),fun h11=>hend _ (by rw[Aq (by grind),Aq (by grind)])⟩
  ·simp only[tZ,↓un_u,simprocAttr,tD,Bj,Aw];exact⟨fun h11=>hend _ (by rw[Aq (by grind),Aj (by grind)]),fun h11=>hend _ (by rw[Aq (by grind),Aq (by grind)])⟩
theorem zh4 {s:Sch} {i:Nat} (h:Qe s i≠0):∀ n,i≤n→Qe s n=Qe s i:=by
 intro n hn
 induction n with
 | zero=>have:i=0:=by omega
         rw[this]
 | succ n ih=>
   by_cases e:i=n+1
   ·rw[e]
   ·have:=ih (by omega);rw[Qe,this,Aj h]
theorem zh5 {s:Sch} {i:Nat} (h:qa5 s i≠0):∀ n,i≤n→qa5 s n=qa5 s i:=by
 intro n hn
 induction n with
 | zero=>have:i=0:=by omega
         rw[this]
 | succ n ih=>
   by_cases e:i=n+1
   ·rw[e]
   ·have:=ih (by omega);rw[qa5,this,Aj h]
def yg (s:Sch):Prop:=s.lists.length<4611686018427387904∧s.cols.length<4611686018427387904∧∀ l∈s.lists,l.codes.length<4611686018427387904
theorem kF (s:Sch) (hs:yg s):Spc Tryz.prog zT [schT s] [] (vI (schE s)) []:=by
 obtain⟨hs1,hs2,hs3⟩:=hs;refine qd zn2 mixm (by simp) fun e _ hst=>qg ?_;unfold Yi;refine sD ?_;refine⟨fun h=>?_,fun h=>?_⟩
 ·rw[schE,Aj (by omega)];exact .oA [] []
 have hE1:Qe s s.lists.length≠0→schE s=Qe s s.lists.length:=fun k=>by rw[schE,Aq (by omega),Aj k]
 refine qu mixm (α:=Nat) [3,17] (fun i=>i≤s.lists.length∧Qe s i=0) (fun i=>[(3,vI i)]) (fun i=>[(4096,.arr 2 [schT s] false)]) (fun i=>s.lists.length-i) 0 ⟨by omega,rfl⟩ ?_ fun i hi=>?_
 ·exact .oA [(4096,some 4096)] []
 obtain⟨i1,i2⟩:=hi;refine sD ?_;refine⟨fun h2=>?_,fun h2=>?_⟩
 ·have hi2:i<s.lists.length:=by omega
  have hwi:=qj (i:=i) (by omega);have hat:s.lists.getD i default=s.lists[i]:=qh hi2;have hstep:Qe s (i+1)=if lstE s.lists[i]≠0 then lstE s.lists[i] else if ((s.lists.take i).any fun x=>eqB x.name s.lists[i].name)=true then 10 else 0:=by
   rw[Qe,Aq (by rw[i2];simp),hat]
  have hbad:Qe s (i+1)≠0→schE s=Qe s (i+1):=fun k=>by
   have:=zh4 k s.lists.length (by omega);rw[hE1 (by rw[this];exact k),this]
  simp only[tZ,↓un_u,simprocAttr,Ax,qe hi2,hwi];refine⟨by omega,?_⟩;refine C1.im (QS s.lists[i] (hs3 _ (AX hi2))) (by rfl) (by rfl) ?_;simp only[tZ,↓un_u,simprocAttr,Bj,Aw];refine⟨fun h3=>?_,fun h3=>?_⟩
  ·rw[Aj h3] at hstep;rw[hbad (by rw[hstep];exact h3),hstep];exact .oA [] []
  rw[Aq (by rw[h3];simp)] at hstep;refine qu mixm (α:=Nat) [5] (fun k=>k≤i∧(s.lists.take k).any (fun x=>eqB x.name s.lists[i].name)=false) (fun k=>[(5,vI k)]) (fun k=>[(4096,.arr 2 [schT s] false)]) (fun k=>i-k) 0 ⟨by omega,rfl⟩ ?_ fun k hk=>?_
  ·exact .oA [(4096,some 4096)] []
  simp only[tZ,↓un_u,simprocAttr,AZ,Ay];refine⟨fun h=>?_,fun h=>?_⟩
  ·have hk2:k<s.lists.length:=by omega
   have hwk:=qj (i:=k) (by omega);simp only[tZ,↓un_u,simprocAttr,Ax,qe hk2,qe hi2,hwk];refine⟨by omega,by omega,by kernel_rfl,fun h7=>?_,fun h7=>?_⟩
   ·rw[Aj (DJ.2 ⟨s.lists[k],List.mem_take_iff_getElem.2 ⟨k,by omega,rfl⟩,h7⟩)] at hstep;rw[hbad (by rw[hstep];simp),hstep];exact .oA [] []
   ·refine⟨k+1,⟨by omega,ki hk2 hk.2 h7⟩,by omega,?_⟩;exact .oA [(4096,some 4096)] []
  ·have hki:k=i:=by omega
   subst hki;rw[Aq (by rw[hk.2];simp)] at hstep;simp only[tZ,↓un_u,simprocAttr,hwi];refine⟨k+1,⟨by omega,hstep⟩,by omega,?_⟩;exact .oA [(4096,some 4096)] []
 ·have hil:i=s.lists.length:=by omega
  subst hil;have hE2:s.cols.length=0∨(qk s 0).kind≠1→schE s=7:=fun k=>by rw[schE,Aq (by omega),Aq (by rw[i2];simp),Aj k]
  have hE3:¬ (s.cols.length=0∨(qk s 0).kind≠1)→schE s=qa5 s s.cols.length:=fun k=>by rw[schE,Aq (by omega),Aq (by rw[i2];simp),Aq k]
  have hz:((0:Nat):Int)=0:=rfl;by_cases h0:s.cols.length=0
  ·have hn:s.cols=[]:=Dy.1 h0;rw[hE2 (.inl h0)];simp only[tZ,↓un_u,simprocAttr,hn,Cw,hz,beq_self_eq_true];exact .oA [] []
  ·have h0p:0<s.cols.length:=by omega
   have e0:((s.cols.length:Int)==0)=false:=Ak.2 (by omega);have hc0:qk s 0=s.cols[0]:=by rw[qk,qh h0p]
   simp only[tZ,↓un_u,simprocAttr,e0,qe h0p,Bj,Aw,Bool.false_or];refine⟨by omega,fun h3=>?_,fun h3=>?_⟩
   ·rw[hE2 (.inr (by rw[hc0];exact h3))];exact .oA [] []
   have hE4:=hE3 (by rw[hc0];grind);refine qu mixm (α:=Nat) [6,63] (fun i=>i≤s.cols.length∧qa5 s i=0) (fun i=>[(6,vI i)]) (fun i=>[(4096,.arr 2 [schT s] false)]) (fun i=>s.cols.length-i) 0 ⟨by omega,rfl⟩ ?_ fun i hi=>?_
   ·exact .oA [(4096,some 4096)] []
   simp only[tZ,↓un_u,simprocAttr,AZ,Ay];refine⟨fun h=>?_,fun h=>?_⟩
   ·have hi2:i<s.cols.length:=by omega
    have hwi:=qj (i:=i) (by omega);have hstep:qa5 s (i+1)=colE s i:=by rw[qa5,Aq (by rw[hi.2];simp)]
    refine C1.im (zs4 s i hi2 hs2 hs1) (by rfl) (by rfl) ?_;simp only[tZ,↓un_u,simprocAttr,Bj,Aw,hwi];refine⟨fun h4=>?_,fun h4=>?_⟩
    ·have:=zh5 (s:=s) (i:=i+1) (by rw[hstep];exact h4) s.cols.length (by omega);rw[hE4,this,hstep];exact .oA [] []
    ·refine⟨i+1,⟨by omega,by rw[hstep];exact h4⟩,by omega,?_⟩;exact .oA [(4096,some 4096)] []
   ·have hi2:i=s.cols.length:=by omega
    subst hi2;rw[hE4,hi.2];exact .oA [] []
end Go.Proofs
namespace Go.Proofs
open Go Go.TL
theorem SchOk.sm {s:Sch} (h:SchOk s):yg s:=by
 have h1:=h.nl;have h2:=h.nc;refine⟨by omega,by omega,fun l hl=>?_⟩;obtain⟨i,hi,rfl⟩:=CX hl;have h3:=h.ls i hi;rw[qh hi] at h3;have:=(zg h3).2.2;omega
theorem qo5 {l:CodL} : -1≤zh l∧zh l≤60:=by
 unfold zh;split
 ·omega
 ·rename_i h;obtain⟨hp,h1,h2⟩:=zg (AQ h);have:=qS9 hp (l.codes.length-1) (by omega);omega
theorem qH8 (s:Sch) (h:SchOk s) (i:Nat) (hi:i<s.cols.length) (v:Int):Spc Tryz.prog Ka [schT s,vI i,vI v] [] (vB (jo s i v)) []:=by
 have hat:qk s i=s.cols[i]:=by rw[qk,qh hi]
 have hk:=za (h.cs i hi);have hcd:=fun e=>h.cdl hi e;have hE:jo s i v=if s.cols[i].kind=1 then inB v 1 1048575
  else if s.cols[i].kind=2 then inB v 0 ((qJ s i).codes.length-1)&&(lvlC (qJ s i) v==zh (qJ s i)-1)
  else (s.cols[i].opt&&(v==yk))||inB v s.cols[i].low s.cols[i].high:=by rw[jo,hat]
 have hcl:qJ s i=s.lists.getD s.cols[i].list.toNat default:=by rw[qJ,hat]
 rw[hat] at hk hcd;rw[hE];rw[hcl] at hcd ⊢
 refine qd zm4 mixm (by simp) fun e _ hst=>qg ?_;unfold Ye;simp only[tZ,↓un_u,simprocAttr,Ax,qe hi];generalize s.cols[i]=c at hk hcd ⊢
 simp only[tZ,↓un_u,simprocAttr,AY,Ak];refine⟨by omega,fun h1=>?_,fun h1=>⟨fun h2=>?_,fun h2=>?_⟩⟩
 ·rw[Aj h1];refine C1.im (kf v 1 1048575) (by rfl) (by rfl) ?_;refine sW ?_;exact .oA [] []
 ·obtain⟨d1,d2⟩:=hcd h2;obtain⟨d3,d4⟩:=hk.2.2.2.1 h2;have hgl:s.lists.getD c.list.toNat default=s.lists[c.list.toNat]:=qh d1;rw[Aq h1,Aj h2];rw[hgl] at d2 ⊢
  obtain⟨_,d5,d6⟩:=zg d2;simp only[tZ,↓un_u,simprocAttr,qe d1];generalize s.lists[c.list.toNat]=l at d2 d5 d6 ⊢
  have hw:IntKind.i64.wrap ((l.codes.length:Int)-1)=(l.codes.length:Int)-1:=AK _ (by omega);have hlv:=qo5 (l:=l);have hw2:IntKind.i64.wrap (zh l-1)=zh l-1:=AK _ (by omega);simp only[tZ,↓un_u,simprocAttr,hw];refine⟨by omega,?_⟩;refine C1.im (kf v 0 _) (by rfl) (by rfl) ?_;refine sW ?_;refine C2.im (fun _=>qg3 l v (by omega)) (fun _=>rfl) (by rfl) ?_;refine sW ?_;refine C2.im (fun _=>YK l (by omega)) (fun _=>rfl) (by rfl) ?_;simp only[tZ,↓un_u,simprocAttr,hw2];refine⟨by kernel_rfl,?_⟩;exact .oA [] []
 ·rw[Aq h1,Aq h2];refine C2.im (fun _=>kf v c.low c.high) (fun _=>rfl) (by rfl) ?_;refine sW ?_;rw[show (c.opt&&v == -1099511627776)=(c.opt&&(v==yk)) from rfl];exact .oA [] []
theorem jm2 {s:Sch} {row:List Int} {i:Nat} (h1:schE s=0) (h2:row.length=s.cols.length) (hi:i<row.length) (h:jo s i row[i]=false):rowE s row=9:=by
 rw[rowE,Aq (by rw[h1];simp),Aq (by omega),Aj];exact List.all_eq_false.2 ⟨i,Dk.2 hi,by rw[qh hi,h];simp⟩
theorem zh6 (s:Sch) (hs:yg s) (row:List Int) (hr:row.length<4611686018427387904):Spc Tryz.prog qc5 [schT s,vIs row] [] (vI (rowE s row)) []:=by
 refine qd zR2 mixm (by simp) fun e _ hst=>qg ?_;unfold qm7;refine sW ?_;refine C1.im (kF s hs) (by rfl) (by rfl) ?_;simp only[tZ,↓un_u,simprocAttr,Bj,Aw];refine⟨fun h=>?_,fun h=>⟨fun h2=>?_,fun h2=>?_⟩⟩
 ·rw[rowE,Aj h];exact .oA [] []
 ·rw[rowE,Aq (by rw[h];simp),Aj (by omega)];exact .oA [] []
 have hok:=qR h;have h0:=h;refine qu mixm (α:=Nat) [6] (fun i=>i≤row.length∧(∀ j,j<i→jo s j (row.getD j 0)=true)) (fun i=>[(6,vI i)]) (fun i=>[(4096,.arr 2 [schT s] false)]) (fun i=>row.length-i) 0 ⟨by omega,?_⟩ ?_ fun i hi=>?_
 ·intro j hj;omega
 ·exact .oA [(4096,some 4096)] []
 simp only[tZ,↓un_u,simprocAttr,AZ,Ay];refine⟨fun h=>?_,fun h=>?_⟩
 ·have hi2:i<row.length:=by omega
  have hwi:=qj (i:=i) (by omega);simp only[tZ,↓un_u,simprocAttr,Ax,qe hi2,hwi];refine⟨by omega,?_⟩;refine C1.im (qH8 s hok i (by omega) row[i]) (by rfl) (by rfl) ?_;simp only[tZ,↓un_u,simprocAttr,Bx,Bz];refine⟨by kernel_rfl,fun h3=>?_,fun h3=>?_⟩
  ·rw[jm2 h0 (by omega) hi2 h3];exact .oA [] []
  ·refine⟨i+1,⟨by omega,fun j hj=>?_⟩,by omega,?_⟩
   ·by_cases e:j=i
    ·rw[e,qh hi2];exact h3
    ·exact hi.2 j (by omega)
   ·exact .oA [(4096,some 4096)] []
 ·have hi2:i=row.length:=by omega
  subst hi2;rw[zD9 h0 (by omega) hi.2];exact .oA [] []
theorem yl (s:Sch) (hs:yg s) (c:Int):Spc Tryz.prog jI [schT s,vI c] [] (vI (finI s c)) []:=by
 have hs2:=hs.2.1;refine qd ze1 mixm (by simp) fun e _ hst=>qg ?_;unfold KS;refine sW ?_;refine C1.im (kF s hs) (by rfl) (by rfl) ?_;simp only[tZ,↓un_u,simprocAttr,tD,Bj,Aw];refine⟨fun h=>?_,fun h=>?_⟩
 ·rw[finI,Aj (by omega)];exact .oA [] []
 have hok:=qR h.1.1;obtain⟨i,rfl⟩:=AJ (show 0≤c by omega);have hi:i<s.cols.length:=by omega
 have hat:qk s i=s.cols[i]:=by rw[qk,qh hi]
 have hk:=za (hok.cs i hi);have hcd:=fun e=>hok.cdl hi e;have hcl:qJ s i=s.lists.getD s.cols[i].list.toNat default:=by rw[qJ,hat]
 rw[hat] at hk hcd;rw[hcl] at hcd;rw[finI,Aq (by omega),Ax,hcl,hat];simp only[tZ,↓un_u,simprocAttr,Ax,qe hi];generalize s.cols[i]=x at hk hcd ⊢
 simp only[tZ,↓un_u,simprocAttr,AY,Ak];refine⟨by omega,fun h2=>?_,fun h2=>?_⟩
 ·obtain⟨d1,d2⟩:=hcd h2;obtain⟨d3,d4⟩:=hk.2.2.2.1 h2;have hgl:s.lists.getD x.list.toNat default=s.lists[x.list.toNat]:=qh d1;rw[Aj h2];rw[hgl] at d2 ⊢
  obtain⟨_,d5,d6⟩:=zg d2;simp only[tZ,↓un_u,simprocAttr,qe d1];generalize s.lists[x.list.toNat]=l at d2 d5 d6 ⊢
  have hlv:=qo5 (l:=l);have hw2:IntKind.i64.wrap (zh l-1)=zh l-1:=AK _ (by omega);refine⟨by omega,?_⟩;refine C1.im (YK l (by omega)) (by rfl) (by rfl) ?_;simp only[tZ,↓un_u,simprocAttr,hw2];exact .oA [] []
 ·rw[Aq h2];exact .oA [] []
theorem zE2 {a b:Int} (hb:0<b):qG a b=if a.tmod b<0 then a.tdiv b-1 else a.tdiv b:=by
 have h1:=Int.mul_tdiv_add_tmod a b;have h2:=Int.tmod_lt_of_pos a hb;have h3:=Int.lt_tmod_of_pos a hb;unfold qG;rw[DW _ (by omega)];split
 ·refine ((Int.ediv_emod_unique (r:=a.tmod b+b) hb).2 ⟨?_,by omega,by omega⟩).1;rw[Int.mul_sub];omega
 ·refine ((Int.ediv_emod_unique (r:=a.tmod b) hb).2 ⟨by omega,by omega,by omega⟩).1
theorem qH9 (a b:Int) (hb:0<b) (ha : -4611686018427387904<a∧a<4611686018427387904):Spc Tryz.prog Kb [vI a,vI b] [] (vI (qG a b)) []:=by
 rw[zE2 hb];have hq:=Int.natAbs_tdiv_le_natAbs a b;have hw:IntKind.i64.wrap (a.tdiv b)=a.tdiv b:=AK _ (by omega);have hw2:IntKind.i64.wrap (a.tdiv b-1)=a.tdiv b-1:=AK _ (by omega);refine qd zm8 mixm (by simp) fun e _ hst=>qg ?_;unfold Yg;simp only[tZ,↓un_u,simprocAttr,hw,hw2,tD];refine⟨by omega,by omega,fun h=>?_,fun h=>?_⟩
 ·rw[Aj h];exact .oA [] []
 ·rw[Aq h];exact .oA [] []
theorem Kq (c:Col) (lev:Int) (h1:1≤lev∧lev≤c.widths.length) (h2:c.widths.length<4611686018427387904):Spc Tryz.prog wD [colT c,vI lev] [] (vI (qD c lev)) []:=by
 have hw:IntKind.i64.wrap ((c.widths.length:Int)-lev)=(c.widths.length:Int)-lev:=AK _ (by omega);have hk:((c.widths.length:Int)-lev).toNat<c.widths.length:=by omega
 refine qd zm6 mixm (by simp) fun e _ hst=>qg ?_;unfold Yf;simp only[tZ,↓un_u,simprocAttr,hw,qe hk];rw[qD,qh hk];refine⟨by omega,?_⟩;exact .oA [] []
end Go.Proofs
namespace Go.Proofs
open Go Go.TL
namespace Cnd
mutual
theorem ind' {p:Cnd→Prop} (h:∀ c,(∀ k∈c.kids,p k)→p c):∀ c,p c
 | .mk _ _ _ _ _ ks=>h _ (inds h ks)
theorem inds {p:Cnd→Prop} (h:∀ c,(∀ k∈c.kids,p k)→p c):∀ ks:List Cnd,∀ k∈ks,p k
 | [],_,hk=>absurd hk (by simp)
 | x::r,k,hk=>by
   rcases Ck.1 hk with e | hk
   ·rw[e];exact ind' h x
   ·exact inds h r k hk
end
end Cnd
mutual
def cntC:Cnd→Int→Int
 | .mk _ _ _ _ _ ks,m=>wy ks m 1
def wy:List Cnd→Int→Int→Int
 | [],_,n=>n
 | k::r,m,n=>if n<m then wy r m (n+cntC k (m-n)) else n
end
theorem YL (c:Cnd) (m:Int):cntC c m=wy c.kids m 1:=by cases c;rw[cntC];rfl
mutual
def depC:Cnd→Nat
 | .mk _ _ _ _ _ ks=>kH ks+1
def kH:List Cnd→Nat
 | []=>0
 | k::r=>max (depC k) (kH r)
end
theorem qP0 (c:Cnd):depC c=kH c.kids+1:=by cases c;rw[depC];rfl
def isB (s:Sch) (col kind:Int):Bool:=decide (0≤col)&&decide (col<s.cols.length)&&((qk s col.toNat).kind==kind)
def arC (op:Int):Nat:=if op=5∨op=6 then 2 else if op=7 then 1 else 0
def ndE (s:Sch) (c:Cnd):Int:=
 if c.op<1∨7<c.op then 4
 else if c.kids.length≠arC c.op∨(c.op≠2∧c.op≠3∧c.op≠4∧c.col≠0)∨(c.op≠2∧c.code≠0)∨(c.op≠3∧(c.lo≠0∨c.hi≠0)) then 11
 else if (c.op=2∧isB s c.col 2=false)∨(c.op=3∧isB s c.col 3=false)∨(c.op=4∧(isB s c.col 3=false∨(qk s c.col.toNat).opt=false)) then 7
 else if c.op=2∧(c.code<0∨c.code≥(qJ s c.col.toNat).codes.length) then 6
 else if c.op=3∧(c.lo < -1000000∨c.hi>1000000∨c.lo>c.hi) then 2 else 0
mutual
def nodE (s:Sch):Cnd→Int
 | .mk op col code lo hi ks=>if ndE s (.mk op col code lo hi ks)≠0 then ndE s (.mk op col code lo hi ks) else Zd s ks
def Zd (s:Sch):List Cnd→Int
 | []=>0
 | k::r=>if nodE s k≠0 then nodE s k else Zd s r
end
theorem zE3 (s:Sch) (c:Cnd):nodE s c=if ndE s c≠0 then ndE s c else Zd s c.kids:=by cases c;rw[nodE];rfl
def chkC (s:Sch) (c:Cnd):Int:=if schE s≠0 then schE s else if cntC c 41>40 then 1 else if depC c>10 then 22 else nodE s c
theorem zS6 {s:Sch}:∀ {l:List Cnd},Zd s l=0→∀ k∈l,nodE s k=0
 | [],_,k,hk=>absurd hk (by simp)
 | x::r,h,k,hk=>by
   rw[Zd] at h;split at h
   ·rename_i h1;exact absurd h h1
   ·rename_i h1;rcases Ck.1 hk with e | hk
    ·rw[e];exact AQ h1
    ·exact zS6 h k hk
theorem jb1 {s:Sch} {c:Cnd} (h:nodE s c=0):ndE s c=0∧∀ k∈c.kids,nodE s k=0:=by
 rw[zE3] at h;split at h
 ·rename_i h1;exact absurd h h1
 ·rename_i h1;exact⟨AQ h1,zS6 h⟩
theorem zE {s:Sch} {col kind:Int}:isB s col kind=true↔0≤col∧col<s.cols.length∧(qk s col.toNat).kind=kind:=by
 unfold isB;simp only[Bq,AZ,AY,and_assoc]
structure NdOk (s:Sch) (c:Cnd):Prop where
 op:1≤c.op∧c.op≤7
 nk:c.kids.length=arC c.op
 under:c.op=2→isB s c.col 2=true∧0≤c.code∧c.code<(qJ s c.col.toNat).codes.length
 between:c.op=3→isB s c.col 3=true∧-1000000≤c.lo∧c.hi≤1000000∧c.lo≤c.hi
 miss:c.op=4→isB s c.col 3=true∧(qk s c.col.toNat).opt=true
theorem jm3 {s:Sch} {c:Cnd} (h:ndE s c=0):NdOk s c:=by
 unfold ndE at h;split at h
 ·cases h
 rename_i h1;split at h
 ·cases h
 rename_i h2;split at h
 ·cases h
 rename_i h3;split at h
 ·cases h
 rename_i h4;split at h
 ·cases h
 rename_i h5;refine⟨by omega,AQ fun e=>h2 (.inl e),fun e=>⟨?_,by omega,by omega⟩,fun e=>⟨?_,by omega,by omega,by omega⟩,fun e=>⟨?_,?_⟩⟩
 ·cases e2:isB s c.col 2 with
  | true=>rfl
  | false=>exact absurd (.inl ⟨e,e2⟩) h3
 ·cases e2:isB s c.col 3 with
  | true=>rfl
  | false=>exact absurd (.inr (.inl ⟨e,e2⟩)) h3
 ·cases e2:isB s c.col 3 with
  | true=>rfl
  | false=>exact absurd (.inr (.inr ⟨e,.inl e2⟩)) h3
 ·cases e2:(qk s c.col.toNat).opt with
  | true=>rfl
  | false=>exact absurd (.inr (.inr ⟨e,.inr e2⟩)) h3
def isAt (c:Cnd):Bool:=(c.op==2)||(c.op==3)||(c.op==4)
def tf (b:Bool):Int:=if b then 1 else -1
def QT (s:Sch) (c:Cnd) (v:Int):Int:=
 if c.op=2 then tf (qo3 (qJ s c.col.toNat) v c.code)
 else if c.op=3 then (if v=yk then 0 else tf (decide (c.lo≤v)&&decide (v≤c.hi)))
 else if c.op=4 then tf (v==yk) else -1
def qA4 (op:Int) (ks:List Int):Int:=if op=7 then-ks.getD 0 0 else if op=5 then min (ks.getD 0 0) (ks.getD 1 0) else if op=6 then max (ks.getD 0 0) (ks.getD 1 0) else 1
mutual
def evC (s:Sch) (row:List Int):Cnd→Int
 | .mk op col code lo hi ks=>if isAt (.mk op col code lo hi ks)=true then QT s (.mk op col code lo hi ks) (row.getD col.toNat 0) else qA4 op (evCs s row ks)
def evCs (s:Sch) (row:List Int):List Cnd→List Int
 | []=>[]
 | k::r=>evC s row k::evCs s row r
end
theorem jm4 (s:Sch) (row:List Int):∀ l,evCs s row l=l.map (evC s row)
 | []=>by simp [evCs]
 | k::r=>by simp [evCs,jm4 s row r]
theorem jI5 (s:Sch) (row:List Int) (c:Cnd):evC s row c=if isAt c=true then QT s c (row.getD c.col.toNat 0) else qA4 c.op (c.kids.map (evC s row)):=by
 cases c;rw[evC,jm4];rfl
def zh7 (s:Sch) (c:Cnd) (row:List Int):Int:=if chkC s c≠0∨rowE s row≠0 then 0 else evC s row c
mutual
def atsC:Cnd→List Cnd
 | .mk op col code lo hi ks=>if isAt (.mk op col code lo hi ks)=true then [.mk op col code lo hi ks] else WH ks
def WH:List Cnd→List Cnd
 | []=>[]
 | k::r=>atsC k++WH r
end
theorem qP1 (c:Cnd):atsC c=if isAt c=true then [c] else WH c.kids:=by cases c;rw[atsC];rfl
theorem qa6:∀ (l:List Cnd) (k:Cnd),WH (l++[k])=WH l++atsC k
 | [],k=>by simp [WH]
 | x::r,k=>by simp [WH,qa6 r k]
theorem jm5 {s:Sch}:∀ c,nodE s c=0→∀ a∈atsC c,NdOk s a∧isAt a=true:=by
 refine Cnd.ind' fun c ih h a ha=>?_;obtain⟨h1,h2⟩:=jb1 h;rw[qP1] at ha;split at ha
 ·rename_i h3;rw[Ey] at ha;rw[ha];exact⟨jm3 h1,h3⟩
 ·have key:∀ l:List Cnd,(∀ k∈l,k∈c.kids)→a∈WH l→NdOk s a∧isAt a=true:=by
   intro l
   induction l with
   | nil=>intro _ h;simp [WH] at h
   | cons k r ihl=>
     intro hk h;rw[WH,Dz] at h;rcases h with h | h
     ·exact ih k (hk k (by simp)) (h2 k (hk k (by simp))) a h
     ·exact ihl (fun x hx=>hk x (CQ _ hx)) h
  exact key c.kids (fun k hk=>hk) ha
def qA5 (n:Nat) (p:Nat→Nat→Bool):Bool:=(List.range n).all fun i=>(List.range i).all fun k=>p i k
theorem qI0 {p:Nat→Bool} {n:Nat}:(List.range (n+1)).all p=((List.range n).all p&&p n):=by rw[List.range_succ,FK];simp
theorem jm6 {p:Nat→Bool} {n i:Nat} (h:i<n) (hp:p i=false):(List.range n).all p=false:=List.all_eq_false.2 ⟨i,Dk.2 h,by rw[hp];simp⟩
theorem qP2 {p:Nat→Nat→Bool} {n:Nat}:qA5 (n+1) p=(qA5 n p&&(List.range n).all (p n)):=qI0
theorem zE4 {p:Nat→Nat→Bool} {n i k:Nat} (h:i<n) (hk:k<i) (hp:p i k=false):qA5 n p=false:=jm6 h (jm6 hk hp)
def decP (s:Sch) (c:Cnd) (lev:Nat) (i k:Nat):Bool:=
 !((qK s c.col lev ((qQ s c.col.toNat).getD i 0)==qK s c.col lev ((qQ s c.col.toNat).getD k 0))&&!(QT s c ((qQ s c.col.toNat).getD i 0)==QT s c ((qQ s c.col.toNat).getD k 0)))
def decB (s:Sch) (c:Cnd) (lev:Nat):Bool:=
 if c.op=2 then qA5 (qQ s c.col.toNat).length (decP s c lev)
 else if c.op=4 then decide (0<lev)
 else
  let x:=qk s c.col.toNat
  let first:=decide (x.low<c.lo)&&decide (c.lo≤x.high)
  let behind:=decide (x.low≤c.hi)&&decide (c.hi<x.high)
  if lev=0 then !x.opt&&!first&&!behind
  else (!first||(c.lo.tmod (qD x lev)==0))&&(!behind||((c.hi+1).tmod (qD x lev)==0))
def Wo (p:Nat→Bool):Nat→Nat→Nat
 | 0,n=>n
 | f+1,n=>if p n=true then n else Wo p f (n+1)
theorem qA6 {p:Nat→Bool} {N:Nat} (h:p N=true):∀ (f n:Nat),n≤N→N-n≤f→p (Wo p f n)=true∧Wo p f n≤N∧n≤Wo p f n∧∀ m,n≤m→m<Wo p f n→p m=false
 | 0,n,h1,h2=>by
   have:n=N:=by omega
   subst this;exact⟨h,BZ _,BZ _,fun m h3 h4=>by rw[Wo] at h4;omega⟩
 | f+1,n,h1,h2=>by
   rw[Wo];split
   ·rename_i hp;exact⟨hp,h1,BZ _,fun m h3 h4=>by omega⟩
   ·rename_i hp;have hn:n≠N:=fun e=>hp (e ▸ h);obtain⟨a,b,c,d⟩:=qA6 h f (n+1) (by omega) (by omega);refine⟨a,b,by omega,fun m h3 h4=>?_⟩;by_cases e:m=n
    ·rw[e];simpa using hp
    ·exact d m (by omega) h4
def decN (s:Sch) (c:Cnd):Nat:=Wo (decB s c) 64 0
def qj1 (col lev:Int):List Pk×Bool→Pk→List Pk×Bool:=fun x p=>
 let y:=if p.col>col∧x.2=false then (x.1++[⟨col,lev⟩],true) else x
 if p.col=col then (y.1++[⟨p.col,max p.lev lev⟩],true) else (y.1++[p],y.2)
def Kr (l:List Pk) (col lev:Int):List Pk:=
 let x:=l.foldl (qj1 col lev) ([],decide (lev≤0))
 if x.2 then x.1 else x.1++[⟨col,lev⟩]
def jg (s:Sch) (c:Cnd):List Pk:=if chkC s c≠0 then [] else (atsC c).foldl (fun l a=>Kr l a.col (decN s a)) []
def covB (a b:List Pk):Bool:=a.all fun x=>b.any fun y=>(y.col==x.col)&&decide (y.lev≥x.lev)
mutual
def qa7:Cnd→Cnd→Bool
 | .mk a1 a2 a3 a4 a5 ks,.mk b1 b2 b3 b4 b5 ls=>(a1==b1)&&(a2==b2)&&(a3==b3)&&(a4==b4)&&(a5==b5)&&Qa ks ls
def Qa:List Cnd→List Cnd→Bool
 | [],[]=>true
 | k::r,l::t=>qa7 k l&&Qa r t
 | [],_::_=>false
 | _::_,[]=>false
end
theorem jm7 (a b:Cnd):qa7 a b=((a.op==b.op)&&(a.col==b.col)&&(a.code==b.code)&&(a.lo==b.lo)&&(a.hi==b.hi)&&Qa a.kids b.kids):=by cases a;cases b;rw[qa7];rfl
theorem qT1:∀ c,∀ m,1≤m→1≤cntC c m∧cntC c m≤m:=by
 refine Cnd.ind' fun c ih m hm=>?_;rw[YL];have key:∀ l:List Cnd,(∀ k∈l,k∈c.kids)→∀ n,1≤n→n≤m→1≤wy l m n∧wy l m n≤m:=by
  intro l
  induction l with
  | nil=>intro _ n h1 h2;rw[wy];exact⟨h1,h2⟩
  | cons k r ihl=>
    intro hk n h1 h2;rw[wy];split
    ·have:=ih k (hk k (by simp)) (m-n) (by omega);exact ihl (fun x hx=>hk x (CQ _ hx)) _ (by omega) (by omega)
    ·exact⟨h1,h2⟩
 exact key c.kids (fun k hk=>hk) 1 (by omega) hm
theorem zE5:∀ (l:List Cnd) (m n:Int),n≤m→n≤wy l m n
 | [],m,n,_=>by rw[wy];omega
 | k::r,m,n,h=>by
   rw[wy];split
   ·have:=qT1 k (m-n) (by omega);have:=zE5 r m (n+cntC k (m-n)) (by omega);omega
   ·omega
theorem jI6:∀ c,∀ m,1≤m→cntC c m<m→(depC c:Int)≤cntC c m:=by
 refine Cnd.ind' fun c ih m hm h=>?_;rw[YL] at h ⊢
 rw[qP0];have key:∀ l:List Cnd,(∀ k∈l,k∈c.kids)→∀ n,1≤n→n≤m→wy l m n<m→n+kH l≤wy l m n:=by
  intro l
  induction l with
  | nil=>intro _ n h1 h2 _;rw[wy,kH];omega
  | cons k r ihl=>
    intro hk n h1 h2 h3;rw[wy] at h3 ⊢
    rw[kH];split at h3
    ·rename_i h4;rw[Aj h4];have c1:=qT1 k (m-n) (by omega);have c2:=zE5 r m (n+cntC k (m-n)) (by omega);have c3:=ih k (hk k (by simp)) (m-n) (by omega) (by omega);have c4:=ihl (fun x hx=>hk x (CQ _ hx)) (n+cntC k (m-n)) (by omega) (by omega) h3;omega
    ·omega
 have:=key c.kids (fun k hk=>hk) 1 (by omega) (by omega) h;omega
end Go.Proofs
namespace Go.Proofs
open Go Go.TL
def zF (f:Nat→Int):Nat→Int
 | 0=>0
 | n+1=>if zF f n≠0 then zF f n else f n
theorem zS7 {f:Nat→Int} {i:Nat} (h:zF f i≠0):∀ n,i≤n→zF f n=zF f i:=by
 intro n hn
 induction n with
 | zero=>have:i=0:=by omega
         rw[this]
 | succ n ih=>
   by_cases e:i=n+1
   ·rw[e]
   ·have:=ih (by omega);rw[zF,this,Aj h]
theorem ZO {f:Nat→Int}:∀ {n:Nat},zF f n=0→∀ i,i<n→f i=0
 | 0,_,i,h=>by omega
 | n+1,h,i,hi=>by
   rw[zF] at h;split at h
   ·rename_i h2;exact absurd h h2
   ·rename_i h2;by_cases e:i=n
    ·rw[e];exact h
    ·exact ZO (AQ h2) i (by omega)
theorem qa8 {f:Nat→Int}:∀ {n:Nat},(∀ i,i<n→f i=0)→zF f n=0
 | 0,_=>rfl
 | n+1,h=>by
   rw[zF,qa8 fun i hi=>h i (by omega),Aq (by simp)];exact h n (by omega)
theorem jP {f:Nat→Int} {n:Nat} (h:zF f n=0):zF f (n+1)=f n:=by rw[zF,Aq (by rw[h];simp)]
theorem Qc {f:Nat→Int} {i n:Nat} (h:zF f i=0) (hi:i<n) (hf:f i≠0):zF f n=f i:=by
 rw[zS7 (i:=i+1) (by rw[jP h];exact hf) n (by omega),jP h]
def QU (s:Sch) (p:Pk):Int:=if schE s≠0 then schE s else if p.col<1∨p.col≥s.cols.length then 7 else if inB p.lev 0 (finI s p.col)=false then 8 else 0
abbrev pkAt (l:List Pk) (i:Nat):Pk:=l.getD i default
def zw6 (s:Sch) (l:List Pk) (i:Nat):Int:=if QU s (pkAt l i)≠0 then QU s (pkAt l i) else if 0<i∧(pkAt l i).col≤(pkAt l (i-1)).col then 10 else 0
def ym (s:Sch) (l:List Pk):Int:=if schE s≠0 then schE s else zF (zw6 s l) l.length
def dimE (s:Sch) (l:List Pk) (i:Nat):Int:=if QU s (pkAt l i)≠0 then QU s (pkAt l i) else if isB s (pkAt l i).col 2=false then 7 else if ((l.take i).any fun x=>x.col==(pkAt l i).col)=true then 10 else 0
def Wp (s:Sch) (l:List Pk):Int:=if l.length<1∨l.length>3 then 1 else zF (dimE s l) l.length
def zh8 (s:Sch) (m:Int) (l:List Int) (i:Nat):Int:=if isB s (l.getD i 0) 3=false then 7 else if l.getD i 0=m∨(l.take i).contains (l.getD i 0)=true then 10 else 0
def yn (s:Sch) (m:Int) (l:List Int):Int:=if l.length<1∨l.length>3 then 1 else zF (zh8 s m l) l.length
def wP (s:Sch) (q:Qst):Int:=
 if q.kind=1 then (if Wp s q.dims≠0 then Wp s q.dims else if q.meas≠-1∧isB s q.meas 3=false then 7 else 0)
 else if q.kind=2 then (if isB s q.meas 3=false then 7 else yn s q.meas q.terms)
 else if isB s q.meas 3=false then 7 else if (qk s q.meas.toNat).low<0 then 2 else chkC s q.event
def qstE (s:Sch) (q:Qst):Int:=
 if schE s≠0 then schE s else if jt q.name=false then 3 else if q.kind<1∨3<q.kind then 4
 else if chkC s q.filt≠0 then chkC s q.filt else if wP s q≠0 then wP s q
 else if (q.kind≠1∧0<q.dims.length)∨(q.kind≠2∧0<q.terms.length)∨(q.kind≠3∧qa7 q.event cnd0=false) then 11 else 0
abbrev qAt (l:List Qst) (i:Nat):Qst:=l.getD i default
def qsE (s:Sch) (l:List Qst) (i:Nat):Int:=if qstE s (qAt l i)≠0 then qstE s (qAt l i) else if ((l.take i).any fun x=>eqB x.name (qAt l i).name)=true then 10 else 0
def smpE (x:Smp):Int:=if x.of<1∨x.of>1000∨x.part<1∨x.part>x.of∨x.seed<0∨x.seed>1099511627776 then 2 else 0
def dclE (s:Sch) (d:Dcl):Int:=
 if schE s≠0 then schE s else if jt d.proj=false∨jt d.src=false then 3 else if chkC s d.coh≠0 then chkC s d.coh
 else if smpE d.smp≠0 then 2 else if d.qs.length<1∨d.qs.length>8 then 1 else zF (qsE s d.qs) d.qs.length
theorem qP3 {s:Sch} {d:Dcl} (h:dclE s d=0):schE s=0∧jt d.proj=true∧jt d.src=true∧chkC s d.coh=0∧smpE d.smp=0∧1≤d.qs.length∧d.qs.length≤8∧∀ i,i<d.qs.length→qstE s (qAt d.qs i)=0:=by
 unfold dclE at h;split at h
 ·rename_i h1;exact absurd h h1
 rename_i h1;split at h
 ·cases h
 rename_i h2;split at h
 ·rename_i h3;exact absurd h h3
 rename_i h3;split at h
 ·cases h
 rename_i h4;split at h
 ·cases h
 rename_i h5;refine⟨AQ h1,?_,?_,AQ h3,AQ h4,by omega,by omega,fun i hi=>?_⟩
 ·cases e:jt d.proj with
  | true=>rfl
  | false=>exact absurd (.inl e) h2
 ·cases e:jt d.src with
  | true=>rfl
  | false=>exact absurd (.inr e) h2
 ·have:=ZO h i hi;unfold qsE at this;split at this
  ·rename_i h6;exact absurd this h6
  ·rename_i h6;exact AQ h6
theorem qa9 {s:Sch} {l:List Pk} (h:ym s l=0):schE s=0∧(∀ p∈l,QU s p=0)∧l.Pairwise fun a b=>a.col<b.col:=by
 unfold ym at h;split at h
 ·rename_i h1;exact absurd h h1
 rename_i h1;have key:∀ i,i<l.length→QU s (pkAt l i)=0∧¬ (0<i∧(pkAt l i).col≤(pkAt l (i-1)).col):=fun i hi=>by
  have:=ZO h i hi;unfold zw6 at this;split at this
  ·rename_i h2;exact absurd this h2
  rename_i h2;split at this
  ·cases this
  ·rename_i h3;exact⟨AQ h2,h3⟩
 refine⟨AQ h1,fun p hp=>?_,?_⟩
 ·obtain⟨i,hi,rfl⟩:=CX hp;have:=(key i hi).1;rw[pkAt,qh hi] at this;exact this
 ·rw[DX];have k2:∀ (d i:Nat) (hj:i+d+1<l.length),(l[i]'(by omega)).col<l[i+d+1].col:=by
   intro d
   induction d with
   | zero=>
     intro i hj;have:=(key (i+1) (by omega)).2;rw[pkAt,pkAt,qh (by omega),qh (by omega)] at this;simp at this;simpa using this
   | succ d ih=>
     intro i hj;have h1:=ih i (by omega);have h2:=(key (i+d+1+1) (by omega)).2;rw[pkAt,pkAt,qh (by omega),qh (by omega)] at h2;simp only[Nat.add_sub_cancel] at h2;have e:i+(d+1)+1=i+d+1+1:=by omega
     simp only[e];omega
  intro i j hi hj hij;have:=k2 (j-i-1) i (by omega);have e:i+(j-i-1)+1=j:=by omega
  simp only[e] at this;exact this
theorem qg4 {s:Sch} {p:Pk} (h:QU s p=0):schE s=0∧1≤p.col∧p.col<s.cols.length∧0≤p.lev∧p.lev≤finI s p.col:=by
 unfold QU at h;split at h
 ·rename_i h1;exact absurd h h1
 rename_i h1;split at h
 ·cases h
 rename_i h2;split at h
 ·cases h
 rename_i h3;rw[Ez,inB,Bq,AZ,AZ] at h3;exact⟨AQ h1,by omega,by omega,h3.1,h3.2⟩
end Go.Proofs
namespace Go.Proofs
open Go Go.TL
def divM (high w wo:Int):Nat→Int→Bool
 | 0,_=>true
 | k+1,f=>if f>high then true else if f.tmod wo≠0 then false else divM high w wo k (f+w)
def divP (s:Sch) (col:Nat) (L:List Int) (other lev:Nat) (i k:Nat):Bool:=
 !(!(qK s col lev (L.getD i 0)==qK s col lev (L.getD k 0))&&(qK s col other (L.getD i 0)==qK s col other (L.getD k 0)))
def divB (s:Sch) (col other lev:Nat):Bool:=
 if lev=0∨lev≤other then true
 else if (qk s col).kind=2 then qA5 (qQ s col).length (divP s col (qQ s col) other lev)
 else
  let x:=qk s col
  let w:=qD x lev
  let first:=(qG x.low w+1)*w
  if other=0 then !x.opt&&decide (first>x.high)
  else divM x.high w (qD x other) 2 first
def jQ (s:Sch) (col lev:Int):Int:=if inB lev 0 (finI s col)=false then -1 else Wo (fun n=>divB s col.toNat n lev.toNat) 64 0
def jr9 (q:Qst) (k:Int):Bool:=(q.meas==k)||q.terms.contains k
def Qf (l m:List Pk):List Pk:=m.foldl (fun l p=>Kr l p.col p.lev) l
def QV (s:Sch) (q:Qst):List Pk→Nat→List Pk:=fun l k=>if jr9 q (k+1)=true then Kr l (k+1) (jQ s (k+1) (finI s (k+1))) else l
def kg1 (s:Sch) (q:Qst) (l:List Pk):List Pk:=(List.range (s.cols.length-1)).foldl (QV s q) l
def yS (s:Sch) (q:Qst):List Pk:=if qstE s q≠0 then [] else
 kg1 s q (q.dims.foldl (fun l p=>Kr l p.col (jQ s p.col p.lev)) (if q.kind=3 then Qf (jg s q.filt) (jg s q.event) else jg s q.filt))
def sufB (s:Sch) (q:Qst) (l:List Pk):Bool:=(qstE s q==0)&&(ym s l==0)&&covB (yS s q) l
def ZP (s:Sch) (d:Dcl):List Pk:=if dclE s d≠0 then [] else d.qs.foldl (fun l q=>Qf l (yS s q)) []
def zh9 (s:Sch) (d:Dcl) (l:List Pk):Int:=if dclE s d≠0 then dclE s d else if ym s l≠0 then ym s l else zF (fun i=>if sufB s (qAt d.qs i) l=true then 0 else 23) d.qs.length
end Go.Proofs
namespace Go.Proofs
open Go Go.TL
theorem yT {s:Sch} {c:Int} (h:0≤finI s c):schE s=0∧1≤c∧c<s.cols.length∧finI s c=(if (qk s c.toNat).kind=2 then zh (qJ s c.toNat)-1 else (qk s c.toNat).widths.length):=by
 unfold finI at h ⊢
 split at h
 ·omega
 ·rename_i h1;rw[Aq h1];exact⟨by omega,by omega,by omega,rfl⟩
theorem Ji {n lo hi:Int}:inB n lo hi=true↔lo≤n∧n≤hi:=by simp [inB]
theorem qo6 {n lo hi:Int}:inB n lo hi=false↔n<lo∨hi<n:=by
 rw[← Bool.not_eq_true,Ji];omega
theorem SchOk.wid {s:Sch} (h:SchOk s) {i:Nat} (hi:i<s.cols.length) (h0:0<i) (hk:(qk s i).kind≠2) {lev:Int} (hl:1≤lev∧lev≤(qk s i).widths.length) :
 1≤qD (qk s i) lev∧qD (qk s i) lev≤1000000∧(qk s i).kind=3∧(qk s i).widths.length≤4∧-1000000≤(qk s i).low∧(qk s i).high≤1000000∧(qk s i).low≤(qk s i).high∧qD (qk s i) (qk s i).widths.length=1:=by
 have hk2:=za (h.cs i hi);have hk3:(qk s i).kind=3:=by have:=hk2.2.2.1 h0;omega
 have hm:=hk2.2.2.2.2 hk3;generalize qk s i=c at hl hm hk3 ⊢
 unfold measE at hm;split at hm
 ·cases hm
 rename_i h1;split at hm
 ·cases hm
 rename_i h2;split at hm
 ·cases hm
 rename_i h3;rw[Ez] at h3;have hw:∀ j,j<c.widths.length→wdOk c.widths j=true:=fun j hj=>Bk.1 h3 j (Dk.2 hj);have e1:inB c.low (-1000000) 1000000=true:=by grind
 have e2:inB c.high (-1000000) 1000000=true:=by grind
 rw[Ji] at e1 e2;have hn:((c.widths.length:Int)-lev).toNat<c.widths.length:=by omega
 have hp:=zS5 (ws:=c.widths) hw _ hn;have h0:=hw 0 (by omega);rw[wdOk,Aj rfl,AY] at h0;have hmax:c.widths.getD ((c.widths.length:Int)-lev).toNat 0≤1000000:=by
  have:=hw _ hn;unfold wdOk at this;split at this
  ·rename_i e;rw[e,h0];omega
  ·simp only[Bq,AZ] at this;omega
 refine⟨hp,hmax,hk3,by omega,by omega,by omega,by omega,?_⟩;rw[qD,show ((c.widths.length:Int)-c.widths.length).toNat=0 by omega,h0]
theorem qo7 {v w:Int} (hw:0<w):v-w<qG v w*w∧qG v w*w≤v:=by
 unfold qG;rw[DW _ (by omega),Int.mul_comm];have h1:=Int.mul_ediv_add_emod v w;have h2:=Int.emod_nonneg v (b:=w) (by omega);have h3:=Int.emod_lt_of_pos v hw;omega
theorem jT3 {v w:Int} (hw:0<w) (hv : -4611686018427387904<v∧v<4611686018427387904) : -4611686018427387904<qG v w∧qG v w<4611686018427387904:=by
 have hq:=Int.natAbs_tdiv_le_natAbs v w;have h1:=Int.mul_tdiv_add_tmod v w;rw[zE2 hw];unfold qG at *
 split
 ·rename_i h;have h2:v<0:=AQ fun k=>by
   have:=Int.tmod_nonneg w (show 0≤v by omega);omega
  have h3 : -4611686018427387904<v.tdiv w-1:=by
   by_cases e:w=1
   ·subst e;rw[Int.tmod_one] at h;omega
   ·refine AQ fun k=>?_;have h4:v.tdiv w≤-4611686018427387903:=by omega
    have h5:w*v.tdiv w≤2*v.tdiv w:=Int.mul_le_mul_of_nonpos_right (by omega) (by omega);have h6:=Int.lt_tmod_of_pos v hw;have h7:=Int.tmod_lt_of_pos v hw;omega
  omega
 ·omega
theorem jb (s:Sch) (hs:yg s) (c lev v:Int):Spc Tryz.prog zq [schT s,vI c,vI lev,vI v] [] (vI (qK s c lev v)) []:=by
 refine qd zd7 mixm (by simp) fun e _ hst=>qg ?_;unfold KQ;refine sW ?_;refine C1.im (yl s hs c) (by rfl) (by rfl) ?_;refine sW ?_;refine C1.im (kf lev 0 (finI s c)) (by rfl) (by rfl) ?_;simp only[tZ,↓un_u,simprocAttr,Bx,Bz];refine⟨fun h=>?_,fun h=>?_⟩
 ·rw[qK,Aj h];exact .oA [] []
 rw[Ji] at h;obtain⟨hE,c1,c2,hfin⟩:=yT (s:=s) (c:=c) (by omega);have hok:=qR hE;obtain⟨i,rfl⟩:=AJ (show 0≤c by omega);rw[Ax] at hfin;have hi:i<s.cols.length:=by omega
 have hat:qk s i=s.cols[i]:=by rw[qk,qh hi]
 have hk:=za (hok.cs i hi);have hcd:=fun e=>hok.cdl hi e;have hwd:=fun e l=>hok.wid hi (by omega) e (lev:=l);have hcl:qJ s i=s.lists.getD s.cols[i].list.toNat default:=by rw[qJ,hat]
 have hE2:qK s i lev v=if s.cols[i].kind=2 then (if jo s i v=false then -1 else upC (qJ s i) v lev)
  else if v≠yk∧inB v (-1000000) 1000000=false then -1
  else if lev=0 then 0 else if v=yk then v else qG v (qD s.cols[i] lev)*qD s.cols[i] lev:=by
  rw[qK,Aq (by rw[Ez,Ji];exact h),Ax,hat]
 rw[hE2];rw[hat] at hk hcd hwd hfin;rw[hcl] at hcd ⊢
 simp only[tZ,↓un_u,simprocAttr,Ax,qe hi];have hho:=qH8 s hok i hi v;generalize s.cols[i]=x at hk hcd hwd hfin ⊢
 simp only[tZ,↓un_u,simprocAttr,AY,Ak];refine⟨by omega,fun h2=>?_,fun h2=>?_⟩
 ·rw[Aj h2];obtain⟨d1,d2⟩:=hcd h2;obtain⟨d3,d4⟩:=hk.2.2.2.1 h2;have hgl:s.lists.getD x.list.toNat default=s.lists[x.list.toNat]:=qh d1;rw[hgl] at d2 ⊢
  obtain⟨_,d5,d6⟩:=zg d2;refine C1.im hho (by rfl) (by rfl) ?_;simp only[tZ,↓un_u,simprocAttr,Bx,Bz];refine⟨fun h3=>?_,fun h3=>?_⟩
  ·rw[Aj h3];exact .oA [] []
  rw[Aq (by rw[h3];simp)];simp only[tZ,↓un_u,simprocAttr,qe d1];generalize s.lists[x.list.toNat]=l at d2 d5 d6 ⊢
  refine⟨by omega,?_⟩;refine C1.im (zw5 l v lev (by omega)) (by rfl) (by rfl) ?_;refine sW ?_;exact .oA [] []
 rw[Aq h2];rw[Aq h2] at hfin;refine C2.im (fun _=>kf v (-1000000) 1000000) (fun _=>rfl) (by rfl) ?_;simp only[tZ,↓un_u,simprocAttr,tD,Bj,Aw,Bx,Bz,AY,Ak];rw[show (-1099511627776:Int)=yk from rfl];refine⟨fun h3=>?_,fun h3=>?_⟩
 ·rw[Aj h3];exact .oA [] []
 rw[Aq (by grind)];refine⟨fun h4=>?_,fun h4=>?_⟩
 ·rw[Aj h4];exact .oA [] []
 rw[Aq h4];refine⟨fun h5=>?_,fun h5=>?_⟩
 ·rw[Aj h5];exact .oA [] []
 rw[Aq h5];have hv:inB v (-1000000) 1000000=true:=by grind
 rw[Ji] at hv;obtain⟨w1,w2,w3,w4,_⟩:=hwd h2 lev (by omega);have hfm:=qo7 (v:=v) (w:=qD x lev) (by omega);have hw:IntKind.i64.wrap (qG v (qD x lev)*qD x lev)=qG v (qD x lev)*qD x lev:=AK _ (by omega);refine C1.im (Kq x lev (by omega) (by omega)) (by rfl) (by rfl) ?_;refine sW ?_;refine C1.im (qH9 v (qD x lev) (by omega) (by omega)) (by rfl) (by rfl) ?_;simp only[tZ,↓un_u,simprocAttr,hw];exact .oA [] []
theorem YM (s:Sch) (hok:SchOk s) (i:Nat) (hi:i<s.cols.length) (h2:(qk s i).kind=2):Spc Tryz.prog yj [schT s,vI i] [] (vIs (qQ s i)) []:=by
 have hat:qk s i=s.cols[i]:=by rw[qk,qh hi]
 obtain⟨d1,d2⟩:=hok.cdl hi h2;obtain⟨d3,d4⟩:=(za (hok.cs i hi)).2.2.2.1 h2;have hcl:qJ s i=s.lists.getD s.cols[i].list.toNat default:=by rw[qJ,hat]
 rw[hcl] at d2;rw[hat] at d1 d3 d4;have hgl:s.lists.getD s.cols[i].list.toNat default=s.lists[s.cols[i].list.toNat]:=qh d1;rw[hgl] at d2;obtain⟨_,d5,d6⟩:=zg d2;rw[qQ,hcl,hgl];have hlv:=qo5 (l:=s.lists[s.cols[i].list.toNat]);have hw2:IntKind.i64.wrap (zh s.lists[s.cols[i].list.toNat]-1)=zh s.lists[s.cols[i].list.toNat]-1:=AK _ (by omega);refine qd zf4 mixm (by simp) fun e _ hst=>qg ?_;unfold KZ;simp only[tZ,↓un_u,simprocAttr,Ax,qe hi,qe d1];refine⟨by omega,by omega,by kernel_rfl,?_⟩;refine C1.im (YK _ (by omega)) (by rfl) (by rfl) ?_;simp only[tZ,↓un_u,simprocAttr,hw2];refine C1.im (jr7 _ _ (by omega)) (by rfl) (by rfl) ?_;refine sW ?_;refine⟨by kernel_rfl,?_⟩;exact .oA [] []
theorem zS8 (s:Sch) (hs:yg s) (p:Pk):Spc Tryz.prog ql4 [schT s,pkT p] [] (vI (QU s p)) []:=by
 refine qd zC3 mixm (by simp) fun e _ hst=>qg ?_;unfold qf1;refine sW ?_;refine C1.im (kF s hs) (by rfl) (by rfl) ?_;simp only[tZ,↓un_u,simprocAttr,tD,Bj,Aw];refine⟨fun h=>?_,fun h=>⟨fun h2=>?_,fun h2=>?_⟩⟩
 ·rw[QU,Aj h];exact .oA [] []
 ·rw[QU,Aq (by rw[h];simp),Aj (by omega)];exact .oA [] []
 rw[QU,Aq (by rw[h];simp),Aq (by omega)];refine C1.im (yl s hs p.col) (by rfl) (by rfl) ?_;refine sW ?_;refine C1.im (kf p.lev 0 (finI s p.col)) (by rfl) (by rfl) ?_;simp only[tZ,↓un_u,simprocAttr,Bx,Bz];refine⟨by kernel_rfl,fun h3=>?_,fun h3=>?_⟩
 ·rw[Aj h3];exact .oA [] []
 ·rw[Aq (by rw[h3];simp)];exact .oA [] []
theorem jT4 {x y:Pk}:eqPk x y=true↔x=y:=by
 cases x;cases y;simp [eqPk]
theorem js0 {a b:List Pk}:qH6 a b=true↔a=b:=qD1 fun x y=>jT4
theorem qP4 (a b:List Pk) (ha:a.length<4611686018427387904):Spc Tryz.prog Zl [vPs a,vPs b] [] (vB (qH6 a b)) []:=by
 refine qd qD5 mixm (by simp) fun e _ hst=>qg ?_;unfold Qz;simp only[tZ,↓un_u,simprocAttr,Bj,Aw];refine⟨fun h=>?_,fun h=>?_⟩
 ·rw[qH6,qZ3 (by omega)];exact .oA [] []
 have hl:a.length=b.length:=by omega
 refine qu mixm (α:=Nat) [5] (fun i=>i≤a.length∧(qH6 (a.take i) (b.take i)=true)) (fun i=>[(5,vI i)]) (fun i=>[]) (fun i=>a.length-i) 0 ⟨by omega,?_⟩ ?_ fun i hi=>?_
 ·rfl
 ·exact .oA [] []
 simp only[tZ,↓un_u,simprocAttr,AZ,Ay];refine⟨fun h=>?_,fun h=>?_⟩
 ·have hib:i<b.length:=by omega
  have hi2:i<a.length:=by omega
  have hwi:=qj (i:=i) (by omega);simp only[tZ,↓un_u,simprocAttr,Ax,qe hi2,hwi,qe hib];rw[show (a[i].col==b[i].col&&a[i].lev==b[i].lev)=eqPk a[i] b[i] from rfl];refine⟨by omega,by omega,by kernel_rfl,fun h3=>?_,fun h3=>⟨i+1,⟨by omega,?_⟩,by omega,?_⟩⟩
  ·rw[qH6,qx1 (i:=i) hl (by omega) h3];exact .oA [] []
  ·rw[qH6,qr2 hi2 hib,← qH6,hi.2];simpa using h3
  ·exact .oA [] []
 ·have hi2:i=a.length:=by omega
  subst hi2;have h3:=hi.2;rw[Bw,List.take_of_length_le (by omega)] at h3;rw[h3];exact .oA [] []
end Go.Proofs
namespace Go.Proofs
open Go Go.TL
theorem qb0 {s:Sch} (h:SchOk s) {i:Nat} (hi:i<s.cols.length) (h2:(qk s i).kind=2):(qQ s i).length≤60:=by
 obtain⟨d1,d2⟩:=h.cdl hi h2;obtain⟨_,d5,d6⟩:=zg d2;unfold qQ atL;rw[Aq (by rw[d2];simp),BY];have:=Fx (fun i=>(dep (qJ s i).codes i:Int)==zh (qJ s i)-1) (List.range (qJ s i).codes.length);refine FZ (Fx _ _) ?_;rw[List.length_range];exact d6
theorem zi0 (s:Sch) (hok:SchOk s) (i o lev:Nat) (hi:i<s.cols.length) (h0:0<i) (hl:(lev:Int)≤finI s i):Spc Tryz.prog KM [schT s,vI i,vI o,vI lev] [] (vB (divB s i o lev)) []:=by
 have hat:qk s i=s.cols[i]:=by rw[qk,qh hi]
 obtain⟨hE,c1,c2,hfin⟩:=yT (s:=s) (c:=i) (by omega);rw[Ax,hat] at hfin;have hwd:=fun e l=>hok.wid hi (by omega) e (lev:=l);have hlv:=YM s hok i hi;have hll:=qb0 hok hi;rw[hat] at hwd hlv hll;have hE2:divB s i o lev=if lev=0∨lev≤o then true
  else if s.cols[i].kind=2 then qA5 (qQ s i).length (divP s i (qQ s i) o lev)
  else if o=0 then !s.cols[i].opt&&decide ((qG s.cols[i].low (qD s.cols[i] lev)+1)*qD s.cols[i] lev>s.cols[i].high)
  else divM s.cols[i].high (qD s.cols[i] lev) (qD s.cols[i] o) 2 ((qG s.cols[i].low (qD s.cols[i] lev)+1)*qD s.cols[i] lev):=by rw[divB,hat]
 rw[hE2];refine qd qW1 mixm (by simp) fun e _ hst=>qg ?_;unfold JK;simp only[tZ,↓un_u,simprocAttr,Ax,qe hi];generalize s.cols[i]=x at hwd hlv hfin hll ⊢
 simp only[tZ,↓un_u,simprocAttr,tD,AY,Ak];refine⟨by omega,fun h=>?_,fun h=>?_⟩
 ·rw[Aj (by omega)];exact .oA [] []
 rw[Aq (by omega)];refine⟨fun h2=>?_,fun h2=>?_⟩
 ·rw[Aj h2];refine C1.im (hlv h2) (by rfl) (by rfl) ?_;generalize qQ s i=L at hll ⊢
  have hll:=hll h2;refine sW ?_;refine qu mixm (α:=Nat) [11] (fun j=>j≤L.length∧qA5 j (divP s i L o lev)=true) (fun j=>[(11,vI j)]) (fun j=>[(4096,.arr 2 [schT s] false),(8212,.arr 7 [colT x] false)]) (fun j=>L.length-j) 0 ⟨by omega,rfl⟩ ?_ fun j hj=>?_
  ·exact .oA [(4096,some 4096),(8212,some 8212)] []
  obtain⟨j1,j2⟩:=hj;refine sD ?_;refine⟨fun h3=>?_,fun h3=>?_⟩
  ·have hj2:j<L.length:=by omega
   have hwj:=qj (i:=j) (by omega);have hgj:L.getD j 0=L[j]:=qh hj2;refine qu mixm (α:=Nat) [12] (fun k=>k≤j∧(List.range k).all (divP s i L o lev j)=true) (fun k=>[(12,vI k)]) (fun k=>[(4096,.arr 2 [schT s] false),(8212,.arr 7 [colT x] false)]) (fun k=>j-k) 0 ⟨by omega,rfl⟩ ?_ fun k hk=>?_
   ·exact .oA [(4096,some 4096),(8212,some 8212)] []
   obtain⟨k1,k2⟩:=hk;refine sD ?_;refine⟨fun h4=>?_,fun h4=>?_⟩
   ·have hk2:k<L.length:=by omega
    have hwk:=qj (i:=k) (by omega);have hgk:L.getD k 0=L[k]:=qh hk2;have hP:divP s i L o lev j k=!(!(qK s i lev L[j]==qK s i lev L[k])&&(qK s i o L[j]==qK s i o L[k])):=by rw[divP,hgj,hgk]
    have hC1:=jb s hok.sm i o L[j];have hC2:=jb s hok.sm i o L[k];simp only[tZ,↓un_u,simprocAttr,Ax,qe hj2,qe hk2];refine⟨by omega,?_⟩;refine C1.im (jb s hok.sm i lev L[j]) (by rfl) (by rfl) ?_;simp only[tZ,↓un_u,simprocAttr,Ax,qe hj2,qe hk2];refine⟨by omega,?_⟩;refine C1.im (jb s hok.sm i lev L[k]) (by rfl) (by rfl) ?_;simp only[tZ,↓un_u,simprocAttr,Ax,qe hj2,qe hk2];refine⟨fun _=>by omega,?_⟩;refine C2.im (fun _=>hC1) (fun _=>rfl) (by rfl) ?_;simp only[tZ,↓un_u,simprocAttr,Ax,qe hj2,qe hk2];refine⟨fun _=>by omega,?_⟩;refine C2.im (fun _=>hC2) (fun _=>rfl) (by rfl) ?_;simp only[tZ,↓un_u,simprocAttr,hwk,tD,Bj,Aw,AY,Ak];refine⟨by kernel_rfl,fun h5=>?_,fun h5=>?_⟩
    ·rw[zE4 hj2 (show k<j by omega) (by rw[hP];grind)];exact .oA [] []
    ·refine⟨k+1,⟨by omega,?_⟩,by omega,?_⟩
     ·rw[qI0,k2,hP];grind
     ·exact .oA [(4096,some 4096),(8212,some 8212)] []
   ·have hkj:k=j:=by omega
    subst hkj;simp only[tZ,↓un_u,simprocAttr,hwj];refine⟨k+1,⟨by omega,?_⟩,by omega,?_⟩
    ·rw[qP2,j2,k2];rfl
    ·exact .oA [(4096,some 4096),(8212,some 8212)] []
  ·have hjl:j=L.length:=by omega
   subst hjl;rw[j2];exact .oA [] []
 rw[Aq h2] at hfin;rw[Aq h2];obtain⟨w1,w2,w3,w4,w5,w6,w7,_⟩:=hwd h2 lev (by omega);generalize hW:qD x lev=w at w1 w2 ⊢
 have hfm:=qo7 (v:=x.low) (w:=w) (by omega);have hfl:=jT3 (v:=x.low) (w:=w) (by omega) (by omega);have hw1:IntKind.i64.wrap (qG x.low w+1)=qG x.low w+1:=AK _ (by omega);have hw2:IntKind.i64.wrap ((qG x.low w+1)*w)=(qG x.low w+1)*w:=AK _ (by rw[Int.add_mul];omega);have hF : -3000000≤(qG x.low w+1)*w∧(qG x.low w+1)*w≤3000000:=by rw[Int.add_mul];omega
 refine C1.im (Kq x lev (by omega) (by omega)) (by rfl) (by rfl) ?_;rw[hW];refine sW ?_;refine C1.im (qH9 x.low w (by omega) (by omega)) (by rfl) (by rfl) ?_;simp only[tZ,↓un_u,simprocAttr,hw1,hw2];generalize (qG x.low w+1)*w=F at hF ⊢
 simp only[tZ,↓un_u,simprocAttr,AY,Ak];refine⟨fun h3=>?_,fun h3=>?_⟩
 ·rw[Aj (by omega)];exact .oA [] []
 rw[Aq (by omega)];obtain⟨v1,v2,_⟩:=hwd h2 o (by omega);have hwo:=Kq x o (by omega) (by omega);generalize qD x o=wo at v1 v2 hwo ⊢
 refine qu mixm (α:=Nat×Int) [14,15] (fun y=>y.1≤2∧divM x.high w wo 2 F=divM x.high w wo (2-y.1) y.2∧-3000000-1000000*y.1≤y.2∧y.2≤3000000+1000000*y.1) (fun y=>[(14,vI y.2),(15,vI y.1)]) (fun y=>[(4096,.arr 2 [schT s] false),(8212,.arr 7 [colT x] false)]) (fun y=>2-y.1) (0,F) ⟨by simp,rfl,by simp;omega,by simp;omega⟩ ?_ fun y hy=>?_
 ·exact .oA [(4096,some 4096),(8212,some 8212)] []
 obtain⟨n,f⟩:=y;obtain⟨y1,y2,y3,y4⟩:=hy;dsimp only at y1 y2 y3 y4;have hwn:=qj (i:=n) (by omega);have hwf:IntKind.i64.wrap (f+w)=f+w:=AK _ (by omega);rw[y2];refine sD ?_;refine⟨fun h4=>?_,fun h4=>?_⟩
 ·obtain⟨m,hm⟩:∃ m,2-n=m+1:=⟨1-n,by omega⟩;refine C1.im hwo (by rfl) (by rfl) ?_;simp only[tZ,↓un_u,simprocAttr,Bj,Aw];rw[hm,divM,Aq (by omega)];refine⟨by omega,fun h5=>?_,fun h5=>?_⟩
  ·rw[Aj h5];exact .oA [] []
  ·simp only[tZ,↓un_u,simprocAttr,hwn,hwf];refine⟨(n+1,f+w),⟨by dsimp only;omega,?_,by dsimp only;omega,by dsimp only;omega⟩,by dsimp only;omega,?_⟩
   ·dsimp only;rw[Aq (by rw[h5];simp),show 2-(n+1)=m by omega]
   ·exact .oA [(4096,some 4096),(8212,some 8212)] []
 ·have:divM x.high w wo (2-n) f=true:=by
   by_cases e:n=2
   ·subst e;rfl
   ·obtain⟨m,hm⟩:∃ m,2-n=m+1:=⟨1-n,by omega⟩;rw[hm,divM,Aj (by omega)]
  rw[this];exact .oA [] []
theorem zE6 (s:Sch) (i lev:Nat):divB s i lev lev=true:=by unfold divB;rw[Aj (by omega)]
theorem qo8 {s:Sch} {c:Int} (h:schE s=0):finI s c≤59:=by
 by_cases h0:0≤finI s c
 ·obtain⟨_,h1,h2,h3⟩:=yT h0;rw[h3];split
  ·have:=qo5 (l:=qJ s c.toNat);omega
  ·rename_i h4;have hok:=qR h;by_cases e:(qk s c.toNat).widths.length=0
   ·omega
   ·have:=hok.wid (i:=c.toNat) (by omega) (by omega) h4 (lev:=1) (by omega);omega
 ·omega
theorem qI1 (s:Sch) (hs:yg s) (c lev:Int):Spc Tryz.prog Kd [schT s,vI c,vI lev] [] (vI (jQ s c lev)) []:=by
 refine qd zo2 mixm (by simp) fun e _ hst=>qg ?_;unfold Yn;refine sW ?_;refine C1.im (yl s hs c) (by rfl) (by rfl) ?_;refine sW ?_;refine C1.im (kf lev 0 (finI s c)) (by rfl) (by rfl) ?_;simp only[tZ,↓un_u,simprocAttr,Bx,Bz];refine⟨fun h=>?_,fun h=>?_⟩
 ·rw[jQ,Aj h];exact .oA [] []
 rw[jQ,Aq (by rw[h];simp)];rw[Ji] at h;obtain⟨hE,c1,c2,hfin⟩:=yT (s:=s) (c:=c) (by omega);have hfl:=qo8 (c:=c) hE;have hok:=qR hE;obtain⟨i,rfl⟩:=AJ (show 0≤c by omega);obtain⟨v,rfl⟩:=AJ h.1;simp only[Ax];refine qu mixm (α:=Nat) [7] (fun n=>n≤v∧Wo (fun n=>divB s i n v) 64 0=Wo (fun n=>divB s i n v) (64-n) n) (fun n=>[(7,vI n)]) (fun n=>[(4096,.arr 2 [schT s] false)]) (fun n=>v-n) 0 ⟨by omega,rfl⟩ ?_ fun n hn=>?_
 ·exact .oA [(4096,some 4096)] []
 obtain⟨n1,n2⟩:=hn;have hwn:=qj (i:=n) (by omega);refine sW ?_;refine C1.im (zi0 s hok i n v (by omega) (by omega) h.2) (by rfl) (by rfl) ?_;simp only[tZ,↓un_u,simprocAttr,Bx,Bz,hwn];have e:64-n=(63-n)+1:=by omega
 rw[n2,e,Wo];refine⟨fun h3=>?_,fun h3=>?_⟩
 ·have hnv:n≠v:=fun k=>by rw[k,zE6] at h3;cases h3
  refine⟨n+1,⟨by omega,?_⟩,by omega,?_⟩
  ·rw[Aq (by rw[h3];simp),show 63-n=64-(n+1) by omega]
  ·exact .oA [(4096,some 4096)] []
 ·rw[Aj h3];exact .oA [] []
end Go.Proofs
namespace Go.Proofs
open Go Go.TL
abbrev cnT (c:Cnd):T:=.agg [vI c.op,vI c.col,vI c.code,vI c.lo,vI c.hi,vCs c.kids]
theorem jT5 (c:Cnd):(cndT c).cells.length=6∧imL (cndT c).cells=true:=by rw[zp];exact⟨rfl,rfl⟩
theorem WQ {α:Type} {f:α→T} {l:List α} {i:Nat} (h:l.length≤i):(l.map f).getD i .junk = .junk:=by simp [List.getD,h]
theorem zE7 {α:Type} {l:List α} {i:Nat} (h:i<l.length):l.drop i=l[i]::l.drop (i+1):=List.drop_eq_getElem_cons h
theorem zE8:∀ (c:Cnd) (m:Int),1≤m→m≤1000→Spc Tryz.prog Kh [cnT c,vI m] [] (vI (cntC c m)) []:=by
 refine Cnd.ind' fun c ih m hm hm2=>?_;rw[YL];refine qd zr0 mixm (by simp) fun e _ hst=>qg ?_;unfold YB;refine sW ?_;refine qu mixm (α:=Nat×Int) [5,6] (fun y=>y.1≤c.kids.length∧wy c.kids m 1=wy (c.kids.drop y.1) m y.2∧y.2≤m∧y.1+1≤y.2) (fun y=>[(5,vI y.2),(6,vI y.1)]) (fun y=>[(4096,.arr 6 [cnT c] false)]) (fun y=>c.kids.length-y.1) (0,1) ⟨by simp,rfl,hm,by simp⟩ ?_ fun y hy=>?_
 ·exact .oA [(4096,some 4096)] []
 obtain⟨i,n⟩:=y;obtain⟨y1,y2,y3,y4⟩:=hy;dsimp only at y1 y2 y3 y4;rw[y2];refine sD ?_;refine⟨fun h=>?_,fun h=>?_⟩
 ·have hi:i<c.kids.length:=by omega
  have hwi:=qj (i:=i) (by omega);have hw:IntKind.i64.wrap (m-n)=m-n:=AK _ (by omega);have hc:=qT1 c.kids[i] (m-n) (by omega);have hw2:IntKind.i64.wrap (n+cntC c.kids[i] (m-n))=n+cntC c.kids[i] (m-n):=AK _ (by omega);simp only[tZ,↓un_u,simprocAttr,Ax,qe hi,zp,hw];refine⟨by omega,?_⟩;refine C1.im (ih _ (AX hi) (m-n) (by omega) (by omega)) (by rfl) (by rfl) ?_;simp only[tZ,↓un_u,simprocAttr,hw2,hwi];refine⟨(i+1,n+cntC c.kids[i] (m-n)),⟨by dsimp only;omega,?_,by dsimp only;omega,by dsimp only;omega⟩,by dsimp only;omega,?_⟩
  ·dsimp only;rw[zE7 hi,wy,Aj (by omega)]
  ·exact .oA [(4096,some 4096)] []
 ·have:wy (c.kids.drop i) m n=n:=by
   by_cases hi:i<c.kids.length
   ·rw[zE7 hi,wy,Aq (by omega)]
   ·rw[List.drop_of_length_le (by omega),wy]
  rw[this];exact .oA [] []
theorem qP5:∀ (l:List Cnd) (k:Cnd),kH (l++[k])=max (kH l) (depC k)
 | [],k=>by simp [kH]
 | x::r,k=>by rw[BW,kH,qP5 r k,kH];omega
theorem qP6:∀ (l:List Cnd) (i:Nat),kH (l.take i)≤kH l
 | [],i=>by simp
 | x::r,0=>by simp [kH]
 | x::r,i+1=>by rw[List.take_succ_cons,kH,kH];have:=qP6 r i;omega
theorem qI2:∀ {l:List Cnd} {m n:Int},n≤m→wy l m n<m→n+l.length≤wy l m n∧∀ k∈l,∃ m',1≤m'∧m'≤m-n∧cntC k m'<m'
 | [],m,n,_,h=>by rw[wy];simp
 | x::r,m,n,h1,h=>by
   rw[wy] at h ⊢
   split at h
   ·rename_i h2;rw[Aj h2];have h3:=qT1 x (m-n) (by omega);obtain⟨h4,h5⟩:=qI2 (l:=r) (by omega) h;refine⟨by rw[CJ];omega,fun k hk=>?_⟩;rcases Ck.1 hk with e | hk
    ·subst e;exact⟨m-n,by omega,by omega,by omega⟩
    ·obtain⟨m',a,b,c⟩:=h5 k hk;exact⟨m',a,by omega,c⟩
   ·omega
theorem zE9:∀ (c:Cnd) (m:Int),1≤m→m≤1000→cntC c m<m→Spc Tryz.prog Ki [cnT c] [] (vI (depC c)) []:=by
 refine Cnd.ind' fun c ih m hm hm2 hc=>?_;have hd:=jI6 c m hm hc;rw[YL] at hc hd;obtain⟨hk1,hk2⟩:=qI2 (by omega) hc;rw[qP0] at hd ⊢
 refine qd zr2 mixm (by simp) fun e _ hst=>qg ?_;unfold YC;refine sW ?_;refine qu mixm (α:=Nat) [3,4] (fun i=>i≤c.kids.length) (fun i=>[(3,vI (kH (c.kids.take i))),(4,vI i)]) (fun i=>[(4096,.arr 6 [cnT c] false)]) (fun i=>c.kids.length-i) 0 (by omega) ?_ fun i hi=>?_
 ·refine .of [(4096,some 4096)] [] rfl (by first | rfl | (rw[hst];rfl)) ?_ ?_
  all_goals (try simp only[tL,simprocAttr,By,List.map_cons,List.map_nil,BW,Cy,List.take_zero,kH])
  all_goals (try (repeat' (first | exact zb | (apply zy;intro _;exact⟨rfl,rfl⟩) | (apply qE;intro _;exact⟨rfl,rfl⟩) | with_reducible apply qW | with_reducible refine qS ⟨rfl,rfl⟩ ?_ | exact qY | with_reducible apply qT | with_reducible refine qV ⟨rfl,rfl,?_⟩ ?_ | with_reducible apply Az | exact qU rfl | exact qU (by assumption) | (refine⟨⟨?_,rfl,?_,rfl,?_⟩,trivial⟩ <;> first | (simp;done) | (apply qE;intro _;exact⟨rfl,rfl⟩)) | trivial | rfl | (rw[qj (by omega)]) | omega)))
 have hdt:=qP6 c.kids i;refine sD ?_;refine⟨fun h=>?_,fun h=>?_⟩
 ·have hi2:i<c.kids.length:=by omega
  have hwi:=qj (i:=i) (by omega);have hs:kH (c.kids.take (i+1))=max (kH (c.kids.take i)) (depC c.kids[i]):=by rw[qH hi2,qP5]
  obtain⟨m',a1,a2,a3⟩:=hk2 _ (AX hi2);simp only[tZ,↓un_u,simprocAttr,Ax,qe hi2,zp];refine⟨by omega,?_⟩;refine C1.im (ih _ (AX hi2) m' a1 (by omega) a3) (by rfl) (by rfl) ?_;have hmx:maxI (kH (c.kids.take i):Int) (depC c.kids[i])=(kH (c.kids.take (i+1)):Int):=by rw[hs];unfold maxI;omega
  simp only[tZ,↓un_u,simprocAttr,hwi,hmx];refine⟨i+1,by omega,by omega,?_⟩;exact .oA [(4096,some 4096)] []
 ·have hil:i=c.kids.length:=by omega
  subst hil;rw[Bw] at hdt ⊢
  have hw:=qj (i:=kH c.kids) (by omega);simp only[tZ,↓un_u,simprocAttr,hw];exact .oA [] []
theorem zd (s:Sch) (col kind:Int):Spc Tryz.prog YY [schT s,vI col,vI kind] [] (vB (isB s col kind)) []:=by
 by_cases h:0≤col∧col<s.cols.length
 ·obtain⟨i,rfl⟩:=AJ h.1;have hi:i<s.cols.length:=by omega
  have e1:decide ((i:Int)≥0)=true:=Cx (by omega);have e2:decide ((i:Int)<s.cols.length)=true:=Cx (by omega);have e3:isB s i kind=(s.cols[i].kind==kind):=by
   rw[isB,Ax,qk,qh hi,Cx h.1,Cx h.2];rfl
  refine qd qz9 mixm (by simp) fun e _ hst=>qg ?_;unfold Wn;simp only[tZ,↓un_u,simprocAttr,e1,e2,Ax,qe hi];rw[e3];refine⟨by omega,?_⟩;exact .oA [] []
 ·have e1:(decide (col≥0)&&decide (col<(s.cols.length:Int)))=false:=by
   rw[FJ,Ay,Ay];omega
  have e3:isB s col kind=false:=by
   unfold isB;rw[show (decide (0≤col)&&decide (col<(s.cols.length:Int)))=false from e1];rfl
  rcases Nat.lt_or_ge col.toNat s.cols.length with hk | hk
  ·refine qd qz9 mixm (by simp) fun e _ hst=>qg ?_;unfold Wn;simp only[tZ,↓un_u,simprocAttr,e1,qe hk];rw[e3];exact .oA [] []
  ·have hj:(s.cols.map colT).getD col.toNat .junk = .junk:=WQ hk;refine qd qz9 mixm (by simp) fun e _ hst=>qg ?_;unfold Wn;simp only[tZ,↓un_u,simprocAttr,e1,hj,List.drop_succ_cons,List.drop_nil];rw[e3];exact .oA [] []
end Go.Proofs
