/- A part of the proof: trees of Go values, short forms, contracts. -/
import Derived.WalkKit
import Derived.Still
import Derived.MapKept
import GoSem.Builtin.Cap
import Derived.Laws.Externs
import GoSem.Extern.SlicesOverlaps
import Derived.Carry
import Derived.ProofKit
import Derived.OpenShut
import Derived.HandedShaped
import Derived.Lay
import Derived.LaidLaws
import Derived.MakeChecks
import Derived.SevenTiedAt
import Derived.Test.YtpmgddadeedmbaaGreatDoorChecked
import Derived.Test.YtpmgddadeedmbaaGreatDoorK15
set_option linter.unusedSimpArgs false
set_option linter.unusedVariables false
namespace Go.Proofs
open Go Go.TL
theorem jW (n lo hi:Int):Spc Tryz.prog zZ [vI n,vI lo,vI hi] [] (vB (inB n lo hi)) []:=by
 refine qd zU5 mixm (by simp) fun e _ hst=>qg ?_;unfold qw1;refine sW ?_;rw[show (decide (lo≤n)&&decide (n≤hi))=inB n lo hi from rfl];exact .oA [] []
theorem zN8 {ws:List Int}:∀ {i:Nat},(∀ j,j<i→wdOk ws j=true)→∀ j,j<i→1≤ws.getD j 0
 | 0,_,j,h=>by omega
 | i+1,hw,j,h=>by
   have ih:=zN8 (ws:=ws) (i:=i) fun j hj=>hw j (by omega);have:=hw j h;unfold wdOk at this;split at this
   ·rename_i e;subst e;have:ws.getD 0 0=1:=by simpa using this
    omega
   ·simp only[Bq,AZ] at this;have:=ih (j-1) (by omega);omega
theorem ze7 (c:Col):Spc Tryz.prog KL [colT c] [] (vI (measE c)) []:=by
 refine qd qU4 mixm (by simp) fun e _ hst=>qg ?_;unfold JK;refine sW ?_;refine C1.im (jW c.low (-1000000) 1000000) (by rfl) (by rfl) ?_;refine sW ?_;refine C2.im (fun _=>jW c.high (-1000000) 1000000) (fun _=>rfl) (by rfl) ?_;simp only[tZ,↓un_u,simprocAttr,tD,Bx,Bz];refine⟨fun h=>?_,fun h=>?_⟩
 ·rw[measE,Aj (by grind)];exact .oA [] []
 ·refine⟨fun h2=>?_,fun h2=>?_⟩
  ·rw[measE,Aq (by grind),Aj (by grind)];exact .oA [] []
  ·have hm:measE c=if jN6 c.widths=false then 2 else 0:=by rw[measE,Aq (by grind),Aq (by grind)]
   refine qu mixm (α:=Nat) [3] (fun i=>i≤c.widths.length∧(∀ j,j<i→wdOk c.widths j=true)) (fun i=>[(3,vI i)]) (fun i=>[(4096,.arr 7 [colT c] false)]) (fun i=>c.widths.length-i) 0 ⟨by omega,?_⟩ ?_ fun i hi=>?_
   ·intro j hj;omega
   ·exact .oA [(4096,some 4096)] []
   have hbad:i<c.widths.length→wdOk c.widths i=false→measE c=2:=fun h1 h2=>by
    rw[hm,Aj];exact List.all_eq_false.2 ⟨i,List.mem_range.2 h1,by rw[h2];simp⟩
   have hok:wdOk c.widths i=true→∀ j,j<i+1→wdOk c.widths j=true:=fun h1 j hj=>by
    by_cases e:j=i
    ·rw[e];exact h1
    ·exact hi.2 j (by omega)
   simp only[tZ,↓un_u,simprocAttr,AZ,Ay];refine⟨fun h=>?_,fun h=>?_⟩
   ·rcases Nat.eq_zero_or_pos i with h0 | h0
    ·subst h0;have hw0:wdOk c.widths 0=(c.widths.getD 0 0==1):=by rw[wdOk,Aj rfl]
     have hlen:0<c.widths.length:=by omega
     rw[qh hlen] at hw0;have hz:((0:Nat):Int)=0:=rfl;have hz2:(IntKind.i64.wrap (-1)).toNat=0:=by decide
     have hz3:=qj (i:=0) (by omega);rw[hz] at hz3;simp only[tZ,↓un_u,simprocAttr,Ax,hz,beq_self_eq_true,gt_iff_lt,Int.lt_irrefl,Bool.true_and,hz2,qe hlen,hz3];refine⟨by omega,fun h3=>?_,fun h3=>?_⟩
     ·rw[hbad hlen (by rw[hw0];simpa using h3)];exact .oA [] []
     ·refine⟨1,⟨by omega,hok (by rw[hw0];simpa using h3)⟩,by omega,?_⟩;exact .oA [(4096,some 4096)] []
    ·obtain⟨k,rfl⟩:∃ k,i=k+1:=⟨i-1,by omega⟩;have hk2:k+1<c.widths.length:=by omega
     have hk3:k<c.widths.length:=by omega
     have e1:(((k+1:Nat):Int)==0)=false:=beq_eq_false_iff_ne.2 (by omega);have e2:decide (((k+1:Nat):Int)>0)=true:=decide_eq_true (by omega);have hw1:wdOk c.widths (k+1)=(decide (c.widths[k]<c.widths[k+1])&&decide (c.widths[k+1]≤1000000)&&(c.widths[k+1].tmod c.widths[k]==0)):=by
          rw[wdOk,Aq (by omega),Nat.add_sub_cancel,qh hk2,qh hk3]
     have hp1:=zN8 (ws:=c.widths) hi.2 k (by omega);rw[qh hk3] at hp1;have hws:=qj (i:=k+1) (by omega);have e3:=ka (i:=k+1) (by omega) (by omega);rw[Nat.add_sub_cancel] at e3;simp only[tZ,↓un_u,simprocAttr,Ax,qe hk2,qe hk3,e1,e2,e3,hws];refine⟨by omega,by omega,fun _=>by omega,fun _=>by omega,fun h3=>?_,fun h3=>?_⟩
     ·rw[hbad hk2 (by rw[hw1];grind)];exact .oA [] []
     ·refine⟨k+2,⟨by omega,hok (by rw[hw1];grind)⟩,by omega,?_⟩;exact .oA [(4096,some 4096)] []
   ·have hi2:i=c.widths.length:=by omega
    subst hi2;rw[hm,Aq]
    ·exact .oA [] []
    ·rw[Bool.not_eq_false];exact List.all_eq_true.2 fun j hj=>hi.2 j (List.mem_range.1 hj)
theorem zo9 (s:Sch) (i:Nat) (hi:i<s.cols.length) (hn:s.cols.length<4611686018427387904) (hl:s.lists.length<4611686018427387904):Spc Tryz.prog WN [schT s,vI i] [] (vI (colE s i)) []:=by
 have hat:qk s i=s.cols[i]:=by rw[qk,qh hi]
 have hE:colE s i=if jm s.cols[i].name=false then 3
  else if ((s.cols.take i).any fun x=>eqB x.name s.cols[i].name)=true then 10
  else if inB s.cols[i].kind 1 3=false∨(0<i∧s.cols[i].kind=1) then 4
  else if s.cols[i].kind=2∧inB s.cols[i].list 0 (s.lists.length-1)=false then 5
  else if s.cols[i].kind=3∧measE s.cols[i]≠0 then measE s.cols[i]
  else if (s.cols[i].kind≠2∧s.cols[i].list≠0)∨(s.cols[i].kind≠3∧(s.cols[i].low≠0∨s.cols[i].high≠0∨0<s.cols[i].widths.length∨s.cols[i].opt=true)) then 11 else 0:=by rw[colE,hat]
 rw[hE];refine qd zd3 mixm (by simp) fun e _ hst=>qg ?_;unfold Wb;simp only[tZ,↓un_u,simprocAttr,Ax,qe hi];generalize s.cols[i]=c;refine⟨by omega,?_⟩;refine C1.im (yZ c.name) (by rfl) (by rfl) ?_;simp only[tZ,↓un_u,simprocAttr,Bx,Bz];refine⟨fun h=>?_,fun h=>?_⟩
 ·rw[Aj h];exact .oA [] []
 rw[Aq (by rw[h];simp)];refine qu mixm (α:=Nat) [6] (fun k=>k≤i∧(s.cols.take k).any (fun x=>eqB x.name c.name)=false) (fun k=>[(6,vI k)]) (fun k=>[(4096,.arr 2 [schT s] false),(8212,.arr 7 [colT c] false)]) (fun k=>i-k) 0 ⟨by omega,rfl⟩ ?_ fun k hk=>?_
 ·exact .oA [(4096,some 4096),(8212,some 8212)] []
 simp only[tZ,↓un_u,simprocAttr,AZ,Ay];refine⟨fun h=>?_,fun h=>?_⟩
 ·have hk2:k<s.cols.length:=by omega
  have hwk:=qj (i:=k) (by omega);simp only[tZ,↓un_u,simprocAttr,Ax,qe hk2,hwk];refine⟨by omega,by kernel_rfl,fun h7=>?_,fun h7=>?_⟩
  ·rw[Aj (List.any_eq_true.2 ⟨s.cols[k],List.mem_take_iff_getElem.2 ⟨k,by omega,rfl⟩,h7⟩)];exact .oA [] []
  ·refine⟨k+1,⟨by omega,kR hk2 hk.2 h7⟩,by omega,?_⟩;exact .oA [(4096,some 4096),(8212,some 8212)] []
 ·have hki:k=i:=by omega
  subst hki;rw[Aq (by rw[hk.2];simp)];refine C1.im (jW c.kind 1 3) (by rfl) (by rfl) ?_;simp only[tZ,↓un_u,simprocAttr,tD,Bx,Bz,AY,Ak];refine⟨fun h7=>?_,fun h7=>?_⟩
  ·rw[Aj (by grind)];exact .oA [] []
  rw[Aq (by grind)];have hw:IntKind.i64.wrap ((s.lists.length:Int)-1)=(s.lists.length:Int)-1:=AK _ (by omega);simp only[tZ,↓un_u,simprocAttr,hw];refine C2.im (fun _=>jW c.list 0 ((s.lists.length:Int)-1)) (fun _=>rfl) (by rfl) ?_;simp only[tZ,↓un_u,simprocAttr,tD,Bx,Bz,AY,Ak];refine⟨fun h8=>?_,fun h8=>?_⟩
  ·rw[Aj (by grind)];exact .oA [] []
  rw[Aq (by grind)];have hend:∀ v:Int,(if c.kind=3∧¬measE c=0 then measE c else if ¬c.kind=2∧¬c.list=0∨¬c.kind=3∧(¬c.low=0∨¬c.high=0∨0<c.widths.length∨c.opt=true) then 11 else 0)=v→Zk [] (T.v (Value.int IntKind.i64 v)) [(4096,Ob.arr 2 [schT s] false),(8212,Ob.arr 7 [colT c] false)] (vI (if c.kind=3∧¬measE c=0 then measE c else if ¬c.kind=2∧¬c.list=0∨¬c.kind=3∧(¬c.low=0∨¬c.high=0∨0<c.widths.length∨c.opt=true) then 11 else 0)) []:=fun v hv=>by
   rw[hv];exact .oA [] []
  refine⟨fun h9=>?_,fun h9=>?_⟩
  ·refine C1.im (ze7 c) (by rfl) (by rfl) ?_;simp only[tZ,↓un_u,simprocAttr,bne_iff_ne,Aw];refine⟨fun h10=>hend _ (by rw[Aj ⟨h9,h10⟩]),fun h10=>?_⟩;simp only[tZ,↓un_u,simprocAttr,tD,bne_iff_ne,Aw];exact⟨fun h11=>hend _ (by rw[Aq (by grind),Aj (by grind)]),fun h11=>hend _ (by rw[Aq (by grind),Aq (by grind)])⟩
  ·simp only[tZ,↓un_u,simprocAttr,tD,bne_iff_ne,Aw];exact⟨fun h11=>hend _ (by rw[Aq (by grind),Aj (by grind)]),fun h11=>hend _ (by rw[Aq (by grind),Aq (by grind)])⟩
theorem ze8 {s:Sch} {i:Nat} (h:Qf s i≠0):∀ n,i≤n→Qf s n=Qf s i:=by
 intro n hn
 induction n with
 | zero=>have:i=0:=by omega
         rw[this]
 | succ n ih=>
   by_cases e:i=n+1
   ·rw[e]
   ·have:=ih (by omega);rw[Qf,this,Aj h]
theorem ze9 {s:Sch} {i:Nat} (h:YY s i≠0):∀ n,i≤n→YY s n=YY s i:=by
 intro n hn
 induction n with
 | zero=>have:i=0:=by omega
         rw[this]
 | succ n ih=>
   by_cases e:i=n+1
   ·rw[e]
   ·have:=ih (by omega);rw[YY,this,Aj h]
def yR (s:Sch):Prop:=s.lists.length<4611686018427387904∧s.cols.length<4611686018427387904∧∀ l∈s.lists,l.codes.length<4611686018427387904
theorem QV (s:Sch) (hs:yR s):Spc Tryz.prog kh [schT s] [] (vI (schE s)) []:=by
 obtain⟨hs1,hs2,hs3⟩:=hs;refine qd zj9 mixm (by simp) fun e _ hst=>qg ?_;unfold Ya;refine sD ?_;refine⟨fun h=>?_,fun h=>?_⟩
 ·rw[schE,Aj (by omega)];exact .oA [] []
 have hE1:Qf s s.lists.length≠0→schE s=Qf s s.lists.length:=fun k=>by rw[schE,Aq (by omega),Aj k]
 refine qu mixm (α:=Nat) [3,17] (fun i=>i≤s.lists.length∧Qf s i=0) (fun i=>[(3,vI i)]) (fun i=>[(4096,.arr 2 [schT s] false)]) (fun i=>s.lists.length-i) 0 ⟨by omega,rfl⟩ ?_ fun i hi=>?_
 ·exact .oA [(4096,some 4096)] []
 obtain⟨i1,i2⟩:=hi;refine sD ?_;refine⟨fun h2=>?_,fun h2=>?_⟩
 ·have hi2:i<s.lists.length:=by omega
  have hwi:=qj (i:=i) (by omega);have hat:s.lists.getD i default=s.lists[i]:=qh hi2;have hstep:Qf s (i+1)=if lstE s.lists[i]≠0 then lstE s.lists[i] else if ((s.lists.take i).any fun x=>eqB x.name s.lists[i].name)=true then 10 else 0:=by
   rw[Qf,Aq (by rw[i2];simp),hat]
  have hbad:Qf s (i+1)≠0→schE s=Qf s (i+1):=fun k=>by
   have:=ze8 k s.lists.length (by omega);rw[hE1 (by rw[this];exact k),this]
  simp only[tZ,↓un_u,simprocAttr,Ax,qe hi2,hwi];refine⟨by omega,?_⟩;refine C1.im (QU s.lists[i] (hs3 _ (AX hi2))) (by rfl) (by rfl) ?_;simp only[tZ,↓un_u,simprocAttr,bne_iff_ne,Aw];refine⟨fun h3=>?_,fun h3=>?_⟩
  ·rw[Aj h3] at hstep;rw[hbad (by rw[hstep];exact h3),hstep];exact .oA [] []
  rw[Aq (by rw[h3];simp)] at hstep;refine qu mixm (α:=Nat) [5] (fun k=>k≤i∧(s.lists.take k).any (fun x=>eqB x.name s.lists[i].name)=false) (fun k=>[(5,vI k)]) (fun k=>[(4096,.arr 2 [schT s] false)]) (fun k=>i-k) 0 ⟨by omega,rfl⟩ ?_ fun k hk=>?_
  ·exact .oA [(4096,some 4096)] []
  simp only[tZ,↓un_u,simprocAttr,AZ,Ay];refine⟨fun h=>?_,fun h=>?_⟩
  ·have hk2:k<s.lists.length:=by omega
   have hwk:=qj (i:=k) (by omega);simp only[tZ,↓un_u,simprocAttr,Ax,qe hk2,qe hi2,hwk];refine⟨by omega,by omega,by kernel_rfl,fun h7=>?_,fun h7=>?_⟩
   ·rw[Aj (List.any_eq_true.2 ⟨s.lists[k],List.mem_take_iff_getElem.2 ⟨k,by omega,rfl⟩,h7⟩)] at hstep;rw[hbad (by rw[hstep];simp),hstep];exact .oA [] []
   ·refine⟨k+1,⟨by omega,kR hk2 hk.2 h7⟩,by omega,?_⟩;exact .oA [(4096,some 4096)] []
  ·have hki:k=i:=by omega
   subst hki;rw[Aq (by rw[hk.2];simp)] at hstep;simp only[tZ,↓un_u,simprocAttr,hwi];refine⟨k+1,⟨by omega,hstep⟩,by omega,?_⟩;exact .oA [(4096,some 4096)] []
 ·have hil:i=s.lists.length:=by omega
  subst hil;have hE2:s.cols.length=0∨(qk s 0).kind≠1→schE s=7:=fun k=>by rw[schE,Aq (by omega),Aq (by rw[i2];simp),Aj k]
  have hE3:¬ (s.cols.length=0∨(qk s 0).kind≠1)→schE s=YY s s.cols.length:=fun k=>by rw[schE,Aq (by omega),Aq (by rw[i2];simp),Aq k]
  have hz:((0:Nat):Int)=0:=rfl;by_cases h0:s.cols.length=0
  ·have hn:s.cols=[]:=List.length_eq_zero_iff.1 h0;rw[hE2 (.inl h0)];simp only[tZ,↓un_u,simprocAttr,hn,List.length_nil,hz,beq_self_eq_true];exact .oA [] []
  ·have h0p:0<s.cols.length:=by omega
   have e0:((s.cols.length:Int)==0)=false:=beq_eq_false_iff_ne.2 (by omega);have hc0:qk s 0=s.cols[0]:=by rw[qk,qh h0p]
   simp only[tZ,↓un_u,simprocAttr,e0,qe h0p,bne_iff_ne,Aw,Bool.false_or];refine⟨by omega,fun h3=>?_,fun h3=>?_⟩
   ·rw[hE2 (.inr (by rw[hc0];exact h3))];exact .oA [] []
   have hE4:=hE3 (by rw[hc0];grind);refine qu mixm (α:=Nat) [6,63] (fun i=>i≤s.cols.length∧YY s i=0) (fun i=>[(6,vI i)]) (fun i=>[(4096,.arr 2 [schT s] false)]) (fun i=>s.cols.length-i) 0 ⟨by omega,rfl⟩ ?_ fun i hi=>?_
   ·exact .oA [(4096,some 4096)] []
   simp only[tZ,↓un_u,simprocAttr,AZ,Ay];refine⟨fun h=>?_,fun h=>?_⟩
   ·have hi2:i<s.cols.length:=by omega
    have hwi:=qj (i:=i) (by omega);have hstep:YY s (i+1)=colE s i:=by rw[YY,Aq (by rw[hi.2];simp)]
    refine C1.im (zo9 s i hi2 hs2 hs1) (by rfl) (by rfl) ?_;simp only[tZ,↓un_u,simprocAttr,bne_iff_ne,Aw,hwi];refine⟨fun h4=>?_,fun h4=>?_⟩
    ·have:=ze9 (s:=s) (i:=i+1) (by rw[hstep];exact h4) s.cols.length (by omega);rw[hE4,this,hstep];exact .oA [] []
    ·refine⟨i+1,⟨by omega,by rw[hstep];exact h4⟩,by omega,?_⟩;exact .oA [(4096,some 4096)] []
   ·have hi2:i=s.cols.length:=by omega
    subst hi2;rw[hE4,hi.2];exact .oA [] []
end Go.Proofs
namespace Go.Proofs
open Go Go.TL
theorem SchOk.sm {s:Sch} (h:SchOk s):yR s:=by
 have h1:=h.nl;have h2:=h.nc;refine⟨by omega,by omega,fun l hl=>?_⟩;obtain⟨i,hi,rfl⟩:=List.getElem_of_mem hl;have h3:=h.ls i hi;rw[qh hi] at h3;have:=(zg h3).2.2;omega
theorem qm5 {l:CodL} : -1≤zh l∧zh l≤60:=by
 unfold zh;split
 ·omega
 ·rename_i h;obtain⟨hp,h1,h2⟩:=zg (AQ h);have:=qQ3 hp (l.codes.length-1) (by omega);omega
theorem zz5 (s:Sch) (h:SchOk s) (i:Nat) (hi:i<s.cols.length) (v:Int):Spc Tryz.prog qb5 [schT s,vI i,vI v] [] (vB (jJ s i v)) []:=by
 have hat:qk s i=s.cols[i]:=by rw[qk,qh hi]
 have hk:=zc (h.cs i hi);have hcd:=fun e=>h.cdl hi e;have hE:jJ s i v=if s.cols[i].kind=1 then inB v 1 1048575
  else if s.cols[i].kind=2 then inB v 0 ((qJ s i).codes.length-1)&&(lvlC (qJ s i) v==zh (qJ s i)-1)
  else (s.cols[i].opt&&(v==yh))||inB v s.cols[i].low s.cols[i].high:=by rw[jJ,hat]
 have hcl:qJ s i=s.lists.getD s.cols[i].list.toNat default:=by rw[qJ,hat]
 rw[hat] at hk hcd;rw[hE];rw[hcl] at hcd ⊢
 refine qd zj3 mixm (by simp) fun e _ hst=>qg ?_;unfold WX;simp only[tZ,↓un_u,simprocAttr,Ax,qe hi];generalize s.cols[i]=c at hk hcd ⊢
 simp only[tZ,↓un_u,simprocAttr,AY,Ak];refine⟨by omega,fun h1=>?_,fun h1=>⟨fun h2=>?_,fun h2=>?_⟩⟩
 ·rw[Aj h1];refine C1.im (jW v 1 1048575) (by rfl) (by rfl) ?_;refine sW ?_;exact .oA [] []
 ·obtain⟨d1,d2⟩:=hcd h2;obtain⟨d3,d4⟩:=hk.2.2.2.1 h2;have hgl:s.lists.getD c.list.toNat default=s.lists[c.list.toNat]:=qh d1;rw[Aq h1,Aj h2];rw[hgl] at d2 ⊢
  obtain⟨_,d5,d6⟩:=zg d2;simp only[tZ,↓un_u,simprocAttr,qe d1];generalize s.lists[c.list.toNat]=l at d2 d5 d6 ⊢
  have hw:IntKind.i64.wrap ((l.codes.length:Int)-1)=(l.codes.length:Int)-1:=AK _ (by omega);have hlv:=qm5 (l:=l);have hw2:IntKind.i64.wrap (zh l-1)=zh l-1:=AK _ (by omega);simp only[tZ,↓un_u,simprocAttr,hw];refine⟨by omega,?_⟩;refine C1.im (jW v 0 _) (by rfl) (by rfl) ?_;refine sW ?_;refine C2.im (fun _=>qe8 l v (by omega)) (fun _=>rfl) (by rfl) ?_;refine sW ?_;refine C2.im (fun _=>YB l (by omega)) (fun _=>rfl) (by rfl) ?_;simp only[tZ,↓un_u,simprocAttr,hw2];refine⟨by kernel_rfl,?_⟩;exact .oA [] []
 ·rw[Aq h1,Aq h2];refine C2.im (fun _=>jW v c.low c.high) (fun _=>rfl) (by rfl) ?_;refine sW ?_;rw[show (c.opt&&v == -1099511627776)=(c.opt&&(v==yh)) from rfl];exact .oA [] []
theorem jN9 {s:Sch} {row:List Int} {i:Nat} (h1:schE s=0) (h2:row.length=s.cols.length) (hi:i<row.length) (h:jJ s i row[i]=false):rowE s row=9:=by
 rw[rowE,Aq (by rw[h1];simp),Aq (by omega),Aj];exact List.all_eq_false.2 ⟨i,List.mem_range.2 hi,by rw[qh hi,h];simp⟩
theorem yi (s:Sch) (hs:yR s) (c:Int):Spc Tryz.prog jB [schT s,vI c] [] (vI (finI s c)) []:=by
 have hs2:=hs.2.1;refine qd zb4 mixm (by simp) fun e _ hst=>qg ?_;unfold KP;refine sW ?_;refine C1.im (QV s hs) (by rfl) (by rfl) ?_;simp only[tZ,↓un_u,simprocAttr,tD,bne_iff_ne,Aw];refine⟨fun h=>?_,fun h=>?_⟩
 ·rw[finI,Aj (by omega)];exact .oA [] []
 have hok:=qV h.1.1;obtain⟨i,rfl⟩:=AJ (show 0≤c by omega);have hi:i<s.cols.length:=by omega
 have hat:qk s i=s.cols[i]:=by rw[qk,qh hi]
 have hk:=zc (hok.cs i hi);have hcd:=fun e=>hok.cdl hi e;have hcl:qJ s i=s.lists.getD s.cols[i].list.toNat default:=by rw[qJ,hat]
 rw[hat] at hk hcd;rw[hcl] at hcd;rw[finI,Aq (by omega),Ax,hcl,hat];simp only[tZ,↓un_u,simprocAttr,Ax,qe hi];generalize s.cols[i]=x at hk hcd ⊢
 simp only[tZ,↓un_u,simprocAttr,AY,Ak];refine⟨by omega,fun h2=>?_,fun h2=>?_⟩
 ·obtain⟨d1,d2⟩:=hcd h2;obtain⟨d3,d4⟩:=hk.2.2.2.1 h2;have hgl:s.lists.getD x.list.toNat default=s.lists[x.list.toNat]:=qh d1;rw[Aj h2];rw[hgl] at d2 ⊢
  obtain⟨_,d5,d6⟩:=zg d2;simp only[tZ,↓un_u,simprocAttr,qe d1];generalize s.lists[x.list.toNat]=l at d2 d5 d6 ⊢
  have hlv:=qm5 (l:=l);have hw2:IntKind.i64.wrap (zh l-1)=zh l-1:=AK _ (by omega);refine⟨by omega,?_⟩;refine C1.im (YB l (by omega)) (by rfl) (by rfl) ?_;simp only[tZ,↓un_u,simprocAttr,hw2];exact .oA [] []
 ·rw[Aq h2];exact .oA [] []
theorem zz6 {a b:Int} (hb:0<b):qG a b=if a.tmod b<0 then a.tdiv b-1 else a.tdiv b:=by
 have h1:=Int.mul_tdiv_add_tmod a b;have h2:=Int.tmod_lt_of_pos a hb;have h3:=Int.lt_tmod_of_pos a hb;unfold qG;rw[Int.fdiv_eq_ediv_of_nonneg _ (by omega)];split
 ·refine ((Int.ediv_emod_unique (r:=a.tmod b+b) hb).2 ⟨?_,by omega,by omega⟩).1;rw[Int.mul_sub];omega
 ·refine ((Int.ediv_emod_unique (r:=a.tmod b) hb).2 ⟨by omega,by omega,by omega⟩).1
theorem qF8 (a b:Int) (hb:0<b) (ha : -4611686018427387904<a∧a<4611686018427387904):Spc Tryz.prog JW [vI a,vI b] [] (vI (qG a b)) []:=by
 rw[zz6 hb];have hq:=Int.natAbs_tdiv_le_natAbs a b;have hw:IntKind.i64.wrap (a.tdiv b)=a.tdiv b:=AK _ (by omega);have hw2:IntKind.i64.wrap (a.tdiv b-1)=a.tdiv b-1:=AK _ (by omega);refine qd zj7 mixm (by simp) fun e _ hst=>qg ?_;unfold WZ;simp only[tZ,↓un_u,simprocAttr,hw,hw2,tD];refine⟨by omega,by omega,fun h=>?_,fun h=>?_⟩
 ·rw[Aj h];exact .oA [] []
 ·rw[Aq h];exact .oA [] []
theorem Kl (c:Col) (lev:Int) (h1:1≤lev∧lev≤c.widths.length) (h2:c.widths.length<4611686018427387904):Spc Tryz.prog wA [colT c,vI lev] [] (vI (qE c lev)) []:=by
 have hw:IntKind.i64.wrap ((c.widths.length:Int)-lev)=(c.widths.length:Int)-lev:=AK _ (by omega);have hk:((c.widths.length:Int)-lev).toNat<c.widths.length:=by omega
 refine qd zj5 mixm (by simp) fun e _ hst=>qg ?_;unfold WY;simp only[tZ,↓un_u,simprocAttr,hw,qe hk];rw[qE,qh hk];refine⟨by omega,?_⟩;exact .oA [] []
end Go.Proofs
namespace Go.Proofs
open Go Go.TL
namespace Cnd
mutual
theorem ind' {p:Cnd→Prop} (h:∀ c,(∀ k∈c.kids,p k)→p c):∀ c,p c
 | .mk _ _ _ _ _ ks=>h _ (inds h ks)
theorem inds {p:Cnd→Prop} (h:∀ c,(∀ k∈c.kids,p k)→p c):∀ ks:List Cnd,∀ k∈ks,p k
 | [],_,hk=>absurd hk (by simp)
 | x::r,k,hk=>by
   rcases List.mem_cons.1 hk with e | hk
   ·rw[e];exact ind' h x
   ·exact inds h r k hk
end
end Cnd
mutual
def cntC:Cnd→Int→Int
 | .mk _ _ _ _ _ ks,m=>wv ks m 1
def wv:List Cnd→Int→Int→Int
 | [],_,n=>n
 | k::r,m,n=>if n<m then wv r m (n+cntC k (m-n)) else n
end
theorem YC (c:Cnd) (m:Int):cntC c m=wv c.kids m 1:=by cases c;rw[cntC];rfl
mutual
def depC:Cnd→Nat
 | .mk _ _ _ _ _ ks=>jX ks+1
def jX:List Cnd→Nat
 | []=>0
 | k::r=>max (depC k) (jX r)
end
theorem qM5 (c:Cnd):depC c=jX c.kids+1:=by cases c;rw[depC];rfl
def isB (s:Sch) (col kind:Int):Bool:=decide (0≤col)&&decide (col<s.cols.length)&&((qk s col.toNat).kind==kind)
def arC (op:Int):Nat:=if op=5∨op=6 then 2 else if op=7 then 1 else 0
def ndE (s:Sch) (c:Cnd):Int:=
 if c.op<1∨7<c.op then 4
 else if c.kids.length≠arC c.op∨(c.op≠2∧c.op≠3∧c.op≠4∧c.col≠0)∨(c.op≠2∧c.code≠0)∨(c.op≠3∧(c.lo≠0∨c.hi≠0)) then 11
 else if (c.op=2∧isB s c.col 2=false)∨(c.op=3∧isB s c.col 3=false)∨(c.op=4∧(isB s c.col 3=false∨(qk s c.col.toNat).opt=false)) then 7
 else if c.op=2∧(c.code<0∨c.code≥(qJ s c.col.toNat).codes.length) then 6
 else if c.op=3∧(c.lo < -1000000∨c.hi>1000000∨c.lo>c.hi) then 2 else 0
mutual
def nodE (s:Sch):Cnd→Int
 | .mk op col code lo hi ks=>if ndE s (.mk op col code lo hi ks)≠0 then ndE s (.mk op col code lo hi ks) else yj s ks
def yj (s:Sch):List Cnd→Int
 | []=>0
 | k::r=>if nodE s k≠0 then nodE s k else yj s r
end
theorem zz7 (s:Sch) (c:Cnd):nodE s c=if ndE s c≠0 then ndE s c else yj s c.kids:=by cases c;rw[nodE];rfl
def chkC (s:Sch) (c:Cnd):Int:=if schE s≠0 then schE s else if cntC c 41>40 then 1 else if depC c>10 then 22 else nodE s c
theorem zN9 {s:Sch}:∀ {l:List Cnd},yj s l=0→∀ k∈l,nodE s k=0
 | [],_,k,hk=>absurd hk (by simp)
 | x::r,h,k,hk=>by
   rw[yj] at h;split at h
   ·rename_i h1;exact absurd h h1
   ·rename_i h1;rcases List.mem_cons.1 hk with e | hk
    ·rw[e];exact AQ h1
    ·exact zN9 h k hk
theorem jD1 {s:Sch} {c:Cnd} (h:nodE s c=0):ndE s c=0∧∀ k∈c.kids,nodE s k=0:=by
 rw[zz7] at h;split at h
 ·rename_i h1;exact absurd h h1
 ·rename_i h1;exact⟨AQ h1,zN9 h⟩
theorem zI {s:Sch} {col kind:Int}:isB s col kind=true↔0≤col∧col<s.cols.length∧(qk s col.toNat).kind=kind:=by
 unfold isB;simp only[Bq,AZ,AY,and_assoc]
structure NdOk (s:Sch) (c:Cnd):Prop where
 op:1≤c.op∧c.op≤7
 nk:c.kids.length=arC c.op
 under:c.op=2→isB s c.col 2=true∧0≤c.code∧c.code<(qJ s c.col.toNat).codes.length
 between:c.op=3→isB s c.col 3=true∧-1000000≤c.lo∧c.hi≤1000000∧c.lo≤c.hi
 miss:c.op=4→isB s c.col 3=true∧(qk s c.col.toNat).opt=true
theorem jD2 {s:Sch} {c:Cnd} (h:ndE s c=0):NdOk s c:=by
 unfold ndE at h;split at h
 ·cases h
 rename_i h1;split at h
 ·cases h
 rename_i h2;split at h
 ·cases h
 rename_i h3;split at h
 ·cases h
 rename_i h4;split at h
 ·cases h
 rename_i h5;refine⟨by omega,AQ fun e=>h2 (.inl e),fun e=>⟨?_,by omega,by omega⟩,fun e=>⟨?_,by omega,by omega,by omega⟩,fun e=>⟨?_,?_⟩⟩
 ·cases e2:isB s c.col 2 with
  | true=>rfl
  | false=>exact absurd (.inl ⟨e,e2⟩) h3
 ·cases e2:isB s c.col 3 with
  | true=>rfl
  | false=>exact absurd (.inr (.inl ⟨e,e2⟩)) h3
 ·cases e2:isB s c.col 3 with
  | true=>rfl
  | false=>exact absurd (.inr (.inr ⟨e,.inl e2⟩)) h3
 ·cases e2:(qk s c.col.toNat).opt with
  | true=>rfl
  | false=>exact absurd (.inr (.inr ⟨e,.inr e2⟩)) h3
def isAt (c:Cnd):Bool:=(c.op==2)||(c.op==3)||(c.op==4)
def tf (b:Bool):Int:=if b then 1 else -1
def QW (s:Sch) (c:Cnd) (v:Int):Int:=
 if c.op=2 then tf (qm3 (qJ s c.col.toNat) v c.code)
 else if c.op=3 then (if v=yh then 0 else tf (decide (c.lo≤v)&&decide (v≤c.hi)))
 else if c.op=4 then tf (v==yh) else -1
def zp0 (op:Int) (ks:List Int):Int:=if op=7 then-ks.getD 0 0 else if op=5 then min (ks.getD 0 0) (ks.getD 1 0) else if op=6 then max (ks.getD 0 0) (ks.getD 1 0) else 1
mutual
def evC (s:Sch) (row:List Int):Cnd→Int
 | .mk op col code lo hi ks=>if isAt (.mk op col code lo hi ks)=true then QW s (.mk op col code lo hi ks) (row.getD col.toNat 0) else zp0 op (evCs s row ks)
def evCs (s:Sch) (row:List Int):List Cnd→List Int
 | []=>[]
 | k::r=>evC s row k::evCs s row r
end
theorem jh0 (s:Sch) (row:List Int):∀ l,evCs s row l=l.map (evC s row)
 | []=>by simp [evCs]
 | k::r=>by simp [evCs,jh0 s row r]
theorem jD3 (s:Sch) (row:List Int) (c:Cnd):evC s row c=if isAt c=true then QW s c (row.getD c.col.toNat 0) else zp0 c.op (c.kids.map (evC s row)):=by
 cases c;rw[evC,jh0];rfl
def jO0 (s:Sch) (c:Cnd) (row:List Int):Int:=if chkC s c≠0∨rowE s row≠0 then 0 else evC s row c
mutual
def atsC:Cnd→List Cnd
 | .mk op col code lo hi ks=>if isAt (.mk op col code lo hi ks)=true then [.mk op col code lo hi ks] else WD ks
def WD:List Cnd→List Cnd
 | []=>[]
 | k::r=>atsC k++WD r
end
theorem qM6 (c:Cnd):atsC c=if isAt c=true then [c] else WD c.kids:=by cases c;rw[atsC];rfl
theorem YZ:∀ (l:List Cnd) (k:Cnd),WD (l++[k])=WD l++atsC k
 | [],k=>by simp [WD]
 | x::r,k=>by simp [WD,YZ r k]
theorem jh1 {s:Sch}:∀ c,nodE s c=0→∀ a∈atsC c,NdOk s a∧isAt a=true:=by
 refine Cnd.ind' fun c ih h a ha=>?_;obtain⟨h1,h2⟩:=jD1 h;rw[qM6] at ha;split at ha
 ·rename_i h3;rw[List.mem_singleton] at ha;rw[ha];exact⟨jD2 h1,h3⟩
 ·have key:∀ l:List Cnd,(∀ k∈l,k∈c.kids)→a∈WD l→NdOk s a∧isAt a=true:=by
   intro l
   induction l with
   | nil=>intro _ h;simp [WD] at h
   | cons k r ihl=>
     intro hk h;rw[WD,List.mem_append] at h;rcases h with h | h
     ·exact ih k (hk k (by simp)) (h2 k (hk k (by simp))) a h
     ·exact ihl (fun x hx=>hk x (List.mem_cons_of_mem _ hx)) h
  exact key c.kids (fun k hk=>hk) ha
def qy2 (n:Nat) (p:Nat→Nat→Bool):Bool:=(List.range n).all fun i=>(List.range i).all fun k=>p i k
theorem zz8 {p:Nat→Bool} {n:Nat}:(List.range (n+1)).all p=((List.range n).all p&&p n):=by rw[List.range_succ,List.all_append];simp
theorem jW3 {p:Nat→Bool} {n i:Nat} (h:i<n) (hp:p i=false):(List.range n).all p=false:=List.all_eq_false.2 ⟨i,List.mem_range.2 h,by rw[hp];simp⟩
theorem qM7 {p:Nat→Nat→Bool} {n:Nat}:qy2 (n+1) p=(qy2 n p&&(List.range n).all (p n)):=zz8
theorem zz9 {p:Nat→Nat→Bool} {n i k:Nat} (h:i<n) (hk:k<i) (hp:p i k=false):qy2 n p=false:=jW3 h (jW3 hk hp)
def decP (s:Sch) (c:Cnd) (lev:Nat) (i k:Nat):Bool:=
 !((qW s c.col lev ((qS s c.col.toNat).getD i 0)==qW s c.col lev ((qS s c.col.toNat).getD k 0))&&!(QW s c ((qS s c.col.toNat).getD i 0)==QW s c ((qS s c.col.toNat).getD k 0)))
def decB (s:Sch) (c:Cnd) (lev:Nat):Bool:=
 if c.op=2 then qy2 (qS s c.col.toNat).length (decP s c lev)
 else if c.op=4 then decide (0<lev)
 else
  let x:=qk s c.col.toNat
  let first:=decide (x.low<c.lo)&&decide (c.lo≤x.high)
  let behind:=decide (x.low≤c.hi)&&decide (c.hi<x.high)
  if lev=0 then !x.opt&&!first&&!behind
  else (!first||(c.lo.tmod (qE x lev)==0))&&(!behind||((c.hi+1).tmod (qE x lev)==0))
def Wl (p:Nat→Bool):Nat→Nat→Nat
 | 0,n=>n
 | f+1,n=>if p n=true then n else Wl p f (n+1)
theorem qy3 {p:Nat→Bool} {N:Nat} (h:p N=true):∀ (f n:Nat),n≤N→N-n≤f→p (Wl p f n)=true∧Wl p f n≤N∧n≤Wl p f n∧∀ m,n≤m→m<Wl p f n→p m=false
 | 0,n,h1,h2=>by
   have:n=N:=by omega
   subst this;exact⟨h,Nat.le_refl _,Nat.le_refl _,fun m h3 h4=>by rw[Wl] at h4;omega⟩
 | f+1,n,h1,h2=>by
   rw[Wl];split
   ·rename_i hp;exact⟨hp,h1,Nat.le_refl _,fun m h3 h4=>by omega⟩
   ·rename_i hp;have hn:n≠N:=fun e=>hp (e ▸ h);obtain⟨a,b,c,d⟩:=qy3 h f (n+1) (by omega) (by omega);refine⟨a,b,by omega,fun m h3 h4=>?_⟩;by_cases e:m=n
    ·rw[e];simpa using hp
    ·exact d m (by omega) h4
def decN (s:Sch) (c:Cnd):Nat:=Wl (decB s c) 64 0
def qh6 (col lev:Int):List Pk×Bool→Pk→List Pk×Bool:=fun x p=>
 let y:=if p.col>col∧x.2=false then (x.1++[⟨col,lev⟩],true) else x
 if p.col=col then (y.1++[⟨p.col,max p.lev lev⟩],true) else (y.1++[p],y.2)
def Km (l:List Pk) (col lev:Int):List Pk:=
 let x:=l.foldl (qh6 col lev) ([],decide (lev≤0))
 if x.2 then x.1 else x.1++[⟨col,lev⟩]
def jb (s:Sch) (c:Cnd):List Pk:=if chkC s c≠0 then [] else (atsC c).foldl (fun l a=>Km l a.col (decN s a)) []
def covB (a b:List Pk):Bool:=a.all fun x=>b.any fun y=>(y.col==x.col)&&decide (y.lev≥x.lev)
mutual
def qa0:Cnd→Cnd→Bool
 | .mk a1 a2 a3 a4 a5 ks,.mk b1 b2 b3 b4 b5 ls=>(a1==b1)&&(a2==b2)&&(a3==b3)&&(a4==b4)&&(a5==b5)&&Qa ks ls
def Qa:List Cnd→List Cnd→Bool
 | [],[]=>true
 | k::r,l::t=>qa0 k l&&Qa r t
 | [],_::_=>false
 | _::_,[]=>false
end
theorem jh2 (a b:Cnd):qa0 a b=((a.op==b.op)&&(a.col==b.col)&&(a.code==b.code)&&(a.lo==b.lo)&&(a.hi==b.hi)&&Qa a.kids b.kids):=by cases a;cases b;rw[qa0];rfl
theorem qQ5:∀ c,∀ m,1≤m→1≤cntC c m∧cntC c m≤m:=by
 refine Cnd.ind' fun c ih m hm=>?_;rw[YC];have key:∀ l:List Cnd,(∀ k∈l,k∈c.kids)→∀ n,1≤n→n≤m→1≤wv l m n∧wv l m n≤m:=by
  intro l
  induction l with
  | nil=>intro _ n h1 h2;rw[wv];exact⟨h1,h2⟩
  | cons k r ihl=>
    intro hk n h1 h2;rw[wv];split
    ·have:=ih k (hk k (by simp)) (m-n) (by omega);exact ihl (fun x hx=>hk x (List.mem_cons_of_mem _ hx)) _ (by omega) (by omega)
    ·exact⟨h1,h2⟩
 exact key c.kids (fun k hk=>hk) 1 (by omega) hm
theorem zA0:∀ (l:List Cnd) (m n:Int),n≤m→n≤wv l m n
 | [],m,n,_=>by rw[wv];omega
 | k::r,m,n,h=>by
   rw[wv];split
   ·have:=qQ5 k (m-n) (by omega);have:=zA0 r m (n+cntC k (m-n)) (by omega);omega
   ·omega
theorem jD4:∀ c,∀ m,1≤m→cntC c m<m→(depC c:Int)≤cntC c m:=by
 refine Cnd.ind' fun c ih m hm h=>?_;rw[YC] at h ⊢
 rw[qM5];have key:∀ l:List Cnd,(∀ k∈l,k∈c.kids)→∀ n,1≤n→n≤m→wv l m n<m→n+jX l≤wv l m n:=by
  intro l
  induction l with
  | nil=>intro _ n h1 h2 _;rw[wv,jX];omega
  | cons k r ihl=>
    intro hk n h1 h2 h3;rw[wv] at h3 ⊢
    rw[jX];split at h3
    ·rename_i h4;rw[Aj h4];have c1:=qQ5 k (m-n) (by omega);have c2:=zA0 r m (n+cntC k (m-n)) (by omega);have c3:=ih k (hk k (by simp)) (m-n) (by omega) (by omega);have c4:=ihl (fun x hx=>hk x (List.mem_cons_of_mem _ hx)) (n+cntC k (m-n)) (by omega) (by omega) h3;omega
    ·omega
 have:=key c.kids (fun k hk=>hk) 1 (by omega) (by omega) h;omega
end Go.Proofs
namespace Go.Proofs
open Go Go.TL
def zC (f:Nat→Int):Nat→Int
 | 0=>0
 | n+1=>if zC f n≠0 then zC f n else f n
theorem zO0 {f:Nat→Int} {i:Nat} (h:zC f i≠0):∀ n,i≤n→zC f n=zC f i:=by
 intro n hn
 induction n with
 | zero=>have:i=0:=by omega
         rw[this]
 | succ n ih=>
   by_cases e:i=n+1
   ·rw[e]
   ·have:=ih (by omega);rw[zC,this,Aj h]
theorem ZQ {f:Nat→Int}:∀ {n:Nat},zC f n=0→∀ i,i<n→f i=0
 | 0,_,i,h=>by omega
 | n+1,h,i,hi=>by
   rw[zC] at h;split at h
   ·rename_i h2;exact absurd h h2
   ·rename_i h2;by_cases e:i=n
    ·rw[e];exact h
    ·exact ZQ (AQ h2) i (by omega)
theorem qa1 {f:Nat→Int}:∀ {n:Nat},(∀ i,i<n→f i=0)→zC f n=0
 | 0,_=>rfl
 | n+1,h=>by
   rw[zC,qa1 fun i hi=>h i (by omega),Aq (by simp)];exact h n (by omega)
theorem jI {f:Nat→Int} {n:Nat} (h:zC f n=0):zC f (n+1)=f n:=by rw[zC,Aq (by rw[h];simp)]
theorem Qc {f:Nat→Int} {i n:Nat} (h:zC f i=0) (hi:i<n) (hf:f i≠0):zC f n=f i:=by
 rw[zO0 (i:=i+1) (by rw[jI h];exact hf) n (by omega),jI h]
def QX (s:Sch) (p:Pk):Int:=if schE s≠0 then schE s else if p.col<1∨p.col≥s.cols.length then 7 else if inB p.lev 0 (finI s p.col)=false then 8 else 0
abbrev pkAt (l:List Pk) (i:Nat):Pk:=l.getD i default
def zt0 (s:Sch) (l:List Pk) (i:Nat):Int:=if QX s (pkAt l i)≠0 then QX s (pkAt l i) else if 0<i∧(pkAt l i).col≤(pkAt l (i-1)).col then 10 else 0
def Qd (s:Sch) (l:List Pk):Int:=if schE s≠0 then schE s else zC (zt0 s l) l.length
def dimE (s:Sch) (l:List Pk) (i:Nat):Int:=if QX s (pkAt l i)≠0 then QX s (pkAt l i) else if isB s (pkAt l i).col 2=false then 7 else if ((l.take i).any fun x=>x.col==(pkAt l i).col)=true then 10 else 0
def Wm (s:Sch) (l:List Pk):Int:=if l.length<1∨l.length>3 then 1 else zC (dimE s l) l.length
def zf0 (s:Sch) (m:Int) (l:List Int) (i:Nat):Int:=if isB s (l.getD i 0) 3=false then 7 else if l.getD i 0=m∨(l.take i).contains (l.getD i 0)=true then 10 else 0
def yk (s:Sch) (m:Int) (l:List Int):Int:=if l.length<1∨l.length>3 then 1 else zC (zf0 s m l) l.length
def wO (s:Sch) (q:Qst):Int:=
 if q.kind=1 then (if Wm s q.dims≠0 then Wm s q.dims else if q.meas≠-1∧isB s q.meas 3=false then 7 else 0)
 else if q.kind=2 then (if isB s q.meas 3=false then 7 else yk s q.meas q.terms)
 else if isB s q.meas 3=false then 7 else if (qk s q.meas.toNat).low<0 then 2 else chkC s q.event
def qstE (s:Sch) (q:Qst):Int:=
 if schE s≠0 then schE s else if jm q.name=false then 3 else if q.kind<1∨3<q.kind then 4
 else if chkC s q.filt≠0 then chkC s q.filt else if wO s q≠0 then wO s q
 else if (q.kind≠1∧0<q.dims.length)∨(q.kind≠2∧0<q.terms.length)∨(q.kind≠3∧qa0 q.event cnd0=false) then 11 else 0
abbrev qAt (l:List Qst) (i:Nat):Qst:=l.getD i default
def qsE (s:Sch) (l:List Qst) (i:Nat):Int:=if qstE s (qAt l i)≠0 then qstE s (qAt l i) else if ((l.take i).any fun x=>eqB x.name (qAt l i).name)=true then 10 else 0
def smpE (x:Smp):Int:=if x.of<1∨x.of>1000∨x.part<1∨x.part>x.of∨x.seed<0∨x.seed>1099511627776 then 2 else 0
def dclE (s:Sch) (d:Dcl):Int:=
 if schE s≠0 then schE s else if jm d.proj=false∨jm d.src=false then 3 else if chkC s d.coh≠0 then chkC s d.coh
 else if smpE d.smp≠0 then 2 else if d.qs.length<1∨d.qs.length>8 then 1 else zC (qsE s d.qs) d.qs.length
theorem qm6 {s:Sch} {d:Dcl} (h:dclE s d=0):schE s=0∧jm d.proj=true∧jm d.src=true∧chkC s d.coh=0∧smpE d.smp=0∧1≤d.qs.length∧d.qs.length≤8∧∀ i,i<d.qs.length→qstE s (qAt d.qs i)=0:=by
 unfold dclE at h;split at h
 ·rename_i h1;exact absurd h h1
 rename_i h1;split at h
 ·cases h
 rename_i h2;split at h
 ·rename_i h3;exact absurd h h3
 rename_i h3;split at h
 ·cases h
 rename_i h4;split at h
 ·cases h
 rename_i h5;refine⟨AQ h1,?_,?_,AQ h3,AQ h4,by omega,by omega,fun i hi=>?_⟩
 ·cases e:jm d.proj with
  | true=>rfl
  | false=>exact absurd (.inl e) h2
 ·cases e:jm d.src with
  | true=>rfl
  | false=>exact absurd (.inr e) h2
 ·have:=ZQ h i hi;unfold qsE at this;split at this
  ·rename_i h6;exact absurd this h6
  ·rename_i h6;exact AQ h6
theorem qm7 {s:Sch} {l:List Pk} (h:Qd s l=0):schE s=0∧(∀ p∈l,QX s p=0)∧l.Pairwise fun a b=>a.col<b.col:=by
 unfold Qd at h;split at h
 ·rename_i h1;exact absurd h h1
 rename_i h1;have key:∀ i,i<l.length→QX s (pkAt l i)=0∧¬ (0<i∧(pkAt l i).col≤(pkAt l (i-1)).col):=fun i hi=>by
  have:=ZQ h i hi;unfold zt0 at this;split at this
  ·rename_i h2;exact absurd this h2
  rename_i h2;split at this
  ·cases this
  ·rename_i h3;exact⟨AQ h2,h3⟩
 refine⟨AQ h1,fun p hp=>?_,?_⟩
 ·obtain⟨i,hi,rfl⟩:=List.getElem_of_mem hp;have:=(key i hi).1;rw[pkAt,qh hi] at this;exact this
 ·rw[List.pairwise_iff_getElem];have k2:∀ (d i:Nat) (hj:i+d+1<l.length),(l[i]'(by omega)).col<l[i+d+1].col:=by
   intro d
   induction d with
   | zero=>
     intro i hj;have:=(key (i+1) (by omega)).2;rw[pkAt,pkAt,qh (by omega),qh (by omega)] at this;simp at this;simpa using this
   | succ d ih=>
     intro i hj;have h1:=ih i (by omega);have h2:=(key (i+d+1+1) (by omega)).2;rw[pkAt,pkAt,qh (by omega),qh (by omega)] at h2;simp only[Nat.add_sub_cancel] at h2;have e:i+(d+1)+1=i+d+1+1:=by omega
     simp only[e];omega
  intro i j hi hj hij;have:=k2 (j-i-1) i (by omega);have e:i+(j-i-1)+1=j:=by omega
  simp only[e] at this;exact this
theorem qp4 {s:Sch} {p:Pk} (h:QX s p=0):schE s=0∧1≤p.col∧p.col<s.cols.length∧0≤p.lev∧p.lev≤finI s p.col:=by
 unfold QX at h;split at h
 ·rename_i h1;exact absurd h h1
 rename_i h1;split at h
 ·cases h
 rename_i h2;split at h
 ·cases h
 rename_i h3;rw[Bool.not_eq_false,inB,Bq,AZ,AZ] at h3;exact⟨AQ h1,by omega,by omega,h3.1,h3.2⟩
end Go.Proofs
namespace Go.Proofs
open Go Go.TL
def divM (high w wo:Int):Nat→Int→Bool
 | 0,_=>true
 | k+1,f=>if f>high then true else if f.tmod wo≠0 then false else divM high w wo k (f+w)
def divP (s:Sch) (col:Nat) (L:List Int) (other lev:Nat) (i k:Nat):Bool:=
 !(!(qW s col lev (L.getD i 0)==qW s col lev (L.getD k 0))&&(qW s col other (L.getD i 0)==qW s col other (L.getD k 0)))
def divB (s:Sch) (col other lev:Nat):Bool:=
 if lev=0∨lev≤other then true
 else if (qk s col).kind=2 then qy2 (qS s col).length (divP s col (qS s col) other lev)
 else
  let x:=qk s col
  let w:=qE x lev
  let first:=(qG x.low w+1)*w
  if other=0 then !x.opt&&decide (first>x.high)
  else divM x.high w (qE x other) 2 first
def jK (s:Sch) (col lev:Int):Int:=if inB lev 0 (finI s col)=false then -1 else Wl (fun n=>divB s col.toNat n lev.toNat) 64 0
def jm6 (q:Qst) (k:Int):Bool:=(q.meas==k)||q.terms.contains k
def Qg (l m:List Pk):List Pk:=m.foldl (fun l p=>Km l p.col p.lev) l
def QY (s:Sch) (q:Qst):List Pk→Nat→List Pk:=fun l k=>if jm6 q (k+1)=true then Km l (k+1) (jK s (k+1) (finI s (k+1))) else l
def ka7 (s:Sch) (q:Qst) (l:List Pk):List Pk:=(List.range (s.cols.length-1)).foldl (QY s q) l
def yS (s:Sch) (q:Qst):List Pk:=if qstE s q≠0 then [] else
 ka7 s q (q.dims.foldl (fun l p=>Km l p.col (jK s p.col p.lev)) (if q.kind=3 then Qg (jb s q.filt) (jb s q.event) else jb s q.filt))
def sufB (s:Sch) (q:Qst) (l:List Pk):Bool:=(qstE s q==0)&&(Qd s l==0)&&covB (yS s q) l
def Ze (s:Sch) (d:Dcl):List Pk:=if dclE s d≠0 then [] else d.qs.foldl (fun l q=>Qg l (yS s q)) []
def qF9 (s:Sch) (d:Dcl) (l:List Pk):Int:=if dclE s d≠0 then dclE s d else if Qd s l≠0 then Qd s l else zC (fun i=>if sufB s (qAt d.qs i) l=true then 0 else 23) d.qs.length
end Go.Proofs
namespace Go.Proofs
open Go Go.TL
theorem yT {s:Sch} {c:Int} (h:0≤finI s c):schE s=0∧1≤c∧c<s.cols.length∧finI s c=(if (qk s c.toNat).kind=2 then zh (qJ s c.toNat)-1 else (qk s c.toNat).widths.length):=by
 unfold finI at h ⊢
 split at h
 ·omega
 ·rename_i h1;rw[Aq h1];exact⟨by omega,by omega,by omega,rfl⟩
theorem Jg {n lo hi:Int}:inB n lo hi=true↔lo≤n∧n≤hi:=by simp [inB]
theorem qm8 {n lo hi:Int}:inB n lo hi=false↔n<lo∨hi<n:=by
 rw[← Bool.not_eq_true,Jg];omega
theorem SchOk.wid {s:Sch} (h:SchOk s) {i:Nat} (hi:i<s.cols.length) (h0:0<i) (hk:(qk s i).kind≠2) {lev:Int} (hl:1≤lev∧lev≤(qk s i).widths.length) :
 1≤qE (qk s i) lev∧qE (qk s i) lev≤1000000∧(qk s i).kind=3∧(qk s i).widths.length≤4∧-1000000≤(qk s i).low∧(qk s i).high≤1000000∧(qk s i).low≤(qk s i).high∧qE (qk s i) (qk s i).widths.length=1:=by
 have hk2:=zc (h.cs i hi);have hk3:(qk s i).kind=3:=by have:=hk2.2.2.1 h0;omega
 have hm:=hk2.2.2.2.2 hk3;generalize qk s i=c at hl hm hk3 ⊢
 unfold measE at hm;split at hm
 ·cases hm
 rename_i h1;split at hm
 ·cases hm
 rename_i h2;split at hm
 ·cases hm
 rename_i h3;rw[Bool.not_eq_false] at h3;have hw:∀ j,j<c.widths.length→wdOk c.widths j=true:=fun j hj=>List.all_eq_true.1 h3 j (List.mem_range.2 hj);have e1:inB c.low (-1000000) 1000000=true:=by grind
 have e2:inB c.high (-1000000) 1000000=true:=by grind
 rw[Jg] at e1 e2;have hn:((c.widths.length:Int)-lev).toNat<c.widths.length:=by omega
 have hp:=zN8 (ws:=c.widths) hw _ hn;have h0:=hw 0 (by omega);rw[wdOk,Aj rfl,AY] at h0;have hmax:c.widths.getD ((c.widths.length:Int)-lev).toNat 0≤1000000:=by
  have:=hw _ hn;unfold wdOk at this;split at this
  ·rename_i e;rw[e,h0];omega
  ·simp only[Bq,AZ] at this;omega
 refine⟨hp,hmax,hk3,by omega,by omega,by omega,by omega,?_⟩;rw[qE,show ((c.widths.length:Int)-c.widths.length).toNat=0 by omega,h0]
theorem qm9 {v w:Int} (hw:0<w):v-w<qG v w*w∧qG v w*w≤v:=by
 unfold qG;rw[Int.fdiv_eq_ediv_of_nonneg _ (by omega),Int.mul_comm];have h1:=Int.mul_ediv_add_emod v w;have h2:=Int.emod_nonneg v (b:=w) (by omega);have h3:=Int.emod_lt_of_pos v hw;omega
theorem jO1 {v w:Int} (hw:0<w) (hv : -4611686018427387904<v∧v<4611686018427387904) : -4611686018427387904<qG v w∧qG v w<4611686018427387904:=by
 have hq:=Int.natAbs_tdiv_le_natAbs v w;have h1:=Int.mul_tdiv_add_tmod v w;rw[zz6 hw];unfold qG at *
 split
 ·rename_i h;have h2:v<0:=AQ fun k=>by
   have:=Int.tmod_nonneg w (show 0≤v by omega);omega
  have h3 : -4611686018427387904<v.tdiv w-1:=by
   by_cases e:w=1
   ·subst e;rw[Int.tmod_one] at h;omega
   ·refine AQ fun k=>?_;have h4:v.tdiv w≤-4611686018427387903:=by omega
    have h5:w*v.tdiv w≤2*v.tdiv w:=Int.mul_le_mul_of_nonpos_right (by omega) (by omega);have h6:=Int.lt_tmod_of_pos v hw;have h7:=Int.tmod_lt_of_pos v hw;omega
  omega
 ·omega
theorem kG (s:Sch) (hs:yR s) (c lev v:Int):Spc Tryz.prog zX [schT s,vI c,vI lev,vI v] [] (vI (qW s c lev v)) []:=by
 refine qd zb2 mixm (by simp) fun e _ hst=>qg ?_;unfold KO;refine sW ?_;refine C1.im (yi s hs c) (by rfl) (by rfl) ?_;refine sW ?_;refine C1.im (jW lev 0 (finI s c)) (by rfl) (by rfl) ?_;simp only[tZ,↓un_u,simprocAttr,Bx,Bz];refine⟨fun h=>?_,fun h=>?_⟩
 ·rw[qW,Aj h];exact .oA [] []
 rw[Jg] at h;obtain⟨hE,c1,c2,hfin⟩:=yT (s:=s) (c:=c) (by omega);have hok:=qV hE;obtain⟨i,rfl⟩:=AJ (show 0≤c by omega);rw[Ax] at hfin;have hi:i<s.cols.length:=by omega
 have hat:qk s i=s.cols[i]:=by rw[qk,qh hi]
 have hk:=zc (hok.cs i hi);have hcd:=fun e=>hok.cdl hi e;have hwd:=fun e l=>hok.wid hi (by omega) e (lev:=l);have hcl:qJ s i=s.lists.getD s.cols[i].list.toNat default:=by rw[qJ,hat]
 have hE2:qW s i lev v=if s.cols[i].kind=2 then (if jJ s i v=false then -1 else upC (qJ s i) v lev)
  else if v≠yh∧inB v (-1000000) 1000000=false then -1
  else if lev=0 then 0 else if v=yh then v else qG v (qE s.cols[i] lev)*qE s.cols[i] lev:=by
  rw[qW,Aq (by rw[Bool.not_eq_false,Jg];exact h),Ax,hat]
 rw[hE2];rw[hat] at hk hcd hwd hfin;rw[hcl] at hcd ⊢
 simp only[tZ,↓un_u,simprocAttr,Ax,qe hi];have hho:=zz5 s hok i hi v;generalize s.cols[i]=x at hk hcd hwd hfin ⊢
 simp only[tZ,↓un_u,simprocAttr,AY,Ak];refine⟨by omega,fun h2=>?_,fun h2=>?_⟩
 ·rw[Aj h2];obtain⟨d1,d2⟩:=hcd h2;obtain⟨d3,d4⟩:=hk.2.2.2.1 h2;have hgl:s.lists.getD x.list.toNat default=s.lists[x.list.toNat]:=qh d1;rw[hgl] at d2 ⊢
  obtain⟨_,d5,d6⟩:=zg d2;refine C1.im hho (by rfl) (by rfl) ?_;simp only[tZ,↓un_u,simprocAttr,Bx,Bz];refine⟨fun h3=>?_,fun h3=>?_⟩
  ·rw[Aj h3];exact .oA [] []
  rw[Aq (by rw[h3];simp)];simp only[tZ,↓un_u,simprocAttr,qe d1];generalize s.lists[x.list.toNat]=l at d2 d5 d6 ⊢
  refine⟨by omega,?_⟩;refine C1.im (zs9 l v lev (by omega)) (by rfl) (by rfl) ?_;refine sW ?_;exact .oA [] []
 rw[Aq h2];rw[Aq h2] at hfin;refine C2.im (fun _=>jW v (-1000000) 1000000) (fun _=>rfl) (by rfl) ?_;simp only[tZ,↓un_u,simprocAttr,tD,bne_iff_ne,Aw,Bx,Bz,AY,Ak];rw[show (-1099511627776:Int)=yh from rfl];refine⟨fun h3=>?_,fun h3=>?_⟩
 ·rw[Aj h3];exact .oA [] []
 rw[Aq (by grind)];refine⟨fun h4=>?_,fun h4=>?_⟩
 ·rw[Aj h4];exact .oA [] []
 rw[Aq h4];refine⟨fun h5=>?_,fun h5=>?_⟩
 ·rw[Aj h5];exact .oA [] []
 rw[Aq h5];have hv:inB v (-1000000) 1000000=true:=by grind
 rw[Jg] at hv;obtain⟨w1,w2,w3,w4,_⟩:=hwd h2 lev (by omega);have hfm:=qm9 (v:=v) (w:=qE x lev) (by omega);have hw:IntKind.i64.wrap (qG v (qE x lev)*qE x lev)=qG v (qE x lev)*qE x lev:=AK _ (by omega);refine C1.im (Kl x lev (by omega) (by omega)) (by rfl) (by rfl) ?_;refine sW ?_;refine C1.im (qF8 v (qE x lev) (by omega) (by omega)) (by rfl) (by rfl) ?_;simp only[tZ,↓un_u,simprocAttr,hw];exact .oA [] []
theorem YD (s:Sch) (hok:SchOk s) (i:Nat) (hi:i<s.cols.length) (h2:(qk s i).kind=2):Spc Tryz.prog yg [schT s,vI i] [] (vIs (qS s i)) []:=by
 have hat:qk s i=s.cols[i]:=by rw[qk,qh hi]
 obtain⟨d1,d2⟩:=hok.cdl hi h2;obtain⟨d3,d4⟩:=(zc (hok.cs i hi)).2.2.2.1 h2;have hcl:qJ s i=s.lists.getD s.cols[i].list.toNat default:=by rw[qJ,hat]
 rw[hcl] at d2;rw[hat] at d1 d3 d4;have hgl:s.lists.getD s.cols[i].list.toNat default=s.lists[s.cols[i].list.toNat]:=qh d1;rw[hgl] at d2;obtain⟨_,d5,d6⟩:=zg d2;rw[qS,hcl,hgl];have hlv:=qm5 (l:=s.lists[s.cols[i].list.toNat]);have hw2:IntKind.i64.wrap (zh s.lists[s.cols[i].list.toNat]-1)=zh s.lists[s.cols[i].list.toNat]-1:=AK _ (by omega);refine qd zc7 mixm (by simp) fun e _ hst=>qg ?_;unfold KW;simp only[tZ,↓un_u,simprocAttr,Ax,qe hi,qe d1];refine⟨by omega,by omega,by kernel_rfl,?_⟩;refine C1.im (YB _ (by omega)) (by rfl) (by rfl) ?_;simp only[tZ,↓un_u,simprocAttr,hw2];refine C1.im (jm4 _ _ (by omega)) (by rfl) (by rfl) ?_;refine sW ?_;refine⟨by kernel_rfl,?_⟩;exact .oA [] []
theorem zO1 (s:Sch) (hs:yR s) (p:Pk):Spc Tryz.prog qj9 [schT s,pkT p] [] (vI (QX s p)) []:=by
 refine qd zy1 mixm (by simp) fun e _ hst=>qg ?_;unfold qd9;refine sW ?_;refine C1.im (QV s hs) (by rfl) (by rfl) ?_;simp only[tZ,↓un_u,simprocAttr,tD,bne_iff_ne,Aw];refine⟨fun h=>?_,fun h=>⟨fun h2=>?_,fun h2=>?_⟩⟩
 ·rw[QX,Aj h];exact .oA [] []
 ·rw[QX,Aq (by rw[h];simp),Aj (by omega)];exact .oA [] []
 rw[QX,Aq (by rw[h];simp),Aq (by omega)];refine C1.im (yi s hs p.col) (by rfl) (by rfl) ?_;refine sW ?_;refine C1.im (jW p.lev 0 (finI s p.col)) (by rfl) (by rfl) ?_;simp only[tZ,↓un_u,simprocAttr,Bx,Bz];refine⟨by kernel_rfl,fun h3=>?_,fun h3=>?_⟩
 ·rw[Aj h3];exact .oA [] []
 ·rw[Aq (by rw[h3];simp)];exact .oA [] []
theorem jO2 {x y:Pk}:eqPk x y=true↔x=y:=by
 cases x;cases y;simp [eqPk]
theorem jm7 {a b:List Pk}:qF6 a b=true↔a=b:=qB1 fun x y=>jO2
theorem qM8 (a b:List Pk) (ha:a.length<4611686018427387904):Spc Tryz.prog Zo [vPs a,vPs b] [] (vB (qF6 a b)) []:=by
 refine qd qB5 mixm (by simp) fun e _ hst=>qg ?_;unfold QB;simp only[tZ,↓un_u,simprocAttr,bne_iff_ne,Aw];refine⟨fun h=>?_,fun h=>?_⟩
 ·rw[qF6,qW7 (by omega)];exact .oA [] []
 have hl:a.length=b.length:=by omega
 refine qu mixm (α:=Nat) [5] (fun i=>i≤a.length∧(qF6 (a.take i) (b.take i)=true)) (fun i=>[(5,vI i)]) (fun i=>[]) (fun i=>a.length-i) 0 ⟨by omega,?_⟩ ?_ fun i hi=>?_
 ·rfl
 ·exact .oA [] []
 simp only[tZ,↓un_u,simprocAttr,AZ,Ay];refine⟨fun h=>?_,fun h=>?_⟩
 ·have hib:i<b.length:=by omega
  have hi2:i<a.length:=by omega
  have hwi:=qj (i:=i) (by omega);simp only[tZ,↓un_u,simprocAttr,Ax,qe hi2,hwi,qe hib];rw[show (a[i].col==b[i].col&&a[i].lev==b[i].lev)=eqPk a[i] b[i] from rfl];refine⟨by omega,by omega,by kernel_rfl,fun h3=>?_,fun h3=>⟨i+1,⟨by omega,?_⟩,by omega,?_⟩⟩
  ·rw[qF6,qv0 (i:=i) hl (by omega) h3];exact .oA [] []
  ·rw[qF6,qp1 hi2 hib,← qF6,hi.2];simpa using h3
  ·exact .oA [] []
 ·have hi2:i=a.length:=by omega
  subst hi2;have h3:=hi.2;rw[List.take_length,List.take_of_length_le (by omega)] at h3;rw[h3];exact .oA [] []
end Go.Proofs
namespace Go.Proofs
open Go Go.TL
theorem qa2 {s:Sch} (h:SchOk s) {i:Nat} (hi:i<s.cols.length) (h2:(qk s i).kind=2):(qS s i).length≤60:=by
 obtain⟨d1,d2⟩:=h.cdl hi h2;obtain⟨_,d5,d6⟩:=zg d2;unfold qS atL;rw[Aq (by rw[d2];simp),List.length_map];have:=List.length_filter_le (fun i=>(dep (qJ s i).codes i:Int)==zh (qJ s i)-1) (List.range (qJ s i).codes.length);refine Nat.le_trans (List.length_filter_le _ _) ?_;rw[List.length_range];exact d6
theorem zf1 (s:Sch) (hok:SchOk s) (i o lev:Nat) (hi:i<s.cols.length) (h0:0<i) (hl:(lev:Int)≤finI s i):Spc Tryz.prog KK [schT s,vI i,vI o,vI lev] [] (vB (divB s i o lev)) []:=by
 have hat:qk s i=s.cols[i]:=by rw[qk,qh hi]
 obtain⟨hE,c1,c2,hfin⟩:=yT (s:=s) (c:=i) (by omega);rw[Ax,hat] at hfin;have hwd:=fun e l=>hok.wid hi (by omega) e (lev:=l);have hlv:=YD s hok i hi;have hll:=qa2 hok hi;rw[hat] at hwd hlv hll;have hE2:divB s i o lev=if lev=0∨lev≤o then true
  else if s.cols[i].kind=2 then qy2 (qS s i).length (divP s i (qS s i) o lev)
  else if o=0 then !s.cols[i].opt&&decide ((qG s.cols[i].low (qE s.cols[i] lev)+1)*qE s.cols[i] lev>s.cols[i].high)
  else divM s.cols[i].high (qE s.cols[i] lev) (qE s.cols[i] o) 2 ((qG s.cols[i].low (qE s.cols[i] lev)+1)*qE s.cols[i] lev):=by rw[divB,hat]
 rw[hE2];refine qd qT8 mixm (by simp) fun e _ hst=>qg ?_;unfold JH;simp only[tZ,↓un_u,simprocAttr,Ax,qe hi];generalize s.cols[i]=x at hwd hlv hfin hll ⊢
 simp only[tZ,↓un_u,simprocAttr,tD,AY,Ak];refine⟨by omega,fun h=>?_,fun h=>?_⟩
 ·rw[Aj (by omega)];exact .oA [] []
 rw[Aq (by omega)];refine⟨fun h2=>?_,fun h2=>?_⟩
 ·rw[Aj h2];refine C1.im (hlv h2) (by rfl) (by rfl) ?_;generalize qS s i=L at hll ⊢
  have hll:=hll h2;refine sW ?_;refine qu mixm (α:=Nat) [11] (fun j=>j≤L.length∧qy2 j (divP s i L o lev)=true) (fun j=>[(11,vI j)]) (fun j=>[(4096,.arr 2 [schT s] false),(8212,.arr 7 [colT x] false)]) (fun j=>L.length-j) 0 ⟨by omega,rfl⟩ ?_ fun j hj=>?_
  ·exact .oA [(4096,some 4096),(8212,some 8212)] []
  obtain⟨j1,j2⟩:=hj;refine sD ?_;refine⟨fun h3=>?_,fun h3=>?_⟩
  ·have hj2:j<L.length:=by omega
   have hwj:=qj (i:=j) (by omega);have hgj:L.getD j 0=L[j]:=qh hj2;refine qu mixm (α:=Nat) [12] (fun k=>k≤j∧(List.range k).all (divP s i L o lev j)=true) (fun k=>[(12,vI k)]) (fun k=>[(4096,.arr 2 [schT s] false),(8212,.arr 7 [colT x] false)]) (fun k=>j-k) 0 ⟨by omega,rfl⟩ ?_ fun k hk=>?_
   ·exact .oA [(4096,some 4096),(8212,some 8212)] []
   obtain⟨k1,k2⟩:=hk;refine sD ?_;refine⟨fun h4=>?_,fun h4=>?_⟩
   ·have hk2:k<L.length:=by omega
    have hwk:=qj (i:=k) (by omega);have hgk:L.getD k 0=L[k]:=qh hk2;have hP:divP s i L o lev j k=!(!(qW s i lev L[j]==qW s i lev L[k])&&(qW s i o L[j]==qW s i o L[k])):=by rw[divP,hgj,hgk]
    have hC1:=kG s hok.sm i o L[j];have hC2:=kG s hok.sm i o L[k];simp only[tZ,↓un_u,simprocAttr,Ax,qe hj2,qe hk2];refine⟨by omega,?_⟩;refine C1.im (kG s hok.sm i lev L[j]) (by rfl) (by rfl) ?_;simp only[tZ,↓un_u,simprocAttr,Ax,qe hj2,qe hk2];refine⟨by omega,?_⟩;refine C1.im (kG s hok.sm i lev L[k]) (by rfl) (by rfl) ?_;simp only[tZ,↓un_u,simprocAttr,Ax,qe hj2,qe hk2];refine⟨fun _=>by omega,?_⟩;refine C2.im (fun _=>hC1) (fun _=>rfl) (by rfl) ?_;simp only[tZ,↓un_u,simprocAttr,Ax,qe hj2,qe hk2];refine⟨fun _=>by omega,?_⟩;refine C2.im (fun _=>hC2) (fun _=>rfl) (by rfl) ?_;simp only[tZ,↓un_u,simprocAttr,hwk,tD,bne_iff_ne,Aw,AY,Ak];refine⟨by kernel_rfl,fun h5=>?_,fun h5=>?_⟩
    ·rw[zz9 hj2 (show k<j by omega) (by rw[hP];grind)];exact .oA [] []
    ·refine⟨k+1,⟨by omega,?_⟩,by omega,?_⟩
     ·rw[zz8,k2,hP];grind
     ·exact .oA [(4096,some 4096),(8212,some 8212)] []
   ·have hkj:k=j:=by omega
    subst hkj;simp only[tZ,↓un_u,simprocAttr,hwj];refine⟨k+1,⟨by omega,?_⟩,by omega,?_⟩
    ·rw[qM7,j2,k2];rfl
    ·exact .oA [(4096,some 4096),(8212,some 8212)] []
  ·have hjl:j=L.length:=by omega
   subst hjl;rw[j2];exact .oA [] []
 rw[Aq h2] at hfin;rw[Aq h2];obtain⟨w1,w2,w3,w4,w5,w6,w7,_⟩:=hwd h2 lev (by omega);generalize hW:qE x lev=w at w1 w2 ⊢
 have hfm:=qm9 (v:=x.low) (w:=w) (by omega);have hfl:=jO1 (v:=x.low) (w:=w) (by omega) (by omega);have hw1:IntKind.i64.wrap (qG x.low w+1)=qG x.low w+1:=AK _ (by omega);have hw2:IntKind.i64.wrap ((qG x.low w+1)*w)=(qG x.low w+1)*w:=AK _ (by rw[Int.add_mul];omega);have hF : -3000000≤(qG x.low w+1)*w∧(qG x.low w+1)*w≤3000000:=by rw[Int.add_mul];omega
 refine C1.im (Kl x lev (by omega) (by omega)) (by rfl) (by rfl) ?_;rw[hW];refine sW ?_;refine C1.im (qF8 x.low w (by omega) (by omega)) (by rfl) (by rfl) ?_;simp only[tZ,↓un_u,simprocAttr,hw1,hw2];generalize (qG x.low w+1)*w=F at hF ⊢
 simp only[tZ,↓un_u,simprocAttr,AY,Ak];refine⟨fun h3=>?_,fun h3=>?_⟩
 ·rw[Aj (by omega)];exact .oA [] []
 rw[Aq (by omega)];obtain⟨v1,v2,_⟩:=hwd h2 o (by omega);have hwo:=Kl x o (by omega) (by omega);generalize qE x o=wo at v1 v2 hwo ⊢
 refine qu mixm (α:=Nat×Int) [14,15] (fun y=>y.1≤2∧divM x.high w wo 2 F=divM x.high w wo (2-y.1) y.2∧-3000000-1000000*y.1≤y.2∧y.2≤3000000+1000000*y.1) (fun y=>[(14,vI y.2),(15,vI y.1)]) (fun y=>[(4096,.arr 2 [schT s] false),(8212,.arr 7 [colT x] false)]) (fun y=>2-y.1) (0,F) ⟨by simp,rfl,by simp;omega,by simp;omega⟩ ?_ fun y hy=>?_
 ·exact .oA [(4096,some 4096),(8212,some 8212)] []
 obtain⟨n,f⟩:=y;obtain⟨y1,y2,y3,y4⟩:=hy;dsimp only at y1 y2 y3 y4;have hwn:=qj (i:=n) (by omega);have hwf:IntKind.i64.wrap (f+w)=f+w:=AK _ (by omega);rw[y2];refine sD ?_;refine⟨fun h4=>?_,fun h4=>?_⟩
 ·obtain⟨m,hm⟩:∃ m,2-n=m+1:=⟨1-n,by omega⟩;refine C1.im hwo (by rfl) (by rfl) ?_;simp only[tZ,↓un_u,simprocAttr,bne_iff_ne,Aw];rw[hm,divM,Aq (by omega)];refine⟨by omega,fun h5=>?_,fun h5=>?_⟩
  ·rw[Aj h5];exact .oA [] []
  ·simp only[tZ,↓un_u,simprocAttr,hwn,hwf];refine⟨(n+1,f+w),⟨by dsimp only;omega,?_,by dsimp only;omega,by dsimp only;omega⟩,by dsimp only;omega,?_⟩
   ·dsimp only;rw[Aq (by rw[h5];simp),show 2-(n+1)=m by omega]
   ·exact .oA [(4096,some 4096),(8212,some 8212)] []
 ·have:divM x.high w wo (2-n) f=true:=by
   by_cases e:n=2
   ·subst e;rfl
   ·obtain⟨m,hm⟩:∃ m,2-n=m+1:=⟨1-n,by omega⟩;rw[hm,divM,Aj (by omega)]
  rw[this];exact .oA [] []
theorem zA1 (s:Sch) (i lev:Nat):divB s i lev lev=true:=by unfold divB;rw[Aj (by omega)]
theorem qn0 {s:Sch} {c:Int} (h:schE s=0):finI s c≤59:=by
 by_cases h0:0≤finI s c
 ·obtain⟨_,h1,h2,h3⟩:=yT h0;rw[h3];split
  ·have:=qm5 (l:=qJ s c.toNat);omega
  ·rename_i h4;have hok:=qV h;by_cases e:(qk s c.toNat).widths.length=0
   ·omega
   ·have:=hok.wid (i:=c.toNat) (by omega) (by omega) h4 (lev:=1) (by omega);omega
 ·omega
theorem qG0 (s:Sch) (hs:yR s) (c lev:Int):Spc Tryz.prog JY [schT s,vI c,vI lev] [] (vI (jK s c lev)) []:=by
 refine qd zk9 mixm (by simp) fun e _ hst=>qg ?_;unfold Yf;refine sW ?_;refine C1.im (yi s hs c) (by rfl) (by rfl) ?_;refine sW ?_;refine C1.im (jW lev 0 (finI s c)) (by rfl) (by rfl) ?_;simp only[tZ,↓un_u,simprocAttr,Bx,Bz];refine⟨fun h=>?_,fun h=>?_⟩
 ·rw[jK,Aj h];exact .oA [] []
 rw[jK,Aq (by rw[h];simp)];rw[Jg] at h;obtain⟨hE,c1,c2,hfin⟩:=yT (s:=s) (c:=c) (by omega);have hfl:=qn0 (c:=c) hE;have hok:=qV hE;obtain⟨i,rfl⟩:=AJ (show 0≤c by omega);obtain⟨v,rfl⟩:=AJ h.1;simp only[Ax];refine qu mixm (α:=Nat) [7] (fun n=>n≤v∧Wl (fun n=>divB s i n v) 64 0=Wl (fun n=>divB s i n v) (64-n) n) (fun n=>[(7,vI n)]) (fun n=>[(4096,.arr 2 [schT s] false)]) (fun n=>v-n) 0 ⟨by omega,rfl⟩ ?_ fun n hn=>?_
 ·exact .oA [(4096,some 4096)] []
 obtain⟨n1,n2⟩:=hn;have hwn:=qj (i:=n) (by omega);refine sW ?_;refine C1.im (zf1 s hok i n v (by omega) (by omega) h.2) (by rfl) (by rfl) ?_;simp only[tZ,↓un_u,simprocAttr,Bx,Bz,hwn];have e:64-n=(63-n)+1:=by omega
 rw[n2,e,Wl];refine⟨fun h3=>?_,fun h3=>?_⟩
 ·have hnv:n≠v:=fun k=>by rw[k,zA1] at h3;cases h3
  refine⟨n+1,⟨by omega,?_⟩,by omega,?_⟩
  ·rw[Aq (by rw[h3];simp),show 63-n=64-(n+1) by omega]
  ·exact .oA [(4096,some 4096)] []
 ·rw[Aj h3];exact .oA [] []
end Go.Proofs
namespace Go.Proofs
open Go Go.TL
abbrev cnT (c:Cnd):T:=.agg [vI c.op,vI c.col,vI c.code,vI c.lo,vI c.hi,vCs c.kids]
theorem jO3 (c:Cnd):(cndT c).cells.length=6∧imL (cndT c).cells=true:=by rw[zn];exact⟨rfl,rfl⟩
theorem qG1 {α:Type} {f:α→T} {l:List α} {i:Nat} (h:l.length≤i):(l.map f).getD i .junk = .junk:=by simp [List.getD,h]
theorem zA2 {α:Type} {l:List α} {i:Nat} (h:i<l.length):l.drop i=l[i]::l.drop (i+1):=List.drop_eq_getElem_cons h
theorem zA3:∀ (c:Cnd) (m:Int),1≤m→m≤1000→Spc Tryz.prog Kb [cnT c,vI m] [] (vI (cntC c m)) []:=by
 refine Cnd.ind' fun c ih m hm hm2=>?_;rw[YC];refine qd zm5 mixm (by simp) fun e _ hst=>qg ?_;unfold Yn;refine sW ?_;refine qu mixm (α:=Nat×Int) [5,6] (fun y=>y.1≤c.kids.length∧wv c.kids m 1=wv (c.kids.drop y.1) m y.2∧y.2≤m∧y.1+1≤y.2) (fun y=>[(5,vI y.2),(6,vI y.1)]) (fun y=>[(4096,.arr 6 [cnT c] false)]) (fun y=>c.kids.length-y.1) (0,1) ⟨by simp,rfl,hm,by simp⟩ ?_ fun y hy=>?_
 ·exact .oA [(4096,some 4096)] []
 obtain⟨i,n⟩:=y;obtain⟨y1,y2,y3,y4⟩:=hy;dsimp only at y1 y2 y3 y4;rw[y2];refine sD ?_;refine⟨fun h=>?_,fun h=>?_⟩
 ·have hi:i<c.kids.length:=by omega
  have hwi:=qj (i:=i) (by omega);have hw:IntKind.i64.wrap (m-n)=m-n:=AK _ (by omega);have hc:=qQ5 c.kids[i] (m-n) (by omega);have hw2:IntKind.i64.wrap (n+cntC c.kids[i] (m-n))=n+cntC c.kids[i] (m-n):=AK _ (by omega);simp only[tZ,↓un_u,simprocAttr,Ax,qe hi,zn,hw];refine⟨by omega,?_⟩;refine C1.im (ih _ (AX hi) (m-n) (by omega) (by omega)) (by rfl) (by rfl) ?_;simp only[tZ,↓un_u,simprocAttr,hw2,hwi];refine⟨(i+1,n+cntC c.kids[i] (m-n)),⟨by dsimp only;omega,?_,by dsimp only;omega,by dsimp only;omega⟩,by dsimp only;omega,?_⟩
  ·dsimp only;rw[zA2 hi,wv,Aj (by omega)]
  ·exact .oA [(4096,some 4096)] []
 ·have:wv (c.kids.drop i) m n=n:=by
   by_cases hi:i<c.kids.length
   ·rw[zA2 hi,wv,Aq (by omega)]
   ·rw[List.drop_of_length_le (by omega),wv]
  rw[this];exact .oA [] []
theorem qM9:∀ (l:List Cnd) (k:Cnd),jX (l++[k])=max (jX l) (depC k)
 | [],k=>by simp [jX]
 | x::r,k=>by rw[List.cons_append,jX,qM9 r k,jX];omega
theorem qN0:∀ (l:List Cnd) (i:Nat),jX (l.take i)≤jX l
 | [],i=>by simp
 | x::r,0=>by simp [jX]
 | x::r,i+1=>by rw[List.take_succ_cons,jX,jX];have:=qN0 r i;omega
theorem qG2:∀ {l:List Cnd} {m n:Int},n≤m→wv l m n<m→n+l.length≤wv l m n∧∀ k∈l,∃ m',1≤m'∧m'≤m-n∧cntC k m'<m'
 | [],m,n,_,h=>by rw[wv];simp
 | x::r,m,n,h1,h=>by
   rw[wv] at h ⊢
   split at h
   ·rename_i h2;rw[Aj h2];have h3:=qQ5 x (m-n) (by omega);obtain⟨h4,h5⟩:=qG2 (l:=r) (by omega) h;refine⟨by rw[List.length_cons];omega,fun k hk=>?_⟩;rcases List.mem_cons.1 hk with e | hk
    ·subst e;exact⟨m-n,by omega,by omega,by omega⟩
    ·obtain⟨m',a,b,c⟩:=h5 k hk;exact⟨m',a,by omega,c⟩
   ·omega
theorem zA4:∀ (c:Cnd) (m:Int),1≤m→m≤1000→cntC c m<m→Spc Tryz.prog Kc [cnT c] [] (vI (depC c)) []:=by
 refine Cnd.ind' fun c ih m hm hm2 hc=>?_;have hd:=jD4 c m hm hc;rw[YC] at hc hd;obtain⟨hk1,hk2⟩:=qG2 (by omega) hc;rw[qM5] at hd ⊢
 refine qd zm7 mixm (by simp) fun e _ hst=>qg ?_;unfold Yo;refine sW ?_;refine qu mixm (α:=Nat) [3,4] (fun i=>i≤c.kids.length) (fun i=>[(3,vI (jX (c.kids.take i))),(4,vI i)]) (fun i=>[(4096,.arr 6 [cnT c] false)]) (fun i=>c.kids.length-i) 0 (by omega) ?_ fun i hi=>?_
 ·refine .of [(4096,some 4096)] [] rfl (by first | rfl | (rw[hst];rfl)) ?_ ?_
  all_goals (try simp only[tL,simprocAttr,List.map_append,List.map_cons,List.map_nil,List.cons_append,List.nil_append,List.take_zero,jX])
  all_goals (try (repeat' (first | exact qZ | (apply zo;intro _;exact⟨rfl,rfl⟩) | (apply qD;intro _;exact⟨rfl,rfl⟩) | with_reducible apply qT | with_reducible refine qM ⟨rfl,rfl⟩ ?_ | exact qX | with_reducible apply qQ | with_reducible refine qU ⟨rfl,rfl,?_⟩ ?_ | with_reducible apply Az | exact qR rfl | exact qR (by assumption) | (refine⟨⟨?_,rfl,?_,rfl,?_⟩,trivial⟩ <;> first | (simp;done) | (apply qD;intro _;exact⟨rfl,rfl⟩)) | trivial | rfl | (rw[qj (by omega)]) | omega)))
 have hdt:=qN0 c.kids i;refine sD ?_;refine⟨fun h=>?_,fun h=>?_⟩
 ·have hi2:i<c.kids.length:=by omega
  have hwi:=qj (i:=i) (by omega);have hs:jX (c.kids.take (i+1))=max (jX (c.kids.take i)) (depC c.kids[i]):=by rw[qH hi2,qM9]
  obtain⟨m',a1,a2,a3⟩:=hk2 _ (AX hi2);simp only[tZ,↓un_u,simprocAttr,Ax,qe hi2,zn];refine⟨by omega,?_⟩;refine C1.im (ih _ (AX hi2) m' a1 (by omega) a3) (by rfl) (by rfl) ?_;have hmx:maxI (jX (c.kids.take i):Int) (depC c.kids[i])=(jX (c.kids.take (i+1)):Int):=by rw[hs];unfold maxI;omega
  simp only[tZ,↓un_u,simprocAttr,hwi,hmx];refine⟨i+1,by omega,by omega,?_⟩;exact .oA [(4096,some 4096)] []
 ·have hil:i=c.kids.length:=by omega
  subst hil;rw[List.take_length] at hdt ⊢
  have hw:=qj (i:=jX c.kids) (by omega);simp only[tZ,↓un_u,simprocAttr,hw];exact .oA [] []
theorem zd (s:Sch) (col kind:Int):Spc Tryz.prog YR [schT s,vI col,vI kind] [] (vB (isB s col kind)) []:=by
 by_cases h:0≤col∧col<s.cols.length
 ·obtain⟨i,rfl⟩:=AJ h.1;have hi:i<s.cols.length:=by omega
  have e1:decide ((i:Int)≥0)=true:=decide_eq_true (by omega);have e2:decide ((i:Int)<s.cols.length)=true:=decide_eq_true (by omega);have e3:isB s i kind=(s.cols[i].kind==kind):=by
   rw[isB,Ax,qk,qh hi,decide_eq_true h.1,decide_eq_true h.2];rfl
  refine qd qx4 mixm (by simp) fun e _ hst=>qg ?_;unfold We;simp only[tZ,↓un_u,simprocAttr,e1,e2,Ax,qe hi];rw[e3];refine⟨by omega,?_⟩;exact .oA [] []
 ·have e1:(decide (col≥0)&&decide (col<(s.cols.length:Int)))=false:=by
   rw[Bool.and_eq_false_iff,Ay,Ay];omega
  have e3:isB s col kind=false:=by
   unfold isB;rw[show (decide (0≤col)&&decide (col<(s.cols.length:Int)))=false from e1];rfl
  rcases Nat.lt_or_ge col.toNat s.cols.length with hk | hk
  ·refine qd qx4 mixm (by simp) fun e _ hst=>qg ?_;unfold We;simp only[tZ,↓un_u,simprocAttr,e1,qe hk];rw[e3];exact .oA [] []
  ·have hj:(s.cols.map colT).getD col.toNat .junk = .junk:=qG1 hk;refine qd qx4 mixm (by simp) fun e _ hst=>qg ?_;unfold We;simp only[tZ,↓un_u,simprocAttr,e1,hj,List.drop_succ_cons,List.drop_nil];rw[e3];exact .oA [] []
end Go.Proofs
