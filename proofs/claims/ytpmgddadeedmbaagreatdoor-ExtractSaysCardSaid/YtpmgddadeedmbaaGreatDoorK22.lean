/- A part of the proof: trees of Go values, short forms, contracts. -/
import Derived.WalkKit
import Derived.Still
import Derived.MapKept
import GoSem.Builtin.Cap
import Derived.Laws.Externs
import GoSem.Extern.SlicesOverlaps
import Derived.Carry
import Derived.ProofKit
import Derived.OpenShut
import Derived.HandedShaped
import Derived.Lay
import Derived.LaidLaws
import Derived.MakeChecks
import Derived.SevenTiedAt
import Derived.Test.YtpmgddadeedmbaaGreatDoorChecked
import Derived.Test.YtpmgddadeedmbaaGreatDoorK21
set_option linter.unusedSimpArgs false
set_option linter.unusedVariables false
namespace Go.Proofs
open Go Go.TL
set_option maxRecDepth 4000
set_option maxHeartbeats 8000000
theorem jX6 {ws:List Int} (hw:∀ j,j<ws.length→wdOk ws j=true) {i:Nat}:∀ d,i+d<ws.length→∃ k:Int,1≤k∧ws.getD (i+d) 0=k*ws.getD i 0∧(0<d→2≤k)
 | 0,h=>⟨1,by omega,by simp,by omega⟩
 | d+1,h=>by
   obtain⟨k,k1,k2,_⟩:=jX6 hw d (i:=i) (by omega);have h1:=hw (i+d+1) (by omega);rw[wdOk,Aq (by omega)] at h1;simp only[Bq,AZ,AY,Nat.add_sub_cancel] at h1;have hp:=zO5 (ws:=ws) hw (i+d) (by omega);obtain⟨⟨a1,a2⟩,a3⟩:=h1;have h2:=Int.mul_tdiv_add_tmod (ws.getD (i+d+1) 0) (ws.getD (i+d) 0);rw[a3,Int.add_zero] at h2;generalize (ws.getD (i+d+1) 0).tdiv (ws.getD (i+d) 0)=q at h2;have hq:2≤q:=AQ fun c=>by
    have:ws.getD (i+d) 0*q≤ws.getD (i+d) 0*1:=Int.mul_le_mul_of_nonneg_left (by omega) (by omega);omega
   have hkq:2*1≤q*k:=Int.mul_le_mul hq k1 (by omega) (by omega);refine⟨q*k,by omega,?_,fun _=>by omega⟩;rw[show i+(d+1)=i+d+1 from rfl,← h2,k2,Int.mul_assoc,Int.mul_comm q k,Int.mul_assoc,Int.mul_comm q]
theorem SchOk.wdv {s:Sch} (h:SchOk s) {i:Nat} (hi:i<s.cols.length) (h0:0<i) (hk:(qk s i).kind≠2) {o lev:Nat} (ho:1≤o∧o<lev) (hl:lev≤(qk s i).widths.length):∃ k:Int,2≤k∧qD (qk s i) o=k*qD (qk s i) lev:=by
 have hk2:=za (h.cs i hi);have hk3:(qk s i).kind=3:=by have:=hk2.2.2.1 h0;omega
 have hm:=hk2.2.2.2.2 hk3;generalize qk s i=c at hl hm hk3 ⊢
 unfold measE at hm;split at hm
 ·cases hm
 rename_i h1;split at hm
 ·cases hm
 rename_i h2;split at hm
 ·cases hm
 rename_i h3;rw[Bool.not_eq_false] at h3;have hw:∀ j,j<c.widths.length→wdOk c.widths j=true:=fun j hj=>List.all_eq_true.1 h3 j (List.mem_range.2 hj);obtain⟨k,_,k2,k3⟩:=jX6 hw (i:=c.widths.length-lev) (lev-o) (by omega);refine⟨k,k3 (by omega),?_⟩;rw[qD,qD,show ((c.widths.length:Int)-o).toNat=c.widths.length-lev+(lev-o) by omega,show ((c.widths.length:Int)-lev).toNat=c.widths.length-lev by omega];exact k2
def blkI (s:Sch) (i lev:Nat):Int:=
 if (qk s i).kind=2 then ((lvN (qJ s i).codes lev).length:Int)
 else if lev=0 then 1 else qG (qk s i).high (qD (qk s i) lev)-qG (qk s i).low (qD (qk s i) lev)+1+(if (qk s i).opt=true then 1 else 0)
theorem jG8 {n:Nat} {p:Nat→Nat→Bool}:qy4 n p=true↔∀ a,a<n→∀ b,b<a→p a b=true:=by
 unfold qy4;simp only[List.all_eq_true,List.mem_range]
theorem qp7 {s:Sch} (h:SchOk s) {i:Nat} (hi:i<s.cols.length) (h2:(qk s i).kind=2) {x:Int}:x∈qO s i↔∃ c:Nat,x=c∧c<(qJ s i).codes.length∧(dep (qJ s i).codes c:Int)=zh (qJ s i)-1:=by
 obtain⟨_,d2⟩:=h.cdl hi h2;unfold qO atL;rw[Aq (by rw[d2];simp),List.mem_map];constructor
 ·rintro ⟨c,hc,rfl⟩;rw[List.mem_filter,List.mem_range,AY] at hc;exact⟨c,rfl,hc.1,hc.2⟩
 ·rintro ⟨c,rfl,h1,h3⟩;exact⟨c,List.mem_filter.2 ⟨List.mem_range.2 h1,beq_iff_eq.2 h3⟩,rfl⟩
theorem Ws {s:Sch} (h:SchOk s) {i:Nat} (hi:i<s.cols.length) (h2:(qk s i).kind=2) {c v:Nat} (hc:c<(qJ s i).codes.length) (hd:(dep (qJ s i).codes c:Int)=zh (qJ s i)-1) (hv:(v:Int)≤finI s i) (hf:finI s i=zh (qJ s i)-1):qU s i v c=upN (qJ s i).codes v c:=by
 obtain⟨_,d2⟩:=h.cdl hi h2;have hh:jC s i c=true:=by
  rw[jC,Aq (by omega),Aj h2,Bq,Jc,AY,lvlC,Aq (not_or.2 ⟨fun h=>h d2,by omega⟩),Ax];exact⟨by omega,hd⟩
 rw[qU,Aq (by rw[Bool.not_eq_false,Jc];omega),Ax,Aj h2,Aq (by rw[hh];simp),upC,Aq (not_or.2 ⟨fun h=>h d2,by rw[Ax];omega⟩),Ax,Ax]
theorem zD4 {s:Sch} (hE:schE s=0) {i:Nat} (hi:i<s.cols.length) (h0:0<i) {o lev:Nat} (ho:o≤lev) (hl:(lev:Int)≤finI s i):blkI s i o≤blkI s i lev∧(divB s i o lev=true↔blkI s i o=blkI s i lev):=by
 have hok:=qQ hE;by_cases e:o=lev
 ·subst e;exact⟨by omega,by rw[zB2];simp⟩
 obtain⟨_,c1,c2,hfin⟩:=yR (s:=s) (c:=i) (by omega);rw[Ax] at hfin;by_cases h2:(qk s i).kind=2
 ·obtain⟨_,d2⟩:=hok.cdl hi h2;rw[Aj h2] at hfin;unfold blkI;rw[Aj h2,Aj h2];have hle:=jX5 d2 (o:=o) (v:=lev) (by omega) (by omega);refine⟨by omega,?_⟩;rw[show ((lvN (qJ s i).codes o).length:Int)=((lvN (qJ s i).codes lev).length:Int)↔(lvN (qJ s i).codes o).length=(lvN (qJ s i).codes lev).length by omega,ki9 d2 (by omega) (by omega)];unfold divB;rw[Aq (by omega),Aj h2,jG8];have hP:∀ j k,(qO s i).getD j 0∈qO s i→(qO s i).getD k 0∈qO s i→(divP s i (qO s i) o lev j k=true↔(qU s i o ((qO s i).getD j 0)=qU s i o ((qO s i).getD k 0)→qU s i lev ((qO s i).getD j 0)=qU s i lev ((qO s i).getD k 0))):=fun j k _ _=>by
   unfold divP;simp only[Bx,Bool.and_eq_false_iff,Bz,AY,Ak];constructor
   ·rintro (h | h) k
    ·exact h
    ·exact absurd k h
   ·intro h;by_cases k:qU s i o ((qO s i).getD j 0)=qU s i o ((qO s i).getD k 0)
    ·exact .inl (h k)
    ·exact .inr k
  have hmem:∀ j,j<(qO s i).length→(qO s i).getD j 0∈qO s i:=fun j hj=>by rw[qh hj];exact AX hj
  obtain⟨hp,p1,p2⟩:=zg d2;constructor
  ·intro H a b ha hb da db hab;obtain⟨x,x1,x2,x3⟩:=jR1 d2 _ a rfl ha (zh (qJ s i)-1).toNat (by omega) (by omega);obtain⟨y,y1,y2,y3⟩:=jR1 d2 _ b rfl hb (zh (qJ s i)-1).toNat (by omega) (by omega);rw[da] at x3;rw[db] at y3;have hx:(x:Int)∈qO s i:=(qp7 hok hi h2).2 ⟨x,rfl,x1,by omega⟩;have hy:(y:Int)∈qO s i:=(qp7 hok hi h2).2 ⟨y,rfl,y1,by omega⟩;have ux:upN (qJ s i).codes o x=upN (qJ s i).codes o y:=by
    rw[← zR1 hp (o:=o) (v:=lev) (by omega) x x1 (by omega),← zR1 hp (o:=o) (v:=lev) (by omega) y y1 (by omega),x3,y3,hab]
   obtain⟨j,hj,ej⟩:=List.getElem_of_mem hx;obtain⟨k,hk,ek⟩:=List.getElem_of_mem hy;rw[← qh (d:=0) hj] at ej;rw[← qh (d:=0) hk] at ek;have cl:=fun c (hc:c<(qJ s i).codes.length) (hd:(dep (qJ s i).codes c:Int)=zh (qJ s i)-1) (v:Nat) (hv:(v:Int)≤finI s i)=>Ws hok hi h2 (v:=v) hc hd hv hfin;have fin:qU s i lev x=qU s i lev y→a=b:=fun e=>by
    rw[cl x x1 (by omega) lev hl,cl y y1 (by omega) lev hl,x3,y3] at e;omega
   have eo:qU s i o x=qU s i o y:=by rw[cl x x1 (by omega) o (by omega),cl y y1 (by omega) o (by omega),ux]
   rcases Nat.lt_trichotomy j k with q | q | q
   ·have:=(hP k j (hmem k hk) (hmem j hj)).1 (H k hk j q);rw[ej,ek] at this;exact fin (this eo.symm).symm
   ·subst q;rw[ej] at ek;exact fin (by rw[ek])
   ·have:=(hP j k (hmem j hj) (hmem k hk)).1 (H j hj k q);rw[ej,ek] at this;exact fin (this eo)
  ·intro H j hj k hk;rw[hP j k (hmem j hj) (hmem k (by omega))];obtain⟨x,x0,x1,x2⟩:=(qp7 hok hi h2).1 (hmem j hj);obtain⟨y,y0,y1,y2⟩:=(qp7 hok hi h2).1 (hmem k (by omega));rw[x0,y0,Ws hok hi h2 x1 x2 (by omega) hfin,Ws hok hi h2 y1 y2 (by omega) hfin,Ws hok hi h2 x1 x2 hl hfin,Ws hok hi h2 y1 y2 hl hfin];intro e;have ux:=jG5 hp (v:=lev) x x1 (by omega);have uy:=jG5 hp (v:=lev) y y1 (by omega);have:=H (upN (qJ s i).codes lev x) (upN (qJ s i).codes lev y) (by omega) (by omega) ux.1 uy.1 (by
    rw[zR1 hp (by omega) x x1 (by omega),zR1 hp (by omega) y y1 (by omega)];omega)
   rw[this]
 rw[Aq h2] at hfin;obtain⟨w1,w2,w3,w4,w5,w6,w7,_⟩:=hok.wid hi h0 h2 (lev:=lev) (by omega);unfold blkI divB;simp only[Aq h2,Aq (show ¬ lev=0 by omega),Aq (show ¬ (lev=0∨lev≤o) by omega)];obtain⟨m,hm⟩:=AJ (show 0≤(qk s i).high-(qk s i).low by omega);generalize hW:qD (qk s i) lev=w at w1 w2 ⊢
 have hab:=zh4 (a:=(qk s i).low) (k:=w) (m:=m) w1 (by omega);rw[show (qk s i).low+(m:Int)=(qk s i).high by omega] at hab;have f0:∀ c,c*w>(qk s i).high↔qG (qk s i).high w<c:=fun c=>by
  have h3:=qm7 (v:=(qk s i).high) (w:=w) (by omega);constructor
  ·intro h;refine AQ fun z=>?_;have:c*w≤qG (qk s i).high w*w:=Int.mul_le_mul_of_nonneg_right (by omega) (by omega);omega
  ·intro h;have:(qG (qk s i).high w+1)*w≤c*w:=Int.mul_le_mul_of_nonneg_right (by omega) (by omega);rw[Int.add_mul] at this;omega
 by_cases o0:o=0
 ·simp only[Aj o0];cases (qk s i).opt
  ·simp only[Bool.not_false,Bool.true_and,AZ,f0,Bool.false_eq_true,if_false];omega
  ·simp only[Bool.not_true,Bool.false_and,if_true,Bool.false_eq_true,false_iff];omega
 simp only[Aq o0];obtain⟨k,k1,k2⟩:=hok.wdv hi h0 h2 (o:=o) (lev:=lev) (by omega) (by omega);rw[hW] at k2;rw[k2,kj0 w1 (by omega),kj0 w1 (by omega)];have f3:∀ x:Int,(x*w).tmod (k*w)=0↔k ∣ x:=fun x=>by
  constructor
  ·intro h;obtain⟨q,hq⟩:=Int.dvd_of_tmod_eq_zero h;exact⟨q,Int.eq_of_mul_eq_mul_right (show w≠0 by omega) (by rw[hq,Int.mul_assoc,Int.mul_assoc,Int.mul_comm w])⟩
  ·rintro ⟨q,rfl⟩;rw[Int.mul_assoc,Int.mul_comm q,← Int.mul_assoc,Int.mul_tmod_right]
 have f2:(qG (qk s i).low w+1)*w+w=(qG (qk s i).low w+1+1)*w:=by rw[Int.add_mul (_+1) 1,Int.one_mul]
 have hD:divM (qk s i).high w (k*w) 2 ((qG (qk s i).low w+1)*w)=true↔qG (qk s i).high w<qG (qk s i).low w+1∨(k ∣ qG (qk s i).low w+1∧(qG (qk s i).high w<qG (qk s i).low w+1+1∨k ∣ qG (qk s i).low w+1+1)):=by
  rw[divM,divM,divM,f2];simp only[f0,ne_eq,f3];split
  ·rename_i h;simp only[h,true_or,iff_true]
  ·rename_i h;split
   ·rename_i h4;simp only[h,h4,false_and,or_self,Bool.false_eq_true]
   ·rename_i h4;rw[Classical.not_not] at h4;split
    ·rename_i h5;simp only[h4,h5,true_or,and_true,or_true]
    ·rename_i h5;split
     ·rename_i h6;simp only[h,h5,h6,or_self,and_false,Bool.false_eq_true]
     ·rename_i h6;rw[Classical.not_not] at h6;simp only[h4,h6,or_true,and_true]
 rw[hD];generalize qG (qk s i).high w=b at hab ⊢
 generalize qG (qk s i).low w=a at hab ⊢
 obtain⟨n,hn⟩:=AJ (show 0≤b-a by omega);have e0:=zh4 (a:=a) (k:=k) (m:=n) (by omega) (by omega);rw[show a+(n:Int)=b by omega] at e0;refine⟨by omega,?_⟩;by_cases q0:n=0
 ·have:b=a:=by omega
  subst this;exact⟨fun _=>by omega,fun _=>.inl (by omega)⟩
 obtain⟨s1,s2⟩:=jG7 (a:=a) (k:=k) (by omega);have e1:=zh4 (a:=a+1) (k:=k) (m:=b-a-1) (by omega) (by omega);rw[show a+1+(b-a-1)=b by omega] at e1;by_cases d1:k ∣ a+1
 ·have s1:=s1 d1;by_cases q1:n=1
  ·have:b=a+1:=by omega
   subst this;exact⟨fun _=>by omega,fun _=>.inr ⟨d1,.inl (by omega)⟩⟩
  ·have d2:¬ k ∣ a+1+1:=by
    rintro ⟨p,hp⟩;obtain⟨r,hr⟩:=d1;have:k*(p-r)=1:=by rw[Int.mul_sub];omega
    have:=Int.le_of_dvd (by omega) ⟨_,this.symm⟩;omega
   obtain⟨_,s4⟩:=jG7 (a:=a+1) (k:=k) (by omega);have s4:=s4 d2;have e2:=zh4 (a:=a+1+1) (k:=k) (m:=b-a-2) (by omega) (by omega);rw[show a+1+1+(b-a-2)=b by omega] at e2;refine⟨fun h=>?_,fun h=>by omega⟩;rcases h with h | ⟨_,h | h⟩
   ·omega
   ·omega
   ·exact absurd h d2
 ·have s2:=s2 d1;refine⟨fun h=>?_,fun h=>by omega⟩;rcases h with h | ⟨h,_⟩
  ·omega
  ·exact absurd h d1
theorem qn5 (s:Sch) (hE:schE s=0) (i:Nat) (hi:i<s.cols.length) (h0:0<i) (lev:Nat) (hl:(lev:Int)≤finI s i):Spc Tryz.prog Qv [schT s,vI i,vI lev] [] (vI (blkI s i lev)) []:=by
 have hok:=qQ hE;obtain⟨_,c1,c2,hfin⟩:=yR (s:=s) (c:=i) (by omega);rw[Ax] at hfin;have hat:qk s i=s.cols[i]:=by rw[qk,qh hi]
 have hk:=za (hok.cs i hi);have hcd:=fun e=>hok.cdl hi e;have hwd:=fun e l=>hok.wid hi (by omega) e (lev:=l);have hcl:qJ s i=s.lists.getD s.cols[i].list.toNat default:=by rw[qJ,hat]
 have hE2:blkI s i lev=if s.cols[i].kind=2 then ((lvN (qJ s i).codes lev).length:Int)
  else if lev=0 then 1 else qG s.cols[i].high (qD s.cols[i] lev)-qG s.cols[i].low (qD s.cols[i] lev)+1+(if s.cols[i].opt=true then 1 else 0):=by rw[blkI,hat]
 rw[hE2];rw[hat] at hk hcd hwd hfin;rw[hcl] at hcd ⊢
 refine qd qU7 mixm (by simp) fun e _ hst=>qg ?_;unfold JG;simp only[tZ,↓un_u,simprocAttr,Ax,qe hi];generalize s.cols[i]=x at hk hcd hwd hfin ⊢
 simp only[tZ,↓un_u,simprocAttr,tD,AY,Ak];refine⟨by omega,fun h2=>?_,fun h2=>⟨fun h3=>?_,fun h3=>?_⟩⟩
 ·rw[Aj h2];obtain⟨d1,d2⟩:=hcd h2;obtain⟨d3,d4⟩:=hk.2.2.2.1 h2;have hgl:s.lists.getD x.list.toNat default=s.lists[x.list.toNat]:=qh d1;rw[hgl] at d2 ⊢
  simp only[tZ,↓un_u,simprocAttr,qe d1];generalize s.lists[x.list.toNat]=l at d2 ⊢
  refine⟨by omega,?_⟩;refine C1.im (qp6 l lev) (by rfl) (by rfl) ?_;rw[← kc4 d2];refine sW ?_;exact .oA [] []
 ·rw[Aq h2,Aj (by omega)];exact .oA [] []
 rw[Aq h2,Aq (by omega)];rw[Aq h2] at hfin;obtain⟨w1,w2,w3,w4,w5,w6,w7,_⟩:=hwd h2 lev (by omega);refine C1.im (ZW x lev (by omega) (by omega)) (by rfl) (by rfl) ?_;generalize qD x lev=w at w1 w2 ⊢
 have h4:=qm7 (v:=x.high) (w:=w) (by omega);have h5:=qm7 (v:=x.low) (w:=w) (by omega);obtain⟨m,hm⟩:=AJ (show 0≤x.high-x.low by omega);have hab:=zh4 (a:=x.low) (k:=w) (m:=m) w1 (by omega);rw[show x.low+(m:Int)=x.high by omega] at hab;have wa:IntKind.i64.wrap (qG x.high w*w-qG x.low w*w)=qG x.high w*w-qG x.low w*w:=AK _ (by omega);have wb:(qG x.high w*w-qG x.low w*w).tdiv w=qG x.high w-qG x.low w:=by rw[← Int.sub_mul,Int.mul_tdiv_cancel _ (by omega)]
 have wc:IntKind.i64.wrap (qG x.high w-qG x.low w)=qG x.high w-qG x.low w:=AK _ (by omega);have wd:IntKind.i64.wrap (qG x.high w-qG x.low w+1)=qG x.high w-qG x.low w+1:=AK _ (by omega);have we:IntKind.i64.wrap (qG x.high w-qG x.low w+1+1)=qG x.high w-qG x.low w+1+1:=AK _ (by omega);refine sW ?_;refine C1.im (wK x.high w (by omega) (by omega)) (by rfl) (by rfl) ?_;refine sW ?_;refine C1.im (wK x.low w (by omega) (by omega)) (by rfl) (by rfl) ?_;simp only[tZ,↓un_u,simprocAttr,wa,wb,wc,wd,we]
 repeat (first | refine⟨by omega,?_⟩ | refine⟨by kernel_rfl,?_⟩)
 refine⟨fun h6=>?_,fun h6=>?_⟩
 ·rw[Aj h6];exact .oA [] []
 ·rw[Aq (by rw[h6];simp),Int.add_zero];exact .oA [] []
theorem jj5 {p:Nat→Bool} {N:Nat}:∀ (f n:Nat),n≤N→N-n<f→p N=true→(∀ m,n≤m→m<N→p m=false)→Wi p f n=N
 | 0,n,h1,h2,_,_=>by omega
 | f+1,n,h1,h2,h3,h4=>by
   rw[Wi];by_cases e:n=N
   ·subst e;rw[Aj h3]
   ·rw[Aq (by rw[h4 n (Nat.le_refl _) (by omega)];simp)];exact jj5 f (n+1) (by omega) (by omega) h3 fun m h5 h6=>h4 m (by omega) h6
theorem qu0 (s:Sch) (hs:yd s) (c lev:Int):Spc Tryz.prog ZT [schT s,vI c,vI lev] [] (vI (jN s c lev)) []:=by
 refine qd zd5 mixm (by simp) fun e _ hst=>qg ?_;unfold KW;refine sW ?_;refine C1.im (Wr s hs c) (by rfl) (by rfl) ?_;refine sD ?_;refine⟨fun h=>?_,fun h=>?_⟩
 ·rw[jN,Aj (qm6.2 (by omega))];exact .oA [] []
 rw[jN,Aq (by rw[qm6];omega)];obtain⟨hE,c1,c2,hfin⟩:=yR (s:=s) (c:=c) (by omega);have hfl:=qm8 (c:=c) hE;have hok:=qQ hE;obtain⟨i,rfl⟩:=AJ (show 0≤c by omega);obtain⟨v,rfl⟩:=AJ (show 0≤lev by omega);simp only[Ax];have hi:i<s.cols.length:=by omega
 have key:∀ n,n≤v→blkI s i n=blkI s i v→(n=0∨blkI s i (n-1)≠blkI s i n)→Wi (fun n=>divB s i n v) 64 0=n:=fun n h1 h2 h3=>by
  refine jj5 64 0 (by omega) (by omega) ((zD4 hE hi (by omega) h1 (by omega)).2.2 h2) fun m _ hm=>?_;cases e:divB s i m v with
  | false=>rfl
  | true=>
    have e1:=(zD4 hE hi (by omega) (show m≤v by omega) (by omega)).2.1 e;have e2:=(zD4 hE hi (by omega) (show m≤n-1 by omega) (by omega)).1;have e3:=(zD4 hE hi (by omega) (show n-1≤n by omega) (by omega)).1;omega
 refine qu mixm (α:=Nat) [2,17] (fun n=>n≤v∧blkI s i n=blkI s i v) (fun n=>[(2,vI n)]) (fun n=>[(4096,.arr 2 [schT s] false)]) (fun n=>n) v ⟨by omega,rfl⟩ ?_ fun n hn=>?_
 ·exact .oA [(4096,some 4096)] []
 obtain⟨n1,n2⟩:=hn;rcases Nat.eq_zero_or_pos n with hz | hz
 ·subst hz;have e0:decide (((0:Nat):Int)>0)=false:=by decide
  simp only[tZ,↓un_u,simprocAttr,e0];refine C2.no (fun h=>h) ?_;refine sW ?_;refine C2.no (fun h=>h) ?_;refine sW ?_
  repeat (first | refine⟨by omega,?_⟩ | refine⟨by kernel_rfl,?_⟩)
  rw[key 0 (by omega) n2 (.inl rfl)];exact .oA [] []
 ·obtain⟨k,rfl⟩:∃ k,n=k+1:=⟨n-1,by omega⟩;have e0:decide (((k+1:Nat):Int)>0)=true:=decide_eq_true (by omega);have e3:=jO (i:=k+1) (by omega) (by omega);rw[Nat.add_sub_cancel] at e3;simp only[tZ,↓un_u,simprocAttr,e0,e3];refine C2.im (fun _=>qn5 s hE i hi (by omega) k (by omega)) (fun _=>rfl) (by rfl) ?_;refine sW ?_;refine C2.im (fun _=>qn5 s hE i hi (by omega) (k+1) (by omega)) (fun _=>rfl) (by rfl) ?_;simp only[tZ,↓un_u,simprocAttr,AY,Ak,e3]
  repeat (first | refine⟨by omega,?_⟩ | refine⟨by kernel_rfl,?_⟩)
  refine⟨fun h5=>?_,fun h5=>?_⟩
  ·refine⟨k,⟨by omega,by omega⟩,by omega,?_⟩;exact .oA [(4096,some 4096)] []
  ·rw[key (k+1) (by omega) n2 (.inr h5)];exact .oA [] []
end Go.Proofs
namespace Go.Proofs
open Go Go.TL
set_option maxRecDepth 4000
set_option maxHeartbeats 8000000
theorem qO3:∀ (c:Cnd) (m:Int),0≤m→m≤1000→Spc Tryz.prog wC [cnT c,vI m] [] (vI (cntC c (m+1))) []:=by
 refine Cnd.ind' fun c ih m hm hm2=>?_;rw[YB];refine qd qD8 mixm (by simp) fun e _ hst=>qg ?_;unfold QL;refine sW ?_;refine qu mixm (α:=Nat×Int) [5,11] (fun y=>y.1≤c.kids.length∧wu c.kids (m+1) 1=wu (c.kids.drop y.1) (m+1) y.2∧y.2≤m+1∧y.1+1≤y.2) (fun y=>[(5,vI y.2),(11,vI y.1)]) (fun y=>[]) (fun y=>c.kids.length-y.1) (0,1) ⟨by simp,rfl,by dsimp only;omega,by simp⟩ ?_ fun y hy=>?_
 ·exact .oA [] []
 obtain⟨i,n⟩:=y;obtain⟨y1,y2,y3,y4⟩:=hy;dsimp only at y1 y2 y3 y4;rw[y2];refine sD ?_;refine⟨fun h=>?_,fun h=>?_⟩
 ·have hi:i<c.kids.length:=by omega
  have hwi:=qj (i:=i) (by omega);rw[zB3 hi,wu];simp only[tZ,↓un_u,simprocAttr,Ax,qe hi,zp,tD];refine⟨by omega,fun h2=>?_,fun h2=>?_⟩
  ·rw[Aq (by omega)];exact .oA [] []
  have hw:IntKind.i64.wrap (m-n)=m-n:=AK _ (by omega);have hc:=qR3 c.kids[i] (m-n+1) (by omega);have e1:m+1-n=m-n+1:=by omega
  have hw2:IntKind.i64.wrap (n+cntC c.kids[i] (m-n+1))=n+cntC c.kids[i] (m-n+1):=AK _ (by omega);rw[Aj (by omega),e1];simp only[tZ,↓un_u,simprocAttr,hw];refine C1.im (ih _ (AX hi) (m-n) (by omega) (by omega)) (by rfl) (by rfl) ?_;simp only[tZ,↓un_u,simprocAttr,hw2,hwi];refine⟨(i+1,n+cntC c.kids[i] (m-n+1)),⟨by dsimp only;omega,rfl,by dsimp only;omega,by dsimp only;omega⟩,by dsimp only;omega,?_⟩;exact .oA [] []
 ·rw[List.drop_of_length_le (by omega),wu];exact .oA [] []
theorem qW1:∀ (c:Cnd) (m:Int),1≤m→m≤1000→cntC c m<m→Spc Tryz.prog yq [cnT c] [] (vI (depC c)) []:=by
 refine Cnd.ind' fun c ih m hm hm2 hc=>?_;have hd:=jE4 c m hm hc;rw[YB] at hc hd;obtain⟨hk1,hk2⟩:=qG0 (by omega) hc;rw[qN0] at hd ⊢
 refine qd qL8 mixm (by simp) fun e _ hst=>qg ?_;unfold ZD;refine sW ?_;refine qu mixm (α:=Nat) [3,9] (fun i=>i≤c.kids.length) (fun i=>[(3,vI (kD (c.kids.take i))),(9,vI i)]) (fun i=>[]) (fun i=>c.kids.length-i) 0 (by omega) ?_ fun i hi=>?_
 ·refine .of [] [] rfl (by first | rfl | (rw[hst];rfl)) ?_ ?_
  all_goals (try simp only[tL,simprocAttr,List.map_append,List.map_cons,List.map_nil,List.cons_append,List.nil_append,List.take_zero,kD])
  all_goals (try (repeat' (first | exact zb | (apply zx;intro _;exact⟨rfl,rfl⟩) | (apply qE;intro _;exact⟨rfl,rfl⟩) | with_reducible apply qW | with_reducible refine qR ⟨rfl,rfl⟩ ?_ | exact qX | with_reducible apply qS | with_reducible refine qV ⟨rfl,rfl,?_⟩ ?_ | with_reducible apply Az | exact qT rfl | exact qT (by assumption) | (refine⟨⟨?_,rfl,?_,rfl,?_⟩,trivial⟩ <;> first | (simp;done) | (apply qE;intro _;exact⟨rfl,rfl⟩)) | trivial | rfl | (rw[qj (by omega)]) | omega)))
 have hdt:=qN6 c.kids i;refine sD ?_;refine⟨fun h=>?_,fun h=>?_⟩
 ·have hi2:i<c.kids.length:=by omega
  have hwi:=qj (i:=i) (by omega);have hs:kD (c.kids.take (i+1))=max (kD (c.kids.take i)) (depC c.kids[i]):=by rw[qH hi2,qN5]
  obtain⟨m',a1,a2,a3⟩:=hk2 _ (AX hi2);simp only[tZ,↓un_u,simprocAttr,Ax,qe hi2,zp];refine⟨by omega,?_⟩;refine C1.im (ih _ (AX hi2) m' a1 (by omega) a3) (by rfl) (by rfl) ?_;have hmx:maxI (kD (c.kids.take i):Int) (depC c.kids[i])=(kD (c.kids.take (i+1)):Int):=by rw[hs];unfold maxI;omega
  simp only[tZ,↓un_u,simprocAttr,hwi,hmx];refine⟨i+1,by omega,by omega,?_⟩;exact .oA [] []
 ·have hil:i=c.kids.length:=by omega
  subst hil;rw[List.take_length] at hdt ⊢
  have hw:=qj (i:=kD c.kids) (by omega);simp only[tZ,↓un_u,simprocAttr,hw];exact .oA [] []
theorem qW2 (op:Int):Spc Tryz.prog Jn [vI op] [] (vI (arC op)) []:=by
 refine qd qM6 mixm (by simp) fun e _ hst=>qg ?_;unfold ZJ;simp only[tZ,↓un_u,simprocAttr,Cnd.op,Cnd.col,Cnd.code,Cnd.lo,Cnd.hi,Cnd.kids];by_cases h5:op=5
 ·subst h5;refine sW ?_;exact .oA [] []
 by_cases h6:op=6
 ·subst h6;refine sW ?_;exact .oA [] []
 by_cases h7:op=7
 ·subst h7;refine sW ?_;exact .oA [] []
 have e:arC op=0:=by rw[arC,Aq (by omega),Aq h7]
 rw[e];simp only[tZ,↓un_u,simprocAttr,beq_eq_false_iff_ne.2 h5,beq_eq_false_iff_ne.2 h6,beq_eq_false_iff_ne.2 h7];exact .oA [] []
def unuC (c:Cnd):Bool:=if ((!isAt c&&(c.col != 0))||((c.op != 2)&&(c.code != 0)))=true then false else (c.op==3)||((c.lo==0)&&(c.hi==0))
theorem kc5 {c:Cnd}:unuC c=false↔(c.op≠2∧c.op≠3∧c.op≠4∧c.col≠0)∨(c.op≠2∧c.code≠0)∨(c.op≠3∧(c.lo≠0∨c.hi≠0)):=by
 unfold unuC isAt
 grind
theorem qI3 (c:Cnd):Spc Tryz.prog Qy [cnT c] [] (vB (unuC c)) []:=by
 refine qd qx9 mixm (by simp) fun e _ hst=>qg ?_;unfold yP;refine sW ?_;have hi:isAt c=((c.op==2)||(c.op==3)||(c.op==4)):=rfl;rw[← hi];unfold unuC;cases h:(!isAt c&&(c.col != 0))
 ·simp only[tZ,↓un_u,simprocAttr,h];cases h2:((c.op != 2)&&(c.code != 0))
  ·simp only[tZ,↓un_u,simprocAttr,h2];exact .oA [] []
  ·simp only[tZ,↓un_u,simprocAttr,h2];exact .oA [] []
 ·simp only[tZ,↓un_u,simprocAttr,h];exact .oA [] []
theorem qs7 (s:Sch) (hok:SchOk s) (c:Cnd):Spc Tryz.prog wR [schT s,cnT c] [] (vI (ndE s c)) []:=by
 have hn0:=hok.nl;have hn1:=hok.nc;have hn:ndE s c=if c.op<1∨7<c.op then 4
 else if c.kids.length≠arC c.op∨(c.op≠2∧c.op≠3∧c.op≠4∧c.col≠0)∨(c.op≠2∧c.code≠0)∨(c.op≠3∧(c.lo≠0∨c.hi≠0)) then 11
 else if (c.op=2∧isB s c.col 2=false)∨(c.op=3∧isB s c.col 3=false)∨(c.op=4∧(isB s c.col 3=false∨(qk s c.col.toNat).opt=false)) then 7
 else if c.op=2∧(c.code<0∨c.code≥(qJ s c.col.toNat).codes.length) then 6
 else if c.op=3∧(c.lo < -1000000∨c.hi>1000000∨c.lo>c.hi) then 2 else 0:=rfl
 have hu:=@kc5 c;generalize ndE s c=E at hn ⊢
 refine qd qm0 mixm (by simp) fun e _ hst=>qg ?_;unfold wq;refine sD ?_;refine⟨fun h=>?_,fun h=>?_⟩
 ·rw[Aj (by omega)] at hn;rw[hn];exact .oA [] []
 rw[Aq (by omega)] at hn;refine C1.im (qW2 c.op) (by rfl) (by rfl) ?_;refine sW ?_;refine C2.im (fun _=>qI3 c) (fun _=>rfl) (by rfl) ?_;simp only[tZ,↓un_u,simprocAttr,bne_iff_ne,Aw,Bx,Bz]
 repeat (first | refine⟨by omega,?_⟩ | refine⟨by kernel_rfl,?_⟩)
 refine⟨fun h2=>?_,fun h2=>?_⟩
 ·rw[Aj (by grind)] at hn;rw[hn];exact .oA [] []
 rw[Aq (by grind)] at hn;by_cases hat:c.op≠2∧c.op≠3∧c.op≠4
 ·rw[Aq (by omega),Aq (by omega),Aq (by omega)] at hn;rw[hn];simp only[tZ,↓un_u,simprocAttr,bne_iff_ne.2 hat.1,bne_iff_ne.2 hat.2.1,bne_iff_ne.2 hat.2.2];exact .oA [] []
 have e1:((c.op != 2)&&(c.op != 3)&&(c.op != 4))=false:=by
  cases e:((c.op != 2)&&(c.op != 3)&&(c.op != 4)) with
  | false=>rfl
  | true=>exact absurd (by simpa [and_assoc] using e) hat
 simp only[tZ,↓un_u,simprocAttr,e1,tD];refine⟨fun h3=>?_,fun h3=>?_⟩
 ·have b2:isB s c.col 2=false:=by
   cases e:isB s c.col 2 with
   | false=>rfl
   | true=>have:=zD.1 e;omega
  have b3:isB s c.col 3=false:=by
   cases e:isB s c.col 3 with
   | false=>rfl
   | true=>have:=zD.1 e;omega
  rw[b2,b3,Aj (by grind)] at hn;rw[hn];exact .oA [] []
 obtain⟨i,hci⟩:=AJ (show 0≤c.col by omega);have hil:i<s.cols.length:=by omega
 have hat2:qk s i=s.cols[i]:=by rw[qk,qh hil]
 have hcd:=fun e=>hok.cdl hil e;have hcd2:=(za (hok.cs i hil)).2.2.2.1;have hcl:qJ s i=s.lists.getD s.cols[i].list.toNat default:=by rw[qJ,hat2]
 have hB:∀ k,isB s c.col k=(s.cols[i].kind==k):=fun k=>by
  rw[isB,hci,Ax,hat2,decide_eq_true (by omega),decide_eq_true (by omega)];rfl
 rw[hB,hB,hci,Ax,hcl,hat2] at hn;rw[hat2,hcl] at hcd;rw[hat2] at hcd2;simp only[tZ,↓un_u,simprocAttr,hci,Ax,qe hil];generalize s.cols[i]=x at hn hcd hcd2 ⊢
 simp only[tZ,↓un_u,simprocAttr,AY,Ak,bne_iff_ne,Aw];refine⟨by omega,fun h4=>⟨fun h5=>?_,fun h5=>?_⟩,fun h4=>⟨fun h5=>⟨fun h6=>?_,fun h6=>?_⟩,fun h5=>?_⟩⟩
 ·rw[Aj (by grind)] at hn;rw[hn];exact .oA [] []
 ·rw[Aq (by grind)] at hn;obtain⟨d1,d2⟩:=hcd h5;obtain⟨d3,d4⟩:=hcd2 h5;rw[qh d1] at hn;simp only[tZ,↓un_u,simprocAttr,qe d1,tD];generalize s.lists[x.list.toNat]=l at hn
  repeat (first | refine⟨by omega,?_⟩ | refine⟨by kernel_rfl,?_⟩)
  refine⟨fun h6=>?_,fun h6=>?_⟩
  ·rw[Aj (by grind)] at hn;rw[hn];exact .oA [] []
  ·rw[Aq (by grind),Aq (by grind)] at hn;rw[hn];exact .oA [] []
 ·rw[Aj (by grind)] at hn;rw[hn];exact .oA [] []
 ·rw[Aq (by grind),Aq (by grind)] at hn;refine sD ?_;refine⟨fun h7=>?_,fun h7=>?_⟩
  ·rw[Aj (by grind)] at hn;rw[hn];exact .oA [] []
  ·rw[Aq (by grind)] at hn;rw[hn];exact .oA [] []
 ·refine⟨fun h6=>?_,fun h6=>by omega⟩;refine⟨fun h7=>?_,fun h7=>?_⟩
  ·rw[Aj (by grind)] at hn;rw[hn];exact .oA [] []
  ·rw[Aq (by grind),Aq (by grind),Aq (by grind)] at hn;rw[hn];exact .oA [] []
theorem kj1 (op:Int):arC op≤2:=by
 unfold arC;split
 ·omega
 ·split <;> omega
theorem qs8 (s:Sch) (hok:SchOk s):∀ (c:Cnd),Spc Tryz.prog jQ [schT s,cnT c] [] (vI (nodE s c)) []:=by
 refine Cnd.ind' fun c ih=>?_;have hN:=zA8 s c;generalize nodE s c=N at hN ⊢
 refine qd ql2 mixm (by simp) fun e _ hst=>qg ?_;unfold wl;refine sW ?_;refine C1.im (qs7 s hok c) (by rfl) (by rfl) ?_;simp only[tZ,↓un_u,simprocAttr,bne_iff_ne,Aw];refine⟨fun h=>?_,fun h=>?_⟩
 ·rw[hN,Aj h];exact .oA [] []
 rw[Aq (by rw[h];simp)] at hN;have hnk:=(ji2 h).nk;have har:=kj1 c.op;rw[hN];refine qu mixm (α:=Nat) [18] (fun i=>i≤c.kids.length∧(Zd s (c.kids.take i)=0)) (fun i=>[(18,vI i)]) (fun i=>[(4096,.arr 2 [schT s] false)]) (fun i=>c.kids.length-i) 0 ⟨by omega,?_⟩ ?_ fun i hi=>?_
 ·rfl
 ·exact .oA [(4096,some 4096)] []
 simp only[tZ,↓un_u,simprocAttr,AZ,Ay];refine⟨fun h=>?_,fun h=>?_⟩
 ·have hi2:i<c.kids.length:=by omega
  have hi2:i<c.kids.length:=by omega
  have hwi:=qj (i:=i) (by omega);simp only[tZ,↓un_u,simprocAttr,Ax,qe hi2,hwi,zp];refine⟨by omega,?_⟩;refine C1.im (ih _ (AX hi2)) (by rfl) (by rfl) ?_;simp only[tZ,↓un_u,simprocAttr,bne_iff_ne,Aw];refine⟨fun h6=>?_,fun h6=>?_⟩
  ·rw[qy6 hi2 hi.2 h6];exact .oA [] []
  ·refine⟨i+1,⟨by omega,by rw[qH hi2];exact qN7 hi.2 h6⟩,by omega,?_⟩;exact .oA [(4096,some 4096)] []
 ·have hi2:i=c.kids.length:=by omega
  subst hi2;rw[List.take_of_length_le (by omega)] at hi;rw[hi.2];exact .oA [] []
theorem ka (s:Sch) (hs:yd s) (c:Cnd):Spc Tryz.prog zz [schT s,cnT c] [] (vI (chkC s c)) []:=by
 refine qd qC8 mixm (by simp) fun e _ hst=>qg ?_;unfold QG;refine sW ?_;refine C1.im (zZ s hs.2.1 hs.1) (by rfl) (by rfl) ?_;simp only[tZ,↓un_u,simprocAttr,bne_iff_ne,Aw];refine⟨fun h=>?_,fun h=>?_⟩
 ·rw[chkC,Aj h];exact .oA [] []
 have hok:=qQ h;refine C1.im (qO3 c 40 (by omega) (by omega)) (by rfl) (by rfl) ?_;rw[show (40:Int)+1=41 from rfl];refine sD ?_;refine⟨fun h2=>?_,fun h2=>?_⟩
 ·rw[chkC,Aq (by rw[h];simp),Aj h2];exact .oA [] []
 refine C1.im (qW1 c 41 (by omega) (by omega) (by omega)) (by rfl) (by rfl) ?_;refine sD ?_;refine⟨fun h3=>?_,fun h3=>?_⟩
 ·rw[chkC,Aq (by rw[h];simp),Aq h2,Aj (by omega)];exact .oA [] []
 rw[chkC,Aq (by rw[h];simp),Aq h2,Aq (by omega)];refine C1.im (qs8 s hok c) (by rfl) (by rfl) ?_;refine sW ?_;exact .oA [] []
theorem ZO (b:Bool):Spc Tryz.prog jT [vB b] [] (vI (tf b)) []:=by
 refine qd qF3 mixm (by simp) fun e _ hst=>qg ?_;unfold QS;refine sW ?_;cases b
 ·refine sW ?_;exact .oA [] []
 ·refine sW ?_;exact .oA [] []
theorem qf8 (s:Sch) (hok:SchOk s) (c:Cnd) (hc:NdOk s c) (ha:isAt c=true) (v:Int):Spc Tryz.prog yu [schT s,cnT c,vI v] [] (vI (QU s c v)) []:=by
 have hn0:=hok.nl;have hn1:=hok.nc;have hA:QU s c v=if c.op=2 then tf (qm4 (qJ s c.col.toNat) v c.code)
 else if c.op=3 then (if v=yh then 0 else tf (decide (c.lo≤v)&&decide (v≤c.hi)))
 else if c.op=4 then tf (v==yh) else -1:=rfl
 rw[hA];by_cases h2:c.op=2
 ·obtain⟨b,b4,b5⟩:=hc.under h2;obtain⟨b1,b2,b3⟩:=zD.1 b;obtain⟨i,hci⟩:=AJ b1;rw[hci] at b2 b5;rw[hci,Ax] at b3;rw[Ax] at b5;have hil:i<s.cols.length:=by omega
  have hat:qk s i=s.cols[i]:=by rw[qk,qh hil]
  have hcd:=hok.cdl hil b3;have hcd2:=(za (hok.cs i hil)).2.2.2.1 b3;have hcl:qJ s i=s.lists.getD s.cols[i].list.toNat default:=by rw[qJ,hat]
  rw[hat] at hcd hcd2;rw[Aj h2,hci,Ax];rw[hcl,qh hcd.1] at hcd ⊢
  have q:(c.op==2)=true:=beq_iff_eq.2 h2;refine qd ZH mixm (by simp) fun e _ hst=>qg ?_;unfold jW;simp only[tZ,↓un_u,simprocAttr,q,hci,Ax,qe hil,qe hcd.1];refine⟨by omega,by omega,?_⟩;refine C1.im (zD0 _ v c.code) (by rfl) (by rfl) ?_;refine sW ?_
  repeat (first | refine⟨by omega,?_⟩ | refine⟨by kernel_rfl,?_⟩)
  refine C1.im (ZO _) (by rfl) (by rfl) ?_;refine sW ?_
  repeat (first | refine⟨by omega,?_⟩ | refine⟨by kernel_rfl,?_⟩)
  exact .oA [] []
 have q:(c.op==2)=false:=beq_eq_false_iff_ne.2 h2;rw[Aq h2];by_cases h4:c.op=4
 ·have q4:(c.op==4)=true:=beq_iff_eq.2 h4;rw[Aq (by omega),Aj h4];refine qd ZH mixm (by simp) fun e _ hst=>qg ?_;unfold jW;simp only[tZ,↓un_u,simprocAttr,q,q4];rw[show (-1099511627776:Int)=yh from rfl];refine C1.im (ZO _) (by rfl) (by rfl) ?_;refine sW ?_;exact .oA [] []
 have q4:(c.op==4)=false:=beq_eq_false_iff_ne.2 h4;have h3:c.op=3:=by
  unfold isAt at ha;rw[q,q4] at ha;simpa using ha
 rw[Aj h3];refine qd ZH mixm (by simp) fun e _ hst=>qg ?_;unfold jW;simp only[tZ,↓un_u,simprocAttr,q,q4,AY,Ak];rw[show (-1099511627776:Int)=yh from rfl];refine⟨fun h=>?_,fun h=>?_⟩
 ·rw[Aj h];exact .oA [] []
 ·rw[Aq h];refine C1.im (ZO _) (by rfl) (by rfl) ?_;refine sW ?_;exact .oA [] []
theorem qO4:∀ (c:Cnd) (m:Int),1≤m→m≤1000→cntC c m<m→Spc Tryz.prog wF [cnT c] [] (vCs (atsC c)) []:=by
 refine Cnd.ind' fun c ih m hm hm2 hc=>?_;have hal:=zf8 c m hm hc;rw[YB] at hc hal;obtain⟨hk1,hk2⟩:=qG0 (by omega) hc;have hi:isAt c=((c.op==2)||(c.op==3)||(c.op==4)):=rfl;refine qd qE6 mixm (by simp) fun e _ hst=>qg ?_;unfold QP;refine sW ?_;rw[← hi];refine⟨fun h=>?_,fun h=>?_⟩
 ·rw[qN1,Aj h];show Zh [] _ _ (.sl 6 [cndT c]) [];rw[zp];exact .oA [] [12292]
 ·rw[qN1,Aq (by rw[h];simp)] at hal ⊢
  refine qu mixm (α:=Nat) [3,24,18] (fun i=>i≤c.kids.length) (fun i=>[(3,.asl 1 (WA (c.kids.take i)).length),(24,vI i)]) (fun i=>[(1,.arr 6 ((WA (c.kids.take i)).map cndT) false)]) (fun i=>c.kids.length-i) 0 (by omega) ?_ fun i hi2=>?_
  ·exact .oA [(1,none)] []
  have htl:=QY c.kids i;refine sD ?_;refine⟨fun h5=>?_,fun h5=>?_⟩
  ·have hi2:i<c.kids.length:=by omega
   have hwi:=qj (i:=i) (by omega);obtain⟨m',a1,a2,a3⟩:=hk2 _ (AX hi2);have htl2:=QY c.kids (i+1);rw[qH hi2,YW,AW] at htl2;simp only[tZ,↓un_u,simprocAttr,Ax,qe hi2,zp];refine⟨by omega,?_⟩;refine C1.im (ih _ (AX hi2) m' a1 (by omega) a3) (by rfl) (by rfl) ?_;simp only[tZ,↓un_u,simprocAttr,hwi];refine⟨by omega,i+1,by omega,by omega,?_⟩;rw[qH hi2,YW,List.map_append];refine .of [(1,some 1)] [] rfl (by first | rfl | (rw[hst];rfl)) ?_ ?_
   all_goals (try simp only[tL,simprocAttr,List.map_append,List.map_cons,List.map_nil,List.cons_append,List.nil_append,List.append_assoc])
   all_goals (try (repeat' (first | exact zb | (apply zx;intro _;exact⟨rfl,rfl⟩) | (apply qE;intro _;exact⟨rfl,rfl⟩) | with_reducible apply qW | with_reducible refine qR ⟨rfl,rfl⟩ ?_ | exact qX | with_reducible apply qS | with_reducible refine qV ⟨rfl,rfl,?_⟩ ?_ | with_reducible apply Az | exact qT rfl | exact qT (by assumption) | (refine⟨⟨?_,rfl,?_,rfl,?_⟩,trivial⟩ <;> first | (simp;done) | (apply qE;intro _;exact⟨rfl,rfl⟩)) | trivial | rfl | (rw[qj (by omega)]) | omega)))
   all_goals first | exact zB6 _ | exact zP3 _
  ·have hil:i=c.kids.length:=by omega
   subst hil;rw[List.take_length];refine .of [] [1] rfl (by first | rfl | (rw[hst];rfl)) ?_ ?_
   all_goals (try simp only[tL,simprocAttr,List.map_append,List.map_cons,List.map_nil,List.cons_append,List.nil_append,List.append_assoc])
   all_goals (try (repeat' (first | exact zb | (apply zx;intro _;exact⟨rfl,rfl⟩) | (apply qE;intro _;exact⟨rfl,rfl⟩) | with_reducible apply qW | with_reducible refine qR ⟨rfl,rfl⟩ ?_ | exact qX | with_reducible apply qS | with_reducible refine qV ⟨rfl,rfl,?_⟩ ?_ | with_reducible apply Az | exact qT rfl | exact qT (by assumption) | (refine⟨⟨?_,rfl,?_,rfl,?_⟩,trivial⟩ <;> first | (simp;done) | (apply qE;intro _;exact⟨rfl,rfl⟩)) | trivial | rfl | (rw[qj (by omega)]) | omega)))
   all_goals first | exact zB6 _ | exact zP3 _
end Go.Proofs
namespace Go.Proofs
open Go Go.TL
set_option maxRecDepth 4000
set_option maxHeartbeats 8000000
theorem qf9 (n w:Int) (hw:0<w∧w≤1000000) (hn : -4611686018427387904<n∧n<4611686018427387904):Spc Tryz.prog yv [vI n,vI w] [] (vI (qG n w*w)) []:=by
 rw[zX7 hw.1];have h2:=Int.tmod_lt_of_pos n hw.1;have h3:=Int.lt_tmod_of_pos n hw.1;have w1:IntKind.i64.wrap (n.tmod w)=n.tmod w:=AK _ (by omega);have w2:IntKind.i64.wrap (n.tmod w+w)=n.tmod w+w:=AK _ (by omega);have w3:IntKind.i64.wrap (n-n.tmod w)=n-n.tmod w:=AK _ (by omega);have w4:IntKind.i64.wrap (n-(n.tmod w+w))=n-(n.tmod w+w):=AK _ (by omega);refine qd qM4 mixm (by simp) fun e _ hst=>qg ?_;unfold ZI;simp only[tZ,↓un_u,simprocAttr,w1,w2,w3,w4,tD];refine⟨by omega,fun h=>?_,fun h=>?_⟩
 ·rw[Aj h];exact .oA [] []
 ·rw[Aq h];exact .oA [] []
theorem qO5 (c:Col) (lev:Int) (h1:1≤lev∧lev≤c.widths.length) (h2:c.widths.length<4611686018427387904):Spc Tryz.prog Zt [colT c,vI lev] [] (vI (qD c lev)) []:=by
 have hw:IntKind.i64.wrap ((c.widths.length:Int)-lev)=(c.widths.length:Int)-lev:=AK _ (by omega);have hk:((c.widths.length:Int)-lev).toNat<c.widths.length:=by omega
 refine qd qF1 mixm (by simp) fun e _ hst=>qg ?_;unfold QR;simp only[tZ,↓un_u,simprocAttr,hw,qe hk];rw[qD,qh hk];refine⟨by omega,?_⟩;exact .oA [] []
theorem qI4 (k k' v:Int):∀ l:List (Int×Int),TL.look TL.eqI k (TL.asg TL.eqI k' v l)=if k=k' then some v else TL.look TL.eqI k l
 | []=>by
   simp only[TL.asg,TL.look,TL.eqI,AY]
 | (a,b)::r=>by
   have ih:=qI4 k k' v r;simp only[TL.asg,TL.eqI,AY] at ih ⊢
   by_cases h:k'=a
   ·subst h;rw[Aj rfl];simp only[TL.look,TL.eqI,AY];split <;> rfl
   ·rw[Aq h];simp only[TL.look,TL.eqI,AY];rw[ih];by_cases h2:k=a
    ·subst h2;rw[Aj rfl,Aq (fun e=>h e.symm),Aj rfl]
    ·rw[Aq h2,Aq h2]
theorem zR2 {n w:Int} (hw:0<w):(qG n w*w==n)=(n.tmod w==0):=by
 rw[zX7 hw,Bool.eq_iff_iff,AY,AY];have h2:=Int.tmod_lt_of_pos n hw;have h3:=Int.lt_tmod_of_pos n hw;split <;> omega
theorem qs9 (s:Sch) (hE:schE s=0) (c:Cnd) (hnd:NdOk s c) (ha:isAt c=true) (lev:Nat) (hl:(lev:Int)≤finI s c.col):Spc Tryz.prog wP [schT s,cnT c,vI lev] [] (vB (decB s c lev)) []:=by
 have hok:=qQ hE;have hn0:=hok.nl;have hn1:=hok.nc;obtain⟨_,c1,c2,hfin⟩:=yR (s:=s) (c:=c.col) (by omega);obtain⟨i,hci⟩:=AJ (show 0≤c.col by omega);have hcn:c.col.toNat=i:=by omega
 have hil:i<s.cols.length:=by omega
 have hat:qk s i=s.cols[i]:=by rw[qk,qh hil]
 have hcd:=fun e=>hok.cdl hil e;have hcd2:=(za (hok.cs i hil)).2.2.2.1;have hwd:=fun e l=>hok.wid hil (by omega) e (lev:=l);have hll:=qa0 hok hil;have hcl:qJ s i=s.lists.getD s.cols[i].list.toNat default:=by rw[qJ,hat]
 have hlh:=fun h2 v=>qp1 (s:=s) (i:=i) h2 (v:=v);have hfi:∀ h2:(qk s i).kind=2,finI s c.col=zh (qJ s i)-1:=fun h2=>by rw[hfin,hcn,Aj h2]
 have hco:∀ h2:(qk s i).kind=2,∀ v∈qO s i,qU s c.col lev v=upC (qJ s i) v lev:=fun h2 v hv=>by
  have:=qp1 h2 (hcd h2).2 hv;rw[qU,Aq (by rw[Bool.not_eq_false,Jc];omega),hcn,Aj h2,Aq (by rw[this];simp)]
 rw[hcn,hat] at hfin;rw[hat] at hwd hll hcd hcd2 hfi hco;have hD:decB s c lev=if c.op=2 then qy4 (qO s i).length (decP s c lev)
 else if c.op=4 then decide (0<lev)
 else if lev=0 then !s.cols[i].opt&&!(decide (s.cols[i].low<c.lo)&&decide (c.lo≤s.cols[i].high))&&!(decide (s.cols[i].low≤c.hi)&&decide (c.hi<s.cols[i].high))
  else (!(decide (s.cols[i].low<c.lo)&&decide (c.lo≤s.cols[i].high))||(c.lo.tmod (qD s.cols[i] lev)==0))&&(!(decide (s.cols[i].low≤c.hi)&&decide (c.hi<s.cols[i].high))||((c.hi+1).tmod (qD s.cols[i] lev)==0)):=by
  rw[decB,hcn,hat]
 have hk2:c.op=2→s.cols[i].kind=2:=fun h=>by
  have:=(zD.1 (hnd.under h).1).2.2;rw[hcn,hat] at this;exact this
 have hk3:c.op=3→s.cols[i].kind=3:=fun h=>by
  have:=(zD.1 (hnd.between h).1).2.2;rw[hcn,hat] at this;exact this
 have hm4:c.op=4→s.cols[i].opt=true:=fun h=>by
  have:=(hnd.miss h).2;rw[hcn,hat] at this;exact this
 have hPd:∀ L,qO s i=L→∀ j k,decP s c lev j k=!((qU s c.col lev (L.getD j 0)==qU s c.col lev (L.getD k 0))&&!(QU s c (L.getD j 0)==QU s c (L.getD k 0))):=fun L hL j k=>by rw[decP,hcn,hL]
 have hlv:qO s i=atL (qJ s i) (zh (qJ s i)-1):=rfl;rw[hD];rw[hcl] at hcd hco hlv;refine qd ql7 mixm (by simp) fun e _ hst=>qg ?_;unfold wn;simp only[tZ,↓un_u,simprocAttr,hcn,qe hil];have hmw:s.cols[i].kind=3→1≤s.cols[i].widths.length:=fun h=>by
  have:=(za (hok.cs i hil)).2.2.2.2 (by rw[hat];exact h);rw[hat] at this;unfold measE at this
  grind
 generalize s.cols[i]=x at hmw hwd hfin hll hk2 hk3 hm4 hcd hcd2 hco hlv ⊢
 simp only[tZ,↓un_u,simprocAttr,AY,Ak];refine⟨by omega,fun h2=>?_,fun h2=>?_⟩
 ·rw[Aj h2];obtain⟨d1,d2⟩:=hcd (hk2 h2);obtain⟨d3,d4⟩:=hcd2 (hk2 h2);have hco:=hco (hk2 h2);have hll:=hll (hk2 h2);have hPd:=hPd _ rfl;rw[qh d1] at d2 hco hlv;rw[hlv] at hco hll hPd ⊢
  have hAt:=qf8 s hok c hnd ha;simp only[tZ,↓un_u,simprocAttr,qe d1];refine⟨by omega,?_⟩;generalize s.lists[x.list.toNat]=l at d2 hco hll hPd ⊢
  have hlvl:=qm5 (l:=l);have hw2:IntKind.i64.wrap (zh l-1)=zh l-1:=AK _ (by omega);refine C1.im (ZV l) (by rfl) (by rfl) ?_;simp only[tZ,↓un_u,simprocAttr,hw2];refine C1.im (qp6 l (zh l-1)) (by rfl) (by rfl) ?_;refine sW ?_
  repeat (first | refine⟨by omega,?_⟩ | refine⟨by kernel_rfl,?_⟩)
  generalize atL l (zh l-1)=L at hco hll hPd ⊢
  refine qu mixm (α:=Nat×List (Int×Int)) [41] (fun y=>y.1≤L.length∧qy4 y.1 (decP s c lev)=true∧(∀ a,a<y.1→TL.look TL.eqI (upC l (L.getD a 0) lev) y.2=some (QU s c (L.getD a 0)))∧∀ k v,TL.look TL.eqI k y.2=some v→∃ a,a<y.1∧upC l (L.getD a 0) lev=k∧QU s c (L.getD a 0)=v) (fun y=>[(41,vI y.1)]) (fun y=>[(4096,.arr 2 [schT s] false),(4100,.arr 6 [cnT c] false),(16408,.arr 2 [cdlT l] false),(20480,.mp (.ii y.2))]) (fun y=>L.length-y.1) (0,[]) ⟨by simp,rfl,by simp,by simp [TL.look]⟩ ?_ fun y hy=>?_
  ·exact .oA [(4096,some 4096),(4100,some 4100),(16408,some 16408),(20480,some 20480)] []
  obtain⟨j,M⟩:=y;obtain⟨y1,y2,y3,y4⟩:=hy;dsimp only at y1 y2 y3 y4;refine sD ?_;refine⟨fun h3=>?_,fun h3=>?_⟩
  ·have hj2:j<L.length:=by omega
   have hwj:=qj (i:=j) (by omega);have hgj:L.getD j 0=L[j]:=qh hj2;have hP:∀ a,a<j→decP s c lev j a=!((upC l L[j] lev==upC l (L.getD a 0) lev)&&!(QU s c L[j]==QU s c (L.getD a 0))):=fun a ha=>by
    rw[hPd,hgj,hco L[j] (AX hj2),hco (L.getD a 0) (by rw[qh (show a<L.length by omega)];exact AX _)]
   have hlk:=qI4;simp only[tZ,↓un_u,simprocAttr,Ax,qe hj2];refine⟨by omega,?_⟩;refine C1.im (qa3 l L[j] lev) (by rfl) (by rfl) ?_;refine sW ?_;refine C1.im (hAt L[j]) (by rfl) (by rfl) ?_;refine sW ?_
   repeat (first | refine⟨by omega,?_⟩ | refine⟨by kernel_rfl,?_⟩)
   have hfin:∀ v,(∀ w,TL.look TL.eqI (upC l L[j] lev) M=some w→w=QU s c L[j])→v=QU s c L[j]→(j+1≤L.length∧qy4 (j+1) (decP s c lev)=true∧(∀ a,a<j+1→TL.look TL.eqI (upC l (L.getD a 0) lev) (TL.asg TL.eqI (upC l L[j] lev) v M)=some (QU s c (L.getD a 0)))∧∀ k w,TL.look TL.eqI k (TL.asg TL.eqI (upC l L[j] lev) v M)=some w→∃ a,a<j+1∧upC l (L.getD a 0) lev=k∧QU s c (L.getD a 0)=w):=fun v hv e=>by
    subst e;have hsame:∀ a,a<j→upC l (L.getD a 0) lev=upC l L[j] lev→QU s c (L.getD a 0)=QU s c L[j]:=fun a ha he=>by
     have:=y3 a ha;rw[he] at this;exact hv _ this
    refine⟨by omega,?_,fun a h5=>?_,fun k w h5=>?_⟩
    ·rw[qN2,y2,Bool.true_and,List.all_eq_true];intro a ha;rw[List.mem_range] at ha;rw[hP a ha];by_cases q:upC l (L.getD a 0) lev=upC l L[j] lev
     ·rw[hsame a ha q];simp
     ·rw[beq_eq_false_iff_ne.2 (fun e=>q e.symm)];rfl
    ·rw[qI4];by_cases q:a=j
     ·subst q;rw[hgj,Aj rfl]
     ·split
      ·rename_i q2;rw[hsame a (by omega) q2]
      ·exact y3 a (by omega)
    ·rw[qI4] at h5;split at h5
     ·rename_i q;exact⟨j,by omega,by rw[hgj,q],by rw[hgj];simpa using h5⟩
     ·obtain⟨a,a1,a2,a3⟩:=y4 k w h5;exact⟨a,by omega,a2,a3⟩
   cases hf:TL.look TL.eqI (upC l L[j] lev) M with
   | none=>
     simp only[tZ,↓un_u,simprocAttr,hf,Option.isSome_none,hwj];refine⟨fun h=>by simp at h,fun _=>⟨(j+1,_),hfin _ (fun w h=>by rw[hf] at h;cases h) rfl,by dsimp only;omega,?_⟩⟩;exact .oA [(4096,some 4096),(4100,some 4100),(16408,some 16408),(20480,some 20480)] []
   | some w=>
     simp only[tZ,↓un_u,simprocAttr,hf,Option.isSome_some,Option.getD_some,bne_iff_ne,Aw,hwj];refine⟨fun h5=>?_,fun h5=>?_⟩
     ·obtain⟨a,a1,a2,a3⟩:=y4 _ _ hf;rw[zB0 hj2 a1 (by rw[hP a a1,a2,a3,beq_self_eq_true,beq_eq_false_iff_ne.2 (fun e=>h5 e.symm)];rfl)];exact .oA [] []
     ·refine⟨(j+1,_),hfin _ (fun w' h=>by rw[hf] at h;cases h;exact h5) rfl,by dsimp only;omega,?_⟩;exact .oA [(4096,some 4096),(4100,some 4100),(16408,some 16408),(20480,some 20480)] []
  ·have hjl:j=L.length:=by omega
   subst hjl;rw[y2];exact .oA [] []
 rw[Aq h2];by_cases h4:c.op=4
 ·rw[Aj h4];have ho:=hm4 h4;by_cases hz:lev=0
  ·subst hz;simp only[tZ,↓un_u,simprocAttr,ho];exact .oA [] []
  ·have e0:((lev:Int)==0)=false:=beq_eq_false_iff_ne.2 (by omega);simp only[tZ,↓un_u,simprocAttr,e0,AY,Ak];rw[decide_eq_true (show 0<lev by omega)];refine⟨fun h=>by simp at h,fun _=>⟨fun _=>?_,fun h=>absurd h4 h⟩⟩;exact .oA [] []
 rw[Aq h4];have h3:c.op=3:=by
  unfold isAt at ha;simp only[Bool.or_eq_true,AY] at ha;omega
 have hk3:=hk3 h3;have hb:=hnd.between h3;rw[Aq (by omega)] at hfin;have q4:(c.op==4)=false:=beq_eq_false_iff_ne.2 h4;have hxw:=hmw hk3;obtain⟨_,_,_,x4,x5,x6,x7,_⟩:=hwd (by omega) 1 (by omega);by_cases hz:lev=0
 ·subst hz;simp only[tZ,↓un_u,simprocAttr,zR0,jG4,tD];refine⟨fun h=>?_,fun h=>⟨fun k=>absurd k h4,fun _=>?_⟩⟩
  ·rw[h];exact .oA [] []
  ·rw[h]
   repeat (first | refine⟨by omega,?_⟩ | refine⟨by kernel_rfl,?_⟩)
   refine⟨fun h5=>?_,fun h5=>?_⟩
   ·rw[show (!false&&!(decide (x.low<c.lo)&&decide (c.lo≤x.high))&&!(decide (x.low≤c.hi)&&decide (c.hi<x.high)))=true by grind];exact .oA [] []
   ·rw[show (!false&&!(decide (x.low<c.lo)&&decide (c.lo≤x.high))&&!(decide (x.low≤c.hi)&&decide (c.hi<x.high)))=((max c.lo x.low==x.low)&&(min c.hi x.high==x.high)) by grind];exact .oA [] []
 have e0:((lev:Int)==0)=false:=beq_eq_false_iff_ne.2 (by omega);rw[Aq hz];obtain⟨w1,w2,_⟩:=hwd (by omega) lev (by omega);simp only[tZ,↓un_u,simprocAttr,e0,zR0,jG4,tD];refine fun _=>⟨fun k=>absurd k h4,fun _=>?_⟩
 repeat (first | refine⟨by omega,?_⟩ | refine⟨by kernel_rfl,?_⟩)
 refine⟨fun h5=>?_,fun h5=>?_⟩
 ·rw[show ((!(decide (x.low<c.lo)&&decide (c.lo≤x.high))||(c.lo.tmod (qD x lev)==0))&&(!(decide (x.low≤c.hi)&&decide (c.hi<x.high))||((c.hi+1).tmod (qD x lev)==0)))=true by grind];exact .oA [] []
 refine⟨fun h=>by omega,fun _=>?_⟩;refine C1.im (qO5 x lev (by omega) (by omega)) (by rfl) (by rfl) ?_;generalize qD x lev=w at w1 w2 ⊢
 have hF:((!(decide (x.low<c.lo)&&decide (c.lo≤x.high))||(c.lo.tmod w==0))&&(!(decide (x.low≤c.hi)&&decide (c.hi<x.high))||((c.hi+1).tmod w==0)))=(((max c.lo x.low==x.low)||(qG (max c.lo x.low) w*w==max c.lo x.low))&&((min c.hi x.high==x.high)||(qG (min c.hi x.high+1) w*w==min c.hi x.high+1))):=by
  rw[zR2 (by omega),zR2 (by omega)]
  congr 1
  ·by_cases k:x.low<c.lo
   ·rw[show max c.lo x.low=c.lo by omega,decide_eq_true k,decide_eq_true (show c.lo≤x.high by omega),beq_eq_false_iff_ne.2 (show c.lo≠x.low by omega)]
    rfl
   ·rw[show max c.lo x.low=x.low by omega,decide_eq_false k,beq_self_eq_true];simp
  ·by_cases k:c.hi<x.high
   ·rw[show min c.hi x.high=c.hi by omega,decide_eq_true k,decide_eq_true (show x.low≤c.hi by omega),beq_eq_false_iff_ne.2 (show c.hi≠x.high by omega)]
    rfl
   ·rw[show min c.hi x.high=x.high by omega,decide_eq_false k,beq_self_eq_true];simp
 rw[hF];have hwm:IntKind.i64.wrap (min c.hi x.high+1)=min c.hi x.high+1:=AK _ (by omega);refine sW ?_;refine C2.im (fun _=>qf9 (max c.lo x.low) w (by omega) (by omega)) (fun _=>rfl) (by rfl) ?_;simp only[tZ,↓un_u,simprocAttr,hwm];refine C2.im (fun _=>qf9 (min c.hi x.high+1) w (by omega) (by omega)) (fun _=>rfl) (by rfl) ?_;simp only[tZ,↓un_u,simprocAttr,hwm]
 repeat (first | refine⟨by omega,?_⟩ | refine⟨by kernel_rfl,?_⟩)
 exact .oA [] []
end Go.Proofs
namespace Go.Proofs
open Go Go.TL
set_option maxRecDepth 4000
set_option maxHeartbeats 8000000
def canF (f:Nat→Int):Nat→List Pk
 | 0=>[]
 | n+1=>canF f n++(if 0<f n then [⟨n,f n⟩] else [])
theorem qa4 {f g:Nat→Int}:∀ {n:Nat},(∀ k,k<n→f k=g k)→canF f n=canF g n
 | 0,_=>rfl
 | n+1,h=>by rw[canF,canF,qa4 fun k hk=>h k (by omega),h n (by omega)]
theorem zD5 (f:Nat→Int):∀ n,(canF f n).length≤n
 | 0=>Nat.le_refl _
 | n+1=>by
   have:=zD5 f n;rw[canF,AW];split <;> simp <;> omega
theorem zh5 {f:Nat→Int}:∀ {n:Nat},(∀ k,k<n→f k≤0)→canF f n=[]
 | 0,_=>rfl
 | n+1,h=>by
   have:=h n (by omega);rw[canF,zh5 fun k hk=>h k (by omega),Aq (by omega)];rfl
theorem zR3 {f:Nat→Int} {n:Nat}:∀ d,(∀ k,n≤k→k<n+d→f k≤0)→canF f (n+d)=canF f n
 | 0,_=>rfl
 | d+1,h=>by
   have:=h (n+d) (by omega) (by omega);rw[show n+(d+1)=n+d+1 from rfl,canF,Aq (by omega),List.append_nil,zR3 d fun k h1 h2=>h k h1 (by omega)]
theorem Ko {f:Nat→Int} {p:Pk}:∀ {n:Nat},p∈canF f n↔∃ k,k<n∧0<f k∧p=⟨k,f k⟩
 | 0=>by simp [canF]
 | n+1=>by
   rw[canF,List.mem_append,Ko];constructor
   ·rintro (⟨k,h1,h2,h3⟩ | h)
    ·exact⟨k,by omega,h2,h3⟩
    ·split at h
     ·rename_i h2;exact⟨n,by omega,h2,by simpa using h⟩
     ·simp at h
   ·rintro ⟨k,h1,h2,h3⟩;by_cases e:k=n
    ·subst e;right;rw[Aj h2];simpa using h3
    ·exact .inl ⟨k,by omega,h2,h3⟩
def upd (f:Nat→Int) (c:Nat) (v:Int):Nat→Int:=fun k=>if k=c then max (f k) v else f k
theorem zu4 {f:Nat→Int} (hf:∀ k,0≤f k) (c:Nat) (v:Int):∀ m,∀ x,(canF f m).foldl (qh6 c v) ([],decide (v≤0))=x→
 (m≤c→x.2=decide (v≤0))∧(x.2=true→x.1=canF (upd f c v) m)∧(x.2=false→0<v∧x.1++(if c<m then [⟨c,v⟩] else [])=canF (upd f c v) m)
 | 0,x,h=>by
   subst h;refine⟨fun _=>rfl,fun _=>rfl,fun h=>⟨?_,by rw[Aq (by omega)];rfl⟩⟩;have:=of_decide_eq_false h;omega
 | m+1,x,h=>by
   rw[canF,List.foldl_append] at h;obtain⟨i1,i2,i3⟩:=zu4 hf c v m _ rfl;generalize (canF f m).foldl (qh6 c v) ([],decide (v≤0))=y at h i1 i2 i3;obtain⟨l,b⟩:=y;dsimp only at i1 i2 i3;have hm:=hf m;by_cases h0:0<f m
   ·rw[Aj h0,List.foldl_cons,List.foldl_nil] at h;unfold qh6 at h;dsimp only at h;rcases Nat.lt_trichotomy m c with q | q | q
    ·rw[Aq (by omega),Aq (by omega)] at h;subst h;have hu:upd f c v m=f m:=by rw[upd,Aq (by omega)]
     refine⟨fun _=>i1 (by omega),fun e=>?_,fun e=>⟨(i3 e).1,?_⟩⟩
     ·dsimp only at e ⊢
      rw[i2 e,canF,hu,Aj h0]
     ·dsimp only at e ⊢
      have:=(i3 e).2;rw[Aq (by omega),List.append_nil] at this;rw[Aq (by omega),List.append_nil,this,canF,hu,Aj h0]
    ·subst q;rw[Aj rfl,Aq (show ¬ ((m:Int)>m∧b=false) from fun h=>by omega)] at h;subst h;have hu:upd f m v m=max (f m) v:=by rw[upd,Aj rfl]
     refine⟨fun e=>by omega,fun _=>?_,fun e=>by simp at e⟩;dsimp only;have:l=canF (upd f m v) m:=by
      cases b with
      | true=>exact i2 rfl
      | false=>
        have:=(i3 rfl).2;rw[Aq (by omega),List.append_nil] at this;exact this
     rw[this,canF,hu,Aj (by omega)]
    ·have hu:upd f c v m=f m:=by rw[upd,Aq (by omega)]
     have hc:((m:Int)>(c:Int)):=by omega
     cases b with
     | true=>
       rw[Aq (show ¬ ((m:Int)=c) by omega),Aq (show ¬ ((m:Int)>c∧true=false) from fun h=>by simp at h)] at h;subst h;refine⟨fun e=>by omega,fun _=>?_,fun e=>by simp at e⟩;dsimp only;rw[i2 rfl,canF,hu,Aj h0]
     | false=>
       rw[Aq (show ¬ ((m:Int)=c) by omega),Aj ⟨hc,rfl⟩] at h;subst h;refine⟨fun e=>by omega,fun _=>?_,fun e=>by simp at e⟩;dsimp only;have:=(i3 rfl).2;rw[Aj q] at this;rw[this,canF,hu,Aj h0]
   ·rw[Aq h0,List.foldl_nil] at h;subst h;dsimp only;have f0:f m=0:=by omega
    by_cases q:m=c
    ·subst q;have hu:upd f m v m=max 0 v:=by rw[upd,Aj rfl,f0]
     refine⟨fun e=>by omega,fun e=>?_,fun e=>⟨(i3 e).1,?_⟩⟩
     ·have hv:v≤0:=by
       have:=i1 (Nat.le_refl _);rw[e] at this;exact of_decide_eq_true this.symm
      rw[i2 e,canF,hu,Aq (by omega),List.append_nil]
     ·have:=(i3 e).2;rw[Aq (by omega),List.append_nil] at this;have hv:=(i3 e).1;rw[this,canF,hu,Aj (by omega),Aj (by omega),show max 0 v=v by omega]
    ·have hu:upd f c v m=f m:=by rw[upd,Aq q]
     refine⟨fun e=>i1 (by omega),fun e=>?_,fun e=>⟨(i3 e).1,?_⟩⟩
     ·rw[i2 e,canF,hu,Aq h0,List.append_nil]
     ·have:=(i3 e).2;rw[canF,hu,Aq h0,List.append_nil,← this];by_cases q2:c<m
      ·rw[Aj q2,Aj (by omega)]
      ·rw[Aq q2,Aq (by omega)]
theorem zu5 {f:Nat→Int} (hf:∀ k,0≤f k) {c n:Nat} (hc:c<n) (v:Int):Kk (canF f n) c v=canF (upd f c v) n:=by
 obtain⟨_,i2,i3⟩:=zu4 hf c v n _ rfl;unfold Kk;dsimp only;split
 ·rename_i h;exact i2 h
 ·rename_i h;have:=(i3 (by simpa using h)).2;rw[Aj hc] at this;exact this
abbrev lvF (lv:List Int):Nat→Int:=fun k=>lv.getD k 0
theorem kc6 {lv:List Int} {c:Nat} (hc:c<lv.length) (v:Int):lvF (lv.set c (max lv[c] v))=upd (lvF lv) c v:=by
 funext k
 unfold lvF upd;simp only[List.getD_eq_getElem?_getD,List.getElem?_set];by_cases e:c=k
 ·subst e;simp [hc]
 ·rw[Aq e,Aq (fun h=>e h.symm)]
theorem kc7 {lv:List Int} (h:∀ x∈lv,0≤x) (k:Nat):0≤lvF lv k:=by
 unfold lvF;by_cases hk:k<lv.length
 ·rw[qh hk];exact h _ (AX hk)
 ·simp [List.getD,List.getElem?_eq_none (show lv.length≤k by omega)]
theorem jR3 (n:Nat):canF (lvF (List.replicate n 0)) n=[]:=zh5 fun k hk=>by
 unfold lvF;rw[qh (by simpa using hk),List.getElem_replicate];omega
theorem qO6 (s:Sch) (hs:yd s) (c:Cnd):Spc Tryz.prog Zo [schT s,cnT c] [] (vPs (jd s c)) []:=by
 refine qd qD6 mixm (by simp) fun e _ hst=>qg ?_;unfold QK;refine sW ?_;refine C1.im (ka s hs c) (by rfl) (by rfl) ?_;simp only[tZ,↓un_u,simprocAttr,bne_iff_ne,Aw];refine⟨fun h=>?_,fun h=>?_⟩
 ·rw[jd,Aj h];exact .oA [] []
 obtain⟨hE,k2,k3,k4⟩:=qm9 h;have hok:=qQ hE;have hnc:=hok.nc;have hal:=zf8 c 41 (by omega) k2;have hao:=ji4 c k4;have hN:jd s c=(atsC c).foldl (qV7 s) []:=by rw[jd,Aq (by rw[h];simp)];rfl
 rw[hN];refine⟨by omega,?_⟩;refine C1.im (qO4 c 41 (by omega) (by omega) k2) (by rfl) (by rfl) ?_;generalize atsC c=L at hal hao ⊢
 refine sW ?_;refine qu mixm (α:=Nat×List Int) [23] (fun y=>y.1≤L.length∧y.2.length=s.cols.length∧(∀ x∈y.2,0≤x)∧canF (lvF y.2) s.cols.length=(L.take y.1).foldl (qV7 s) []) (fun y=>[(23,vI y.1)]) (fun y=>[(4096,.arr 2 [schT s] false),(16396,.arr 1 (y.2.map vI) false)]) (fun y=>L.length-y.1) (0,List.replicate s.cols.length 0) ⟨by simp,by simp,fun x hx=>by rw[(List.mem_replicate.1 hx).2];omega,jR3 _⟩ ?_ fun y hy=>?_
 ·rw[List.map_replicate];refine .of [(4096,some 4096),(16396,some 16396)] [] rfl (by first | rfl | (rw[hst];rfl)) ?_ ?_
  all_goals (try simp only[tL,simprocAttr,List.map_append,List.map_cons,List.map_nil,List.cons_append,List.nil_append,Ax,jX4])
  all_goals (try (repeat' (first | exact zb | (apply zx;intro _;exact⟨rfl,rfl⟩) | (apply qE;intro _;exact⟨rfl,rfl⟩) | with_reducible apply qW | with_reducible refine qR ⟨rfl,rfl⟩ ?_ | exact qX | with_reducible apply qS | with_reducible refine qV ⟨rfl,rfl,?_⟩ ?_ | with_reducible apply Az | exact qT rfl | exact qT (by assumption) | (refine⟨⟨?_,rfl,?_,rfl,?_⟩,trivial⟩ <;> first | (simp;done) | (apply qE;intro _;exact⟨rfl,rfl⟩)) | trivial | rfl | (rw[qj (by omega)]) | omega)))
 obtain⟨i,lv⟩:=y;obtain⟨y1,y2,y3,y4⟩:=hy;dsimp only at y1 y2 y3 y4;refine sD ?_;refine⟨fun h3=>?_,fun h3=>?_⟩
 ·have hi2:i<L.length:=by omega
  have hwi:=qj (i:=i) (by omega);obtain⟨hnd,ha⟩:=hao _ (AX hi2);obtain⟨n1,n2,n3⟩:=qG2 hE hnd ha;have h59:=qm8 (c:=L[i].col) hE;obtain⟨_,c1,c2,_⟩:=yR (s:=s) (c:=L[i].col) (by omega);have hstep:(L.take (i+1)).foldl (qV7 s) []=Kk ((L.take i).foldl (qV7 s) []) L[i].col (decN s L[i]):=by
   rw[qH hi2,List.foldl_append];rfl
  simp only[tZ,↓un_u,simprocAttr,Ax,qe hi2,zp];refine⟨by omega,?_⟩;generalize L[i]=a at hnd ha n1 n2 n3 h59 c1 c2 hstep ⊢
  refine qu mixm (α:=Nat) [8] (fun n=>n≤decN s a) (fun n=>[(8,vI n)]) (fun n=>[(4096,.arr 2 [schT s] false),(16396,.arr 1 (lv.map vI) false),(28680,.arr 6 [cnT a] false)]) (fun n=>decN s a-n) 0 (by omega) ?_ fun n hn=>?_
  ·exact .oA [(4096,some 4096),(16396,some 16396),(28680,some 28680)] []
  have hwn:=qj (i:=n) (by omega);refine sW ?_;refine C1.im (qs9 s hE a hnd ha n (by omega)) (by rfl) (by rfl) ?_;simp only[tZ,↓un_u,simprocAttr,Bx,Bz,hwn];refine⟨fun h4=>?_,fun h4=>?_⟩
  ·have:n≠decN s a:=fun e=>by rw[e,n2] at h4;cases h4
   refine⟨n+1,by omega,by omega,?_⟩;exact .oA [(4096,some 4096),(16396,some 16396),(28680,some 28680)] []
  ·have:n=decN s a:=by
    refine Nat.le_antisymm hn (Nat.le_of_not_lt fun e=>?_);rw[n3 n e] at h4;cases h4
   subst this;obtain⟨q,hq⟩:=AJ (show 0≤a.col by omega);have hq2:q<lv.length:=by omega
   simp only[tZ,↓un_u,simprocAttr,hq,Ax,qe hq2,zR0,hwi,show ∀ a b:Int,repl (vI a) 0 (vI b)=vI b from fun _ _=>rfl]
   repeat (first | refine⟨by omega,?_⟩ | refine⟨by kernel_rfl,?_⟩)
   refine⟨(i+1,lv.set q (max lv[q] (decN s a))),⟨by dsimp only;omega,by rw[List.length_set];exact y2,fun x hx=>?_,?_⟩,by dsimp only;omega,?_⟩
   ·rcases List.mem_or_eq_of_mem_set hx with h5 | h5
    ·exact y3 x h5
    ·rw[h5];omega
   ·dsimp only;rw[hstep,← y4,hq,zu5 (kc7 y3) (by omega),kc6 hq2]
   ·rw[← List.map_set];exact .oA [(4096,some 4096),(16396,some 16396)] []
 ·have hil:i=L.length:=by omega
  subst hil;rw[List.take_length] at y4;rw[← y4];simp only[Ax];refine⟨y2,?_⟩;rw[← y2];refine qu mixm (α:=Nat) [48,9] (fun i=>i≤lv.length) (fun i=>[(9,.asl 1 (canF (lvF lv) i).length),(48,vI i)]) (fun i=>[(16396,.arr 1 (lv.map vI) false),(1,.arr 2 ((canF (lvF lv) i).map pkT) false)]) (fun i=>lv.length-i) 0 (by omega) ?_ fun j hj=>?_
  ·exact .oA [(16396,some 16396),(1,none)] []
  have hcl:=zD5 (lvF lv) j;refine sD ?_;refine⟨fun h5=>?_,fun h5=>?_⟩
  ·have hj2:j<lv.length:=by omega
   have hwj:=qj (i:=j) (by omega);have hg:lvF lv j=lv[j]:=qh hj2;have hc:canF (lvF lv) (j+1)=canF (lvF lv) j++(if 0<lv[j] then [⟨(j:Nat),lv[j]⟩] else []):=by rw[canF,hg]
   simp only[tZ,↓un_u,simprocAttr,Ax,qe hj2,hwj,gt_iff_lt,tD];refine⟨by omega,by omega,fun h6=>?_,fun h6=>?_⟩
   ·rw[Aj h6] at hc;refine⟨by omega,j+1,by omega,by omega,?_⟩;rw[hc,List.map_append,AW];exact .oA [(16396,some 16396),(1,some 1)] []
   ·rw[Aq h6,List.append_nil] at hc;refine⟨j+1,by omega,by omega,?_⟩;rw[hc];exact .oA [(16396,some 16396),(1,some 1)] []
  ·rw[show lv.length=j by omega];exact .oA [] [1]
theorem qh9 (p n:Pk):Spc Tryz.prog jm [pkT p,.ip (pkT n).cells] [] (vB ((p.col==n.col)&&decide (p.lev≥n.lev))) []:=by
 refine qd qd7 mixm (by simp) fun e _ hst=>qg ?_;unfold kA;refine sW ?_;exact .oA [] []
theorem Za (p:Pk→Bool) (f:FuncId) (caps:List T) (hcap:imL caps=true) (l:List Pk) (hf:∀ y∈l,Spc Tryz.prog f (pkT y::caps) [] (vB (p y)) []) (hl:l.length<4611686018427387904) :
 Spc Tryz.prog zS [.sl 2 (l.map pkT),.clo f caps] [] (vI (idxI p l)) []:=by
 refine qd YQ mixm (by simp) fun e _ hst=>qg ?_;unfold jU;refine sW ?_;refine qu mixm (α:=Nat) [8] (fun i=>i≤l.length∧((l.take i).any p=false)) (fun i=>[(8,vI i)]) (fun i=>[]) (fun i=>l.length-i) 0 ⟨by omega,?_⟩ ?_ fun i hi=>?_
 ·simp
 ·exact .oA [] []
 simp only[tZ,↓un_u,simprocAttr,AZ,Ay];refine⟨fun h=>?_,fun h=>?_⟩
 ·have hi2:i<l.length:=by omega
  have hwi:=qj (i:=i) (by omega);simp only[tZ,↓un_u,simprocAttr,Ax,qe hi2,hwi,qu7];refine⟨by omega,?_⟩;refine C1.im (hf l[i] (AX hi2)) (YM rfl hcap) rfl ?_;refine sW ?_;refine⟨fun h3=>?_,fun h3=>⟨i+1,⟨by omega,kf hi2 hi.2 h3⟩,by omega,?_⟩⟩
  ·rw[idxI,Aj (zt4 hi2 h3),yV hi2 hi.2 h3];exact .imR rfl rfl
  ·exact .oA [] []
 ·have h2:i=l.length:=by omega
  have h3:=hi.2;rw[h2,List.take_length] at h3;rw[idxI,Aq (by rw[h3];simp)];exact .imR rfl rfl
theorem js (p:Pk→Bool) (f:FuncId) (caps:List T) (hcap:imL caps=true) (l:List Pk) (hf:∀ y∈l,Spc Tryz.prog f (pkT y::caps) [] (vB (p y)) []) (hl:l.length<4611686018427387904) :
 Spc Tryz.prog zi [.sl 2 (l.map pkT),.clo f caps] [] (vB (l.any p)) []:=by
 refine qd KV mixm (by simp) fun e _ hst=>qg ?_;unfold jj;refine sW ?_;refine C1.im (Za p f caps hcap l hf hl) (ZQ rfl hcap) rfl ?_;refine sW ?_;rw[show decide (idxI p l≥0)=l.any p from zb3 p l];exact .imR rfl rfl
theorem qt0 (n:Pk) (a:List Pk) (ha:a.length<4611686018427387904):Spc Tryz.prog jP [pkT n,.ip [vPs a]] [] (vB (!(a.any fun y=>(y.col==n.col)&&decide (y.lev≥n.lev)))) []:=by
 refine qd ql0 mixm (by simp) fun e _ hst=>qg ?_;unfold wj;refine sW ?_;have hCF:=js (fun y=>(y.col==n.col)&&decide (y.lev≥n.lev)) jm [.ip (pkT n).cells] rfl a (fun y _=>qh9 y n) ha;refine C1.lend [4096] hCF ?_ (by rfl) (by rfl) ?_
 ·all_goals (try simp only[tL,simprocAttr,List.map_append,List.map_cons,List.map_nil,List.cons_append,List.nil_append])
  all_goals (try (repeat' (first | exact zb | (apply zx;intro _;exact⟨rfl,rfl⟩) | (apply qE;intro _;exact⟨rfl,rfl⟩) | with_reducible apply qW | with_reducible refine qR ⟨rfl,rfl⟩ ?_ | exact qX | with_reducible apply qS | with_reducible refine qV ⟨rfl,rfl,?_⟩ ?_ | with_reducible apply Az | exact qT rfl | exact qT (by assumption) | (refine⟨⟨?_,rfl,?_,rfl,?_⟩,trivial⟩ <;> first | (simp;done) | (apply qE;intro _;exact⟨rfl,rfl⟩)) | trivial | rfl | (rw[qj (by omega)]) | omega)))
  simp only[ltP];exact⟨rfl,by decide,rfl,qR ⟨rfl,rfl⟩ qX⟩
 refine sW ?_;exact .oA [] []
theorem qI5 (a b:List Pk) (ha:a.length<4611686018427387904) (hb:b.length<4611686018427387904):Spc Tryz.prog Qn [vPs a,vPs b] [] (vB (covB b a)) []:=by
 refine qd qw0 mixm (by simp) fun e _ hst=>qg ?_;unfold yH;refine sW ?_;have hCF:=js (fun n=>!(a.any fun y=>(y.col==n.col)&&decide (y.lev≥n.lev))) jP [.ip [vPs a]] rfl b (fun n _=>qt0 n a ha) hb;refine C1.lend [4096] hCF ?_ (by rfl) (by rfl) ?_
 ·all_goals (try simp only[tL,simprocAttr,List.map_append,List.map_cons,List.map_nil,List.cons_append,List.nil_append])
  all_goals (try (repeat' (first | exact zb | (apply zx;intro _;exact⟨rfl,rfl⟩) | (apply qE;intro _;exact⟨rfl,rfl⟩) | with_reducible apply qW | with_reducible refine qR ⟨rfl,rfl⟩ ?_ | exact qX | with_reducible apply qS | with_reducible refine qV ⟨rfl,rfl,?_⟩ ?_ | with_reducible apply Az | exact qT rfl | exact qT (by assumption) | (refine⟨⟨?_,rfl,?_,rfl,?_⟩,trivial⟩ <;> first | (simp;done) | (apply qE;intro _;exact⟨rfl,rfl⟩)) | trivial | rfl | (rw[qj (by omega)]) | omega)))
  simp only[ltP];exact⟨rfl,by decide,rfl,qR ⟨rfl,rfl⟩ qX⟩
 refine sW ?_;rw[show (!(b.any fun n=>!(a.any fun y=>(y.col==n.col)&&decide (y.lev≥n.lev))))=covB b a by rw[covB,List.not_any_eq_all_not];simp];exact .oA [] []
end Go.Proofs
