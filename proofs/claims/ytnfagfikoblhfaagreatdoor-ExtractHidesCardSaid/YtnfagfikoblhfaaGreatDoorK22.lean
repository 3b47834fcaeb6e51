/- A part of the proof: trees of Go values, short forms, contracts. -/
import Derived.WalkKit
import Derived.Still
import Derived.MapKept
import GoSem.Builtin.Cap
import Derived.Laws.Externs
import GoSem.Extern.SlicesOverlaps
import Derived.Carry
import Derived.ProofKit
import Derived.OpenShut
import Derived.HandedShaped
import Derived.Lay
import Derived.LaidLaws
import Derived.MakeChecks
import Derived.SevenTiedAt
import Derived.Test.YtnfagfikoblhfaaGreatDoorChecked
import Derived.Test.YtnfagfikoblhfaaGreatDoorK21
set_option linter.unusedSimpArgs false
set_option linter.unusedVariables false
namespace Go.Proofs
open Go Go.TL
set_option maxRecDepth 4000
set_option maxHeartbeats 8000000
theorem kc2 {ws:List Int} (hw:∀ j,j<ws.length→wdOk ws j=true) {i:Nat}:∀ d,i+d<ws.length→∃ k:Int,1≤k∧ws.getD (i+d) 0=k*ws.getD i 0∧(0<d→2≤k)
 | 0,h=>⟨1,by omega,by simp,by omega⟩
 | d+1,h=>by
   obtain⟨k,k1,k2,_⟩:=kc2 hw d (i:=i) (by omega);have h1:=hw (i+d+1) (by omega);rw[wdOk,Aq (by omega)] at h1;simp only[Bq,AZ,AY,Nat.add_sub_cancel] at h1;have hp:=zS5 (ws:=ws) hw (i+d) (by omega);obtain⟨⟨a1,a2⟩,a3⟩:=h1;have h2:=Int.mul_tdiv_add_tmod (ws.getD (i+d+1) 0) (ws.getD (i+d) 0);rw[a3,Int.add_zero] at h2;generalize (ws.getD (i+d+1) 0).tdiv (ws.getD (i+d) 0)=q at h2;have hq:2≤q:=AQ fun c=>by
    have:ws.getD (i+d) 0*q≤ws.getD (i+d) 0*1:=Int.mul_le_mul_of_nonneg_left (by omega) (by omega);omega
   have hkq:2*1≤q*k:=Int.mul_le_mul hq k1 (by omega) (by omega);refine⟨q*k,by omega,?_,fun _=>by omega⟩;rw[show i+(d+1)=i+d+1 from rfl,← h2,k2,Int.mul_assoc,Int.mul_comm q k,Int.mul_assoc,Int.mul_comm q]
theorem SchOk.wdv {s:Sch} (h:SchOk s) {i:Nat} (hi:i<s.cols.length) (h0:0<i) (hk:(qk s i).kind≠2) {o lev:Nat} (ho:1≤o∧o<lev) (hl:lev≤(qk s i).widths.length):∃ k:Int,2≤k∧qD (qk s i) o=k*qD (qk s i) lev:=by
 have hk2:=za (h.cs i hi);have hk3:(qk s i).kind=3:=by have:=hk2.2.2.1 h0;omega
 have hm:=hk2.2.2.2.2 hk3;generalize qk s i=c at hl hm hk3 ⊢
 unfold measE at hm;split at hm
 ·cases hm
 rename_i h1;split at hm
 ·cases hm
 rename_i h2;split at hm
 ·cases hm
 rename_i h3;rw[Ez] at h3;have hw:∀ j,j<c.widths.length→wdOk c.widths j=true:=fun j hj=>Bk.1 h3 j (Dk.2 hj);obtain⟨k,_,k2,k3⟩:=kc2 hw (i:=c.widths.length-lev) (lev-o) (by omega);refine⟨k,k3 (by omega),?_⟩;rw[qD,qD,show ((c.widths.length:Int)-o).toNat=c.widths.length-lev+(lev-o) by omega,show ((c.widths.length:Int)-lev).toNat=c.widths.length-lev by omega];exact k2
def blkI (s:Sch) (i lev:Nat):Int:=
 if (qk s i).kind=2 then ((lvN (qJ s i).codes lev).length:Int)
 else if lev=0 then 1 else qG (qk s i).high (qD (qk s i) lev)-qG (qk s i).low (qD (qk s i) lev)+1+(if (qk s i).opt=true then 1 else 0)
theorem jK8 {n:Nat} {p:Nat→Nat→Bool}:qA5 n p=true↔∀ a,a<n→∀ b,b<a→p a b=true:=by
 unfold qA5;simp only[Bk,Dk]
theorem qr9 {s:Sch} (h:SchOk s) {i:Nat} (hi:i<s.cols.length) (h2:(qk s i).kind=2) {x:Int}:x∈qQ s i↔∃ c:Nat,x=c∧c<(qJ s i).codes.length∧(dep (qJ s i).codes c:Int)=zh (qJ s i)-1:=by
 obtain⟨_,d2⟩:=h.cdl hi h2;unfold qQ atL;rw[Aq (by rw[d2];simp),Cj];constructor
 ·rintro ⟨c,hc,rfl⟩;rw[Fz,Dk,AY] at hc;exact⟨c,rfl,hc.1,hc.2⟩
 ·rintro ⟨c,rfl,h1,h3⟩;exact⟨c,Fz.2 ⟨Dk.2 h1,AY.2 h3⟩,rfl⟩
theorem Wx {s:Sch} (h:SchOk s) {i:Nat} (hi:i<s.cols.length) (h2:(qk s i).kind=2) {c v:Nat} (hc:c<(qJ s i).codes.length) (hd:(dep (qJ s i).codes c:Int)=zh (qJ s i)-1) (hv:(v:Int)≤finI s i) (hf:finI s i=zh (qJ s i)-1):qK s i v c=upN (qJ s i).codes v c:=by
 obtain⟨_,d2⟩:=h.cdl hi h2;have hh:jo s i c=true:=by
  rw[jo,Aq (by omega),Aj h2,Bq,Ji,AY,lvlC,Aq (not_or.2 ⟨fun h=>h d2,by omega⟩),Ax];exact⟨by omega,hd⟩
 rw[qK,Aq (by rw[Ez,Ji];omega),Ax,Aj h2,Aq (by rw[hh];simp),upC,Aq (not_or.2 ⟨fun h=>h d2,by rw[Ax];omega⟩),Ax,Ax]
theorem zH1 {s:Sch} (hE:schE s=0) {i:Nat} (hi:i<s.cols.length) (h0:0<i) {o lev:Nat} (ho:o≤lev) (hl:(lev:Int)≤finI s i):blkI s i o≤blkI s i lev∧(divB s i o lev=true↔blkI s i o=blkI s i lev):=by
 have hok:=qR hE;by_cases e:o=lev
 ·subst e;exact⟨by omega,by rw[zE6];simp⟩
 obtain⟨_,c1,c2,hfin⟩:=yT (s:=s) (c:=i) (by omega);rw[Ax] at hfin;by_cases h2:(qk s i).kind=2
 ·obtain⟨_,d2⟩:=hok.cdl hi h2;rw[Aj h2] at hfin;unfold blkI;rw[Aj h2,Aj h2];have hle:=kc1 d2 (o:=o) (v:=lev) (by omega) (by omega);refine⟨by omega,?_⟩;rw[show ((lvN (qJ s i).codes o).length:Int)=((lvN (qJ s i).codes lev).length:Int)↔(lvN (qJ s i).codes o).length=(lvN (qJ s i).codes lev).length by omega,kn6 d2 (by omega) (by omega)];unfold divB;rw[Aq (by omega),Aj h2,jK8];have hP:∀ j k,(qQ s i).getD j 0∈qQ s i→(qQ s i).getD k 0∈qQ s i→(divP s i (qQ s i) o lev j k=true↔(qK s i o ((qQ s i).getD j 0)=qK s i o ((qQ s i).getD k 0)→qK s i lev ((qQ s i).getD j 0)=qK s i lev ((qQ s i).getD k 0))):=fun j k _ _=>by
   unfold divP;simp only[Bx,FJ,Bz,AY,Ak];constructor
   ·rintro (h | h) k
    ·exact h
    ·exact absurd k h
   ·intro h;by_cases k:qK s i o ((qQ s i).getD j 0)=qK s i o ((qQ s i).getD k 0)
    ·exact .inl (h k)
    ·exact .inr k
  have hmem:∀ j,j<(qQ s i).length→(qQ s i).getD j 0∈qQ s i:=fun j hj=>by rw[qh hj];exact AX hj
  obtain⟨hp,p1,p2⟩:=zg d2;constructor
  ·intro H a b ha hb da db hab;obtain⟨x,x1,x2,x3⟩:=jV4 d2 _ a rfl ha (zh (qJ s i)-1).toNat (by omega) (by omega);obtain⟨y,y1,y2,y3⟩:=jV4 d2 _ b rfl hb (zh (qJ s i)-1).toNat (by omega) (by omega);rw[da] at x3;rw[db] at y3;have hx:(x:Int)∈qQ s i:=(qr9 hok hi h2).2 ⟨x,rfl,x1,by omega⟩;have hy:(y:Int)∈qQ s i:=(qr9 hok hi h2).2 ⟨y,rfl,y1,by omega⟩;have ux:upN (qJ s i).codes o x=upN (qJ s i).codes o y:=by
    rw[← zV4 hp (o:=o) (v:=lev) (by omega) x x1 (by omega),← zV4 hp (o:=o) (v:=lev) (by omega) y y1 (by omega),x3,y3,hab]
   obtain⟨j,hj,ej⟩:=CX hx;obtain⟨k,hk,ek⟩:=CX hy;rw[← qh (d:=0) hj] at ej;rw[← qh (d:=0) hk] at ek;have cl:=fun c (hc:c<(qJ s i).codes.length) (hd:(dep (qJ s i).codes c:Int)=zh (qJ s i)-1) (v:Nat) (hv:(v:Int)≤finI s i)=>Wx hok hi h2 (v:=v) hc hd hv hfin;have fin:qK s i lev x=qK s i lev y→a=b:=fun e=>by
    rw[cl x x1 (by omega) lev hl,cl y y1 (by omega) lev hl,x3,y3] at e;omega
   have eo:qK s i o x=qK s i o y:=by rw[cl x x1 (by omega) o (by omega),cl y y1 (by omega) o (by omega),ux]
   rcases Nat.lt_trichotomy j k with q | q | q
   ·have:=(hP k j (hmem k hk) (hmem j hj)).1 (H k hk j q);rw[ej,ek] at this;exact fin (this eo.symm).symm
   ·subst q;rw[ej] at ek;exact fin (by rw[ek])
   ·have:=(hP j k (hmem j hj) (hmem k hk)).1 (H j hj k q);rw[ej,ek] at this;exact fin (this eo)
  ·intro H j hj k hk;rw[hP j k (hmem j hj) (hmem k (by omega))];obtain⟨x,x0,x1,x2⟩:=(qr9 hok hi h2).1 (hmem j hj);obtain⟨y,y0,y1,y2⟩:=(qr9 hok hi h2).1 (hmem k (by omega));rw[x0,y0,Wx hok hi h2 x1 x2 (by omega) hfin,Wx hok hi h2 y1 y2 (by omega) hfin,Wx hok hi h2 x1 x2 hl hfin,Wx hok hi h2 y1 y2 hl hfin];intro e;have ux:=jK5 hp (v:=lev) x x1 (by omega);have uy:=jK5 hp (v:=lev) y y1 (by omega);have:=H (upN (qJ s i).codes lev x) (upN (qJ s i).codes lev y) (by omega) (by omega) ux.1 uy.1 (by
    rw[zV4 hp (by omega) x x1 (by omega),zV4 hp (by omega) y y1 (by omega)];omega)
   rw[this]
 rw[Aq h2] at hfin;obtain⟨w1,w2,w3,w4,w5,w6,w7,_⟩:=hok.wid hi h0 h2 (lev:=lev) (by omega);unfold blkI divB;simp only[Aq h2,Aq (show ¬ lev=0 by omega),Aq (show ¬ (lev=0∨lev≤o) by omega)];obtain⟨m,hm⟩:=AJ (show 0≤(qk s i).high-(qk s i).low by omega);generalize hW:qD (qk s i) lev=w at w1 w2 ⊢
 have hab:=zj6 (a:=(qk s i).low) (k:=w) (m:=m) w1 (by omega);rw[show (qk s i).low+(m:Int)=(qk s i).high by omega] at hab;have f0:∀ c,c*w>(qk s i).high↔qG (qk s i).high w<c:=fun c=>by
  have h3:=qo7 (v:=(qk s i).high) (w:=w) (by omega);constructor
  ·intro h;refine AQ fun z=>?_;have:c*w≤qG (qk s i).high w*w:=Int.mul_le_mul_of_nonneg_right (by omega) (by omega);omega
  ·intro h;have:(qG (qk s i).high w+1)*w≤c*w:=Int.mul_le_mul_of_nonneg_right (by omega) (by omega);rw[Int.add_mul] at this;omega
 by_cases o0:o=0
 ·simp only[Aj o0];cases (qk s i).opt
  ·simp only[Bool.not_false,Fq,AZ,f0,EZ,if_false];omega
  ·simp only[Bool.not_true,Bool.false_and,if_true,EZ,false_iff];omega
 simp only[Aq o0];obtain⟨k,k1,k2⟩:=hok.wdv hi h0 h2 (o:=o) (lev:=lev) (by omega) (by omega);rw[hW] at k2;rw[k2,kn7 w1 (by omega),kn7 w1 (by omega)];have f3:∀ x:Int,(x*w).tmod (k*w)=0↔k ∣ x:=fun x=>by
  constructor
  ·intro h;obtain⟨q,hq⟩:=Int.dvd_of_tmod_eq_zero h;exact⟨q,Int.eq_of_mul_eq_mul_right (show w≠0 by omega) (by rw[hq,Int.mul_assoc,Int.mul_assoc,Int.mul_comm w])⟩
  ·rintro ⟨q,rfl⟩;rw[Int.mul_assoc,Int.mul_comm q,← Int.mul_assoc,Int.mul_tmod_right]
 have f2:(qG (qk s i).low w+1)*w+w=(qG (qk s i).low w+1+1)*w:=by rw[Int.add_mul (_+1) 1,Int.one_mul]
 have hD:divM (qk s i).high w (k*w) 2 ((qG (qk s i).low w+1)*w)=true↔qG (qk s i).high w<qG (qk s i).low w+1∨(k ∣ qG (qk s i).low w+1∧(qG (qk s i).high w<qG (qk s i).low w+1+1∨k ∣ qG (qk s i).low w+1+1)):=by
  rw[divM,divM,divM,f2];simp only[f0,ne_eq,f3];split
  ·rename_i h;simp only[h,true_or,iff_true]
  ·rename_i h;split
   ·rename_i h4;simp only[h,h4,false_and,or_self,EZ]
   ·rename_i h4;rw[Classical.not_not] at h4;split
    ·rename_i h5;simp only[h4,h5,true_or,and_true,or_true]
    ·rename_i h5;split
     ·rename_i h6;simp only[h,h5,h6,or_self,and_false,EZ]
     ·rename_i h6;rw[Classical.not_not] at h6;simp only[h4,h6,or_true,and_true]
 rw[hD];generalize qG (qk s i).high w=b at hab ⊢
 generalize qG (qk s i).low w=a at hab ⊢
 obtain⟨n,hn⟩:=AJ (show 0≤b-a by omega);have e0:=zj6 (a:=a) (k:=k) (m:=n) (by omega) (by omega);rw[show a+(n:Int)=b by omega] at e0;refine⟨by omega,?_⟩;by_cases q0:n=0
 ·have:b=a:=by omega
  subst this;exact⟨fun _=>by omega,fun _=>.inl (by omega)⟩
 obtain⟨s1,s2⟩:=jK7 (a:=a) (k:=k) (by omega);have e1:=zj6 (a:=a+1) (k:=k) (m:=b-a-1) (by omega) (by omega);rw[show a+1+(b-a-1)=b by omega] at e1;by_cases d1:k ∣ a+1
 ·have s1:=s1 d1;by_cases q1:n=1
  ·have:b=a+1:=by omega
   subst this;exact⟨fun _=>by omega,fun _=>.inr ⟨d1,.inl (by omega)⟩⟩
  ·have d2:¬ k ∣ a+1+1:=by
    rintro ⟨p,hp⟩;obtain⟨r,hr⟩:=d1;have:k*(p-r)=1:=by rw[Int.mul_sub];omega
    have:=Int.le_of_dvd (by omega) ⟨_,this.symm⟩;omega
   obtain⟨_,s4⟩:=jK7 (a:=a+1) (k:=k) (by omega);have s4:=s4 d2;have e2:=zj6 (a:=a+1+1) (k:=k) (m:=b-a-2) (by omega) (by omega);rw[show a+1+1+(b-a-2)=b by omega] at e2;refine⟨fun h=>?_,fun h=>by omega⟩;rcases h with h | ⟨_,h | h⟩
   ·omega
   ·omega
   ·exact absurd h d2
 ·have s2:=s2 d1;refine⟨fun h=>?_,fun h=>by omega⟩;rcases h with h | ⟨h,_⟩
  ·omega
  ·exact absurd h d1
theorem qp8 (s:Sch) (hE:schE s=0) (i:Nat) (hi:i<s.cols.length) (h0:0<i) (lev:Nat) (hl:(lev:Int)≤finI s i):Spc Tryz.prog Qu [schT s,vI i,vI lev] [] (vI (blkI s i lev)) []:=by
 have hok:=qR hE;obtain⟨_,c1,c2,hfin⟩:=yT (s:=s) (c:=i) (by omega);rw[Ax] at hfin;have hat:qk s i=s.cols[i]:=by rw[qk,qh hi]
 have hk:=za (hok.cs i hi);have hcd:=fun e=>hok.cdl hi e;have hwd:=fun e l=>hok.wid hi (by omega) e (lev:=l);have hcl:qJ s i=s.lists.getD s.cols[i].list.toNat default:=by rw[qJ,hat]
 have hE2:blkI s i lev=if s.cols[i].kind=2 then ((lvN (qJ s i).codes lev).length:Int)
  else if lev=0 then 1 else qG s.cols[i].high (qD s.cols[i] lev)-qG s.cols[i].low (qD s.cols[i] lev)+1+(if s.cols[i].opt=true then 1 else 0):=by rw[blkI,hat]
 rw[hE2];rw[hat] at hk hcd hwd hfin;rw[hcl] at hcd ⊢
 refine qd qW5 mixm (by simp) fun e _ hst=>qg ?_;unfold JM;simp only[tZ,↓un_u,simprocAttr,Ax,qe hi];generalize s.cols[i]=x at hk hcd hwd hfin ⊢
 simp only[tZ,↓un_u,simprocAttr,tD,AY,Ak];refine⟨by omega,fun h2=>?_,fun h2=>⟨fun h3=>?_,fun h3=>?_⟩⟩
 ·rw[Aj h2];obtain⟨d1,d2⟩:=hcd h2;obtain⟨d3,d4⟩:=hk.2.2.2.1 h2;have hgl:s.lists.getD x.list.toNat default=s.lists[x.list.toNat]:=qh d1;rw[hgl] at d2 ⊢
  simp only[tZ,↓un_u,simprocAttr,qe d1];generalize s.lists[x.list.toNat]=l at d2 ⊢
  refine⟨by omega,?_⟩;refine C1.im (qr8 l lev) (by rfl) (by rfl) ?_;rw[← kh1 d2];refine sW ?_;exact .oA [] []
 ·rw[Aq h2,Aj (by omega)];exact .oA [] []
 rw[Aq h2,Aq (by omega)];rw[Aq h2] at hfin;obtain⟨w1,w2,w3,w4,w5,w6,w7,_⟩:=hwd h2 lev (by omega);refine C1.im (Ja x lev (by omega) (by omega)) (by rfl) (by rfl) ?_;generalize qD x lev=w at w1 w2 ⊢
 have h4:=qo7 (v:=x.high) (w:=w) (by omega);have h5:=qo7 (v:=x.low) (w:=w) (by omega);obtain⟨m,hm⟩:=AJ (show 0≤x.high-x.low by omega);have hab:=zj6 (a:=x.low) (k:=w) (m:=m) w1 (by omega);rw[show x.low+(m:Int)=x.high by omega] at hab;have wa:IntKind.i64.wrap (qG x.high w*w-qG x.low w*w)=qG x.high w*w-qG x.low w*w:=AK _ (by omega);have wb:(qG x.high w*w-qG x.low w*w).tdiv w=qG x.high w-qG x.low w:=by rw[← Int.sub_mul,Int.mul_tdiv_cancel _ (by omega)]
 have wc:IntKind.i64.wrap (qG x.high w-qG x.low w)=qG x.high w-qG x.low w:=AK _ (by omega);have wd:IntKind.i64.wrap (qG x.high w-qG x.low w+1)=qG x.high w-qG x.low w+1:=AK _ (by omega);have we:IntKind.i64.wrap (qG x.high w-qG x.low w+1+1)=qG x.high w-qG x.low w+1+1:=AK _ (by omega);refine sW ?_;refine C1.im (wN x.high w (by omega) (by omega)) (by rfl) (by rfl) ?_;refine sW ?_;refine C1.im (wN x.low w (by omega) (by omega)) (by rfl) (by rfl) ?_;simp only[tZ,↓un_u,simprocAttr,wa,wb,wc,wd,we]
 repeat (first | refine⟨by omega,?_⟩ | refine⟨by kernel_rfl,?_⟩)
 refine⟨fun h6=>?_,fun h6=>?_⟩
 ·rw[Aj h6];exact .oA [] []
 ·rw[Aq (by rw[h6];simp),Int.add_zero];exact .oA [] []
theorem jn7 {p:Nat→Bool} {N:Nat}:∀ (f n:Nat),n≤N→N-n<f→p N=true→(∀ m,n≤m→m<N→p m=false)→Wo p f n=N
 | 0,n,h1,h2,_,_=>by omega
 | f+1,n,h1,h2,h3,h4=>by
   rw[Wo];by_cases e:n=N
   ·subst e;rw[Aj h3]
   ·rw[Aq (by rw[h4 n (BZ _) (by omega)];simp)];exact jn7 f (n+1) (by omega) (by omega) h3 fun m h5 h6=>h4 m (by omega) h6
theorem qw2 (s:Sch) (hs:yg s) (c lev:Int):Spc Tryz.prog ZX [schT s,vI c,vI lev] [] (vI (jQ s c lev)) []:=by
 refine qd zf6 mixm (by simp) fun e _ hst=>qg ?_;unfold Wc;refine sW ?_;refine C1.im (Ww s hs c) (by rfl) (by rfl) ?_;refine sD ?_;refine⟨fun h=>?_,fun h=>?_⟩
 ·rw[jQ,Aj (qo6.2 (by omega))];exact .oA [] []
 rw[jQ,Aq (by rw[qo6];omega)];obtain⟨hE,c1,c2,hfin⟩:=yT (s:=s) (c:=c) (by omega);have hfl:=qo8 (c:=c) hE;have hok:=qR hE;obtain⟨i,rfl⟩:=AJ (show 0≤c by omega);obtain⟨v,rfl⟩:=AJ (show 0≤lev by omega);simp only[Ax];have hi:i<s.cols.length:=by omega
 have key:∀ n,n≤v→blkI s i n=blkI s i v→(n=0∨blkI s i (n-1)≠blkI s i n)→Wo (fun n=>divB s i n v) 64 0=n:=fun n h1 h2 h3=>by
  refine jn7 64 0 (by omega) (by omega) ((zH1 hE hi (by omega) h1 (by omega)).2.2 h2) fun m _ hm=>?_;cases e:divB s i m v with
  | false=>rfl
  | true=>
    have e1:=(zH1 hE hi (by omega) (show m≤v by omega) (by omega)).2.1 e;have e2:=(zH1 hE hi (by omega) (show m≤n-1 by omega) (by omega)).1;have e3:=(zH1 hE hi (by omega) (show n-1≤n by omega) (by omega)).1;omega
 refine qu mixm (α:=Nat) [2,17] (fun n=>n≤v∧blkI s i n=blkI s i v) (fun n=>[(2,vI n)]) (fun n=>[(4096,.arr 2 [schT s] false)]) (fun n=>n) v ⟨by omega,rfl⟩ ?_ fun n hn=>?_
 ·exact .oA [(4096,some 4096)] []
 obtain⟨n1,n2⟩:=hn;rcases DQ n with hz | hz
 ·subst hz;have e0:decide (((0:Nat):Int)>0)=false:=by decide
  simp only[tZ,↓un_u,simprocAttr,e0];refine C2.no (fun h=>h) ?_;refine sW ?_;refine C2.no (fun h=>h) ?_;refine sW ?_
  repeat (first | refine⟨by omega,?_⟩ | refine⟨by kernel_rfl,?_⟩)
  rw[key 0 (by omega) n2 (.inl rfl)];exact .oA [] []
 ·obtain⟨k,rfl⟩:∃ k,n=k+1:=⟨n-1,by omega⟩;have e0:decide (((k+1:Nat):Int)>0)=true:=Cx (by omega);have e3:=jp (i:=k+1) (by omega) (by omega);rw[Nat.add_sub_cancel] at e3;simp only[tZ,↓un_u,simprocAttr,e0,e3];refine C2.im (fun _=>qp8 s hE i hi (by omega) k (by omega)) (fun _=>rfl) (by rfl) ?_;refine sW ?_;refine C2.im (fun _=>qp8 s hE i hi (by omega) (k+1) (by omega)) (fun _=>rfl) (by rfl) ?_;simp only[tZ,↓un_u,simprocAttr,AY,Ak,e3]
  repeat (first | refine⟨by omega,?_⟩ | refine⟨by kernel_rfl,?_⟩)
  refine⟨fun h5=>?_,fun h5=>?_⟩
  ·refine⟨k,⟨by omega,by omega⟩,by omega,?_⟩;exact .oA [(4096,some 4096)] []
  ·rw[key (k+1) (by omega) n2 (.inr h5)];exact .oA [] []
end Go.Proofs
namespace Go.Proofs
open Go Go.TL
set_option maxRecDepth 4000
set_option maxHeartbeats 8000000
theorem qQ3:∀ (c:Cnd) (m:Int),0≤m→m≤1000→Spc Tryz.prog wG [cnT c,vI m] [] (vI (cntC c (m+1))) []:=by
 refine Cnd.ind' fun c ih m hm hm2=>?_;rw[YL];refine qd qF8 mixm (by simp) fun e _ hst=>qg ?_;unfold QK;refine sW ?_;refine qu mixm (α:=Nat×Int) [5,11] (fun y=>y.1≤c.kids.length∧wy c.kids (m+1) 1=wy (c.kids.drop y.1) (m+1) y.2∧y.2≤m+1∧y.1+1≤y.2) (fun y=>[(5,vI y.2),(11,vI y.1)]) (fun y=>[]) (fun y=>c.kids.length-y.1) (0,1) ⟨by simp,rfl,by dsimp only;omega,by simp⟩ ?_ fun y hy=>?_
 ·exact .oA [] []
 obtain⟨i,n⟩:=y;obtain⟨y1,y2,y3,y4⟩:=hy;dsimp only at y1 y2 y3 y4;rw[y2];refine sD ?_;refine⟨fun h=>?_,fun h=>?_⟩
 ·have hi:i<c.kids.length:=by omega
  have hwi:=qj (i:=i) (by omega);rw[zE7 hi,wy];simp only[tZ,↓un_u,simprocAttr,Ax,qe hi,zp,tD];refine⟨by omega,fun h2=>?_,fun h2=>?_⟩
  ·rw[Aq (by omega)];exact .oA [] []
  have hw:IntKind.i64.wrap (m-n)=m-n:=AK _ (by omega);have hc:=qT1 c.kids[i] (m-n+1) (by omega);have e1:m+1-n=m-n+1:=by omega
  have hw2:IntKind.i64.wrap (n+cntC c.kids[i] (m-n+1))=n+cntC c.kids[i] (m-n+1):=AK _ (by omega);rw[Aj (by omega),e1];simp only[tZ,↓un_u,simprocAttr,hw];refine C1.im (ih _ (AX hi) (m-n) (by omega) (by omega)) (by rfl) (by rfl) ?_;simp only[tZ,↓un_u,simprocAttr,hw2,hwi];refine⟨(i+1,n+cntC c.kids[i] (m-n+1)),⟨by dsimp only;omega,rfl,by dsimp only;omega,by dsimp only;omega⟩,by dsimp only;omega,?_⟩;exact .oA [] []
 ·rw[List.drop_of_length_le (by omega),wy];exact .oA [] []
theorem qY0:∀ (c:Cnd) (m:Int),1≤m→m≤1000→cntC c m<m→Spc Tryz.prog yu [cnT c] [] (vI (depC c)) []:=by
 refine Cnd.ind' fun c ih m hm hm2 hc=>?_;have hd:=jI6 c m hm hc;rw[YL] at hc hd;obtain⟨hk1,hk2⟩:=qI2 (by omega) hc;rw[qP0] at hd ⊢
 refine qd qN8 mixm (by simp) fun e _ hst=>qg ?_;unfold ZG;refine sW ?_;refine qu mixm (α:=Nat) [3,9] (fun i=>i≤c.kids.length) (fun i=>[(3,vI (kH (c.kids.take i))),(9,vI i)]) (fun i=>[]) (fun i=>c.kids.length-i) 0 (by omega) ?_ fun i hi=>?_
 ·refine .of [] [] rfl (by first | rfl | (rw[hst];rfl)) ?_ ?_
  all_goals (try simp only[tL,simprocAttr,By,List.map_cons,List.map_nil,BW,Cy,List.take_zero,kH])
  all_goals (try (repeat' (first | exact zb | (apply zy;intro _;exact⟨rfl,rfl⟩) | (apply qE;intro _;exact⟨rfl,rfl⟩) | with_reducible apply qW | with_reducible refine qS ⟨rfl,rfl⟩ ?_ | exact qY | with_reducible apply qT | with_reducible refine qV ⟨rfl,rfl,?_⟩ ?_ | with_reducible apply Az | exact qU rfl | exact qU (by assumption) | (refine⟨⟨?_,rfl,?_,rfl,?_⟩,trivial⟩ <;> first | (simp;done) | (apply qE;intro _;exact⟨rfl,rfl⟩)) | trivial | rfl | (rw[qj (by omega)]) | omega)))
 have hdt:=qP6 c.kids i;refine sD ?_;refine⟨fun h=>?_,fun h=>?_⟩
 ·have hi2:i<c.kids.length:=by omega
  have hwi:=qj (i:=i) (by omega);have hs:kH (c.kids.take (i+1))=max (kH (c.kids.take i)) (depC c.kids[i]):=by rw[qH hi2,qP5]
  obtain⟨m',a1,a2,a3⟩:=hk2 _ (AX hi2);simp only[tZ,↓un_u,simprocAttr,Ax,qe hi2,zp];refine⟨by omega,?_⟩;refine C1.im (ih _ (AX hi2) m' a1 (by omega) a3) (by rfl) (by rfl) ?_;have hmx:maxI (kH (c.kids.take i):Int) (depC c.kids[i])=(kH (c.kids.take (i+1)):Int):=by rw[hs];unfold maxI;omega
  simp only[tZ,↓un_u,simprocAttr,hwi,hmx];refine⟨i+1,by omega,by omega,?_⟩;exact .oA [] []
 ·have hil:i=c.kids.length:=by omega
  subst hil;rw[Bw] at hdt ⊢
  have hw:=qj (i:=kH c.kids) (by omega);simp only[tZ,↓un_u,simprocAttr,hw];exact .oA [] []
theorem qY1 (op:Int):Spc Tryz.prog Jt [vI op] [] (vI (arC op)) []:=by
 refine qd qO6 mixm (by simp) fun e _ hst=>qg ?_;unfold ZM;simp only[tZ,↓un_u,simprocAttr,Cnd.op,Cnd.col,Cnd.code,Cnd.lo,Cnd.hi,Cnd.kids];by_cases h5:op=5
 ·subst h5;refine sW ?_;exact .oA [] []
 by_cases h6:op=6
 ·subst h6;refine sW ?_;exact .oA [] []
 by_cases h7:op=7
 ·subst h7;refine sW ?_;exact .oA [] []
 have e:arC op=0:=by rw[arC,Aq (by omega),Aq h7]
 rw[e];simp only[tZ,↓un_u,simprocAttr,Ak.2 h5,Ak.2 h6,Ak.2 h7];exact .oA [] []
def unuC (c:Cnd):Bool:=if ((!isAt c&&(c.col != 0))||((c.op != 2)&&(c.code != 0)))=true then false else (c.op==3)||((c.lo==0)&&(c.hi==0))
theorem kh2 {c:Cnd}:unuC c=false↔(c.op≠2∧c.op≠3∧c.op≠4∧c.col≠0)∨(c.op≠2∧c.code≠0)∨(c.op≠3∧(c.lo≠0∨c.hi≠0)):=by
 unfold unuC isAt
 grind
theorem qK4 (c:Cnd):Spc Tryz.prog Qx [cnT c] [] (vB (unuC c)) []:=by
 refine qd qA1 mixm (by simp) fun e _ hst=>qg ?_;unfold yR;refine sW ?_;have hi:isAt c=((c.op==2)||(c.op==3)||(c.op==4)):=rfl;rw[← hi];unfold unuC;cases h:(!isAt c&&(c.col != 0))
 ·simp only[tZ,↓un_u,simprocAttr,h];cases h2:((c.op != 2)&&(c.code != 0))
  ·simp only[tZ,↓un_u,simprocAttr,h2];exact .oA [] []
  ·simp only[tZ,↓un_u,simprocAttr,h2];exact .oA [] []
 ·simp only[tZ,↓un_u,simprocAttr,h];exact .oA [] []
theorem qu8 (s:Sch) (hok:SchOk s) (c:Cnd):Spc Tryz.prog wV [schT s,cnT c] [] (vI (ndE s c)) []:=by
 have hn0:=hok.nl;have hn1:=hok.nc;have hn:ndE s c=if c.op<1∨7<c.op then 4
 else if c.kids.length≠arC c.op∨(c.op≠2∧c.op≠3∧c.op≠4∧c.col≠0)∨(c.op≠2∧c.code≠0)∨(c.op≠3∧(c.lo≠0∨c.hi≠0)) then 11
 else if (c.op=2∧isB s c.col 2=false)∨(c.op=3∧isB s c.col 3=false)∨(c.op=4∧(isB s c.col 3=false∨(qk s c.col.toNat).opt=false)) then 7
 else if c.op=2∧(c.code<0∨c.code≥(qJ s c.col.toNat).codes.length) then 6
 else if c.op=3∧(c.lo < -1000000∨c.hi>1000000∨c.lo>c.hi) then 2 else 0:=rfl
 have hu:=@kh2 c;generalize ndE s c=E at hn ⊢
 refine qd qn9 mixm (by simp) fun e _ hst=>qg ?_;unfold ww;refine sD ?_;refine⟨fun h=>?_,fun h=>?_⟩
 ·rw[Aj (by omega)] at hn;rw[hn];exact .oA [] []
 rw[Aq (by omega)] at hn;refine C1.im (qY1 c.op) (by rfl) (by rfl) ?_;refine sW ?_;refine C2.im (fun _=>qK4 c) (fun _=>rfl) (by rfl) ?_;simp only[tZ,↓un_u,simprocAttr,Bj,Aw,Bx,Bz]
 repeat (first | refine⟨by omega,?_⟩ | refine⟨by kernel_rfl,?_⟩)
 refine⟨fun h2=>?_,fun h2=>?_⟩
 ·rw[Aj (by grind)] at hn;rw[hn];exact .oA [] []
 rw[Aq (by grind)] at hn;by_cases hat:c.op≠2∧c.op≠3∧c.op≠4
 ·rw[Aq (by omega),Aq (by omega),Aq (by omega)] at hn;rw[hn];simp only[tZ,↓un_u,simprocAttr,Bj.2 hat.1,Bj.2 hat.2.1,Bj.2 hat.2.2];exact .oA [] []
 have e1:((c.op != 2)&&(c.op != 3)&&(c.op != 4))=false:=by
  cases e:((c.op != 2)&&(c.op != 3)&&(c.op != 4)) with
  | false=>rfl
  | true=>exact absurd (by simpa [and_assoc] using e) hat
 simp only[tZ,↓un_u,simprocAttr,e1,tD];refine⟨fun h3=>?_,fun h3=>?_⟩
 ·have b2:isB s c.col 2=false:=by
   cases e:isB s c.col 2 with
   | false=>rfl
   | true=>have:=zE.1 e;omega
  have b3:isB s c.col 3=false:=by
   cases e:isB s c.col 3 with
   | false=>rfl
   | true=>have:=zE.1 e;omega
  rw[b2,b3,Aj (by grind)] at hn;rw[hn];exact .oA [] []
 obtain⟨i,hci⟩:=AJ (show 0≤c.col by omega);have hil:i<s.cols.length:=by omega
 have hat2:qk s i=s.cols[i]:=by rw[qk,qh hil]
 have hcd:=fun e=>hok.cdl hil e;have hcd2:=(za (hok.cs i hil)).2.2.2.1;have hcl:qJ s i=s.lists.getD s.cols[i].list.toNat default:=by rw[qJ,hat2]
 have hB:∀ k,isB s c.col k=(s.cols[i].kind==k):=fun k=>by
  rw[isB,hci,Ax,hat2,Cx (by omega),Cx (by omega)];rfl
 rw[hB,hB,hci,Ax,hcl,hat2] at hn;rw[hat2,hcl] at hcd;rw[hat2] at hcd2;simp only[tZ,↓un_u,simprocAttr,hci,Ax,qe hil];generalize s.cols[i]=x at hn hcd hcd2 ⊢
 simp only[tZ,↓un_u,simprocAttr,AY,Ak,Bj,Aw];refine⟨by omega,fun h4=>⟨fun h5=>?_,fun h5=>?_⟩,fun h4=>⟨fun h5=>⟨fun h6=>?_,fun h6=>?_⟩,fun h5=>?_⟩⟩
 ·rw[Aj (by grind)] at hn;rw[hn];exact .oA [] []
 ·rw[Aq (by grind)] at hn;obtain⟨d1,d2⟩:=hcd h5;obtain⟨d3,d4⟩:=hcd2 h5;rw[qh d1] at hn;simp only[tZ,↓un_u,simprocAttr,qe d1,tD];generalize s.lists[x.list.toNat]=l at hn
  repeat (first | refine⟨by omega,?_⟩ | refine⟨by kernel_rfl,?_⟩)
  refine⟨fun h6=>?_,fun h6=>?_⟩
  ·rw[Aj (by grind)] at hn;rw[hn];exact .oA [] []
  ·rw[Aq (by grind),Aq (by grind)] at hn;rw[hn];exact .oA [] []
 ·rw[Aj (by grind)] at hn;rw[hn];exact .oA [] []
 ·rw[Aq (by grind),Aq (by grind)] at hn;refine sD ?_;refine⟨fun h7=>?_,fun h7=>?_⟩
  ·rw[Aj (by grind)] at hn;rw[hn];exact .oA [] []
  ·rw[Aq (by grind)] at hn;rw[hn];exact .oA [] []
 ·refine⟨fun h6=>?_,fun h6=>by omega⟩;refine⟨fun h7=>?_,fun h7=>?_⟩
  ·rw[Aj (by grind)] at hn;rw[hn];exact .oA [] []
  ·rw[Aq (by grind),Aq (by grind),Aq (by grind)] at hn;rw[hn];exact .oA [] []
theorem kn8 (op:Int):arC op≤2:=by
 unfold arC;split
 ·omega
 ·split <;> omega
theorem qu9 (s:Sch) (hok:SchOk s):∀ (c:Cnd),Spc Tryz.prog jS [schT s,cnT c] [] (vI (nodE s c)) []:=by
 refine Cnd.ind' fun c ih=>?_;have hN:=zE3 s c;generalize nodE s c=N at hN ⊢
 refine qd qn1 mixm (by simp) fun e _ hst=>qg ?_;unfold wt;refine sW ?_;refine C1.im (qu8 s hok c) (by rfl) (by rfl) ?_;simp only[tZ,↓un_u,simprocAttr,Bj,Aw];refine⟨fun h=>?_,fun h=>?_⟩
 ·rw[hN,Aj h];exact .oA [] []
 rw[Aq (by rw[h];simp)] at hN;have hnk:=(jm3 h).nk;have har:=kn8 c.op;rw[hN];refine qu mixm (α:=Nat) [18] (fun i=>i≤c.kids.length∧(Zd s (c.kids.take i)=0)) (fun i=>[(18,vI i)]) (fun i=>[(4096,.arr 2 [schT s] false)]) (fun i=>c.kids.length-i) 0 ⟨by omega,?_⟩ ?_ fun i hi=>?_
 ·rfl
 ·exact .oA [(4096,some 4096)] []
 simp only[tZ,↓un_u,simprocAttr,AZ,Ay];refine⟨fun h=>?_,fun h=>?_⟩
 ·have hi2:i<c.kids.length:=by omega
  have hi2:i<c.kids.length:=by omega
  have hwi:=qj (i:=i) (by omega);simp only[tZ,↓un_u,simprocAttr,Ax,qe hi2,hwi,zp];refine⟨by omega,?_⟩;refine C1.im (ih _ (AX hi2)) (by rfl) (by rfl) ?_;simp only[tZ,↓un_u,simprocAttr,Bj,Aw];refine⟨fun h6=>?_,fun h6=>?_⟩
  ·rw[qA7 hi2 hi.2 h6];exact .oA [] []
  ·refine⟨i+1,⟨by omega,by rw[qH hi2];exact qP7 hi.2 h6⟩,by omega,?_⟩;exact .oA [(4096,some 4096)] []
 ·have hi2:i=c.kids.length:=by omega
  subst hi2;rw[List.take_of_length_le (by omega)] at hi;rw[hi.2];exact .oA [] []
theorem kg (s:Sch) (hs:yg s) (c:Cnd):Spc Tryz.prog zA [schT s,cnT c] [] (vI (chkC s c)) []:=by
 refine qd qE6 mixm (by simp) fun e _ hst=>qg ?_;unfold QE;refine sW ?_;refine C1.im (jd s hs.2.1 hs.1) (by rfl) (by rfl) ?_;simp only[tZ,↓un_u,simprocAttr,Bj,Aw];refine⟨fun h=>?_,fun h=>?_⟩
 ·rw[chkC,Aj h];exact .oA [] []
 have hok:=qR h;refine C1.im (qQ3 c 40 (by omega) (by omega)) (by rfl) (by rfl) ?_;rw[show (40:Int)+1=41 from rfl];refine sD ?_;refine⟨fun h2=>?_,fun h2=>?_⟩
 ·rw[chkC,Aq (by rw[h];simp),Aj h2];exact .oA [] []
 refine C1.im (qY0 c 41 (by omega) (by omega) (by omega)) (by rfl) (by rfl) ?_;refine sD ?_;refine⟨fun h3=>?_,fun h3=>?_⟩
 ·rw[chkC,Aq (by rw[h];simp),Aq h2,Aj (by omega)];exact .oA [] []
 rw[chkC,Aq (by rw[h];simp),Aq h2,Aq (by omega)];refine C1.im (qu9 s hok c) (by rfl) (by rfl) ?_;refine sW ?_;exact .oA [] []
theorem ZS (b:Bool):Spc Tryz.prog jW [vB b] [] (vI (tf b)) []:=by
 refine qd qH3 mixm (by simp) fun e _ hst=>qg ?_;unfold QR;refine sW ?_;cases b
 ·refine sW ?_;exact .oA [] []
 ·refine sW ?_;exact .oA [] []
theorem qh5 (s:Sch) (hok:SchOk s) (c:Cnd) (hc:NdOk s c) (ha:isAt c=true) (v:Int):Spc Tryz.prog yw [schT s,cnT c,vI v] [] (vI (QT s c v)) []:=by
 have hn0:=hok.nl;have hn1:=hok.nc;have hA:QT s c v=if c.op=2 then tf (qo3 (qJ s c.col.toNat) v c.code)
 else if c.op=3 then (if v=yk then 0 else tf (decide (c.lo≤v)&&decide (v≤c.hi)))
 else if c.op=4 then tf (v==yk) else -1:=rfl
 rw[hA];by_cases h2:c.op=2
 ·obtain⟨b,b4,b5⟩:=hc.under h2;obtain⟨b1,b2,b3⟩:=zE.1 b;obtain⟨i,hci⟩:=AJ b1;rw[hci] at b2 b5;rw[hci,Ax] at b3;rw[Ax] at b5;have hil:i<s.cols.length:=by omega
  have hat:qk s i=s.cols[i]:=by rw[qk,qh hil]
  have hcd:=hok.cdl hil b3;have hcd2:=(za (hok.cs i hil)).2.2.2.1 b3;have hcl:qJ s i=s.lists.getD s.cols[i].list.toNat default:=by rw[qJ,hat]
  rw[hat] at hcd hcd2;rw[Aj h2,hci,Ax];rw[hcl,qh hcd.1] at hcd ⊢
  have q:(c.op==2)=true:=AY.2 h2;refine qd ZK mixm (by simp) fun e _ hst=>qg ?_;unfold jZ;simp only[tZ,↓un_u,simprocAttr,q,hci,Ax,qe hil,qe hcd.1];refine⟨by omega,by omega,?_⟩;refine C1.im (zG7 _ v c.code) (by rfl) (by rfl) ?_;refine sW ?_
  repeat (first | refine⟨by omega,?_⟩ | refine⟨by kernel_rfl,?_⟩)
  refine C1.im (ZS _) (by rfl) (by rfl) ?_;refine sW ?_
  repeat (first | refine⟨by omega,?_⟩ | refine⟨by kernel_rfl,?_⟩)
  exact .oA [] []
 have q:(c.op==2)=false:=Ak.2 h2;rw[Aq h2];by_cases h4:c.op=4
 ·have q4:(c.op==4)=true:=AY.2 h4;rw[Aq (by omega),Aj h4];refine qd ZK mixm (by simp) fun e _ hst=>qg ?_;unfold jZ;simp only[tZ,↓un_u,simprocAttr,q,q4];rw[show (-1099511627776:Int)=yk from rfl];refine C1.im (ZS _) (by rfl) (by rfl) ?_;refine sW ?_;exact .oA [] []
 have q4:(c.op==4)=false:=Ak.2 h4;have h3:c.op=3:=by
  unfold isAt at ha;rw[q,q4] at ha;simpa using ha
 rw[Aj h3];refine qd ZK mixm (by simp) fun e _ hst=>qg ?_;unfold jZ;simp only[tZ,↓un_u,simprocAttr,q,q4,AY,Ak];rw[show (-1099511627776:Int)=yk from rfl];refine⟨fun h=>?_,fun h=>?_⟩
 ·rw[Aj h];exact .oA [] []
 ·rw[Aq h];refine C1.im (ZS _) (by rfl) (by rfl) ?_;refine sW ?_;exact .oA [] []
theorem qQ4:∀ (c:Cnd) (m:Int),1≤m→m≤1000→cntC c m<m→Spc Tryz.prog wJ [cnT c] [] (vCs (atsC c)) []:=by
 refine Cnd.ind' fun c ih m hm hm2 hc=>?_;have hal:=zi1 c m hm hc;rw[YL] at hc hal;obtain⟨hk1,hk2⟩:=qI2 (by omega) hc;have hi:isAt c=((c.op==2)||(c.op==3)||(c.op==4)):=rfl;refine qd qG6 mixm (by simp) fun e _ hst=>qg ?_;unfold QO;refine sW ?_;rw[← hi];refine⟨fun h=>?_,fun h=>?_⟩
 ·rw[qP1,Aj h];show Zi [] _ _ (.sl 6 [cndT c]) [];rw[zp];exact .oA [] [12292]
 ·rw[qP1,Aq (by rw[h];simp)] at hal ⊢
  refine qu mixm (α:=Nat) [3,24,18] (fun i=>i≤c.kids.length) (fun i=>[(3,.asl 1 (WH (c.kids.take i)).length),(24,vI i)]) (fun i=>[(1,.arr 6 ((WH (c.kids.take i)).map cndT) false)]) (fun i=>c.kids.length-i) 0 (by omega) ?_ fun i hi2=>?_
  ·exact .oA [(1,none)] []
  have htl:=QX c.kids i;refine sD ?_;refine⟨fun h5=>?_,fun h5=>?_⟩
  ·have hi2:i<c.kids.length:=by omega
   have hwi:=qj (i:=i) (by omega);obtain⟨m',a1,a2,a3⟩:=hk2 _ (AX hi2);have htl2:=QX c.kids (i+1);rw[qH hi2,qa6,AW] at htl2;simp only[tZ,↓un_u,simprocAttr,Ax,qe hi2,zp];refine⟨by omega,?_⟩;refine C1.im (ih _ (AX hi2) m' a1 (by omega) a3) (by rfl) (by rfl) ?_;simp only[tZ,↓un_u,simprocAttr,hwi];refine⟨by omega,i+1,by omega,by omega,?_⟩;rw[qH hi2,qa6,By];refine .of [(1,some 1)] [] rfl (by first | rfl | (rw[hst];rfl)) ?_ ?_
   all_goals (try simp only[tL,simprocAttr,By,List.map_cons,List.map_nil,BW,Cy,Dj])
   all_goals (try (repeat' (first | exact zb | (apply zy;intro _;exact⟨rfl,rfl⟩) | (apply qE;intro _;exact⟨rfl,rfl⟩) | with_reducible apply qW | with_reducible refine qS ⟨rfl,rfl⟩ ?_ | exact qY | with_reducible apply qT | with_reducible refine qV ⟨rfl,rfl,?_⟩ ?_ | with_reducible apply Az | exact qU rfl | exact qU (by assumption) | (refine⟨⟨?_,rfl,?_,rfl,?_⟩,trivial⟩ <;> first | (simp;done) | (apply qE;intro _;exact⟨rfl,rfl⟩)) | trivial | rfl | (rw[qj (by omega)]) | omega)))
   all_goals first | exact zF0 _ | exact zT2 _
  ·have hil:i=c.kids.length:=by omega
   subst hil;rw[Bw];refine .of [] [1] rfl (by first | rfl | (rw[hst];rfl)) ?_ ?_
   all_goals (try simp only[tL,simprocAttr,By,List.map_cons,List.map_nil,BW,Cy,Dj])
   all_goals (try (repeat' (first | exact zb | (apply zy;intro _;exact⟨rfl,rfl⟩) | (apply qE;intro _;exact⟨rfl,rfl⟩) | with_reducible apply qW | with_reducible refine qS ⟨rfl,rfl⟩ ?_ | exact qY | with_reducible apply qT | with_reducible refine qV ⟨rfl,rfl,?_⟩ ?_ | with_reducible apply Az | exact qU rfl | exact qU (by assumption) | (refine⟨⟨?_,rfl,?_,rfl,?_⟩,trivial⟩ <;> first | (simp;done) | (apply qE;intro _;exact⟨rfl,rfl⟩)) | trivial | rfl | (rw[qj (by omega)]) | omega)))
   all_goals first | exact zF0 _ | exact zT2 _
end Go.Proofs
namespace Go.Proofs
open Go Go.TL
set_option maxRecDepth 4000
set_option maxHeartbeats 8000000
theorem qh6 (n w:Int) (hw:0<w∧w≤1000000) (hn : -4611686018427387904<n∧n<4611686018427387904):Spc Tryz.prog yx [vI n,vI w] [] (vI (qG n w*w)) []:=by
 rw[jb9 hw.1];have h2:=Int.tmod_lt_of_pos n hw.1;have h3:=Int.lt_tmod_of_pos n hw.1;have w1:IntKind.i64.wrap (n.tmod w)=n.tmod w:=AK _ (by omega);have w2:IntKind.i64.wrap (n.tmod w+w)=n.tmod w+w:=AK _ (by omega);have w3:IntKind.i64.wrap (n-n.tmod w)=n-n.tmod w:=AK _ (by omega);have w4:IntKind.i64.wrap (n-(n.tmod w+w))=n-(n.tmod w+w):=AK _ (by omega);refine qd qO4 mixm (by simp) fun e _ hst=>qg ?_;unfold ZL;simp only[tZ,↓un_u,simprocAttr,w1,w2,w3,w4,tD];refine⟨by omega,fun h=>?_,fun h=>?_⟩
 ·rw[Aj h];exact .oA [] []
 ·rw[Aq h];exact .oA [] []
theorem qQ5 (c:Col) (lev:Int) (h1:1≤lev∧lev≤c.widths.length) (h2:c.widths.length<4611686018427387904):Spc Tryz.prog Zw [colT c,vI lev] [] (vI (qD c lev)) []:=by
 have hw:IntKind.i64.wrap ((c.widths.length:Int)-lev)=(c.widths.length:Int)-lev:=AK _ (by omega);have hk:((c.widths.length:Int)-lev).toNat<c.widths.length:=by omega
 refine qd qH1 mixm (by simp) fun e _ hst=>qg ?_;unfold QQ;simp only[tZ,↓un_u,simprocAttr,hw,qe hk];rw[qD,qh hk];refine⟨by omega,?_⟩;exact .oA [] []
theorem qK5 (k k' v:Int):∀ l:List (Int×Int),TL.look TL.eqI k (TL.asg TL.eqI k' v l)=if k=k' then some v else TL.look TL.eqI k l
 | []=>by
   simp only[TL.asg,TL.look,TL.eqI,AY]
 | (a,b)::r=>by
   have ih:=qK5 k k' v r;simp only[TL.asg,TL.eqI,AY] at ih ⊢
   by_cases h:k'=a
   ·subst h;rw[Aj rfl];simp only[TL.look,TL.eqI,AY];split <;> rfl
   ·rw[Aq h];simp only[TL.look,TL.eqI,AY];rw[ih];by_cases h2:k=a
    ·subst h2;rw[Aj rfl,Aq (fun e=>h e.symm),Aj rfl]
    ·rw[Aq h2,Aq h2]
theorem zV5 {n w:Int} (hw:0<w):(qG n w*w==n)=(n.tmod w==0):=by
 rw[jb9 hw,Bool.eq_iff_iff,AY,AY];have h2:=Int.tmod_lt_of_pos n hw;have h3:=Int.lt_tmod_of_pos n hw;split <;> omega
theorem qv0 (s:Sch) (hE:schE s=0) (c:Cnd) (hnd:NdOk s c) (ha:isAt c=true) (lev:Nat) (hl:(lev:Int)≤finI s c.col):Spc Tryz.prog wT [schT s,cnT c,vI lev] [] (vB (decB s c lev)) []:=by
 have hok:=qR hE;have hn0:=hok.nl;have hn1:=hok.nc;obtain⟨_,c1,c2,hfin⟩:=yT (s:=s) (c:=c.col) (by omega);obtain⟨i,hci⟩:=AJ (show 0≤c.col by omega);have hcn:c.col.toNat=i:=by omega
 have hil:i<s.cols.length:=by omega
 have hat:qk s i=s.cols[i]:=by rw[qk,qh hil]
 have hcd:=fun e=>hok.cdl hil e;have hcd2:=(za (hok.cs i hil)).2.2.2.1;have hwd:=fun e l=>hok.wid hil (by omega) e (lev:=l);have hll:=qb0 hok hil;have hcl:qJ s i=s.lists.getD s.cols[i].list.toNat default:=by rw[qJ,hat]
 have hlh:=fun h2 v=>qr4 (s:=s) (i:=i) h2 (v:=v);have hfi:∀ h2:(qk s i).kind=2,finI s c.col=zh (qJ s i)-1:=fun h2=>by rw[hfin,hcn,Aj h2]
 have hco:∀ h2:(qk s i).kind=2,∀ v∈qQ s i,qK s c.col lev v=upC (qJ s i) v lev:=fun h2 v hv=>by
  have:=qr4 h2 (hcd h2).2 hv;rw[qK,Aq (by rw[Ez,Ji];omega),hcn,Aj h2,Aq (by rw[this];simp)]
 rw[hcn,hat] at hfin;rw[hat] at hwd hll hcd hcd2 hfi hco;have hD:decB s c lev=if c.op=2 then qA5 (qQ s i).length (decP s c lev)
 else if c.op=4 then decide (0<lev)
 else if lev=0 then !s.cols[i].opt&&!(decide (s.cols[i].low<c.lo)&&decide (c.lo≤s.cols[i].high))&&!(decide (s.cols[i].low≤c.hi)&&decide (c.hi<s.cols[i].high))
  else (!(decide (s.cols[i].low<c.lo)&&decide (c.lo≤s.cols[i].high))||(c.lo.tmod (qD s.cols[i] lev)==0))&&(!(decide (s.cols[i].low≤c.hi)&&decide (c.hi<s.cols[i].high))||((c.hi+1).tmod (qD s.cols[i] lev)==0)):=by
  rw[decB,hcn,hat]
 have hk2:c.op=2→s.cols[i].kind=2:=fun h=>by
  have:=(zE.1 (hnd.under h).1).2.2;rw[hcn,hat] at this;exact this
 have hk3:c.op=3→s.cols[i].kind=3:=fun h=>by
  have:=(zE.1 (hnd.between h).1).2.2;rw[hcn,hat] at this;exact this
 have hm4:c.op=4→s.cols[i].opt=true:=fun h=>by
  have:=(hnd.miss h).2;rw[hcn,hat] at this;exact this
 have hPd:∀ L,qQ s i=L→∀ j k,decP s c lev j k=!((qK s c.col lev (L.getD j 0)==qK s c.col lev (L.getD k 0))&&!(QT s c (L.getD j 0)==QT s c (L.getD k 0))):=fun L hL j k=>by rw[decP,hcn,hL]
 have hlv:qQ s i=atL (qJ s i) (zh (qJ s i)-1):=rfl;rw[hD];rw[hcl] at hcd hco hlv;refine qd qn6 mixm (by simp) fun e _ hst=>qg ?_;unfold wv;simp only[tZ,↓un_u,simprocAttr,hcn,qe hil];have hmw:s.cols[i].kind=3→1≤s.cols[i].widths.length:=fun h=>by
  have:=(za (hok.cs i hil)).2.2.2.2 (by rw[hat];exact h);rw[hat] at this;unfold measE at this
  grind
 generalize s.cols[i]=x at hmw hwd hfin hll hk2 hk3 hm4 hcd hcd2 hco hlv ⊢
 simp only[tZ,↓un_u,simprocAttr,AY,Ak];refine⟨by omega,fun h2=>?_,fun h2=>?_⟩
 ·rw[Aj h2];obtain⟨d1,d2⟩:=hcd (hk2 h2);obtain⟨d3,d4⟩:=hcd2 (hk2 h2);have hco:=hco (hk2 h2);have hll:=hll (hk2 h2);have hPd:=hPd _ rfl;rw[qh d1] at d2 hco hlv;rw[hlv] at hco hll hPd ⊢
  have hAt:=qh5 s hok c hnd ha;simp only[tZ,↓un_u,simprocAttr,qe d1];refine⟨by omega,?_⟩;generalize s.lists[x.list.toNat]=l at d2 hco hll hPd ⊢
  have hlvl:=qo5 (l:=l);have hw2:IntKind.i64.wrap (zh l-1)=zh l-1:=AK _ (by omega);refine C1.im (ZZ l) (by rfl) (by rfl) ?_;simp only[tZ,↓un_u,simprocAttr,hw2];refine C1.im (qr8 l (zh l-1)) (by rfl) (by rfl) ?_;refine sW ?_
  repeat (first | refine⟨by omega,?_⟩ | refine⟨by kernel_rfl,?_⟩)
  generalize atL l (zh l-1)=L at hco hll hPd ⊢
  refine qu mixm (α:=Nat×List (Int×Int)) [41] (fun y=>y.1≤L.length∧qA5 y.1 (decP s c lev)=true∧(∀ a,a<y.1→TL.look TL.eqI (upC l (L.getD a 0) lev) y.2=some (QT s c (L.getD a 0)))∧∀ k v,TL.look TL.eqI k y.2=some v→∃ a,a<y.1∧upC l (L.getD a 0) lev=k∧QT s c (L.getD a 0)=v) (fun y=>[(41,vI y.1)]) (fun y=>[(4096,.arr 2 [schT s] false),(4100,.arr 6 [cnT c] false),(16408,.arr 2 [cdlT l] false),(20480,.mp (.ii y.2))]) (fun y=>L.length-y.1) (0,[]) ⟨by simp,rfl,by simp,by simp [TL.look]⟩ ?_ fun y hy=>?_
  ·exact .oA [(4096,some 4096),(4100,some 4100),(16408,some 16408),(20480,some 20480)] []
  obtain⟨j,M⟩:=y;obtain⟨y1,y2,y3,y4⟩:=hy;dsimp only at y1 y2 y3 y4;refine sD ?_;refine⟨fun h3=>?_,fun h3=>?_⟩
  ·have hj2:j<L.length:=by omega
   have hwj:=qj (i:=j) (by omega);have hgj:L.getD j 0=L[j]:=qh hj2;have hP:∀ a,a<j→decP s c lev j a=!((upC l L[j] lev==upC l (L.getD a 0) lev)&&!(QT s c L[j]==QT s c (L.getD a 0))):=fun a ha=>by
    rw[hPd,hgj,hco L[j] (AX hj2),hco (L.getD a 0) (by rw[qh (show a<L.length by omega)];exact AX _)]
   have hlk:=qK5;simp only[tZ,↓un_u,simprocAttr,Ax,qe hj2];refine⟨by omega,?_⟩;refine C1.im (qb3 l L[j] lev) (by rfl) (by rfl) ?_;refine sW ?_;refine C1.im (hAt L[j]) (by rfl) (by rfl) ?_;refine sW ?_
   repeat (first | refine⟨by omega,?_⟩ | refine⟨by kernel_rfl,?_⟩)
   have hfin:∀ v,(∀ w,TL.look TL.eqI (upC l L[j] lev) M=some w→w=QT s c L[j])→v=QT s c L[j]→(j+1≤L.length∧qA5 (j+1) (decP s c lev)=true∧(∀ a,a<j+1→TL.look TL.eqI (upC l (L.getD a 0) lev) (TL.asg TL.eqI (upC l L[j] lev) v M)=some (QT s c (L.getD a 0)))∧∀ k w,TL.look TL.eqI k (TL.asg TL.eqI (upC l L[j] lev) v M)=some w→∃ a,a<j+1∧upC l (L.getD a 0) lev=k∧QT s c (L.getD a 0)=w):=fun v hv e=>by
    subst e;have hsame:∀ a,a<j→upC l (L.getD a 0) lev=upC l L[j] lev→QT s c (L.getD a 0)=QT s c L[j]:=fun a ha he=>by
     have:=y3 a ha;rw[he] at this;exact hv _ this
    refine⟨by omega,?_,fun a h5=>?_,fun k w h5=>?_⟩
    ·rw[qP2,y2,Fq,Bk];intro a ha;rw[Dk] at ha;rw[hP a ha];by_cases q:upC l (L.getD a 0) lev=upC l L[j] lev
     ·rw[hsame a ha q];simp
     ·rw[Ak.2 (fun e=>q e.symm)];rfl
    ·rw[qK5];by_cases q:a=j
     ·subst q;rw[hgj,Aj rfl]
     ·split
      ·rename_i q2;rw[hsame a (by omega) q2]
      ·exact y3 a (by omega)
    ·rw[qK5] at h5;split at h5
     ·rename_i q;exact⟨j,by omega,by rw[hgj,q],by rw[hgj];simpa using h5⟩
     ·obtain⟨a,a1,a2,a3⟩:=y4 k w h5;exact⟨a,by omega,a2,a3⟩
   cases hf:TL.look TL.eqI (upC l L[j] lev) M with
   | none=>
     simp only[tZ,↓un_u,simprocAttr,hf,Option.isSome_none,hwj];refine⟨fun h=>by simp at h,fun _=>⟨(j+1,_),hfin _ (fun w h=>by rw[hf] at h;cases h) rfl,by dsimp only;omega,?_⟩⟩;exact .oA [(4096,some 4096),(4100,some 4100),(16408,some 16408),(20480,some 20480)] []
   | some w=>
     simp only[tZ,↓un_u,simprocAttr,hf,Option.isSome_some,Option.getD_some,Bj,Aw,hwj];refine⟨fun h5=>?_,fun h5=>?_⟩
     ·obtain⟨a,a1,a2,a3⟩:=y4 _ _ hf;rw[zE4 hj2 a1 (by rw[hP a a1,a2,a3,beq_self_eq_true,Ak.2 (fun e=>h5 e.symm)];rfl)];exact .oA [] []
     ·refine⟨(j+1,_),hfin _ (fun w' h=>by rw[hf] at h;cases h;exact h5) rfl,by dsimp only;omega,?_⟩;exact .oA [(4096,some 4096),(4100,some 4100),(16408,some 16408),(20480,some 20480)] []
  ·have hjl:j=L.length:=by omega
   subst hjl;rw[y2];exact .oA [] []
 rw[Aq h2];by_cases h4:c.op=4
 ·rw[Aj h4];have ho:=hm4 h4;by_cases hz:lev=0
  ·subst hz;simp only[tZ,↓un_u,simprocAttr,ho];exact .oA [] []
  ·have e0:((lev:Int)==0)=false:=Ak.2 (by omega);simp only[tZ,↓un_u,simprocAttr,e0,AY,Ak];rw[Cx (show 0<lev by omega)];refine⟨fun h=>by simp at h,fun _=>⟨fun _=>?_,fun h=>absurd h4 h⟩⟩;exact .oA [] []
 rw[Aq h4];have h3:c.op=3:=by
  unfold isAt at ha;simp only[DZ,AY] at ha;omega
 have hk3:=hk3 h3;have hb:=hnd.between h3;rw[Aq (by omega)] at hfin;have q4:(c.op==4)=false:=Ak.2 h4;have hxw:=hmw hk3;obtain⟨_,_,_,x4,x5,x6,x7,_⟩:=hwd (by omega) 1 (by omega);by_cases hz:lev=0
 ·subst hz;simp only[tZ,↓un_u,simprocAttr,zV3,jK4,tD];refine⟨fun h=>?_,fun h=>⟨fun k=>absurd k h4,fun _=>?_⟩⟩
  ·rw[h];exact .oA [] []
  ·rw[h]
   repeat (first | refine⟨by omega,?_⟩ | refine⟨by kernel_rfl,?_⟩)
   refine⟨fun h5=>?_,fun h5=>?_⟩
   ·rw[show (!false&&!(decide (x.low<c.lo)&&decide (c.lo≤x.high))&&!(decide (x.low≤c.hi)&&decide (c.hi<x.high)))=true by grind];exact .oA [] []
   ·rw[show (!false&&!(decide (x.low<c.lo)&&decide (c.lo≤x.high))&&!(decide (x.low≤c.hi)&&decide (c.hi<x.high)))=((max c.lo x.low==x.low)&&(min c.hi x.high==x.high)) by grind];exact .oA [] []
 have e0:((lev:Int)==0)=false:=Ak.2 (by omega);rw[Aq hz];obtain⟨w1,w2,_⟩:=hwd (by omega) lev (by omega);simp only[tZ,↓un_u,simprocAttr,e0,zV3,jK4,tD];refine fun _=>⟨fun k=>absurd k h4,fun _=>?_⟩
 repeat (first | refine⟨by omega,?_⟩ | refine⟨by kernel_rfl,?_⟩)
 refine⟨fun h5=>?_,fun h5=>?_⟩
 ·rw[show ((!(decide (x.low<c.lo)&&decide (c.lo≤x.high))||(c.lo.tmod (qD x lev)==0))&&(!(decide (x.low≤c.hi)&&decide (c.hi<x.high))||((c.hi+1).tmod (qD x lev)==0)))=true by grind];exact .oA [] []
 refine⟨fun h=>by omega,fun _=>?_⟩;refine C1.im (qQ5 x lev (by omega) (by omega)) (by rfl) (by rfl) ?_;generalize qD x lev=w at w1 w2 ⊢
 have hF:((!(decide (x.low<c.lo)&&decide (c.lo≤x.high))||(c.lo.tmod w==0))&&(!(decide (x.low≤c.hi)&&decide (c.hi<x.high))||((c.hi+1).tmod w==0)))=(((max c.lo x.low==x.low)||(qG (max c.lo x.low) w*w==max c.lo x.low))&&((min c.hi x.high==x.high)||(qG (min c.hi x.high+1) w*w==min c.hi x.high+1))):=by
  rw[zV5 (by omega),zV5 (by omega)]
  congr 1
  ·by_cases k:x.low<c.lo
   ·rw[show max c.lo x.low=c.lo by omega,Cx k,Cx (show c.lo≤x.high by omega),Ak.2 (show c.lo≠x.low by omega)]
    rfl
   ·rw[show max c.lo x.low=x.low by omega,Cq k,beq_self_eq_true];simp
  ·by_cases k:c.hi<x.high
   ·rw[show min c.hi x.high=c.hi by omega,Cx k,Cx (show x.low≤c.hi by omega),Ak.2 (show c.hi≠x.high by omega)]
    rfl
   ·rw[show min c.hi x.high=x.high by omega,Cq k,beq_self_eq_true];simp
 rw[hF];have hwm:IntKind.i64.wrap (min c.hi x.high+1)=min c.hi x.high+1:=AK _ (by omega);refine sW ?_;refine C2.im (fun _=>qh6 (max c.lo x.low) w (by omega) (by omega)) (fun _=>rfl) (by rfl) ?_;simp only[tZ,↓un_u,simprocAttr,hwm];refine C2.im (fun _=>qh6 (min c.hi x.high+1) w (by omega) (by omega)) (fun _=>rfl) (by rfl) ?_;simp only[tZ,↓un_u,simprocAttr,hwm]
 repeat (first | refine⟨by omega,?_⟩ | refine⟨by kernel_rfl,?_⟩)
 exact .oA [] []
end Go.Proofs
namespace Go.Proofs
open Go Go.TL
set_option maxRecDepth 4000
set_option maxHeartbeats 8000000
def canF (f:Nat→Int):Nat→List Pk
 | 0=>[]
 | n+1=>canF f n++(if 0<f n then [⟨n,f n⟩] else [])
theorem qb4 {f g:Nat→Int}:∀ {n:Nat},(∀ k,k<n→f k=g k)→canF f n=canF g n
 | 0,_=>rfl
 | n+1,h=>by rw[canF,canF,qb4 fun k hk=>h k (by omega),h n (by omega)]
theorem zH2 (f:Nat→Int):∀ n,(canF f n).length≤n
 | 0=>BZ _
 | n+1=>by
   have:=zH2 f n;rw[canF,AW];split <;> simp <;> omega
theorem zj7 {f:Nat→Int}:∀ {n:Nat},(∀ k,k<n→f k≤0)→canF f n=[]
 | 0,_=>rfl
 | n+1,h=>by
   have:=h n (by omega);rw[canF,zj7 fun k hk=>h k (by omega),Aq (by omega)];rfl
theorem zV6 {f:Nat→Int} {n:Nat}:∀ d,(∀ k,n≤k→k<n+d→f k≤0)→canF f (n+d)=canF f n
 | 0,_=>rfl
 | d+1,h=>by
   have:=h (n+d) (by omega) (by omega);rw[show n+(d+1)=n+d+1 from rfl,canF,Aq (by omega),CW,zV6 d fun k h1 h2=>h k h1 (by omega)]
theorem Kv {f:Nat→Int} {p:Pk}:∀ {n:Nat},p∈canF f n↔∃ k,k<n∧0<f k∧p=⟨k,f k⟩
 | 0=>by simp [canF]
 | n+1=>by
   rw[canF,Dz,Kv];constructor
   ·rintro (⟨k,h1,h2,h3⟩ | h)
    ·exact⟨k,by omega,h2,h3⟩
    ·split at h
     ·rename_i h2;exact⟨n,by omega,h2,by simpa using h⟩
     ·simp at h
   ·rintro ⟨k,h1,h2,h3⟩;by_cases e:k=n
    ·subst e;right;rw[Aj h2];simpa using h3
    ·exact .inl ⟨k,by omega,h2,h3⟩
def upd (f:Nat→Int) (c:Nat) (v:Int):Nat→Int:=fun k=>if k=c then max (f k) v else f k
theorem zx2 {f:Nat→Int} (hf:∀ k,0≤f k) (c:Nat) (v:Int):∀ m,∀ x,(canF f m).foldl (qj1 c v) ([],decide (v≤0))=x→
 (m≤c→x.2=decide (v≤0))∧(x.2=true→x.1=canF (upd f c v) m)∧(x.2=false→0<v∧x.1++(if c<m then [⟨c,v⟩] else [])=canF (upd f c v) m)
 | 0,x,h=>by
   subst h;refine⟨fun _=>rfl,fun _=>rfl,fun h=>⟨?_,by rw[Aq (by omega)];rfl⟩⟩;have:=of_decide_eq_false h;omega
 | m+1,x,h=>by
   rw[canF,Gx] at h;obtain⟨i1,i2,i3⟩:=zx2 hf c v m _ rfl;generalize (canF f m).foldl (qj1 c v) ([],decide (v≤0))=y at h i1 i2 i3;obtain⟨l,b⟩:=y;dsimp only at i1 i2 i3;have hm:=hf m;by_cases h0:0<f m
   ·rw[Aj h0,Dw,List.foldl_nil] at h;unfold qj1 at h;dsimp only at h;rcases Nat.lt_trichotomy m c with q | q | q
    ·rw[Aq (by omega),Aq (by omega)] at h;subst h;have hu:upd f c v m=f m:=by rw[upd,Aq (by omega)]
     refine⟨fun _=>i1 (by omega),fun e=>?_,fun e=>⟨(i3 e).1,?_⟩⟩
     ·dsimp only at e ⊢
      rw[i2 e,canF,hu,Aj h0]
     ·dsimp only at e ⊢
      have:=(i3 e).2;rw[Aq (by omega),CW] at this;rw[Aq (by omega),CW,this,canF,hu,Aj h0]
    ·subst q;rw[Aj rfl,Aq (show ¬ ((m:Int)>m∧b=false) from fun h=>by omega)] at h;subst h;have hu:upd f m v m=max (f m) v:=by rw[upd,Aj rfl]
     refine⟨fun e=>by omega,fun _=>?_,fun e=>by simp at e⟩;dsimp only;have:l=canF (upd f m v) m:=by
      cases b with
      | true=>exact i2 rfl
      | false=>
        have:=(i3 rfl).2;rw[Aq (by omega),CW] at this;exact this
     rw[this,canF,hu,Aj (by omega)]
    ·have hu:upd f c v m=f m:=by rw[upd,Aq (by omega)]
     have hc:((m:Int)>(c:Int)):=by omega
     cases b with
     | true=>
       rw[Aq (show ¬ ((m:Int)=c) by omega),Aq (show ¬ ((m:Int)>c∧true=false) from fun h=>by simp at h)] at h;subst h;refine⟨fun e=>by omega,fun _=>?_,fun e=>by simp at e⟩;dsimp only;rw[i2 rfl,canF,hu,Aj h0]
     | false=>
       rw[Aq (show ¬ ((m:Int)=c) by omega),Aj ⟨hc,rfl⟩] at h;subst h;refine⟨fun e=>by omega,fun _=>?_,fun e=>by simp at e⟩;dsimp only;have:=(i3 rfl).2;rw[Aj q] at this;rw[this,canF,hu,Aj h0]
   ·rw[Aq h0,List.foldl_nil] at h;subst h;dsimp only;have f0:f m=0:=by omega
    by_cases q:m=c
    ·subst q;have hu:upd f m v m=max 0 v:=by rw[upd,Aj rfl,f0]
     refine⟨fun e=>by omega,fun e=>?_,fun e=>⟨(i3 e).1,?_⟩⟩
     ·have hv:v≤0:=by
       have:=i1 (BZ _);rw[e] at this;exact of_decide_eq_true this.symm
      rw[i2 e,canF,hu,Aq (by omega),CW]
     ·have:=(i3 e).2;rw[Aq (by omega),CW] at this;have hv:=(i3 e).1;rw[this,canF,hu,Aj (by omega),Aj (by omega),show max 0 v=v by omega]
    ·have hu:upd f c v m=f m:=by rw[upd,Aq q]
     refine⟨fun e=>i1 (by omega),fun e=>?_,fun e=>⟨(i3 e).1,?_⟩⟩
     ·rw[i2 e,canF,hu,Aq h0,CW]
     ·have:=(i3 e).2;rw[canF,hu,Aq h0,CW,← this];by_cases q2:c<m
      ·rw[Aj q2,Aj (by omega)]
      ·rw[Aq q2,Aq (by omega)]
theorem zx3 {f:Nat→Int} (hf:∀ k,0≤f k) {c n:Nat} (hc:c<n) (v:Int):Kr (canF f n) c v=canF (upd f c v) n:=by
 obtain⟨_,i2,i3⟩:=zx2 hf c v n _ rfl;unfold Kr;dsimp only;split
 ·rename_i h;exact i2 h
 ·rename_i h;have:=(i3 (by simpa using h)).2;rw[Aj hc] at this;exact this
abbrev lvF (lv:List Int):Nat→Int:=fun k=>lv.getD k 0
theorem kh3 {lv:List Int} {c:Nat} (hc:c<lv.length) (v:Int):lvF (lv.set c (max lv[c] v))=upd (lvF lv) c v:=by
 funext k
 unfold lvF upd;simp only[CY,List.getElem?_set];by_cases e:c=k
 ·subst e;simp [hc]
 ·rw[Aq e,Aq (fun h=>e h.symm)]
theorem kh4 {lv:List Int} (h:∀ x∈lv,0≤x) (k:Nat):0≤lvF lv k:=by
 unfold lvF;by_cases hk:k<lv.length
 ·rw[qh hk];exact h _ (AX hk)
 ·simp [List.getD,List.getElem?_eq_none (show lv.length≤k by omega)]
theorem jV6 (n:Nat):canF (lvF (List.replicate n 0)) n=[]:=zj7 fun k hk=>by
 unfold lvF;rw[qh (by simpa using hk),List.getElem_replicate];omega
theorem qQ6 (s:Sch) (hs:yg s) (c:Cnd):Spc Tryz.prog Zr [schT s,cnT c] [] (vPs (jg s c)) []:=by
 refine qd qF6 mixm (by simp) fun e _ hst=>qg ?_;unfold QJ;refine sW ?_;refine C1.im (kg s hs c) (by rfl) (by rfl) ?_;simp only[tZ,↓un_u,simprocAttr,Bj,Aw];refine⟨fun h=>?_,fun h=>?_⟩
 ·rw[jg,Aj h];exact .oA [] []
 obtain⟨hE,k2,k3,k4⟩:=qo9 h;have hok:=qR hE;have hnc:=hok.nc;have hal:=zi1 c 41 (by omega) k2;have hao:=jm5 c k4;have hN:jg s c=(atsC c).foldl (qX5 s) []:=by rw[jg,Aq (by rw[h];simp)];rfl
 rw[hN];refine⟨by omega,?_⟩;refine C1.im (qQ4 c 41 (by omega) (by omega) k2) (by rfl) (by rfl) ?_;generalize atsC c=L at hal hao ⊢
 refine sW ?_;refine qu mixm (α:=Nat×List Int) [23] (fun y=>y.1≤L.length∧y.2.length=s.cols.length∧(∀ x∈y.2,0≤x)∧canF (lvF y.2) s.cols.length=(L.take y.1).foldl (qX5 s) []) (fun y=>[(23,vI y.1)]) (fun y=>[(4096,.arr 2 [schT s] false),(16396,.arr 1 (y.2.map vI) false)]) (fun y=>L.length-y.1) (0,List.replicate s.cols.length 0) ⟨by simp,by simp,fun x hx=>by rw[(List.mem_replicate.1 hx).2];omega,jV6 _⟩ ?_ fun y hy=>?_
 ·rw[List.map_replicate];refine .of [(4096,some 4096),(16396,some 16396)] [] rfl (by first | rfl | (rw[hst];rfl)) ?_ ?_
  all_goals (try simp only[tL,simprocAttr,By,List.map_cons,List.map_nil,BW,Cy,Ax,kc0])
  all_goals (try (repeat' (first | exact zb | (apply zy;intro _;exact⟨rfl,rfl⟩) | (apply qE;intro _;exact⟨rfl,rfl⟩) | with_reducible apply qW | with_reducible refine qS ⟨rfl,rfl⟩ ?_ | exact qY | with_reducible apply qT | with_reducible refine qV ⟨rfl,rfl,?_⟩ ?_ | with_reducible apply Az | exact qU rfl | exact qU (by assumption) | (refine⟨⟨?_,rfl,?_,rfl,?_⟩,trivial⟩ <;> first | (simp;done) | (apply qE;intro _;exact⟨rfl,rfl⟩)) | trivial | rfl | (rw[qj (by omega)]) | omega)))
 obtain⟨i,lv⟩:=y;obtain⟨y1,y2,y3,y4⟩:=hy;dsimp only at y1 y2 y3 y4;refine sD ?_;refine⟨fun h3=>?_,fun h3=>?_⟩
 ·have hi2:i<L.length:=by omega
  have hwi:=qj (i:=i) (by omega);obtain⟨hnd,ha⟩:=hao _ (AX hi2);obtain⟨n1,n2,n3⟩:=qI4 hE hnd ha;have h59:=qo8 (c:=L[i].col) hE;obtain⟨_,c1,c2,_⟩:=yT (s:=s) (c:=L[i].col) (by omega);have hstep:(L.take (i+1)).foldl (qX5 s) []=Kr ((L.take i).foldl (qX5 s) []) L[i].col (decN s L[i]):=by
   rw[qH hi2,Gx];rfl
  simp only[tZ,↓un_u,simprocAttr,Ax,qe hi2,zp];refine⟨by omega,?_⟩;generalize L[i]=a at hnd ha n1 n2 n3 h59 c1 c2 hstep ⊢
  refine qu mixm (α:=Nat) [8] (fun n=>n≤decN s a) (fun n=>[(8,vI n)]) (fun n=>[(4096,.arr 2 [schT s] false),(16396,.arr 1 (lv.map vI) false),(28680,.arr 6 [cnT a] false)]) (fun n=>decN s a-n) 0 (by omega) ?_ fun n hn=>?_
  ·exact .oA [(4096,some 4096),(16396,some 16396),(28680,some 28680)] []
  have hwn:=qj (i:=n) (by omega);refine sW ?_;refine C1.im (qv0 s hE a hnd ha n (by omega)) (by rfl) (by rfl) ?_;simp only[tZ,↓un_u,simprocAttr,Bx,Bz,hwn];refine⟨fun h4=>?_,fun h4=>?_⟩
  ·have:n≠decN s a:=fun e=>by rw[e,n2] at h4;cases h4
   refine⟨n+1,by omega,by omega,?_⟩;exact .oA [(4096,some 4096),(16396,some 16396),(28680,some 28680)] []
  ·have:n=decN s a:=by
    refine Nat.le_antisymm hn (Nat.le_of_not_lt fun e=>?_);rw[n3 n e] at h4;cases h4
   subst this;obtain⟨q,hq⟩:=AJ (show 0≤a.col by omega);have hq2:q<lv.length:=by omega
   simp only[tZ,↓un_u,simprocAttr,hq,Ax,qe hq2,zV3,hwi,show ∀ a b:Int,repl (vI a) 0 (vI b)=vI b from fun _ _=>rfl]
   repeat (first | refine⟨by omega,?_⟩ | refine⟨by kernel_rfl,?_⟩)
   refine⟨(i+1,lv.set q (max lv[q] (decN s a))),⟨by dsimp only;omega,by rw[Fw];exact y2,fun x hx=>?_,?_⟩,by dsimp only;omega,?_⟩
   ·rcases List.mem_or_eq_of_mem_set hx with h5 | h5
    ·exact y3 x h5
    ·rw[h5];omega
   ·dsimp only;rw[hstep,← y4,hq,zx3 (kh4 y3) (by omega),kh3 hq2]
   ·rw[← List.map_set];exact .oA [(4096,some 4096),(16396,some 16396)] []
 ·have hil:i=L.length:=by omega
  subst hil;rw[Bw] at y4;rw[← y4];simp only[Ax];refine⟨y2,?_⟩;rw[← y2];refine qu mixm (α:=Nat) [48,9] (fun i=>i≤lv.length) (fun i=>[(9,.asl 1 (canF (lvF lv) i).length),(48,vI i)]) (fun i=>[(16396,.arr 1 (lv.map vI) false),(1,.arr 2 ((canF (lvF lv) i).map pkT) false)]) (fun i=>lv.length-i) 0 (by omega) ?_ fun j hj=>?_
  ·exact .oA [(16396,some 16396),(1,none)] []
  have hcl:=zH2 (lvF lv) j;refine sD ?_;refine⟨fun h5=>?_,fun h5=>?_⟩
  ·have hj2:j<lv.length:=by omega
   have hwj:=qj (i:=j) (by omega);have hg:lvF lv j=lv[j]:=qh hj2;have hc:canF (lvF lv) (j+1)=canF (lvF lv) j++(if 0<lv[j] then [⟨(j:Nat),lv[j]⟩] else []):=by rw[canF,hg]
   simp only[tZ,↓un_u,simprocAttr,Ax,qe hj2,hwj,gt_iff_lt,tD];refine⟨by omega,by omega,fun h6=>?_,fun h6=>?_⟩
   ·rw[Aj h6] at hc;refine⟨by omega,j+1,by omega,by omega,?_⟩;rw[hc,By,AW];exact .oA [(16396,some 16396),(1,some 1)] []
   ·rw[Aq h6,CW] at hc;refine⟨j+1,by omega,by omega,?_⟩;rw[hc];exact .oA [(16396,some 16396),(1,some 1)] []
  ·rw[show lv.length=j by omega];exact .oA [] [1]
theorem qj4 (p n:Pk):Spc Tryz.prog jr [pkT p,.ip (pkT n).cells] [] (vB ((p.col==n.col)&&decide (p.lev≥n.lev))) []:=by
 refine qd qf3 mixm (by simp) fun e _ hst=>qg ?_;unfold kD;refine sW ?_;exact .oA [] []
theorem Za (p:Pk→Bool) (f:FuncId) (caps:List T) (hcap:imL caps=true) (l:List Pk) (hf:∀ y∈l,Spc Tryz.prog f (pkT y::caps) [] (vB (p y)) []) (hl:l.length<4611686018427387904) :
 Spc Tryz.prog zS [.sl 2 (l.map pkT),.clo f caps] [] (vI (idxI p l)) []:=by
 refine qd qa0 mixm (by simp) fun e _ hst=>qg ?_;unfold jX;refine sW ?_;refine qu mixm (α:=Nat) [8] (fun i=>i≤l.length∧((l.take i).any p=false)) (fun i=>[(8,vI i)]) (fun i=>[]) (fun i=>l.length-i) 0 ⟨by omega,?_⟩ ?_ fun i hi=>?_
 ·simp
 ·exact .oA [] []
 simp only[tZ,↓un_u,simprocAttr,AZ,Ay];refine⟨fun h=>?_,fun h=>?_⟩
 ·have hi2:i<l.length:=by omega
  have hwi:=qj (i:=i) (by omega);simp only[tZ,↓un_u,simprocAttr,Ax,qe hi2,hwi,qw9];refine⟨by omega,?_⟩;refine C1.im (hf l[i] (AX hi2)) (YW rfl hcap) rfl ?_;refine sW ?_;refine⟨fun h3=>?_,fun h3=>⟨i+1,⟨by omega,ki hi2 hi.2 h3⟩,by omega,?_⟩⟩
  ·rw[idxI,Aj (zw2 hi2 h3),yX hi2 hi.2 h3];exact .imR rfl rfl
  ·exact .oA [] []
 ·have h2:i=l.length:=by omega
  have h3:=hi.2;rw[h2,Bw] at h3;rw[idxI,Aq (by rw[h3];simp)];exact .imR rfl rfl
theorem jx (p:Pk→Bool) (f:FuncId) (caps:List T) (hcap:imL caps=true) (l:List Pk) (hf:∀ y∈l,Spc Tryz.prog f (pkT y::caps) [] (vB (p y)) []) (hl:l.length<4611686018427387904) :
 Spc Tryz.prog zi [.sl 2 (l.map pkT),.clo f caps] [] (vB (l.any p)) []:=by
 refine qd Wb mixm (by simp) fun e _ hst=>qg ?_;unfold jm;refine sW ?_;refine C1.im (Za p f caps hcap l hf hl) (ZU rfl hcap) rfl ?_;refine sW ?_;rw[show decide (idxI p l≥0)=l.any p from zd4 p l];exact .imR rfl rfl
theorem qv1 (n:Pk) (a:List Pk) (ha:a.length<4611686018427387904):Spc Tryz.prog jR [pkT n,.ip [vPs a]] [] (vB (!(a.any fun y=>(y.col==n.col)&&decide (y.lev≥n.lev)))) []:=by
 refine qd qm9 mixm (by simp) fun e _ hst=>qg ?_;unfold wq;refine sW ?_;have hCF:=jx (fun y=>(y.col==n.col)&&decide (y.lev≥n.lev)) jr [.ip (pkT n).cells] rfl a (fun y _=>qj4 y n) ha;refine C1.lend [4096] hCF ?_ (by rfl) (by rfl) ?_
 ·all_goals (try simp only[tL,simprocAttr,By,List.map_cons,List.map_nil,BW,Cy])
  all_goals (try (repeat' (first | exact zb | (apply zy;intro _;exact⟨rfl,rfl⟩) | (apply qE;intro _;exact⟨rfl,rfl⟩) | with_reducible apply qW | with_reducible refine qS ⟨rfl,rfl⟩ ?_ | exact qY | with_reducible apply qT | with_reducible refine qV ⟨rfl,rfl,?_⟩ ?_ | with_reducible apply Az | exact qU rfl | exact qU (by assumption) | (refine⟨⟨?_,rfl,?_,rfl,?_⟩,trivial⟩ <;> first | (simp;done) | (apply qE;intro _;exact⟨rfl,rfl⟩)) | trivial | rfl | (rw[qj (by omega)]) | omega)))
  simp only[ltP];exact⟨rfl,by decide,rfl,qS ⟨rfl,rfl⟩ qY⟩
 refine sW ?_;exact .oA [] []
theorem qK6 (a b:List Pk) (ha:a.length<4611686018427387904) (hb:b.length<4611686018427387904):Spc Tryz.prog Qm [vPs a,vPs b] [] (vB (covB b a)) []:=by
 refine qd qy1 mixm (by simp) fun e _ hst=>qg ?_;unfold yJ;refine sW ?_;have hCF:=jx (fun n=>!(a.any fun y=>(y.col==n.col)&&decide (y.lev≥n.lev))) jR [.ip [vPs a]] rfl b (fun n _=>qv1 n a ha) hb;refine C1.lend [4096] hCF ?_ (by rfl) (by rfl) ?_
 ·all_goals (try simp only[tL,simprocAttr,By,List.map_cons,List.map_nil,BW,Cy])
  all_goals (try (repeat' (first | exact zb | (apply zy;intro _;exact⟨rfl,rfl⟩) | (apply qE;intro _;exact⟨rfl,rfl⟩) | with_reducible apply qW | with_reducible refine qS ⟨rfl,rfl⟩ ?_ | exact qY | with_reducible apply qT | with_reducible refine qV ⟨rfl,rfl,?_⟩ ?_ | with_reducible apply Az | exact qU rfl | exact qU (by assumption) | (refine⟨⟨?_,rfl,?_,rfl,?_⟩,trivial⟩ <;> first | (simp;done) | (apply qE;intro _;exact⟨rfl,rfl⟩)) | trivial | rfl | (rw[qj (by omega)]) | omega)))
  simp only[ltP];exact⟨rfl,by decide,rfl,qS ⟨rfl,rfl⟩ qY⟩
 refine sW ?_;rw[show (!(b.any fun n=>!(a.any fun y=>(y.col==n.col)&&decide (y.lev≥n.lev))))=covB b a by rw[covB,List.not_any_eq_all_not];simp];exact .oA [] []
end Go.Proofs
