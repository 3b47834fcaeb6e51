/- A part of the proof: trees of Go values, short forms, contracts. -/
import Derived.Test.YtnfagfikoblhfaaGreatDoorK19
namespace Go.Proofs
open Go Go.TL
set_option maxRecDepth 4000
set_option maxHeartbeats 8000000
theorem jK1 {ws:List Int} (hw:∀ j,j<ws.length→wdOk ws j=true) {i:Nat}:∀ d,i+d<ws.length→∃ k:Int,1≤k∧ws.getD (i+d) 0=k*ws.getD i 0∧(0<d→2≤k)
 | 0,h=>⟨1,oM,sMp,oM⟩
 | d+1,h=>by
   obtain⟨k,k1,k2,_⟩:=jK1 hw d (i:=i) oM;have h1:=hw (i+d+1) oM;rw[wdOk,Aq oM] at h1;simp only[Bq,AZ,AY,Nat.add_sub_cancel] at h1;have hp:=zA5 (ws:=ws) hw (i+d) oM;obtain⟨⟨a1,a2⟩,a3⟩:=h1;have h2:=Int.mul_tdiv_add_tmod (ws.getD (i+d+1) 0) (ws.getD (i+d) 0);rw[a3,Int.add_zero] at h2;generalize (ws.getD (i+d+1) 0).tdiv (ws.getD (i+d) 0)=q at h2;have hq:2≤q:=AQ fun c=>by
    have:ws.getD (i+d) 0*q≤ws.getD (i+d) 0*1:=Int.mul_le_mul_of_nonneg_left oM oM;omega
   have hkq:2*1≤q*k:=Int.mul_le_mul hq k1 oM oM;refine⟨q*k,oM,?_,fun _=>by omega⟩;rw[show i+(d+1)=i+d+1 from rfl,← h2,k2,Int.mul_assoc,Int.mul_comm q k,Int.mul_assoc,Int.mul_comm q]
theorem SchOk.wdv {s:Sch} (h:SchOk s) {i:Nat} (hi:i<s.cols.length) (h0:0<i) (hk:(qg s i).kind≠2) {o lev:Nat} (ho:1≤o∧o<lev) (hl:lev≤(qg s i).widths.length):∃ k:Int,2≤k∧qK (qg s i) o=k*qK (qg s i) lev:=by
 have hk2:=zj (h.cs i hi);have hk3:(qg s i).kind=3:=by have:=hk2.2.2.1 h0;omega
 have hm:=hk2.2.2.2.2 hk3;generalize qg s i=c at hl hm hk3 ⊢
 unfold measE at hm;split at hm
 ·cases hm
 rename_i h1;split at hm
 ·cases hm
 rename_i h2;split at hm
 ·cases hm
 rename_i h3;rw[Ez] at h3;have hw:∀ j,j<c.widths.length→wdOk c.widths j=true:=fun j hj=>Bk.1 h3 j (Dk.2 hj);obtain⟨k,_,k2,k3⟩:=jK1 hw (i:=c.widths.length-lev) (lev-o) oM;refine⟨k,k3 oM,?_⟩;rw[qK,qK,show ((c.widths.length:Int)-o).toNat=c.widths.length-lev+(lev-o) by omega,show ((c.widths.length:Int)-lev).toNat=c.widths.length-lev by omega];exact k2
def blkI (s:Sch) (i lev:Nat):Int:=
 if (qg s i).kind=2 then ((lvN (qU s i).codes lev).length:Int)
 else if lev=0 then 1 else qJ (qg s i).high (qK (qg s i) lev)-qJ (qg s i).low (qK (qg s i) lev)+1+(if (qg s i).opt=true then 1 else 0)
theorem qw5 {n:Nat} {p:Nat→Nat→Bool}:qa3 n p=true↔∀ a,a<n→∀ b,b<a→p a b=true:=by
 unfold qa3;simp only[Bk,Dk]
theorem yk {s:Sch} (h:SchOk s) {i:Nat} (hi:i<s.cols.length) (h2:(qg s i).kind=2) {x:Int}:x∈qE s i↔∃ c:Nat,x=c∧c<(qU s i).codes.length∧(dep (qU s i).codes c:Int)=zy (qU s i)-1:=by
 obtain⟨_,d2⟩:=h.cdl hi h2;unfold qE atL;rw[Aq (by rw[d2];simp),Cj];constructor
 ·rintro ⟨c,hc,rfl⟩;rw[Fx,Dk,AY] at hc;exact⟨c,rfl,hc.1,hc.2⟩
 ·rintro ⟨c,rfl,h1,h3⟩;exact⟨c,Fx.2 ⟨Dk.2 h1,AY.2 h3⟩,rfl⟩
theorem kZ {s:Sch} (h:SchOk s) {i:Nat} (hi:i<s.cols.length) (h2:(qg s i).kind=2) {c v:Nat} (hc:c<(qU s i).codes.length) (hd:(dep (qU s i).codes c:Int)=zy (qU s i)-1) (hv:(v:Int)≤finI s i) (hf:finI s i=zy (qU s i)-1):qk s i v c=upN (qU s i).codes v c:=by
 obtain⟨_,d2⟩:=h.cdl hi h2;have hh:qT s i c=true:=by
  rw[qT,Aq oM,Aj h2,Bq,yi,AY,lvlC,Aq (not_or.2 ⟨fun h=>h d2,oM⟩),Ax];exact⟨oM,hd⟩
 rw[qk,Aq (by rw[Ez,yi];omega),Ax,Aj h2,Aq (by rw[hh];simp),upC,Aq (not_or.2 ⟨fun h=>h d2,by rw[Ax];omega⟩),Ax,Ax]
theorem zo7 {s:Sch} (hE:schE s=0) {i:Nat} (hi:i<s.cols.length) (h0:0<i) {o lev:Nat} (ho:o≤lev) (hl:(lev:Int)≤finI s i):blkI s i o≤blkI s i lev∧(divB s i o lev=true↔blkI s i o=blkI s i lev):=by
 have hok:=qV hE;by_cases e:o=lev
 ·subst e;exact⟨oM,by rw[zn2];simp⟩
 obtain⟨_,c1,c2,hfin⟩:=yc (s:=s) (c:=i) oM;rw[Ax] at hfin;by_cases h2:(qg s i).kind=2
 ·obtain⟨_,d2⟩:=hok.cdl hi h2;rw[Aj h2] at hfin;unfold blkI;rw[Aj h2,Aj h2];have hle:=jK0 d2 (o:=o) (v:=lev) oM oM;refine⟨oM,?_⟩;rw[show ((lvN (qU s i).codes o).length:Int)=((lvN (qU s i).codes lev).length:Int)↔(lvN (qU s i).codes o).length=(lvN (qU s i).codes lev).length by omega,jV6 d2 oM oM];unfold divB;rw[Aq oM,Aj h2,qw5];have hP:∀ j k,(qE s i).getD j 0∈qE s i→(qE s i).getD k 0∈qE s i→(divP s i (qE s i) o lev j k=true↔(qk s i o ((qE s i).getD j 0)=qk s i o ((qE s i).getD k 0)→qk s i lev ((qE s i).getD j 0)=qk s i lev ((qE s i).getD k 0))):=fun j k _ _=>by
   unfold divP;simp only[Bx,FK,Bz,AY,Ak];constructor
   ·rintro (h | h) k
    ·exact h
    ·exact absurd k h
   ·intro h;by_cases k:qk s i o ((qE s i).getD j 0)=qk s i o ((qE s i).getD k 0)
    ·exact .inl (h k)
    ·exact .inr k
  have hmem:∀ j,j<(qE s i).length→(qE s i).getD j 0∈qE s i:=fun j hj=>by rw[qj hj];exact AX hj
  obtain⟨hp,p1,p2⟩:=zm d2;constructor
  ·intro H a b ha hb da db hab;obtain⟨x,x1,x2,x3⟩:=jB1 d2 _ a rfl ha (zy (qU s i)-1).toNat oM oM;obtain⟨y,y1,y2,y3⟩:=jB1 d2 _ b rfl hb (zy (qU s i)-1).toNat oM oM;rw[da] at x3;rw[db] at y3;have hx:(x:Int)∈qE s i:=(yk hok hi h2).2 ⟨x,rfl,x1,oM⟩;have hy:(y:Int)∈qE s i:=(yk hok hi h2).2 ⟨y,rfl,y1,oM⟩;have ux:upN (qU s i).codes o x=upN (qU s i).codes o y:=by
    rw[← qU3 hp (o:=o) (v:=lev) oM x x1 oM,← qU3 hp (o:=o) (v:=lev) oM y y1 oM,x3,y3,hab]
   obtain⟨j,hj,ej⟩:=CX hx;obtain⟨k,hk,ek⟩:=CX hy;rw[← qj (d:=0) hj] at ej;rw[← qj (d:=0) hk] at ek;have cl:=fun c (hc:c<(qU s i).codes.length) (hd:(dep (qU s i).codes c:Int)=zy (qU s i)-1) (v:Nat) (hv:(v:Int)≤finI s i)=>kZ hok hi h2 (v:=v) hc hd hv hfin;have fin:qk s i lev x=qk s i lev y→a=b:=fun e=>by
    rw[cl x x1 oM lev hl,cl y y1 oM lev hl,x3,y3] at e;omega
   have eo:qk s i o x=qk s i o y:=by rw[cl x x1 oM o oM,cl y y1 oM o oM,ux]
   rcases Nat.lt_trichotomy j k with q | q | q
   ·have:=(hP k j (hmem k hk) (hmem j hj)).1 (H k hk j q);rw[ej,ek] at this;exact fin (this eo.symm).symm
   ·subst q;rw[ej] at ek;exact fin (by rw[ek])
   ·have:=(hP j k (hmem j hj) (hmem k hk)).1 (H j hj k q);rw[ej,ek] at this;exact fin (this eo)
  ·intro H j hj k hk;rw[hP j k (hmem j hj) (hmem k oM)];obtain⟨x,x0,x1,x2⟩:=(yk hok hi h2).1 (hmem j hj);obtain⟨y,y0,y1,y2⟩:=(yk hok hi h2).1 (hmem k oM);rw[x0,y0,kZ hok hi h2 x1 x2 oM hfin,kZ hok hi h2 y1 y2 oM hfin,kZ hok hi h2 x1 x2 hl hfin,kZ hok hi h2 y1 y2 hl hfin];intro e;have ux:=jq7 hp (v:=lev) x x1 oM;have uy:=jq7 hp (v:=lev) y y1 oM;have:=H (upN (qU s i).codes lev x) (upN (qU s i).codes lev y) oM oM ux.1 uy.1 (by
    rw[qU3 hp oM x x1 oM,qU3 hp oM y y1 oM];omega)
   rw[this]
 rw[Aq h2] at hfin;obtain⟨w1,w2,w3,w4,w5,w6,w7,_⟩:=hok.wid hi h0 h2 (lev:=lev) oM;unfold blkI divB;simp only[Aq h2,Aq (show ¬ lev=0 by omega),Aq (show ¬ (lev=0∨lev≤o) by omega)];obtain⟨m,hm⟩:=AJ (show 0≤(qg s i).high-(qg s i).low by omega);generalize hW:qK (qg s i) lev=w at w1 w2 ⊢
 have hab:=qU4 (a:=(qg s i).low) (k:=w) (m:=m) w1 oM;rw[show (qg s i).low+(m:Int)=(qg s i).high by omega] at hab;have f0:∀ c,c*w>(qg s i).high↔qJ (qg s i).high w<c:=fun c=>by
  have h3:=jV (v:=(qg s i).high) (w:=w) oM;constructor
  ·intro h;refine AQ fun z=>?_;have:c*w≤qJ (qg s i).high w*w:=Int.mul_le_mul_of_nonneg_right oM oM;omega
  ·intro h;have:(qJ (qg s i).high w+1)*w≤c*w:=Int.mul_le_mul_of_nonneg_right oM oM;rw[Int.add_mul] at this;omega
 by_cases o0:o=0
 ·simp only[Aj o0];cases (qg s i).opt
  ·simp only[Bool.not_false,Fj,AZ,f0,EX,if_false];omega
  ·simp only[Bool.not_true,Bool.false_and,if_true,EX,false_iff];omega
 simp only[Aq o0];obtain⟨k,k1,k2⟩:=hok.wdv hi h0 h2 (o:=o) (lev:=lev) oM oM;rw[hW] at k2;rw[k2,jB3 w1 oM,jB3 w1 oM];have f3:∀ x:Int,(x*w).tmod (k*w)=0↔k ∣ x:=fun x=>by
  constructor
  ·intro h;obtain⟨q,hq⟩:=Int.dvd_of_tmod_eq_zero h;exact⟨q,Int.eq_of_mul_eq_mul_right (show w≠0 by omega) (by rw[hq,Int.mul_assoc,Int.mul_assoc,Int.mul_comm w])⟩
  ·rintro ⟨q,rfl⟩;rw[Int.mul_assoc,Int.mul_comm q,← Int.mul_assoc,Int.mul_tmod_right]
 have f2:(qJ (qg s i).low w+1)*w+w=(qJ (qg s i).low w+1+1)*w:=by rw[Int.add_mul (_+1) 1,Int.one_mul]
 have hD:divM (qg s i).high w (k*w) 2 ((qJ (qg s i).low w+1)*w)=true↔qJ (qg s i).high w<qJ (qg s i).low w+1∨(k ∣ qJ (qg s i).low w+1∧(qJ (qg s i).high w<qJ (qg s i).low w+1+1∨k ∣ qJ (qg s i).low w+1+1)):=by
  rw[divM,divM,divM,f2];simp only[f0,ne_eq,f3];split
  ·rename_i h;simp only[h,true_or,iff_true]
  ·rename_i h;split
   ·rename_i h4;simp only[h,h4,false_and,or_self,EX]
   ·rename_i h4;rw[Classical.not_not] at h4;split
    ·rename_i h5;simp only[h4,h5,true_or,and_true,or_true]
    ·rename_i h5;split
     ·rename_i h6;simp only[h,h5,h6,or_self,and_false,EX]
     ·rename_i h6;rw[Classical.not_not] at h6;simp only[h4,h6,or_true,and_true]
 rw[hD];generalize qJ (qg s i).high w=b at hab ⊢
 generalize qJ (qg s i).low w=a at hab ⊢
 obtain⟨n,hn⟩:=AJ (show 0≤b-a by omega);have e0:=qU4 (a:=a) (k:=k) (m:=n) oM oM;rw[show a+(n:Int)=b by omega] at e0;refine⟨oM,?_⟩;by_cases q0:n=0
 ·have:b=a:=by omega
  subst this;exact⟨fun _=>by omega,fun _=>.inl oM⟩
 obtain⟨s1,s2⟩:=zI5 (a:=a) (k:=k) oM;have e1:=qU4 (a:=a+1) (k:=k) (m:=b-a-1) oM oM;rw[show a+1+(b-a-1)=b by omega] at e1;by_cases d1:k ∣ a+1
 ·have s1:=s1 d1;by_cases q1:n=1
  ·have:b=a+1:=by omega
   subst this;exact⟨fun _=>by omega,fun _=>.inr ⟨d1,.inl oM⟩⟩
  ·have d2:¬ k ∣ a+1+1:=by
    rintro ⟨p,hp⟩;obtain⟨r,hr⟩:=d1;have:k*(p-r)=1:=by rw[Int.mul_sub];omega
    have:=Int.le_of_dvd oM ⟨_,this.symm⟩;omega
   obtain⟨_,s4⟩:=zI5 (a:=a+1) (k:=k) oM;have s4:=s4 d2;have e2:=qU4 (a:=a+1+1) (k:=k) (m:=b-a-2) oM oM;rw[show a+1+1+(b-a-2)=b by omega] at e2;refine⟨fun h=>?_,fun h=>by omega⟩;rcases h with h | ⟨_,h | h⟩
   ·omega
   ·omega
   ·exact absurd h d2
 ·have s2:=s2 d1;refine⟨fun h=>?_,fun h=>by omega⟩;rcases h with h | ⟨h,_⟩
  ·omega
  ·exact absurd h d1
theorem qf2 (s:Sch) (hE:schE s=0) (i:Nat) (hi:i<s.cols.length) (h0:0<i) (lev:Nat) (hl:(lev:Int)≤finI s i):Sp 193 [schT s,vI i,vI lev] [] (vI (blkI s i lev)) []:=by
 have hok:=qV hE;obtain⟨_,c1,c2,hfin⟩:=yc (s:=s) (c:=i) oM;rw[Ax] at hfin;have hat:qg s i=s.cols[i]:=by rw[qg,qj hi]
 have hk:=zj (hok.cs i hi);have hcd:=fun e=>hok.cdl hi e;have hwd:=fun e l=>hok.wid hi oM e (lev:=l);have hcl:qU s i=s.lists.getD s.cols[i].list.toNat default:=by rw[qU,hat]
 have hE2:blkI s i lev=if s.cols[i].kind=2 then ((lvN (qU s i).codes lev).length:Int)
  else if lev=0 then 1 else qJ s.cols[i].high (qK s.cols[i] lev)-qJ s.cols[i].low (qK s.cols[i] lev)+1+(if s.cols[i].opt=true then 1 else 0):=by rw[blkI,hat]
 rw[hE2];rw[hat] at hk hcd hwd hfin;rw[hcl] at hcd ⊢
 refine sIr qI3 fun e _ hst=>?_;unfold Zp;simp only[tZ,↓uU,simprocAttr,Ax,qd hi];generalize s.cols[i]=x at hk hcd hwd hfin ⊢
 simp only[tZ,↓uU,simprocAttr,tD,AY,Ak];refine⟨oM,fun h2=>?_,fun h2=>⟨fun h3=>?_,fun h3=>?_⟩⟩
 ·rw[Aj h2];obtain⟨d1,d2⟩:=hcd h2;obtain⟨d3,d4⟩:=hk.2.2.2.1 h2;have hgl:s.lists.getD x.list.toNat default=s.lists[x.list.toNat]:=qj d1;rw[hgl] at d2 ⊢
  simp only[tZ,↓uU,simprocAttr,qd d1];generalize s.lists[x.list.toNat]=l at d2 ⊢
  refine⟨oM,?_⟩;refine C1.im (qC6 l lev) rF rF ?_;rw[← jP3 d2];refine sW ?_;exact .oA [] []
 ·rw[Aq h2,Aj oM];exact .oA [] []
 rw[Aq h2,Aq oM];rw[Aq h2] at hfin;obtain⟨w1,w2,w3,w4,w5,w6,w7,_⟩:=hwd h2 lev oM;refine C1.im (qk5 x lev oM oM) rF rF ?_;generalize qK x lev=w at w1 w2 ⊢
 have h4:=jV (v:=x.high) (w:=w) oM;have h5:=jV (v:=x.low) (w:=w) oM;obtain⟨m,hm⟩:=AJ (show 0≤x.high-x.low by omega);have hab:=qU4 (a:=x.low) (k:=w) (m:=m) w1 oM;rw[show x.low+(m:Int)=x.high by omega] at hab;have wa:IntKind.i64.wrap (qJ x.high w*w-qJ x.low w*w)=qJ x.high w*w-qJ x.low w*w:=AK _ oM;have wb:(qJ x.high w*w-qJ x.low w*w).tdiv w=qJ x.high w-qJ x.low w:=by rw[← Int.sub_mul,Int.mul_tdiv_cancel _ oM]
 have wc:IntKind.i64.wrap (qJ x.high w-qJ x.low w)=qJ x.high w-qJ x.low w:=AK _ oM;have wd:IntKind.i64.wrap (qJ x.high w-qJ x.low w+1)=qJ x.high w-qJ x.low w+1:=AK _ oM;have we:IntKind.i64.wrap (qJ x.high w-qJ x.low w+1+1)=qJ x.high w-qJ x.low w+1+1:=AK _ oM;refine sW ?_;refine C1.im (Yx x.high w oM oM) rF rF ?_;refine sW ?_;refine C1.im (Yx x.low w oM oM) rF rF ?_;simp only[tZ,↓uU,simprocAttr,wa,wb,wc,wd,we]
 repeat (first | refine⟨oM,?_⟩ | refine⟨kR,?_⟩)
 refine⟨fun h6=>?_,fun h6=>?_⟩
 ·rw[Aj h6];exact .oA [] []
 ·rw[Aq (by rw[h6];simp),Int.add_zero];exact .oA [] []
theorem zT8 {p:Nat→Bool} {N:Nat}:∀ (f n:Nat),n≤N→N-n<f→p N=true→(∀ m,n≤m→m<N→p m=false)→JE p f n=N
 | 0,n,h1,h2,_,_=>by omega
 | f+1,n,h1,h2,h3,h4=>by
   rw[JE];by_cases e:n=N
   ·subst e;rw[Aj h3]
   ·rw[Aq (by rw[h4 n (BZ _) oM];simp)];exact zT8 f (n+1) oM oM h3 fun m h5 h6=>h4 m oM h6
theorem qk6 (s:Sch) (hs:ki s) (c lev:Int):Sp 134 [schT s,vI c,vI lev] [] (vI (zR s c lev)) []:=by
 refine sIr qQ8 fun e _ hst=>?_;unfold Jo;refine sW ?_;refine C1.im (Qa s hs c) rF rF ?_;refine sD ?_;refine⟨fun h=>?_,fun h=>?_⟩
 ·rw[zR,Aj (qT1.2 oM)];exact .oA [] []
 rw[zR,Aq (by rw[qT1];omega)];obtain⟨hE,c1,c2,hfin⟩:=yc (s:=s) (c:=c) oM;have hfl:=JH (c:=c) hE;have hok:=qV hE;obtain⟨i,rfl⟩:=AJ (show 0≤c by omega);obtain⟨v,rfl⟩:=AJ (show 0≤lev by omega);simp only[Ax];have hi:i<s.cols.length:=by omega
 have key:∀ n,n≤v→blkI s i n=blkI s i v→(n=0∨blkI s i (n-1)≠blkI s i n)→JE (fun n=>divB s i n v) 64 0=n:=fun n h1 h2 h3=>by
  refine zT8 64 0 oM oM ((zo7 hE hi oM h1 oM).2.2 h2) fun m _ hm=>?_;cases e:divB s i m v with
  | false=>rfl
  | true=>
    have e1:=(zo7 hE hi oM (show m≤v by omega) oM).2.1 e;have e2:=(zo7 hE hi oM (show m≤n-1 by omega) oM).1;have e3:=(zo7 hE hi oM (show n-1≤n by omega) oM).1;omega
 refine qt mixm (α:=Nat) [2,17] (fun n=>n≤v∧blkI s i n=blkI s i v) (fun n=>[(2,vI n)]) (fun n=>[aR 4096 2 [schT s]]) (fun n=>n) v ⟨oM,rfl⟩ ?_ fun n hn=>?_
 ·exact .oA (U1 4096) []
 obtain⟨n1,n2⟩:=hn;rcases DQ n with hz | hz
 ·subst hz;have e0:decide (((0:Nat):Int)>0)=false:=by decide
  simp only[tZ,↓uU,simprocAttr,e0];refine C2.no (fun h=>h) ?_;refine sW ?_;refine C2.no (fun h=>h) ?_;refine sW ?_
  repeat (first | refine⟨oM,?_⟩ | refine⟨kR,?_⟩)
  rw[key 0 oM n2 (.inl rfl)];exact .oA [] []
 ·obtain⟨k,rfl⟩:∃ k,n=k+1:=⟨n-1,oM⟩;have e0:decide (((k+1:Nat):Int)>0)=true:=Cx oM;have e3:=wJ (i:=k+1) oM oM;rw[Nat.add_sub_cancel] at e3;simp only[tZ,↓uU,simprocAttr,e0,e3];refine C2.im (fun _=>qf2 s hE i hi oM k oM) (fun _=>rfl) rF ?_;refine sW ?_;refine C2.im (fun _=>qf2 s hE i hi oM (k+1) oM) (fun _=>rfl) rF ?_;simp only[tZ,↓uU,simprocAttr,AY,Ak,e3]
  repeat (first | refine⟨oM,?_⟩ | refine⟨kR,?_⟩)
  refine⟨fun h5=>?_,fun h5=>?_⟩
  ·refine⟨k,⟨oM,oM⟩,oM,?_⟩;exact .oA (U1 4096) []
  ·rw[key (k+1) oM n2 (.inr h5)];exact .oA [] []
theorem qC7:∀ (c:Cnd) (m:Int),0≤m→m≤1000→Sp 150 [cnT c,vI m] [] (vI (cntC c (m+1))) []:=by
 refine Cnd.ind' fun c ih m hm hm2=>?_;rw[ZA];refine sIr qt2 fun e _ hst=>?_;unfold yL;refine sW ?_;refine qt mixm (α:=Nat×Int) [5,11] (fun y=>y.1≤c.kids.length∧kL c.kids (m+1) 1=kL (c.kids.drop y.1) (m+1) y.2∧y.2≤m+1∧y.1+1≤y.2) (fun y=>[(5,vI y.2),(11,vI y.1)]) (fun y=>[]) (fun y=>c.kids.length-y.1) (0,1) ⟨sMp,rfl,by dsimp only;omega,sMp⟩ ?_ fun y hy=>?_
 ·exact .oA [] []
 obtain⟨i,n⟩:=y;obtain⟨y1,y2,y3,y4⟩:=hy;dsimp only at y1 y2 y3 y4;rw[y2];refine sD ?_;refine⟨fun h=>?_,fun h=>?_⟩
 ·have hi:i<c.kids.length:=by omega
  have hwi:=qh (i:=i) oM;rw[zn3 hi,kL];simp only[tZ,↓uU,simprocAttr,Ax,qd hi,zh,tD];refine⟨oM,fun h2=>?_,fun h2=>?_⟩
  ·rw[Aq oM];exact .oA [] []
  have hw:IntKind.i64.wrap (m-n)=m-n:=AK _ oM;have hc:=qF1 c.kids[i] (m-n+1) oM;have e1:m+1-n=m-n+1:=by omega
  have hw2:IntKind.i64.wrap (n+cntC c.kids[i] (m-n+1))=n+cntC c.kids[i] (m-n+1):=AK _ oM;rw[Aj oM,e1];simp only[tZ,↓uU,simprocAttr,hw];refine C1.im (ih _ (AX hi) (m-n) oM oM) rF rF ?_;simp only[tZ,↓uU,simprocAttr,hw2,hwi];refine⟨(i+1,n+cntC c.kids[i] (m-n+1)),⟨by dsimp only;omega,rfl,by dsimp only;omega,by dsimp only;omega⟩,by dsimp only;omega,?_⟩;exact .oA [] []
 ·rw[List.drop_of_length_le oM,kL];exact .oA [] []
theorem qJ6:∀ (c:Cnd) (m:Int),1≤m→m≤1000→cntC c m<m→Sp 151 [cnT c] [] (vI (depC c)) []:=by
 refine Cnd.ind' fun c ih m hm hm2 hc=>?_;have hd:=jp7 c m hm hc;rw[ZA] at hc hd;obtain⟨hk1,hk2⟩:=qg9 oM hc;rw[qB7] at hd ⊢
 refine sIr qA6 fun e _ hst=>?_;unfold Qx;refine sW ?_;refine qt mixm (α:=Nat) [3,9] (fun i=>i≤c.kids.length) (fun i=>[(3,vI (kj (c.kids.take i))),(9,vI i)]) (fun i=>[]) (fun i=>c.kids.length-i) 0 oM ?_ fun i hi=>?_
 ·refine .of [] [] rfl (by first | rfl | (rw[hst];rfl)) ?_ ?_
  all_goals (try simp only[tL,simprocAttr,By,List.map_cons,List.map_nil,BW,Cy,List.take_zero,kj])
  all_goals (try (exact clA))
 have hdt:=qC2 c.kids i;refine sD ?_;refine⟨fun h=>?_,fun h=>?_⟩
 ·have hi2:i<c.kids.length:=by omega
  have hwi:=qh (i:=i) oM;have hs:kj (c.kids.take (i+1))=max (kj (c.kids.take i)) (depC c.kids[i]):=by rw[qS hi2,qC1]
  obtain⟨m',a1,a2,a3⟩:=hk2 _ (AX hi2);simp only[tZ,↓uU,simprocAttr,Ax,qd hi2,zh];refine⟨oM,?_⟩;refine C1.im (ih _ (AX hi2) m' a1 oM a3) rF rF ?_;have hmx:maxI (kj (c.kids.take i):Int) (depC c.kids[i])=(kj (c.kids.take (i+1)):Int):=by rw[hs];unfold maxI;omega
  simp only[tZ,↓uU,simprocAttr,hwi,hmx];refine⟨i+1,oM,oM,?_⟩;exact .oA [] []
 ·have hil:i=c.kids.length:=by omega
  subst hil;rw[Bw] at hdt ⊢
  have hw:=qh (i:=kj c.kids) oM;simp only[tZ,↓uU,simprocAttr,hw];exact .oA [] []
theorem qJ7 (op:Int):Sp 252 [vI op] [] (vI (arC op)) []:=by
 refine sIr qB3 fun e _ hst=>?_;unfold QD;simp only[tZ,↓uU,simprocAttr,cQ];by_cases h5:op=5
 ·subst h5;refine sW ?_;exact .oA [] []
 by_cases h6:op=6
 ·subst h6;refine sW ?_;exact .oA [] []
 by_cases h7:op=7
 ·subst h7;refine sW ?_;exact .oA [] []
 have e:arC op=0:=by rw[arC,Aq oM,Aq h7]
 rw[e];simp only[tZ,↓uU,simprocAttr,Ak.2 h5,Ak.2 h6,Ak.2 h7];exact .oA [] []
def unuC (c:Cnd):Bool:=if ((!isAt c&&(c.col != 0))||((c.op != 2)&&(c.code != 0)))=true then false else (c.op==3)||((c.lo==0)&&(c.hi==0))
theorem jP4 {c:Cnd}:unuC c=false↔(c.op≠2∧c.op≠3∧c.op≠4∧c.col≠0)∨(c.op≠2∧c.code≠0)∨(c.op≠3∧(c.lo≠0∨c.hi≠0)):=by
 unfold unuC isAt
 grind
theorem qw6 (c:Cnd):Sp 253 [cnT c] [] (vB (unuC c)) []:=by
 refine sIr qo1 fun e _ hst=>?_;unfold wX;refine sW ?_;have hi:isAt c=((c.op==2)||(c.op==3)||(c.op==4)):=rfl;rw[← hi];unfold unuC;cases h:(!isAt c&&(c.col != 0))
 ·simp only[tZ,↓uU,simprocAttr,h];cases h2:((c.op != 2)&&(c.code != 0))
  ·simp only[tZ,↓uU,simprocAttr,h2];exact .oA [] []
  ·simp only[tZ,↓uU,simprocAttr,h2];exact .oA [] []
 ·simp only[tZ,↓uU,simprocAttr,h];exact .oA [] []
theorem qj0 (s:Sch) (hok:SchOk s) (c:Cnd):Sp 207 [schT s,cnT c] [] (vI (ndE s c)) []:=by
 have hn0:=hok.nl;have hn1:=hok.nc;have hn:ndE s c=if c.op<1∨7<c.op then 4
 else if c.kids.length≠arC c.op∨(c.op≠2∧c.op≠3∧c.op≠4∧c.col≠0)∨(c.op≠2∧c.code≠0)∨(c.op≠3∧(c.lo≠0∨c.hi≠0)) then 11
 else if (c.op=2∧isB s c.col 2=false)∨(c.op=3∧isB s c.col 3=false)∨(c.op=4∧(isB s c.col 3=false∨(qg s c.col.toNat).opt=false)) then 7
 else if c.op=2∧(c.code<0∨c.code≥(qU s c.col.toNat).codes.length) then 6
 else if c.op=3∧(c.lo < -1000000∨c.hi>1000000∨c.lo>c.hi) then 2 else 0:=rfl
 have hu:=@jP4 c;generalize ndE s c=E at hn ⊢
 refine sIr qe0 fun e _ hst=>?_;unfold kW;refine sD ?_;refine⟨fun h=>?_,fun h=>?_⟩
 ·rw[Aj oM] at hn;rw[hn];exact .oA [] []
 rw[Aq oM] at hn;refine C1.im (qJ7 c.op) rF rF ?_;refine sW ?_;refine C2.im (fun _=>qw6 c) (fun _=>rfl) rF ?_;simp only[tZ,↓uU,simprocAttr,Bj,Aw,Bx,Bz]
 repeat (first | refine⟨oM,?_⟩ | refine⟨kR,?_⟩)
 refine⟨fun h2=>?_,fun h2=>?_⟩
 ·rw[Aj (by grind)] at hn;rw[hn];exact .oA [] []
 rw[Aq (by grind)] at hn;by_cases hat:c.op≠2∧c.op≠3∧c.op≠4
 ·rw[Aq oM,Aq oM,Aq oM] at hn;rw[hn];simp only[tZ,↓uU,simprocAttr,Bj.2 hat.1,Bj.2 hat.2.1,Bj.2 hat.2.2];exact .oA [] []
 have e1:((c.op != 2)&&(c.op != 3)&&(c.op != 4))=false:=by
  cases e:((c.op != 2)&&(c.op != 3)&&(c.op != 4)) with
  | false=>rfl
  | true=>exact absurd (by simpa [and_assoc] using e) hat
 simp only[tZ,↓uU,simprocAttr,e1,tD];refine⟨fun h3=>?_,fun h3=>?_⟩
 ·have b2:isB s c.col 2=false:=by
   cases e:isB s c.col 2 with
   | false=>rfl
   | true=>have:=zu.1 e;omega
  have b3:isB s c.col 3=false:=by
   cases e:isB s c.col 3 with
   | false=>rfl
   | true=>have:=zu.1 e;omega
  rw[b2,b3,Aj (by grind)] at hn;rw[hn];exact .oA [] []
 obtain⟨i,hci⟩:=AJ (show 0≤c.col by omega);have hil:i<s.cols.length:=by omega
 have hat2:qg s i=s.cols[i]:=by rw[qg,qj hil]
 have hcd:=fun e=>hok.cdl hil e;have hcd2:=(zj (hok.cs i hil)).2.2.2.1;have hcl:qU s i=s.lists.getD s.cols[i].list.toNat default:=by rw[qU,hat2]
 have hB:∀ k,isB s c.col k=(s.cols[i].kind==k):=fun k=>by
  rw[isB,hci,Ax,hat2,Cx oM,Cx oM];rfl
 rw[hB,hB,hci,Ax,hcl,hat2] at hn;rw[hat2,hcl] at hcd;rw[hat2] at hcd2;simp only[tZ,↓uU,simprocAttr,hci,Ax,qd hil];generalize s.cols[i]=x at hn hcd hcd2 ⊢
 simp only[tZ,↓uU,simprocAttr,AY,Ak,Bj,Aw];refine⟨oM,fun h4=>⟨fun h5=>?_,fun h5=>?_⟩,fun h4=>⟨fun h5=>⟨fun h6=>?_,fun h6=>?_⟩,fun h5=>?_⟩⟩
 ·rw[Aj (by grind)] at hn;rw[hn];exact .oA [] []
 ·rw[Aq (by grind)] at hn;obtain⟨d1,d2⟩:=hcd h5;obtain⟨d3,d4⟩:=hcd2 h5;rw[qj d1] at hn;simp only[tZ,↓uU,simprocAttr,qd d1,tD];generalize s.lists[x.list.toNat]=l at hn
  repeat (first | refine⟨oM,?_⟩ | refine⟨kR,?_⟩)
  refine⟨fun h6=>?_,fun h6=>?_⟩
  ·rw[Aj (by grind)] at hn;rw[hn];exact .oA [] []
  ·rw[Aq (by grind),Aq (by grind)] at hn;rw[hn];exact .oA [] []
 ·rw[Aj (by grind)] at hn;rw[hn];exact .oA [] []
 ·rw[Aq (by grind),Aq (by grind)] at hn;refine sD ?_;refine⟨fun h7=>?_,fun h7=>?_⟩
  ·rw[Aj (by grind)] at hn;rw[hn];exact .oA [] []
  ·rw[Aq (by grind)] at hn;rw[hn];exact .oA [] []
 ·refine⟨fun h6=>?_,fun h6=>by omega⟩;refine⟨fun h7=>?_,fun h7=>?_⟩
  ·rw[Aj (by grind)] at hn;rw[hn];exact .oA [] []
  ·rw[Aq (by grind),Aq (by grind),Aq (by grind)] at hn;rw[hn];exact .oA [] []
theorem jV7 (op:Int):arC op≤2:=by
 unfold arC;split
 ·omega
 ·split <;> omega
theorem qj1 (s:Sch) (hok:SchOk s):∀ (c:Cnd),Sp 152 [schT s,cnT c] [] (vI (nodE s c)) []:=by
 refine Cnd.ind' fun c ih=>?_;have hN:=zm7 s c;generalize nodE s c=N at hN ⊢
 refine sIr qd3 fun e _ hst=>?_;unfold kT;refine sW ?_;refine C1.im (qj0 s hok c) rF rF ?_;simp only[tZ,↓uU,simprocAttr,Bj,Aw];refine⟨fun h=>?_,fun h=>?_⟩
 ·rw[hN,Aj h];exact .oA [] []
 rw[Aq (by rw[h];simp)] at hN;have hnk:=(jJ5 h).nk;have har:=jV7 c.op;rw[hN];refine qt mixm (α:=Nat) [18] (fun i=>i≤c.kids.length∧(Qh s (c.kids.take i)=0)) (fun i=>[(18,vI i)]) (fun i=>[aR 4096 2 [schT s]]) (fun i=>c.kids.length-i) 0 ⟨oM,?_⟩ ?_ fun i hi=>?_
 ·rfl
 ·exact .oA (U1 4096) []
 simp only[tZ,↓uU,simprocAttr,AZ,Ay];refine⟨fun h=>?_,fun h=>?_⟩
 ·have hi2:i<c.kids.length:=by omega
  have hi2:i<c.kids.length:=by omega
  have hwi:=qh (i:=i) oM;simp only[tZ,↓uU,simprocAttr,Ax,qd hi2,hwi,zh];refine⟨oM,?_⟩;refine C1.im (ih _ (AX hi2)) rF rF ?_;simp only[tZ,↓uU,simprocAttr,Bj,Aw];refine⟨fun h6=>?_,fun h6=>?_⟩
  ·rw[qo5 hi2 hi.2 h6];exact .oA [] []
  ·refine⟨i+1,⟨oM,by rw[qS hi2];exact qC3 hi.2 h6⟩,oM,?_⟩;exact .oA (U1 4096) []
 ·have hi2:i=c.kids.length:=by omega
  subst hi2;rw[List.take_of_length_le oM] at hi;rw[hi.2];exact .oA [] []
theorem wm (s:Sch) (hs:ki s) (c:Cnd):Sp 86 [schT s,cnT c] [] (vI (chkC s c)) []:=by
 refine sIr qs2 fun e _ hst=>?_;unfold yF;refine sW ?_;refine C1.im (kr s hs.2.1 hs.1) rF rF ?_;simp only[tZ,↓uU,simprocAttr,Bj,Aw];refine⟨fun h=>?_,fun h=>?_⟩
 ·rw[chkC,Aj h];exact .oA [] []
 have hok:=qV h;refine C1.im (qC7 c 40 oM oM) rF rF ?_;rw[show (40:Int)+1=41 from rfl];refine sD ?_;refine⟨fun h2=>?_,fun h2=>?_⟩
 ·rw[chkC,Aq (by rw[h];simp),Aj h2];exact .oA [] []
 refine C1.im (qJ6 c 41 oM oM oM) rF rF ?_;refine sD ?_;refine⟨fun h3=>?_,fun h3=>?_⟩
 ·rw[chkC,Aq (by rw[h];simp),Aq h2,Aj oM];exact .oA [] []
 rw[chkC,Aq (by rw[h];simp),Aq h2,Aq oM];refine C1.im (qj1 s hok c) rF rF ?_;refine sW ?_;exact .oA [] []
theorem QI (b:Bool):Sp 248 [vB b] [] (vI (tf b)) []:=by
 refine sIr qu3 fun e _ hst=>?_;unfold yQ;refine sW ?_;cases b
 ·refine sW ?_;exact .oA [] []
 ·refine sW ?_;exact .oA [] []
theorem YI (s:Sch) (hok:SchOk s) (c:Cnd) (hc:NdOk s c) (ha:isAt c=true) (v:Int):Sp 198 [schT s,cnT c,vI v] [] (vI (zg s c v)) []:=by
 have hn0:=hok.nl;have hn1:=hok.nc;have hA:zg s c v=if c.op=2 then tf (qe4 (qU s c.col.toNat) v c.code)
 else if c.op=3 then (if v=zn then 0 else tf (decide (c.lo≤v)&&decide (v≤c.hi)))
 else if c.op=4 then tf (v==zn) else -1:=rfl
 rw[hA];by_cases h2:c.op=2
 ·obtain⟨b,b4,b5⟩:=hc.under h2;obtain⟨b1,b2,b3⟩:=zu.1 b;obtain⟨i,hci⟩:=AJ b1;rw[hci] at b2 b5;rw[hci,Ax] at b3;rw[Ax] at b5;have hil:i<s.cols.length:=by omega
  have hat:qg s i=s.cols[i]:=by rw[qg,qj hil]
  have hcd:=hok.cdl hil b3;have hcd2:=(zj (hok.cs i hil)).2.2.2.1 b3;have hcl:qU s i=s.lists.getD s.cols[i].list.toNat default:=by rw[qU,hat]
  rw[hat] at hcd hcd2;rw[Aj h2,hci,Ax];rw[hcl,qj hcd.1] at hcd ⊢
  have q:(c.op==2)=true:=AY.2 h2;refine sIr QB fun e _ hst=>?_;unfold jO;simp only[tZ,↓uU,simprocAttr,q,hci,Ax,qd hil,qd hcd.1];refine⟨oM,oM,?_⟩;refine C1.im (zo4 _ v c.code) rF rF ?_;refine sW ?_
  repeat (first | refine⟨oM,?_⟩ | refine⟨kR,?_⟩)
  refine C1.im (QI _) rF rF ?_;refine sW ?_
  repeat (first | refine⟨oM,?_⟩ | refine⟨kR,?_⟩)
  exact .oA [] []
 have q:(c.op==2)=false:=Ak.2 h2;rw[Aq h2];by_cases h4:c.op=4
 ·have q4:(c.op==4)=true:=AY.2 h4;rw[Aq oM,Aj h4];refine sIr QB fun e _ hst=>?_;unfold jO;simp only[tZ,↓uU,simprocAttr,q,q4];rw[show (-1099511627776:Int)=zn from rfl];refine C1.im (QI _) rF rF ?_;refine sW ?_;exact .oA [] []
 have q4:(c.op==4)=false:=Ak.2 h4;have h3:c.op=3:=by
  unfold isAt at ha;rw[q,q4] at ha;simpa using ha
 rw[Aj h3];refine sIr QB fun e _ hst=>?_;unfold jO;simp only[tZ,↓uU,simprocAttr,q,q4,AY,Ak];rw[show (-1099511627776:Int)=zn from rfl];refine⟨fun h=>?_,fun h=>?_⟩
 ·rw[Aj h];exact .oA [] []
 ·rw[Aq h];refine C1.im (QI _) rF rF ?_;refine sW ?_;exact .oA [] []
theorem wn:∀ (c:Cnd) (m:Int),1≤m→m≤1000→cntC c m<m→Sp 194 [cnT c] [] (vCs (atsC c)) []:=by
 refine Cnd.ind' fun c ih m hm hm2 hc=>?_;have hal:=kY c m hm hc;rw[ZA] at hc hal;obtain⟨hk1,hk2⟩:=qg9 oM hc;have hi:isAt c=((c.op==2)||(c.op==3)||(c.op==4)):=rfl;refine sIr qt4 fun e _ hst=>?_;unfold yM;refine sW ?_;rw[← hi];refine⟨fun h=>?_,fun h=>?_⟩
 ·rw[Yr,Aj h];show yx [] _ _ (.sl 6 [cndT c]) [];rw[zh];exact .oA [] [12292]
 ·rw[Yr,Aq (by rw[h];simp)] at hal ⊢
  refine qt mixm (α:=Nat) [3,24,18] (fun i=>i≤c.kids.length) (fun i=>[(3,.asl 1 (ZB (c.kids.take i)).length),(24,vI i)]) (fun i=>[aR 1 6 ((ZB (c.kids.take i)).map cndT)]) (fun i=>c.kids.length-i) 0 oM ?_ fun i hi2=>?_
  ·exact .oA [(1,none)] []
  have htl:=kg c.kids i;refine sD ?_;refine⟨fun h5=>?_,fun h5=>?_⟩
  ·have hi2:i<c.kids.length:=by omega
   have hwi:=qh (i:=i) oM;obtain⟨m',a1,a2,a3⟩:=hk2 _ (AX hi2);have htl2:=kg c.kids (i+1);rw[qS hi2,QF,AW] at htl2;simp only[tZ,↓uU,simprocAttr,Ax,qd hi2,zh];refine⟨oM,?_⟩;refine C1.im (ih _ (AX hi2) m' a1 oM a3) rF rF ?_;simp only[tZ,↓uU,simprocAttr,hwi];refine⟨oM,i+1,oM,oM,?_⟩;rw[qS hi2,QF,By];refine .of (U1 1) [] rfl (by first | rfl | (rw[hst];rfl)) ?_ ?_
   all_goals (try simp only[tL,simprocAttr,By,List.map_cons,List.map_nil,BW,Cy,Dj])
   all_goals (try (repeat' (first | exact zk | (apply zH;intro _;exact⟨rfl,rfl⟩) | (apply qw;intro _;exact⟨rfl,rfl⟩) | with_reducible apply ze | with_reducible refine qQ ⟨rfl,rfl⟩ ?_ | exact qR | with_reducible apply qZ | with_reducible refine zd ⟨rfl,rfl,?_⟩ ?_ | with_reducible apply Az | exact qY rfl | exact qY (by assumption) | (refine⟨⟨?_,rfl,?_,rfl,?_⟩,trivial⟩ <;> first | (simp;done) | (apply qw;intro _;exact⟨rfl,rfl⟩)) | trivial | rfl | (rw[qh oM]) | omega)))
   all_goals first | exact KW _ | exact YH _
  ·have hil:i=c.kids.length:=by omega
   subst hil;rw[Bw];refine .of [] [1] rfl (by first | rfl | (rw[hst];rfl)) ?_ ?_
   all_goals (try simp only[tL,simprocAttr,By,List.map_cons,List.map_nil,BW,Cy,Dj])
   all_goals (try (repeat' (first | exact zk | (apply zH;intro _;exact⟨rfl,rfl⟩) | (apply qw;intro _;exact⟨rfl,rfl⟩) | with_reducible apply ze | with_reducible refine qQ ⟨rfl,rfl⟩ ?_ | exact qR | with_reducible apply qZ | with_reducible refine zd ⟨rfl,rfl,?_⟩ ?_ | with_reducible apply Az | exact qY rfl | exact qY (by assumption) | (refine⟨⟨?_,rfl,?_,rfl,?_⟩,trivial⟩ <;> first | (simp;done) | (apply qw;intro _;exact⟨rfl,rfl⟩)) | trivial | rfl | (rw[qh oM]) | omega)))
   all_goals first | exact KW _ | exact YH _
theorem YJ (n w:Int) (hw:0<w∧w≤1000000) (hn : -4611686018427387904<n∧n<4611686018427387904):Sp 247 [vI n,vI w] [] (vI (qJ n w*w)) []:=by
 rw[zI4 hw.1];have h2:=Int.tmod_lt_of_pos n hw.1;have h3:=Int.lt_tmod_of_pos n hw.1;have w1:IntKind.i64.wrap (n.tmod w)=n.tmod w:=AK _ oM;have w2:IntKind.i64.wrap (n.tmod w+w)=n.tmod w+w:=AK _ oM;have w3:IntKind.i64.wrap (n-n.tmod w)=n-n.tmod w:=AK _ oM;have w4:IntKind.i64.wrap (n-(n.tmod w+w))=n-(n.tmod w+w):=AK _ oM;refine sIr qB1 fun e _ hst=>?_;unfold QC;simp only[tZ,↓uU,simprocAttr,w1,w2,w3,w4,tD];refine⟨oM,fun h=>?_,fun h=>?_⟩
 ·rw[Aj h];exact .oA [] []
 ·rw[Aq h];exact .oA [] []
theorem qC8 (c:Col) (lev:Int) (h1:1≤lev∧lev≤c.widths.length) (h2:c.widths.length<4611686018427387904):Sp 246 [colT c,vI lev] [] (vI (qK c lev)) []:=by
 have hw:IntKind.i64.wrap ((c.widths.length:Int)-lev)=(c.widths.length:Int)-lev:=AK _ oM;have hk:((c.widths.length:Int)-lev).toNat<c.widths.length:=by omega
 refine sIr qu1 fun e _ hst=>?_;unfold yP;simp only[tZ,↓uU,simprocAttr,hw,qd hk];rw[qK,qj hk];refine⟨oM,?_⟩;exact .oA [] []
theorem qw7 (k k' v:Int):∀ l:List (Int×Int),TL.look TL.eqI k (TL.asg TL.eqI k' v l)=if k=k' then some v else TL.look TL.eqI k l
 | []=>by
   simp only[TL.asg,TL.look,TL.eqI,AY]
 | (a,b)::r=>by
   have ih:=qw7 k k' v r;simp only[TL.asg,TL.eqI,AY] at ih ⊢
   by_cases h:k'=a
   ·subst h;rw[Aj rfl];simp only[TL.look,TL.eqI,AY];split <;> rfl
   ·rw[Aq h];simp only[TL.look,TL.eqI,AY];rw[ih];by_cases h2:k=a
    ·subst h2;rw[Aj rfl,Aq (fun e=>h e.symm),Aj rfl]
    ·rw[Aq h2,Aq h2]
theorem zB8 {n w:Int} (hw:0<w):(qJ n w*w==n)=(n.tmod w==0):=by
 rw[zI4 hw,Bool.eq_iff_iff,AY,AY];have h2:=Int.tmod_lt_of_pos n hw;have h3:=Int.lt_tmod_of_pos n hw;split <;> omega
theorem qj2 (s:Sch) (hE:schE s=0) (c:Cnd) (hnd:NdOk s c) (ha:isAt c=true) (lev:Nat) (hl:(lev:Int)≤finI s c.col):Sp 195 [schT s,cnT c,vI lev] [] (vB (decB s c lev)) []:=by
 have hok:=qV hE;have hn0:=hok.nl;have hn1:=hok.nc;obtain⟨_,c1,c2,hfin⟩:=yc (s:=s) (c:=c.col) oM;obtain⟨i,hci⟩:=AJ (show 0≤c.col by omega);have hcn:c.col.toNat=i:=by omega
 have hil:i<s.cols.length:=by omega
 have hat:qg s i=s.cols[i]:=by rw[qg,qj hil]
 have hcd:=fun e=>hok.cdl hil e;have hcd2:=(zj (hok.cs i hil)).2.2.2.1;have hwd:=fun e l=>hok.wid hil oM e (lev:=l);have hll:=qC0 hok hil;have hcl:qU s i=s.lists.getD s.cols[i].list.toNat default:=by rw[qU,hat]
 have hlh:=fun h2 v=>Wt (s:=s) (i:=i) h2 (v:=v);have hfi:∀ h2:(qg s i).kind=2,finI s c.col=zy (qU s i)-1:=fun h2=>by rw[hfin,hcn,Aj h2]
 have hco:∀ h2:(qg s i).kind=2,∀ v∈qE s i,qk s c.col lev v=upC (qU s i) v lev:=fun h2 v hv=>by
  have:=Wt h2 (hcd h2).2 hv;rw[qk,Aq (by rw[Ez,yi];omega),hcn,Aj h2,Aq (by rw[this];simp)]
 rw[hcn,hat] at hfin;rw[hat] at hwd hll hcd hcd2 hfi hco;have hD:decB s c lev=if c.op=2 then qa3 (qE s i).length (decP s c lev)
 else if c.op=4 then decide (0<lev)
 else if lev=0 then !s.cols[i].opt&&!(decide (s.cols[i].low<c.lo)&&decide (c.lo≤s.cols[i].high))&&!(decide (s.cols[i].low≤c.hi)&&decide (c.hi<s.cols[i].high))
  else (!(decide (s.cols[i].low<c.lo)&&decide (c.lo≤s.cols[i].high))||(c.lo.tmod (qK s.cols[i] lev)==0))&&(!(decide (s.cols[i].low≤c.hi)&&decide (c.hi<s.cols[i].high))||((c.hi+1).tmod (qK s.cols[i] lev)==0)):=by
  rw[decB,hcn,hat]
 have hk2:c.op=2→s.cols[i].kind=2:=fun h=>by
  have:=(zu.1 (hnd.under h).1).2.2;rw[hcn,hat] at this;exact this
 have hk3:c.op=3→s.cols[i].kind=3:=fun h=>by
  have:=(zu.1 (hnd.between h).1).2.2;rw[hcn,hat] at this;exact this
 have hm4:c.op=4→s.cols[i].opt=true:=fun h=>by
  have:=(hnd.miss h).2;rw[hcn,hat] at this;exact this
 have hPd:∀ L,qE s i=L→∀ j k,decP s c lev j k=!((qk s c.col lev (L.getD j 0)==qk s c.col lev (L.getD k 0))&&!(zg s c (L.getD j 0)==zg s c (L.getD k 0))):=fun L hL j k=>by rw[decP,hcn,hL]
 have hlv:qE s i=atL (qU s i) (zy (qU s i)-1):=rfl;rw[hD];rw[hcl] at hcd hco hlv;refine sIr qd8 fun e _ hst=>?_;unfold kV;simp only[tZ,↓uU,simprocAttr,hcn,qd hil];have hmw:s.cols[i].kind=3→1≤s.cols[i].widths.length:=fun h=>by
  have:=(zj (hok.cs i hil)).2.2.2.2 (by rw[hat];exact h);rw[hat] at this;unfold measE at this
  grind
 generalize s.cols[i]=x at hmw hwd hfin hll hk2 hk3 hm4 hcd hcd2 hco hlv ⊢
 simp only[tZ,↓uU,simprocAttr,AY,Ak];refine⟨oM,fun h2=>?_,fun h2=>?_⟩
 ·rw[Aj h2];obtain⟨d1,d2⟩:=hcd (hk2 h2);obtain⟨d3,d4⟩:=hcd2 (hk2 h2);have hco:=hco (hk2 h2);have hll:=hll (hk2 h2);have hPd:=hPd _ rfl;rw[qj d1] at d2 hco hlv;rw[hlv] at hco hll hPd ⊢
  have hAt:=YI s hok c hnd ha;simp only[tZ,↓uU,simprocAttr,qd d1];refine⟨oM,?_⟩;generalize s.lists[x.list.toNat]=l at d2 hco hll hPd ⊢
  have hlvl:=qo3 (l:=l);have hw2:IntKind.i64.wrap (zy l-1)=zy l-1:=AK _ oM;refine C1.im (KZ l) rF rF ?_;simp only[tZ,↓uU,simprocAttr,hw2];refine C1.im (qC6 l (zy l-1)) rF rF ?_;refine sW ?_
  repeat (first | refine⟨oM,?_⟩ | refine⟨kR,?_⟩)
  generalize atL l (zy l-1)=L at hco hll hPd ⊢
  refine qt mixm (α:=Nat×List (Int×Int)) [41] (fun y=>y.1≤L.length∧qa3 y.1 (decP s c lev)=true∧(∀ a,a<y.1→TL.look TL.eqI (upC l (L.getD a 0) lev) y.2=some (zg s c (L.getD a 0)))∧∀ k v,TL.look TL.eqI k y.2=some v→∃ a,a<y.1∧upC l (L.getD a 0) lev=k∧zg s c (L.getD a 0)=v) (fun y=>[(41,vI y.1)]) (fun y=>[aR 4096 2 [schT s],aR 4100 6 [cnT c],aR 16408 2 [cdlT l],(20480,.mp (.ii y.2))]) (fun y=>L.length-y.1) (0,[]) ⟨sMp,rfl,sMp,by simp [TL.look]⟩ ?_ fun y hy=>?_
  ·exact .oA (U4 4096 4100 16408 20480) []
  obtain⟨j,M⟩:=y;obtain⟨y1,y2,y3,y4⟩:=hy;dsimp only at y1 y2 y3 y4;refine sD ?_;refine⟨fun h3=>?_,fun h3=>?_⟩
  ·have hj2:j<L.length:=by omega
   have hwj:=qh (i:=j) oM;have hgj:L.getD j 0=L[j]:=qj hj2;have hP:∀ a,a<j→decP s c lev j a=!((upC l L[j] lev==upC l (L.getD a 0) lev)&&!(zg s c L[j]==zg s c (L.getD a 0))):=fun a ha=>by
    rw[hPd,hgj,hco L[j] (AX hj2),hco (L.getD a 0) (by rw[qj (show a<L.length by omega)];exact AX _)]
   have hlk:=qw7;simp only[tZ,↓uU,simprocAttr,Ax,qd hj2];refine⟨oM,?_⟩;refine C1.im (qh3 l L[j] lev) rF rF ?_;refine sW ?_;refine C1.im (hAt L[j]) rF rF ?_;refine sW ?_
   repeat (first | refine⟨oM,?_⟩ | refine⟨kR,?_⟩)
   have hfin:∀ v,(∀ w,TL.look TL.eqI (upC l L[j] lev) M=some w→w=zg s c L[j])→v=zg s c L[j]→(j+1≤L.length∧qa3 (j+1) (decP s c lev)=true∧(∀ a,a<j+1→TL.look TL.eqI (upC l (L.getD a 0) lev) (TL.asg TL.eqI (upC l L[j] lev) v M)=some (zg s c (L.getD a 0)))∧∀ k w,TL.look TL.eqI k (TL.asg TL.eqI (upC l L[j] lev) v M)=some w→∃ a,a<j+1∧upC l (L.getD a 0) lev=k∧zg s c (L.getD a 0)=w):=fun v hv e=>by
    subst e;have hsame:∀ a,a<j→upC l (L.getD a 0) lev=upC l L[j] lev→zg s c (L.getD a 0)=zg s c L[j]:=fun a ha he=>by
     have:=y3 a ha;rw[he] at this;exact hv _ this
    refine⟨oM,?_,fun a h5=>?_,fun k w h5=>?_⟩
    ·rw[qB8,y2,Fj,Bk];intro a ha;rw[Dk] at ha;rw[hP a ha];by_cases q:upC l (L.getD a 0) lev=upC l L[j] lev
     ·rw[hsame a ha q];simp
     ·rw[Ak.2 (fun e=>q e.symm)];rfl
    ·rw[qw7];by_cases q:a=j
     ·subst q;rw[hgj,Aj rfl]
     ·split
      ·rename_i q2;rw[hsame a oM q2]
      ·exact y3 a oM
    ·rw[qw7] at h5;split at h5
     ·rename_i q;exact⟨j,oM,by rw[hgj,q],by rw[hgj];simpa using h5⟩
     ·obtain⟨a,a1,a2,a3⟩:=y4 k w h5;exact⟨a,oM,a2,a3⟩
   cases hf:TL.look TL.eqI (upC l L[j] lev) M with
   | none=>
     simp only[tZ,↓uU,simprocAttr,hf,Option.isSome_none,hwj];refine⟨fun h=>by simp at h,fun _=>⟨(j+1,_),hfin _ (fun w h=>by rw[hf] at h;cases h) rfl,by dsimp only;omega,?_⟩⟩;exact .oA (U4 4096 4100 16408 20480) []
   | some w=>
     simp only[tZ,↓uU,simprocAttr,hf,Option.isSome_some,Option.getD_some,Bj,Aw,hwj];refine⟨fun h5=>?_,fun h5=>?_⟩
     ·obtain⟨a,a1,a2,a3⟩:=y4 _ _ hf;rw[zm9 hj2 a1 (by rw[hP a a1,a2,a3,beq_self_eq_true,Ak.2 (fun e=>h5 e.symm)];rfl)];exact .oA [] []
     ·refine⟨(j+1,_),hfin _ (fun w' h=>by rw[hf] at h;cases h;exact h5) rfl,by dsimp only;omega,?_⟩;exact .oA (U4 4096 4100 16408 20480) []
  ·have hjl:j=L.length:=by omega
   subst hjl;rw[y2];exact .oA [] []
 rw[Aq h2];by_cases h4:c.op=4
 ·rw[Aj h4];have ho:=hm4 h4;by_cases hz:lev=0
  ·subst hz;simp only[tZ,↓uU,simprocAttr,ho];exact .oA [] []
  ·have e0:((lev:Int)==0)=false:=Ak.2 oM;simp only[tZ,↓uU,simprocAttr,e0,AY,Ak];rw[Cx (show 0<lev by omega)];refine⟨fun h=>by simp at h,fun _=>⟨fun _=>?_,fun h=>absurd h4 h⟩⟩;exact .oA [] []
 rw[Aq h4];have h3:c.op=3:=by
  unfold isAt at ha;simp only[DZ,AY] at ha;omega
 have hk3:=hk3 h3;have hb:=hnd.between h3;rw[Aq oM] at hfin;have q4:(c.op==4)=false:=Ak.2 h4;have hxw:=hmw hk3;obtain⟨_,_,_,x4,x5,x6,x7,_⟩:=hwd oM 1 oM;by_cases hz:lev=0
 ·subst hz;simp only[tZ,↓uU,simprocAttr,zB7,jJ9,tD];refine⟨fun h=>?_,fun h=>⟨fun k=>absurd k h4,fun _=>?_⟩⟩
  ·rw[h];exact .oA [] []
  ·rw[h]
   repeat (first | refine⟨oM,?_⟩ | refine⟨kR,?_⟩)
   refine⟨fun h5=>?_,fun h5=>?_⟩
   ·rw[show (!false&&!(decide (x.low<c.lo)&&decide (c.lo≤x.high))&&!(decide (x.low≤c.hi)&&decide (c.hi<x.high)))=true by grind];exact .oA [] []
   ·rw[show (!false&&!(decide (x.low<c.lo)&&decide (c.lo≤x.high))&&!(decide (x.low≤c.hi)&&decide (c.hi<x.high)))=((max c.lo x.low==x.low)&&(min c.hi x.high==x.high)) by grind];exact .oA [] []
 have e0:((lev:Int)==0)=false:=Ak.2 oM;rw[Aq hz];obtain⟨w1,w2,_⟩:=hwd oM lev oM;simp only[tZ,↓uU,simprocAttr,e0,zB7,jJ9,tD];refine fun _=>⟨fun k=>absurd k h4,fun _=>?_⟩
 repeat (first | refine⟨oM,?_⟩ | refine⟨kR,?_⟩)
 refine⟨fun h5=>?_,fun h5=>?_⟩
 ·rw[show ((!(decide (x.low<c.lo)&&decide (c.lo≤x.high))||(c.lo.tmod (qK x lev)==0))&&(!(decide (x.low≤c.hi)&&decide (c.hi<x.high))||((c.hi+1).tmod (qK x lev)==0)))=true by grind];exact .oA [] []
 refine⟨fun h=>by omega,fun _=>?_⟩;refine C1.im (qC8 x lev oM oM) rF rF ?_;generalize qK x lev=w at w1 w2 ⊢
 have hF:((!(decide (x.low<c.lo)&&decide (c.lo≤x.high))||(c.lo.tmod w==0))&&(!(decide (x.low≤c.hi)&&decide (c.hi<x.high))||((c.hi+1).tmod w==0)))=(((max c.lo x.low==x.low)||(qJ (max c.lo x.low) w*w==max c.lo x.low))&&((min c.hi x.high==x.high)||(qJ (min c.hi x.high+1) w*w==min c.hi x.high+1))):=by
  rw[zB8 oM,zB8 oM]
  congr 1
  ·by_cases k:x.low<c.lo
   ·rw[show max c.lo x.low=c.lo by omega,Cx k,Cx (show c.lo≤x.high by omega),Ak.2 (show c.lo≠x.low by omega)]
    rfl
   ·rw[show max c.lo x.low=x.low by omega,Cq k,beq_self_eq_true];simp
  ·by_cases k:c.hi<x.high
   ·rw[show min c.hi x.high=c.hi by omega,Cx k,Cx (show x.low≤c.hi by omega),Ak.2 (show c.hi≠x.high by omega)]
    rfl
   ·rw[show min c.hi x.high=x.high by omega,Cq k,beq_self_eq_true];simp
 rw[hF];have hwm:IntKind.i64.wrap (min c.hi x.high+1)=min c.hi x.high+1:=AK _ oM;refine sW ?_;refine C2.im (fun _=>YJ (max c.lo x.low) w oM oM) (fun _=>rfl) rF ?_;simp only[tZ,↓uU,simprocAttr,hwm];refine C2.im (fun _=>YJ (min c.hi x.high+1) w oM oM) (fun _=>rfl) rF ?_;simp only[tZ,↓uU,simprocAttr,hwm]
 repeat (first | refine⟨oM,?_⟩ | refine⟨kR,?_⟩)
 exact .oA [] []
def canF (f:Nat→Int):Nat→List Pk
 | 0=>[]
 | n+1=>canF f n++(if 0<f n then [⟨n,f n⟩] else [])
theorem Wz {f g:Nat→Int}:∀ {n:Nat},(∀ k,k<n→f k=g k)→canF f n=canF g n
 | 0,_=>rfl
 | n+1,h=>by rw[canF,canF,Wz fun k hk=>h k oM,h n oM]
theorem zo8 (f:Nat→Int):∀ n,(canF f n).length≤n
 | 0=>BZ _
 | n+1=>by
   have:=zo8 f n;rw[canF,AW];split <;> simp <;> omega
theorem qU5 {f:Nat→Int}:∀ {n:Nat},(∀ k,k<n→f k≤0)→canF f n=[]
 | 0,_=>rfl
 | n+1,h=>by
   have:=h n oM;rw[canF,qU5 fun k hk=>h k oM,Aq oM];rfl
theorem zB9 {f:Nat→Int} {n:Nat}:∀ d,(∀ k,n≤k→k<n+d→f k≤0)→canF f (n+d)=canF f n
 | 0,_=>rfl
 | d+1,h=>by
   have:=h (n+d) oM oM;rw[show n+(d+1)=n+d+1 from rfl,canF,Aq oM,CW,zB9 d fun k h1 h2=>h k h1 oM]
theorem wM {f:Nat→Int} {p:Pk}:∀ {n:Nat},p∈canF f n↔∃ k,k<n∧0<f k∧p=⟨k,f k⟩
 | 0=>by simp [canF]
 | n+1=>by
   rw[canF,Dz,wM];constructor
   ·rintro (⟨k,h1,h2,h3⟩ | h)
    ·exact⟨k,oM,h2,h3⟩
    ·split at h
     ·rename_i h2;exact⟨n,oM,h2,by simpa using h⟩
     ·simp at h
   ·rintro ⟨k,h1,h2,h3⟩;by_cases e:k=n
    ·subst e;right;rw[Aj h2];simpa using h3
    ·exact .inl ⟨k,oM,h2,h3⟩
def upd (f:Nat→Int) (c:Nat) (v:Int):Nat→Int:=fun k=>if k=c then max (f k) v else f k
theorem zh1 {f:Nat→Int} (hf:∀ k,0≤f k) (c:Nat) (v:Int):∀ m,∀ x,(canF f m).foldl (qa4 c v) ([],decide (v≤0))=x→
 (m≤c→x.2=decide (v≤0))∧(x.2=true→x.1=canF (upd f c v) m)∧(x.2=false→0<v∧x.1++(if c<m then [⟨c,v⟩] else [])=canF (upd f c v) m)
 | 0,x,h=>by
   subst h;refine⟨fun _=>rfl,fun _=>rfl,fun h=>⟨?_,by rw[Aq oM];rfl⟩⟩;have:=of_decide_eq_false h;omega
 | m+1,x,h=>by
   rw[canF,Gq] at h;obtain⟨i1,i2,i3⟩:=zh1 hf c v m _ rfl;generalize (canF f m).foldl (qa4 c v) ([],decide (v≤0))=y at h i1 i2 i3;obtain⟨l,b⟩:=y;dsimp only at i1 i2 i3;have hm:=hf m;by_cases h0:0<f m
   ·rw[Aj h0,Dw,List.foldl_nil] at h;unfold qa4 at h;dsimp only at h;rcases Nat.lt_trichotomy m c with q | q | q
    ·rw[Aq oM,Aq oM] at h;subst h;have hu:upd f c v m=f m:=by rw[upd,Aq oM]
     refine⟨fun _=>i1 oM,fun e=>?_,fun e=>⟨(i3 e).1,?_⟩⟩
     ·dsimp only at e ⊢
      rw[i2 e,canF,hu,Aj h0]
     ·dsimp only at e ⊢
      have:=(i3 e).2;rw[Aq oM,CW] at this;rw[Aq oM,CW,this,canF,hu,Aj h0]
    ·subst q;rw[Aj rfl,Aq (show ¬ ((m:Int)>m∧b=false) from fun h=>by omega)] at h;subst h;have hu:upd f m v m=max (f m) v:=by rw[upd,Aj rfl]
     refine⟨fun e=>by omega,fun _=>?_,fun e=>by simp at e⟩;dsimp only;have:l=canF (upd f m v) m:=by
      cases b with
      | true=>exact i2 rfl
      | false=>
        have:=(i3 rfl).2;rw[Aq oM,CW] at this;exact this
     rw[this,canF,hu,Aj oM]
    ·have hu:upd f c v m=f m:=by rw[upd,Aq oM]
     have hc:((m:Int)>(c:Int)):=by omega
     cases b with
     | true=>
       rw[Aq (show ¬ ((m:Int)=c) by omega),Aq (show ¬ ((m:Int)>c∧true=false) from fun h=>by simp at h)] at h;subst h;refine⟨fun e=>by omega,fun _=>?_,fun e=>by simp at e⟩;dsimp only;rw[i2 rfl,canF,hu,Aj h0]
     | false=>
       rw[Aq (show ¬ ((m:Int)=c) by omega),Aj ⟨hc,rfl⟩] at h;subst h;refine⟨fun e=>by omega,fun _=>?_,fun e=>by simp at e⟩;dsimp only;have:=(i3 rfl).2;rw[Aj q] at this;rw[this,canF,hu,Aj h0]
   ·rw[Aq h0,List.foldl_nil] at h;subst h;dsimp only;have f0:f m=0:=by omega
    by_cases q:m=c
    ·subst q;have hu:upd f m v m=max 0 v:=by rw[upd,Aj rfl,f0]
     refine⟨fun e=>by omega,fun e=>?_,fun e=>⟨(i3 e).1,?_⟩⟩
     ·have hv:v≤0:=by
       have:=i1 (BZ _);rw[e] at this;exact of_decide_eq_true this.symm
      rw[i2 e,canF,hu,Aq oM,CW]
     ·have:=(i3 e).2;rw[Aq oM,CW] at this;have hv:=(i3 e).1;rw[this,canF,hu,Aj oM,Aj oM,show max 0 v=v by omega]
    ·have hu:upd f c v m=f m:=by rw[upd,Aq q]
     refine⟨fun e=>i1 oM,fun e=>?_,fun e=>⟨(i3 e).1,?_⟩⟩
     ·rw[i2 e,canF,hu,Aq h0,CW]
     ·have:=(i3 e).2;rw[canF,hu,Aq h0,CW,← this];by_cases q2:c<m
      ·rw[Aj q2,Aj oM]
      ·rw[Aq q2,Aq oM]
theorem zh2 {f:Nat→Int} (hf:∀ k,0≤f k) {c n:Nat} (hc:c<n) (v:Int):ZQ (canF f n) c v=canF (upd f c v) n:=by
 obtain⟨_,i2,i3⟩:=zh1 hf c v n _ rfl;unfold ZQ;dsimp only;split
 ·rename_i h;exact i2 h
 ·rename_i h;have:=(i3 (by simpa using h)).2;rw[Aj hc] at this;exact this
abbrev lvF (lv:List Int):Nat→Int:=fun k=>lv.getD k 0
theorem jP5 {lv:List Int} {c:Nat} (hc:c<lv.length) (v:Int):lvF (lv.set c (max lv[c] v))=upd (lvF lv) c v:=by
 funext k
 unfold lvF upd;simp only[CY,List.getElem?_set];by_cases e:c=k
 ·subst e;simp [hc]
 ·rw[Aq e,Aq (fun h=>e h.symm)]
theorem jP6 {lv:List Int} (h:∀ x∈lv,0≤x) (k:Nat):0≤lvF lv k:=by
 unfold lvF;by_cases hk:k<lv.length
 ·rw[qj hk];exact h _ (AX hk)
 ·simp [List.getD,List.getElem?_eq_none (show lv.length≤k by omega)]
theorem jB4 (n:Nat):canF (lvF (List.replicate n 0)) n=[]:=qU5 fun k hk=>by
 unfold lvF;rw[qj (by simpa using hk),List.getElem_replicate];omega
theorem qC9 (s:Sch) (hs:ki s) (c:Cnd):Sp 138 [schT s,cnT c] [] (vPs (ji s c)) []:=by
 refine sIr qt0 fun e _ hst=>?_;unfold yK;refine sW ?_;refine C1.im (wm s hs c) rF rF ?_;simp only[tZ,↓uU,simprocAttr,Bj,Aw];refine⟨fun h=>?_,fun h=>?_⟩
 ·rw[ji,Aj h];exact .oA [] []
 obtain⟨hE,k2,k3,k4⟩:=JI h;have hok:=qV hE;have hnc:=hok.nc;have hal:=kY c 41 oM k2;have hao:=qk3 c k4;have hN:ji s c=(atsC c).foldl (qJ3 s) []:=by rw[ji,Aq (by rw[h];simp)];rfl
 rw[hN];refine⟨oM,?_⟩;refine C1.im (wn c 41 oM oM k2) rF rF ?_;generalize atsC c=L at hal hao ⊢
 refine sW ?_;refine qt mixm (α:=Nat×List Int) [23] (fun y=>y.1≤L.length∧y.2.length=s.cols.length∧(∀ x∈y.2,0≤x)∧canF (lvF y.2) s.cols.length=(L.take y.1).foldl (qJ3 s) []) (fun y=>[(23,vI y.1)]) (fun y=>[aR 4096 2 [schT s],aR 16396 1 (y.2.map vI)]) (fun y=>L.length-y.1) (0,List.replicate s.cols.length 0) ⟨sMp,sMp,fun x hx=>by rw[(List.mem_replicate.1 hx).2];omega,jB4 _⟩ ?_ fun y hy=>?_
 ·rw[List.map_replicate];refine .of (U2 4096 16396) [] rfl (by first | rfl | (rw[hst];rfl)) ?_ ?_
  all_goals (try simp only[tL,simprocAttr,By,List.map_cons,List.map_nil,BW,Cy,Ax,jJ8])
  all_goals (try (exact clA))
 obtain⟨i,lv⟩:=y;obtain⟨y1,y2,y3,y4⟩:=hy;dsimp only at y1 y2 y3 y4;refine sD ?_;refine⟨fun h3=>?_,fun h3=>?_⟩
 ·have hi2:i<L.length:=by omega
  have hwi:=qh (i:=i) oM;obtain⟨hnd,ha⟩:=hao _ (AX hi2);obtain⟨n1,n2,n3⟩:=Wx hE hnd ha;have h59:=JH (c:=L[i].col) hE;obtain⟨_,c1,c2,_⟩:=yc (s:=s) (c:=L[i].col) oM;have hstep:(L.take (i+1)).foldl (qJ3 s) []=ZQ ((L.take i).foldl (qJ3 s) []) L[i].col (decN s L[i]):=by
   rw[qS hi2,Gq];rfl
  simp only[tZ,↓uU,simprocAttr,Ax,qd hi2,zh];refine⟨oM,?_⟩;generalize L[i]=a at hnd ha n1 n2 n3 h59 c1 c2 hstep ⊢
  refine qt mixm (α:=Nat) [8] (fun n=>n≤decN s a) (fun n=>[(8,vI n)]) (fun n=>[aR 4096 2 [schT s],aR 16396 1 (lv.map vI),aR 28680 6 [cnT a]]) (fun n=>decN s a-n) 0 oM ?_ fun n hn=>?_
  ·exact .oA (U3 4096 16396 28680) []
  have hwn:=qh (i:=n) oM;refine sW ?_;refine C1.im (qj2 s hE a hnd ha n oM) rF rF ?_;simp only[tZ,↓uU,simprocAttr,Bx,Bz,hwn];refine⟨fun h4=>?_,fun h4=>?_⟩
  ·have:n≠decN s a:=fun e=>by rw[e,n2] at h4;cases h4
   refine⟨n+1,oM,oM,?_⟩;exact .oA (U3 4096 16396 28680) []
  ·have:n=decN s a:=by
    refine Nat.le_antisymm hn (Nat.le_of_not_lt fun e=>?_);rw[n3 n e] at h4;cases h4
   subst this;obtain⟨q,hq⟩:=AJ (show 0≤a.col by omega);have hq2:q<lv.length:=by omega
   simp only[tZ,↓uU,simprocAttr,hq,Ax,qd hq2,zB7,hwi,show ∀ a b:Int,repl (vI a) 0 (vI b)=vI b from fun _ _=>rfl]
   repeat (first | refine⟨oM,?_⟩ | refine⟨kR,?_⟩)
   refine⟨(i+1,lv.set q (max lv[q] (decN s a))),⟨by dsimp only;omega,by rw[Fy];exact y2,fun x hx=>?_,?_⟩,by dsimp only;omega,?_⟩
   ·rcases List.mem_or_eq_of_mem_set hx with h5 | h5
    ·exact y3 x h5
    ·rw[h5];omega
   ·dsimp only;rw[hstep,← y4,hq,zh2 (jP6 y3) oM,jP5 hq2]
   ·rw[← List.map_set];exact .oA (U2 4096 16396) []
 ·have hil:i=L.length:=by omega
  subst hil;rw[Bw] at y4;rw[← y4];simp only[Ax];refine⟨y2,?_⟩;rw[← y2];refine qt mixm (α:=Nat) [48,9] (fun i=>i≤lv.length) (fun i=>[(9,.asl 1 (canF (lvF lv) i).length),(48,vI i)]) (fun i=>[aR 16396 1 (lv.map vI),aR 1 2 ((canF (lvF lv) i).map pkT)]) (fun i=>lv.length-i) 0 oM ?_ fun j hj=>?_
  ·exact .oA [uI 16396,(1,none)] []
  have hcl:=zo8 (lvF lv) j;refine sD ?_;refine⟨fun h5=>?_,fun h5=>?_⟩
  ·have hj2:j<lv.length:=by omega
   have hwj:=qh (i:=j) oM;have hg:lvF lv j=lv[j]:=qj hj2;have hc:canF (lvF lv) (j+1)=canF (lvF lv) j++(if 0<lv[j] then [⟨(j:Nat),lv[j]⟩] else []):=by rw[canF,hg]
   simp only[tZ,↓uU,simprocAttr,Ax,qd hj2,hwj,gt_iff_lt,tD];refine⟨oM,oM,fun h6=>?_,fun h6=>?_⟩
   ·rw[Aj h6] at hc;refine⟨oM,j+1,oM,oM,?_⟩;rw[hc,By,AW];exact .oA (U2 16396 1) []
   ·rw[Aq h6,CW] at hc;refine⟨j+1,oM,oM,?_⟩;rw[hc];exact .oA (U2 16396 1) []
  ·rw[show lv.length=j by omega];exact .oA [] [1]
theorem qa6 (p n:Pk):Sp 131 [pkT p,.ip (pkT n).cells] [] (vB ((p.col==n.col)&&decide (p.lev≥n.lev))) []:=by
 refine sIr Yd fun e _ hst=>?_;unfold jZ;refine sW ?_;exact .oA [] []
theorem Qc (p:Pk→Bool) (f:FuncId) (caps:List T) (hcap:imL caps=true) (l:List Pk) (hf:∀ y∈l,Sp f (pkT y::caps) [] (vB (p y)) []) (hl:l.length<4611686018427387904) :
 Sp 70 [.sl 2 (l.map pkT),.clo f caps] [] (vI (idxI p l)) []:=by
 refine sIr Wj fun e _ hst=>?_;unfold jM;refine sW ?_;refine qt mixm (α:=Nat) [8] (fun i=>i≤l.length∧((l.take i).any p=false)) (fun i=>[(8,vI i)]) (fun i=>[]) (fun i=>l.length-i) 0 ⟨oM,?_⟩ ?_ fun i hi=>?_
 ·simp
 ·exact .oA [] []
 simp only[tZ,↓uU,simprocAttr,AZ,Ay];refine⟨fun h=>?_,fun h=>?_⟩
 ·have hi2:i<l.length:=by omega
  have hwi:=qh (i:=i) oM;simp only[tZ,↓uU,simprocAttr,Ax,qd hi2,hwi,qc0];refine⟨oM,?_⟩;refine C1.im (hf l[i] (AX hi2)) (Jb rfl hcap) rfl ?_;refine sW ?_;refine⟨fun h3=>?_,fun h3=>⟨i+1,⟨oM,zS hi2 hi.2 h3⟩,oM,?_⟩⟩
  ·rw[idxI,Aj (YG hi2 h3),yg hi2 hi.2 h3];exact .imR rfl rfl
  ·exact .oA [] []
 ·have h2:i=l.length:=by omega
  have h3:=hi.2;rw[h2,Bw] at h3;rw[idxI,Aq (by rw[h3];simp)];exact .imR rfl rfl
theorem jv (p:Pk→Bool) (f:FuncId) (caps:List T) (hcap:imL caps=true) (l:List Pk) (hf:∀ y∈l,Sp f (pkT y::caps) [] (vB (p y)) []) (hl:l.length<4611686018427387904) :
 Sp 129 [.sl 2 (l.map pkT),.clo f caps] [] (vB (l.any p)) []:=by
 refine sIr Jn fun e _ hst=>?_;unfold jl;refine sW ?_;refine C1.im (Qc p f caps hcap l hf hl) (qq8 rfl hcap) rfl ?_;refine sW ?_;rw[show decide (idxI p l≥0)=l.any p from ql4 p l];exact .imR rfl rfl
theorem qj3 (n:Pk) (a:List Pk) (ha:a.length<4611686018427387904):Sp 130 [pkT n,.ip [vPs a]] [] (vB (!(a.any fun y=>(y.col==n.col)&&decide (y.lev≥n.lev)))) []:=by
 refine sIr qd1 fun e _ hst=>?_;unfold kS;refine sW ?_;have hCF:=jv (fun y=>(y.col==n.col)&&decide (y.lev≥n.lev)) 131 [.ip (pkT n).cells] rfl a (fun y _=>qa6 y n) ha;refine C1.lend [4096] hCF ?_ rF rF ?_
 ·all_goals (try simp only[tL,simprocAttr,By,List.map_cons,List.map_nil,BW,Cy])
  all_goals (try (repeat' (first | exact zk | (apply zH;intro _;exact⟨rfl,rfl⟩) | (apply qw;intro _;exact⟨rfl,rfl⟩) | with_reducible apply ze | with_reducible refine qQ ⟨rfl,rfl⟩ ?_ | exact qR | with_reducible apply qZ | with_reducible refine zd ⟨rfl,rfl,?_⟩ ?_ | with_reducible apply Az | exact qY rfl | exact qY (by assumption) | (refine⟨⟨?_,rfl,?_,rfl,?_⟩,trivial⟩ <;> first | (simp;done) | (apply qw;intro _;exact⟨rfl,rfl⟩)) | trivial | rfl | (rw[qh oM]) | omega)))
  simp only[ltP];exact⟨rfl,by decide,rfl,qQ ⟨rfl,rfl⟩ qR⟩
 refine sW ?_;exact .oA [] []
theorem qw8 (a b:List Pk) (ha:a.length<4611686018427387904) (hb:b.length<4611686018427387904):Sp 67 [vPs a,vPs b] [] (vB (covB b a)) []:=by
 refine sIr qm4 fun e _ hst=>?_;unfold wS;refine sW ?_;have hCF:=jv (fun n=>!(a.any fun y=>(y.col==n.col)&&decide (y.lev≥n.lev))) 130 [.ip [vPs a]] rfl b (fun n _=>qj3 n a ha) hb;refine C1.lend [4096] hCF ?_ rF rF ?_
 ·all_goals (try simp only[tL,simprocAttr,By,List.map_cons,List.map_nil,BW,Cy])
  all_goals (try (repeat' (first | exact zk | (apply zH;intro _;exact⟨rfl,rfl⟩) | (apply qw;intro _;exact⟨rfl,rfl⟩) | with_reducible apply ze | with_reducible refine qQ ⟨rfl,rfl⟩ ?_ | exact qR | with_reducible apply qZ | with_reducible refine zd ⟨rfl,rfl,?_⟩ ?_ | with_reducible apply Az | exact qY rfl | exact qY (by assumption) | (refine⟨⟨?_,rfl,?_,rfl,?_⟩,trivial⟩ <;> first | (simp;done) | (apply qw;intro _;exact⟨rfl,rfl⟩)) | trivial | rfl | (rw[qh oM]) | omega)))
  simp only[ltP];exact⟨rfl,by decide,rfl,qQ ⟨rfl,rfl⟩ qR⟩
 refine sW ?_;rw[show (!(b.any fun n=>!(a.any fun y=>(y.col==n.col)&&decide (y.lev≥n.lev))))=covB b a by rw[covB,List.not_any_eq_all_not];simp];exact .oA [] []
def ordB (l:List (List Int)):Bool:=(List.range l.length).all fun i=>decide (0<(l.getD i []).length)&&(decide (i=0)||decide (hd (l.getD (i-1) [])<hd (l.getD i [])))
def hasK (l:List (List Int)) (k:Int):Bool:=l.any fun r=>hd r==k
def appR (a:List (List Int)) (g:List Int) (rs:List (List Int)):List (List Int):=rs.foldl putR (a.filter fun r=>!g.contains (hd r))
def ascI (l:List Int):Bool:=(List.range l.length).all fun i=>asc2 l i
def appE (a:Ext) (c:Chg):Int:=
 if ordB a.rows=false∨ordB c.rows=false∨ascI c.gone=false∨(c.rows.any fun r=>decide (r.length≠a.picks.length+1))=true then 11
 else if (c.gone.any fun k=>!hasK a.rows k)=true then 21 else if (c.gone.any fun k=>hasK c.rows k)=true then 10 else 0
structure ExtOk (x:Ext):Prop where
 ord:ordB x.rows=true
 len:∀ r∈x.rows,r.length=x.picks.length+1
open So
def RwSm (l:List (List Int)):Prop:=l.length≤1000000∧∀ r∈l,r.length*8≤140737488355328
structure ExtSm (x:Ext):Prop where
 rows:RwSm x.rows
 picks:x.picks.length*16≤140737488355328
structure ChgSm (c:Chg):Prop where
 rows:RwSm c.rows
 gone:c.gone.length≤1000000
theorem qa7 (p:Int→Bool) (f:FuncId) (caps:List T) (hcap:imL caps=true) (l:List Int) (hf:∀ y∈l,Sp f (vI y::caps) [] (vB (p y)) []) (hl:l.length<4611686018427387904) :
 Sp 251 [.sl 1 (l.map vI),.clo f caps] [] (vI (idxI p l)) []:=by
 refine sIr Ym fun e _ hst=>?_;unfold ke;refine sW ?_;refine qt mixm (α:=Nat) [8] (fun i=>i≤l.length∧((l.take i).any p=false)) (fun i=>[(8,vI i)]) (fun i=>[]) (fun i=>l.length-i) 0 ⟨oM,?_⟩ ?_ fun i hi=>?_
 ·simp
 ·exact .oA [] []
 simp only[tZ,↓uU,simprocAttr,AZ,Ay];refine⟨fun h=>?_,fun h=>?_⟩
 ·have hi2:i<l.length:=by omega
  have hwi:=qh (i:=i) oM;simp only[tZ,↓uU,simprocAttr,Ax,qd hi2,hwi,qc0];refine⟨oM,?_⟩;refine C1.im (hf l[i] (AX hi2)) (Jb rfl hcap) rfl ?_;refine sW ?_;refine⟨fun h3=>?_,fun h3=>⟨i+1,⟨oM,zS hi2 hi.2 h3⟩,oM,?_⟩⟩
  ·rw[idxI,Aj (YG hi2 h3),yg hi2 hi.2 h3];exact .imR rfl rfl
  ·exact .oA [] []
 ·have h2:i=l.length:=by omega
  have h3:=hi.2;rw[h2,Bw] at h3;rw[idxI,Aq (by rw[h3];simp)];exact .imR rfl rfl
def idxN (n:Int):List Int→Nat
 | []=>0
 | x::r=>if x=n then 0 else idxN n r+1
theorem jq9 {n:Int}:∀ {l:List Int} {i:Nat} (h:i<l.length),n∉l.take i→l[i]=n→idxN n l=i
 | [],i,h,_,_=>by simp at h
 | x::r,0,h,_,hp=>by simp at hp;simp [idxN,hp]
 | x::r,i+1,h,h1,hp=>by
   simp only[List.take_succ_cons,Ck,not_or] at h1;simp only[idxN];rw[Aq (fun e=>h1.1 e.symm),jq9 (l:=r) (i:=i) (by simpa using h) h1.2 (by simpa using hp)]
def zT9 (l:List Int) (n:Int):Int:=if n∈l then idxN n l else -1
theorem qw9 (l:List Int) (n:Int) (hl:l.length<4611686018427387904):Sp 174 [vIs l,vI n] [] (vI (zT9 l n)) []:=by
 refine sIr qn3 fun e _ hst=>?_;unfold wV;refine sW ?_;refine qt mixm (α:=Nat) [8] (fun i=>i≤l.length∧(n∉l.take i)) (fun i=>[(8,vI i)]) (fun i=>[]) (fun i=>l.length-i) 0 ⟨oM,?_⟩ ?_ fun i hi=>?_
 ·simp
 ·exact .oA [] []
 simp only[tZ,↓uU,simprocAttr,AZ,Ay];refine⟨fun h=>?_,fun h=>?_⟩
 ·have hi2:i<l.length:=by omega
  have hwi:=qh (i:=i) oM;simp only[tZ,↓uU,simprocAttr,Ax,qd hi2,hwi,AY,Ak];refine⟨oM,fun h3=>?_,fun h3=>⟨i+1,⟨oM,?_⟩,oM,?_⟩⟩
  ·have hm:n∈l:=by rw[h3];exact AX hi2
   rw[zT9,Aj hm,jq9 hi2 hi.2 h3.symm];exact .imR rfl rfl
  ·rw[qS hi2,Dz];rintro (h4 | h4)
   ·exact hi.2 h4
   ·simp at h4;exact h3 h4
  ·exact .oA [] []
 ·have h2:i=l.length:=by omega
  have h3:=hi.2;rw[h2,Bw] at h3;rw[zT9,Aq h3];exact .imR rfl rfl
theorem QU (l:List Int) (n:Int) (hl:l.length<4611686018427387904):Sp 105 [vIs l,vI n] [] (vB (l.contains n)) []:=by
 refine sIr YT fun e _ hst=>?_;unfold kz;refine sW ?_;refine C1.im (qw9 l n hl) rfl rF ?_;refine sW ?_;refine .imR ?_ rfl;unfold zT9;by_cases h:n∈l
 ·rw[Aj h,FJ.2 h];simp
 ·rw[Aq h];cases hc:l.contains n
  ·simp
  ·exact absurd (FJ.1 hc) h
end Go.Proofs
