/- A part of the proof: trees of Go values, short forms, contracts. -/
import Derived.Test.YtnfagfikoblhfaaGreatDoorK18
set_option linter.unusedSimpArgs false
set_option linter.unusedVariables false
namespace Go.Proofs
open Go Go.TL
set_option maxHeartbeats 4000000
abbrev upN (cs:List Cod) (v x:Nat):Nat:=upF cs v (x+1) x
theorem zc6 {cs:List Cod} {v x:Nat} (h:dep cs x≤v):upN cs v x=x:=zH0 h _
theorem je6 {cs:List Cod} (hp:qA4 cs) {v:Nat}:∀ x,x<cs.length→v≤dep cs x→dep cs (upN cs v x)=v∧upN cs v x≤x:=by
 intro x
 induction x using Nat.strongRecOn with
 | _ x ih=>
   intro hx hv;by_cases h:dep cs x≤v
   ·rw[zc6 h];exact⟨oM,BZ _⟩
   ·obtain⟨u1,u2,u3,u4⟩:=up_step hp (lev:=v) hx oM;have:=ih (parC cs x).toNat oM oM oM;rw[show upN cs v x=upN cs v (parC cs x).toNat from u4];exact⟨this.1,oM⟩
theorem zq1 {cs:List Cod} (hp:qA4 cs) {o v:Nat} (ho:o≤v):∀ x,x<cs.length→v≤dep cs x→upN cs o (upN cs v x)=upN cs o x:=by
 intro x
 induction x using Nat.strongRecOn with
 | _ x ih=>
   intro hx hv;by_cases h:dep cs x≤v
   ·rw[zc6 h]
   ·obtain⟨u1,u2,u3,u4⟩:=up_step hp (lev:=v) hx oM;obtain⟨_,_,_,u5⟩:=up_step hp (lev:=o) hx oM;rw[show upN cs v x=upN cs v (parC cs x).toNat from u4,show upN cs o x=upN cs o (parC cs x).toNat from u5];exact ih (parC cs x).toNat oM oM oM
theorem jo6 {l:CodL} (h:lstE l=0):∀ (k c:Nat),l.codes.length-c=k→c<l.codes.length→∀ v,dep l.codes c≤v→(v:Int)≤zA l-1→∃ d,d<l.codes.length∧dep l.codes d=v∧upN l.codes (dep l.codes c) d=c:=by
 intro k
 induction k using Nat.strongRecOn with
 | _ k ih=>
   intro c hk hc v hv ht;by_cases e:dep l.codes c=v
   ·exact⟨c,hc,e,zc6 (BZ _)⟩
   obtain⟨hp,h1,h2⟩:=zq h;obtain⟨t1,t2,t3⟩:=zw3 h hc;cases hl:qh5 l.codes c with
   | true=>have:=t2 hl;omega
   | false=>
     have hn:¬ ∀ i,i<l.codes.length→parC l.codes i≠c:=fun k=>by rw[zc1.2 k] at hl;cases hl
     simp only[Classical.not_forall] at hn;obtain⟨i,hi,hn⟩:=hn;have hpc:parC l.codes i=c:=AQ hn;have h3:=hp i hi;have h4:=qu0 hp hi oM;rw[hpc,Ax] at h4;obtain⟨d,d1,d2,d3⟩:=ih (l.codes.length-i) oM i rfl hi v oM ht;refine⟨d,d1,d2,?_⟩;have h5:=zq1 hp (o:=dep l.codes c) (v:=dep l.codes i) oM d d1 oM;rw[← h5,d3];obtain⟨_,_,_,u5⟩:=up_step hp (lev:=dep l.codes c) hi oM;rw[show upN l.codes (dep l.codes c) i=upN l.codes (dep l.codes c) (parC l.codes i).toNat from u5,hpc,Ax];exact zc6 (BZ _)
theorem jo7 {α:Type} [DecidableEq α]:∀ {a b:List α},a.Nodup→(∀ x∈a,x∈b)→a.length≤b.length
 | [],_,_,_=>Nat.zero_le _
 | x::r,b,hn,hs=>by
   rw[List.nodup_cons] at hn;have hx:=hs x (List.mem_cons_self ..);have:=jo7 (a:=r) (b:=b.erase x) hn.2 fun y hy=>(List.mem_erase_of_ne (fun e=>hn.1 (by rw[← e];exact hy))).2 (hs y (CQ _ hy));rw[List.length_erase_of_mem hx] at this;have:=List.length_pos_of_mem hx;simp only[CJ];omega
abbrev lvN (cs:List Cod) (v:Nat):List Nat:=(List.range cs.length).filter fun i=>(dep cs i:Int)==v
theorem Wv {cs:List Cod} {v x:Nat}:x∈lvN cs v↔x<cs.length∧dep cs x=v:=by
 rw[Fx,Dk,AY];omega
theorem je7 (cs:List Cod) (v:Nat):(lvN cs v).Nodup:=List.Nodup.sublist List.filter_sublist List.nodup_range
theorem jC5 {l:CodL} (h:lstE l=0) (v:Nat):(atL l v).length=(lvN l.codes v).length:=by
 rw[atL,Aq (by rw[h];simp),BY]
theorem jx0 {l:CodL} (h:lstE l=0) {o v:Nat} (ho:o≤v) (hv:(v:Int)≤zA l-1):(lvN l.codes o).length≤(lvN l.codes v).length:=by
 obtain⟨hp,h1,h2⟩:=zq h;rw[show (lvN l.codes v).length=((lvN l.codes v).map (upN l.codes o)).length by rw[BY]];refine jo7 (je7 _ _) fun c hc=>?_;rw[Wv] at hc;obtain⟨d,d1,d2,d3⟩:=jo6 h _ c rfl hc.1 v oM hv;rw[hc.2] at d3;exact Cj.2 ⟨d,Wv.2 ⟨d1,d2⟩,d3⟩
theorem jI4 {l:CodL} (h:lstE l=0) {o v:Nat} (ho:o≤v) (hv:(v:Int)≤zA l-1):(lvN l.codes o).length=(lvN l.codes v).length↔∀ a b,a<l.codes.length→b<l.codes.length→dep l.codes a=v→dep l.codes b=v→upN l.codes o a=upN l.codes o b→a=b:=by
 obtain⟨hp,h1,h2⟩:=zq h;constructor
 ·intro e a b ha hb da db hab;refine AQ fun hne=>?_;have ma:a∈lvN l.codes v:=Wv.2 ⟨ha,da⟩;have mb:b∈(lvN l.codes v).erase a:=(List.mem_erase_of_ne (fun e=>hne e.symm)).2 (Wv.2 ⟨hb,db⟩);have:=jo7 (a:=lvN l.codes o) (b:=((lvN l.codes v).erase a).map (upN l.codes o)) (je7 _ _) fun c hc=>by
   rw[Wv] at hc;obtain⟨d,d1,d2,d3⟩:=jo6 h _ c rfl hc.1 v oM hv;rw[hc.2] at d3;by_cases k:d=a
   ·exact Cj.2 ⟨b,mb,by rw[← hab,← k,d3]⟩
   ·exact Cj.2 ⟨d,(List.mem_erase_of_ne k).2 (Wv.2 ⟨d1,d2⟩),d3⟩
  rw[BY,List.length_erase_of_mem ma] at this;have:=List.length_pos_of_mem ma;omega
 ·intro hi;refine Nat.le_antisymm (jx0 h ho hv) ?_;rw[show (lvN l.codes v).length=((lvN l.codes v).map (upN l.codes o)).length by rw[BY]];refine jo7 ?_ fun c hc=>?_
  ·rw[List.Nodup,List.pairwise_map];refine List.Pairwise.imp_of_mem ?_ (je7 l.codes v);intro a b ha hb hne e;rw[Wv] at ha hb;exact hne (hi a b ha.1 hb.1 ha.2 hb.2 e)
  ·obtain⟨d,hd,rfl⟩:=Cj.1 hc;rw[Wv] at hd;have:=je6 hp (v:=o) d hd.1 oM;exact Wv.2 ⟨oM,this.1⟩
theorem qL0 {a k m:Int} (hk:1≤k) (hm:0≤m):qQ a k≤qQ (a+m) k∧qQ (a+m) k≤qQ a k+m:=by
 unfold qQ;rw[DW _ oM,DW _ oM];have h1:=Int.mul_ediv_add_emod a k;have h2:=Int.emod_nonneg a (b:=k) oM;have h3:=Int.emod_lt_of_pos a (b:=k) oM;have h4:=Int.mul_ediv_add_emod (a+m) k;have h5:=Int.emod_nonneg (a+m) (b:=k) oM;have h6:=Int.emod_lt_of_pos (a+m) (b:=k) oM;constructor
 ·refine AQ fun c=>?_;have:k*((a+m) / k+1)≤k*(a / k):=Int.mul_le_mul_of_nonneg_left oM oM;rw[Int.mul_add] at this;omega
 ·refine AQ fun c=>?_;have:k*(a / k+m+1)≤k*((a+m) / k):=Int.mul_le_mul_of_nonneg_left oM oM;rw[Int.mul_add,Int.mul_add] at this;have h7:1*m≤k*m:=Int.mul_le_mul_of_nonneg_right hk hm;omega
theorem jI5 {a w k:Int} (hw:1≤w) (hk:1≤k):qQ a (k*w)=qQ (qQ a w) k:=by
 have hkw:0≤k*w:=Int.mul_nonneg oM oM;unfold qQ;rw[DW _ (show 0≤w by omega),DW _ (show 0≤k by omega),DW _ hkw,Int.mul_comm,Int.ediv_ediv_of_nonneg oM]
theorem zw5 {a k:Int} (hk:1≤k):(k ∣ a+1→qQ (a+1) k=qQ a k+1)∧(¬ k ∣ a+1→qQ (a+1) k=qQ a k):=by
 unfold qQ;rw[DW _ oM,DW _ oM];have h1:=Int.mul_ediv_add_emod a k;have h2:=Int.emod_nonneg a (b:=k) oM;have h3:=Int.emod_lt_of_pos a (b:=k) oM;constructor
 ·rintro ⟨q,hq⟩;rw[hq,Int.mul_ediv_cancel_left _ oM];have:q=a / k+1:=by
   have e:k*(q-(a / k+1))=a % k+1-k:=by rw[Int.mul_sub,Int.mul_add];omega
   have h4:q-(a / k+1)=0:=by
    refine AQ fun c=>?_;rcases Int.lt_or_gt_of_ne c with c | c
    ·have:k*(q-(a / k+1))≤k*(-1):=Int.mul_le_mul_of_nonneg_left oM oM;omega
    ·have:k*1≤k*(q-(a / k+1)):=Int.mul_le_mul_of_nonneg_left oM oM;omega
   omega
  exact this
 ·intro hn;refine ((Int.ediv_emod_unique (r:=a % k+1) (q:=a / k) (show 0<k by omega)).2 ⟨oM,oM,?_⟩).1;refine AQ fun c=>hn ⟨a / k+1,?_⟩;rw[Int.mul_add];omega
set_option maxRecDepth 4000
set_option maxHeartbeats 8000000
theorem jx1 {ws:List Int} (hw:∀ j,j<ws.length→wdOk ws j=true) {i:Nat}:∀ d,i+d<ws.length→∃ k:Int,1≤k∧ws.getD (i+d) 0=k*ws.getD i 0∧(0<d→2≤k)
 | 0,h=>⟨1,oM,sMp,oM⟩
 | d+1,h=>by
   obtain⟨k,k1,k2,_⟩:=jx1 hw d (i:=i) oM;have h1:=hw (i+d+1) oM;rw[wdOk,Aq oM] at h1;simp only[Bq,AZ,AY,Nat.add_sub_cancel] at h1;have hp:=zo0 (ws:=ws) hw (i+d) oM;obtain⟨⟨a1,a2⟩,a3⟩:=h1;have h2:=Int.mul_tdiv_add_tmod (ws.getD (i+d+1) 0) (ws.getD (i+d) 0);rw[a3,Int.add_zero] at h2;generalize (ws.getD (i+d+1) 0).tdiv (ws.getD (i+d) 0)=q at h2;have hq:2≤q:=AQ fun c=>by
    have:ws.getD (i+d) 0*q≤ws.getD (i+d) 0*1:=Int.mul_le_mul_of_nonneg_left oM oM;omega
   have hkq:2*1≤q*k:=Int.mul_le_mul hq k1 oM oM;refine⟨q*k,oM,?_,fun _=>by omega⟩;rw[show i+(d+1)=i+d+1 from rfl,← h2,k2,Int.mul_assoc,Int.mul_comm q k,Int.mul_assoc,Int.mul_comm q]
theorem SchOk.wdv {s:Sch} (h:SchOk s) {i:Nat} (hi:i<s.cols.length) (h0:0<i) (hk:(qg s i).kind≠2) {o lev:Nat} (ho:1≤o∧o<lev) (hl:lev≤(qg s i).widths.length):∃ k:Int,2≤k∧qU (qg s i) o=k*qU (qg s i) lev:=by
 have hk2:=zo (h.cs i hi);have hk3:(qg s i).kind=3:=by have:=hk2.2.2.1 h0;omega
 have hm:=hk2.2.2.2.2 hk3;generalize qg s i=c at hl hm hk3 ⊢
 unfold measE at hm;split at hm
 ·cases hm
 rename_i h1;split at hm
 ·cases hm
 rename_i h2;split at hm
 ·cases hm
 rename_i h3;rw[Ez] at h3;have hw:∀ j,j<c.widths.length→wdOk c.widths j=true:=fun j hj=>Bk.1 h3 j (Dk.2 hj);obtain⟨k,_,k2,k3⟩:=jx1 hw (i:=c.widths.length-lev) (lev-o) oM;refine⟨k,k3 oM,?_⟩;rw[qU,qU,show ((c.widths.length:Int)-o).toNat=c.widths.length-lev+(lev-o) by omega,show ((c.widths.length:Int)-lev).toNat=c.widths.length-lev by omega];exact k2
def blkI (s:Sch) (i lev:Nat):Int:=
 if (qg s i).kind=2 then ((lvN (qX s i).codes lev).length:Int)
 else if lev=0 then 1 else qQ (qg s i).high (qU (qg s i) lev)-qQ (qg s i).low (qU (qg s i) lev)+1+(if (qg s i).opt=true then 1 else 0)
theorem zq2 {n:Nat} {p:Nat→Nat→Bool}:qu3 n p=true↔∀ a,a<n→∀ b,b<a→p a b=true:=by
 unfold qu3;simp only[Bk,Dk]
theorem Qe {s:Sch} (h:SchOk s) {i:Nat} (hi:i<s.cols.length) (h2:(qg s i).kind=2) {x:Int}:x∈zd s i↔∃ c:Nat,x=c∧c<(qX s i).codes.length∧(dep (qX s i).codes c:Int)=zA (qX s i)-1:=by
 obtain⟨_,d2⟩:=h.cdl hi h2;unfold zd atL;rw[Aq (by rw[d2];simp),Cj];constructor
 ·rintro ⟨c,hc,rfl⟩;rw[Fx,Dk,AY] at hc;exact⟨c,rfl,hc.1,hc.2⟩
 ·rintro ⟨c,rfl,h1,h3⟩;exact⟨c,Fx.2 ⟨Dk.2 h1,AY.2 h3⟩,rfl⟩
theorem Ja {s:Sch} (h:SchOk s) {i:Nat} (hi:i<s.cols.length) (h2:(qg s i).kind=2) {c v:Nat} (hc:c<(qX s i).codes.length) (hd:(dep (qX s i).codes c:Int)=zA (qX s i)-1) (hv:(v:Int)≤finI s i) (hf:finI s i=zA (qX s i)-1):qt s i v c=upN (qX s i).codes v c:=by
 obtain⟨_,d2⟩:=h.cdl hi h2;have hh:qV s i c=true:=by
  rw[qV,Aq oM,Aj h2,Bq,Qr,AY,lvlC,Aq (not_or.2 ⟨fun h=>h d2,oM⟩),Ax];exact⟨oM,hd⟩
 rw[qt,Aq (by rw[Ez,Qr];omega),Ax,Aj h2,Aq (by rw[hh];simp),upC,Aq (not_or.2 ⟨fun h=>h d2,by rw[Ax];omega⟩),Ax,Ax]
theorem zc7 {s:Sch} (hE:schE s=0) {i:Nat} (hi:i<s.cols.length) (h0:0<i) {o lev:Nat} (ho:o≤lev) (hl:(lev:Int)≤finI s i):blkI s i o≤blkI s i lev∧(divB s i o lev=true↔blkI s i o=blkI s i lev):=by
 have hok:=zc hE;by_cases e:o=lev
 ·subst e;exact⟨oM,by rw[zH2];simp⟩
 obtain⟨_,c1,c2,hfin⟩:=ZT (s:=s) (c:=i) oM;rw[Ax] at hfin;by_cases h2:(qg s i).kind=2
 ·obtain⟨_,d2⟩:=hok.cdl hi h2;rw[Aj h2] at hfin;unfold blkI;rw[Aj h2,Aj h2];have hle:=jx0 d2 (o:=o) (v:=lev) oM oM;refine⟨oM,?_⟩;rw[show ((lvN (qX s i).codes o).length:Int)=((lvN (qX s i).codes lev).length:Int)↔(lvN (qX s i).codes o).length=(lvN (qX s i).codes lev).length by omega,jI4 d2 oM oM];unfold divB;rw[Aq oM,Aj h2,zq2];have hP:∀ j k,(zd s i).getD j 0∈zd s i→(zd s i).getD k 0∈zd s i→(divP s i (zd s i) o lev j k=true↔(qt s i o ((zd s i).getD j 0)=qt s i o ((zd s i).getD k 0)→qt s i lev ((zd s i).getD j 0)=qt s i lev ((zd s i).getD k 0))):=fun j k _ _=>by
   unfold divP;simp only[Bx,FK,Bz,AY,Ak];constructor
   ·rintro (h | h) k
    ·exact h
    ·exact absurd k h
   ·intro h;by_cases k:qt s i o ((zd s i).getD j 0)=qt s i o ((zd s i).getD k 0)
    ·exact .inl (h k)
    ·exact .inr k
  have hmem:∀ j,j<(zd s i).length→(zd s i).getD j 0∈zd s i:=fun j hj=>by rw[qk hj];exact AX hj
  obtain⟨hp,p1,p2⟩:=zq d2;constructor
  ·intro H a b ha hb da db hab;obtain⟨x,x1,x2,x3⟩:=jo6 d2 _ a rfl ha (zA (qX s i)-1).toNat oM oM;obtain⟨y,y1,y2,y3⟩:=jo6 d2 _ b rfl hb (zA (qX s i)-1).toNat oM oM;rw[da] at x3;rw[db] at y3;have hx:(x:Int)∈zd s i:=(Qe hok hi h2).2 ⟨x,rfl,x1,oM⟩;have hy:(y:Int)∈zd s i:=(Qe hok hi h2).2 ⟨y,rfl,y1,oM⟩;have ux:upN (qX s i).codes o x=upN (qX s i).codes o y:=by
    rw[← zq1 hp (o:=o) (v:=lev) oM x x1 oM,← zq1 hp (o:=o) (v:=lev) oM y y1 oM,x3,y3,hab]
   obtain⟨j,hj,ej⟩:=CX hx;obtain⟨k,hk,ek⟩:=CX hy;rw[← qk (d:=0) hj] at ej;rw[← qk (d:=0) hk] at ek;have cl:=fun c (hc:c<(qX s i).codes.length) (hd:(dep (qX s i).codes c:Int)=zA (qX s i)-1) (v:Nat) (hv:(v:Int)≤finI s i)=>Ja hok hi h2 (v:=v) hc hd hv hfin;have fin:qt s i lev x=qt s i lev y→a=b:=fun e=>by
    rw[cl x x1 oM lev hl,cl y y1 oM lev hl,x3,y3] at e;omega
   have eo:qt s i o x=qt s i o y:=by rw[cl x x1 oM o oM,cl y y1 oM o oM,ux]
   rcases Nat.lt_trichotomy j k with q | q | q
   ·have:=(hP k j (hmem k hk) (hmem j hj)).1 (H k hk j q);rw[ej,ek] at this;exact fin (this eo.symm).symm
   ·subst q;rw[ej] at ek;exact fin (by rw[ek])
   ·have:=(hP j k (hmem j hj) (hmem k hk)).1 (H j hj k q);rw[ej,ek] at this;exact fin (this eo)
  ·intro H j hj k hk;rw[hP j k (hmem j hj) (hmem k oM)];obtain⟨x,x0,x1,x2⟩:=(Qe hok hi h2).1 (hmem j hj);obtain⟨y,y0,y1,y2⟩:=(Qe hok hi h2).1 (hmem k oM);rw[x0,y0,Ja hok hi h2 x1 x2 oM hfin,Ja hok hi h2 y1 y2 oM hfin,Ja hok hi h2 x1 x2 hl hfin,Ja hok hi h2 y1 y2 hl hfin];intro e;have ux:=je6 hp (v:=lev) x x1 oM;have uy:=je6 hp (v:=lev) y y1 oM;have:=H (upN (qX s i).codes lev x) (upN (qX s i).codes lev y) oM oM ux.1 uy.1 (by
    rw[zq1 hp oM x x1 oM,zq1 hp oM y y1 oM];omega)
   rw[this]
 rw[Aq h2] at hfin;obtain⟨w1,w2,w3,w4,w5,w6,w7,_⟩:=hok.wid hi h0 h2 (lev:=lev) oM;unfold blkI divB;simp only[Aq h2,Aq (show ¬ lev=0 by omega),Aq (show ¬ (lev=0∨lev≤o) by omega)];obtain⟨m,hm⟩:=AJ (show 0≤(qg s i).high-(qg s i).low by omega);generalize hW:qU (qg s i) lev=w at w1 w2 ⊢
 have hab:=qL0 (a:=(qg s i).low) (k:=w) (m:=m) w1 oM;rw[show (qg s i).low+(m:Int)=(qg s i).high by omega] at hab;have f0:∀ c,c*w>(qg s i).high↔qQ (qg s i).high w<c:=fun c=>by
  have h3:=yp (v:=(qg s i).high) (w:=w) oM;constructor
  ·intro h;refine AQ fun z=>?_;have:c*w≤qQ (qg s i).high w*w:=Int.mul_le_mul_of_nonneg_right oM oM;omega
  ·intro h;have:(qQ (qg s i).high w+1)*w≤c*w:=Int.mul_le_mul_of_nonneg_right oM oM;rw[Int.add_mul] at this;omega
 by_cases o0:o=0
 ·simp only[Aj o0];cases (qg s i).opt
  ·simp only[Bool.not_false,Fj,AZ,f0,EX,if_false];omega
  ·simp only[Bool.not_true,Bool.false_and,if_true,EX,false_iff];omega
 simp only[Aq o0];obtain⟨k,k1,k2⟩:=hok.wdv hi h0 h2 (o:=o) (lev:=lev) oM oM;rw[hW] at k2;rw[k2,jI5 w1 oM,jI5 w1 oM];have f3:∀ x:Int,(x*w).tmod (k*w)=0↔k ∣ x:=fun x=>by
  constructor
  ·intro h;obtain⟨q,hq⟩:=Int.dvd_of_tmod_eq_zero h;exact⟨q,Int.eq_of_mul_eq_mul_right (show w≠0 by omega) (by rw[hq,Int.mul_assoc,Int.mul_assoc,Int.mul_comm w])⟩
  ·rintro ⟨q,rfl⟩;rw[Int.mul_assoc,Int.mul_comm q,← Int.mul_assoc,Int.mul_tmod_right]
 have f2:(qQ (qg s i).low w+1)*w+w=(qQ (qg s i).low w+1+1)*w:=by rw[Int.add_mul (_+1) 1,Int.one_mul]
 have hD:divM (qg s i).high w (k*w) 2 ((qQ (qg s i).low w+1)*w)=true↔qQ (qg s i).high w<qQ (qg s i).low w+1∨(k ∣ qQ (qg s i).low w+1∧(qQ (qg s i).high w<qQ (qg s i).low w+1+1∨k ∣ qQ (qg s i).low w+1+1)):=by
  rw[divM,divM,divM,f2];simp only[f0,ne_eq,f3];split
  ·rename_i h;simp only[h,true_or,iff_true]
  ·rename_i h;split
   ·rename_i h4;simp only[h,h4,false_and,or_self,EX]
   ·rename_i h4;rw[Classical.not_not] at h4;split
    ·rename_i h5;simp only[h4,h5,true_or,and_true,or_true]
    ·rename_i h5;split
     ·rename_i h6;simp only[h,h5,h6,or_self,and_false,EX]
     ·rename_i h6;rw[Classical.not_not] at h6;simp only[h4,h6,or_true,and_true]
 rw[hD];generalize qQ (qg s i).high w=b at hab ⊢
 generalize qQ (qg s i).low w=a at hab ⊢
 obtain⟨n,hn⟩:=AJ (show 0≤b-a by omega);have e0:=qL0 (a:=a) (k:=k) (m:=n) oM oM;rw[show a+(n:Int)=b by omega] at e0;refine⟨oM,?_⟩;by_cases q0:n=0
 ·have:b=a:=by omega
  subst this;exact⟨fun _=>by omega,fun _=>.inl oM⟩
 obtain⟨s1,s2⟩:=zw5 (a:=a) (k:=k) oM;have e1:=qL0 (a:=a+1) (k:=k) (m:=b-a-1) oM oM;rw[show a+1+(b-a-1)=b by omega] at e1;by_cases d1:k ∣ a+1
 ·have s1:=s1 d1;by_cases q1:n=1
  ·have:b=a+1:=by omega
   subst this;exact⟨fun _=>by omega,fun _=>.inr ⟨d1,.inl oM⟩⟩
  ·have d2:¬ k ∣ a+1+1:=by
    rintro ⟨p,hp⟩;obtain⟨r,hr⟩:=d1;have:k*(p-r)=1:=by rw[Int.mul_sub];omega
    have:=Int.le_of_dvd oM ⟨_,this.symm⟩;omega
   obtain⟨_,s4⟩:=zw5 (a:=a+1) (k:=k) oM;have s4:=s4 d2;have e2:=qL0 (a:=a+1+1) (k:=k) (m:=b-a-2) oM oM;rw[show a+1+1+(b-a-2)=b by omega] at e2;refine⟨fun h=>?_,fun h=>by omega⟩;rcases h with h | ⟨_,h | h⟩
   ·omega
   ·omega
   ·exact absurd h d2
 ·have s2:=s2 d1;refine⟨fun h=>?_,fun h=>by omega⟩;rcases h with h | ⟨h,_⟩
  ·omega
  ·exact absurd h d1
theorem YQ (s:Sch) (hE:schE s=0) (i:Nat) (hi:i<s.cols.length) (h0:0<i) (lev:Nat) (hl:(lev:Int)≤finI s i):Sp 193 [schT s,vI i,vI lev] [] (vI (blkI s i lev)) []:=by
 have hok:=zc hE;obtain⟨_,c1,c2,hfin⟩:=ZT (s:=s) (c:=i) oM;rw[Ax] at hfin;have hat:qg s i=s.cols[i]:=by rw[qg,qk hi]
 have hk:=zo (hok.cs i hi);have hcd:=fun e=>hok.cdl hi e;have hwd:=fun e l=>hok.wid hi oM e (lev:=l);have hcl:qX s i=s.lists.getD s.cols[i].list.toNat default:=by rw[qX,hat]
 have hE2:blkI s i lev=if s.cols[i].kind=2 then ((lvN (qX s i).codes lev).length:Int)
  else if lev=0 then 1 else qQ s.cols[i].high (qU s.cols[i] lev)-qQ s.cols[i].low (qU s.cols[i] lev)+1+(if s.cols[i].opt=true then 1 else 0):=by rw[blkI,hat]
 rw[hE2];rw[hat] at hk hcd hwd hfin;rw[hcl] at hcd ⊢
 refine sIr qz5 fun e _ hst=>?_;unfold QI;simp only[tZ,↓un_u,simprocAttr,Ax,qd hi];generalize s.cols[i]=x at hk hcd hwd hfin ⊢
 simp only[tZ,↓un_u,simprocAttr,tD,AY,Ak];refine⟨oM,fun h2=>?_,fun h2=>⟨fun h3=>?_,fun h3=>?_⟩⟩
 ·rw[Aj h2];obtain⟨d1,d2⟩:=hcd h2;obtain⟨d3,d4⟩:=hk.2.2.2.1 h2;have hgl:s.lists.getD x.list.toNat default=s.lists[x.list.toNat]:=qk d1;rw[hgl] at d2 ⊢
  simp only[tZ,↓un_u,simprocAttr,qd d1];generalize s.lists[x.list.toNat]=l at d2 ⊢
  refine⟨oM,?_⟩;refine C1.im (qu9 l lev) rF rF ?_;rw[← jC5 d2];refine sW ?_;exact .oA [] []
 ·rw[Aq h2,Aj oM];exact .oA [] []
 rw[Aq h2,Aq oM];rw[Aq h2] at hfin;obtain⟨w1,w2,w3,w4,w5,w6,w7,_⟩:=hwd h2 lev oM;refine C1.im (qe0 x lev oM oM) rF rF ?_;generalize qU x lev=w at w1 w2 ⊢
 have h4:=yp (v:=x.high) (w:=w) oM;have h5:=yp (v:=x.low) (w:=w) oM;obtain⟨m,hm⟩:=AJ (show 0≤x.high-x.low by omega);have hab:=qL0 (a:=x.low) (k:=w) (m:=m) w1 oM;rw[show x.low+(m:Int)=x.high by omega] at hab;have wa:IntKind.i64.wrap (qQ x.high w*w-qQ x.low w*w)=qQ x.high w*w-qQ x.low w*w:=AK _ oM;have wb:(qQ x.high w*w-qQ x.low w*w).tdiv w=qQ x.high w-qQ x.low w:=by rw[← Int.sub_mul,Int.mul_tdiv_cancel _ oM]
 have wc:IntKind.i64.wrap (qQ x.high w-qQ x.low w)=qQ x.high w-qQ x.low w:=AK _ oM;have wd:IntKind.i64.wrap (qQ x.high w-qQ x.low w+1)=qQ x.high w-qQ x.low w+1:=AK _ oM;have we:IntKind.i64.wrap (qQ x.high w-qQ x.low w+1+1)=qQ x.high w-qQ x.low w+1+1:=AK _ oM;refine sW ?_;refine C1.im (Wu x.high w oM oM) rF rF ?_;refine sW ?_;refine C1.im (Wu x.low w oM oM) rF rF ?_;simp only[tZ,↓un_u,simprocAttr,wa,wb,wc,wd,we]
 repeat (first | refine⟨oM,?_⟩ | refine⟨kR,?_⟩)
 refine⟨fun h6=>?_,fun h6=>?_⟩
 ·rw[Aj h6];exact .oA [] []
 ·rw[Aq (by rw[h6];simp),Int.add_zero];exact .oA [] []
theorem zH8 {p:Nat→Bool} {N:Nat}:∀ (f n:Nat),n≤N→N-n<f→p N=true→(∀ m,n≤m→m<N→p m=false)→WD p f n=N
 | 0,n,h1,h2,_,_=>by omega
 | f+1,n,h1,h2,h3,h4=>by
   rw[WD];by_cases e:n=N
   ·subst e;rw[Aj h3]
   ·rw[Aq (by rw[h4 n (BZ _) oM];simp)];exact zH8 f (n+1) oM oM h3 fun m h5 h6=>h4 m oM h6
theorem qe1 (s:Sch) (hs:yZ s) (c lev:Int):Sp 134 [schT s,vI c,vI lev] [] (vI (wl s c lev)) []:=by
 refine sIr qH9 fun e _ hst=>?_;unfold ZD;refine sW ?_;refine C1.im (yq s hs c) rF rF ?_;refine sD ?_;refine⟨fun h=>?_,fun h=>?_⟩
 ·rw[wl,Aj (qK0.2 oM)];exact .oA [] []
 rw[wl,Aq (by rw[qK0];omega)];obtain⟨hE,c1,c2,hfin⟩:=ZT (s:=s) (c:=c) oM;have hfl:=YN (c:=c) hE;have hok:=zc hE;obtain⟨i,rfl⟩:=AJ (show 0≤c by omega);obtain⟨v,rfl⟩:=AJ (show 0≤lev by omega);simp only[Ax];have hi:i<s.cols.length:=by omega
 have key:∀ n,n≤v→blkI s i n=blkI s i v→(n=0∨blkI s i (n-1)≠blkI s i n)→WD (fun n=>divB s i n v) 64 0=n:=fun n h1 h2 h3=>by
  refine zH8 64 0 oM oM ((zc7 hE hi oM h1 oM).2.2 h2) fun m _ hm=>?_;cases e:divB s i m v with
  | false=>rfl
  | true=>
    have e1:=(zc7 hE hi oM (show m≤v by omega) oM).2.1 e;have e2:=(zc7 hE hi oM (show m≤n-1 by omega) oM).1;have e3:=(zc7 hE hi oM (show n-1≤n by omega) oM).1;omega
 refine qy mixm (α:=Nat) [2,17] (fun n=>n≤v∧blkI s i n=blkI s i v) (fun n=>[(2,vI n)]) (fun n=>[aR 4096 2 [schT s]]) (fun n=>n) v ⟨oM,rfl⟩ ?_ fun n hn=>?_
 ·exact .oA (U1 4096) []
 obtain⟨n1,n2⟩:=hn;rcases DQ n with hz | hz
 ·subst hz;have e0:decide (((0:Nat):Int)>0)=false:=by decide
  simp only[tZ,↓un_u,simprocAttr,e0];refine C2.no (fun h=>h) ?_;refine sW ?_;refine C2.no (fun h=>h) ?_;refine sW ?_
  repeat (first | refine⟨oM,?_⟩ | refine⟨kR,?_⟩)
  rw[key 0 oM n2 (.inl rfl)];exact .oA [] []
 ·obtain⟨k,rfl⟩:∃ k,n=k+1:=⟨n-1,oM⟩;have e0:decide (((k+1:Nat):Int)>0)=true:=Cx oM;have e3:=wV (i:=k+1) oM oM;rw[Nat.add_sub_cancel] at e3;simp only[tZ,↓un_u,simprocAttr,e0,e3];refine C2.im (fun _=>YQ s hE i hi oM k oM) (fun _=>rfl) rF ?_;refine sW ?_;refine C2.im (fun _=>YQ s hE i hi oM (k+1) oM) (fun _=>rfl) rF ?_;simp only[tZ,↓un_u,simprocAttr,AY,Ak,e3]
  repeat (first | refine⟨oM,?_⟩ | refine⟨kR,?_⟩)
  refine⟨fun h5=>?_,fun h5=>?_⟩
  ·refine⟨k,⟨oM,oM⟩,oM,?_⟩;exact .oA (U1 4096) []
  ·rw[key (k+1) oM n2 (.inr h5)];exact .oA [] []
theorem qv0:∀ (c:Cnd) (m:Int),0≤m→m≤1000→Sp 150 [cnT c,vI m] [] (vI (cntC c (m+1))) []:=by
 refine Cnd.ind' fun c ih m hm hm2=>?_;rw[QT];refine sIr qm4 fun e _ hst=>?_;unfold yg;refine sW ?_;refine qy mixm (α:=Nat×Int) [5,11] (fun y=>y.1≤c.kids.length∧ky c.kids (m+1) 1=ky (c.kids.drop y.1) (m+1) y.2∧y.2≤m+1∧y.1+1≤y.2) (fun y=>[(5,vI y.2),(11,vI y.1)]) (fun y=>[]) (fun y=>c.kids.length-y.1) (0,1) ⟨sMp,rfl,by dsimp only;omega,sMp⟩ ?_ fun y hy=>?_
 ·exact .oA [] []
 obtain⟨i,n⟩:=y;obtain⟨y1,y2,y3,y4⟩:=hy;dsimp only at y1 y2 y3 y4;rw[y2];refine sD ?_;refine⟨fun h=>?_,fun h=>?_⟩
 ·have hi:i<c.kids.length:=by omega
  have hwi:=qh (i:=i) oM;rw[zb5 hi,ky];simp only[tZ,↓un_u,simprocAttr,Ax,qd hi,zp,tD];refine⟨oM,fun h2=>?_,fun h2=>?_⟩
  ·rw[Aq oM];exact .oA [] []
  have hw:IntKind.i64.wrap (m-n)=m-n:=AK _ oM;have hc:=qx3 c.kids[i] (m-n+1) oM;have e1:m+1-n=m-n+1:=by omega
  have hw2:IntKind.i64.wrap (n+cntC c.kids[i] (m-n+1))=n+cntC c.kids[i] (m-n+1):=AK _ oM;rw[Aj oM,e1];simp only[tZ,↓un_u,simprocAttr,hw];refine C1.im (ih _ (AX hi) (m-n) oM oM) rF rF ?_;simp only[tZ,↓un_u,simprocAttr,hw2,hwi];refine⟨(i+1,n+cntC c.kids[i] (m-n+1)),⟨by dsimp only;omega,rfl,by dsimp only;omega,by dsimp only;omega⟩,by dsimp only;omega,?_⟩;exact .oA [] []
 ·rw[List.drop_of_length_le oM,ky];exact .oA [] []
theorem qA8:∀ (c:Cnd) (m:Int),1≤m→m≤1000→cntC c m<m→Sp 151 [cnT c] [] (vI (depC c)) []:=by
 refine Cnd.ind' fun c ih m hm hm2 hc=>?_;have hd:=jd3 c m hm hc;rw[QT] at hc hd;obtain⟨hk1,hk2⟩:=qa6 oM hc;rw[qu2] at hd ⊢
 refine sIr qt0 fun e _ hst=>?_;unfold yR;refine sW ?_;refine qy mixm (α:=Nat) [3,9] (fun i=>i≤c.kids.length) (fun i=>[(3,vI (jU (c.kids.take i))),(9,vI i)]) (fun i=>[]) (fun i=>c.kids.length-i) 0 oM ?_ fun i hi=>?_
 ·refine .of [] [] rfl (by first | rfl | (rw[hst];rfl)) ?_ ?_
  all_goals (try simp only[tL,simprocAttr,By,List.map_cons,List.map_nil,BW,Cy,List.take_zero,jU])
  all_goals (try (repeat' (first | exact qY | (apply zf;intro _;exact⟨rfl,rfl⟩) | (apply qj;intro _;exact⟨rfl,rfl⟩) | with_reducible apply qS | with_reducible refine qz ⟨rfl,rfl⟩ ?_ | exact qK | with_reducible apply qR | with_reducible refine qT ⟨rfl,rfl,?_⟩ ?_ | with_reducible apply Az | exact qO rfl | exact qO (by assumption) | (refine⟨⟨?_,rfl,?_,rfl,?_⟩,trivial⟩ <;> first | (simp;done) | (apply qj;intro _;exact⟨rfl,rfl⟩)) | trivial | rfl | (rw[qh oM]) | omega)))
 have hdt:=qu6 c.kids i;refine sD ?_;refine⟨fun h=>?_,fun h=>?_⟩
 ·have hi2:i<c.kids.length:=by omega
  have hwi:=qh (i:=i) oM;have hs:jU (c.kids.take (i+1))=max (jU (c.kids.take i)) (depC c.kids[i]):=by rw[qZ hi2,qu5]
  obtain⟨m',a1,a2,a3⟩:=hk2 _ (AX hi2);simp only[tZ,↓un_u,simprocAttr,Ax,qd hi2,zp];refine⟨oM,?_⟩;refine C1.im (ih _ (AX hi2) m' a1 oM a3) rF rF ?_;have hmx:maxI (jU (c.kids.take i):Int) (depC c.kids[i])=(jU (c.kids.take (i+1)):Int):=by rw[hs];unfold maxI;omega
  simp only[tZ,↓un_u,simprocAttr,hwi,hmx];refine⟨i+1,oM,oM,?_⟩;exact .oA [] []
 ·have hil:i=c.kids.length:=by omega
  subst hil;rw[Bw] at hdt ⊢
  have hw:=qh (i:=jU c.kids) oM;simp only[tZ,↓un_u,simprocAttr,hw];exact .oA [] []
theorem qA9 (op:Int):Sp 252 [vI op] [] (vI (arC op)) []:=by
 refine sIr qt7 fun e _ hst=>?_;unfold yX;simp only[tZ,↓un_u,simprocAttr,Cnd.op,Cnd.col,Cnd.code,Cnd.lo,Cnd.hi,Cnd.kids];by_cases h5:op=5
 ·subst h5;refine sW ?_;exact .oA [] []
 by_cases h6:op=6
 ·subst h6;refine sW ?_;exact .oA [] []
 by_cases h7:op=7
 ·subst h7;refine sW ?_;exact .oA [] []
 have e:arC op=0:=by rw[arC,Aq oM,Aq h7]
 rw[e];simp only[tZ,↓un_u,simprocAttr,Ak.2 h5,Ak.2 h6,Ak.2 h7];exact .oA [] []
def unuC (c:Cnd):Bool:=if ((!isAt c&&(c.col != 0))||((c.op != 2)&&(c.code != 0)))=true then false else (c.op==3)||((c.lo==0)&&(c.hi==0))
theorem jC6 {c:Cnd}:unuC c=false↔(c.op≠2∧c.op≠3∧c.op≠4∧c.col≠0)∨(c.op≠2∧c.code≠0)∨(c.op≠3∧(c.lo≠0∨c.hi≠0)):=by
 unfold unuC isAt
 grind
theorem qp3 (c:Cnd):Sp 253 [cnT c] [] (vB (unuC c)) []:=by
 refine sIr qh4 fun e _ hst=>?_;unfold wB;refine sW ?_;have hi:isAt c=((c.op==2)||(c.op==3)||(c.op==4)):=rfl;rw[← hi];unfold unuC;cases h:(!isAt c&&(c.col != 0))
 ·simp only[tZ,↓un_u,simprocAttr,h];cases h2:((c.op != 2)&&(c.code != 0))
  ·simp only[tZ,↓un_u,simprocAttr,h2];exact .oA [] []
  ·simp only[tZ,↓un_u,simprocAttr,h2];exact .oA [] []
 ·simp only[tZ,↓un_u,simprocAttr,h];exact .oA [] []
theorem qc6 (s:Sch) (hok:SchOk s) (c:Cnd):Sp 207 [schT s,cnT c] [] (vI (ndE s c)) []:=by
 have hn0:=hok.nl;have hn1:=hok.nc;have hn:ndE s c=if c.op<1∨7<c.op then 4
 else if c.kids.length≠arC c.op∨(c.op≠2∧c.op≠3∧c.op≠4∧c.col≠0)∨(c.op≠2∧c.code≠0)∨(c.op≠3∧(c.lo≠0∨c.hi≠0)) then 11
 else if (c.op=2∧isB s c.col 2=false)∨(c.op=3∧isB s c.col 3=false)∨(c.op=4∧(isB s c.col 3=false∨(qg s c.col.toNat).opt=false)) then 7
 else if c.op=2∧(c.code<0∨c.code≥(qX s c.col.toNat).codes.length) then 6
 else if c.op=3∧(c.lo < -1000000∨c.hi>1000000∨c.lo>c.hi) then 2 else 0:=rfl
 have hu:=@jC6 c;generalize ndE s c=E at hn ⊢
 refine sIr YH fun e _ hst=>?_;unfold kI;refine sD ?_;refine⟨fun h=>?_,fun h=>?_⟩
 ·rw[Aj oM] at hn;rw[hn];exact .oA [] []
 rw[Aq oM] at hn;refine C1.im (qA9 c.op) rF rF ?_;refine sW ?_;refine C2.im (fun _=>qp3 c) (fun _=>rfl) rF ?_;simp only[tZ,↓un_u,simprocAttr,Bj,Aw,Bx,Bz]
 repeat (first | refine⟨oM,?_⟩ | refine⟨kR,?_⟩)
 refine⟨fun h2=>?_,fun h2=>?_⟩
 ·rw[Aj (by grind)] at hn;rw[hn];exact .oA [] []
 rw[Aq (by grind)] at hn;by_cases hat:c.op≠2∧c.op≠3∧c.op≠4
 ·rw[Aq oM,Aq oM,Aq oM] at hn;rw[hn];simp only[tZ,↓un_u,simprocAttr,Bj.2 hat.1,Bj.2 hat.2.1,Bj.2 hat.2.2];exact .oA [] []
 have e1:((c.op != 2)&&(c.op != 3)&&(c.op != 4))=false:=by
  cases e:((c.op != 2)&&(c.op != 3)&&(c.op != 4)) with
  | false=>rfl
  | true=>exact absurd (by simpa [and_assoc] using e) hat
 simp only[tZ,↓un_u,simprocAttr,e1,tD];refine⟨fun h3=>?_,fun h3=>?_⟩
 ·have b2:isB s c.col 2=false:=by
   cases e:isB s c.col 2 with
   | false=>rfl
   | true=>have:=zF.1 e;omega
  have b3:isB s c.col 3=false:=by
   cases e:isB s c.col 3 with
   | false=>rfl
   | true=>have:=zF.1 e;omega
  rw[b2,b3,Aj (by grind)] at hn;rw[hn];exact .oA [] []
 obtain⟨i,hci⟩:=AJ (show 0≤c.col by omega);have hil:i<s.cols.length:=by omega
 have hat2:qg s i=s.cols[i]:=by rw[qg,qk hil]
 have hcd:=fun e=>hok.cdl hil e;have hcd2:=(zo (hok.cs i hil)).2.2.2.1;have hcl:qX s i=s.lists.getD s.cols[i].list.toNat default:=by rw[qX,hat2]
 have hB:∀ k,isB s c.col k=(s.cols[i].kind==k):=fun k=>by
  rw[isB,hci,Ax,hat2,Cx oM,Cx oM];rfl
 rw[hB,hB,hci,Ax,hcl,hat2] at hn;rw[hat2,hcl] at hcd;rw[hat2] at hcd2;simp only[tZ,↓un_u,simprocAttr,hci,Ax,qd hil];generalize s.cols[i]=x at hn hcd hcd2 ⊢
 simp only[tZ,↓un_u,simprocAttr,AY,Ak,Bj,Aw];refine⟨oM,fun h4=>⟨fun h5=>?_,fun h5=>?_⟩,fun h4=>⟨fun h5=>⟨fun h6=>?_,fun h6=>?_⟩,fun h5=>?_⟩⟩
 ·rw[Aj (by grind)] at hn;rw[hn];exact .oA [] []
 ·rw[Aq (by grind)] at hn;obtain⟨d1,d2⟩:=hcd h5;obtain⟨d3,d4⟩:=hcd2 h5;rw[qk d1] at hn;simp only[tZ,↓un_u,simprocAttr,qd d1,tD];generalize s.lists[x.list.toNat]=l at hn
  repeat (first | refine⟨oM,?_⟩ | refine⟨kR,?_⟩)
  refine⟨fun h6=>?_,fun h6=>?_⟩
  ·rw[Aj (by grind)] at hn;rw[hn];exact .oA [] []
  ·rw[Aq (by grind),Aq (by grind)] at hn;rw[hn];exact .oA [] []
 ·rw[Aj (by grind)] at hn;rw[hn];exact .oA [] []
 ·rw[Aq (by grind),Aq (by grind)] at hn;refine sD ?_;refine⟨fun h7=>?_,fun h7=>?_⟩
  ·rw[Aj (by grind)] at hn;rw[hn];exact .oA [] []
  ·rw[Aq (by grind)] at hn;rw[hn];exact .oA [] []
 ·refine⟨fun h6=>?_,fun h6=>by omega⟩;refine⟨fun h7=>?_,fun h7=>?_⟩
  ·rw[Aj (by grind)] at hn;rw[hn];exact .oA [] []
  ·rw[Aq (by grind),Aq (by grind),Aq (by grind)] at hn;rw[hn];exact .oA [] []
theorem jI6 (op:Int):arC op≤2:=by
 unfold arC;split
 ·omega
 ·split <;> omega
theorem qc7 (s:Sch) (hok:SchOk s):∀ (c:Cnd),Sp 152 [schT s,cnT c] [] (vI (nodE s c)) []:=by
 refine Cnd.ind' fun c ih=>?_;have hN:=zb1 s c;generalize nodE s c=N at hN ⊢
 refine sIr YB fun e _ hst=>?_;unfold kF;refine sW ?_;refine C1.im (qc6 s hok c) rF rF ?_;simp only[tZ,↓un_u,simprocAttr,Bj,Aw];refine⟨fun h=>?_,fun h=>?_⟩
 ·rw[hN,Aj h];exact .oA [] []
 rw[Aq (by rw[h];simp)] at hN;have hnk:=(jw5 h).nk;have har:=jI6 c.op;rw[hN];refine qy mixm (α:=Nat) [18] (fun i=>i≤c.kids.length∧(yC s (c.kids.take i)=0)) (fun i=>[(18,vI i)]) (fun i=>[aR 4096 2 [schT s]]) (fun i=>c.kids.length-i) 0 ⟨oM,?_⟩ ?_ fun i hi=>?_
 ·rfl
 ·exact .oA (U1 4096) []
 simp only[tZ,↓un_u,simprocAttr,AZ,Ay];refine⟨fun h=>?_,fun h=>?_⟩
 ·have hi2:i<c.kids.length:=by omega
  have hi2:i<c.kids.length:=by omega
  have hwi:=qh (i:=i) oM;simp only[tZ,↓un_u,simprocAttr,Ax,qd hi2,hwi,zp];refine⟨oM,?_⟩;refine C1.im (ih _ (AX hi2)) rF rF ?_;simp only[tZ,↓un_u,simprocAttr,Bj,Aw];refine⟨fun h6=>?_,fun h6=>?_⟩
  ·rw[qh8 hi2 hi.2 h6];exact .oA [] []
  ·refine⟨i+1,⟨oM,by rw[qZ hi2];exact qu7 hi.2 h6⟩,oM,?_⟩;exact .oA (U1 4096) []
 ·have hi2:i=c.kids.length:=by omega
  subst hi2;rw[List.take_of_length_le oM] at hi;rw[hi.2];exact .oA [] []
theorem kO (s:Sch) (hs:yZ s) (c:Cnd):Sp 86 [schT s,cnT c] [] (vI (chkC s c)) []:=by
 refine sIr ql4 fun e _ hst=>?_;unfold yb;refine sW ?_;refine C1.im (jX s hs.2.1 hs.1) rF rF ?_;simp only[tZ,↓un_u,simprocAttr,Bj,Aw];refine⟨fun h=>?_,fun h=>?_⟩
 ·rw[chkC,Aj h];exact .oA [] []
 have hok:=zc h;refine C1.im (qv0 c 40 oM oM) rF rF ?_;rw[show (40:Int)+1=41 from rfl];refine sD ?_;refine⟨fun h2=>?_,fun h2=>?_⟩
 ·rw[chkC,Aq (by rw[h];simp),Aj h2];exact .oA [] []
 refine C1.im (qA8 c 41 oM oM oM) rF rF ?_;refine sD ?_;refine⟨fun h3=>?_,fun h3=>?_⟩
 ·rw[chkC,Aq (by rw[h];simp),Aq h2,Aj oM];exact .oA [] []
 rw[chkC,Aq (by rw[h];simp),Aq h2,Aq oM];refine C1.im (qc7 s hok c) rF rF ?_;refine sW ?_;exact .oA [] []
theorem Qf (b:Bool):Sp 248 [vB b] [] (vI (tf b)) []:=by
 refine sIr qn5 fun e _ hst=>?_;unfold yl;refine sW ?_;cases b
 ·refine sW ?_;exact .oA [] []
 ·refine sW ?_;exact .oA [] []
theorem WF (s:Sch) (hok:SchOk s) (c:Cnd) (hc:NdOk s c) (ha:isAt c=true) (v:Int):Sp 198 [schT s,cnT c,vI v] [] (vI (zl s c v)) []:=by
 have hn0:=hok.nl;have hn1:=hok.nc;have hA:zl s c v=if c.op=2 then tf (YL (qX s c.col.toNat) v c.code)
 else if c.op=3 then (if v=zt then 0 else tf (decide (c.lo≤v)&&decide (v≤c.hi)))
 else if c.op=4 then tf (v==zt) else -1:=rfl
 rw[hA];by_cases h2:c.op=2
 ·obtain⟨b,b4,b5⟩:=hc.under h2;obtain⟨b1,b2,b3⟩:=zF.1 b;obtain⟨i,hci⟩:=AJ b1;rw[hci] at b2 b5;rw[hci,Ax] at b3;rw[Ax] at b5;have hil:i<s.cols.length:=by omega
  have hat:qg s i=s.cols[i]:=by rw[qg,qk hil]
  have hcd:=hok.cdl hil b3;have hcd2:=(zo (hok.cs i hil)).2.2.2.1 b3;have hcl:qX s i=s.lists.getD s.cols[i].list.toNat default:=by rw[qX,hat]
  rw[hat] at hcd hcd2;rw[Aj h2,hci,Ax];rw[hcl,qk hcd.1] at hcd ⊢
  have q:(c.op==2)=true:=AY.2 h2;refine sIr yV fun e _ hst=>?_;unfold jE;simp only[tZ,↓un_u,simprocAttr,q,hci,Ax,qd hil,qd hcd.1];refine⟨oM,oM,?_⟩;refine C1.im (zc4 _ v c.code) rF rF ?_;refine sW ?_
  repeat (first | refine⟨oM,?_⟩ | refine⟨kR,?_⟩)
  refine C1.im (Qf _) rF rF ?_;refine sW ?_
  repeat (first | refine⟨oM,?_⟩ | refine⟨kR,?_⟩)
  exact .oA [] []
 have q:(c.op==2)=false:=Ak.2 h2;rw[Aq h2];by_cases h4:c.op=4
 ·have q4:(c.op==4)=true:=AY.2 h4;rw[Aq oM,Aj h4];refine sIr yV fun e _ hst=>?_;unfold jE;simp only[tZ,↓un_u,simprocAttr,q,q4];rw[show (-1099511627776:Int)=zt from rfl];refine C1.im (Qf _) rF rF ?_;refine sW ?_;exact .oA [] []
 have q4:(c.op==4)=false:=Ak.2 h4;have h3:c.op=3:=by
  unfold isAt at ha;rw[q,q4] at ha;simpa using ha
 rw[Aj h3];refine sIr yV fun e _ hst=>?_;unfold jE;simp only[tZ,↓un_u,simprocAttr,q,q4,AY,Ak];rw[show (-1099511627776:Int)=zt from rfl];refine⟨fun h=>?_,fun h=>?_⟩
 ·rw[Aj h];exact .oA [] []
 ·rw[Aq h];refine C1.im (Qf _) rF rF ?_;refine sW ?_;exact .oA [] []
theorem kP:∀ (c:Cnd) (m:Int),1≤m→m≤1000→cntC c m<m→Sp 194 [cnT c] [] (vCs (atsC c)) []:=by
 refine Cnd.ind' fun c ih m hm hm2 hc=>?_;have hal:=QV c m hm hc;rw[QT] at hc hal;obtain⟨hk1,hk2⟩:=qa6 oM hc;have hi:isAt c=((c.op==2)||(c.op==3)||(c.op==4)):=rfl;refine sIr qm6 fun e _ hst=>?_;unfold yh;refine sW ?_;rw[← hi];refine⟨fun h=>?_,fun h=>?_⟩
 ·rw[Wo,Aj h];show yA [] _ _ (.sl 6 [cndT c]) [];rw[zp];exact .oA [] [12292]
 ·rw[Wo,Aq (by rw[h];simp)] at hal ⊢
  refine qy mixm (α:=Nat) [3,24,18] (fun i=>i≤c.kids.length) (fun i=>[(3,.asl 1 (QU (c.kids.take i)).length),(24,vI i)]) (fun i=>[aR 1 6 ((QU (c.kids.take i)).map cndT)]) (fun i=>c.kids.length-i) 0 oM ?_ fun i hi2=>?_
  ·exact .oA [(1,none)] []
  have htl:=jS c.kids i;refine sD ?_;refine⟨fun h5=>?_,fun h5=>?_⟩
  ·have hi2:i<c.kids.length:=by omega
   have hwi:=qh (i:=i) oM;obtain⟨m',a1,a2,a3⟩:=hk2 _ (AX hi2);have htl2:=jS c.kids (i+1);rw[qZ hi2,Qa,AW] at htl2;simp only[tZ,↓un_u,simprocAttr,Ax,qd hi2,zp];refine⟨oM,?_⟩;refine C1.im (ih _ (AX hi2) m' a1 oM a3) rF rF ?_;simp only[tZ,↓un_u,simprocAttr,hwi];refine⟨oM,i+1,oM,oM,?_⟩;rw[qZ hi2,Qa,By];refine .of (U1 1) [] rfl (by first | rfl | (rw[hst];rfl)) ?_ ?_
   all_goals (try simp only[tL,simprocAttr,By,List.map_cons,List.map_nil,BW,Cy,Dj])
   all_goals (try (repeat' (first | exact qY | (apply zf;intro _;exact⟨rfl,rfl⟩) | (apply qj;intro _;exact⟨rfl,rfl⟩) | with_reducible apply qS | with_reducible refine qz ⟨rfl,rfl⟩ ?_ | exact qK | with_reducible apply qR | with_reducible refine qT ⟨rfl,rfl,?_⟩ ?_ | with_reducible apply Az | exact qO rfl | exact qO (by assumption) | (refine⟨⟨?_,rfl,?_,rfl,?_⟩,trivial⟩ <;> first | (simp;done) | (apply qj;intro _;exact⟨rfl,rfl⟩)) | trivial | rfl | (rw[qh oM]) | omega)))
   all_goals first | exact JZ _ | exact WE _
  ·have hil:i=c.kids.length:=by omega
   subst hil;rw[Bw];refine .of [] [1] rfl (by first | rfl | (rw[hst];rfl)) ?_ ?_
   all_goals (try simp only[tL,simprocAttr,By,List.map_cons,List.map_nil,BW,Cy,Dj])
   all_goals (try (repeat' (first | exact qY | (apply zf;intro _;exact⟨rfl,rfl⟩) | (apply qj;intro _;exact⟨rfl,rfl⟩) | with_reducible apply qS | with_reducible refine qz ⟨rfl,rfl⟩ ?_ | exact qK | with_reducible apply qR | with_reducible refine qT ⟨rfl,rfl,?_⟩ ?_ | with_reducible apply Az | exact qO rfl | exact qO (by assumption) | (refine⟨⟨?_,rfl,?_,rfl,?_⟩,trivial⟩ <;> first | (simp;done) | (apply qj;intro _;exact⟨rfl,rfl⟩)) | trivial | rfl | (rw[qh oM]) | omega)))
   all_goals first | exact JZ _ | exact WE _
theorem WG (n w:Int) (hw:0<w∧w≤1000000) (hn : -4611686018427387904<n∧n<4611686018427387904):Sp 247 [vI n,vI w] [] (vI (qQ n w*w)) []:=by
 rw[zw4 hw.1];have h2:=Int.tmod_lt_of_pos n hw.1;have h3:=Int.lt_tmod_of_pos n hw.1;have w1:IntKind.i64.wrap (n.tmod w)=n.tmod w:=AK _ oM;have w2:IntKind.i64.wrap (n.tmod w+w)=n.tmod w+w:=AK _ oM;have w3:IntKind.i64.wrap (n-n.tmod w)=n-n.tmod w:=AK _ oM;have w4:IntKind.i64.wrap (n-(n.tmod w+w))=n-(n.tmod w+w):=AK _ oM;refine sIr qt5 fun e _ hst=>?_;unfold yW;simp only[tZ,↓un_u,simprocAttr,w1,w2,w3,w4,tD];refine⟨oM,fun h=>?_,fun h=>?_⟩
 ·rw[Aj h];exact .oA [] []
 ·rw[Aq h];exact .oA [] []
theorem qv1 (c:Col) (lev:Int) (h1:1≤lev∧lev≤c.widths.length) (h2:c.widths.length<4611686018427387904):Sp 246 [colT c,vI lev] [] (vI (qU c lev)) []:=by
 have hw:IntKind.i64.wrap ((c.widths.length:Int)-lev)=(c.widths.length:Int)-lev:=AK _ oM;have hk:((c.widths.length:Int)-lev).toNat<c.widths.length:=by omega
 refine sIr qn3 fun e _ hst=>?_;unfold yk;simp only[tZ,↓un_u,simprocAttr,hw,qd hk];rw[qU,qk hk];refine⟨oM,?_⟩;exact .oA [] []
theorem qp4 (k k' v:Int):∀ l:List (Int×Int),TL.look TL.eqI k (TL.asg TL.eqI k' v l)=if k=k' then some v else TL.look TL.eqI k l
 | []=>by
   simp only[TL.asg,TL.look,TL.eqI,AY]
 | (a,b)::r=>by
   have ih:=qp4 k k' v r;simp only[TL.asg,TL.eqI,AY] at ih ⊢
   by_cases h:k'=a
   ·subst h;rw[Aj rfl];simp only[TL.look,TL.eqI,AY];split <;> rfl
   ·rw[Aq h];simp only[TL.look,TL.eqI,AY];rw[ih];by_cases h2:k=a
    ·subst h2;rw[Aj rfl,Aq (fun e=>h e.symm),Aj rfl]
    ·rw[Aq h2,Aq h2]
theorem zq3 {n w:Int} (hw:0<w):(qQ n w*w==n)=(n.tmod w==0):=by
 rw[zw4 hw,Bool.eq_iff_iff,AY,AY];have h2:=Int.tmod_lt_of_pos n hw;have h3:=Int.lt_tmod_of_pos n hw;split <;> omega
theorem qc8 (s:Sch) (hE:schE s=0) (c:Cnd) (hnd:NdOk s c) (ha:isAt c=true) (lev:Nat) (hl:(lev:Int)≤finI s c.col):Sp 195 [schT s,cnT c,vI lev] [] (vB (decB s c lev)) []:=by
 have hok:=zc hE;have hn0:=hok.nl;have hn1:=hok.nc;obtain⟨_,c1,c2,hfin⟩:=ZT (s:=s) (c:=c.col) oM;obtain⟨i,hci⟩:=AJ (show 0≤c.col by omega);have hcn:c.col.toNat=i:=by omega
 have hil:i<s.cols.length:=by omega
 have hat:qg s i=s.cols[i]:=by rw[qg,qk hil]
 have hcd:=fun e=>hok.cdl hil e;have hcd2:=(zo (hok.cs i hil)).2.2.2.1;have hwd:=fun e l=>hok.wid hil oM e (lev:=l);have hll:=zM1 hok hil;have hcl:qX s i=s.lists.getD s.cols[i].list.toNat default:=by rw[qX,hat]
 have hlh:=fun h2 v=>Kv (s:=s) (i:=i) h2 (v:=v);have hfi:∀ h2:(qg s i).kind=2,finI s c.col=zA (qX s i)-1:=fun h2=>by rw[hfin,hcn,Aj h2]
 have hco:∀ h2:(qg s i).kind=2,∀ v∈zd s i,qt s c.col lev v=upC (qX s i) v lev:=fun h2 v hv=>by
  have:=Kv h2 (hcd h2).2 hv;rw[qt,Aq (by rw[Ez,Qr];omega),hcn,Aj h2,Aq (by rw[this];simp)]
 rw[hcn,hat] at hfin;rw[hat] at hwd hll hcd hcd2 hfi hco;have hD:decB s c lev=if c.op=2 then qu3 (zd s i).length (decP s c lev)
 else if c.op=4 then decide (0<lev)
 else if lev=0 then !s.cols[i].opt&&!(decide (s.cols[i].low<c.lo)&&decide (c.lo≤s.cols[i].high))&&!(decide (s.cols[i].low≤c.hi)&&decide (c.hi<s.cols[i].high))
  else (!(decide (s.cols[i].low<c.lo)&&decide (c.lo≤s.cols[i].high))||(c.lo.tmod (qU s.cols[i] lev)==0))&&(!(decide (s.cols[i].low≤c.hi)&&decide (c.hi<s.cols[i].high))||((c.hi+1).tmod (qU s.cols[i] lev)==0)):=by
  rw[decB,hcn,hat]
 have hk2:c.op=2→s.cols[i].kind=2:=fun h=>by
  have:=(zF.1 (hnd.under h).1).2.2;rw[hcn,hat] at this;exact this
 have hk3:c.op=3→s.cols[i].kind=3:=fun h=>by
  have:=(zF.1 (hnd.between h).1).2.2;rw[hcn,hat] at this;exact this
 have hm4:c.op=4→s.cols[i].opt=true:=fun h=>by
  have:=(hnd.miss h).2;rw[hcn,hat] at this;exact this
 have hPd:∀ L,zd s i=L→∀ j k,decP s c lev j k=!((qt s c.col lev (L.getD j 0)==qt s c.col lev (L.getD k 0))&&!(zl s c (L.getD j 0)==zl s c (L.getD k 0))):=fun L hL j k=>by rw[decP,hcn,hL]
 have hlv:zd s i=atL (qX s i) (zA (qX s i)-1):=rfl;rw[hD];rw[hcl] at hcd hco hlv;refine sIr YF fun e _ hst=>?_;unfold kH;simp only[tZ,↓un_u,simprocAttr,hcn,qd hil];have hmw:s.cols[i].kind=3→1≤s.cols[i].widths.length:=fun h=>by
  have:=(zo (hok.cs i hil)).2.2.2.2 (by rw[hat];exact h);rw[hat] at this;unfold measE at this
  grind
 generalize s.cols[i]=x at hmw hwd hfin hll hk2 hk3 hm4 hcd hcd2 hco hlv ⊢
 simp only[tZ,↓un_u,simprocAttr,AY,Ak];refine⟨oM,fun h2=>?_,fun h2=>?_⟩
 ·rw[Aj h2];obtain⟨d1,d2⟩:=hcd (hk2 h2);obtain⟨d3,d4⟩:=hcd2 (hk2 h2);have hco:=hco (hk2 h2);have hll:=hll (hk2 h2);have hPd:=hPd _ rfl;rw[qk d1] at d2 hco hlv;rw[hlv] at hco hll hPd ⊢
  have hAt:=WF s hok c hnd ha;simp only[tZ,↓un_u,simprocAttr,qd d1];refine⟨oM,?_⟩;generalize s.lists[x.list.toNat]=l at d2 hco hll hPd ⊢
  have hlvl:=qu1 (l:=l);have hw2:IntKind.i64.wrap (zA l-1)=zA l-1:=AK _ oM;refine C1.im (Kc l) rF rF ?_;simp only[tZ,↓un_u,simprocAttr,hw2];refine C1.im (qu9 l (zA l-1)) rF rF ?_;refine sW ?_
  repeat (first | refine⟨oM,?_⟩ | refine⟨kR,?_⟩)
  generalize atL l (zA l-1)=L at hco hll hPd ⊢
  refine qy mixm (α:=Nat×List (Int×Int)) [41] (fun y=>y.1≤L.length∧qu3 y.1 (decP s c lev)=true∧(∀ a,a<y.1→TL.look TL.eqI (upC l (L.getD a 0) lev) y.2=some (zl s c (L.getD a 0)))∧∀ k v,TL.look TL.eqI k y.2=some v→∃ a,a<y.1∧upC l (L.getD a 0) lev=k∧zl s c (L.getD a 0)=v) (fun y=>[(41,vI y.1)]) (fun y=>[aR 4096 2 [schT s],aR 4100 6 [cnT c],aR 16408 2 [cdlT l],(20480,.mp (.ii y.2))]) (fun y=>L.length-y.1) (0,[]) ⟨sMp,rfl,sMp,by simp [TL.look]⟩ ?_ fun y hy=>?_
  ·exact .oA (U4 4096 4100 16408 20480) []
  obtain⟨j,M⟩:=y;obtain⟨y1,y2,y3,y4⟩:=hy;dsimp only at y1 y2 y3 y4;refine sD ?_;refine⟨fun h3=>?_,fun h3=>?_⟩
  ·have hj2:j<L.length:=by omega
   have hwj:=qh (i:=j) oM;have hgj:L.getD j 0=L[j]:=qk hj2;have hP:∀ a,a<j→decP s c lev j a=!((upC l L[j] lev==upC l (L.getD a 0) lev)&&!(zl s c L[j]==zl s c (L.getD a 0))):=fun a ha=>by
    rw[hPd,hgj,hco L[j] (AX hj2),hco (L.getD a 0) (by rw[qk (show a<L.length by omega)];exact AX _)]
   have hlk:=qp4;simp only[tZ,↓un_u,simprocAttr,Ax,qd hj2];refine⟨oM,?_⟩;refine C1.im (qa9 l L[j] lev) rF rF ?_;refine sW ?_;refine C1.im (hAt L[j]) rF rF ?_;refine sW ?_
   repeat (first | refine⟨oM,?_⟩ | refine⟨kR,?_⟩)
   have hfin:∀ v,(∀ w,TL.look TL.eqI (upC l L[j] lev) M=some w→w=zl s c L[j])→v=zl s c L[j]→(j+1≤L.length∧qu3 (j+1) (decP s c lev)=true∧(∀ a,a<j+1→TL.look TL.eqI (upC l (L.getD a 0) lev) (TL.asg TL.eqI (upC l L[j] lev) v M)=some (zl s c (L.getD a 0)))∧∀ k w,TL.look TL.eqI k (TL.asg TL.eqI (upC l L[j] lev) v M)=some w→∃ a,a<j+1∧upC l (L.getD a 0) lev=k∧zl s c (L.getD a 0)=w):=fun v hv e=>by
    subst e;have hsame:∀ a,a<j→upC l (L.getD a 0) lev=upC l L[j] lev→zl s c (L.getD a 0)=zl s c L[j]:=fun a ha he=>by
     have:=y3 a ha;rw[he] at this;exact hv _ this
    refine⟨oM,?_,fun a h5=>?_,fun k w h5=>?_⟩
    ·rw[zM0,y2,Fj,Bk];intro a ha;rw[Dk] at ha;rw[hP a ha];by_cases q:upC l (L.getD a 0) lev=upC l L[j] lev
     ·rw[hsame a ha q];simp
     ·rw[Ak.2 (fun e=>q e.symm)];rfl
    ·rw[qp4];by_cases q:a=j
     ·subst q;rw[hgj,Aj rfl]
     ·split
      ·rename_i q2;rw[hsame a oM q2]
      ·exact y3 a oM
    ·rw[qp4] at h5;split at h5
     ·rename_i q;exact⟨j,oM,by rw[hgj,q],by rw[hgj];simpa using h5⟩
     ·obtain⟨a,a1,a2,a3⟩:=y4 k w h5;exact⟨a,oM,a2,a3⟩
   cases hf:TL.look TL.eqI (upC l L[j] lev) M with
   | none=>
     simp only[tZ,↓un_u,simprocAttr,hf,Option.isSome_none,hwj];refine⟨fun h=>by simp at h,fun _=>⟨(j+1,_),hfin _ (fun w h=>by rw[hf] at h;cases h) rfl,by dsimp only;omega,?_⟩⟩;exact .oA (U4 4096 4100 16408 20480) []
   | some w=>
     simp only[tZ,↓un_u,simprocAttr,hf,Option.isSome_some,Option.getD_some,Bj,Aw,hwj];refine⟨fun h5=>?_,fun h5=>?_⟩
     ·obtain⟨a,a1,a2,a3⟩:=y4 _ _ hf;rw[jn5 hj2 a1 (by rw[hP a a1,a2,a3,beq_self_eq_true,Ak.2 (fun e=>h5 e.symm)];rfl)];exact .oA [] []
     ·refine⟨(j+1,_),hfin _ (fun w' h=>by rw[hf] at h;cases h;exact h5) rfl,by dsimp only;omega,?_⟩;exact .oA (U4 4096 4100 16408 20480) []
  ·have hjl:j=L.length:=by omega
   subst hjl;rw[y2];exact .oA [] []
 rw[Aq h2];by_cases h4:c.op=4
 ·rw[Aj h4];have ho:=hm4 h4;by_cases hz:lev=0
  ·subst hz;simp only[tZ,↓un_u,simprocAttr,ho];exact .oA [] []
  ·have e0:((lev:Int)==0)=false:=Ak.2 oM;simp only[tZ,↓un_u,simprocAttr,e0,AY,Ak];rw[Cx (show 0<lev by omega)];refine⟨fun h=>by simp at h,fun _=>⟨fun _=>?_,fun h=>absurd h4 h⟩⟩;exact .oA [] []
 rw[Aq h4];have h3:c.op=3:=by
  unfold isAt at ha;simp only[DZ,AY] at ha;omega
 have hk3:=hk3 h3;have hb:=hnd.between h3;rw[Aq oM] at hfin;have q4:(c.op==4)=false:=Ak.2 h4;have hxw:=hmw hk3;obtain⟨_,_,_,x4,x5,x6,x7,_⟩:=hwd oM 1 oM;by_cases hz:lev=0
 ·subst hz;simp only[tZ,↓un_u,simprocAttr,zH7,jw9,tD];refine⟨fun h=>?_,fun h=>⟨fun k=>absurd k h4,fun _=>?_⟩⟩
  ·rw[h];exact .oA [] []
  ·rw[h]
   repeat (first | refine⟨oM,?_⟩ | refine⟨kR,?_⟩)
   refine⟨fun h5=>?_,fun h5=>?_⟩
   ·rw[show (!false&&!(decide (x.low<c.lo)&&decide (c.lo≤x.high))&&!(decide (x.low≤c.hi)&&decide (c.hi<x.high)))=true by grind];exact .oA [] []
   ·rw[show (!false&&!(decide (x.low<c.lo)&&decide (c.lo≤x.high))&&!(decide (x.low≤c.hi)&&decide (c.hi<x.high)))=((max c.lo x.low==x.low)&&(min c.hi x.high==x.high)) by grind];exact .oA [] []
 have e0:((lev:Int)==0)=false:=Ak.2 oM;rw[Aq hz];obtain⟨w1,w2,_⟩:=hwd oM lev oM;simp only[tZ,↓un_u,simprocAttr,e0,zH7,jw9,tD];refine fun _=>⟨fun k=>absurd k h4,fun _=>?_⟩
 repeat (first | refine⟨oM,?_⟩ | refine⟨kR,?_⟩)
 refine⟨fun h5=>?_,fun h5=>?_⟩
 ·rw[show ((!(decide (x.low<c.lo)&&decide (c.lo≤x.high))||(c.lo.tmod (qU x lev)==0))&&(!(decide (x.low≤c.hi)&&decide (c.hi<x.high))||((c.hi+1).tmod (qU x lev)==0)))=true by grind];exact .oA [] []
 refine⟨fun h=>by omega,fun _=>?_⟩;refine C1.im (qv1 x lev oM oM) rF rF ?_;generalize qU x lev=w at w1 w2 ⊢
 have hF:((!(decide (x.low<c.lo)&&decide (c.lo≤x.high))||(c.lo.tmod w==0))&&(!(decide (x.low≤c.hi)&&decide (c.hi<x.high))||((c.hi+1).tmod w==0)))=(((max c.lo x.low==x.low)||(qQ (max c.lo x.low) w*w==max c.lo x.low))&&((min c.hi x.high==x.high)||(qQ (min c.hi x.high+1) w*w==min c.hi x.high+1))):=by
  rw[zq3 oM,zq3 oM]
  congr 1
  ·by_cases k:x.low<c.lo
   ·rw[show max c.lo x.low=c.lo by omega,Cx k,Cx (show c.lo≤x.high by omega),Ak.2 (show c.lo≠x.low by omega)]
    rfl
   ·rw[show max c.lo x.low=x.low by omega,Cq k,beq_self_eq_true];simp
  ·by_cases k:c.hi<x.high
   ·rw[show min c.hi x.high=c.hi by omega,Cx k,Cx (show x.low≤c.hi by omega),Ak.2 (show c.hi≠x.high by omega)]
    rfl
   ·rw[show min c.hi x.high=x.high by omega,Cq k,beq_self_eq_true];simp
 rw[hF];have hwm:IntKind.i64.wrap (min c.hi x.high+1)=min c.hi x.high+1:=AK _ oM;refine sW ?_;refine C2.im (fun _=>WG (max c.lo x.low) w oM oM) (fun _=>rfl) rF ?_;simp only[tZ,↓un_u,simprocAttr,hwm];refine C2.im (fun _=>WG (min c.hi x.high+1) w oM oM) (fun _=>rfl) rF ?_;simp only[tZ,↓un_u,simprocAttr,hwm]
 repeat (first | refine⟨oM,?_⟩ | refine⟨kR,?_⟩)
 exact .oA [] []
end Go.Proofs
