/- A part of the proof: trees of Go values, short forms, contracts. -/
import Derived.Test.YthbdcffpkbmlaaaGreatDoorK20
namespace Go.Proofs
open Go Go.TL
set_option maxRecDepth 4000
set_option maxHeartbeats 8000000
theorem zM8 (f:Nat→Int):∀ n,((canF f n).Pairwise fun a b=>a.col<b.col)∧∀ p∈canF f n,p.col<n
 | 0=>⟨List.Pairwise.nil,by simp [canF]⟩
 | n+1=>by
   obtain⟨h1,h2⟩:=zM8 f n;rw[canF];split
   ·refine⟨List.pairwise_append.2 ⟨h1,sMp,fun p hp q hq=>?_⟩,fun p hp=>?_⟩
    ·rw[Ey.1 hq];exact h2 p hp
    ·rcases Dz.1 hp with hp | hp
     ·have:=h2 p hp;omega
     ·rw[Ey.1 hp];dsimp only;omega
   ·rw[CW];exact⟨h1,fun p hp=>by have:=h2 p hp;omega⟩
theorem jN3 {s:Sch} (hE:schE s=0) {c:Nat} (h1:1≤c) (h2:c<s.cols.length) {v:Int} (h3:0≤v) (h4:v≤finI s c):js s ⟨c,v⟩=0:=by
 rw[js,Aq (by rw[hE];simp),Aq (by dsimp only;omega),Aq];rw[Ez,zP];exact⟨h3,h4⟩
theorem zS8 {s:Sch} (hE:schE s=0) {f:Nat→Int} (h:∀ k,k<s.cols.length→0<f k→1≤k∧f k≤finI s k):jH s (canF f s.cols.length)=0:=by
 refine jm9 hE (fun p hp=>?_) (zM8 f _).1;obtain⟨k,k1,k2,rfl⟩:=qr1.1 hp;obtain⟨h1,h2⟩:=h k k1 k2;exact jN3 hE h1 k1 oM h2
theorem jn0 {l:List Pk} {k F:Int} (hF:0≤F) (h:∀ p∈l,p.col=k→p.lev≤F):mxl l k≤F:=by
 induction l with
 | nil=>exact hF
 | cons p r ih=>
   have h1:=ih fun q hq=>h q (CQ _ hq);rw[mxl];split
   ·rename_i e;have:=h p sMp e;omega
   ·exact h1
theorem zs1 {s:Sch} {c lev:Int} (h:0≤lev) (h2:lev≤finI s c):zO s c lev≤lev∧0≤zO s c lev∧divB s c.toNat (zO s c lev).toNat lev.toNat=true∧∀ m:Nat,(m:Int)<zO s c lev→divB s c.toNat m lev.toNat=false:=by
 have h59:lev≤59∨schE s≠0:=by
  by_cases e:schE s=0
  ·have:=qj2 (c:=c) e;exact .inl oM
  ·exact .inr e
 have hE:schE s=0:=(kz (s:=s) (c:=c) oM).1;have h59:=qj2 (c:=c) hE;rw[zO,Aq (by rw[Ez,zP];omega)];obtain⟨a,b,_,d⟩:=YE (p:=fun n=>divB s c.toNat n lev.toNat) (N:=lev.toNat) (zL2 s _ _) 64 0 oM oM;refine⟨oM,oM,by rw[Ax];exact a,fun m hm=>d m oM oM⟩
theorem YN {s:Sch} (hE:schE s=0) {k:Nat} (h1:1≤k) (h2:k<s.cols.length):0≤finI s k:=by
 have hok:=qO hE;have hkk:=zo (hok.cs k h2);have h3:=hkk.2.2.1 h1;refine (jm1 hE (v:=k) ?_).2.2.1;rcases (show (qj s k).kind=2∨(qj s k).kind=3 by omega) with h | h
 ·exact .inl (jk.2 ⟨oM,oM,by rw[Ax];exact h⟩)
 ·exact .inr (jk.2 ⟨oM,oM,by rw[Ax];exact h⟩)
theorem jN4 {s:Sch} {c:Cnd} (h:chkC s c=0):∀ p∈atP s c,p.lev≤finI s p.col:=fun p hp=>by
 obtain⟨hE,k2,k3,k4⟩:=YG h;obtain⟨a,ha,rfl⟩:=Cj.1 hp;obtain⟨hnd,hia⟩:=zK9 c k4 a ha;exact (KR hE hnd hia).1
theorem zs2 {s:Sch} {c:Cnd} (h:chkC s c=0):∀ p∈zu s c,p.lev≤finI s p.col:=fun p hp=>by
 have hE:=(YG h).1;obtain⟨h1,h2⟩:=Wq h;rw[h1,qr1] at hp;obtain⟨k,k1,k2,rfl⟩:=hp;have h0:1≤k:=by
  rcases DQ k with e | e
  ·subst e;rw[QJ fun q hq=>by have:=h2 q hq;omega] at k2;omega
  ·exact e
 exact jn0 (YN hE h0 k1) fun p hp e=>by rw[← e];exact jN4 h p hp
theorem jn1 {s:Sch} {q:Qst} (hq:QstOk s q):∀ p∈qL5 s q,p.lev≤finI s p.col:=fun p hp=>by
 unfold qL5 at hp;rcases Dz.1 hp with hp | hp
 ·rcases Dz.1 hp with hp | hp
  ·obtain⟨d,hd,rfl⟩:=Cj.1 hp;obtain⟨_,h1,h2,h3,h4⟩:=zW (zs0 hq d hd).1;have:=zs1 h3 h4;dsimp only;omega
  ·obtain⟨k,h1,h2,rfl⟩:=jm8.1 hp;unfold usB at h2;rw[Bq,AZ] at h2;have h3:=YN hq.sch (k:=k) oM h1;have:=zs1 h3 (Int.le_refl _);dsimp only;omega
 ·obtain⟨c,hc,hp⟩:=Ek.1 hp;exact zs2 (jI0 hq c hc) p hp
theorem jN5 {s:Sch} {q:Qst} (hq:QstOk s q) (k:Nat) (hk:k<s.cols.length) (h:0<mxl (qL5 s q) k):1≤k∧mxl (qL5 s q) k≤finI s k:=by
 have h0:1≤k:=by
  rcases DQ k with e | e
  ·subst e;rw[QJ fun q' hq'=>by have:=zM7 hq q' hq';omega] at h;omega
  ·exact e
 exact⟨h0,jn0 (YN hq.sch h0 hk) fun p hp e=>by rw[← e];exact jn1 hq p hp⟩
theorem qB4 {s:Sch} {q:Qst} (h:qstE s q=0):jH s (YF s q)=0:=by
 have hq:=qj3 h;rw[zS7 h];exact zS8 hq.sch (jN5 hq)
theorem zM9 {a w:Int}:(a.tmod w==0)=true↔w ∣ a:=by rw[AY];exact⟨Int.dvd_of_tmod_eq_zero,Int.tmod_eq_zero_of_dvd⟩
theorem qe9 {a w:Int} (hw:0<w):qU a w=a / w:=by unfold qU;rw[DW _ oM]
theorem jI1 {w x a:Int} (hw:0<w) (hd:w ∣ x):x≤a↔x≤qU a w*w:=by
 obtain⟨t,rfl⟩:=hd;have h:=ZO (v:=a) hw;rw[qe9 hw] at h ⊢
 generalize a / w=u at h ⊢
 constructor
 ·intro h1;have h2:w*t<w*(u+1):=by rw[Int.mul_add,Int.mul_one,Int.mul_comm w u];omega
  have h3:=Int.lt_of_mul_lt_mul_left h2 oM;rw[Int.mul_comm u w];exact Int.mul_le_mul_of_nonneg_left oM oM
 ·intro h1;omega
theorem jn2 {w x a b:Int} (hw:0<w) (hd:w ∣ x) (h:qU a w*w=qU b w*w):x≤a↔x≤b:=(jI1 hw hd).trans (by rw[h];exact (jI1 hw hd).symm)
theorem zA4 {w x:Int} (hw:0<w) (hd:w ∣ x):qU x w*w=x:=by
 rw[qe9 hw];exact Int.ediv_mul_cancel hd
theorem wc {s:Sch} {i:Nat} (h1:(qj s i).kind=3) {v:Int}:qS s i v=true↔((qj s i).opt=true∧v=qW)∨((qj s i).low≤v∧v≤(qj s i).high):=by
 rw[qS,Aq oM,Aq oM,DZ,Bq,AY,zP]
theorem zU {s:Sch} (hok:SchOk s) {i:Nat} (hi:i<s.cols.length) (h2:(qj s i).kind=2) {v:Int}:qS s i v=true↔v∈qA s i:=by
 obtain⟨_,d2⟩:=hok.cdl hi h2;constructor
 ·intro h;rw[qS,Aq oM,Aj h2,Bq,zP,AY] at h;obtain⟨⟨g1,g2⟩,g3⟩:=h;obtain⟨c,rfl⟩:=AJ g1;rw[lvlC,Aq (not_or.2 ⟨fun h=>h d2,oM⟩),Ax] at g3;exact (Wp hok hi h2).2 ⟨c,rfl,oM,g3⟩
 ·intro h;exact Wl h2 d2 h
structure MeasC (s:Sch) (i:Nat):Prop where
 kind:(qj s i).kind=3
 fin:finI s i=(qj s i).widths.length
 wid:∀ l:Nat,1≤l→l≤(qj s i).widths.length→1≤qJ (qj s i) l
 one:qJ (qj s i) (qj s i).widths.length=1
 lh : -1000000≤(qj s i).low∧(qj s i).low≤(qj s i).high∧(qj s i).high≤1000000
 nw:1≤(qj s i).widths.length
 dv:∀ {o l:Nat},1≤o→o<l→l≤(qj s i).widths.length→∃ k:Int,2≤k∧qJ (qj s i) o=k*qJ (qj s i) l
theorem wJ {s:Sch} (hE:schE s=0) {i:Nat} (hi:i<s.cols.length) (h0:0<i) (h2:(qj s i).kind≠2):MeasC s i:=by
 have hok:=qO hE;have hkk:=zo (hok.cs i hi);have h3:(qj s i).kind=3:=by have:=hkk.2.2.1 h0;omega
 have hm:=hkk.2.2.2.2 h3;have hwl:1≤(qj s i).widths.length:=by unfold measE at hm;grind
 obtain⟨_,_,_,_,w5,w6,w7,w8⟩:=hok.wid hi h0 h2 (lev:=(qj s i).widths.length) oM;refine⟨h3,by rw[finI,Aq (by rw[hE];omega),Ax,Aq h2],fun l l1 l2=>(hok.wid hi h0 h2 (lev:=l) oM).1,w8,⟨w5,w7,w6⟩,hwl,fun {o l} h4 h5 h6=>hok.wdv hi h0 h2 ⟨h4,h5⟩ h6⟩
theorem YO {s:Sch} {i:Nat} (h:MeasC s i) {lev:Nat} (hl:(lev:Int)≤finI s i) {v:Int} (hv:qS s i v=true):qk s i lev v=if lev=0 then 0 else if v=qW then v else qU v (qJ (qj s i) lev)*qJ (qj s i) lev:=by
 have h1:=h.lh;have hm:v≠qW→inB v (-1000000) 1000000=true:=fun hn=>by
  rcases (wc h.kind).1 hv with k | k
  ·exact absurd k.2 hn
  ·exact zP.2 oM
 rw[qk,Aq (by rw[Ez,zP];omega),Ax,Aq (by rw[h.kind];decide),Aq (fun k=>by rw[hm k.1] at k;simp at k)];by_cases e:lev=0
 ·subst e;rfl
 ·rw[Aq oM,Aq e]
theorem jn3 {v w:Int} (hw:1≤w) (hw2:w≤1000000) (hv : -1000000≤v):qU v w*w≠qW:=by
 have:=ZO (v:=v) (w:=w) oM;unfold qW;omega
theorem qR8 {s:Sch} (hE:schE s=0) {i:Nat} (hi:i<s.cols.length) (h0:0<i) (h2:(qj s i).kind≠2) {l:Nat} (l1:1≤l) (l2:l≤(qj s i).widths.length):qJ (qj s i) l≤1000000:=((qO hE).wid hi h0 h2 (lev:=l) oM).2.1
theorem zA5 {s:Sch} (hE:schE s=0) {i:Nat} (hi:i<s.cols.length) (h0:0<i) (h2:(qj s i).kind≠2) {lev:Nat} (h1:1≤lev) (hl:(lev:Int)≤finI s i) {a b:Int} (ha:qS s i a=true) (hb:qS s i b=true) :
 qk s i lev a=qk s i lev b↔(a=qW∧b=qW)∨(a≠qW∧b≠qW∧qU a (qJ (qj s i) lev)*qJ (qj s i) lev=qU b (qJ (qj s i) lev)*qJ (qj s i) lev):=by
 have hm:=wJ hE hi h0 h2;have hlh:=hm.lh;have hf:=hm.fin;have hw:=hm.wid lev h1 oM;have hw2:=qR8 hE hi h0 h2 h1 oM;rw[YO hm hl ha,YO hm hl hb,Aq (show ¬ lev=0 by omega),Aq (show ¬ lev=0 by omega)];have na:a≠qW→-1000000≤a:=fun hn=>by
  rcases (wc hm.kind).1 ha with k | k
  ·exact absurd k.2 hn
  ·omega
 have nb:b≠qW→-1000000≤b:=fun hn=>by
  rcases (wc hm.kind).1 hb with k | k
  ·exact absurd k.2 hn
  ·omega
 by_cases ea:a=qW
 ·by_cases eb:b=qW
  ·rw[Aj ea,Aj eb];simp [ea,eb]
  ·rw[Aj ea,Aq eb];have:=jn3 hw hw2 (nb eb);constructor
   ·intro h;rw[ea] at h;exact absurd h.symm this
   ·rintro (h | h)
    ·exact absurd h.2 eb
    ·exact absurd ea h.1
 ·by_cases eb:b=qW
  ·rw[Aq ea,Aj eb];have:=jn3 hw hw2 (na ea);constructor
   ·intro h;rw[eb] at h;exact absurd h this
   ·rintro (h | h)
    ·exact absurd h.1 ea
    ·exact absurd eb h.2.1
  ·rw[Aq ea,Aq eb];constructor
   ·intro h;exact .inr ⟨ea,eb,h⟩
   ·rintro (h | h)
    ·exact absurd h.1 ea
    ·exact h.2.2
theorem YP {s:Sch} (hE:schE s=0) {i:Nat} (hi:i<s.cols.length) (h0:0<i) (h2:(qj s i).kind≠2) {a:Int} (ha:qS s i a=true):qk s i 0 a=0:=by
 have hm:=wJ hE hi h0 h2;have:=YO hm (lev:=0) (by rw[hm.fin];omega) ha;rw[Aj rfl] at this;exact this
theorem zb9 {s:Sch} (hE:schE s=0) {i:Nat} (hi:i<s.cols.length) (h0:0<i) (h2:(qj s i).kind=2) {lev:Nat} (hl:(lev:Int)≤finI s i) {a:Int} (ha:qS s i a=true):∃ c:Nat,a=c∧c<(qK s i).codes.length∧(dep (qK s i).codes c:Int)=zA (qK s i)-1∧qk s i lev a=upN (qK s i).codes lev c:=by
 have hok:=qO hE;obtain⟨c,rfl,c1,c2⟩:=(Wp hok hi h2).1 ((zU hok hi h2).1 ha);have hf:finI s i=zA (qK s i)-1:=by rw[finI,Aq (by rw[hE];omega),Ax,Aj h2]
 exact⟨c,rfl,c1,c2,YM hok hi h2 c1 c2 hl hf⟩
theorem jN6 {s:Sch} (hE:schE s=0) {i:Nat} (hi:i<s.cols.length) (h0:0<i) {o lev:Nat} (ho:o≤lev) (hl:(lev:Int)≤finI s i) {a b:Int} (ha:qS s i a=true) (hb:qS s i b=true) (h:qk s i lev a=qk s i lev b):qk s i o a=qk s i o b:=by
 by_cases h2:(qj s i).kind=2
 ·have hok:=qO hE;obtain⟨_,d2⟩:=hok.cdl hi h2;obtain⟨hp,_,_⟩:=ze d2;have hf:finI s i=zA (qK s i)-1:=by rw[finI,Aq (by rw[hE];omega),Ax,Aj h2]
  obtain⟨c,rfl,c1,c2,c3⟩:=zb9 hE hi h0 h2 hl ha;obtain⟨d,rfl,e1,e2,e3⟩:=zb9 hE hi h0 h2 hl hb;rw[YM hok hi h2 c1 c2 oM hf,YM hok hi h2 e1 e2 oM hf];rw[c3,e3] at h;rw[← jH8 hp ho c c1 oM,← jH8 hp ho d e1 oM,show upN (qK s i).codes lev c=upN (qK s i).codes lev d by omega]
 ·by_cases e0:o=0
  ·subst e0;have za:=YP hE hi h0 h2 ha;have zb:=YP hE hi h0 h2 hb;show qk s i 0 a=qk s i 0 b;rw[za,zb]
  ·by_cases e1:o=lev
   ·rw[e1];exact h
   have hm:=wJ hE hi h0 h2;have hf:=hm.fin;obtain⟨k,k1,k2⟩:=hm.dv (o:=o) (l:=lev) oM oM oM;rw[zA5 hE hi h0 h2 oM oM ha hb];rcases (zA5 hE hi h0 h2 oM hl ha hb).1 h with h | ⟨h3,h4,h5⟩
   ·exact .inl h
   ·refine .inr ⟨h3,h4,?_⟩;have hw:=hm.wid lev oM oM;have:=Int.eq_of_mul_eq_mul_right oM h5;rw[k2,jV0 hw oM,jV0 hw oM,this]
set_option maxHeartbeats 4000000
theorem jV1 (f:Int→Int) (l:List Int):nbF (grpF f l).1=some ((grpF f l).2.length:Int):=by
 suffices H:∀ i,i≤l.length→nbF (grpF f (l.take i)).1=some ((grpF f (l.take i)).2.length:Int) by
  have:=H l.length (BZ _)
  rwa [Bw] at this
 intro i
 induction i with
 | zero=>exact fun _=>rfl
 | succ i ih=>
   intro hi;have hi2:i<l.length:=by omega
   have h1:=ih oM;rw[qe4 f hi2];generalize grpF f (l.take i)=x at h1;have key:∀ g:Int,nbF (x.1++[g])=KO (nbF x.1) g:=fun g=>by
    unfold nbF;rw[Gx];rfl
   unfold YJ;split
   ·rename_i h;obtain⟨b1,_⟩:=Qs h;rw[key,h1];unfold KO;dsimp only;rw[Aq oM,Aq oM]
   ·rw[key,h1];unfold KO;dsimp only;rw[Aq oM,Aj rfl,AW,List.length_singleton]
    rfl
theorem jV2 {m:Nat} (h:0<m):nbF (List.replicate m 0)=some 1:=by
 obtain⟨k,rfl⟩:∃ k,m=k+1:=⟨m-1,oM⟩;clear h
 induction k with
 | zero=>rfl
 | succ k ih=>
   rw[List.replicate_succ'];unfold nbF at ih ⊢
   rw[Gx,ih]
   rfl
theorem jV3 (f:Int→Int) {l:List Int} (h:0<l.length):0<(grpF f l).2.length:=by
 have hok:=qR6 f l;have h1:0<(grpF f l).1.length:=by rw[hok.len];exact h
 have:=hok.rng _ (AX h1);omega
structure CdC (s:Sch) (c:Int):Prop where
 rng:0≤c∧c<s.cols.length
 kind:(qj s c.toNat).kind=2
theorem qB5 {s:Sch} {c:Int} (h:c∈qR s 2):CdC s c:=by
 obtain⟨a,b,d⟩:=jk.1 (ZR.1 h);exact⟨⟨a,b⟩,d⟩
theorem jV4 {s:Sch} (hok:SchOk s) {c:Int} (h:CdC s c):0<(qA s c.toNat).length:=by
 obtain⟨_,d2⟩:=hok.cdl (i:=c.toNat) (by have:=h.rng;omega) h.kind;exact zo3 d2
theorem jI2 {s:Sch} (hok:SchOk s) (ds:List Pk) {c:Int} (h:CdC s c):(vwG s ds c).length=(qA s c.toNat).length∧nbF (vwG s ds c)=some (if dmAt ds c<ds.length then ((grpL s c.toNat (ds.getD (dmAt ds c) default).lev).2.length:Int) else 1)∧0<(if dmAt ds c<ds.length then ((grpL s c.toNat (ds.getD (dmAt ds c) default).lev).2.length:Int) else 1):=by
 have h0:=jV4 hok h;unfold vwG;split
 ·refine⟨(qR6 _ _).len,jV1 _ _,?_⟩;have:=jV3 (fun v=>upC (qK s c.toNat) v (ds.getD (dmAt ds c) default).lev) h0;unfold grpL;omega
 ·exact⟨List.length_replicate,jV2 h0,by decide⟩
theorem zN0 {α:Type} (f:α→Int) (g:α→List Int):∀ L:List α,(∀ c∈L,okG (f c) (g c)=true)→okGs (L.map f) (L.map g)=true
 | [],_=>rfl
 | c::L,h=>by
   show (okG (f c) (g c)&&okGs (L.map f) (L.map g))=true;rw[h c sMp,zN0 f g L fun x hx=>h x (CQ _ hx)]
   rfl
theorem YQ {s:Sch} (hE:schE s=0) (hS:chkS (spSz s)=0) (ds:List Pk):VwOk (spSz s) (tabG s ds):=by
 have hok:=qO hE;refine⟨kY.1 hS,by unfold tabG spSz;rw[BY,BY],zN0 _ _ _ fun c hc=>?_⟩;obtain⟨h1,h2,h3⟩:=jI2 hok ds (qB5 hc);unfold okG;rw[h1,h2];simp only[beq_self_eq_true,Fq,AZ];exact h3
theorem zs3 {s:Sch} (hok:SchOk s) (ds:List Pk) {c:Int} (h:CdC s c):gN (vwG s ds c)=if dmAt ds c<ds.length then ((grpL s c.toNat (ds.getD (dmAt ds c) default).lev).2.length:Int) else 1:=(jH3 (jI2 hok ds h).2.1).g
def YR (s:Sch) (c:Int) (v:Int):Int:=if v∈qA s c.toNat then idxN v (qA s c.toNat) else -1
def atW (s:Sch) (r:List Int):List Int:=(qR s 2).map fun c=>YR s c (r.getD c.toNat 0)
theorem zA6 {α:Type} (f g:α→Int):∀ L:List α,(∀ c∈L,0≤g c∧g c<f c)→inR (L.map f) (L.map g)
 | [],_=>trivial
 | c::L,h=>⟨h c sMp,zA6 f g L fun x hx=>h x (CQ _ hx)⟩
theorem zN1 {s:Sch} {r:List Int} (hr:rowE s r=0) {c:Int} (h:CdC s c):r.getD c.toNat 0∈qA s c.toNat:=by
 obtain⟨hE,hl,hh⟩:=wA hr;have h1:=h.rng;have h2:=hh c.toNat oM;exact (zU (qO hE) oM h.kind).1 h2
theorem zc0 {s:Sch} {r:List Int} (hr:rowE s r=0) {c:Int} (h:CdC s c):0≤YR s c (r.getD c.toNat 0)∧YR s c (r.getD c.toNat 0)<(qA s c.toNat).length∧(qA s c.toNat).getD (YR s c (r.getD c.toNat 0)).toNat 0=r.getD c.toNat 0:=by
 have hm:=zN1 hr h;obtain⟨a,b⟩:=Qs hm;unfold YR;rw[Aj hm,Ax];exact⟨oM,oM,b⟩
theorem zs4 {s:Sch} {r:List Int} (hr:rowE s r=0):inR (spSz s) (atW s r):=zA6 _ _ _ fun c hc=>by
 have:=zc0 hr (qB5 hc);exact⟨this.1,this.2.1⟩
theorem jV5 {s:Sch} (hok:SchOk s) (ds:List Pk) {c:Int} (h:CdC s c) {i:Nat} (hi:i<(qA s c.toNat).length):0≤(vwG s ds c).getD i 0∧(vwG s ds c).getD i 0<gN (vwG s ds c):=by
 rw[zs3 hok ds h];unfold vwG;by_cases k:dmAt ds c<ds.length
 ·rw[Aj k,Aj k];have hg:=qR6 (fun v=>upC (qK s c.toNat) v (ds.getD (dmAt ds c) default).lev) (qA s c.toNat);have hi2:i<(grpL s c.toNat (ds.getD (dmAt ds c) default).lev).1.length:=by
   show i<(grpF _ _).1.length;rw[hg.len];exact hi
  rw[qg hi2];exact hg.rng _ (AX hi2)
 ·rw[Aq k,Aq k,qg (by rw[List.length_replicate];exact hi),List.getElem_replicate];exact⟨by decide,by decide⟩
def gOfW (s:Sch) (ds:List Pk) (r:List Int):List Int:=(qR s 2).map fun c=>(vwG s ds c).getD (YR s c (r.getD c.toNat 0)).toNat 0
theorem jn4 {α:Type} (f:α→List Int) (g:α→Int):∀ L:List α,gAt (L.map f) (L.map g)=L.map fun c=>(f c).getD (g c).toNat 0
 | []=>rfl
 | c::L=>by
   have:=jn4 f g L;unfold gAt at this ⊢
   rw[List.map_cons,List.map_cons,List.zipWith_cons_cons,this,List.map_cons]
theorem zN2 {s:Sch} {r:List Int} (hr:rowE s r=0) (ds:List Pk) {c:Int} (h:CdC s c):0≤(vwG s ds c).getD (YR s c (r.getD c.toNat 0)).toNat 0∧(vwG s ds c).getD (YR s c (r.getD c.toNat 0)).toNat 0<gN (vwG s ds c):=by
 have:=zc0 hr h;exact jV5 (qO (wA hr).1) ds h oM
theorem jV6 {s:Sch} {r:List Int} (hr:rowE s r=0) (ds:List Pk):inR ((tabG s ds).map gN) (gOfW s ds r):=by
 unfold tabG gOfW;rw[Gz];exact zA6 _ _ _ fun c hc=>zN2 hr ds (qB5 hc)
theorem jV7 {s:Sch} {r:List Int} (hr:rowE s r=0) (hS:chkS (spSz s)=0) (ds:List Pk):ofS (spSz s) (tabG s ds) (numL (spSz s) (atW s r))=numL ((tabG s ds).map gN) (gOfW s ds r):=by
 have e:gAt (tabG s ds) (atW s r)=gOfW s ds r:=jn4 _ _ _;unfold ofS;rw[qP8 (kY.1 hS).all (zs4 hr),e,Aq];rw[Bool.not_eq_true,List.any_eq_false];intro g hg;obtain⟨c,hc,rfl⟩:=Cj.1 hg;have:=zN2 hr ds (qB5 hc);rw[AZ];omega
theorem jV8 {s:Sch} {r:List Int} (hr:rowE s r=0) (hS:chkS (spSz s)=0) (ds:List Pk) {k:Int} (hk:0≤k∧k<pubN (tabG s ds)):ofS (spSz s) (tabG s ds) (numL (spSz s) (atW s r))=k↔gOfW s ds r=zd ((tabG s ds).map gN) k:=by
 have hV:=YQ (wA hr).1 hS ds;rw[jV7 hr hS];have hin:=jV6 hr ds;have hpl:=(jg (sz:=(tabG s ds).map gN) hV.gsz hk.1);have hnp:=zn8 (sz:=(tabG s ds).map gN) (n:=k) (fun x hx=>by
  have:=Bk.1 hV.gsz x hx;unfold szOk at this;simp only[Bq,AZ] at this;omega) hk.1
 constructor
 ·intro e;rw[← e,qP8 hV.gsz hin]
 ·intro e;rw[e,hnp.1];exact Int.emod_eq_of_lt hk.1 hk.2
set_option maxHeartbeats 8000000
structure DrD (s:Sch) (d:Dcl):Prop where
 len:d.qs.length≤3
 nm:∀ q∈d.qs,∃ n,n<10∧q.name=⟨#[113,dgt n]⟩
 coh:CndOk s 1 d.coh
theorem jz4 (l:List UInt8) (a:Nat) (hl:l.length≤400) (ha:a≤l.length) :
 ∃ (k:Int) (b:Nat),0≤k∧k<1152921504606846976∧b≤l.length∧Sp 26 [.ptr 0 1 0 0] [(0,oC l a)] (vI k) [(0,oC l b)]:=by
 obtain⟨u,a1,u1,u2,ha1,s1⟩:=qR5 l a 60000 hl ha oM;obtain⟨v,a2,v1,v2,ha2,s2⟩:=qR5 l a1 60000 hl ha1 oM;obtain⟨w,a3,w1,w2,ha3,s3⟩:=qR5 l a2 7 hl ha2 oM;have h1:0≤u*v:=Int.mul_nonneg u1 v1;have h2:u*v≤60000*60000:=Int.mul_le_mul oM oM v1 oM;refine⟨u*v+w,a3,oM,oM,ha3,?_⟩;have hw1:IntKind.i64.wrap (u*v)=u*v:=AK _ oM;have hw2:IntKind.i64.wrap (u*v+w)=u*v+w:=AK _ oM;refine sIr Wv fun e _ hst=>?_;unfold jR;refine sW ?_;refine C1.draw 0 l a _ s1 rfl rfl rfl ?_;refine sW ?_;refine C1.draw 0 l a1 _ s2 rfl rfl rfl ?_;simp only[tZ,↓uU,simprocAttr,hw1];refine C1.draw 0 l a2 _ s3 rfl rfl rfl ?_;simp only[tZ,↓uU,simprocAttr,hw1,hw2];exact .oA (U1 0) []
open Go.TL.So
structure RwId (l:List (List Int)):Prop where
 asc:AscR l
 pos:∀ r∈l,0<r.length
 ids:∀ r∈l,1≤hd r∧hd r≤1048575
 len:l.length≤1000
theorem jn5 {x y:T}:jv7 (some (.v undef)) (some x) (some y)=none:=iR
theorem jN7 {n:Nat} {p:Nat→Nat→Bool} (h:qj0 n p=true) {i k:Nat} (hi:i<n) (hk:k<n) (hne:i≠k):p (max i k) (min i k)=true:=by
 rcases Nat.lt_or_gt_of_ne hne with q | q
 ·rw[show max i k=k by omega,show min i k=i by omega];exact zr6.1 h k hk i q
 ·rw[show max i k=i by omega,show min i k=k by omega];exact zr6.1 h i hi k q
theorem jV9 {s:Sch} {c:Cnd} {v:Int} (o:c.op=4):Qq s c v=tf (v==qW):=by
 unfold Qq;rw[Aq (show ¬ c.op=2 by omega),Aq (show ¬ c.op=3 by omega),Aj o]
theorem jW0 {s:Sch} {c:Cnd} {v:Int} (o:c.op=3):Qq s c v=if v=qW then 0 else tf (decide (c.lo≤v)&&decide (v≤c.hi)):=by
 unfold Qq;rw[Aq (show ¬ c.op=2 by omega),Aj o]
theorem jN8 {s:Sch} (hE:schE s=0) {c:Cnd} (hnd:NdOk s c) (hia:isAt c=true) {lev:Nat} (hl:(lev:Int)≤finI s c.col) (hd:decB s c lev=true) {a b:Int} (ha:qS s c.col.toNat a=true) (hb:qS s c.col.toNat b=true) (h:qk s c.col lev a=qk s c.col lev b):Qq s c a=Qq s c b:=by
 obtain⟨_,c1,c2,hfin⟩:=kz (s:=s) (c:=c.col) oM;obtain⟨i,hci⟩:=AJ (show 0≤c.col by omega);have hcn:c.col.toNat=i:=by omega
 have hil:i<s.cols.length:=by omega
 have hok:=qO hE;have hop:c.op=2∨c.op=3∨c.op=4:=by
  unfold isAt at hia;simp only[DZ,AY] at hia;omega
 rw[hcn] at ha hb;by_cases o2:c.op=2
 ·have hk2:(qj s i).kind=2:=by have:=(jk.1 (hnd.under o2).1).2.2;rw[hcn] at this;exact this
  have ma:=(zU hok hil hk2).1 ha;have mb:=(zU hok hil hk2).1 hb;by_cases e:a=b
  ·rw[e]
  obtain⟨j,hj,rfl⟩:=CX ma;obtain⟨k,hk,rfl⟩:=CX mb;unfold decB at hd;rw[Aj o2,hcn] at hd;have hp:=jN7 hd hj hk (fun q=>e (by subst q;rfl));have key:∀ x y,x<(qA s i).length→y<(qA s i).length→decP s c lev x y=true→qk s c.col lev ((qA s i).getD x 0)=qk s c.col lev ((qA s i).getD y 0)→Qq s c ((qA s i).getD x 0)=Qq s c ((qA s i).getD y 0):=fun x y _ _ hp he=>by
   unfold decP at hp;rw[hcn,he] at hp;simpa using hp
  have gj:(qA s i).getD j 0=(qA s i)[j]:=qg hj;have gk:(qA s i).getD k 0=(qA s i)[k]:=qg hk;rw[← gj,← gk] at h ⊢
  rcases Nat.lt_or_ge j k with q | q
  ·rw[show max j k=k by omega,show min j k=j by omega] at hp;exact (key k j hk hj hp h.symm).symm
  ·rw[show max j k=j by omega,show min j k=k by omega] at hp;exact key j k hj hk hp h
 ·have h3:(qj s i).kind=3:=by
   rcases hop with o | o | o
   ·exact absurd o o2
   ·have:=(jk.1 (hnd.between o).1).2.2;rw[hcn] at this;exact this
   ·have:=(jk.1 (hnd.miss o).1).2.2;rw[hcn] at this;exact this
  have h2:(qj s i).kind≠2:=by omega
  have hm:=wJ hE hil oM h2;have hlh:=hm.lh;rw[hci] at hl h;have hsame:1≤lev→_:=fun h1=>(zA5 hE hil oM h2 h1 hl ha hb).1 h;have va:=(wc h3).1 ha;have vb:=(wc h3).1 hb;unfold decB at hd;rw[Aq o2,hcn] at hd;by_cases o4:c.op=4
  ·rw[Aj o4,AZ] at hd;rw[jV9 o4,jV9 o4];rcases hsame oM with k | k
   ·rw[k.1,k.2]
   ·rw[Ak.2 k.1,Ak.2 k.2.1]
  ·have o3:c.op=3:=by omega
   rw[Aq o4] at hd;dsimp only at hd;rw[jW0 o3,jW0 o3];by_cases e0:lev=0
   ·subst e0;rw[Aj rfl] at hd;simp only[Bq,Bx,FJ,Ay] at hd;have na:a≠qW:=fun e=>by
     rcases va with k | k
     ·rw[k.1] at hd;simp at hd
     ·unfold qW at e;omega
    have nb:b≠qW:=fun e=>by
     rcases vb with k | k
     ·rw[k.1] at hd;simp at hd
     ·unfold qW at e;omega
    rw[Aq na,Aq nb];have ra:(qj s i).low≤a∧a≤(qj s i).high:=va.resolve_left fun k=>na k.2;have rb:(qj s i).low≤b∧b≤(qj s i).high:=vb.resolve_left fun k=>nb k.2
    congr 1
    have e1:(c.lo≤a)↔(c.lo≤b):=by omega
    have e2:(a≤c.hi)↔(b≤c.hi):=by omega
    rw[decide_eq_decide.2 e1,decide_eq_decide.2 e2]
   ·rw[Aq e0] at hd;rcases hsame oM with k | ⟨na,nb,hbl⟩
    ·rw[k.1,k.2]
    ·rw[Aq na,Aq nb];have ra:(qj s i).low≤a∧a≤(qj s i).high:=va.resolve_left fun k=>na k.2;have rb:(qj s i).low≤b∧b≤(qj s i).high:=vb.resolve_left fun k=>nb k.2;have hf:=hm.fin;have hw:=hm.wid lev oM oM;simp only[Bq,DZ,Bx,FJ,Ay,zM9] at hd
     congr 1
     have e1:(c.lo≤a)↔(c.lo≤b):=by
      rcases hd.1 with k | k
      ·omega
      ·exact jn2 oM k hbl
     have e2:(a≤c.hi)↔(b≤c.hi):=by
      rcases hd.2 with k | k
      ·omega
      ·have:=jn2 oM k hbl;omega
     rw[decide_eq_decide.2 e1,decide_eq_decide.2 e2]
theorem jz5 {v w q:Int} (hw:1≤w) (h1:q*w≤v) (h2:v<(q+1)*w):qU v w=q:=by
 rw[qe9 oM];have a1:v / w<q+1:=Int.ediv_lt_of_lt_mul oM h2;have a2:q≤v / w:=Int.le_ediv_of_mul_le oM h1;omega
theorem zs5:∀ {l:List Pk} {p:Pk},p∈l→p.lev≤mxl l p.col
 | q::r,p,h=>by
   rw[mxl];rcases Ck.1 h with e | h
   ·subst e;rw[Aj rfl];omega
   ·have:=zs5 h;split <;> omega
theorem qB6:∀ {l:List Pk} {k:Int},0<mxl l k→∃ p∈l,p.col=k∧p.lev=mxl l k
 | [],k,h=>by rw[mxl] at h;omega
 | p::r,k,h=>by
   rw[mxl] at h ⊢
   by_cases e:p.col=k
   ·rw[Aj e] at h ⊢
    by_cases h2:mxl r k≤p.lev
    ·exact⟨p,sMp,e,oM⟩
    ·obtain⟨x,h3,h4,h5⟩:=qB6 (l:=r) (k:=k) oM;exact⟨x,CQ _ h3,h4,oM⟩
   ·rw[Aq e] at h ⊢
    obtain⟨x,h3,h4,h5⟩:=qB6 (l:=r) (k:=k) h;exact⟨x,CQ _ h3,h4,h5⟩
section
variable {P:Program} {st:Sto} {e:Env} {kss:List (Nat×List Nat)} {Q:Ex→St→Prop} {K:List KF} {rows:Option (List Nat)} {ks:List Nat} {nid:Nat} {ops:List ROp} {F:XF} {acc:Acc}
theorem C1.cut0 {fid:FuncId} {caps xs ts':List T} {d:Option Nat} {ys zs:List T} {m:Nat} (id nid' k:Nat) (hs:Spc P fid ts' [(0,.arr k zs false)] (.asl 1 m) [(0,.dead),(1,.arr k ys false)]) (hg:TL.get st id=some (.arr k zs false)) (hz:ImXs k zs) (hy:ImXs k ys)
 (hn:TL.get st nid'=none) (ha:ltAs st [(0,some id)] [] (xs++caps) ts')
 (h:R P e kss Q rows ks K nid ops (putX F d (.p (.asl nid' m))) (stUp st [(id,.dead),(nid',.arr k ys false)]) (acc++[([]++[id,nid'],[id,nid'])])):C1 P e kss Q rows ks K (.clo fid caps) xs d nid ops F st acc:=by
 have hne:id≠nid':=fun e=>by subst e;rw[hg] at hn;cases hn
 refine C1.of [(0,some id)] [(nid',some 1)] [] [(id,.dead),(nid',.arr k ys false)] hs ha (by simp [wm,TL.get]) ?_ rF (by simp [TL.get]) ?_ ?_ rF ?_ (.inl rF) h
 ·refine⟨?_,trivial⟩;simp only[TL.get,if_true,ltO2,hg,ltO1];exact⟨trivial,sMp,jV hz,sMp⟩
 ·refine⟨?_,trivial⟩;simp only[TL.get,if_true,wrO,ltO1,Nat.reduceEqDiff,↓reduceIte,reduceCtorEq];exact⟨⟨trivial,sMp,jV hy,sMp⟩,.inl hn⟩
 ·simp [wm,TL.get,hne]
 ·exact⟨by simp [TL.get],rfl⟩
end
def xs1 (v:Int):Int:=xorI .u64 v (shlI .u64 v 13)
def xs2 (v:Int):Int:=xorI .u64 v (shrI .u64 v 7)
set_option maxHeartbeats 2000000
set_option maxHeartbeats 8000000
set_option maxHeartbeats 4000000
structure DrE (x:Src) (d:Edt):Prop where
 kind:1≤d.kind∧d.kind≤4
 len:d.row.length≤8
 id:0≤d.id∧d.id≤1048575
set_option maxHeartbeats 8000000
theorem SrcOk.smx {s:Src} (h:SrcOk s):jy3 s:=⟨(qO h.sch).sm,fun r hr=>by
 have h1:=(wA (h.rows r hr)).2.1;have h2:=(qO h.sch).nc;omega⟩
structure TwoOk (a b:Ext):Prop where
 pa:a.proj=b.proj
 pk:a.picks=b.picks
 oa:ExtOk a
 ob:ExtOk b
 sa:ExtSm a
 sb:ExtSm b
 na:a.rows.length≤200
 nb:b.rows.length≤200
theorem TwoOk.symm {a b:Ext} (h:TwoOk a b):TwoOk b a:=⟨h.pa.symm,h.pk.symm,h.ob,h.oa,h.sb,h.sa,h.nb,h.na⟩
theorem zA7 (s:Src) (l:List Pk) (k:Int):∀ (m A:List (List Int)),AscR A→(∀ r∈A,r.length=l.length+1)→AscR (m.foldl (wS s l k) A)∧(∀ r∈m.foldl (wS s l k) A,r.length=l.length+1)∧(m.foldl (wS s l k) A).length≤A.length+m.length
 | [],A,h1,h2=>⟨h1,h2,sMp⟩
 | r::m,A,h1,h2=>by
   obtain⟨k1,k2,k3⟩:=zA7 s l k m (wS s l k A r) (za8 h1) (fun x hx=>by
    rcases (za9 h1).1 hx with e | ⟨hx,_⟩
    ·rw[e];simp [rowX]
    ·exact h2 x hx)
   have h3:=zb0 A (rowX s l k r);refine⟨k1,k2,?_⟩;have h4:(wS s l k A r).length≤A.length+1:=h3;rw[Dw,CJ];omega
theorem jn6 {k n:Int} (hk:0≤k∧k<1152921504606846976) (hn:0≤n∧n<1048576):0≤keyI k n∧idI k (keyI k n)=n:=by
 have h1:JU k n=true:=by simp [JU];omega
 have h2:=ZP (s:=k) (qe1 hn) 8;have h3:=zq4 h2;have h4:keyI k n=tie (fwd k 8 (cut n)):=by rw[keyI,Aj h1]
 have h5:JU k (keyI k n)=true:=by rw[h4];simp [JU];omega
 refine⟨oM,?_⟩;rw[idI,Aj h5,h4,jM7 h2,jl8 (qe1 hn),jM8]
theorem jN9 {k n m:Int} (hk:0≤k∧k<1152921504606846976) (hn:0≤n∧n<1048576) (hm:0≤m∧m<1048576) (h:keyI k n=keyI k m):n=m:=by
 have h1:=(jn6 hk hn).2;have h2:=(jn6 hk hm).2;rw[← h1,← h2,h]
theorem zs6 (s:Src) (l:List Pk) (k:Int):∀ (m A:List (List Int)),AscR A→(m.Pairwise fun a b=>keyI k (hd a)≠keyI k (hd b))→(∀ r∈m,∀ x∈A,hd x≠keyI k (hd r))→
 ∀ x,x∈m.foldl (wS s l k) A↔x∈A∨∃ r∈m,x=rowX s l k r
 | [],A,_,_,_,x=>by simp
 | r::m,A,h1,h2,h3,x=>by
   obtain⟨h4,h5⟩:=List.pairwise_cons.1 h2;have hm:∀ y,y∈wS s l k A r↔y=rowX s l k r∨y∈A:=fun y=>by
    show y∈putR A (rowX s l k r)↔_;rw[za9 h1];constructor
    ·rintro (a | ⟨a,_⟩)
     ·exact .inl a
     ·exact .inr a
    ·rintro (a | a)
     ·exact .inl a
     ·exact .inr ⟨a,h3 r sMp y a⟩
   rw[Dw,zs6 s l k m (wS s l k A r) (za8 h1) h5 (fun q hq y hy=>by
    rcases (hm y).1 hy with e | hy
    ·rw[e];exact h4 q hq
    ·exact h3 q (CQ _ hq) y hy),hm]
   constructor
   ·rintro ((a | a) | ⟨q,hq,a⟩)
    ·exact .inr ⟨r,sMp,a⟩
    ·exact .inl a
    ·exact .inr ⟨q,CQ _ hq,a⟩
   ·rintro (a | ⟨q,hq,a⟩)
    ·exact .inl (.inr a)
    ·rcases Ck.1 hq with rfl | hq
     ·exact .inl (.inl a)
     ·exact .inr ⟨q,hq,a⟩
theorem YS {s:Src} {d:Dcl} (h:SrcOk s) (hd0:dclE s.sch d=0) (r:List Int):r∈ownR s d↔r∈s.rows∧ownP s d r=true:=by
 unfold ownR;rw[Aq (by rw[qA7.2 h,hd0];simp),Fz]
theorem jn7 {s:Src} {d:Dcl} {k:Int} (h:SrcOk s) (hk:0≤k∧k<1152921504606846976):(ownR s d).Pairwise fun a b=>keyI k (hd a)≠keyI k (hd b):=by
 unfold ownR;split
 ·exact List.Pairwise.nil
 ·refine List.Pairwise.filter _ ?_;refine List.Pairwise.imp_of_mem ?_ h.asc;intro a b ha hb hab e;have h1:=zS1 (h.rows a ha);have h2:=zS1 (h.rows b hb);have:=jN9 hk oM oM e;omega
theorem qj9 {s:Src} {d:Dcl} {l:List Pk} {k:Int} (h:SrcOk s) (hd0:dclE s.sch d=0) (hk:0≤k∧k<1152921504606846976) (x:List Int) :
 x∈yq s d l k↔∃ r∈s.rows,ownP s d r=true∧x=rowX s l k r:=by
 unfold yq;rw[zs6 s l k _ [] List.Pairwise.nil (jn7 h hk) sMp];constructor
 ·rintro (a | ⟨r,hr,e⟩)
  ·simp at a
  ·obtain⟨h1,h2⟩:=(YS h hd0 r).1 hr;exact⟨r,h1,h2,e⟩
 ·rintro ⟨r,h1,h2,e⟩;exact .inr ⟨r,(YS h hd0 r).2 ⟨h1,h2⟩,e⟩
theorem SrcOk.rw {s:Src} (h:SrcOk s):RwId s.rows:=⟨h.asc,fun r hr=>JK (h.rows r hr),fun r hr=>zS1 (h.rows r hr),by have:=h.nr;omega⟩
section
variable (cv:List Int→List Int→Int) (P:List Int→Prop) (f:FuncId) (hf:∀ x y,P x→P y→Sp f [vIs x,vIs y] [] (vI (cv x y)) [])
abbrev ltV (x y:List Int):Bool:=decide (cv x y<0)
include hf in
end
theorem jO0 {k n:Int} (hk:0≤k∧k<1152921504606846976) (hn:0≤n∧n<1048576):0≤keyI k n∧keyI k n≤1048575:=by
 have h1:JU k n=true:=by simp [JU];omega
 have h3:=zq4 (ZP (s:=k) (qe1 hn) 8);have h4:keyI k n=tie (fwd k 8 (cut n)):=by rw[keyI,Aj h1]
 omega
def Qb (s:Sch) (q:Qst) (k:Nat) (lev:Int) (x y:Int):Prop:=qk s k lev x=qk s k lev y∧jZ0 s q k x y=true
structure FirstV (s:Sch) (q:Qst) (k:Nat) (lev:Int) (x y:Int):Prop where
 hx:qS s k x=true
 hy:qS s k y=true
 lt:x<y
 qb:Qb s q k lev x y
 least:∀ x' y',qS s k x'=true→qS s k y'=true→x'<y'→Qb s q k lev x' y'→x<x'∨(x=x'∧y≤y')
structure LeastX (s:Sch) (q:Qst) (k:Nat) (lev:Int) (x:Int):Prop where
 lo:(qj s k).low<x
 hi:x≤(qj s k).high
 qb:Qb s q k lev (x-1) x
 least:∀ y,(qj s k).low<y→y<x→¬ Qb s q k lev (y-1) y
def qf0 (L:List Int) (f g:Int→Int) (v:Int):Int×Bool:=match L.filter (fun x=>f x==v) with
 | []=>(0,false)
 | x::r=>if (r.all fun y=>g y==g x)=true then (g x,true) else (0,false)
theorem zA8 {L:List Int} {f:Int→Int} {v:Int} {i:Nat} (h:i<L.length):(L.take (i+1)).filter (fun x=>f x==v)=(L.take i).filter (fun x=>f x==v)++if (f L[i]==v)=true then [L[i]] else []:=by
 rw[qy h,FY]
 congr 1
 split
 ·rename_i h2;rw[List.filter_cons_of_pos (p:=fun x=>f x==v) h2];rfl
 ·rename_i h2;rw[List.filter_cons_of_neg (p:=fun x=>f x==v) h2];rfl
def TcI (g:Int→Int) (M:List Int) (o:Int) (b:Bool):Prop:=(M=[]∧o=0∧b=false)∨∃ x r,M=x::r∧(∀ y∈r,g y=g x)∧o=g x∧b=true
theorem TcI.fin {L:List Int} {f g:Int→Int} {v o:Int} {b:Bool} (h:TcI g (L.filter fun x=>f x==v) o b):qf0 L f g v=(o,b):=by
 unfold qf0;rcases h with⟨h1,h2,h3⟩ | ⟨x,r,h1,h2,h3,h4⟩
 ·rw[h1,h2,h3]
 ·rw[h1,h3,h4];dsimp only;rw[Aj (Bk.2 fun y hy=>AY.2 (h2 y hy))]
theorem zS9 {L:List Int} {f g:Int→Int} {v:Int} {i:Nat} (h:i<L.length) {o:Int} (hI:TcI g ((L.take i).filter fun x=>f x==v) o true) (h1:(f L[i]==v)=true) (h2:g L[i]≠o):qf0 L f g v=(0,false):=by
 rcases hI with⟨_,_,h3⟩ | ⟨x,r,h3,h4,h5,_⟩
 ·cases h3
 ·have hL:L.filter (fun x=>f x==v)=x::(r++L[i]::(L.drop (i+1)).filter fun x=>f x==v):=by
   conv=>lhs;rw[← List.take_append_drop i L,FY,h3,zz6 h,List.filter_cons_of_pos (p:=fun x=>f x==v) h1]
   simp
  unfold qf0;rw[hL];dsimp only;rw[Aq];intro k;have:=Bk.1 k L[i] sMp;rw[AY,← h5] at this;exact h2 this
def Qv (c:Col) (a v b:Int):Int×Bool:=
 if 0<a∧v=qW then ((if b=0 then 0 else v),c.opt)
 else if (kF c a v).2.2=false then (0,false)
 else if b=0 then (0,true)
 else if a=0∧c.opt=true then (0,false)
 else (qU (kF c a v).1 (qJ c b)*qJ c b,qU (kF c a v).1 (qJ c b)*qJ c b==qU (kF c a v).2.1 (qJ c b)*qJ c b)
def qk0 (s:Sch) (c a v b:Int):Int×Bool:=
 if inB a 0 (finI s c)=false∨inB b 0 (finI s c)=false then (0,false)
 else
  let r:=if (qj s c.toNat).kind=2 then qf0 (qA s c.toNat) (fun x=>upC (qK s c.toNat) x a) (fun x=>upC (qK s c.toNat) x b) v else Qv (qj s c.toNat) a v b
  (if r.2=true then r.1 else 0,r.2)
theorem zA9 {α:Type} {p:α→Bool} {l:List α} (h:l.any p=true):∃ (i:Nat) (hi:i<l.length),idxI p l=i∧p l[i]=true:=by
 obtain⟨x,hx,hp⟩:=DJ.1 h;have hlt:=List.findIdx_lt_length_of_exists ⟨x,hx,hp⟩;exact⟨l.findIdx p,hlt,by rw[idxI,Aj h],List.findIdx_getElem⟩
def fitV (s:Sch) (ps:List Pk) (row:List Int) (i:Nat):Bool:=(qB2 s (ps.getD i default).col.toNat (ps.getD i default).lev (row.getD (i+1) 0)).2
def fitX (s:Sch) (ps:List Pk) (row:List Int):Bool:=(row.length==ps.length+1)&&decide (0≤hd row)&&decide (hd row≤1048575)&&(List.range ps.length).all (fitV s ps row)
theorem zT0 {n:Nat} {p:Nat→Bool}:(List.range (n+1)).all p=((List.range n).all p&&p n):=by
 rw[List.range_succ,FK];simp
theorem jn8 {n m:Nat} {p:Nat→Bool} (h:n<m) (hp:p n=false):(List.range m).all p=false:=by
 rw[List.all_eq_false];exact⟨n,Dk.2 h,by rw[hp];simp⟩
theorem jO1 {s:Sch} {ps:List Pk} {row:List Int} (h:fitX s ps row=true):row.length=ps.length+1∧0≤hd row∧hd row≤1048575:=by
 unfold fitX at h;simp only[Bq,AY,AZ] at h;exact⟨h.1.1.1,h.1.1.2,h.1.2⟩
def zB0 (s:Sch) (x:Ext) (i:Nat):Int:=if fitX s x.picks (x.rows.getD i [])=false then 9 else if 0<i∧hd (x.rows.getD i [])≤hd (x.rows.getD (i-1) []) then 10 else 0
def extE (s:Sch) (x:Ext):Int:=if schE s≠0 then schE s else if jr x.proj=false then 3 else if x.ver<0∨x.ver>300 then 13 else if jH s x.picks≠0 then jH s x.picks else if x.rows.length>200 then 1 else jh (zB0 s x) x.rows.length
def knwP (x:Ext) (r:Nat) (c:Int):Int×Int:=if (x.picks.any fun p=>p.col==c)=true then ((x.picks.getD (x.picks.findIdx fun p=>p.col==c) default).lev,(x.rows.getD r []).getD ((x.picks.findIdx fun p=>p.col==c)+1) 0) else (0,0)
def knwI (s:Sch) (x:Ext) (r:Nat) (c lev:Int):Int×Bool:=qk0 s c (knwP x r c).1 (knwP x r c).2 lev
set_option maxHeartbeats 4000000
def lstD (s:Sch):List Pk→List (List Int)
 | []=>[[]]
 | d::r=>(-1::atL (qK s d.col.toNat) d.lev).flatMap fun c=>(lstD s r).map fun y=>c::y
def szD (s:Sch) (l:List Pk):Nat:=(l.map fun d=>(atL (qK s d.col.toNat) d.lev).length+1).foldl (·*·) 1
theorem KX (l:List Nat):∀ a:Nat,l.foldl (·*·) a=a*l.foldl (·*·) 1:=by
 induction l with
 | nil=>intro a;simp
 | cons x r ih=>intro a;rw[Dw,Dw,ih,ih (1*x),Nat.one_mul,Nat.mul_assoc]
theorem zN3 {α β:Type} (f:α→List β) (n:Nat):∀ l:List α,(∀ x∈l,(f x).length=n)→(l.flatMap f).length=l.length*n
 | [],_=>by simp
 | x::r,h=>by
   rw[Gq,AW,h x sMp,zN3 f n r (fun y hy=>h y (by simp [hy])),CJ,Nat.succ_mul];omega
theorem qf1 (s:Sch):∀ l:List Pk,(lstD s l).length=szD s l
 | []=>rfl
 | d::r=>by
   show (List.flatMap _ _).length=_;rw[zN3 _ (lstD s r).length _ (fun x _=>BY _),CJ,qf1 s r];unfold szD;rw[List.map_cons,Dw,KX _ (1*_),Nat.one_mul]
theorem jn9 (s:Sch):∀ l:List Pk,0<szD s l
 | []=>Nat.one_pos
 | d::r=>by
   have:=jn9 s r;unfold szD at this ⊢
   rw[List.map_cons,Dw,KX _ (1*_),Nat.one_mul];exact Nat.mul_pos oM this
theorem zc1 (s:Sch):∀ (l:List Pk) (y:List Int),y∈lstD s l→y.length=l.length
 | [],y,h=>by
   rw[Ey.1 h];rfl
 | d::r,y,h=>by
   obtain⟨c,_,h2⟩:=Ek.1 h;obtain⟨z,hz,rfl⟩:=Cj.1 h2;rw[CJ,CJ,zc1 s r z hz]
abbrev Lin:=Int×List Int
def inC (codes:List Int) (y:Lin):Bool:=(List.range codes.length).all fun k=>(codes.getD k 0 == -1)||(codes.getD k 0==y.2.getD k 0)
def tclF (ls:List Lin) (codes:List Int):TCl:=⟨codes,((ls.filter (inC codes)).length:Int),0,0,0,0,(ls.filter (inC codes)).map fun y=>y.1⟩
def zs7 (s:Sch) (x:Ext) (dims:List Pk) (q:Qst) (need:List Pk):Int:=
 if extE s x≠0 then extE s x else if qstE s q≠0 then qstE s q else if covB need x.picks=false then 23 else if szD s dims>2000 then 1 else 0
def linD (s:Sch) (x:Ext) (dims:List Pk) (i:Nat):Lin:=(hd (x.rows.getD i []),dims.map fun d=>(knwI s x i d.col d.lev).1)
def qL6 (x:Ext) (ev:Nat→Int):List Nat:=(List.range x.rows.length).filter fun i=>ev i==1
def KY (s:Sch) (x:Ext) (dims:List Pk) (ev:Nat→Int):List TCl:=(lstD s dims).map (tclF ((qL6 x ev).map (linD s x dims)))
structure DmsOk (s:Sch) (ds:List Pk):Prop where
 pick:∀ a (h:a<ds.length),js s ds[a]=0
 kind:∀ a (h:a<ds.length),(qj s ds[a].col.toNat).kind=2
 dist:∀ b a (h:a<ds.length) (hb:b<a),ds[b].col≠ds[a].col
theorem zc2 {s:Sch} {ds:List Pk} (h:qe5 s ds=true):DmsOk s ds:=by
 have h1:=Bk.1 h;have h2:∀ a (ha:a<ds.length),(js s ds[a]=0∧(qj s ds[a].col.toNat).kind=2)∧∀ x∈ds.take a,x.col≠ds[a].col:=fun a ha=>by
  have:=h1 a (Dk.2 ha);unfold zr0 at this;rw[qg ha] at this;simpa using this
 refine⟨fun a h=>(h2 a h).1.1,fun a h=>(h2 a h).1.2,fun b a h hb=>?_⟩;refine (h2 a h).2 _ ?_;rw[List.mem_iff_getElem];exact⟨b,by rw[Cz];omega,by rw[Fy]⟩
theorem DmsOk.cd {s:Sch} {ds:List Pk} (h:DmsOk s ds) {a:Nat} (ha:a<ds.length):CdC s ds[a].col:=by
 have:=zW (h.pick a ha);exact⟨oM,h.kind a ha⟩
theorem DmsOk.mem {s:Sch} {ds:List Pk} (h:DmsOk s ds) {a:Nat} (ha:a<ds.length):ds[a].col∈qR s 2:=by
 have:=h.cd ha;exact ZR.2 (jk.2 ⟨this.rng.1,this.rng.2,this.kind⟩)
theorem DmsOk.at_ {s:Sch} {ds:List Pk} (h:DmsOk s ds) {a:Nat} (ha:a<ds.length):dmAt ds ds[a].col=a:=by
 unfold dmAt;refine jI ha ?_ sMp;rw[List.any_eq_false];intro x hx;obtain⟨b,hb,rfl⟩:=CX hx;rw[Cz] at hb;rw[Fy,AY];exact h.dist b a ha oM
theorem zc3 {ds:List Pk} {c:Int} (h:dmAt ds c<ds.length):(ds[dmAt ds c]'h).col=c:=by
 unfold dmAt at h ⊢
 have:=List.findIdx_getElem (xs:=ds) (p:=fun d=>d.col==c) (w:=h);exact AY.1 this
theorem jo0 (f:Int→Int) (l:List Int):∀ y∈(grpF f l).2,∃ v∈l,y=f v:=by
 suffices H:∀ i,i≤l.length→∀ y∈(grpF f (l.take i)).2,∃ v∈l,y=f v by
  have:=H l.length (BZ _)
  rwa [Bw] at this
 intro i
 induction i with
 | zero=>intro _ y hy;simp [grpF] at hy
 | succ i ih=>
   intro hi y hy;have hi2:i<l.length:=by omega
   rw[qe4 f hi2] at hy;have h1:=ih oM;generalize grpF f (l.take i)=x at h1 hy;unfold YJ at hy;split at hy
   ·exact h1 y hy
   ·rcases Dz.1 hy with h | h
    ·exact h1 y h
    ·exact⟨l[i],AX hi2,Ey.1 h⟩
theorem jW1 {s:Sch} (hok:SchOk s) {c:Int} (hc:CdC s c) {v lev:Int} (hv:v∈qA s c.toNat) (hl:0≤lev∧lev≤zA (qK s c.toNat)-1):0≤upC (qK s c.toNat) v lev:=by
 have hr:=hc.rng;obtain⟨_,d2⟩:=hok.cdl (i:=c.toNat) oM hc.kind;obtain⟨n,rfl,h1,h2⟩:=(Wp hok oM hc.kind).1 hv;unfold upC;rw[Aq (by rw[Ax];omega)];omega
def lcD (s:Sch) (ds:List Pk) (r:List Int):List Int:=ds.map fun d=>upC (qK s d.col.toNat) (r.getD d.col.toNat 0) d.lev
theorem qf2 (s:Sch) (ds:List Pk) (k:Nat):(YK s ds k).length=ds.length:=by unfold YK;rw[BY,List.length_range]
theorem zc4 {s:Sch} {ds:List Pk} {k a:Nat} (h:a<ds.length):(YK s ds k).getD a 0=(ofD s ds a).getD ((zd ((tabG s ds).map gN) k).getD (plD s ds a) 0).toNat 0:=by
 rw[qg (by rw[qf2];exact h)];unfold YK;rw[Fj,List.getElem_range]
theorem jW2 {s:Sch} {ds:List Pk} {r:List Int} {a:Nat} (h:a<ds.length):(lcD s ds r).getD a 0=upC (qK s ds[a].col.toNat) (r.getD ds[a].col.toNat 0) ds[a].lev:=by
 rw[qg (by unfold lcD;rw[BY];exact h)];unfold lcD;rw[Fj]
theorem jo1 {sz at_:List Int} (h:inR sz at_) {i:Nat} (hi:i<sz.length):0≤at_.getD i 0∧at_.getD i 0<sz.getD i 0:=by
 have hl:=Yy h;have:∀ {sz at_:List Int},inR sz at_→∀ {i:Nat} (h:i<sz.length) (h2:i<at_.length),0≤at_[i]∧at_[i]<sz[i]:=by
  intro sz
  induction sz with
  | nil=>intro at_ _ i h;simp at h
  | cons k r ih=>
    intro at_ h i h1 h2;cases at_ with
    | nil=>simp at h2
    | cons a t=>
      cases i with
      | zero=>exact h.1
      | succ i=>exact ih h.2 (by simpa using h1) (by simpa using h2)
 rw[qg hi,qg (show i<at_.length by omega)];exact this h hi oM
theorem nodup_inj {l:List Int} (h:l.Nodup) {i j:Nat} (hi:i<l.length) (hj:j<l.length) (e:l[i]=l[j]):i=j:=by
 have:=DX.1 h;rcases Nat.lt_trichotomy i j with k | k | k
 ·exact absurd e (this i j hi hj k)
 ·exact k
 ·exact absurd e.symm (this j i hj hi k)
theorem jW3 {s:Sch} {r:List Int} (hr:rowE s r=0) (hS:chkS (spSz s)=0) {ds:List Pk} (hd:DmsOk s ds) {k:Nat} (hk:(k:Int)<pubN (tabG s ds)) (key:Int):inC (YK s ds k) (key,lcD s ds r)=true↔gOfW s ds r=zd ((tabG s ds).map gN) k:=by
 obtain⟨hE,_,_⟩:=wA hr;have hok:=qO hE;have hV:=YQ hE hS ds;have hin:=(jg (sz:=(tabG s ds).map gN) hV.gsz (show (0:Int)≤k by omega)).1;have hlen:((tabG s ds).map gN).length=(qR s 2).length:=by unfold tabG;rw[BY,BY]
 have hpl:=Yy hin;have hPat:∀ j (hj:j<(qR s 2).length),0≤(zd ((tabG s ds).map gN) k).getD j 0∧(zd ((tabG s ds).map gN) k).getD j 0<gN (vwG s ds ((qR s 2)[j])):=fun j hj=>by
  have h1:=jo1 hin (show j<((tabG s ds).map gN).length by omega);have h2:((tabG s ds).map gN).getD j 0=gN (vwG s ds ((qR s 2)[j])):=by
   rw[qg oM];unfold tabG;rw[Fj,Fj]
  rw[h2] at h1;exact h1
 obtain⟨P,hP⟩:∃ P,P=zd ((tabG s ds).map gN) k:=⟨_,rfl⟩;rw[← hP] at hin hpl hPat ⊢
 have hcK:∀ a (ha:a<ds.length),(YK s ds k).getD a 0=(grpL s ds[a].col.toNat ds[a].lev).2.getD (P.getD (idxN ds[a].col (qR s 2)) 0).toNat 0:=fun a ha=>by
  rw[zc4 ha,← hP];unfold ofD plD;rw[qg ha]
 have hgl:(gOfW s ds r).length=(qR s 2).length:=by unfold gOfW;rw[BY]
 have hgA:∀ j (hj:j<(qR s 2).length),(gOfW s ds r)[j]'oM=(vwG s ds (qR s 2)[j]).getD (YR s (qR s 2)[j] (r.getD (qR s 2)[j].toNat 0)).toNat 0:=fun j hj=>by
  unfold gOfW;rw[Fj]
 have hvD:∀ a (ha:a<ds.length),vwG s ds ds[a].col=(grpL s ds[a].col.toNat ds[a].lev).1:=fun a ha=>by
  unfold vwG;rw[hd.at_ ha,Aj ha,qg ha]
 have hgD:∀ a (ha:a<ds.length),(grpL s ds[a].col.toNat ds[a].lev).2.getD ((vwG s ds ds[a].col).getD (YR s ds[a].col (r.getD ds[a].col.toNat 0)).toNat 0).toNat 0=(lcD s ds r).getD a 0:=fun a ha=>by
  have h1:=zc0 hr (hd.cd ha);have h2:=(qR6 (fun v=>upC (qK s ds[a].col.toNat) v ds[a].lev) (qA s ds[a].col.toNat)).at_ (YR s ds[a].col (r.getD ds[a].col.toNat 0)).toNat oM;rw[hvD a ha,jW2 ha];unfold grpL;rw[h2,h1.2.2]
 unfold inC;rw[Bk,qf2];constructor
 ·intro h;refine List.ext_getElem oM fun j hj1 hj2=>?_;have hj:j<(qR s 2).length:=by omega
  have hPj:=hPat j hj;rw[qg hj2] at hPj;rw[hgA j hj];have hcd:=qB5 (AX hj);by_cases hk2:dmAt ds (qR s 2)[j]<ds.length
  ·have e1:=zc3 hk2;have h3:=h _ (Dk.2 hk2);generalize dmAt ds (qR s 2)[j]=a at hk2 e1 h3;have e2:idxN ds[a].col (qR s 2)=j:=by
    rw[e1];refine zb5 hj (fun hm=>?_) rfl;obtain⟨b,hb,e⟩:=CX hm;rw[Cz] at hb;rw[Fy] at e;have:=nodup_inj (YL s 2) oM hj e;omega
   have h4:=hcK a hk2;rw[e2,qg hj2] at h4;rw[← e1];rw[← e1] at hPj;have hg:=zN2 hr ds (hd.cd hk2);have h5:=hgD a hk2;rw[h4] at h3;rw[← h5] at h3;have hG:=qR6 (fun v=>upC (qK s ds[a].col.toNat) v ds[a].lev) (qA s ds[a].col.toNat);have hN:gN (vwG s ds ds[a].col)=((grpL s ds[a].col.toNat ds[a].lev).2.length:Int):=by
    rw[zs3 hok ds (hd.cd hk2),hd.at_ hk2,Aj hk2,qg hk2]
   rw[hN] at hPj hg;have hnod:=hG.nod;have hgm:=jo0 (fun v=>upC (qK s ds[a].col.toNat) v ds[a].lev) (qA s ds[a].col.toNat);have hpk:=zW (hd.pick a hk2);have hfi:=(kz (s:=s) (c:=ds[a].col) oM).2.2.2;rw[Aj (hd.kind a hk2)] at hfi
   change (grpL s ds[a].col.toNat ds[a].lev).2.Nodup at hnod
   change ∀ y∈(grpL s ds[a].col.toNat ds[a].lev).2,_ at hgm
   generalize (vwG s ds ds[a].col).getD (YR s ds[a].col (r.getD ds[a].col.toNat 0)).toNat 0=g at hg h3 ⊢
   generalize P[j]=p at hPj h3 ⊢
   generalize (grpL s ds[a].col.toNat ds[a].lev).2=O at hPj hg h3 hnod hgm;rw[qg (show p.toNat<O.length by omega),qg (show g.toNat<O.length by omega),DZ,AY,AY] at h3;rcases h3 with h3 | h3
   ·obtain⟨v,hv,e⟩:=hgm _ (AX (show p.toNat<O.length by omega));have:=jW1 hok (hd.cd hk2) hv (lev:=ds[a].lev) oM;omega
   ·have:=nodup_inj hnod oM oM h3;omega
  ·have hN:=zs3 hok ds hcd;rw[Aq hk2] at hN;have hg:=zN2 hr ds hcd;omega
 ·intro e a ha;have ha2:a<ds.length:=Dk.1 ha;have hm:=hd.mem ha2;obtain⟨b1,b2⟩:=Qs hm;have e3:=hgA _ b1;have e4:(qR s 2)[idxN ds[a].col (qR s 2)]=ds[a].col:=by rw[qg b1] at b2;exact b2
  rw[e4] at e3;have e5:P.getD (idxN ds[a].col (qR s 2)) 0=(gOfW s ds r)[idxN ds[a].col (qR s 2)]'oM:=by
   rw[qg oM];simp only[e]
  rw[hcK a ha2,e5,e3,hgD a ha2,DZ];exact .inr (AY.2 rfl)
set_option maxHeartbeats 8000000
structure BldF (x:Src) (d:Dcl) (P:List Pk) (k:Int) (R:List (List Int)) (O:List Int):Prop where
 len:R.length=O.length
 asc:AscR R
 row:∀ i (hi:i<R.length),∃ (j:Nat) (hj:j<x.rows.length),R[i]=rowX x P k x.rows[j]∧qL2 x (hd x.rows[j])=j∧idI k (hd R[i])=hd x.rows[j]∧O.contains (hd x.rows[j])=true∧qZ8 x.sch d.coh x.rows[j]=1
theorem jo2 {x:Src} {d:Dcl} {k:Int} (h:SrcOk x) (hd0:dclE x.sch d=0) (hk:0≤k∧k<1152921504606846976) (P:List Pk):BldF x d P k (yq x d P k) (ownS x d):=by
 have hpw:=jn7 (d:=d) h hk;obtain⟨q1,_,_⟩:=zA7 x P k (ownR x d) [] List.Pairwise.nil sMp;have hnd1:((ownR x d).map (rowX x P k)).Nodup:=by
  refine List.pairwise_map.2 (hpw.imp fun {a b} h e=>h ?_);have:=congrArg hd e;exact this
 have hnd2:(yq x d P k).Nodup:=q1.imp fun {a b} h e=>by rw[e] at h;omega
 have hperm:(yq x d P k).Perm ((ownR x d).map (rowX x P k)):=(List.perm_ext_iff_of_nodup hnd2 hnd1).2 fun r=>by
  rw[qj9 h hd0 hk,Cj];constructor
  ·rintro ⟨r0,a,b,rfl⟩;exact⟨r0,(YS h hd0 r0).2 ⟨a,b⟩,rfl⟩
  ·rintro ⟨r0,a,rfl⟩;obtain⟨b,c⟩:=(YS h hd0 r0).1 a;exact⟨r0,b,c,rfl⟩
 refine⟨by rw[hperm.length_eq,BY,ownS,BY],q1,fun i hi=>?_⟩;obtain⟨r0,a,b,e⟩:=(qj9 h hd0 hk _).1 (AX hi);obtain⟨j,f1,f2,rfl⟩:=zL3 h a;have hin:=zS1 (h.rows _ a);have hki:=jn6 hk (n:=hd x.rows[j]) oM;refine⟨j,f2,e,f1,by rw[e];exact hki.2,?_,?_⟩
 ·rw[FQ];exact Cj.2 ⟨_,(YS h hd0 _).2 ⟨a,b⟩,rfl⟩
 ·rw[ownP,Bq,AY] at b;exact b.1
end Go.Proofs
