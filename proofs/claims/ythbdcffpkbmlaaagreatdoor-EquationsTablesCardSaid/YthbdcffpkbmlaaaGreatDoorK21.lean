/- A part of the proof: trees of Go values, short forms, contracts. -/
import Derived.Test.YthbdcffpkbmlaaaGreatDoorK20
namespace Go.Proofs
open Go Go.TL
set_option maxRecDepth 4000
set_option maxHeartbeats 8000000
theorem zP0 (f:Nat→Int):∀ n,((canF f n).Pairwise fun a b=>a.col<b.col)∧∀ p∈canF f n,p.col<n
 | 0=>⟨List.Pairwise.nil,by simp [canF]⟩
 | n+1=>by
   obtain⟨h1,h2⟩:=zP0 f n;rw[canF];split
   ·refine⟨List.pairwise_append.2 ⟨h1,sMp,fun p hp q hq=>?_⟩,fun p hp=>?_⟩
    ·rw[Ey.1 hq];exact h2 p hp
    ·rcases Dz.1 hp with hp | hp
     ·have:=h2 p hp;omega
     ·rw[Ey.1 hp];dsimp only;omega
   ·rw[CW];exact⟨h1,fun p hp=>by have:=h2 p hp;omega⟩
theorem jO9 {s:Sch} (hE:schE s=0) {c:Nat} (h1:1≤c) (h2:c<s.cols.length) {v:Int} (h3:0≤v) (h4:v≤finI s c):jj s ⟨c,v⟩=0:=by
 rw[jj,Aq (by rw[hE];simp),Aq (by dsimp only;omega),Aq];rw[Ez,zX];exact⟨h3,h4⟩
theorem zU9 {s:Sch} (hE:schE s=0) {f:Nat→Int} (h:∀ k,k<s.cols.length→0<f k→1≤k∧f k≤finI s k):kF s (canF f s.cols.length)=0:=by
 refine jo7 hE (fun p hp=>?_) (zP0 f _).1;obtain⟨k,k1,k2,rfl⟩:=qs5.1 hp;obtain⟨h1,h2⟩:=h k k1 k2;exact jO9 hE h1 k1 oM h2
theorem jo8 {l:List Pk} {k F:Int} (hF:0≤F) (h:∀ p∈l,p.col=k→p.lev≤F):mxl l k≤F:=by
 induction l with
 | nil=>exact hF
 | cons p r ih=>
   have h1:=ih fun q hq=>h q (CQ _ hq);rw[mxl];split
   ·rename_i e;have:=h p sMp e;omega
   ·exact h1
theorem zt5 {s:Sch} {c lev:Int} (h:0≤lev) (h2:lev≤finI s c):zR s c lev≤lev∧0≤zR s c lev∧divB s c.toNat (zR s c lev).toNat lev.toNat=true∧∀ m:Nat,(m:Int)<zR s c lev→divB s c.toNat m lev.toNat=false:=by
 have h59:lev≤59∨schE s≠0:=by
  by_cases e:schE s=0
  ·have:=qk2 (c:=c) e;exact .inl oM
  ·exact .inr e
 have hE:schE s=0:=(wA (s:=s) (c:=c) oM).1;have h59:=qk2 (c:=c) hE;rw[zR,Aq (by rw[Ez,zX];omega)];obtain⟨a,b,_,d⟩:=YT (p:=fun n=>divB s c.toNat n lev.toNat) (N:=lev.toNat) (zN3 s _ _) 64 0 oM oM;refine⟨oM,oM,by rw[Ax];exact a,fun m hm=>d m oM oM⟩
theorem qD9 {s:Sch} (hE:schE s=0) {k:Nat} (h1:1≤k) (h2:k<s.cols.length):0≤finI s k:=by
 have hok:=qU hE;have hkk:=zi (hok.cs k h2);have h3:=hkk.2.2.1 h1;refine (jn9 hE (v:=k) ?_).2.2.1;rcases (show (qj s k).kind=2∨(qj s k).kind=3 by omega) with h | h
 ·exact .inl (zz.2 ⟨oM,oM,by rw[Ax];exact h⟩)
 ·exact .inr (zz.2 ⟨oM,oM,by rw[Ax];exact h⟩)
theorem jP0 {s:Sch} {c:Cnd} (h:chkC s c=0):∀ p∈atP s c,p.lev≤finI s p.col:=fun p hp=>by
 obtain⟨hE,k2,k3,k4⟩:=YU h;obtain⟨a,ha,rfl⟩:=Cj.1 hp;obtain⟨hnd,hia⟩:=zN0 c k4 a ha;exact (KY hE hnd hia).1
theorem zt6 {s:Sch} {c:Cnd} (h:chkC s c=0):∀ p∈zD s c,p.lev≤finI s p.col:=fun p hp=>by
 have hE:=(YU h).1;obtain⟨h1,h2⟩:=Wx h;rw[h1,qs5] at hp;obtain⟨k,k1,k2,rfl⟩:=hp;have h0:1≤k:=by
  rcases DQ k with e | e
  ·subst e;rw[JV fun q hq=>by have:=h2 q hq;omega] at k2;omega
  ·exact e
 exact jo8 (qD9 hE h0 k1) fun p hp e=>by rw[← e];exact jP0 h p hp
theorem jo9 {s:Sch} {q:Qst} (hq:QstOk s q):∀ p∈qO4 s q,p.lev≤finI s p.col:=fun p hp=>by
 unfold qO4 at hp;rcases Dz.1 hp with hp | hp
 ·rcases Dz.1 hp with hp | hp
  ·obtain⟨d,hd,rfl⟩:=Cj.1 hp;obtain⟨_,h1,h2,h3,h4⟩:=jC (zt4 hq d hd).1;have:=zt5 h3 h4;dsimp only;omega
  ·obtain⟨k,h1,h2,rfl⟩:=jo6.1 hp;unfold usB at h2;rw[Bq,AZ] at h2;have h3:=qD9 hq.sch (k:=k) oM h1;have:=zt5 h3 (Int.le_refl _);dsimp only;omega
 ·obtain⟨c,hc,hp⟩:=Ek.1 hp;exact zt6 (jJ0 hq c hc) p hp
theorem jP1 {s:Sch} {q:Qst} (hq:QstOk s q) (k:Nat) (hk:k<s.cols.length) (h:0<mxl (qO4 s q) k):1≤k∧mxl (qO4 s q) k≤finI s k:=by
 have h0:1≤k:=by
  rcases DQ k with e | e
  ·subst e;rw[JV fun q' hq'=>by have:=zO9 hq q' hq';omega] at h;omega
  ·exact e
 exact⟨h0,jo8 (qD9 hq.sch h0 hk) fun p hp e=>by rw[← e];exact jo9 hq p hp⟩
theorem zB9 {s:Sch} {q:Qst} (h:qstE s q=0):kF s (qk1 s q)=0:=by
 have hq:=qk3 h;rw[zU8 h];exact zU9 hq.sch (jP1 hq)
theorem zP1 {a w:Int}:(a.tmod w==0)=true↔w ∣ a:=by rw[AY];exact⟨Int.dvd_of_tmod_eq_zero,Int.tmod_eq_zero_of_dvd⟩
theorem ze0 {a w:Int} (hw:0<w):zc a w=a / w:=by unfold zc;rw[DW _ oM]
theorem jJ1 {w x a:Int} (hw:0<w) (hd:w ∣ x):x≤a↔x≤zc a w*w:=by
 obtain⟨t,rfl⟩:=hd;have h:=KX (v:=a) hw;rw[ze0 hw] at h ⊢
 generalize a / w=u at h ⊢
 constructor
 ·intro h1;have h2:w*t<w*(u+1):=by rw[Int.mul_add,Int.mul_one,Int.mul_comm w u];omega
  have h3:=Int.lt_of_mul_lt_mul_left h2 oM;rw[Int.mul_comm u w];exact Int.mul_le_mul_of_nonneg_left oM oM
 ·intro h1;omega
theorem jp0 {w x a b:Int} (hw:0<w) (hd:w ∣ x) (h:zc a w*w=zc b w*w):x≤a↔x≤b:=(jJ1 hw hd).trans (by rw[h];exact (jJ1 hw hd).symm)
theorem jp1 {w x:Int} (hw:0<w) (hd:w ∣ x):zc x w*w=x:=by
 rw[ze0 hw];exact Int.ediv_mul_cancel hd
theorem wR {s:Sch} {i:Nat} (h1:(qj s i).kind=3) {v:Int}:zn s i v=true↔((qj s i).opt=true∧v=zj)∨((qj s i).low≤v∧v≤(qj s i).high):=by
 rw[zn,Aq oM,Aq oM,DZ,Bq,AY,zX]
theorem wS {s:Sch} (hok:SchOk s) {i:Nat} (hi:i<s.cols.length) (h2:(qj s i).kind=2) {v:Int}:zn s i v=true↔v∈qJ s i:=by
 obtain⟨_,d2⟩:=hok.cdl hi h2;constructor
 ·intro h;rw[zn,Aq oM,Aj h2,Bq,zX,AY] at h;obtain⟨⟨g1,g2⟩,g3⟩:=h;obtain⟨c,rfl⟩:=AJ g1;rw[lvlC,Aq (not_or.2 ⟨fun h=>h d2,oM⟩),Ax] at g3;exact (qT9 hok hi h2).2 ⟨c,rfl,oM,g3⟩
 ·intro h;exact qj5 h2 d2 h
structure MeasC (s:Sch) (i:Nat):Prop where
 kind:(qj s i).kind=3
 fin:finI s i=(qj s i).widths.length
 wid:∀ l:Nat,1≤l→l≤(qj s i).widths.length→1≤qO (qj s i) l
 one:qO (qj s i) (qj s i).widths.length=1
 lh : -1000000≤(qj s i).low∧(qj s i).low≤(qj s i).high∧(qj s i).high≤1000000
 nw:1≤(qj s i).widths.length
 dv:∀ {o l:Nat},1≤o→o<l→l≤(qj s i).widths.length→∃ k:Int,2≤k∧qO (qj s i) o=k*qO (qj s i) l
theorem QK {s:Sch} (hE:schE s=0) {i:Nat} (hi:i<s.cols.length) (h0:0<i) (h2:(qj s i).kind≠2):MeasC s i:=by
 have hok:=qU hE;have hkk:=zi (hok.cs i hi);have h3:(qj s i).kind=3:=by have:=hkk.2.2.1 h0;omega
 have hm:=hkk.2.2.2.2 h3;have hwl:1≤(qj s i).widths.length:=by unfold measE at hm;grind
 obtain⟨_,_,_,_,w5,w6,w7,w8⟩:=hok.wid hi h0 h2 (lev:=(qj s i).widths.length) oM;refine⟨h3,by rw[finI,Aq (by rw[hE];omega),Ax,Aq h2],fun l l1 l2=>(hok.wid hi h0 h2 (lev:=l) oM).1,w8,⟨w5,w7,w6⟩,hwl,fun {o l} h4 h5 h6=>hok.wdv hi h0 h2 ⟨h4,h5⟩ h6⟩
theorem ql2 {s:Sch} {i:Nat} (h:MeasC s i) {lev:Nat} (hl:(lev:Int)≤finI s i) {v:Int} (hv:zn s i v=true):qw s i lev v=if lev=0 then 0 else if v=zj then v else zc v (qO (qj s i) lev)*qO (qj s i) lev:=by
 have h1:=h.lh;have hm:v≠zj→inB v (-1000000) 1000000=true:=fun hn=>by
  rcases (wR h.kind).1 hv with k | k
  ·exact absurd k.2 hn
  ·exact zX.2 oM
 rw[qw,Aq (by rw[Ez,zX];omega),Ax,Aq (by rw[h.kind];decide),Aq (fun k=>by rw[hm k.1] at k;simp at k)];by_cases e:lev=0
 ·subst e;rfl
 ·rw[Aq oM,Aq e]
theorem jP2 {v w:Int} (hw:1≤w) (hw2:w≤1000000) (hv : -1000000≤v):zc v w*w≠zj:=by
 have:=KX (v:=v) (w:=w) oM;unfold zj;omega
theorem jp2 {s:Sch} (hE:schE s=0) {i:Nat} (hi:i<s.cols.length) (h0:0<i) (h2:(qj s i).kind≠2) {l:Nat} (l1:1≤l) (l2:l≤(qj s i).widths.length):qO (qj s i) l≤1000000:=((qU hE).wid hi h0 h2 (lev:=l) oM).2.1
theorem zC0 {s:Sch} (hE:schE s=0) {i:Nat} (hi:i<s.cols.length) (h0:0<i) (h2:(qj s i).kind≠2) {lev:Nat} (h1:1≤lev) (hl:(lev:Int)≤finI s i) {a b:Int} (ha:zn s i a=true) (hb:zn s i b=true) :
 qw s i lev a=qw s i lev b↔(a=zj∧b=zj)∨(a≠zj∧b≠zj∧zc a (qO (qj s i) lev)*qO (qj s i) lev=zc b (qO (qj s i) lev)*qO (qj s i) lev):=by
 have hm:=QK hE hi h0 h2;have hlh:=hm.lh;have hf:=hm.fin;have hw:=hm.wid lev h1 oM;have hw2:=jp2 hE hi h0 h2 h1 oM;rw[ql2 hm hl ha,ql2 hm hl hb,Aq (show ¬ lev=0 by omega),Aq (show ¬ lev=0 by omega)];have na:a≠zj→-1000000≤a:=fun hn=>by
  rcases (wR hm.kind).1 ha with k | k
  ·exact absurd k.2 hn
  ·omega
 have nb:b≠zj→-1000000≤b:=fun hn=>by
  rcases (wR hm.kind).1 hb with k | k
  ·exact absurd k.2 hn
  ·omega
 by_cases ea:a=zj
 ·by_cases eb:b=zj
  ·rw[Aj ea,Aj eb];simp [ea,eb]
  ·rw[Aj ea,Aq eb];have:=jP2 hw hw2 (nb eb);constructor
   ·intro h;rw[ea] at h;exact absurd h.symm this
   ·rintro (h | h)
    ·exact absurd h.2 eb
    ·exact absurd ea h.1
 ·by_cases eb:b=zj
  ·rw[Aq ea,Aj eb];have:=jP2 hw hw2 (na ea);constructor
   ·intro h;rw[eb] at h;exact absurd h this
   ·rintro (h | h)
    ·exact absurd h.1 ea
    ·exact absurd eb h.2.1
  ·rw[Aq ea,Aq eb];constructor
   ·intro h;exact .inr ⟨ea,eb,h⟩
   ·rintro (h | h)
    ·exact absurd h.1 ea
    ·exact h.2.2
theorem qE0 {s:Sch} (hE:schE s=0) {i:Nat} (hi:i<s.cols.length) (h0:0<i) (h2:(qj s i).kind≠2) {a:Int} (ha:zn s i a=true):qw s i 0 a=0:=by
 have hm:=QK hE hi h0 h2;have:=ql2 hm (lev:=0) (by rw[hm.fin];omega) ha;rw[Aj rfl] at this;exact this
theorem ze1 {s:Sch} (hE:schE s=0) {i:Nat} (hi:i<s.cols.length) (h0:0<i) (h2:(qj s i).kind=2) {lev:Nat} (hl:(lev:Int)≤finI s i) {a:Int} (ha:zn s i a=true):∃ c:Nat,a=c∧c<(qQ s i).codes.length∧(dep (qQ s i).codes c:Int)=zC (qQ s i)-1∧qw s i lev a=upN (qQ s i).codes lev c:=by
 have hok:=qU hE;obtain⟨c,rfl,c1,c2⟩:=(qT9 hok hi h2).1 ((wS hok hi h2).1 ha);have hf:finI s i=zC (qQ s i)-1:=by rw[finI,Aq (by rw[hE];omega),Ax,Aj h2]
 exact⟨c,rfl,c1,c2,YY hok hi h2 c1 c2 hl hf⟩
theorem jP3 {s:Sch} (hE:schE s=0) {i:Nat} (hi:i<s.cols.length) (h0:0<i) {o lev:Nat} (ho:o≤lev) (hl:(lev:Int)≤finI s i) {a b:Int} (ha:zn s i a=true) (hb:zn s i b=true) (h:qw s i lev a=qw s i lev b):qw s i o a=qw s i o b:=by
 by_cases h2:(qj s i).kind=2
 ·have hok:=qU hE;obtain⟨_,d2⟩:=hok.cdl hi h2;obtain⟨hp,_,_⟩:=ze d2;have hf:finI s i=zC (qQ s i)-1:=by rw[finI,Aq (by rw[hE];omega),Ax,Aj h2]
  obtain⟨c,rfl,c1,c2,c3⟩:=ze1 hE hi h0 h2 hl ha;obtain⟨d,rfl,e1,e2,e3⟩:=ze1 hE hi h0 h2 hl hb;rw[YY hok hi h2 c1 c2 oM hf,YY hok hi h2 e1 e2 oM hf];rw[c3,e3] at h;rw[← jI8 hp ho c c1 oM,← jI8 hp ho d e1 oM,show upN (qQ s i).codes lev c=upN (qQ s i).codes lev d by omega]
 ·by_cases e0:o=0
  ·subst e0;have za:=qE0 hE hi h0 h2 ha;have zb:=qE0 hE hi h0 h2 hb;show qw s i 0 a=qw s i 0 b;rw[za,zb]
  ·by_cases e1:o=lev
   ·rw[e1];exact h
   have hm:=QK hE hi h0 h2;have hf:=hm.fin;obtain⟨k,k1,k2⟩:=hm.dv (o:=o) (l:=lev) oM oM oM;rw[zC0 hE hi h0 h2 oM oM ha hb];rcases (zC0 hE hi h0 h2 oM hl ha hb).1 h with h | ⟨h3,h4,h5⟩
   ·exact .inl h
   ·refine .inr ⟨h3,h4,?_⟩;have hw:=hm.wid lev oM oM;have:=Int.eq_of_mul_eq_mul_right oM h5;rw[k2,jX1 hw oM,jX1 hw oM,this]
set_option maxHeartbeats 4000000
theorem jX2 (f:Int→Int) (l:List Int):nbF (grpF f l).1=some ((grpF f l).2.length:Int):=by
 suffices H:∀ i,i≤l.length→nbF (grpF f (l.take i)).1=some ((grpF f (l.take i)).2.length:Int) by
  have:=H l.length (BZ _)
  rwa [Bw] at this
 intro i
 induction i with
 | zero=>exact fun _=>rfl
 | succ i ih=>
   intro hi;have hi2:i<l.length:=by omega
   have h1:=ih oM;rw[qf3 f hi2];generalize grpF f (l.take i)=x at h1;have key:∀ g:Int,nbF (x.1++[g])=KW (nbF x.1) g:=fun g=>by
    unfold nbF;rw[Gx];rfl
   unfold YX;split
   ·rename_i h;obtain⟨b1,_⟩:=Wb h;rw[key,h1];unfold KW;dsimp only;rw[Aq oM,Aq oM]
   ·rw[key,h1];unfold KW;dsimp only;rw[Aq oM,Aj rfl,AW,List.length_singleton]
    rfl
theorem jX3 {m:Nat} (h:0<m):nbF (List.replicate m 0)=some 1:=by
 obtain⟨k,rfl⟩:∃ k,m=k+1:=⟨m-1,oM⟩;clear h
 induction k with
 | zero=>rfl
 | succ k ih=>
   rw[List.replicate_succ'];unfold nbF at ih ⊢
   rw[Gx,ih]
   rfl
theorem jX4 (f:Int→Int) {l:List Int} (h:0<l.length):0<(grpF f l).2.length:=by
 have hok:=zs6 f l;have h1:0<(grpF f l).1.length:=by rw[hok.len];exact h
 have:=hok.rng _ (AX h1);omega
structure CdC (s:Sch) (c:Int):Prop where
 rng:0≤c∧c<s.cols.length
 kind:(qj s c.toNat).kind=2
theorem jp3 {s:Sch} {c:Int} (h:c∈qK s 2):CdC s c:=by
 obtain⟨a,b,d⟩:=zz.1 (wO.1 h);exact⟨⟨a,b⟩,d⟩
theorem jX5 {s:Sch} (hok:SchOk s) {c:Int} (h:CdC s c):0<(qJ s c.toNat).length:=by
 obtain⟨_,d2⟩:=hok.cdl (i:=c.toNat) (by have:=h.rng;omega) h.kind;exact zq0 d2
theorem jJ2 {s:Sch} (hok:SchOk s) (ds:List Pk) {c:Int} (h:CdC s c):(vwG s ds c).length=(qJ s c.toNat).length∧nbF (vwG s ds c)=some (if dmAt ds c<ds.length then ((grpL s c.toNat (ds.getD (dmAt ds c) default).lev).2.length:Int) else 1)∧0<(if dmAt ds c<ds.length then ((grpL s c.toNat (ds.getD (dmAt ds c) default).lev).2.length:Int) else 1):=by
 have h0:=jX5 hok h;unfold vwG;split
 ·refine⟨(zs6 _ _).len,jX2 _ _,?_⟩;have:=jX4 (fun v=>upC (qQ s c.toNat) v (ds.getD (dmAt ds c) default).lev) h0;unfold grpL;omega
 ·exact⟨List.length_replicate,jX3 h0,by decide⟩
theorem zP2 {α:Type} (f:α→Int) (g:α→List Int):∀ L:List α,(∀ c∈L,okG (f c) (g c)=true)→okGs (L.map f) (L.map g)=true
 | [],_=>rfl
 | c::L,h=>by
   show (okG (f c) (g c)&&okGs (L.map f) (L.map g))=true;rw[h c sMp,zP2 f g L fun x hx=>h x (CQ _ hx)]
   rfl
theorem ze2 {s:Sch} (hE:schE s=0) (hS:chkS (spSz s)=0) (ds:List Pk):VwOk (spSz s) (tabG s ds):=by
 have hok:=qU hE;refine⟨qA7.1 hS,by unfold tabG spSz;rw[BY,BY],zP2 _ _ _ fun c hc=>?_⟩;obtain⟨h1,h2,h3⟩:=jJ2 hok ds (jp3 hc);unfold okG;rw[h1,h2];simp only[beq_self_eq_true,Fq,AZ];exact h3
theorem jX6 {s:Sch} (hok:SchOk s) (ds:List Pk) {c:Int} (h:CdC s c):gN (vwG s ds c)=if dmAt ds c<ds.length then ((grpL s c.toNat (ds.getD (dmAt ds c) default).lev).2.length:Int) else 1:=(jI2 (jJ2 hok ds h).2.1).g
set_option maxHeartbeats 8000000
structure DrD (s:Sch) (d:Dcl):Prop where
 len:d.qs.length≤3
 nm:∀ q∈d.qs,∃ n,n<10∧q.name=⟨#[113,dgt n]⟩
 coh:CndOk s 1 d.coh
theorem jA8 (l:List UInt8) (a:Nat) (hl:l.length≤400) (ha:a≤l.length) :
 ∃ (k:Int) (b:Nat),0≤k∧k<1152921504606846976∧b≤l.length∧Sp 26 [.ptr 0 1 0 0] [(0,oC l a)] (vI k) [(0,oC l b)]:=by
 obtain⟨u,a1,u1,u2,ha1,s1⟩:=wM l a 60000 hl ha oM;obtain⟨v,a2,v1,v2,ha2,s2⟩:=wM l a1 60000 hl ha1 oM;obtain⟨w,a3,w1,w2,ha3,s3⟩:=wM l a2 7 hl ha2 oM;have h1:0≤u*v:=Int.mul_nonneg u1 v1;have h2:u*v≤60000*60000:=Int.mul_le_mul oM oM v1 oM;refine⟨u*v+w,a3,oM,oM,ha3,?_⟩;have hw1:IntKind.i64.wrap (u*v)=u*v:=AK _ oM;have hw2:IntKind.i64.wrap (u*v+w)=u*v+w:=AK _ oM;refine sIr WE fun e _ hst=>?_;unfold jS;refine sW ?_;refine C1.draw 0 l a _ s1 rfl rfl rfl ?_;refine sW ?_;refine C1.draw 0 l a1 _ s2 rfl rfl rfl ?_;simp only[tZ,↓uU,simprocAttr,hw1];refine C1.draw 0 l a2 _ s3 rfl rfl rfl ?_;simp only[tZ,↓uU,simprocAttr,hw1,hw2];exact .oA (U1 0) []
open Go.TL.So
structure RwId (l:List (List Int)):Prop where
 asc:AscR l
 pos:∀ r∈l,0<r.length
 ids:∀ r∈l,1≤hd r∧hd r≤1048575
 len:l.length≤1000
theorem YZ {x y:T}:jx0 (some (.v undef)) (some x) (some y)=none:=iR
theorem jP4 {n:Nat} {p:Nat→Nat→Bool} (h:qj9 n p=true) {i k:Nat} (hi:i<n) (hk:k<n) (hne:i≠k):p (max i k) (min i k)=true:=by
 rcases Nat.lt_or_gt_of_ne hne with q | q
 ·rw[show max i k=k by omega,show min i k=i by omega];exact zt0.1 h k hk i q
 ·rw[show max i k=i by omega,show min i k=k by omega];exact zt0.1 h i hi k q
theorem jX7 {s:Sch} {c:Cnd} {v:Int} (o:c.op=4):Qq s c v=tf (v==zj):=by
 unfold Qq;rw[Aq (show ¬ c.op=2 by omega),Aq (show ¬ c.op=3 by omega),Aj o]
theorem jX8 {s:Sch} {c:Cnd} {v:Int} (o:c.op=3):Qq s c v=if v=zj then 0 else tf (decide (c.lo≤v)&&decide (v≤c.hi)):=by
 unfold Qq;rw[Aq (show ¬ c.op=2 by omega),Aj o]
theorem jP5 {s:Sch} (hE:schE s=0) {c:Cnd} (hnd:NdOk s c) (hia:isAt c=true) {lev:Nat} (hl:(lev:Int)≤finI s c.col) (hd:decB s c lev=true) {a b:Int} (ha:zn s c.col.toNat a=true) (hb:zn s c.col.toNat b=true) (h:qw s c.col lev a=qw s c.col lev b):Qq s c a=Qq s c b:=by
 obtain⟨_,c1,c2,hfin⟩:=wA (s:=s) (c:=c.col) oM;obtain⟨i,hci⟩:=AJ (show 0≤c.col by omega);have hcn:c.col.toNat=i:=by omega
 have hil:i<s.cols.length:=by omega
 have hok:=qU hE;have hop:c.op=2∨c.op=3∨c.op=4:=by
  unfold isAt at hia;simp only[DZ,AY] at hia;omega
 rw[hcn] at ha hb;by_cases o2:c.op=2
 ·have hk2:(qj s i).kind=2:=by have:=(zz.1 (hnd.under o2).1).2.2;rw[hcn] at this;exact this
  have ma:=(wS hok hil hk2).1 ha;have mb:=(wS hok hil hk2).1 hb;by_cases e:a=b
  ·rw[e]
  obtain⟨j,hj,rfl⟩:=CX ma;obtain⟨k,hk,rfl⟩:=CX mb;unfold decB at hd;rw[Aj o2,hcn] at hd;have hp:=jP4 hd hj hk (fun q=>e (by subst q;rfl));have key:∀ x y,x<(qJ s i).length→y<(qJ s i).length→decP s c lev x y=true→qw s c.col lev ((qJ s i).getD x 0)=qw s c.col lev ((qJ s i).getD y 0)→Qq s c ((qJ s i).getD x 0)=Qq s c ((qJ s i).getD y 0):=fun x y _ _ hp he=>by
   unfold decP at hp;rw[hcn,he] at hp;simpa using hp
  have gj:(qJ s i).getD j 0=(qJ s i)[j]:=qg hj;have gk:(qJ s i).getD k 0=(qJ s i)[k]:=qg hk;rw[← gj,← gk] at h ⊢
  rcases Nat.lt_or_ge j k with q | q
  ·rw[show max j k=k by omega,show min j k=j by omega] at hp;exact (key k j hk hj hp h.symm).symm
  ·rw[show max j k=j by omega,show min j k=k by omega] at hp;exact key j k hj hk hp h
 ·have h3:(qj s i).kind=3:=by
   rcases hop with o | o | o
   ·exact absurd o o2
   ·have:=(zz.1 (hnd.between o).1).2.2;rw[hcn] at this;exact this
   ·have:=(zz.1 (hnd.miss o).1).2.2;rw[hcn] at this;exact this
  have h2:(qj s i).kind≠2:=by omega
  have hm:=QK hE hil oM h2;have hlh:=hm.lh;rw[hci] at hl h;have hsame:1≤lev→_:=fun h1=>(zC0 hE hil oM h2 h1 hl ha hb).1 h;have va:=(wR h3).1 ha;have vb:=(wR h3).1 hb;unfold decB at hd;rw[Aq o2,hcn] at hd;by_cases o4:c.op=4
  ·rw[Aj o4,AZ] at hd;rw[jX7 o4,jX7 o4];rcases hsame oM with k | k
   ·rw[k.1,k.2]
   ·rw[Ak.2 k.1,Ak.2 k.2.1]
  ·have o3:c.op=3:=by omega
   rw[Aq o4] at hd;dsimp only at hd;rw[jX8 o3,jX8 o3];by_cases e0:lev=0
   ·subst e0;rw[Aj rfl] at hd;simp only[Bq,Bx,FJ,Ay] at hd;have na:a≠zj:=fun e=>by
     rcases va with k | k
     ·rw[k.1] at hd;simp at hd
     ·unfold zj at e;omega
    have nb:b≠zj:=fun e=>by
     rcases vb with k | k
     ·rw[k.1] at hd;simp at hd
     ·unfold zj at e;omega
    rw[Aq na,Aq nb];have ra:(qj s i).low≤a∧a≤(qj s i).high:=va.resolve_left fun k=>na k.2;have rb:(qj s i).low≤b∧b≤(qj s i).high:=vb.resolve_left fun k=>nb k.2
    congr 1
    have e1:(c.lo≤a)↔(c.lo≤b):=by omega
    have e2:(a≤c.hi)↔(b≤c.hi):=by omega
    rw[decide_eq_decide.2 e1,decide_eq_decide.2 e2]
   ·rw[Aq e0] at hd;rcases hsame oM with k | ⟨na,nb,hbl⟩
    ·rw[k.1,k.2]
    ·rw[Aq na,Aq nb];have ra:(qj s i).low≤a∧a≤(qj s i).high:=va.resolve_left fun k=>na k.2;have rb:(qj s i).low≤b∧b≤(qj s i).high:=vb.resolve_left fun k=>nb k.2;have hf:=hm.fin;have hw:=hm.wid lev oM oM;simp only[Bq,DZ,Bx,FJ,Ay,zP1] at hd
     congr 1
     have e1:(c.lo≤a)↔(c.lo≤b):=by
      rcases hd.1 with k | k
      ·omega
      ·exact jp0 oM k hbl
     have e2:(a≤c.hi)↔(b≤c.hi):=by
      rcases hd.2 with k | k
      ·omega
      ·have:=jp0 oM k hbl;omega
     rw[decide_eq_decide.2 e1,decide_eq_decide.2 e2]
theorem jA9 {v w q:Int} (hw:1≤w) (h1:q*w≤v) (h2:v<(q+1)*w):zc v w=q:=by
 rw[ze0 oM];have a1:v / w<q+1:=Int.ediv_lt_of_lt_mul oM h2;have a2:q≤v / w:=Int.le_ediv_of_mul_le oM h1;omega
theorem jp4:∀ {l:List Pk} {p:Pk},p∈l→p.lev≤mxl l p.col
 | q::r,p,h=>by
   rw[mxl];rcases Ck.1 h with e | h
   ·subst e;rw[Aj rfl];omega
   ·have:=jp4 h;split <;> omega
theorem zC1:∀ {l:List Pk} {k:Int},0<mxl l k→∃ p∈l,p.col=k∧p.lev=mxl l k
 | [],k,h=>by rw[mxl] at h;omega
 | p::r,k,h=>by
   rw[mxl] at h ⊢
   by_cases e:p.col=k
   ·rw[Aj e] at h ⊢
    by_cases h2:mxl r k≤p.lev
    ·exact⟨p,sMp,e,oM⟩
    ·obtain⟨x,h3,h4,h5⟩:=zC1 (l:=r) (k:=k) oM;exact⟨x,CQ _ h3,h4,oM⟩
   ·rw[Aq e] at h ⊢
    obtain⟨x,h3,h4,h5⟩:=zC1 (l:=r) (k:=k) h;exact⟨x,CQ _ h3,h4,h5⟩
section
variable {P:Program} {st:Sto} {e:Env} {kss:List (Nat×List Nat)} {Q:Ex→St→Prop} {K:List KF} {rows:Option (List Nat)} {ks:List Nat} {nid:Nat} {ops:List ROp} {F:XF} {acc:Acc}
theorem C1.cut0 {fid:FuncId} {caps xs ts':List T} {d:Option Nat} {ys zs:List T} {m:Nat} (id nid' k:Nat) (hs:Spc P fid ts' [(0,.arr k zs false)] (.asl 1 m) [(0,.dead),(1,.arr k ys false)]) (hg:TL.get st id=some (.arr k zs false)) (hz:ImXs k zs) (hy:ImXs k ys)
 (hn:TL.get st nid'=none) (ha:ltAs st [(0,some id)] [] (xs++caps) ts')
 (h:R P e kss Q rows ks K nid ops (putX F d (.p (.asl nid' m))) (stUp st [(id,.dead),(nid',.arr k ys false)]) (acc++[([]++[id,nid'],[id,nid'])])):C1 P e kss Q rows ks K (.clo fid caps) xs d nid ops F st acc:=by
 have hne:id≠nid':=fun e=>by subst e;rw[hg] at hn;cases hn
 refine C1.of [(0,some id)] [(nid',some 1)] [] [(id,.dead),(nid',.arr k ys false)] hs ha (by simp [wl,TL.get]) ?_ rF (by simp [TL.get]) ?_ ?_ rF ?_ (.inl rF) h
 ·refine⟨?_,trivial⟩;simp only[TL.get,if_true,ltO2,hg,ltO1];exact⟨trivial,sMp,je hz,sMp⟩
 ·refine⟨?_,trivial⟩;simp only[TL.get,if_true,wrO,ltO1,Nat.reduceEqDiff,↓reduceIte,reduceCtorEq];exact⟨⟨trivial,sMp,je hy,sMp⟩,.inl hn⟩
 ·simp [wl,TL.get,hne]
 ·exact⟨by simp [TL.get],rfl⟩
end
def xs1 (v:Int):Int:=xorI .u64 v (shlI .u64 v 13)
def xs2 (v:Int):Int:=xorI .u64 v (shrI .u64 v 7)
set_option maxHeartbeats 2000000
set_option maxHeartbeats 8000000
set_option maxHeartbeats 4000000
structure DrE (x:Src) (d:Edt):Prop where
 kind:1≤d.kind∧d.kind≤4
 len:d.row.length≤8
 id:0≤d.id∧d.id≤1048575
set_option maxHeartbeats 8000000
theorem SrcOk.smx {s:Src} (h:SrcOk s):jz6 s:=⟨(qU h.sch).sm,fun r hr=>by
 have h1:=(YQ (h.rows r hr)).2.1;have h2:=(qU h.sch).nc;omega⟩
structure TwoOk (a b:Ext):Prop where
 pa:a.proj=b.proj
 pk:a.picks=b.picks
 oa:ExtOk a
 ob:ExtOk b
 sa:ExtSm a
 sb:ExtSm b
 na:a.rows.length≤200
 nb:b.rows.length≤200
theorem TwoOk.symm {a b:Ext} (h:TwoOk a b):TwoOk b a:=⟨h.pa.symm,h.pk.symm,h.ob,h.oa,h.sb,h.sa,h.nb,h.na⟩
theorem jp5 (s:Src) (l:List Pk) (k:Int):∀ (m A:List (List Int)),AscR A→(∀ r∈A,r.length=l.length+1)→AscR (m.foldl (wL s l k) A)∧(∀ r∈m.foldl (wL s l k) A,r.length=l.length+1)∧(m.foldl (wL s l k) A).length≤A.length+m.length
 | [],A,h1,h2=>⟨h1,h2,sMp⟩
 | r::m,A,h1,h2=>by
   obtain⟨k1,k2,k3⟩:=jp5 s l k m (wL s l k A r) (zc9 h1) (fun x hx=>by
    rcases (zd0 h1).1 hx with e | ⟨hx,_⟩
    ·rw[e];simp [rowX]
    ·exact h2 x hx)
   have h3:=zd1 A (rowX s l k r);refine⟨k1,k2,?_⟩;have h4:(wL s l k A r).length≤A.length+1:=h3;rw[Dw,CJ];omega
theorem jJ3 {k n:Int} (hk:0≤k∧k<1152921504606846976) (hn:0≤n∧n<1048576):0≤keyI k n∧idI k (keyI k n)=n:=by
 have h1:WY k n=true:=by simp [WY];omega
 have h2:=KZ (s:=k) (qD3 hn) 8;have h3:=jn4 h2;have h4:keyI k n=tie (fwd k 8 (cut n)):=by rw[keyI,Aj h1]
 have h5:WY k (keyI k n)=true:=by rw[h4];simp [WY];omega
 refine⟨oM,?_⟩;rw[idI,Aj h5,h4,jO2 h2,jn3 (qD3 hn),jO3]
theorem jP6 {k n m:Int} (hk:0≤k∧k<1152921504606846976) (hn:0≤n∧n<1048576) (hm:0≤m∧m<1048576) (h:keyI k n=keyI k m):n=m:=by
 have h1:=(jJ3 hk hn).2;have h2:=(jJ3 hk hm).2;rw[← h1,← h2,h]
theorem zt7 (s:Src) (l:List Pk) (k:Int):∀ (m A:List (List Int)),AscR A→(m.Pairwise fun a b=>keyI k (hd a)≠keyI k (hd b))→(∀ r∈m,∀ x∈A,hd x≠keyI k (hd r))→
 ∀ x,x∈m.foldl (wL s l k) A↔x∈A∨∃ r∈m,x=rowX s l k r
 | [],A,_,_,_,x=>by simp
 | r::m,A,h1,h2,h3,x=>by
   obtain⟨h4,h5⟩:=List.pairwise_cons.1 h2;have hm:∀ y,y∈wL s l k A r↔y=rowX s l k r∨y∈A:=fun y=>by
    show y∈putR A (rowX s l k r)↔_;rw[zd0 h1];constructor
    ·rintro (a | ⟨a,_⟩)
     ·exact .inl a
     ·exact .inr a
    ·rintro (a | a)
     ·exact .inl a
     ·exact .inr ⟨a,h3 r sMp y a⟩
   rw[Dw,zt7 s l k m (wL s l k A r) (zc9 h1) h5 (fun q hq y hy=>by
    rcases (hm y).1 hy with e | hy
    ·rw[e];exact h4 q hq
    ·exact h3 q (CQ _ hq) y hy),hm]
   constructor
   ·rintro ((a | a) | ⟨q,hq,a⟩)
    ·exact .inr ⟨r,sMp,a⟩
    ·exact .inl a
    ·exact .inr ⟨q,CQ _ hq,a⟩
   ·rintro (a | ⟨q,hq,a⟩)
    ·exact .inl (.inr a)
    ·rcases Ck.1 hq with rfl | hq
     ·exact .inl (.inl a)
     ·exact .inr ⟨q,hq,a⟩
theorem ze3 {s:Src} {d:Dcl} (h:SrcOk s) (hd0:dclE s.sch d=0) (r:List Int):r∈ownR s d↔r∈s.rows∧ownP s d r=true:=by
 unfold ownR;rw[Aq (by rw[qD1.2 h,hd0];simp),Fz]
theorem jJ4 {s:Src} {d:Dcl} {k:Int} (h:SrcOk s) (hk:0≤k∧k<1152921504606846976):(ownR s d).Pairwise fun a b=>keyI k (hd a)≠keyI k (hd b):=by
 unfold ownR;split
 ·exact List.Pairwise.nil
 ·refine List.Pairwise.filter _ ?_;refine List.Pairwise.imp_of_mem ?_ h.asc;intro a b ha hb hab e;have h1:=jz4 (h.rows a ha);have h2:=jz4 (h.rows b hb);have:=jP6 hk oM oM e;omega
theorem zV0 {s:Src} {d:Dcl} {l:List Pk} {k:Int} (h:SrcOk s) (hd0:dclE s.sch d=0) (hk:0≤k∧k<1152921504606846976) (x:List Int) :
 x∈qf0 s d l k↔∃ r∈s.rows,ownP s d r=true∧x=rowX s l k r:=by
 unfold qf0;rw[zt7 s l k _ [] List.Pairwise.nil (jJ4 h hk) sMp];constructor
 ·rintro (a | ⟨r,hr,e⟩)
  ·simp at a
  ·obtain⟨h1,h2⟩:=(ze3 h hd0 r).1 hr;exact⟨r,h1,h2,e⟩
 ·rintro ⟨r,h1,h2,e⟩;exact .inr ⟨r,(ze3 h hd0 r).2 ⟨h1,h2⟩,e⟩
theorem SrcOk.rw {s:Src} (h:SrcOk s):RwId s.rows:=⟨h.asc,fun r hr=>JR (h.rows r hr),fun r hr=>jz4 (h.rows r hr),by have:=h.nr;omega⟩
section
variable (cv:List Int→List Int→Int) (P:List Int→Prop) (f:FuncId) (hf:∀ x y,P x→P y→Sp f [vIs x,vIs y] [] (vI (cv x y)) [])
abbrev ltV (x y:List Int):Bool:=decide (cv x y<0)
include hf in
end
def Qb (s:Sch) (q:Qst) (k:Nat) (lev:Int) (x y:Int):Prop:=qw s k lev x=qw s k lev y∧ka0 s q k x y=true
structure FirstV (s:Sch) (q:Qst) (k:Nat) (lev:Int) (x y:Int):Prop where
 hx:zn s k x=true
 hy:zn s k y=true
 lt:x<y
 qb:Qb s q k lev x y
 least:∀ x' y',zn s k x'=true→zn s k y'=true→x'<y'→Qb s q k lev x' y'→x<x'∨(x=x'∧y≤y')
structure LeastX (s:Sch) (q:Qst) (k:Nat) (lev:Int) (x:Int):Prop where
 lo:(qj s k).low<x
 hi:x≤(qj s k).high
 qb:Qb s q k lev (x-1) x
 least:∀ y,(qj s k).low<y→y<x→¬ Qb s q k lev (y-1) y
def qE1 (L:List Int) (f g:Int→Int) (v:Int):Int×Bool:=match L.filter (fun x=>f x==v) with
 | []=>(0,false)
 | x::r=>if (r.all fun y=>g y==g x)=true then (g x,true) else (0,false)
theorem zC2 {L:List Int} {f:Int→Int} {v:Int} {i:Nat} (h:i<L.length):(L.take (i+1)).filter (fun x=>f x==v)=(L.take i).filter (fun x=>f x==v)++if (f L[i]==v)=true then [L[i]] else []:=by
 rw[qz h,FY]
 congr 1
 split
 ·rename_i h2;rw[List.filter_cons_of_pos (p:=fun x=>f x==v) h2];rfl
 ·rename_i h2;rw[List.filter_cons_of_neg (p:=fun x=>f x==v) h2];rfl
def TcI (g:Int→Int) (M:List Int) (o:Int) (b:Bool):Prop:=(M=[]∧o=0∧b=false)∨∃ x r,M=x::r∧(∀ y∈r,g y=g x)∧o=g x∧b=true
theorem TcI.fin {L:List Int} {f g:Int→Int} {v o:Int} {b:Bool} (h:TcI g (L.filter fun x=>f x==v) o b):qE1 L f g v=(o,b):=by
 unfold qE1;rcases h with⟨h1,h2,h3⟩ | ⟨x,r,h1,h2,h3,h4⟩
 ·rw[h1,h2,h3]
 ·rw[h1,h3,h4];dsimp only;rw[Aj (Bk.2 fun y hy=>AY.2 (h2 y hy))]
theorem zV1 {L:List Int} {f g:Int→Int} {v:Int} {i:Nat} (h:i<L.length) {o:Int} (hI:TcI g ((L.take i).filter fun x=>f x==v) o true) (h1:(f L[i]==v)=true) (h2:g L[i]≠o):qE1 L f g v=(0,false):=by
 rcases hI with⟨_,_,h3⟩ | ⟨x,r,h3,h4,h5,_⟩
 ·cases h3
 ·have hL:L.filter (fun x=>f x==v)=x::(r++L[i]::(L.drop (i+1)).filter fun x=>f x==v):=by
   conv=>lhs;rw[← List.take_append_drop i L,FY,h3,zA9 h,List.filter_cons_of_pos (p:=fun x=>f x==v) h1]
   simp
  unfold qE1;rw[hL];dsimp only;rw[Aq];intro k;have:=Bk.1 k L[i] sMp;rw[AY,← h5] at this;exact h2 this
def Yb (c:Col) (a v b:Int):Int×Bool:=
 if 0<a∧v=zj then ((if b=0 then 0 else v),c.opt)
 else if (wQ c a v).2.2=false then (0,false)
 else if b=0 then (0,true)
 else if a=0∧c.opt=true then (0,false)
 else (zc (wQ c a v).1 (qO c b)*qO c b,zc (wQ c a v).1 (qO c b)*qO c b==zc (wQ c a v).2.1 (qO c b)*qO c b)
def qE2 (s:Sch) (c a v b:Int):Int×Bool:=
 if inB a 0 (finI s c)=false∨inB b 0 (finI s c)=false then (0,false)
 else
  let r:=if (qj s c.toNat).kind=2 then qE1 (qJ s c.toNat) (fun x=>upC (qQ s c.toNat) x a) (fun x=>upC (qQ s c.toNat) x b) v else Yb (qj s c.toNat) a v b
  (if r.2=true then r.1 else 0,r.2)
def fitV (s:Sch) (ps:List Pk) (row:List Int) (i:Nat):Bool:=(zs9 s (ps.getD i default).col.toNat (ps.getD i default).lev (row.getD (i+1) 0)).2
def fitX (s:Sch) (ps:List Pk) (row:List Int):Bool:=(row.length==ps.length+1)&&decide (0≤hd row)&&decide (hd row≤1048575)&&(List.range ps.length).all (fitV s ps row)
theorem zV2 {n:Nat} {p:Nat→Bool}:(List.range (n+1)).all p=((List.range n).all p&&p n):=by
 rw[List.range_succ,FK];simp
theorem jp6 {n m:Nat} {p:Nat→Bool} (h:n<m) (hp:p n=false):(List.range m).all p=false:=by
 rw[List.all_eq_false];exact⟨n,Dk.2 h,by rw[hp];simp⟩
theorem jP7 {s:Sch} {ps:List Pk} {row:List Int} (h:fitX s ps row=true):row.length=ps.length+1∧0≤hd row∧hd row≤1048575:=by
 unfold fitX at h;simp only[Bq,AY,AZ] at h;exact⟨h.1.1.1,h.1.1.2,h.1.2⟩
def zV3 (s:Sch) (x:Ext) (i:Nat):Int:=if fitX s x.picks (x.rows.getD i [])=false then 9 else if 0<i∧hd (x.rows.getD i [])≤hd (x.rows.getD (i-1) []) then 10 else 0
def extE (s:Sch) (x:Ext):Int:=if schE s≠0 then schE s else if js x.proj=false then 3 else if x.ver<0∨x.ver>300 then 13 else if kF s x.picks≠0 then kF s x.picks else if x.rows.length>200 then 1 else ji (zV3 s x) x.rows.length
def knwP (x:Ext) (r:Nat) (c:Int):Int×Int:=if (x.picks.any fun p=>p.col==c)=true then ((x.picks.getD (x.picks.findIdx fun p=>p.col==c) default).lev,(x.rows.getD r []).getD ((x.picks.findIdx fun p=>p.col==c)+1) 0) else (0,0)
def knwI (s:Sch) (x:Ext) (r:Nat) (c lev:Int):Int×Bool:=qE2 s c (knwP x r c).1 (knwP x r c).2 lev
set_option maxHeartbeats 4000000
def lstD (s:Sch):List Pk→List (List Int)
 | []=>[[]]
 | d::r=>(-1::atL (qQ s d.col.toNat) d.lev).flatMap fun c=>(lstD s r).map fun y=>c::y
def szD (s:Sch) (l:List Pk):Nat:=(l.map fun d=>(atL (qQ s d.col.toNat) d.lev).length+1).foldl (·*·) 1
theorem qf9 (l:List Nat):∀ a:Nat,l.foldl (·*·) a=a*l.foldl (·*·) 1:=by
 induction l with
 | nil=>intro a;simp
 | cons x r ih=>intro a;rw[Dw,Dw,ih,ih (1*x),Nat.one_mul,Nat.mul_assoc]
theorem zP3 {α β:Type} (f:α→List β) (n:Nat):∀ l:List α,(∀ x∈l,(f x).length=n)→(l.flatMap f).length=l.length*n
 | [],_=>by simp
 | x::r,h=>by
   rw[Gq,AW,h x sMp,zP3 f n r (fun y hy=>h y (by simp [hy])),CJ,Nat.succ_mul];omega
theorem Wy (s:Sch):∀ l:List Pk,(lstD s l).length=szD s l
 | []=>rfl
 | d::r=>by
   show (List.flatMap _ _).length=_;rw[zP3 _ (lstD s r).length _ (fun x _=>BY _),CJ,Wy s r];unfold szD;rw[List.map_cons,Dw,qf9 _ (1*_),Nat.one_mul]
theorem zC3 (s:Sch):∀ l:List Pk,0<szD s l
 | []=>Nat.one_pos
 | d::r=>by
   have:=zC3 s r;unfold szD at this ⊢
   rw[List.map_cons,Dw,qf9 _ (1*_),Nat.one_mul];exact Nat.mul_pos oM this
theorem ze4 (s:Sch):∀ (l:List Pk) (y:List Int),y∈lstD s l→y.length=l.length
 | [],y,h=>by
   rw[Ey.1 h];rfl
 | d::r,y,h=>by
   obtain⟨c,_,h2⟩:=Ek.1 h;obtain⟨z,hz,rfl⟩:=Cj.1 h2;rw[CJ,CJ,ze4 s r z hz]
abbrev Lin:=Int×List Int
def inC (codes:List Int) (y:Lin):Bool:=(List.range codes.length).all fun k=>(codes.getD k 0 == -1)||(codes.getD k 0==y.2.getD k 0)
def tclF (ls:List Lin) (codes:List Int):TCl:=⟨codes,((ls.filter (inC codes)).length:Int),0,0,0,0,(ls.filter (inC codes)).map fun y=>y.1⟩
def ze5 (s:Sch) (x:Ext) (dims:List Pk) (q:Qst) (need:List Pk):Int:=
 if extE s x≠0 then extE s x else if qstE s q≠0 then qstE s q else if covB need x.picks=false then 23 else if szD s dims>2000 then 1 else 0
def linD (s:Sch) (x:Ext) (dims:List Pk) (i:Nat):Lin:=(hd (x.rows.getD i []),dims.map fun d=>(knwI s x i d.col d.lev).1)
def zC4 (x:Ext) (ev:Nat→Int):List Nat:=(List.range x.rows.length).filter fun i=>ev i==1
def Kd (s:Sch) (x:Ext) (dims:List Pk) (ev:Nat→Int):List TCl:=(lstD s dims).map (tclF ((zC4 x ev).map (linD s x dims)))
structure DmsOk (s:Sch) (ds:List Pk):Prop where
 pick:∀ a (h:a<ds.length),jj s ds[a]=0
 kind:∀ a (h:a<ds.length),(qj s ds[a].col.toNat).kind=2
 dist:∀ b a (h:a<ds.length) (hb:b<a),ds[b].col≠ds[a].col
theorem ze6 {s:Sch} {ds:List Pk} (h:qf4 s ds=true):DmsOk s ds:=by
 have h1:=Bk.1 h;have h2:∀ a (ha:a<ds.length),(jj s ds[a]=0∧(qj s ds[a].col.toNat).kind=2)∧∀ x∈ds.take a,x.col≠ds[a].col:=fun a ha=>by
  have:=h1 a (Dk.2 ha);unfold qk8 at this;rw[qg ha] at this;simpa using this
 refine⟨fun a h=>(h2 a h).1.1,fun a h=>(h2 a h).1.2,fun b a h hb=>?_⟩;refine (h2 a h).2 _ ?_;rw[List.mem_iff_getElem];exact⟨b,by rw[Cz];omega,by rw[Fy]⟩
theorem DmsOk.cd {s:Sch} {ds:List Pk} (h:DmsOk s ds) {a:Nat} (ha:a<ds.length):CdC s ds[a].col:=by
 have:=jC (h.pick a ha);exact⟨oM,h.kind a ha⟩
theorem DmsOk.mem {s:Sch} {ds:List Pk} (h:DmsOk s ds) {a:Nat} (ha:a<ds.length):ds[a].col∈qK s 2:=by
 have:=h.cd ha;exact wO.2 (zz.2 ⟨this.rng.1,this.rng.2,this.kind⟩)
theorem DmsOk.at_ {s:Sch} {ds:List Pk} (h:DmsOk s ds) {a:Nat} (ha:a<ds.length):dmAt ds ds[a].col=a:=by
 unfold dmAt;refine jt ha ?_ sMp;rw[List.any_eq_false];intro x hx;obtain⟨b,hb,rfl⟩:=CX hx;rw[Cz] at hb;rw[Fy,AY];exact h.dist b a ha oM
theorem qs6 {ds:List Pk} {c:Int} (h:dmAt ds c<ds.length):(ds[dmAt ds c]'h).col=c:=by
 unfold dmAt at h ⊢
 have:=List.findIdx_getElem (xs:=ds) (p:=fun d=>d.col==c) (w:=h);exact AY.1 this
theorem qg0 (s:Sch) (ds:List Pk) (k:Nat):(JS s ds k).length=ds.length:=by unfold JS;rw[BY,List.length_range]
theorem zP4 {s:Sch} {ds:List Pk} {k a:Nat} (h:a<ds.length):(JS s ds k).getD a 0=(ofD s ds a).getD ((zB ((tabG s ds).map gN) k).getD (plD s ds a) 0).toNat 0:=by
 rw[qg (by rw[qg0];exact h)];unfold JS;rw[Fj,List.getElem_range]
theorem jX9 {sz at_:List Int} (h:inR sz at_) {i:Nat} (hi:i<sz.length):0≤at_.getD i 0∧at_.getD i 0<sz.getD i 0:=by
 have hl:=zb6 h;have:∀ {sz at_:List Int},inR sz at_→∀ {i:Nat} (h:i<sz.length) (h2:i<at_.length),0≤at_[i]∧at_[i]<sz[i]:=by
  intro sz
  induction sz with
  | nil=>intro at_ _ i h;simp at h
  | cons k r ih=>
    intro at_ h i h1 h2;cases at_ with
    | nil=>simp at h2
    | cons a t=>
      cases i with
      | zero=>exact h.1
      | succ i=>exact ih h.2 (by simpa using h1) (by simpa using h2)
 rw[qg hi,qg (show i<at_.length by omega)];exact this h hi oM
theorem nodup_inj {l:List Int} (h:l.Nodup) {i j:Nat} (hi:i<l.length) (hj:j<l.length) (e:l[i]=l[j]):i=j:=by
 have:=DX.1 h;rcases Nat.lt_trichotomy i j with k | k | k
 ·exact absurd e (this i j hi hj k)
 ·exact k
 ·exact absurd e.symm (this j i hj hi k)
set_option maxHeartbeats 8000000
structure BldF (x:Src) (d:Dcl) (P:List Pk) (k:Int) (R:List (List Int)) (O:List Int):Prop where
 len:R.length=O.length
 asc:AscR R
 row:∀ i (hi:i<R.length),∃ (j:Nat) (hj:j<x.rows.length),R[i]=rowX x P k x.rows[j]∧qO2 x (hd x.rows[j])=j∧idI k (hd R[i])=hd x.rows[j]∧O.contains (hd x.rows[j])=true∧zb9 x.sch d.coh x.rows[j]=1
def blkR (c:Col) (lev v:Int):Int×Int×Bool:=
 if lev=0 then (c.low,c.high,v==0)
 else if v=zj∨inB v (-2000000) 2000000=false∨v.tmod (qO c lev)≠0 then (0,0,false)
 else (max c.low v,min c.high (v+qO c lev-1),decide (max c.low v≤min c.high (v+qO c lev-1)))
theorem JW (c:Col) (lev v:Int) (hl:lev=0∨(1≤lev∧lev≤c.widths.length∧c.widths.length≤4∧1≤qO c lev∧qO c lev≤1000000)):Sp 132 [colT c,vI lev,vI v] [] (.tup [vI (blkR c lev v).1,vI (blkR c lev v).2.1,vB (blkR c lev v).2.2]) []:=by
 refine sIr qL8 fun e _ hst=>?_;unfold Zu;simp only[tZ,↓uU,simprocAttr,AY,Ak];refine⟨fun h=>?_,fun h=>?_⟩
 ·rw[blkR,Aj h];refine⟨kR,?_⟩;exact .oA [] []
 obtain⟨l1,l2,l3,l4,l5⟩:=hl.resolve_left h;rw[blkR,Aq h];refine C1.im (wb c lev ⟨l1,l2⟩ oM) rF rF ?_;generalize qO c lev=w at l4 l5 ⊢
 refine sW ?_;refine C2.im (fun _=>zJ v (-2000000) 2000000) (fun _=>rfl) rF ?_;have hm:zj = -1099511627776:=rfl;have hw1:IntKind.i64.wrap (v.tmod w)=v.tmod w:=AK _ (by have:=Int.tmod_lt_of_pos v (show 0<w by omega);have:=Int.lt_tmod_of_pos v (show 0<w by omega);omega);simp only[tZ,↓uU,simprocAttr,hw1];have hC:(v=zj∨inB v (-2000000) 2000000=false∨v.tmod w≠0)↔((v == -1099511627776||!inB v (-2000000) 2000000||v.tmod w != 0)=true):=by
  rw[DZ,DZ,AY,Bx,Bj,or_assoc];rfl
 refine⟨fun _=>by omega,fun h2=>?_,fun h2=>?_⟩
 ·rw[Aj (hC.2 h2)];exact .oA [] []
 ·have hn:¬ (v=zj∨inB v (-2000000) 2000000=false∨v.tmod w≠0):=fun k=>by rw[hC.1 k] at h2;cases h2
  rw[Aq hn];have hb:inB v (-2000000) 2000000=true:=by
   cases e:inB v (-2000000) 2000000 with
   | true=>rfl
   | false=>exact absurd (.inr (.inl e)) hn
  rw[zX] at hb;have hw2:IntKind.i64.wrap (v+w)=v+w:=AK _ oM;have hw3:IntKind.i64.wrap (v+w-1)=v+w-1:=AK _ oM;refine⟨kR,?_⟩;simp only[tZ,↓uU,simprocAttr,hw2,hw3,jW8,jW9];exact .oA [] []
def canR (s:Sch) (c lev v:Int):Bool:=
 if inB lev 0 (finI s c)=false then false
 else if (qj s c.toNat).kind=2 then (qJ s c.toNat).any fun x=>qw s c lev x==v
 else if lev>0∧v=zj then (qj s c.toNat).opt else (blkR (qj s c.toNat) lev v).2.2
theorem qa0 (s:Sch) (hs:jO s) (c lev v:Int):Sp 77 [schT s,vI c,vI lev,vI v] [] (vB (canR s c lev v)) []:=by
 refine sIr zo3 fun e _ hst=>?_;unfold KK;refine sW ?_;refine C1.im (zQ s hs c) rF rF ?_;refine sW ?_;refine C1.im (zJ lev 0 (finI s c)) rF rF ?_;simp only[tZ,↓uU,simprocAttr,Bx,Bz];refine⟨fun h=>?_,fun h=>?_⟩
 ·rw[canR,Aj h];exact .oA [] []
 have hin:=zX.1 h;obtain⟨hE,c1,c2,hfin⟩:=wA (s:=s) (c:=c) oM;obtain⟨i,rfl⟩:=AJ (show 0≤c by omega);have hil:i<s.cols.length:=by omega
 have hok:=qU hE;have hR:canR s i lev v=if (qj s i).kind=2 then (qJ s i).any fun x=>qw s i lev x==v else if lev>0∧v=zj then (qj s i).opt else (blkR (qj s i) lev v).2.2:=by
  rw[canR,Aq (by rw[h];simp),Ax]
 have hat:qj s i=s.cols[i]:=by rw[qj,qg hil]
 have hLf:=fun h2=>ju s hok i hil h2;have hLl:=fun h2=>jn hok hil h2;have hw:=fun h2 l=>hok.wid hil oM h2 (lev:=l);rw[hR];rw[Ax] at hfin;rw[hat] at hLf hLl hw hfin ⊢
 generalize finI s i=F at hin hfin;simp only[tZ,↓uU,simprocAttr,Ax,qd hil,AY,Ak];generalize s.cols[i]=x at hLf hLl hw hfin ⊢
 refine⟨oM,fun h2=>?_,fun h2=>?_⟩
 ·rw[Aj h2];have hLl:=hLl h2;refine C1.im (hLf h2) rF rF ?_;generalize qJ s i=L at hLl ⊢
  refine sW ?_;refine qk mixm (α:=Nat) [11] (fun n=>n≤L.length∧((L.take n).any fun x=>qw s i lev x==v)=false) (fun n=>[(11,vI n)]) (fun n=>[aR 4096 2 [schT s]]) (fun n=>L.length-n) 0 ⟨oM,rfl⟩ ?_ fun n hn=>?_
  ·exact .oA (U1 4096) []
  refine sD ?_;refine⟨fun h5=>?_,fun h5=>?_⟩
  ·have hn2:n<L.length:=by omega
   have hwn:=qh (i:=n) oM;have hC:=zo s hs i lev L[n];simp only[tZ,↓uU,simprocAttr,Ax,qd hn2];refine⟨oM,?_⟩;refine C1.im hC rF rF ?_;simp only[tZ,↓uU,simprocAttr,hwn];refine⟨kR,fun h6=>?_,fun h6=>?_⟩
   ·rw[qn1 hn2 h6];exact .oA [] []
   ·refine⟨n+1,⟨oM,zG hn2 hn.2 h6⟩,oM,?_⟩;exact .oA (U1 4096) []
  ·have hnl:n=L.length:=by omega
   subst hnl;have hn2:=hn.2;rw[Bw] at hn2;rw[hn2];exact .oA [] []
 ·rw[Aq h2];rw[Aq h2] at hfin;have hB:=JW x lev v (by
   rcases Int.lt_or_le 0 lev with k | k
   ·right
    obtain⟨w1,w2,_,w4,_⟩:=hw h2 lev oM;exact⟨oM,oM,w4,w1,w2⟩
   ·left;omega)
  simp only[tZ,↓uU,simprocAttr,tD,AY,Ak,gt_iff_lt];refine⟨fun h5=>?_,fun h5=>?_⟩
  ·rw[Aj (show 0<lev∧v=zj from h5)];exact .oA [] []
  ·rw[Aq (show ¬ (0<lev∧v=zj) from fun k=>by
    have:zj = -1099511627776:=rfl;omega)]
   refine C1.im hB rF rF ?_;refine sW ?_
   repeat (first | refine⟨oM,?_⟩ | refine⟨kR,?_⟩)
   exact .oA [] []
def zt8 (s:Sch) (i:Nat) (lev v:Int):Int:=
 if (qj s i).kind=2 then ((qJ s i).find? fun x=>qw s i lev x==v).getD (-1)
 else if lev>0∧v=zj then v else (blkR (qj s i) lev v).1
theorem zt9 (s:Sch) (hE:schE s=0) (i:Nat) (hi:i<s.cols.length) (h0:0<i) (lev v:Int) (hl:0≤lev∧lev≤finI s i):Sp 170 [schT s,vI i,vI lev,vI v] [] (vI (zt8 s i lev v)) []:=by
 have hok:=qU hE;have hs:=hok.sm;have hat:qj s i=s.cols[i]:=by rw[qj,qg hi]
 have hR:zt8 s i lev v=if (qj s i).kind=2 then ((qJ s i).find? fun x=>qw s i lev x==v).getD (-1) else if lev>0∧v=zj then v else (blkR (qj s i) lev v).1:=rfl
 have hLf:=fun h2=>ju s hok i hi h2;have hLl:=fun h2=>jn hok hi h2;have hw:=fun h2 l=>hok.wid hi h0 h2 (lev:=l);have hfin:finI s i=if (qj s i).kind=2 then zC (qQ s i)-1 else (qj s i).widths.length:=by rw[finI,Aq (by rw[hE];omega),Ax]
 rw[hR];rw[hat] at hLf hLl hw hfin ⊢
 generalize finI s i=F at hl hfin;refine sIr zb1 fun e _ hst=>?_;unfold JK;simp only[tZ,↓uU,simprocAttr,Ax,qd hi,AY,Ak];generalize s.cols[i]=x at hLf hLl hw hfin ⊢
 refine⟨oM,fun h2=>?_,fun h2=>?_⟩
 ·rw[Aj h2];have hLl:=hLl h2;refine C1.im (hLf h2) rF rF ?_;generalize qJ s i=L at hLl ⊢
  refine sW ?_;refine qk mixm (α:=Nat) [11] (fun n=>n≤L.length∧((L.take n).any fun x=>qw s i lev x==v)=false) (fun n=>[(11,vI n)]) (fun n=>[aR 4096 2 [schT s]]) (fun n=>L.length-n) 0 ⟨oM,rfl⟩ ?_ fun n hn=>?_
  ·exact .oA (U1 4096) []
  refine sD ?_;refine⟨fun h5=>?_,fun h5=>?_⟩
  ·have hn2:n<L.length:=by omega
   have hwn:=qh (i:=n) oM;have hC:=zo s hs i lev L[n];simp only[tZ,↓uU,simprocAttr,Ax,qd hn2];refine⟨oM,?_⟩;refine C1.im hC rF rF ?_;simp only[tZ,↓uU,simprocAttr,hwn,Ax,qd hn2];refine⟨kR,fun h6=>?_,fun h6=>?_⟩
   ·rw[jx3 (p:=fun x=>qw s i lev x==v) hn2 hn.2 h6,Option.getD_some]
    repeat (first | refine⟨oM,?_⟩ | refine⟨kR,?_⟩)
    exact .oA [] []
   ·refine⟨n+1,⟨oM,zG hn2 hn.2 h6⟩,oM,?_⟩;exact .oA (U1 4096) []
  ·have hnl:n=L.length:=by omega
   subst hnl;have hn2:=hn.2;rw[Bw] at hn2;rw[qS3 hn2];exact .oA [] []
 ·rw[Aq h2];rw[Aq h2] at hfin;have hB:=JW x lev v (by
   rcases Int.lt_or_le 0 lev with k | k
   ·right
    obtain⟨w1,w2,_,w4,_⟩:=hw h2 lev oM;exact⟨oM,oM,w4,w1,w2⟩
   ·left;omega)
  simp only[tZ,↓uU,simprocAttr,tD,AY,Ak,gt_iff_lt];refine⟨fun h5=>?_,fun h5=>?_⟩
  ·rw[Aj (show 0<lev∧v=zj from h5)];exact .oA [] []
  ·rw[Aq (show ¬ (0<lev∧v=zj) from fun k=>by
    have:zj = -1099511627776:=rfl;omega)]
   refine C1.im hB rF rF ?_;refine sW ?_
   repeat (first | refine⟨oM,?_⟩ | refine⟨kR,?_⟩)
   exact .oA [] []
end Go.Proofs
