/- A part of the proof: trees of Go values, short forms, contracts. -/
import Derived.Test.YtnfagfikoblhfaaGreatDoorK20
set_option linter.unusedSimpArgs false
set_option linter.unusedVariables false
namespace Go.Proofs
open Go Go.TL
set_option maxRecDepth 4000
set_option maxHeartbeats 8000000
theorem jI7:JX cnd0 cnd0=true:=by decide +kernel
theorem qC5 {s:Sch} {nm:ByteArray} {c:Cnd} {ds:List Pk} {m:Int} (hE:schE s=0) (h1:ju nm=true) (h2:chkC s c=0) (h3:ZS s ds=0) (h4:m = -1∨isB s m 3=true):qstE s ⟨nm,1,c,ds,m,[],cnd0⟩=0:=by
 have hp:kU s ⟨nm,1,c,ds,m,[],cnd0⟩=0:=by
  rw[kU,Aj rfl,Aq (by rw[h3];simp),Aq];rintro ⟨a,b⟩;rcases h4 with h | h
  ·exact a h
  ·rw[h] at b;cases b
 rw[qstE,Aq (by rw[hE];simp),Aq (by rw[h1];simp),Aq sMp,Aq (by rw[h2];simp),Aq (by rw[hp];simp),Aq (by rw[jI7];simp)]
theorem jp2 {s:Sch} {nm:ByteArray} {c:Cnd} {ts:List Int} {m:Int} (hE:schE s=0) (h1:ju nm=true) (h2:chkC s c=0) (h3:wj s m ts=0) (h4:isB s m 3=true):qstE s ⟨nm,2,c,[],m,ts,cnd0⟩=0:=by
 have hp:kU s ⟨nm,2,c,[],m,ts,cnd0⟩=0:=by
  rw[kU,Aq sMp,Aj rfl,Aq (by rw[h4];simp)];exact h3
 rw[qstE,Aq (by rw[hE];simp),Aq (by rw[h1];simp),Aq sMp,Aq (by rw[h2];simp),Aq (by rw[hp];simp),Aq (by rw[jI7];simp)]
theorem jp3 {s:Sch} {nm:ByteArray} {c d:Cnd} {m:Int} (hE:schE s=0) (h1:ju nm=true) (h2:chkC s c=0) (h3:chkC s d=0) (h4:isB s m 3=true) (h5:0≤(qg s m.toNat).low):qstE s ⟨nm,3,c,[],m,[],d⟩=0:=by
 have hp:kU s ⟨nm,3,c,[],m,[],d⟩=0:=by
  rw[kU,Aq sMp,Aq sMp,Aq (by rw[h4];simp),Aq (by dsimp only;omega)];exact h3
 rw[qstE,Aq (by rw[hE];simp),Aq (by rw[h1];simp),Aq sMp,Aq (by rw[h2];simp),Aq (by rw[hp];simp),Aq sMp]
theorem CndOk.mono {s:Sch} {n m:Nat} {c:Cnd} (h:CndOk s n c) (hn:n≤m):CndOk s m c:=by
 have h1:=h.dep;have h2:=h.siz;have h3:2 ^ (n+1)≤2 ^ (m+1):=Nat.pow_le_pow_right oM oM;exact⟨h.ok,oM,oM⟩
theorem Yd (s:Sch) (hd:DrS s) (nm:ByteArray) (hnm:ju nm=true) (l:List UInt8) (a:Nat) (hl:l.length≤400) (ha:a≤l.length) :
 ∃ r:Qst×Nat,((qstE s r.1=0∧r.1.name=nm∧CndOk s 2 r.1.filt)∧r.2≤l.length)∧Sp 58 [.ptr 0 1 0 0,schT s,vS nm] [(0,oC l a)] (qstT r.1) [(0,oC l r.2)]:=by
 have hE:=hd.ok;have hok:=zc hE;have hnc:=hok.nc;have hat:∀ i (h:i<s.cols.length),qg s i=s.cols[i]:=fun i h=>by rw[qg,qk h]
 obtain⟨j,a1,j1,j2,ha1,sN⟩:=Qs l a 3 hl ha oM;obtain⟨D,rfl⟩:=AJ j1;obtain⟨⟨c,a2⟩,⟨hc,ha2⟩,sC⟩:=Qd s hd l hl D a1 ha1 oM;dsimp only at hc ha2 sC;have hcf:=hc.chk hE oM;have hcm:=hc.mono (m:=2) oM;obtain⟨v,a3,hv,ha3,sV⟩:=Qc s hd l a2 hl ha2;obtain⟨_,v2,v3⟩:=zF.1 hv;rw[Ax] at v3;have hil:v<s.cols.length:=by omega
 obtain⟨w,a4,w1,w2,ha4,sK⟩:=Qs l a3 4 hl ha3 oM;refine jJ WN mixm (fun r:Qst×Nat=>qstT r.1) (fun r=>[(0,oC l r.2)]) sMp ?_;unfold ka;refine sW ?_;refine XE.mp (fun _ _=>C1.draw 0 l a _ sN rfl rfl rfl) ?_;refine sW ?_;refine XE.mp (fun _ _=>C1.draw 0 l a1 _ sC rfl rfl rfl) ?_;refine sW ?_;refine XE.sd kR ?_;refine XE.mp (fun _ _=>C1.draw 0 l a2 _ sV rfl rfl rfl) ?_;refine sW ?_;refine XE.mp (fun _ _=>C1.draw 0 l a3 _ sK rfl rfl rfl) ?_;simp only[tZ,↓un_u,simprocAttr,AY,Ak];refine XE.brN (fun h1=>?_) (fun h1=>XE.brN (fun h2=>?_) (fun h2=>XE.brN (fun h3=>?_) (fun h3=>?_)))
 ·obtain⟨⟨ds,b2⟩,⟨hds,hb2⟩,sQ⟩:=kN s hd l a4 hl ha4;dsimp only at hds hb2 sQ;refine XE.mp (fun _ _=>C1.draw 0 l a4 _ sQ rfl rfl rfl) ?_;refine sW ?_;refine XE.fin (⟨nm,1,c,ds,v,[],cnd0⟩,b2) ⟨⟨qC5 hE hnm hcf hds (.inr hv),rfl,hcm⟩,hb2⟩ fun e ⟨_,hst⟩=>?_;exact .oA (U1 0) []
 ·obtain⟨⟨ts,a5⟩,⟨⟨ht1,ht2⟩,ha5⟩,sT⟩:=qq0 s hd v l a4 hl ha4;dsimp only at ht1 ht2 ha5 sT;refine XE.mp (fun _ _=>C1.draw 0 l a4 _ sT rfl rfl rfl) ?_;simp only[tZ,↓un_u,simprocAttr,AZ,Ay];refine XE.brN (fun h3=>?_) (fun h3=>?_)
  ·refine XE.fin (⟨nm,2,c,[],v,ts,cnd0⟩,a5) ⟨⟨jp2 hE hnm hcf (ht2 oM) hv,rfl,hcm⟩,ha5⟩ fun e ⟨_,hst⟩=>?_;exact .oA (U1 0) []
  ·obtain⟨⟨ds,b2⟩,⟨hds,hb2⟩,sQ⟩:=kN s hd l a5 hl ha5;dsimp only at hds hb2 sQ;refine XE.mp (fun _ _=>C1.draw 0 l a5 _ sQ rfl rfl rfl) ?_;refine sW ?_;refine XE.fin (⟨nm,1,c,ds,-1,[],cnd0⟩,b2) ⟨⟨qC5 hE hnm hcf hds (.inl rfl),rfl,hcm⟩,hb2⟩ fun e ⟨_,hst⟩=>?_;exact .oA (U1 0) []
 ·simp only[tZ,↓un_u,simprocAttr,Ax,qd hil,AZ,Ay];refine XE.sd oM ?_;refine XE.brN (fun h4=>?_) (fun h4=>?_)
  ·obtain⟨⟨d,a5⟩,⟨hdc,ha5⟩,sE⟩:=Qd s hd l hl 1 a4 ha4 oM;dsimp only at hdc ha5 sE;refine XE.mp (fun _ _=>C1.draw 0 l a4 _ sE rfl rfl rfl) ?_;refine sW ?_;refine XE.fin (⟨nm,3,c,[],v,[],d⟩,a5) ⟨⟨jp3 hE hnm hcf (hdc.chk hE oM) hv (by rw[Ax,hat v hil];omega),rfl,hcm⟩,ha5⟩ fun e ⟨_,hst⟩=>?_;exact .oA (U1 0) []
  ·obtain⟨⟨ds,b2⟩,⟨hds,hb2⟩,sQ⟩:=kN s hd l a4 hl ha4;dsimp only at hds hb2 sQ;refine XE.mp (fun _ _=>C1.draw 0 l a4 _ sQ rfl rfl rfl) ?_;refine sW ?_;refine XE.fin (⟨nm,1,c,ds,-1,[],cnd0⟩,b2) ⟨⟨qC5 hE hnm hcf hds (.inl rfl),rfl,hcm⟩,hb2⟩ fun e ⟨_,hst⟩=>?_;exact .oA (U1 0) []
 ·obtain⟨⟨ds,b2⟩,⟨hds,hb2⟩,sQ⟩:=kN s hd l a4 hl ha4;dsimp only at hds hb2 sQ;refine XE.mp (fun _ _=>C1.draw 0 l a4 _ sQ rfl rfl rfl) ?_;refine sW ?_;refine XE.fin (⟨nm,1,c,ds,-1,[],cnd0⟩,b2) ⟨⟨qC5 hE hnm hcf hds (.inl rfl),rfl,hcm⟩,hb2⟩ fun e ⟨_,hst⟩=>?_;exact .oA (U1 0) []
theorem jv (s:Sch) (hd:DrS s) (nm:ByteArray) (hnm:ju nm=true) (l:List UInt8) (a:Nat) (hl:l.length≤400) (ha:a≤l.length) :
 ∃ r:Qst×Nat,((qstE s r.1=0∧r.1.name=nm)∧r.2≤l.length)∧Sp 58 [.ptr 0 1 0 0,schT s,vS nm] [(0,oC l a)] (qstT r.1) [(0,oC l r.2)]:=by
 obtain⟨r,⟨⟨h1,h2,_⟩,h3⟩,h⟩:=Yd s hd nm hnm l a hl ha;exact⟨r,⟨⟨h1,h2⟩,h3⟩,h⟩
theorem qL2 {l:List Pk} {k F:Int} (hF:0≤F) (h:∀ p∈l,p.col=k→p.lev≤F):mxl l k≤F:=by
 induction l with
 | nil=>exact hF
 | cons p r ih=>
   have h1:=ih fun q hq=>h q (CQ _ hq);rw[mxl];split
   ·rename_i e;have:=h p sMp e;omega
   ·exact h1
theorem qq1 {s:Sch} {c lev:Int} (h:0≤lev) (h2:lev≤finI s c):wl s c lev≤lev∧0≤wl s c lev∧divB s c.toNat (wl s c lev).toNat lev.toNat=true∧∀ m:Nat,(m:Int)<wl s c lev→divB s c.toNat m lev.toNat=false:=by
 have h59:lev≤59∨schE s≠0:=by
  by_cases e:schE s=0
  ·have:=YN (c:=c) e;exact .inl oM
  ·exact .inr e
 have hE:schE s=0:=(ZT (s:=s) (c:=c) oM).1;have h59:=YN (c:=c) hE;rw[wl,Aq (by rw[Ez,Qr];omega)];obtain⟨a,b,_,d⟩:=qh6 (p:=fun n=>divB s c.toNat n lev.toNat) (N:=lev.toNat) (zH2 s _ _) 64 0 oM oM;refine⟨oM,oM,by rw[Ax];exact a,fun m hm=>d m oM oM⟩
theorem Ww {s:Sch} (hE:schE s=0) {k:Nat} (h1:1≤k) (h2:k<s.cols.length):0≤finI s k:=by
 have hok:=zc hE;have hkk:=zo (hok.cs k h2);have h3:=hkk.2.2.1 h1;refine (je0 hE (v:=k) ?_).2.2.1;rcases (show (qg s k).kind=2∨(qg s k).kind=3 by omega) with h | h
 ·exact .inl (zF.2 ⟨oM,oM,by rw[Ax];exact h⟩)
 ·exact .inr (zF.2 ⟨oM,oM,by rw[Ax];exact h⟩)
theorem jD1 {s:Sch} {c:Cnd} (h:chkC s c=0):∀ p∈atP s c,p.lev≤finI s p.col:=fun p hp=>by
 obtain⟨hE,k2,k3,k4⟩:=Wp h;obtain⟨a,ha,rfl⟩:=Cj.1 hp;obtain⟨hnd,hia⟩:=qx2 c k4 a ha;exact (qo4 hE hnd hia).1
theorem jf1 {s:Sch} {c:Cnd} (h:chkC s c=0):∀ p∈jR s c,p.lev≤finI s p.col:=fun p hp=>by
 have hE:=(Wp h).1;obtain⟨h1,h2⟩:=KA h;rw[h1,yr] at hp;obtain⟨k,k1,k2,rfl⟩:=hp;have h0:1≤k:=by
  rcases DQ k with e | e
  ·subst e;rw[Jr fun q hq=>by have:=h2 q hq;omega] at k2;omega
  ·exact e
 exact qL2 (Ww hE h0 k1) fun p hp e=>by rw[← e];exact jD1 h p hp
theorem qq2 {s:Sch} {q:Qst} (hq:QstOk s q):∀ p∈Jd s q,p.lev≤finI s p.col:=fun p hp=>by
 unfold Jd at hp;rcases Dz.1 hp with hp | hp
 ·rcases Dz.1 hp with hp | hp
  ·obtain⟨d,hd,rfl⟩:=Cj.1 hp;obtain⟨_,h1,h2,h3,h4⟩:=zb4 (qp9 hq d hd).1;have:=qq1 h3 h4;dsimp only;omega
  ·obtain⟨k,h1,h2,rfl⟩:=zw8.1 hp;unfold usB at h2;rw[Bq,AZ] at h2;have h3:=Ww hq.sch (k:=k) oM h1;have:=qq1 h3 (Int.le_refl _);dsimp only;omega
 ·obtain⟨c,hc,hp⟩:=Ew.1 hp;exact jf1 (qV7 hq c hc) p hp
theorem jp4 {a w:Int}:(a.tmod w==0)=true↔w ∣ a:=by rw[AY];exact⟨Int.dvd_of_tmod_eq_zero,Int.tmod_eq_zero_of_dvd⟩
theorem qC6 {a w:Int} (hw:0<w):qQ a w=a / w:=by unfold qQ;rw[DW _ oM]
theorem qL3 {w x:Int} (hw:0<w) (h:¬ w ∣ x):qQ (x-1) w*w=qQ x w*w:=by
 have:=(zw5 (a:=x-1) (k:=w) oM).2;rw[show x-1+1=x by omega] at this;rw[this h]
theorem jf2 {w x:Int} (hw:0<w) (hd:w ∣ x):qQ x w*w=x:=by
 rw[qC6 hw];exact Int.ediv_mul_cancel hd
theorem jf3 {w x:Int} (hw:0<w) (hd:w ∣ x):qQ (x-1) w*w≠qQ x w*w:=by
 rw[jf2 hw hd];have:=yp (v:=x-1) hw;omega
theorem jw {s:Sch} {i:Nat} (h1:(qg s i).kind=3) {v:Int}:qV s i v=true↔((qg s i).opt=true∧v=zt)∨((qg s i).low≤v∧v≤(qg s i).high):=by
 rw[qV,Aq oM,Aq oM,DZ,Bq,AY,Qr]
theorem yv {s:Sch} (hok:SchOk s) {i:Nat} (hi:i<s.cols.length) (h2:(qg s i).kind=2) {v:Int}:qV s i v=true↔v∈zd s i:=by
 obtain⟨_,d2⟩:=hok.cdl hi h2;constructor
 ·intro h;rw[qV,Aq oM,Aj h2,Bq,Qr,AY] at h;obtain⟨⟨g1,g2⟩,g3⟩:=h;obtain⟨c,rfl⟩:=AJ g1;rw[lvlC,Aq (not_or.2 ⟨fun h=>h d2,oM⟩),Ax] at g3;exact (Qe hok hi h2).2 ⟨c,rfl,oM,g3⟩
 ·intro h;exact Kv h2 d2 h
structure MeasC (s:Sch) (i:Nat):Prop where
 kind:(qg s i).kind=3
 fin:finI s i=(qg s i).widths.length
 wid:∀ l:Nat,1≤l→l≤(qg s i).widths.length→1≤qU (qg s i) l
 one:qU (qg s i) (qg s i).widths.length=1
 lh : -1000000≤(qg s i).low∧(qg s i).low≤(qg s i).high∧(qg s i).high≤1000000
 nw:1≤(qg s i).widths.length
 dv:∀ {o l:Nat},1≤o→o<l→l≤(qg s i).widths.length→∃ k:Int,2≤k∧qU (qg s i) o=k*qU (qg s i) l
theorem kQ {s:Sch} (hE:schE s=0) {i:Nat} (hi:i<s.cols.length) (h0:0<i) (h2:(qg s i).kind≠2):MeasC s i:=by
 have hok:=zc hE;have hkk:=zo (hok.cs i hi);have h3:(qg s i).kind=3:=by have:=hkk.2.2.1 h0;omega
 have hm:=hkk.2.2.2.2 h3;have hwl:1≤(qg s i).widths.length:=by unfold measE at hm;grind
 obtain⟨_,_,_,_,w5,w6,w7,w8⟩:=hok.wid hi h0 h2 (lev:=(qg s i).widths.length) oM;refine⟨h3,by rw[finI,Aq (by rw[hE];omega),Ax,Aq h2],fun l l1 l2=>(hok.wid hi h0 h2 (lev:=l) oM).1,w8,⟨w5,w7,w6⟩,hwl,fun {o l} h4 h5 h6=>hok.wdv hi h0 h2 ⟨h4,h5⟩ h6⟩
theorem Kd {s:Sch} {i:Nat} (h:MeasC s i) {lev:Nat} (hl:(lev:Int)≤finI s i) {v:Int} (hv:qV s i v=true):qt s i lev v=if lev=0 then 0 else if v=zt then v else qQ v (qU (qg s i) lev)*qU (qg s i) lev:=by
 have h1:=h.lh;have hm:v≠zt→inB v (-1000000) 1000000=true:=fun hn=>by
  rcases (jw h.kind).1 hv with k | k
  ·exact absurd k.2 hn
  ·exact Qr.2 oM
 rw[qt,Aq (by rw[Ez,Qr];omega),Ax,Aq (by rw[h.kind];decide),Aq (fun k=>by rw[hm k.1] at k;simp at k)];by_cases e:lev=0
 ·subst e;rfl
 ·rw[Aq oM,Aq e]
theorem jI8 {v w:Int} (hw:1≤w) (hw2:w≤1000000) (hv : -1000000≤v):qQ v w*w≠zt:=by
 have:=yp (v:=v) (w:=w) oM;unfold zt;omega
theorem jI9 {s:Sch} (hE:schE s=0) {i:Nat} (hi:i<s.cols.length) (h0:0<i) (h2:(qg s i).kind≠2) {l:Nat} (l1:1≤l) (l2:l≤(qg s i).widths.length):qU (qg s i) l≤1000000:=((zc hE).wid hi h0 h2 (lev:=l) oM).2.1
theorem qv4 {s:Sch} (hE:schE s=0) {i:Nat} (hi:i<s.cols.length) (h0:0<i) (h2:(qg s i).kind≠2) {lev:Nat} (h1:1≤lev) (hl:(lev:Int)≤finI s i) {a b:Int} (ha:qV s i a=true) (hb:qV s i b=true) :
 qt s i lev a=qt s i lev b↔(a=zt∧b=zt)∨(a≠zt∧b≠zt∧qQ a (qU (qg s i) lev)*qU (qg s i) lev=qQ b (qU (qg s i) lev)*qU (qg s i) lev):=by
 have hm:=kQ hE hi h0 h2;have hlh:=hm.lh;have hf:=hm.fin;have hw:=hm.wid lev h1 oM;have hw2:=jI9 hE hi h0 h2 h1 oM;rw[Kd hm hl ha,Kd hm hl hb,Aq (show ¬ lev=0 by omega),Aq (show ¬ lev=0 by omega)];have na:a≠zt→-1000000≤a:=fun hn=>by
  rcases (jw hm.kind).1 ha with k | k
  ·exact absurd k.2 hn
  ·omega
 have nb:b≠zt→-1000000≤b:=fun hn=>by
  rcases (jw hm.kind).1 hb with k | k
  ·exact absurd k.2 hn
  ·omega
 by_cases ea:a=zt
 ·by_cases eb:b=zt
  ·rw[Aj ea,Aj eb];simp [ea,eb]
  ·rw[Aj ea,Aq eb];have:=jI8 hw hw2 (nb eb);constructor
   ·intro h;rw[ea] at h;exact absurd h.symm this
   ·rintro (h | h)
    ·exact absurd h.2 eb
    ·exact absurd ea h.1
 ·by_cases eb:b=zt
  ·rw[Aq ea,Aj eb];have:=jI8 hw hw2 (na ea);constructor
   ·intro h;rw[eb] at h;exact absurd h this
   ·rintro (h | h)
    ·exact absurd h.1 ea
    ·exact absurd eb h.2.1
  ·rw[Aq ea,Aq eb];constructor
   ·intro h;exact .inr ⟨ea,eb,h⟩
   ·rintro (h | h)
    ·exact absurd h.1 ea
    ·exact h.2.2
theorem YS {s:Sch} (hE:schE s=0) {i:Nat} (hi:i<s.cols.length) (h0:0<i) (h2:(qg s i).kind≠2) {a:Int} (ha:qV s i a=true):qt s i 0 a=0:=by
 have hm:=kQ hE hi h0 h2;have:=Kd hm (lev:=0) (by rw[hm.fin];omega) ha;rw[Aj rfl] at this;exact this
theorem jx5 {s:Sch} (hE:schE s=0) {i:Nat} (hi:i<s.cols.length) (h0:0<i) {a:Int} (ha:qV s i a=true):qt s i (finI s i) a=a:=by
 by_cases h2:(qg s i).kind=2
 ·exact Wq hE h0 hi h2 ((yv (zc hE) hi h2).1 ha)
 ·have hm:=kQ hE hi h0 h2;have hn:=hm.nw;have:=Kd hm (lev:=(qg s i).widths.length) (by rw[hm.fin];omega) ha;rw[hm.fin,this,Aq oM,hm.one];split
  ·rfl
  ·unfold qQ;simp
theorem zI2 {n:Nat} {p:Nat→Nat→Bool} (h:qu3 n p=false):∃ i k,i<n∧k<i∧p i k=false:=by
 refine AQ fun hn=>?_;have:qu3 n p=true:=zq2.2 fun i hi k hk=>by
  cases e:p i k with
  | true=>rfl
  | false=>exact absurd ⟨i,k,hi,hk,e⟩ hn
 rw[this] at h;cases h
theorem zM4 {s:Sch} {c:Cnd} {v:Int} (o:c.op=4):zl s c v=tf (v==zt):=by
 unfold zl;rw[Aq (show ¬ c.op=2 by omega),Aq (show ¬ c.op=3 by omega),Aj o]
theorem jp5 {s:Sch} {c:Cnd} {v:Int} (o:c.op=3):zl s c v=if v=zt then 0 else tf (decide (c.lo≤v)&&decide (v≤c.hi)):=by
 unfold zl;rw[Aq (show ¬ c.op=2 by omega),Aj o]
theorem jD2 {s:Sch} (hE:schE s=0) {c:Cnd} (hnd:NdOk s c) (hia:isAt c=true) {lev:Nat} (hl:(lev:Int)≤finI s c.col) (hd:decB s c lev=false):∃ a b,qV s c.col.toNat a=true∧qV s c.col.toNat b=true∧qt s c.col lev a=qt s c.col lev b∧zl s c a≠zl s c b:=by
 obtain⟨_,c1,c2,hfin⟩:=ZT (s:=s) (c:=c.col) oM;obtain⟨i,hci⟩:=AJ (show 0≤c.col by omega);have hcn:c.col.toNat=i:=by omega
 have hil:i<s.cols.length:=by omega
 have hok:=zc hE;have hop:c.op=2∨c.op=3∨c.op=4:=by
  unfold isAt at hia;simp only[DZ,AY] at hia;omega
 rw[hcn];by_cases o2:c.op=2
 ·have hk2:(qg s i).kind=2:=by have:=(zF.1 (hnd.under o2).1).2.2;rw[hcn] at this;exact this
  unfold decB at hd;rw[Aj o2,hcn] at hd;obtain⟨j,k,hj,hk,hp⟩:=zI2 hd;unfold decP at hp;rw[hcn] at hp;simp only[Bz,Bq,AY,Bx,Ak] at hp;refine⟨_,_,?_,?_,hp.1,hp.2⟩
  ·rw[yv hok hil hk2,qk hj];exact AX _
  ·rw[yv hok hil hk2,qk (show k<(zd s i).length by omega)];exact AX _
 ·have h3:(qg s i).kind=3:=by
   rcases hop with o | o | o
   ·exact absurd o o2
   ·have:=(zF.1 (hnd.between o).1).2.2;rw[hcn] at this;exact this
   ·have:=(zF.1 (hnd.miss o).1).2.2;rw[hcn] at this;exact this
  have h2:(qg s i).kind≠2:=by omega
  have hm:=kQ hE hil oM h2;have hlh:=hm.lh;rw[hci] at hl ⊢
  have hH:∀ v,(qg s i).low≤v→v≤(qg s i).high→qV s i v=true:=fun v h1 h2=>(jw h3).2 (.inr ⟨h1,h2⟩);have hO:(qg s i).opt=true→qV s i zt=true:=fun h=>(jw h3).2 (.inl ⟨h,rfl⟩);have hnm:∀ v,(qg s i).low≤v→v≠zt:=fun v h e=>by unfold zt at e;omega
  have hA:c.op=3→∀ v,v≠zt→zl s c v=tf (decide (c.lo≤v)&&decide (v≤c.hi)):=fun o v hv=>by unfold zl;rw[Aq o2,Aj o,Aq hv]
  have hz:∀ v,qV s i v=true→qt s i 0 v=0:=fun v hv=>YS hE hil oM h2 hv;have htf:tf true≠tf false∧(0:Int)≠tf true∧(0:Int)≠tf false:=by decide
  unfold decB at hd;rw[Aq o2,hcn] at hd;by_cases o4:c.op=4
  ·rw[Aj o4,Ay] at hd;have e0:lev=0:=by omega
   subst e0;have hopt:=(hnd.miss o4).2;rw[hcn] at hopt;refine⟨zt,(qg s i).low,hO hopt,hH _ oM oM,?_,?_⟩
   ·show qt s i 0 _=qt s i 0 _;rw[hz _ (hO hopt),hz _ (hH _ oM oM)]
   ·rw[zM4 o4,zM4 o4,beq_self_eq_true,Ak.2 (hnm _ oM)];exact htf.1
  ·have o3:c.op=3:=by omega
   have hlohi:=(hnd.between o3).2.2.2;rw[Aq o4] at hd;dsimp only at hd;have hfst:(qg s i).low<c.lo→c.lo≤(qg s i).high→qt s i lev (c.lo-1)=qt s i lev c.lo→∃ a b,qV s i a=true∧qV s i b=true∧qt s i lev a=qt s i lev b∧zl s c a≠zl s c b:=fun g1 g2 g3=>by
    refine⟨c.lo-1,c.lo,hH _ oM oM,hH _ oM oM,g3,?_⟩;rw[hA o3 _ (hnm _ oM),hA o3 _ (hnm _ oM),Cq (show ¬ c.lo≤c.lo-1 by omega),Cx (show c.lo≤c.lo by omega),Cx (show c.lo≤c.hi by omega)];exact htf.1.symm
   have hbeh:(qg s i).low≤c.hi→c.hi<(qg s i).high→qt s i lev c.hi=qt s i lev (c.hi+1)→∃ a b,qV s i a=true∧qV s i b=true∧qt s i lev a=qt s i lev b∧zl s c a≠zl s c b:=fun g1 g2 g3=>by
    refine⟨c.hi,c.hi+1,hH _ oM oM,hH _ oM oM,g3,?_⟩;rw[hA o3 _ (hnm _ oM),hA o3 _ (hnm _ oM),Cx (show c.lo≤c.hi by omega),Cx (show c.hi≤c.hi by omega),Cq (show ¬ c.hi+1≤c.hi by omega),Bool.and_false];exact htf.1
   by_cases e0:lev=0
   ·subst e0;rw[Aj rfl] at hd;have hz2:∀ a b,qV s i a=true→qV s i b=true→qt s i ((0:Nat):Int) a=qt s i ((0:Nat):Int) b:=fun a b ha hb=>by
     show qt s i 0 _=qt s i 0 _;rw[hz _ ha,hz _ hb]
    cases hopt:(qg s i).opt with
    | true=>
      refine⟨zt,(qg s i).low,hO hopt,hH _ oM oM,hz2 _ _ (hO hopt) (hH _ oM oM),?_⟩;rw[hA o3 _ (hnm (qg s i).low oM)];unfold zl;rw[Aq o2,Aj o3,Aj rfl];cases (decide (c.lo≤(qg s i).low)&&decide ((qg s i).low≤c.hi))
      ·exact htf.2.2
      ·exact htf.2.1
    | false=>
      rw[hopt] at hd;simp only[Bool.not_false,Fj,FK,Bz,Bq,AZ] at hd;rcases hd with⟨g1,g2⟩ | ⟨g1,g2⟩
      ·exact hfst g1 g2 (hz2 _ _ (hH _ oM oM) (hH _ oM oM))
      ·exact hbeh g1 g2 (hz2 _ _ (hH _ oM oM) (hH _ oM oM))
   ·rw[Aq e0] at hd;have hf:=hm.fin;have hw:=hm.wid lev oM oM;have hno:∀ x:Int,((x.tmod (qU (qg s i) lev)==0)=false)→¬ qU (qg s i) lev ∣ x:=fun x h hdv=>by rw[jp4.2 hdv] at h;cases h
    simp only[FK,FQ,Bz,Bq,AZ] at hd;rcases hd with⟨⟨g1,g2⟩,g3⟩ | ⟨⟨g1,g2⟩,g3⟩
    ·refine hfst g1 g2 ((qv4 hE hil oM h2 oM hl (hH _ oM oM) (hH _ oM oM)).2 (.inr ⟨hnm _ oM,hnm _ oM,qL3 oM (hno _ g3)⟩))
    ·refine hbeh g1 g2 ((qv4 hE hil oM h2 oM hl (hH _ oM oM) (hH _ oM oM)).2 (.inr ⟨hnm _ oM,hnm _ oM,?_⟩));have:=qL3 (x:=c.hi+1) (w:=qU (qg s i) lev) oM (hno _ g3);rw[show c.hi+1-1=c.hi by omega] at this;exact this
theorem jp6 {v w q:Int} (hw:1≤w) (h1:q*w≤v) (h2:v<(q+1)*w):qQ v w=q:=by
 rw[qC6 oM];have a1:v / w<q+1:=Int.ediv_lt_of_lt_mul oM h2;have a2:q≤v / w:=Int.le_ediv_of_mul_le oM h1;omega
theorem qL4 {v w:Int} (hw:1≤w):v<(qQ v w+1)*w∧(qQ v w+1)*w-w≤v∧w ∣ (qQ v w+1)*w:=by
 have h:=yp (v:=v) (w:=w) oM;rw[Int.add_mul,Int.one_mul];refine⟨oM,oM,?_⟩;exact Int.dvd_add (Int.dvd_mul_left _ _) (Int.dvd_refl _)
theorem zM5 {high w wo f:Int} (h:divM high w wo 2 f=false):(f≤high∧¬ wo ∣ f)∨(f≤high∧f+w≤high∧¬ wo ∣ f+w):=by
 unfold divM at h;split at h
 ·cases h
 ·rename_i h1;split at h
  ·rename_i h2;exact .inl ⟨oM,fun k=>h2 (Int.tmod_eq_zero_of_dvd k)⟩
  ·unfold divM at h;split at h
   ·cases h
   ·rename_i h3;split at h
    ·rename_i h4;exact .inr ⟨oM,oM,fun k=>h4 (Int.tmod_eq_zero_of_dvd k)⟩
    ·unfold divM at h;cases h
theorem jf4 {s:Sch} (hE:schE s=0) {i:Nat} (hi:i<s.cols.length) (h0:0<i) {o lev:Nat} (hl:(lev:Int)≤finI s i) (hd:divB s i o lev=false):∃ a b,qV s i a=true∧qV s i b=true∧qt s i o a=qt s i o b∧qt s i lev a≠qt s i lev b:=by
 have hok:=zc hE;have hne:¬ (lev=0∨lev≤o):=fun k=>by unfold divB at hd;rw[Aj k] at hd;cases hd
 unfold divB at hd;rw[Aq hne] at hd;by_cases h2:(qg s i).kind=2
 ·rw[Aj h2] at hd;obtain⟨j,k,hj,hk,hp⟩:=zI2 hd;unfold divP at hp;simp only[Bz,Bq,AY,Bx,Ak] at hp;refine⟨_,_,?_,?_,hp.2,hp.1⟩
  ·rw[yv hok hi h2,qk hj];exact AX _
  ·rw[yv hok hi h2,qk (show k<(zd s i).length by omega)];exact AX _
 ·rw[Aq h2] at hd;dsimp only at hd;have hm:=kQ hE hi h0 h2;have hlh:=hm.lh;have hf:=hm.fin;have hw:=hm.wid lev oM oM;have hH:∀ v,(qg s i).low≤v→v≤(qg s i).high→qV s i v=true:=fun v h1 h2=>(jw hm.kind).2 (.inr ⟨h1,h2⟩);have hO:(qg s i).opt=true→qV s i zt=true:=fun h=>(jw hm.kind).2 (.inl ⟨h,rfl⟩);have hnm:∀ v,(qg s i).low≤v→v≠zt:=fun v h e=>by unfold zt at e;omega
  have hz:∀ v,qV s i v=true→qt s i ((0:Nat):Int) v=0:=fun v hv=>YS hE hi h0 h2 hv;obtain⟨f1,f2,f3⟩:=qL4 (v:=(qg s i).low) hw;have key:∀ f:Int,(qg s i).low<f→f≤(qg s i).high→qU (qg s i) lev ∣ f→qt s i o (f-1)=qt s i o f→∃ a b,qV s i a=true∧qV s i b=true∧qt s i o a=qt s i o b∧qt s i lev a≠qt s i lev b:=fun f g1 g2 g3 g4=>by
   refine⟨f-1,f,hH _ oM oM,hH _ oM oM,g4,fun k=>?_⟩;rcases (qv4 hE hi h0 h2 oM hl (hH _ oM oM) (hH _ oM oM)).1 k with k | k
   ·exact hnm _ oM k.1
   ·exact jf3 oM g3 k.2.2
  by_cases e0:o=0
  ·subst e0;rw[Aj rfl] at hd;cases hopt:(qg s i).opt with
   | true=>
     refine⟨zt,(qg s i).low,hO hopt,hH _ oM oM,by rw[hz _ (hO hopt),hz _ (hH _ oM oM)],fun k=>?_⟩;rcases (qv4 hE hi h0 h2 oM hl (hO hopt) (hH _ oM oM)).1 k with k | k
     ·exact hnm _ oM k.2
     ·exact k.1 rfl
   | false=>
     rw[hopt,Bool.not_false,Fj,Ay] at hd;exact key _ f1 oM f3 (by rw[hz _ (hH _ oM oM),hz _ (hH _ oM oM)])
  ·rw[Aq e0] at hd;have hwo:=hm.wid o oM oM;have hco:∀ f:Int,(qg s i).low<f→f≤(qg s i).high→¬ qU (qg s i) o ∣ f→qt s i o (f-1)=qt s i o f:=fun f g1 g2 g3=>
    (qv4 hE hi h0 h2 oM oM (hH _ oM oM) (hH _ oM oM)).2 (.inr ⟨hnm _ oM,hnm _ oM,qL3 oM g3⟩)
   rcases zM5 hd with⟨g1,g2⟩ | ⟨g1,g2,g3⟩
   ·exact key _ f1 g1 f3 (hco _ f1 g1 g2)
   ·exact key _ oM g2 (Int.dvd_add f3 (Int.dvd_refl _)) (hco _ oM g2 g3)
theorem qV8:∀ {l:List Pk} {p:Pk},p∈l→p.lev≤mxl l p.col
 | q::r,p,h=>by
   rw[mxl];rcases Ck.1 h with e | h
   ·subst e;rw[Aj rfl];omega
   ·have:=qV8 h;split <;> omega
theorem qi4:∀ {l:List Pk} {k:Int},0<mxl l k→∃ p∈l,p.col=k∧p.lev=mxl l k
 | [],k,h=>by rw[mxl] at h;omega
 | p::r,k,h=>by
   rw[mxl] at h ⊢
   by_cases e:p.col=k
   ·rw[Aj e] at h ⊢
    by_cases h2:mxl r k≤p.lev
    ·exact⟨p,sMp,e,oM⟩
    ·obtain⟨x,h3,h4,h5⟩:=qi4 (l:=r) (k:=k) oM;exact⟨x,CQ _ h3,h4,oM⟩
   ·rw[Aq e] at h ⊢
    obtain⟨x,h3,h4,h5⟩:=qi4 (l:=r) (k:=k) h;exact⟨x,CQ _ h3,h4,h5⟩
theorem zI3 {s:Sch} {q:Qst} (hq:QstOk s q) {k:Nat} (hk0:0<k) (hk:k<s.cols.length) (h:0<mxl (Jd s q) k):∃ a b,qV s k a=true∧qV s k b=true∧qt s k (mxl (Jd s q) k-1) a=qt s k (mxl (Jd s q) k-1) b∧jT s q k a b=true:=by
 have hE:=hq.sch;obtain⟨p,hp,e1,e2⟩:=qi4 h;generalize mxl (Jd s q) k=M at h e2 ⊢
 subst e2;unfold Jd at hp;rcases Dz.1 hp with hp | hp
 ·rcases Dz.1 hp with hp | hp
  ·obtain⟨d,hd,rfl⟩:=Cj.1 hp;dsimp only at e1 h ⊢
   obtain⟨_,p1,p2,p3,p4⟩:=zb4 (qp9 hq d hd).1;obtain⟨l1,l2,l3,l4⟩:=qq1 (s:=s) p3 p4;have hno:=l4 (wl s d.col d.lev-1).toNat oM;rw[e1,Ax] at hno;rw[e1] at h l1 p4 ⊢
   obtain⟨a,b,ha,hb,hc,hne⟩:=jf4 hE hk hk0 (lev:=d.lev.toNat) oM hno;rw[Int.toNat_of_nonneg oM] at hc;rw[Int.toNat_of_nonneg p3] at hne;refine⟨a,b,ha,hb,hc,?_⟩;unfold jT;rw[show (q.dims.any fun d=>(d.col==(k:Int))&&(qt s k d.lev a != qt s k d.lev b))=true from DJ.2 ⟨d,hd,by rw[Bq,AY,Bj];exact⟨e1,hne⟩⟩];simp
  ·obtain⟨k',h1,h2,rfl⟩:=zw8.1 hp;dsimp only at e1 h ⊢
   obtain rfl:k'=k:=by omega
   have hf:=Ww hE (k:=k') hk0 hk;obtain⟨l1,l2,l3,l4⟩:=qq1 (s:=s) (c:=k') hf (Int.le_refl _);have hno:=l4 (wl s k' (finI s k')-1).toNat oM;rw[Ax] at hno;obtain⟨a,b,ha,hb,hc,hne⟩:=jf4 hE hk hk0 (lev:=(finI s k').toNat) oM hno;rw[Int.toNat_of_nonneg oM] at hc;rw[Int.toNat_of_nonneg hf,jx5 hE hk hk0 ha,jx5 hE hk hk0 hb] at hne;refine⟨a,b,ha,hb,hc,?_⟩;unfold jT;rw[h2,Bj.2 hne]
   rfl
 ·obtain⟨c,hc,hp⟩:=Ew.1 hp;have hck:=qV7 hq c hc;obtain⟨h3,h4⟩:=KA hck;rw[h3,yr] at hp;obtain⟨k',k1,k2,rfl⟩:=hp;dsimp only at e1 h ⊢
  obtain rfl:k'=k:=by omega
  obtain⟨x',hx',e3,e4⟩:=qi4 k2;obtain⟨x,hx,rfl⟩:=Cj.1 hx';dsimp only at e3 e4;rw[← e4] at h ⊢
  obtain⟨_,_,_,k4⟩:=Wp hck;obtain⟨hnd,hia⟩:=qx2 c k4 x hx;obtain⟨n1,n2,n3⟩:=qo4 hE hnd hia;obtain⟨a,b,ha,hb,hco,hne⟩:=jD2 hE hnd hia (lev:=decN s x-1) oM (n3 _ oM);rw[e3,Ax] at ha hb;rw[e3,show ((decN s x-1:Nat):Int)=(decN s x:Int)-1 by omega] at hco;refine⟨a,b,ha,hb,hco,?_⟩;unfold jT;rw[show ((cnsL q).any fun c=>(atsC c).any fun x=>(x.col==(k':Int))&&(zl s x a != zl s x b))=true from DJ.2 ⟨c,hc,DJ.2 ⟨x,hx,by rw[Bq,AY,Bj];exact⟨e3,hne⟩⟩⟩];simp
theorem YT (x y:Qst):Sp 123 [qstT x,.ip (qstT y).cells] [] (vB (eqB x.name y.name)) []:=by
 refine sIr WU fun e _ hst=>?_;unfold kg;refine sW ?_;rw[show (x.name.toList==y.name.toList)=eqB x.name y.name from rfl];exact .oA [] []
theorem Je (p:Qst→Bool) (f:FuncId) (caps:List T) (hcap:imL caps=true) (l:List Qst) (hf:∀ y∈l,Sp f (qstT y::caps) [] (vB (p y)) []) (hl:l.length<4611686018427387904) :
 Sp 187 [.sl 17 (l.map qstT),.clo f caps] [] (vI (idxI p l)) []:=by
 refine sIr Zd fun e _ hst=>?_;unfold zY;refine sW ?_;refine qy mixm (α:=Nat) [8] (fun i=>i≤l.length∧((l.take i).any p=false)) (fun i=>[(8,vI i)]) (fun i=>[]) (fun i=>l.length-i) 0 ⟨oM,?_⟩ ?_ fun i hi=>?_
 ·simp
 ·exact .oA [] []
 simp only[tZ,↓un_u,simprocAttr,AZ,Ay];refine⟨fun h=>?_,fun h=>?_⟩
 ·have hi2:i<l.length:=by omega
  have hwi:=qh (i:=i) oM;simp only[tZ,↓un_u,simprocAttr,Ax,qd hi2,hwi,Yp];refine⟨oM,?_⟩;refine C1.im (hf l[i] (AX hi2)) (Zu rfl hcap) rfl ?_;refine sW ?_;refine⟨fun h3=>?_,fun h3=>⟨i+1,⟨oM,zR hi2 hi.2 h3⟩,oM,?_⟩⟩
  ·rw[idxI,Aj (WC hi2 h3),wJ hi2 hi.2 h3];exact .imR rfl rfl
  ·exact .oA [] []
 ·have h2:i=l.length:=by omega
  have h3:=hi.2;rw[h2,Bw] at h3;rw[idxI,Aq (by rw[h3];simp)];exact .imR rfl rfl
theorem Qv (p:Qst→Bool) (f:FuncId) (caps:List T) (hcap:imL caps=true) (l:List Qst) (hf:∀ y∈l,Sp f (qstT y::caps) [] (vB (p y)) []) (hl:l.length<4611686018427387904) :
 Sp 122 [.sl 17 (l.map qstT),.clo f caps] [] (vB (l.any p)) []:=by
 refine sIr yN fun e _ hst=>?_;unfold zJ;refine sW ?_;refine C1.im (Je p f caps hcap l hf hl) (qk0 rfl hcap) rfl ?_;refine sW ?_;rw[show decide (idxI p l≥0)=l.any p from qe8 p l];exact .imR rfl rfl
theorem Jf (s:Sch) (hs:yZ s) (d:Dcl):Sp 59 [schT s,dclT d] [] (vI (dclE s d)) []:=by
 refine sIr qb3 fun e _ hst=>?_;unfold kW;refine sW ?_;refine C1.im (jX s hs.2.1 hs.1) rF rF ?_;simp only[tZ,↓un_u,simprocAttr,Bj,Aw];refine⟨fun h=>?_,fun h=>?_⟩
 ·rw[dclE,Aj h];exact .oA [] []
 rw[dclE,Aq (by rw[h];simp)];refine C1.im (wK d.proj) rF rF ?_;refine sW ?_;refine C2.im (fun _=>wK d.src) (fun _=>rfl) rF ?_;simp only[tZ,↓un_u,simprocAttr,tD,Bx,Bz];refine⟨fun h2=>?_,fun h2=>?_⟩
 ·rw[Aj h2];exact .oA [] []
 rw[Aq (by rw[h2.1,h2.2];simp)];refine C1.im (kO s hs d.coh) rF rF ?_;simp only[tZ,↓un_u,simprocAttr,Bj,Aw];refine⟨fun h3=>?_,fun h3=>?_⟩
 ·rw[Aj h3];exact .oA [] []
 rw[Aq (by rw[h3];simp)];simp only[tZ,↓un_u,simprocAttr,tD,gt_iff_lt,AY,Ak];refine⟨fun h4=>?_,fun h4=>?_⟩
 ·have:smpE d.smp≠0:=by rw[smpE,Aj oM];simp
  rw[Aj this];exact .oA [] []
 have h5:smpE d.smp=0:=by rw[smpE,Aq oM]
 rw[Aq (by rw[h5];simp)];refine⟨fun h6=>?_,fun h6=>?_⟩
 ·rw[Aj oM];exact .oA [] []
 rw[Aq oM];generalize hE:jb (qsE s d.qs) d.qs.length=E;refine qy mixm (α:=Nat) [80] (fun i=>i≤d.qs.length∧(jb (qsE s d.qs) i=0)) (fun i=>[(80,vI i)]) (fun i=>[aR 4096 2 [schT s],aR 4100 12 [dclT d]]) (fun i=>d.qs.length-i) 0 ⟨oM,?_⟩ ?_ fun i hi=>?_
 ·rfl
 ·exact .oA (U2 4096 4100) []
 simp only[tZ,↓un_u,simprocAttr,AZ,Ay];refine⟨fun h=>?_,fun h=>?_⟩
 ·have hi2:i<d.qs.length:=by omega
  have hpi:qAt d.qs i=d.qs[i]:=by rw[qAt,qk hi2]
  have hstep:=Zp hi.2 hi2;have hnext:=kK hi.2;have hA:qsE s d.qs i=if qstE s d.qs[i]≠0 then qstE s d.qs[i] else if ((d.qs.take i).any fun x=>eqB x.name d.qs[i].name)=true then 10 else 0:=by rw[qsE,hpi]
  rw[hE] at hstep;have hQ:=yE s hs d.qs[i];have hCF:=Qv (fun x=>eqB x.name d.qs[i].name) 123 [.ip (qstT d.qs[i]).cells] rfl (d.qs.take i) (fun x _=>YT x d.qs[i]) (by rw[Cz];omega);have hi2:i<d.qs.length:=by omega
  have hwi:=qh (i:=i) oM;simp only[tZ,↓un_u,simprocAttr,Ax,qd hi2,hwi];refine⟨oM,?_⟩;refine C1.im hQ rF rF ?_;simp only[tZ,↓un_u,simprocAttr,Bj,Aw];refine⟨fun h7=>?_,fun h7=>?_⟩
  ·rw[Aj h7] at hA;rw[hstep (by rw[hA];exact h7),hA];exact .oA [] []
  rw[Aq (by rw[h7];simp)] at hA;refine⟨oM,?_⟩;rw[Yq,qG2];refine C1.lend [69644] hCF ?_ rF rF ?_
  ·all_goals (try simp only[tL,simprocAttr,By,List.map_cons,List.map_nil,BW,Cy])
   all_goals (try (repeat' (first | exact qY | (apply zf;intro _;exact⟨rfl,rfl⟩) | (apply qj;intro _;exact⟨rfl,rfl⟩) | with_reducible apply qS | with_reducible refine qz ⟨rfl,rfl⟩ ?_ | exact qK | with_reducible apply qR | with_reducible refine qT ⟨rfl,rfl,?_⟩ ?_ | with_reducible apply Az | exact qO rfl | exact qO (by assumption) | (refine⟨⟨?_,rfl,?_,rfl,?_⟩,trivial⟩ <;> first | (simp;done) | (apply qj;intro _;exact⟨rfl,rfl⟩)) | trivial | rfl | (rw[qh oM]) | omega)))
   simp only[ltP];exact⟨rfl,by decide,rfl,qz ⟨rfl,rfl⟩ qK⟩
  simp only[tZ,↓un_u,simprocAttr,hwi];refine⟨fun h8=>?_,fun h8=>?_⟩
  ·rw[Aj h8] at hA;rw[hstep (by rw[hA];simp),hA];exact .oA [] []
  ·rw[Aq (by rw[h8];simp)] at hA;refine⟨i+1,⟨oM,by rw[hnext,hA]⟩,oM,?_⟩;exact .oA (U2 4096 4100) []
 ·have hi2:i=d.qs.length:=by omega
  subst hi2;rw[← hE,hi.2];exact .oA [] []
def zw9 (s:Sch) (qs:List Qst):List Pk:=qs.flatMap (kM s)
theorem qC7 {s:Sch} (q:Qst):∀ p∈kM s q,1≤p.col∧p.col<s.cols.length:=fun p hp=>by
 by_cases h:qstE s q=0
 ·have hq:=ZU h;rw[KC h] at hp;obtain⟨k,k1,k2,rfl⟩:=yr.1 hp;refine⟨?_,by dsimp only;omega⟩;dsimp only;rcases DQ k with e | e
  ·subst e;rw[Jr fun q' hq'=>by have:=zd1 hq q' hq';omega] at k2;omega
  ·omega
 ·rw[kM,Aj h] at hp;simp at hp
theorem Qg {s:Sch} {d:Dcl} (h:dclE s d=0):zO s d=canF (fun k=>mxl (zw9 s d.qs) k) s.cols.length:=by
 rw[zO,Aq (by rw[h];simp)];have key:∀ qs:List Qst,∀ l,qs.foldl (fun l q=>JY l (kM s q)) l=JY l (zw9 s qs):=by
  intro qs
  induction qs with
  | nil=>intro l;rfl
  | cons q r ih=>
    intro l;rw[Dw,ih,← qp7];rfl
 rw[key];refine zq6 fun p hp=>?_;obtain⟨q,hq,hp⟩:=Ew.1 hp;have:=qC7 q p hp;omega
theorem YU (s:Sch) (hs:yZ s) (d:Dcl) (h:dclE s d=0):Sp 60 [schT s,dclT d] [] (vPs (zO s d)) []:=by
 obtain⟨hE,_,_,_,_,hq1,hq2,_⟩:=qh7 h;have hnc:=(zc hE).nc;rw[Qg h,zw9,List.flatMap_def];have hbl:∀ l∈d.qs.map (kM s),l.length≤1000:=fun l hl=>by
  obtain⟨q,_,rfl⟩:=Cj.1 hl;have:=qK4 s q;omega
 have hbb:∀ l∈d.qs.map (kM s),∀ p∈l,0≤p.col∧p.col<s.cols.length:=fun l hl p hp=>by
  obtain⟨q,_,rfl⟩:=Cj.1 hl;have:=qC7 q p hp;omega
 have hM:=KB (d.qs.map (kM s)) s.cols.length oM oM (by rw[BY];omega) hbl hbb;refine sIr qy3 fun e _ hst=>?_;unfold QA;refine sW ?_;refine qy mixm (α:=Nat) [5,11] (fun i=>i≤d.qs.length) (fun i=>[(5,.asl 1 i),(11,vI i)]) (fun i=>[aR 4096 2 [schT s],aR 1 1 ((d.qs.take i).map fun q=>vPs (kM s q))]) (fun i=>d.qs.length-i) 0 oM ?_ fun i hi=>?_
 ·exact .oA [uI 4096,(1,none)] []
 have htl:(d.qs.take i).length=i:=by rw[Cz];omega
 refine sD ?_;refine⟨fun h3=>?_,fun h3=>?_⟩
 ·have hi2:i<d.qs.length:=by omega
  have hwi:=qh (i:=i) oM;have hN:=KD s hs d.qs[i];simp only[tZ,↓un_u,simprocAttr,Ax,qd hi2];refine⟨oM,?_⟩;refine C1.im hN rF rF ?_;simp only[tZ,↓un_u,simprocAttr,hwi];refine⟨oM,i+1,oM,oM,?_⟩;rw[qZ hi2,By];exact .oA (U2 4096 1) []
 ·have hil:i=d.qs.length:=by omega
  subst hil;rw[Bw];rw[Gx] at hM;refine C1.shut [1] hM ?_ rF rfl ?_
  ·all_goals (try exact clA)
  refine sW ?_;exact .oA [] []
theorem Jg (s:Sch) (hs:yZ s) (d:Dcl):Sp 14 [schT s,dclT d] [] (.tup [vPs (zO s d),vI (dclE s d)]) []:=by
 refine sIr qy1 fun e _ hst=>?_;unfold Qz;refine sW ?_;refine C1.im (Jf s hs d) rF rF ?_;simp only[tZ,↓un_u,simprocAttr,Bj,Aw];refine⟨fun h=>?_,fun h=>?_⟩
 ·rw[zO,Aj h];exact .oA [] []
 refine C1.im (YU s hs d h) rF rF ?_;rw[h];refine sW ?_;exact .oA [] []
theorem KE (a b:List Pk) (ha:a.length<4611686018427387904) (hb:b.length<4611686018427387904):Sp 19 [vPs a,vPs b] [] (vB (covB a b)) []:=by
 refine sIr qk5 fun e _ hst=>?_;unfold wX;refine sW ?_;refine C1.im (qp5 b a hb ha) rF rF ?_;refine sW ?_;exact .oA [] []
theorem zd2 {a b:List Pk}:covB a b=true↔∀ x∈a,∃ y∈b,y.col=x.col∧x.lev≤y.lev:=by
 unfold covB;simp only[Bk,DJ,Bq,AY,AZ]
theorem jf5 {s:Sch} {d:Dcl} (h:dclE s d=0) (l:List Pk) (hl:l.Pairwise fun a b=>a.col<b.col):covB (zO s d) l=d.qs.all fun q=>covB (kM s q) l:=by
 rw[Bool.eq_iff_iff,zd2,Bk,Qg h];constructor
 ·intro H q hq;rw[zd2];intro x hx;have hb:=qC7 q x hx;have hm:x∈zw9 s d.qs:=Ew.2 ⟨q,hq,hx⟩;have hge:=qV8 hm;obtain⟨k,hk⟩:=AJ (show 0≤x.col by omega);rw[hk] at hge;have hx0:0<x.lev:=by
   by_cases hq0:qstE s q=0
   ·rw[KC hq0] at hx;obtain⟨_,_,k2,rfl⟩:=yr.1 hx;exact k2
   ·rw[kM,Aj hq0] at hx;simp at hx
  obtain⟨y,hy,e1,e2⟩:=H ⟨k,mxl (zw9 s d.qs) k⟩ (yr.2 ⟨k,oM,oM,rfl⟩);exact⟨y,hy,by rw[e1,hk],by dsimp only at e2;omega⟩
 ·intro H x hx;obtain⟨k,k1,k2,rfl⟩:=yr.1 hx;obtain⟨p,hp,e1,e2⟩:=qi4 k2;obtain⟨q,hq,hp2⟩:=Ew.1 hp;obtain⟨y,hy,e3,e4⟩:=zd2.1 (H q hq) p hp2;exact⟨y,hy,by rw[e3,e1],by dsimp only;omega⟩
theorem jp7 {s:Sch} {d:Dcl} (h:dclE s d=0) {l:List Pk} (hl:qn9 s l=0):zo5 s d l=if covB (zO s d) l=true then 0 else 23:=by
 obtain⟨_,_,hasc⟩:=jd4 hl;obtain⟨_,_,_,_,_,_,_,hqs⟩:=qh7 h;rw[zo5,Aq (by rw[h];simp),Aq (by rw[hl];simp),jf5 h l hasc];have hs:∀ i,i<d.qs.length→sufB s (qAt d.qs i) l=covB (kM s (qAt d.qs i)) l:=fun i hi=>by
  rw[sufB,hqs i hi,hl];simp
 by_cases hall:(d.qs.all fun q=>covB (kM s q) l)=true
 ·rw[Aj hall];refine YM fun i hi=>?_;have:=Bk.1 hall (qAt d.qs i) (by rw[qAt,qk hi];exact AX _);rw[hs i hi,this];rfl
 ·rw[Aq hall];refine AQ fun hne=>hall ?_;rw[Bk];intro q hq;obtain⟨i,hi,rfl⟩:=CX hq;have key:∀ n,n≤d.qs.length→(jb (fun i=>if sufB s (qAt d.qs i) l=true then 0 else 23) n=0∨jb (fun i=>if sufB s (qAt d.qs i) l=true then 0 else 23) n=23):=by
   intro n
   induction n with
   | zero=>intro _;exact .inl rfl
   | succ n ih=>
     intro hn;rw[jb];rcases ih oM with e | e
     ·rw[Aq (by rw[e];simp)];split <;> simp
     ·rw[Aj (by rw[e];simp)];exact .inr e
  have h0:=(key _ (BZ _)).resolve_right hne;have:=Kw h0 i hi;rw[hs i hi,qAt,qk hi] at this;by_cases e:covB (kM s d.qs[i]) l=true
  ·exact e
  ·rw[Aq e] at this;cases this
theorem qB0 (s:Sch) (hs:yZ s) (d:Dcl) (l:List Pk) (hl:l.length<4611686018427387904):Sp 17 [schT s,dclT d,vPs l] [] (vI (zo5 s d l)) []:=by
 have hpl:=qK5 s d;refine sIr qr8 fun e _ hst=>?_;unfold yJ;refine sW ?_;refine C1.im (Jf s hs d) rF rF ?_;simp only[tZ,↓un_u,simprocAttr,Bj,Aw];refine⟨fun h=>?_,fun h=>?_⟩
 ·rw[zo5,Aj h];exact .oA [] []
 refine C1.im (qR1 s hs l hl) rF rF ?_;simp only[tZ,↓un_u,simprocAttr,Bj,Aw];refine⟨fun h2=>?_,fun h2=>?_⟩
 ·rw[zo5,Aq (by rw[h];simp),Aj h2];exact .oA [] []
 rw[jp7 h h2];refine C1.im (YU s hs d h) rF rF ?_;refine sW ?_;refine C1.im (KE (zO s d) l oM hl) rF rF ?_;simp only[tZ,↓un_u,simprocAttr,Bx,Bz];refine⟨fun h3=>?_,fun h3=>?_⟩
 ·rw[Aq (by rw[h3];simp)];exact .oA [] []
 ·rw[Aj h3];exact .oA [] []
theorem qq3 {p:Nat→Prop}:∀ n,p n→∃ m,p m∧m≤n∧∀ k,k<m→¬ p k:=by
 intro n
 induction n using Nat.strongRecOn with
 | _ n ih=>
   intro h;by_cases e:∃ k,k<n∧p k
   ·obtain⟨k,k1,k2⟩:=e;obtain⟨m,m1,m2,m3⟩:=ih k k1 k2;exact⟨m,m1,oM,m3⟩
   ·exact⟨n,h,BZ _,fun k hk hp=>e ⟨k,hk,hp⟩⟩
theorem zx0 {α:Type} [DecidableEq α] (f:Int→α):∀ (n:Nat) (a:Int),f a≠f (a+n)→∃ x,a<x∧x≤a+n∧f (x-1)≠f x
 | 0,a,h=>absurd sMp h
 | n+1,a,h=>by
   by_cases e:f a=f (a+n)
   ·refine⟨a+(n+1:Nat),oM,oM,?_⟩;rw[show a+((n+1:Nat):Int)-1=a+n by omega,← e];exact h
   ·obtain⟨x,x1,x2,x3⟩:=zx0 f n a e;exact⟨x,x1,oM,x3⟩
theorem zq8 {s:Sch} {q:Qst} {k a b:Int} (hab:a<b) (h:jT s q k a b=true):∃ x,a<x∧x≤b∧jT s q k (x-1) x=true:=by
 have hb:a+((b-a).toNat:Int)=b:=by omega
 unfold jT at h;rw[DZ,DZ] at h;rcases h with (h | h) | h
 ·rw[Bq] at h;refine⟨b,hab,Int.le_refl _,?_⟩;unfold jT;rw[h.1,Bj.2 (show b-1≠b by omega)]
  rfl
 ·obtain⟨d,hd,h2⟩:=DJ.1 h;rw[Bq,Bj] at h2;obtain⟨x,x1,x2,x3⟩:=zx0 (fun v=>qt s k d.lev v) (b-a).toNat a (by rw[hb];exact h2.2);refine⟨x,x1,oM,?_⟩;unfold jT;rw[show (q.dims.any fun d=>(d.col==k)&&(qt s k d.lev (x-1) != qt s k d.lev x))=true from DJ.2 ⟨d,hd,by rw[Bq,Bj];exact⟨h2.1,x3⟩⟩];simp
 ·obtain⟨c,hc,h2⟩:=DJ.1 h;obtain⟨y,hy,h3⟩:=DJ.1 h2;rw[Bq,Bj] at h3;obtain⟨x,x1,x2,x3⟩:=zx0 (fun v=>zl s y v) (b-a).toNat a (by rw[hb];exact h3.2);refine⟨x,x1,oM,?_⟩;unfold jT;rw[show ((cnsL q).any fun c=>(atsC c).any fun y=>(y.col==k)&&(zl s y (x-1) != zl s y x))=true from DJ.2 ⟨c,hc,DJ.2 ⟨y,hy,by rw[Bq,Bj];exact⟨h3.1,x3⟩⟩⟩];simp
theorem jf6 {s:Sch} {q:Qst} {k a b:Int}:jT s q k a b=jT s q k b a:=by
 have hb:∀ x y:Int,(x != y)=(y != x):=fun x y=>by rw[Bool.eq_iff_iff,Bj,Bj];exact⟨fun h e=>h e.symm,fun h e=>h e.symm⟩
 unfold jT;simp only[hb a b,hb (qt s k _ a) (qt s k _ b),hb (zl s _ a) (zl s _ b)]
theorem zq9 {s:Sch} {q:Qst} {k a:Int}:jT s q k a a=false:=by
 unfold jT;simp
def Qb (s:Sch) (q:Qst) (k:Nat) (lev:Int) (x y:Int):Prop:=qt s k lev x=qt s k lev y∧jT s q k x y=true
structure FirstV (s:Sch) (q:Qst) (k:Nat) (lev:Int) (x y:Int):Prop where
 hx:qV s k x=true
 hy:qV s k y=true
 lt:x<y
 qb:Qb s q k lev x y
 least:∀ x' y',qV s k x'=true→qV s k y'=true→x'<y'→Qb s q k lev x' y'→x<x'∨(x=x'∧y≤y')
structure LeastX (s:Sch) (q:Qst) (k:Nat) (lev:Int) (x:Int):Prop where
 lo:(qg s k).low<x
 hi:x≤(qg s k).high
 qb:Qb s q k lev (x-1) x
 least:∀ y,(qg s k).low<y→y<x→¬ Qb s q k lev (y-1) y
def qB1 (s:Sch) (q:Qst) (k:Nat) (lev a b:Int):Prop:=
 if (qg s k).kind=2 then FirstV s q k lev a b
 else if lev=0∧(qg s k).opt=true then a=zt∧b=(qg s k).low
 else LeastX s q k lev b∧a=(if lev=0 then (qg s k).low else max (qg s k).low (qt s k lev b))
theorem zd3 {s:Sch} (hE:schE s=0) {k:Nat} (hk:k<s.cols.length) (h0:0<k) (h2:(qg s k).kind≠2) {lev:Nat} (hl:(lev:Int)≤finI s k) {a b x:Int} (ha:(qg s k).low≤a) (hb:b≤(qg s k).high) (hax:a≤x) (hxb:x≤b) (h:qt s k lev a=qt s k lev b):qt s k lev x=qt s k lev a:=by
 have hm:=kQ hE hk h0 h2;have hlh:=hm.lh;have hH:∀ v,(qg s k).low≤v→v≤(qg s k).high→qV s k v=true:=fun v h1 h2=>(jw hm.kind).2 (.inr ⟨h1,h2⟩);have hnm:∀ v,(qg s k).low≤v→v≠zt:=fun v h e=>by unfold zt at e;omega
 rw[Kd hm hl (hH a ha oM),Kd hm hl (hH b oM hb)] at h;rw[Kd hm hl (hH a ha oM),Kd hm hl (hH x oM oM)];by_cases e0:lev=0
 ·rw[Aj e0,Aj e0]
 ·rw[Aq e0,Aq e0,Aq (hnm a ha),Aq (hnm b oM)] at h;rw[Aq e0,Aq e0,Aq (hnm a ha),Aq (hnm x oM)];have hf:=hm.fin;have hw:=hm.wid lev oM oM;have h1:=Int.eq_of_mul_eq_mul_right (show qU (qg s k) lev≠0 by omega) h;rw[qC6 oM,qC6 oM] at h1 ⊢
  have a1:a / qU (qg s k) lev≤x / qU (qg s k) lev:=Int.ediv_le_ediv oM hax;have a2:x / qU (qg s k) lev≤b / qU (qg s k) lev:=Int.ediv_le_ediv oM hxb;have:x / qU (qg s k) lev=a / qU (qg s k) lev:=by omega
  rw[this]
theorem jD3 {s:Sch} {q:Qst} (hq:QstOk s q) {k:Nat} (hk0:0<k) (hk:k<s.cols.length) (h:0<mxl (Jd s q) k):∃ a b,qB1 s q k (mxl (Jd s q) k-1) a b:=by
 have hE:=hq.sch;have hok:=zc hE;obtain⟨a,b,ha,hb,hc,ht⟩:=zI3 hq hk0 hk h;have hle:mxl (Jd s q) k≤finI s k:=qL2 (Ww hE hk0 hk) fun p hp e=>by rw[← e];exact qq2 hq p hp
 obtain⟨L,hL⟩:=AJ (show 0≤mxl (Jd s q) k-1 by omega);rw[hL] at hc ⊢
 have hLf:(L:Int)≤finI s k:=by omega
 obtain⟨a,b,ha,hb,hab,hc,ht⟩:∃ a b,qV s k a=true∧qV s k b=true∧a<b∧qt s k L a=qt s k L b∧jT s q k a b=true:=by
  rcases Int.lt_trichotomy a b with h1 | h1 | h1
  ·exact⟨a,b,ha,hb,h1,hc,ht⟩
  ·rw[h1,zq9] at ht;cases ht
  ·exact⟨b,a,hb,ha,h1,hc.symm,by rw[jf6];exact ht⟩
 unfold qB1;by_cases h2:(qg s k).kind=2
 ·simp only[Aj h2];have hn:∀ v,qV s k v=true→0≤v:=fun v hv=>by
   obtain⟨c,rfl,_⟩:=(Qe hok hk h2).1 ((yv hok hk h2).1 hv);omega
  obtain⟨x,⟨hx1,y0,hy1,hy2,hy3⟩,_,hx3⟩:=qq3 (p:=fun n=>qV s k n=true∧∃ y,qV s k y=true∧(n:Int)<y∧Qb s q k L n y) a.toNat (by
   have:=hn a ha;rw[Int.toNat_of_nonneg this];exact⟨ha,b,hb,hab,hc,ht⟩)
  obtain⟨y,⟨hz1,hz2,hz3⟩,_,hz5⟩:=qq3 (p:=fun n=>qV s k n=true∧(x:Int)<n∧Qb s q k L x n) y0.toNat (by
   rw[Int.toNat_of_nonneg (hn y0 hy1)];exact⟨hy1,hy2,hy3⟩)
  refine⟨x,y,hx1,hz1,hz2,hz3,fun x' y' k1 k2 k3 k4=>?_⟩;have p1:=hn x' k1;have p2:=hn y' k2;obtain⟨X,rfl⟩:=AJ p1;obtain⟨Y,rfl⟩:=AJ p2;rcases Nat.lt_trichotomy x X with g | g | g
  ·left;omega
  ·subst g;right
   refine⟨rfl,?_⟩;refine AQ fun hlt=>hz5 Y oM ⟨k2,k3,k4⟩
  ·exact absurd ⟨k1,Y,k2,k3,k4⟩ (hx3 X g)
 ·simp only[Aq h2];by_cases hz:(L:Int)=0∧(qg s k).opt=true
  ·simp only[Aj hz];exact⟨zt,(qg s k).low,rfl,rfl⟩
  ·simp only[Aq hz];have hm:=kQ hE hk hk0 h2;have hlh:=hm.lh;have hnn:(qg s k).low≤a∧b≤(qg s k).high:=by
    have va:=(jw hm.kind).1 ha;have vb:=(jw hm.kind).1 hb;by_cases e0:L=0
    ·have ho:(qg s k).opt=false:=by
      cases e:(qg s k).opt with
      | false=>rfl
      | true=>exact absurd ⟨oM,e⟩ hz
     rw[ho] at va vb;exact⟨(va.resolve_left fun k=>by cases k.1).1,(vb.resolve_left fun k=>by cases k.1).2⟩
    ·rcases (qv4 hE hk hk0 h2 oM hLf ha hb).1 hc with g | g
     ·rw[g.1,g.2] at hab;omega
     ·exact⟨(va.resolve_left fun k=>g.1 k.2).1,(vb.resolve_left fun k=>g.2.1 k.2).2⟩
   obtain⟨x,x1,x2,x3⟩:=zq8 hab ht;have hcx:qt s k L (x-1)=qt s k L x:=by
    rw[zd3 hE hk hk0 h2 hLf hnn.1 hnn.2 (show a≤x-1 by omega) oM hc,zd3 hE hk hk0 h2 hLf hnn.1 hnn.2 (show a≤x by omega) oM hc]
   obtain⟨m,⟨m1,m2⟩,m3,m4⟩:=qq3 (p:=fun n=>(qg s k).low+1+(n:Int)≤(qg s k).high∧Qb s q k L ((qg s k).low+1+n-1) ((qg s k).low+1+n)) (x-(qg s k).low-1).toNat (by
    rw[show (qg s k).low+1+((x-(qg s k).low-1).toNat:Int)=x by omega];exact⟨oM,hcx,x3⟩)
   refine⟨_,(qg s k).low+1+m,⟨oM,m1,m2,fun y y1 y2 hqy=>?_⟩,rfl⟩;refine m4 (y-(qg s k).low-1).toNat oM ?_;rw[show (qg s k).low+1+((y-(qg s k).low-1).toNat:Int)=y by omega];exact⟨oM,hqy⟩
def WitR (s:Sch) (d:Dcl) (col:Int) (w:Int×Int×Int×Bool):Prop:=
 (¬ (dclE s d=0∧0<mxl (zO s d) col)∧w=(0,0,0,false))∨
 (dclE s d=0∧∃ (k n:Nat) (a b:Int),col=k∧0<k∧k<s.cols.length∧0<mxl (zO s d) k∧n<d.qs.length∧mxl (kM s (qAt d.qs n)) k=mxl (zO s d) k∧(∀ m,m<n→mxl (kM s (qAt d.qs m)) k≠mxl (zO s d) k)∧qB1 s (qAt d.qs n) k (mxl (zO s d) k-1) a b∧w=(a,b,(n:Int),true))
theorem YV {s:Sch} {q:Qst} (h:qstE s q=0) {k:Nat} (hk:k<s.cols.length):mxl (kM s q) k=mxl (Jd s q) k:=by
 rw[KC h,qC4 fun k=>Jc _ _,Aj hk]
theorem KG {s:Sch} {d:Dcl} (h:dclE s d=0) {k:Nat} (hk:k<s.cols.length):mxl (zO s d) k=mxl (zw9 s d.qs) k:=by
 rw[Qg h,qC4 fun k=>Jc _ _,Aj hk]
theorem jf7 {l:List Pk} {k:Int} (h:0<mxl l k):∃ p∈l,p.col=k:=by
 obtain⟨p,hp,e,_⟩:=qi4 h;exact⟨p,hp,e⟩
theorem jp8 {s:Sch} {d:Dcl} (h:dclE s d=0) {col:Int} (hm:0<mxl (zO s d) col):1≤col∧col<s.cols.length:=by
 obtain⟨p,hp,e⟩:=jf7 hm;rw[Qg h] at hp;obtain⟨k,k1,k2,rfl⟩:=yr.1 hp;obtain⟨x,hx,e2⟩:=jf7 k2;obtain⟨q,hq,hx2⟩:=Ew.1 hx;have:=qC7 q x hx2;dsimp only at e;omega
theorem jD4 {s:Sch} {d:Dcl} (h:dclE s d=0) {k:Nat} (hk:k<s.cols.length) {i:Nat} (hi:i<d.qs.length):mxl (kM s d.qs[i]) k≤mxl (zO s d) k:=by
 rw[KG h hk];refine qL2 (Jc _ _) fun p hp e=>?_;have:p∈zw9 s d.qs:=Ew.2 ⟨_,AX hi,hp⟩;have:=qV8 this;rw[e] at this;exact this
theorem jJ0 (s:Sch) (d:Dcl) (col:Int):∃ w,WitR s d col w:=by
 by_cases h:dclE s d=0∧0<mxl (zO s d) col
 ·obtain⟨hd,hm⟩:=h;obtain⟨c1,c2⟩:=jp8 hd hm;obtain⟨k,rfl⟩:=AJ (show 0≤col by omega);have hk:k<s.cols.length:=by omega
  obtain⟨_,_,_,_,_,_,_,hqs⟩:=qh7 hd;have hex:∃ n,n<d.qs.length∧mxl (kM s (qAt d.qs n)) k=mxl (zO s d) k:=by
   have hm2:=hm;rw[KG hd hk] at hm2;obtain⟨p,hp,e1,e2⟩:=qi4 hm2;obtain⟨q,hq,hp2⟩:=Ew.1 hp;obtain⟨n,hn,rfl⟩:=CX hq;refine⟨n,hn,?_⟩;have h1:=jD4 hd hk hn;have h2:=qV8 hp2;rw[e1] at h2;have h3:=KG hd hk;rw[qAt,qk hn];omega
  obtain⟨n0,hn0⟩:=hex;obtain⟨n,⟨n1,n2⟩,_,n4⟩:=qq3 (p:=fun n=>n<d.qs.length∧mxl (kM s (qAt d.qs n)) k=mxl (zO s d) k) n0 hn0;have hqe:=hqs n n1;have h3:=YV hqe hk;obtain⟨a,b,hab⟩:=jD3 (ZU hqe) oM hk oM;rw[← h3,n2] at hab;exact⟨(a,b,(n:Int),true),.inr ⟨hd,k,n,a,b,rfl,oM,hk,hm,n1,n2,fun m hm e=>n4 m hm ⟨oM,e⟩,hab,rfl⟩⟩
 ·exact⟨_,.inl ⟨h,rfl⟩⟩
def qe2 (L:List Int) (f g:Int→Int) (v:Int):Int×Bool:=match L.filter (fun x=>f x==v) with
 | []=>(0,false)
 | x::r=>if (r.all fun y=>g y==g x)=true then (g x,true) else (0,false)
theorem zx1 {L:List Int} {f:Int→Int} {v:Int} {i:Nat} (h:i<L.length):(L.take (i+1)).filter (fun x=>f x==v)=(L.take i).filter (fun x=>f x==v)++if (f L[i]==v)=true then [L[i]] else []:=by
 rw[qZ h,Gz]
 congr 1
 split
 ·rename_i h2;rw[List.filter_cons_of_pos (p:=fun x=>f x==v) h2];rfl
 ·rename_i h2;rw[List.filter_cons_of_neg (p:=fun x=>f x==v) h2];rfl
def TcI (g:Int→Int) (M:List Int) (o:Int) (b:Bool):Prop:=(M=[]∧o=0∧b=false)∨∃ x r,M=x::r∧(∀ y∈r,g y=g x)∧o=g x∧b=true
theorem TcI.fin {L:List Int} {f g:Int→Int} {v o:Int} {b:Bool} (h:TcI g (L.filter fun x=>f x==v) o b):qe2 L f g v=(o,b):=by
 unfold qe2;rcases h with⟨h1,h2,h3⟩ | ⟨x,r,h1,h2,h3,h4⟩
 ·rw[h1,h2,h3]
 ·rw[h1,h3,h4];dsimp only;rw[Aj (Bk.2 fun y hy=>AY.2 (h2 y hy))]
theorem zM6 {L:List Int} {f g:Int→Int} {v:Int} {i:Nat} (h:i<L.length) {o:Int} (hI:TcI g ((L.take i).filter fun x=>f x==v) o true) (h1:(f L[i]==v)=true) (h2:g L[i]≠o):qe2 L f g v=(0,false):=by
 rcases hI with⟨_,_,h3⟩ | ⟨x,r,h3,h4,h5,_⟩
 ·cases h3
 ·have hL:L.filter (fun x=>f x==v)=x::(r++L[i]::(L.drop (i+1)).filter fun x=>f x==v):=by
   conv=>lhs;rw[← List.take_append_drop i L,Gz,h3,zb5 h,List.filter_cons_of_pos (p:=fun x=>f x==v) h1]
   simp
  unfold qe2;rw[hL];dsimp only;rw[Aq];intro k;have:=Bk.1 k L[i] sMp;rw[AY,← h5] at this;exact h2 this
theorem qv5 (l:CodL) (hl:lstE l=0) (a v b:Int):Sp 196 [cdlT l,vI a,vI v,vI b] [] (.tup [vI (qe2 (atL l (zA l-1)) (fun x=>upC l x a) (fun x=>upC l x b) v).1,vB (qe2 (atL l (zA l-1)) (fun x=>upC l x a) (fun x=>upC l x b) v).2]) []:=by
 have hlv:=qu1 (l:=l);have hw:IntKind.i64.wrap (zA l-1)=zA l-1:=AK _ oM;have hLl:(atL l (zA l-1)).length≤60:=by
  obtain⟨_,d5,d6⟩:=zq hl;unfold atL;rw[Aq (by rw[hl];simp),BY];refine FX (Fq _ _) ?_;rw[List.length_range];exact d6
 refine sIr qm8 fun e _ hst=>?_;unfold yi;refine sW ?_;refine C1.im (Kc l) rF rF ?_;simp only[tZ,↓un_u,simprocAttr,hw];refine C1.im (qu9 l (zA l-1)) rF rF ?_;generalize atL l (zA l-1)=L at hLl ⊢
 refine sW ?_;refine⟨kR,?_⟩;refine qy mixm (α:=Nat×Int×Bool) [10,11,21] (fun y=>y.1≤L.length∧TcI (fun x=>upC l x b) ((L.take y.1).filter fun x=>upC l x a==v) y.2.1 y.2.2) (fun y=>[(10,vI y.2.1),(11,vB y.2.2),(21,vI y.1)]) (fun y=>[aR 4096 2 [cdlT l]]) (fun y=>L.length-y.1) (0,0,false) ⟨sMp,.inl ⟨rfl,rfl,rfl⟩⟩ ?_ fun y hy=>?_
 ·exact .oA (U1 4096) []
 obtain⟨i,o,t⟩:=y;obtain⟨y1,y2⟩:=hy;dsimp only at y1 y2;refine sD ?_;refine⟨fun h3=>?_,fun h3=>?_⟩
 ·have hi2:i<L.length:=by omega
  have hwi:=qh (i:=i) oM;have hsp:=zx1 (f:=fun x=>upC l x a) (v:=v) hi2;have hbad:=fun e=>zM6 (f:=fun x=>upC l x a) (g:=fun x=>upC l x b) (v:=v) (o:=o) hi2 e;have sU:=fun c=>qa9 l L[i] c;simp only[tZ,↓un_u,simprocAttr,Ax,qd hi2];refine⟨oM,?_⟩;refine C1.im (sU a) rF rF ?_;simp only[tZ,↓un_u,simprocAttr,Bj,Aw,hwi];generalize L[i]=x at hsp hbad sU ⊢
  refine⟨fun h4=>?_,fun h4=>?_⟩
  ·rw[Aq (by rw[AY];exact h4),CW] at hsp;refine⟨(i+1,o,t),⟨by dsimp only;omega,by dsimp only;rw[hsp];exact y2⟩,by dsimp only;omega,?_⟩;exact .oA (U1 4096) []
  ·rw[Aj (AY.2 h4)] at hsp;refine C1.im (sU b) rF rF ?_;simp only[tZ,↓un_u,simprocAttr,tD,Bj,Aw,hwi];refine⟨fun h5=>?_,fun h5=>?_⟩
   ·rw[h5.1] at y2;rw[hbad y2 (AY.2 h4) h5.2];exact .oA [] []
   ·refine⟨(i+1,upC l x b,true),⟨by dsimp only;omega,?_⟩,by dsimp only;omega,?_⟩
    ·dsimp only;rw[hsp];rcases y2 with⟨k1,k2,k3⟩ | ⟨z,r,k1,k2,k3,k4⟩
     ·exact .inr ⟨x,[],by rw[k1];rfl,sMp,rfl,rfl⟩
     ·right
      have hx:upC l x b=o:=by
       rw[k4] at h5;simpa using h5
      refine⟨z,r++[x],by rw[k1];rfl,fun y hy=>?_,by rw[hx,k3],rfl⟩;rcases Dz.1 hy with hy | hy
      ·exact k2 y hy
      ·rw[EZ.1 hy];dsimp only;rw[hx,k3]
    ·exact .oA (U1 4096) []
 ·have hil:i=L.length:=by omega
  subst hil;rw[Bw] at y2;rw[TcI.fin y2];exact .oA [] []
theorem jf8 {s:Sch} (hE:schE s=0) {k:Nat} (hk:k<s.cols.length) (h0:0<k) (h2:(qg s k).kind=2) (x:Int):(qe2 (zd s k) (fun y=>upC (qX s k) y (finI s k)) (fun y=>upC (qX s k) y (finI s k)) x).2=qV s k x:=by
 have hok:=zc hE;obtain⟨_,d2⟩:=hok.cdl hk h2;have hself:∀ y∈zd s k,upC (qX s k) y (finI s k)=y:=fun y hy=>by
  have h3:=Wq hE h0 hk h2 hy;have h4:=Kv h2 d2 hy;have hf:=Ww hE h0 hk;rw[qt,Aq (by rw[Ez,Qr];omega),Ax,Aj h2,Aq (by rw[h4];simp)] at h3;exact h3
 have hl:=yv hok hk h2 (v:=x);unfold qe2;cases hf:(zd s k).filter fun y=>upC (qX s k) y (finI s k)==x with
 | nil=>
   dsimp only
   symm
   rw[Bool.eq_false_iff];intro hh;have hm:=hl.1 hh;have:=List.filter_eq_nil_iff.1 hf x hm;rw[hself x hm] at this;simp at this
 | cons y r=>
   dsimp only;have hy:y∈(zd s k).filter fun y=>upC (qX s k) y (finI s k)==x:=by rw[hf];exact List.mem_cons_self
   obtain⟨hy1,hy2⟩:=Fx.1 hy;rw[hself y hy1,AY] at hy2;subst hy2;rw[Aj,hl.2 hy1];rw[Bk];intro z hz;have hz2:z∈(zd s k).filter fun y'=>upC (qX s k) y' (finI s k)==y:=by rw[hf];exact CQ _ hz
   obtain⟨z1,z2⟩:=Fx.1 hz2;rw[hself z z1,AY] at z2;rw[z2];exact beq_self_eq_true _
theorem qB2 (s:Sch) (hE:schE s=0) (k:Nat) (hk:k<s.cols.length) (h0:0<k) (h2:(qg s k).kind=2) (a v b:Int) (ha:0≤a∧a≤finI s k) (hb:0≤b∧b≤finI s k):Sp 140 [schT s,vI k,vI a,vI v,vI b] []
 (let r:=qe2 (zd s k) (fun x=>upC (qX s k) x a) (fun x=>upC (qX s k) x b) v;.tup [vI (if r.2=true then r.1 else 0),vB r.2]) []:=by
 have hok:=zc hE;have hat:qg s k=s.cols[k]:=by rw[qg,qk hk]
 obtain⟨d1,d2⟩:=hok.cdl hk h2;have hls:zd s k=atL (qX s k) (zA (qX s k)-1):=rfl;have hcd:qX s k=s.lists.getD (qg s k).list.toNat default:=rfl;have hkk:=(zo (hok.cs k hk)).2.2.2.1 h2;have sT:=ZY s hE k;have e1:decide (a<0)=false:=Cq oM;have e2:decide (a>finI s k)=false:=Cq oM;have e3:decide (b<0)=false:=Cq oM;have e4:decide (b>finI s k)=false:=Cq oM;rw[hls];have sC:=qv5 (qX s k) d2 a v b;generalize qe2 (atL (qX s k) (zA (qX s k)-1)) (fun x=>upC (qX s k) x a) (fun x=>upC (qX s k) x b) v=r at sC ⊢
 rw[hat] at d1 h2 hcd hkk;rw[hcd,qk d1] at sC;dsimp only;refine sIr qy9 fun e _ hst=>?_;unfold QD;refine sW ?_;refine C1.im sT rF rF ?_;simp only[tZ,↓un_u,simprocAttr,e1,e2,e3,e4,Ax,qd hk,AY,Ak];generalize s.cols[k]=x at d1 h2 hkk sC ⊢
 refine⟨oM,fun _=>?_,fun h=>absurd h2 h⟩;simp only[tZ,↓un_u,simprocAttr,qd d1];refine⟨oM,?_⟩;refine C1.im sC rF rF ?_;simp only[tZ,↓un_u,simprocAttr,Bx,Bz];refine⟨fun h=>?_,fun h=>?_⟩
 ·rw[h,Aq sMp];exact .oA [] []
 ·rw[h,Aj rfl];exact .oA [] []
theorem KH (s:Sch) (hE:schE s=0) (k:Nat) (hk:k<s.cols.length) (h0:0<k) (h2:(qg s k).kind=2) (x:Int):Sp 139 [vI x,.ip (schT s).cells,.ip [vI k],.ip [vI (finI s k)]] [] (vB (qV s k x)) []:=by
 have hf:=Ww hE h0 hk;have sT:=qB2 s hE k hk h0 h2 (finI s k) x (finI s k) oM oM;dsimp only at sT;rw[jf8 hE hk h0 h2] at sT;refine sIr JG fun e _ hst=>?_;unfold jy;refine sW ?_;refine C1.im sT rF rF ?_;refine sW ?_;exact .oA [] []
theorem Ye (s:Sch) (q:Qst) (hq:QstOk s q) (k:Nat) (hk:k<s.cols.length) (h0:0<k) (h2:(qg s k).kind=2) (lev a b:Int) (hF:FirstV s q k lev a b):Sp 74 [schT s,qstT q,vI k,vI lev] [] (.tup [vI a,vI b]) []:=by
 have hE:=hq.sch;have hok:=zc hE;have hs:=hok.sm;have hat:qg s k=s.cols[k]:=by rw[qg,qk hk]
 obtain⟨d1,d2⟩:=hok.cdl hk h2;obtain⟨_,d5,d6⟩:=zq d2;have hcd:qX s k=s.lists.getD (qg s k).list.toNat default:=rfl;have hkk:=(zo (hok.cs k hk)).2.2.2.1 h2;have sF:=yq s hs k;have sL:=KH s hE k hk h0 h2;have sC:=fun v=>ZZ s hs k lev v;have sT:=fun x y=>WH s hok q hq.nd hq.nt (qV7 hq) k x y;have hcode:∀ v,qV s k v=true→∃ c:Nat,v=c∧c<(qX s k).codes.length:=fun v hv=>by
  obtain⟨c,e,c1,_⟩:=(Qe hok hk h2).1 ((yv hok hk h2).1 hv);exact⟨c,e,c1⟩
 rw[hat] at d1 hcd hkk;rw[hcd,qk d1] at hcode d6;obtain⟨A,rfl,hA⟩:=hcode a hF.hx;obtain⟨B,rfl,hB⟩:=hcode b hF.hy;have hAB:=hF.lt;refine sIr KT fun e _ hst=>?_;unfold jL;simp only[tZ,↓un_u,simprocAttr,Ax,qd hk];generalize s.cols[k]=x at d1 hkk hcode d6 hA hB ⊢
 simp only[tZ,↓un_u,simprocAttr,qd d1];refine⟨oM,oM,kR,?_⟩;generalize s.lists[x.list.toNat]=l at hcode d6 hA hB ⊢
 refine C1.im sF rF rF ?_;refine sW ?_;refine qy mixm (α:=Nat) [32] (fun i=>i≤A) (fun i=>[(32,vI i)]) (fun i=>[aR 4096 2 [schT s],aR 4100 17 [qstT q],aR 4104 1 [vI k],aR 12300 1 [vI (finI s k)]]) (fun i=>A-i) 0 oM ?_ fun i hi=>?_
 ·exact .oA (U4 4096 4100 4104 12300) []
 have hwi:=qh (i:=i) oM;simp only[tZ,↓un_u,simprocAttr,tD,hwi];refine⟨fun h3=>?_,fun h3=>by omega⟩;refine qy mixm (α:=Nat) [14] (fun j=>i+1≤j∧j≤l.codes.length∧(i=A→j≤B)) (fun j=>[(14,vI j)]) (fun j=>[aR 4096 2 [schT s],aR 4100 17 [qstT q],aR 4104 1 [vI k],aR 12300 1 [vI (finI s k)]]) (fun j=>l.codes.length-j) (i+1) ⟨oM,oM,oM⟩ ?_ fun j hj=>?_
 ·exact .oA (U4 4096 4100 4104 12300) []
 obtain⟨j1,j2,j3⟩:=hj;have hwj:=qh (i:=j) oM;refine sW ?_;refine C2.lend [4096,4104,12300] (fun _=>sL i) (fun _=>?_) rF rF ?_
 ·all_goals (try simp only[tL,simprocAttr,By,List.map_cons,List.map_nil,BW,Cy])
  all_goals (try (repeat' (first | exact qY | (apply zf;intro _;exact⟨rfl,rfl⟩) | (apply qj;intro _;exact⟨rfl,rfl⟩) | with_reducible apply qS | with_reducible refine qz ⟨rfl,rfl⟩ ?_ | exact qK | with_reducible apply qR | with_reducible refine qT ⟨rfl,rfl,?_⟩ ?_ | with_reducible apply Az | exact qO rfl | exact qO (by assumption) | (refine⟨⟨?_,rfl,?_,rfl,?_⟩,trivial⟩ <;> first | (simp;done) | (apply qj;intro _;exact⟨rfl,rfl⟩)) | trivial | rfl | (rw[qh oM]) | omega)))
  all_goals (simp only[ltP];exact⟨rfl,by decide,rfl,qz ⟨rfl,rfl⟩ qK⟩)
 refine sD ?_;refine⟨fun h5=>?_,fun h5=>?_⟩
 ·refine C1.lend [4096,4104,12300] (sL j) ?_ rF rF ?_
  ·all_goals (try simp only[tL,simprocAttr,By,List.map_cons,List.map_nil,BW,Cy])
   all_goals (try (repeat' (first | exact qY | (apply zf;intro _;exact⟨rfl,rfl⟩) | (apply qj;intro _;exact⟨rfl,rfl⟩) | with_reducible apply qS | with_reducible refine qz ⟨rfl,rfl⟩ ?_ | exact qK | with_reducible apply qR | with_reducible refine qT ⟨rfl,rfl,?_⟩ ?_ | with_reducible apply Az | exact qO rfl | exact qO (by assumption) | (refine⟨⟨?_,rfl,?_,rfl,?_⟩,trivial⟩ <;> first | (simp;done) | (apply qj;intro _;exact⟨rfl,rfl⟩)) | trivial | rfl | (rw[qh oM]) | omega)))
   all_goals (simp only[ltP];exact⟨rfl,by decide,rfl,qz ⟨rfl,rfl⟩ qK⟩)
  refine sW ?_;refine C2.im (fun _=>sC i) (fun _=>rfl) rF ?_;refine sW ?_;refine C2.im (fun _=>sC j) (fun _=>rfl) rF ?_;refine sW ?_;refine C2.im (fun _=>sT i j) (fun _=>rfl) rF ?_;simp only[tZ,↓un_u,simprocAttr,hwj,tD,AY,Ak];have hq2:∀ h1:qV s k i=true,(qV s k j=true∧qt s k lev i=qt s k lev j)∧jT s q k i j=true→A=i∧B=j:=fun h1 h2=>by
   have:=hF.least i j h1 h2.1.1 oM ⟨h2.1.2,h2.2⟩;have hiA:A=i:=by omega
   have:=j3 hiA.symm;omega
  refine⟨kR,fun h6=>?_,fun h6=>?_⟩
  ·obtain⟨e1,e2⟩:=hq2 h5.2 h6;rw[e1,e2];exact .oA [] []
  ·refine⟨j+1,⟨oM,oM,fun e=>?_⟩,oM,?_⟩
   ·have h7:=j3 e;refine AQ fun hn=>?_;have hjB:j=B:=by omega
    subst hjB;subst e;have:=hF.qb;have hy:=hF.hy;have h8:¬ ((qV s k j=true∧qt s k lev i=qt s k lev j)∧jT s q k i j=true):=fun h=>by
     rcases h6 with h6 | h6
     ·rcases h6 with h6 | h6
      ·rw[h6] at hy;cases hy
      ·exact h6 h.1.2
     ·rw[h6] at h;cases h.2
    exact h8 ⟨⟨hy,this.1⟩,this.2⟩
   ·exact .oA (U4 4096 4100 4104 12300) []
 ·rw[hwi];have hlt:i+1≤A:=by
   refine AQ fun hn=>?_;have hiA:i=A:=by omega
   have h7:=j3 hiA;have hx:=hF.hx;rw[hiA] at h5;rcases h5 with h5 | h5
   ·omega
   ·rw[h5] at hx;cases hx
  refine⟨i+1,hlt,oM,?_⟩;exact .oA (U4 4096 4100 4104 12300) []
theorem qd0 (p:Pk) (k:Int):Sp 71 [pkT p,.ip [vI k]] [] (vB (p.col==k)) []:=by
 refine sIr Yx fun e _ hst=>?_;unfold kD;refine sW ?_;exact .oA [] []
theorem Js {f:Nat→Int} {n:Nat} {p:Pk} (h:p∈canF f n):0<p.lev∧p.lev=f p.col.toNat∧0≤p.col∧p.col<n:=by
 obtain⟨k,k1,k2,rfl⟩:=yr.1 h;exact⟨k2,rfl,by dsimp only;omega,by dsimp only;omega⟩
theorem jf9 {s:Sch} {q:Qst} (h:qstE s q=0) {k:Nat} (hk:k<s.cols.length) {lev:Int} (hl:0<lev):(kM s q).any (fun p=>eqPk p ⟨k,lev⟩)=true↔mxl (kM s q) k=lev:=by
 rw[YV h hk,KC h,DJ];constructor
 ·rintro ⟨p,hp,e⟩;rw[qC2] at e;subst e;have:=(Js hp).2.1;rw[Ax] at this;exact this.symm
 ·intro e;exact⟨⟨k,lev⟩,yr.2 ⟨k,hk,oM,by rw[e]⟩,qC2.2 rfl⟩
end Go.Proofs
